/- Passes, of the program and of the document. -/
import Derived.Test.YtmcccfocacagjaaSNats
import Derived.Test.YtmcccfocacagjaaRef
import Derived.Deep.RegionHeld3
namespace Go.Proofs.Ytmcccfocacagjaa
open Go.RowKit
set_option linter.unusedSimpArgs false
def passB (C : Cv) (l : List Nat) : Bool := chk C && decide (C.pass ≤ (ptsF (meanF l) : Int))
set_option maxRecDepth 100000 in
set_option maxHeartbeats 4000000 in
theorem passes_any (C : Cv) (a : Option Addr) (len cap : Nat) (l : List Nat) (w : World) (h : Good w C) (hr : ReadsF w a len cap l) (hl : len ≤ 1000) :
    Calls Try.prog 18 #[.agg C.cells, .slice a len cap] w fun e w' => e = .returned (.bool (passB C l)) ∧ Below w.heap.size w w' := by
  have HG := Lib.hid h
  have HR := Lib.hid hr
  have HM : Hid (meanF l < 18446744073709551616) := by
    show _ < _
    have := meanF_le l (by rw [hr.length]; exact hl)
    unfold ONE at this; omega
  clear h hr
  have hBc := heap_alloc_new w (Obj.cells C.cells 24)
  have hL : ∀ W, Below (w.alloc (Obj.cells C.cells 24)).heap.size (w.alloc (Obj.cells C.cells 24)) W → W.cell? ⟨w.heap.size, 0, none⟩ = some (.int .i64 C.nodes) ∧ W.cell? ⟨w.heap.size, 1, none⟩ = some (.int .i64 C.slots) ∧ W.cell? ⟨w.heap.size, 2, none⟩ = some (.int .i64 C.rho) ∧ W.cell? ⟨w.heap.size, 3, none⟩ = some (.int .i64 C.hold) ∧ W.cell? ⟨w.heap.size, 4, none⟩ = some (.int .i64 C.grant) ∧ W.cell? ⟨w.heap.size, 5, none⟩ = some (.int .i64 C.guard) ∧ W.cell? ⟨w.heap.size, 6, none⟩ = some (.int .i64 C.work) ∧ W.cell? ⟨w.heap.size, 7, none⟩ = some (.slice C.sa C.sn C.sc) ∧ W.cell? ⟨w.heap.size, 8, none⟩ = some (.slice C.na C.nn C.nc) ∧ W.cell? ⟨w.heap.size, 9, none⟩ = some (.int .i64 C.soak) ∧ W.cell? ⟨w.heap.size, 10, none⟩ = some (.int .i64 C.pass) := fun W h => cfg_cells2 ((h.block _ (lt_of_block hBc)).trans hBc)
  have FG : Hid (∀ W, Below (w.alloc (Obj.cells C.cells 24)).heap.size (w.alloc (Obj.cells C.cells 24)) W → Good W C) := fun W h => (HG.out.below (bnew (brefl w) _)).below h
  have FR : Hid (∀ W, Below (w.alloc (Obj.cells C.cells 24)).heap.size (w.alloc (Obj.cells C.cells 24)) W → ReadsF W a len cap l) := fun W h => (HR.out.below (bnew (brefl w) _)).below h
  have FB : Hid (∀ W, Below (w.alloc (Obj.cells C.cells 24)).heap.size (w.alloc (Obj.cells C.cells 24)) W → Below w.heap.size w W) := fun W h => bnext (bnew (brefl w) _) h
  obtain ⟨p, hp⟩ : ∃ p, ptsF (meanF l) = p := ⟨_, rfl⟩
  have HP := Lib.hid hp
  clear hp hBc
  by_cases hc : chk C = true
  · have HK : Hid (chkI C = 0) := by show chkI C = 0; unfold chkI; rw [if_pos hc]
    have HE : Hid (passB C l = decide (C.pass ≤ (p : Int))) := by show _ = _; unfold passB; rw [hc, HP.out]; rfl
    clear hc
    go_enter Try.func18, Try.ntmps18
    go_wp2_with fail
    generalize (w.alloc (Obj.cells C.cells 24)) = X at *
    have hS : Below X.heap.size X X := Below.refl _ _
    go_region_held3 (fun W : World => Below X.heap.size X W) (first | assumption | exact hS.drew | exact bnext (by assumption) hY) (first
      | (go_at_call 16; with_reducible refine (check_any C _ (FG.out _ (by assumption))).mono ?_; rintro e wY ⟨rfl, hY⟩; rw [HK.out])
      | (go_at_call 34; with_reducible refine (mean_any a len cap l _ (FR.out _ (by assumption)) hl).mono ?_; rintro e wZ ⟨rfl, rfl⟩)
      | (go_at_call 19; with_reducible refine (points_any (meanF l) _ HM.out).mono ?_; rintro e wZ ⟨rfl, rfl⟩; rw [HP.out]))
    all_goals
      go_wp2_with fail
      go_ret
      exact ⟨retb (by rw [HE.out]), FB.out _ (by assumption)⟩
  · have HK : Hid (chkI C = 90) := by show chkI C = 90; unfold chkI; rw [if_neg hc]
    have HE : Hid (passB C l = false) := by show _ = _; unfold passB; rw [Bool.not_eq_true] at hc; rw [hc]; rfl
    clear hc
    go_enter Try.func18, Try.ntmps18
    go_wp2_with fail
    generalize (w.alloc (Obj.cells C.cells 24)) = X at *
    have hS : Below X.heap.size X X := Below.refl _ _
    refine wp_region_held_drew (S := fun W : World => Below X.heap.size X W) (by kernel_rfl) hS.drew (fun hHeld => ?_)
    refine wpAnyH_take (i := 0) rfl (by kernel_rfl) (by kernel_rfl) (by kernel_rfl) (fun _ _ _ h => h) (v := .agg C.cells) (Or.inl ⟨by rfl, fun W hW => ?_⟩) hHeld ?_
    · go_simp
    try simp only [Act.put, List.getElem_toArray, List.getElem_cons_zero, List.getElem_cons_succ, List.setIfInBounds_toArray, List.set_cons_zero, List.set_cons_succ]
    refine wpAnyH_ready (rs := [1]) (by kernel_rfl) (by simp) (AllReadyH.cons rfl (fun K hK => ?_) AllReadyH.nil)
    go_simp
    go_at_call 16
    refine (check_any C _ (FG.out _ hHeld)).mono ?_
    rintro e wY ⟨rfl, hY⟩
    rw [HK.out]
    refine hK.out _ _ (bnext hHeld hY) (fun hHeld => ?_)
    try simp only [Act.put, List.getElem_toArray, List.getElem_cons_zero, List.getElem_cons_succ, List.setIfInBounds_toArray, List.set_cons_zero, List.set_cons_succ]
    refine wpAnyH_take (i := 2) rfl (by kernel_rfl) (by kernel_rfl) (by kernel_rfl) (fun _ _ _ h => h) (v := .bool false) (Or.inl ⟨by rfl, fun W hW => ?_⟩) hHeld ?_
    · go_simp
    try simp only [Act.put, List.getElem_toArray, List.getElem_cons_zero, List.getElem_cons_succ, List.setIfInBounds_toArray, List.set_cons_zero, List.set_cons_succ]
    refine wpAnyH_take (i := 3) rfl (by kernel_rfl) (by kernel_rfl) (by kernel_rfl) (fun _ _ _ h => h) (v := .bool false) (Or.inl ⟨by rfl, fun W hW => ?_⟩) hHeld ?_
    · go_simp
    try simp only [Act.put, List.getElem_toArray, List.getElem_cons_zero, List.getElem_cons_succ, List.setIfInBounds_toArray, List.set_cons_zero, List.set_cons_succ]
    refine wpAnyH_take (i := 4) rfl (by kernel_rfl) (by kernel_rfl) (by kernel_rfl) (fun _ _ _ h => h) (v := undef) (Or.inr ⟨by rfl, rfl⟩) hHeld ?_
    try simp only [Act.put, List.getElem_toArray, List.getElem_cons_zero, List.getElem_cons_succ, List.setIfInBounds_toArray, List.set_cons_zero, List.set_cons_succ]
    refine wpAnyH_take (i := 5) rfl (by kernel_rfl) (by kernel_rfl) (by kernel_rfl) (fun _ _ _ h => h) (v := undef) (Or.inr ⟨by rfl, rfl⟩) hHeld ?_
    try simp only [Act.put, List.getElem_toArray, List.getElem_cons_zero, List.getElem_cons_succ, List.setIfInBounds_toArray, List.set_cons_zero, List.set_cons_succ]
    refine wpAnyH_take (i := 6) rfl (by kernel_rfl) (by kernel_rfl) (by kernel_rfl) (fun _ _ _ h => h) (v := undef) (Or.inr ⟨by rfl, rfl⟩) hHeld ?_
    try simp only [Act.put, List.getElem_toArray, List.getElem_cons_zero, List.getElem_cons_succ, List.setIfInBounds_toArray, List.set_cons_zero, List.set_cons_succ]
    refine wpAnyH_take (i := 7) rfl (by kernel_rfl) (by kernel_rfl) (by kernel_rfl) (fun _ _ _ h => h) (v := undef) (Or.inr ⟨by rfl, rfl⟩) hHeld ?_
    try simp only [Act.put, List.getElem_toArray, List.getElem_cons_zero, List.getElem_cons_succ, List.setIfInBounds_toArray, List.set_cons_zero, List.set_cons_succ]
    refine wpAnyH_take (i := 8) rfl (by kernel_rfl) (by kernel_rfl) (by kernel_rfl) (fun _ _ _ h => h) (v := undef) (Or.inr ⟨by rfl, rfl⟩) hHeld ?_
    try simp only [Act.put, List.getElem_toArray, List.getElem_cons_zero, List.getElem_cons_succ, List.setIfInBounds_toArray, List.set_cons_zero, List.set_cons_succ]
    refine wpAnyH_take (i := 9) rfl (by kernel_rfl) (by kernel_rfl) (by kernel_rfl) (fun _ _ _ h => h) (v := undef) (Or.inr ⟨by rfl, rfl⟩) hHeld ?_
    try simp only [Act.put, List.getElem_toArray, List.getElem_cons_zero, List.getElem_cons_succ, List.setIfInBounds_toArray, List.set_cons_zero, List.set_cons_succ]
    refine wpAnyH_take (i := 10) rfl (by kernel_rfl) (by kernel_rfl) (by kernel_rfl) (fun _ _ _ h => h) (v := .bool false) (Or.inl ⟨by rfl, fun W hW => ?_⟩) hHeld ?_
    · go_simp
    try simp only [Act.put, List.getElem_toArray, List.getElem_cons_zero, List.getElem_cons_succ, List.setIfInBounds_toArray, List.set_cons_zero, List.set_cons_succ]
    refine wpAnyH_take (i := 11) rfl (by kernel_rfl) (by kernel_rfl) (by kernel_rfl) (fun _ _ _ h => h) (v := .bool false) (Or.inl ⟨by rfl, fun W hW => ?_⟩) hHeld ?_
    · go_simp
    try simp only [Act.put, List.getElem_toArray, List.getElem_cons_zero, List.getElem_cons_succ, List.setIfInBounds_toArray, List.set_cons_zero, List.set_cons_succ]
    refine wpAnyH_done (by kernel_rfl) ?_ _
    go_wp2_with fail
    go_ret
    exact ⟨retb (by rw [HE.out]), FB.out _ hHeld⟩
set_option maxRecDepth 100000 in
set_option maxHeartbeats 4000000 in
theorem rpasses_any (C : Cv) (a : Option Addr) (len cap : Nat) (l : List Nat) (w : World) (h : Good w C) (hr : ReadsF w a len cap l) (hl : len ≤ 1000) :
    Calls Try.prog 37 #[.agg C.cells, .slice a len cap] w fun e w' => e = .returned (.bool (passB C l)) ∧ Below w.heap.size w w' := by
  have HG := Lib.hid h
  have HR := Lib.hid hr
  have HM : Hid (meanF l < 18446744073709551616) := by
    show _ < _
    have := meanF_le l (by rw [hr.length]; exact hl)
    unfold ONE at this; omega
  clear h hr
  have hBc := heap_alloc_new w (Obj.cells C.cells 24)
  have hL : ∀ W, Below (w.alloc (Obj.cells C.cells 24)).heap.size (w.alloc (Obj.cells C.cells 24)) W → W.cell? ⟨w.heap.size, 0, none⟩ = some (.int .i64 C.nodes) ∧ W.cell? ⟨w.heap.size, 1, none⟩ = some (.int .i64 C.slots) ∧ W.cell? ⟨w.heap.size, 2, none⟩ = some (.int .i64 C.rho) ∧ W.cell? ⟨w.heap.size, 3, none⟩ = some (.int .i64 C.hold) ∧ W.cell? ⟨w.heap.size, 4, none⟩ = some (.int .i64 C.grant) ∧ W.cell? ⟨w.heap.size, 5, none⟩ = some (.int .i64 C.guard) ∧ W.cell? ⟨w.heap.size, 6, none⟩ = some (.int .i64 C.work) ∧ W.cell? ⟨w.heap.size, 7, none⟩ = some (.slice C.sa C.sn C.sc) ∧ W.cell? ⟨w.heap.size, 8, none⟩ = some (.slice C.na C.nn C.nc) ∧ W.cell? ⟨w.heap.size, 9, none⟩ = some (.int .i64 C.soak) ∧ W.cell? ⟨w.heap.size, 10, none⟩ = some (.int .i64 C.pass) := fun W h => cfg_cells2 ((h.block _ (lt_of_block hBc)).trans hBc)
  have FG : Hid (∀ W, Below (w.alloc (Obj.cells C.cells 24)).heap.size (w.alloc (Obj.cells C.cells 24)) W → Good W C) := fun W h => (HG.out.below (bnew (brefl w) _)).below h
  have FR : Hid (∀ W, Below (w.alloc (Obj.cells C.cells 24)).heap.size (w.alloc (Obj.cells C.cells 24)) W → ReadsF W a len cap l) := fun W h => (HR.out.below (bnew (brefl w) _)).below h
  have FB : Hid (∀ W, Below (w.alloc (Obj.cells C.cells 24)).heap.size (w.alloc (Obj.cells C.cells 24)) W → Below w.heap.size w W) := fun W h => bnext (bnew (brefl w) _) h
  obtain ⟨p, hp⟩ : ∃ p, ptsF (meanF l) = p := ⟨_, rfl⟩
  have HP := Lib.hid hp
  clear hp hBc
  by_cases hc : chk C = true
  · have HK : Hid (chkI C = 0) := by show chkI C = 0; unfold chkI; rw [if_pos hc]
    have HE : Hid (passB C l = decide (C.pass ≤ (p : Int))) := by show _ = _; unfold passB; rw [hc, HP.out]; rfl
    clear hc
    go_enter Try.func37, Try.ntmps37
    go_wp2_with fail
    generalize (w.alloc (Obj.cells C.cells 24)) = X at *
    have hS : Below X.heap.size X X := Below.refl _ _
    go_region_held3 (fun W : World => Below X.heap.size X W) (first | assumption | exact hS.drew | exact bnext (by assumption) hY) (first
      | (go_at_call 53; with_reducible refine (rcheck_any C _ (FG.out _ (by assumption))).mono ?_; rintro e wY ⟨rfl, hY⟩; rw [HK.out])
      | (go_at_call 35; with_reducible refine (rmean_any a len cap l _ (FR.out _ (by assumption)) hl).mono ?_; rintro e wZ ⟨rfl, rfl⟩)
      | (go_at_call 27; with_reducible refine (rpoints_any (meanF l) _ HM.out).mono ?_; rintro e wZ ⟨rfl, rfl⟩; rw [HP.out]))
    all_goals
      go_wp2_with fail
      go_ret
      exact ⟨retb (by rw [HE.out]), FB.out _ (by assumption)⟩
  · have HK : Hid (chkI C = 90) := by show chkI C = 90; unfold chkI; rw [if_neg hc]
    have HE : Hid (passB C l = false) := by show _ = _; unfold passB; rw [Bool.not_eq_true] at hc; rw [hc]; rfl
    clear hc
    go_enter Try.func37, Try.ntmps37
    go_wp2_with fail
    generalize (w.alloc (Obj.cells C.cells 24)) = X at *
    have hS : Below X.heap.size X X := Below.refl _ _
    refine wp_region_held_drew (S := fun W : World => Below X.heap.size X W) (by kernel_rfl) hS.drew (fun hHeld => ?_)
    refine wpAnyH_take (i := 0) rfl (by kernel_rfl) (by kernel_rfl) (by kernel_rfl) (fun _ _ _ h => h) (v := .agg C.cells) (Or.inl ⟨by rfl, fun W hW => ?_⟩) hHeld ?_
    · go_simp
    try simp only [Act.put, List.getElem_toArray, List.getElem_cons_zero, List.getElem_cons_succ, List.setIfInBounds_toArray, List.set_cons_zero, List.set_cons_succ]
    refine wpAnyH_ready (rs := [1]) (by kernel_rfl) (by simp) (AllReadyH.cons rfl (fun K hK => ?_) AllReadyH.nil)
    go_simp
    go_at_call 53
    refine (rcheck_any C _ (FG.out _ hHeld)).mono ?_
    rintro e wY ⟨rfl, hY⟩
    rw [HK.out]
    refine hK.out _ _ (bnext hHeld hY) (fun hHeld => ?_)
    try simp only [Act.put, List.getElem_toArray, List.getElem_cons_zero, List.getElem_cons_succ, List.setIfInBounds_toArray, List.set_cons_zero, List.set_cons_succ]
    refine wpAnyH_take (i := 2) rfl (by kernel_rfl) (by kernel_rfl) (by kernel_rfl) (fun _ _ _ h => h) (v := .bool false) (Or.inl ⟨by rfl, fun W hW => ?_⟩) hHeld ?_
    · go_simp
    try simp only [Act.put, List.getElem_toArray, List.getElem_cons_zero, List.getElem_cons_succ, List.setIfInBounds_toArray, List.set_cons_zero, List.set_cons_succ]
    refine wpAnyH_take (i := 3) rfl (by kernel_rfl) (by kernel_rfl) (by kernel_rfl) (fun _ _ _ h => h) (v := .bool false) (Or.inl ⟨by rfl, fun W hW => ?_⟩) hHeld ?_
    · go_simp
    try simp only [Act.put, List.getElem_toArray, List.getElem_cons_zero, List.getElem_cons_succ, List.setIfInBounds_toArray, List.set_cons_zero, List.set_cons_succ]
    refine wpAnyH_take (i := 4) rfl (by kernel_rfl) (by kernel_rfl) (by kernel_rfl) (fun _ _ _ h => h) (v := undef) (Or.inr ⟨by rfl, rfl⟩) hHeld ?_
    try simp only [Act.put, List.getElem_toArray, List.getElem_cons_zero, List.getElem_cons_succ, List.setIfInBounds_toArray, List.set_cons_zero, List.set_cons_succ]
    refine wpAnyH_take (i := 5) rfl (by kernel_rfl) (by kernel_rfl) (by kernel_rfl) (fun _ _ _ h => h) (v := undef) (Or.inr ⟨by rfl, rfl⟩) hHeld ?_
    try simp only [Act.put, List.getElem_toArray, List.getElem_cons_zero, List.getElem_cons_succ, List.setIfInBounds_toArray, List.set_cons_zero, List.set_cons_succ]
    refine wpAnyH_take (i := 6) rfl (by kernel_rfl) (by kernel_rfl) (by kernel_rfl) (fun _ _ _ h => h) (v := undef) (Or.inr ⟨by rfl, rfl⟩) hHeld ?_
    try simp only [Act.put, List.getElem_toArray, List.getElem_cons_zero, List.getElem_cons_succ, List.setIfInBounds_toArray, List.set_cons_zero, List.set_cons_succ]
    refine wpAnyH_take (i := 7) rfl (by kernel_rfl) (by kernel_rfl) (by kernel_rfl) (fun _ _ _ h => h) (v := undef) (Or.inr ⟨by rfl, rfl⟩) hHeld ?_
    try simp only [Act.put, List.getElem_toArray, List.getElem_cons_zero, List.getElem_cons_succ, List.setIfInBounds_toArray, List.set_cons_zero, List.set_cons_succ]
    refine wpAnyH_take (i := 8) rfl (by kernel_rfl) (by kernel_rfl) (by kernel_rfl) (fun _ _ _ h => h) (v := undef) (Or.inr ⟨by rfl, rfl⟩) hHeld ?_
    try simp only [Act.put, List.getElem_toArray, List.getElem_cons_zero, List.getElem_cons_succ, List.setIfInBounds_toArray, List.set_cons_zero, List.set_cons_succ]
    refine wpAnyH_take (i := 9) rfl (by kernel_rfl) (by kernel_rfl) (by kernel_rfl) (fun _ _ _ h => h) (v := undef) (Or.inr ⟨by rfl, rfl⟩) hHeld ?_
    try simp only [Act.put, List.getElem_toArray, List.getElem_cons_zero, List.getElem_cons_succ, List.setIfInBounds_toArray, List.set_cons_zero, List.set_cons_succ]
    refine wpAnyH_take (i := 10) rfl (by kernel_rfl) (by kernel_rfl) (by kernel_rfl) (fun _ _ _ h => h) (v := .bool false) (Or.inl ⟨by rfl, fun W hW => ?_⟩) hHeld ?_
    · go_simp
    try simp only [Act.put, List.getElem_toArray, List.getElem_cons_zero, List.getElem_cons_succ, List.setIfInBounds_toArray, List.set_cons_zero, List.set_cons_succ]
    refine wpAnyH_take (i := 11) rfl (by kernel_rfl) (by kernel_rfl) (by kernel_rfl) (fun _ _ _ h => h) (v := .bool false) (Or.inl ⟨by rfl, fun W hW => ?_⟩) hHeld ?_
    · go_simp
    try simp only [Act.put, List.getElem_toArray, List.getElem_cons_zero, List.getElem_cons_succ, List.setIfInBounds_toArray, List.set_cons_zero, List.set_cons_succ]
    refine wpAnyH_done (by kernel_rfl) ?_ _
    go_wp2_with fail
    go_ret
    exact ⟨retb (by rw [HE.out]), FB.out _ hHeld⟩
end Go.Proofs.Ytmcccfocacagjaa
