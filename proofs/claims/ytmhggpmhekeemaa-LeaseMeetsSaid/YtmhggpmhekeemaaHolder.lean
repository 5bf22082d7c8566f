/- Holder. -/
import Derived.Test.YtmhggpmhekeemaaGFree
import Derived.Deep.RegionHeld3
namespace Go.Proofs.Ytmhggpmhekeemaa
open Go.RowKit
set_option linter.unusedSimpArgs false
/-- Who has a slot. -/
def holdG (C : Cv) (n : Nat) (gs : List G3) (slot now : Int) : Int :=
  if mayB C n slot = true ∧ freeB C (gs.getD slot.toNat gnone).since now = false then (gs.getD slot.toNat gnone).node else -1
set_option maxRecDepth 100000 in
set_option maxHeartbeats 4000000 in
theorem holder_any (C : Cv) (boot : Int) (ad : Option Addr) (n cap : Nat) (gs : List G3) (slot now : Int) (w : World) (h : Good w C) (ha : Acc w ad n cap gs) :
    Calls Try.prog 21 #[.agg C.cells, .agg #[.int .i64 boot, .slice ad n cap], .int .i64 slot, .int .i64 now] w fun e w' => e = .returned (.int .i64 (holdG C n gs slot now)) ∧ Below w.heap.size w w' := by
  have HG := Lib.hid h
  have HA := Lib.hid ha
  by_cases hm : mayB C n slot = true
  · have hmm : chk C = true ∧ ((n : Int) = C.slots ∧ 0 ≤ slot ∧ slot < C.slots) := by unfold mayB at hm; simpa using hm
    obtain ⟨hck, hns, hs0, hs1⟩ := hmm
    obtain ⟨k, rfl⟩ := Int.eq_ofNat_of_zero_le hs0
    have hk : k < n := by omega
    have hn20 := ha.few
    obtain ⟨b, rfl, _⟩ := ha.cell hk
    obtain ⟨gn, gc, gi, hG⟩ : ∃ gn gc gi, gs.getD k gnone = ⟨gn, gc, gi⟩ := ⟨_, _, _, rfl⟩
    have HM := Lib.hid hm
    have HGG := Lib.hid hG
    obtain ⟨y, hy⟩ : ∃ y, freeB C gi now = y := ⟨_, rfl⟩
    have HF := Lib.hid hy
    have HQ : Hid (holdG C n gs k now = if y = false then gn else -1) := by
      show _ = _; unfold holdG; rw [show ((k : Int)).toNat = k by omega, hG]
      cases y
      · rw [if_pos ⟨hm, hy⟩]; rfl
      · rw [if_neg (by rintro ⟨_, g⟩; have g' : freeB C gi now = false := g; rw [hy] at g'; cases g')]; rfl
    clear ha hns hs1 hm hG h hy
    have HBX : Hid (((w.alloc (Obj.cells C.cells 24)).alloc (Obj.cells #[Value.int IntKind.i64 boot, Value.slice (some ⟨b, 0, none⟩) n cap] 30)).heap[w.heap.size]? = some (.cells C.cells 24 (0, 0))) := heap_alloc2_old _ _ _
    have HAX : Hid (((w.alloc (Obj.cells C.cells 24)).alloc (Obj.cells #[Value.int IntKind.i64 boot, Value.slice (some ⟨b, 0, none⟩) n cap] 30)).heap[w.heap.size + 1]? = some (.cells #[.int .i64 boot, .slice (some ⟨b, 0, none⟩) n cap] 30 (0, 0))) := heap_alloc2_new _ _ _
    have HbX : Hid (Below w.heap.size w ((w.alloc (Obj.cells C.cells 24)).alloc (Obj.cells #[Value.int IntKind.i64 boot, Value.slice (some ⟨b, 0, none⟩) n cap] 30))) := bnew (bnew (brefl w) _) _
    have hlen : (k : Int) < n := by omega
    go_enter Try.func21, Try.ntmps21
    go_wp2_with fail
    generalize ((w.alloc (Obj.cells C.cells 24)).alloc (Obj.cells #[Value.int IntKind.i64 boot, Value.slice (some ⟨b, 0, none⟩) n cap] 30)) = X at *
    have hL : ∀ W, Below X.heap.size X W → W.cell? ⟨w.heap.size, 0, none⟩ = some (.int .i64 C.nodes) ∧ W.cell? ⟨w.heap.size, 1, none⟩ = some (.int .i64 C.slots) ∧ W.cell? ⟨w.heap.size, 2, none⟩ = some (.int .i64 C.rho) ∧ W.cell? ⟨w.heap.size, 3, none⟩ = some (.int .i64 C.hold) ∧ W.cell? ⟨w.heap.size, 4, none⟩ = some (.int .i64 C.grant) ∧ W.cell? ⟨w.heap.size, 5, none⟩ = some (.int .i64 C.guard) ∧ W.cell? ⟨w.heap.size, 6, none⟩ = some (.int .i64 C.work) ∧ W.cell? ⟨w.heap.size, 7, none⟩ = some (.slice C.sa C.sn C.sc) ∧ W.cell? ⟨w.heap.size, 8, none⟩ = some (.slice C.na C.nn C.nc) ∧ W.cell? ⟨w.heap.size, 9, none⟩ = some (.int .i64 C.soak) ∧ W.cell? ⟨w.heap.size, 10, none⟩ = some (.int .i64 C.pass) := fun W h => cfg_cells2 ((h.block _ (lt_of_block HBX.out)).trans HBX.out)
    have hL2 : ∀ W, Below X.heap.size X W → W.cell? ⟨w.heap.size + 1, 0, none⟩ = some (.int .i64 boot) ∧ W.cell? ⟨w.heap.size + 1, 1, none⟩ = some (.slice (some ⟨b, 0, none⟩) n cap) := fun W h => acc_cells ((h.block _ (lt_of_block HAX.out)).trans HAX.out)
    have FG : Hid (∀ W, Below X.heap.size X W → Good W C) := fun W h => (HG.out.below HbX.out).below h
    have hS : Below X.heap.size X X := Below.refl _ _
    have hL3 : ∀ W, Below X.heap.size X W → W.cell? ⟨b, k * 3, none⟩ = some (.int .i64 gn) ∧ W.cell? ⟨b, k * 3 + 1, none⟩ = some (.int .i64 gc) ∧ W.cell? ⟨b, k * 3 + 2, none⟩ = some (.int .i64 gi) := fun W h => by
      obtain ⟨b', hb', c0, c1, c2⟩ := ((HA.out.below HbX.out).below h).cell hk
      cases hb'
      rw [HGG.out] at c0 c1 c2
      exact ⟨c0, c1, c2⟩
    cases y
    all_goals
      go_region_held3 (fun W : World => Below X.heap.size X W) (first | assumption | exact hS.drew | exact bnext (by assumption) hY) (first
        | (go_at_call 41; with_reducible refine (amay_any C boot _ n cap _ _ (FG.out _ (by assumption))).mono ?_; rintro e wY ⟨rfl, hY⟩; rw [HM.out])
        | (go_at_call 42; with_reducible refine (free_any C gi now _ (FG.out _ (by assumption))).mono ?_; rintro e wY ⟨rfl, hY⟩; rw [HF.out]))
      all_goals
        have hYY := hL2 _ (by assumption)
        have hZZ := hL3 _ (by assumption)
        obtain ⟨u0, u1⟩ := hYY
        obtain ⟨q0, q1, q2⟩ := hZZ
        go_wp2_with fail
        go_ret
        exact ⟨ret_int (by rw [HQ.out]; rfl), bnext HbX.out (by assumption)⟩
  · have HQ : Hid (holdG C n gs slot now = -1) := by show _ = _; unfold holdG; rw [if_neg (by rintro ⟨g, _⟩; exact hm g)]
    have HM : Hid (mayB C n slot = false) := by show _ = _; simpa using hm
    clear ha hm h
    have HBX : Hid (((w.alloc (Obj.cells C.cells 24)).alloc (Obj.cells #[Value.int IntKind.i64 boot, Value.slice ad n cap] 30)).heap[w.heap.size]? = some (.cells C.cells 24 (0, 0))) := heap_alloc2_old _ _ _
    have HAX : Hid (((w.alloc (Obj.cells C.cells 24)).alloc (Obj.cells #[Value.int IntKind.i64 boot, Value.slice ad n cap] 30)).heap[w.heap.size + 1]? = some (.cells #[.int .i64 boot, .slice ad n cap] 30 (0, 0))) := heap_alloc2_new _ _ _
    have HbX : Hid (Below w.heap.size w ((w.alloc (Obj.cells C.cells 24)).alloc (Obj.cells #[Value.int IntKind.i64 boot, Value.slice ad n cap] 30))) := bnew (bnew (brefl w) _) _
    go_enter Try.func21, Try.ntmps21
    go_wp2_with fail
    generalize ((w.alloc (Obj.cells C.cells 24)).alloc (Obj.cells #[Value.int IntKind.i64 boot, Value.slice ad n cap] 30)) = X at *
    have hL : ∀ W, Below X.heap.size X W → W.cell? ⟨w.heap.size, 0, none⟩ = some (.int .i64 C.nodes) ∧ W.cell? ⟨w.heap.size, 1, none⟩ = some (.int .i64 C.slots) ∧ W.cell? ⟨w.heap.size, 2, none⟩ = some (.int .i64 C.rho) ∧ W.cell? ⟨w.heap.size, 3, none⟩ = some (.int .i64 C.hold) ∧ W.cell? ⟨w.heap.size, 4, none⟩ = some (.int .i64 C.grant) ∧ W.cell? ⟨w.heap.size, 5, none⟩ = some (.int .i64 C.guard) ∧ W.cell? ⟨w.heap.size, 6, none⟩ = some (.int .i64 C.work) ∧ W.cell? ⟨w.heap.size, 7, none⟩ = some (.slice C.sa C.sn C.sc) ∧ W.cell? ⟨w.heap.size, 8, none⟩ = some (.slice C.na C.nn C.nc) ∧ W.cell? ⟨w.heap.size, 9, none⟩ = some (.int .i64 C.soak) ∧ W.cell? ⟨w.heap.size, 10, none⟩ = some (.int .i64 C.pass) := fun W h => cfg_cells2 ((h.block _ (lt_of_block HBX.out)).trans HBX.out)
    have hL2 : ∀ W, Below X.heap.size X W → W.cell? ⟨w.heap.size + 1, 0, none⟩ = some (.int .i64 boot) ∧ W.cell? ⟨w.heap.size + 1, 1, none⟩ = some (.slice ad n cap) := fun W h => acc_cells ((h.block _ (lt_of_block HAX.out)).trans HAX.out)
    have FG : Hid (∀ W, Below X.heap.size X W → Good W C) := fun W h => (HG.out.below HbX.out).below h
    have hS : Below X.heap.size X X := Below.refl _ _
    refine wp_region_held_drew (S := fun W : World => Below X.heap.size X W) (by kernel_rfl) hS.drew (fun hHeld => ?_)
    refine wpAnyH_take (i := 0) rfl (by kernel_rfl) (by kernel_rfl) (by kernel_rfl) (fun _ _ _ h => h) (v := .agg C.cells) (Or.inl ⟨by rfl, fun W hW => ?_⟩) hHeld ?_
    · go_simp
    try simp only [Act.put, List.getElem_toArray, List.getElem_cons_zero, List.getElem_cons_succ, List.setIfInBounds_toArray, List.set_cons_zero, List.set_cons_succ]
    refine wpAnyH_take (i := 1) rfl (by kernel_rfl) (by kernel_rfl) (by kernel_rfl) (fun _ _ _ h => h) (v := .agg #[.int .i64 boot, .slice ad n cap]) (Or.inl ⟨by rfl, fun W hW => ?_⟩) hHeld ?_
    · go_simp
    try simp only [Act.put, List.getElem_toArray, List.getElem_cons_zero, List.getElem_cons_succ, List.setIfInBounds_toArray, List.set_cons_zero, List.set_cons_succ]
    refine wpAnyH_take (i := 2) rfl (by kernel_rfl) (by kernel_rfl) (by kernel_rfl) (fun _ _ _ h => h) (v := .int .i64 slot) (Or.inl ⟨by rfl, fun W hW => ?_⟩) hHeld ?_
    · go_simp
    try simp only [Act.put, List.getElem_toArray, List.getElem_cons_zero, List.getElem_cons_succ, List.setIfInBounds_toArray, List.set_cons_zero, List.set_cons_succ]
    refine wpAnyH_ready (rs := [3]) (by kernel_rfl) (by simp) (AllReadyH.cons rfl (fun K hK => ?_) AllReadyH.nil)
    go_simp
    go_at_call 41
    refine (amay_any C boot _ n cap _ _ (FG.out _ hHeld)).mono ?_
    rintro e wY ⟨rfl, hY⟩
    rw [HM.out]
    refine hK.out _ _ (bnext hHeld hY) (fun hHeld => ?_)
    try simp only [Act.put, List.getElem_toArray, List.getElem_cons_zero, List.getElem_cons_succ, List.setIfInBounds_toArray, List.set_cons_zero, List.set_cons_succ]
    refine wpAnyH_take (i := 4) rfl (by kernel_rfl) (by kernel_rfl) (by kernel_rfl) (fun _ _ _ h => h) (v := .bool true) (Or.inl ⟨by rfl, fun W hW => ?_⟩) hHeld ?_
    · go_simp
    try simp only [Act.put, List.getElem_toArray, List.getElem_cons_zero, List.getElem_cons_succ, List.setIfInBounds_toArray, List.set_cons_zero, List.set_cons_succ]
    refine wpAnyH_take (i := 5) rfl (by kernel_rfl) (by kernel_rfl) (by kernel_rfl) (fun _ _ _ h => h) (v := .bool true) (Or.inl ⟨by rfl, fun W hW => ?_⟩) hHeld ?_
    · go_simp
    try simp only [Act.put, List.getElem_toArray, List.getElem_cons_zero, List.getElem_cons_succ, List.setIfInBounds_toArray, List.set_cons_zero, List.set_cons_succ]
    refine wpAnyH_take (i := 6) rfl (by kernel_rfl) (by kernel_rfl) (by kernel_rfl) (fun _ _ _ h => h) (v := undef) (Or.inr ⟨by rfl, rfl⟩) hHeld ?_
    try simp only [Act.put, List.getElem_toArray, List.getElem_cons_zero, List.getElem_cons_succ, List.setIfInBounds_toArray, List.set_cons_zero, List.set_cons_succ]
    refine wpAnyH_take (i := 7) rfl (by kernel_rfl) (by kernel_rfl) (by kernel_rfl) (fun _ _ _ h => h) (v := undef) (Or.inr ⟨by rfl, rfl⟩) hHeld ?_
    try simp only [Act.put, List.getElem_toArray, List.getElem_cons_zero, List.getElem_cons_succ, List.setIfInBounds_toArray, List.set_cons_zero, List.set_cons_succ]
    refine wpAnyH_take (i := 8) rfl (by kernel_rfl) (by kernel_rfl) (by kernel_rfl) (fun _ _ _ h => h) (v := undef) (Or.inr ⟨by rfl, rfl⟩) hHeld ?_
    try simp only [Act.put, List.getElem_toArray, List.getElem_cons_zero, List.getElem_cons_succ, List.setIfInBounds_toArray, List.set_cons_zero, List.set_cons_succ]
    refine wpAnyH_take (i := 9) rfl (by kernel_rfl) (by kernel_rfl) (by kernel_rfl) (fun _ _ _ h => h) (v := undef) (Or.inr ⟨by rfl, rfl⟩) hHeld ?_
    try simp only [Act.put, List.getElem_toArray, List.getElem_cons_zero, List.getElem_cons_succ, List.setIfInBounds_toArray, List.set_cons_zero, List.set_cons_succ]
    refine wpAnyH_take (i := 10) rfl (by kernel_rfl) (by kernel_rfl) (by kernel_rfl) (fun _ _ _ h => h) (v := undef) (Or.inr ⟨by rfl, rfl⟩) hHeld ?_
    try simp only [Act.put, List.getElem_toArray, List.getElem_cons_zero, List.getElem_cons_succ, List.setIfInBounds_toArray, List.set_cons_zero, List.set_cons_succ]
    refine wpAnyH_take (i := 11) rfl (by kernel_rfl) (by kernel_rfl) (by kernel_rfl) (fun _ _ _ h => h) (v := undef) (Or.inr ⟨by rfl, rfl⟩) hHeld ?_
    try simp only [Act.put, List.getElem_toArray, List.getElem_cons_zero, List.getElem_cons_succ, List.setIfInBounds_toArray, List.set_cons_zero, List.set_cons_succ]
    refine wpAnyH_take (i := 12) rfl (by kernel_rfl) (by kernel_rfl) (by kernel_rfl) (fun _ _ _ h => h) (v := undef) (Or.inr ⟨by rfl, rfl⟩) hHeld ?_
    try simp only [Act.put, List.getElem_toArray, List.getElem_cons_zero, List.getElem_cons_succ, List.setIfInBounds_toArray, List.set_cons_zero, List.set_cons_succ]
    refine wpAnyH_take (i := 13) rfl (by kernel_rfl) (by kernel_rfl) (by kernel_rfl) (fun _ _ _ h => h) (v := undef) (Or.inr ⟨by rfl, rfl⟩) hHeld ?_
    try simp only [Act.put, List.getElem_toArray, List.getElem_cons_zero, List.getElem_cons_succ, List.setIfInBounds_toArray, List.set_cons_zero, List.set_cons_succ]
    refine wpAnyH_take (i := 14) rfl (by kernel_rfl) (by kernel_rfl) (by kernel_rfl) (fun _ _ _ h => h) (v := undef) (Or.inr ⟨by rfl, rfl⟩) hHeld ?_
    try simp only [Act.put, List.getElem_toArray, List.getElem_cons_zero, List.getElem_cons_succ, List.setIfInBounds_toArray, List.set_cons_zero, List.set_cons_succ]
    refine wpAnyH_take (i := 15) rfl (by kernel_rfl) (by kernel_rfl) (by kernel_rfl) (fun _ _ _ h => h) (v := .bool true) (Or.inl ⟨by rfl, fun W hW => ?_⟩) hHeld ?_
    · go_simp
    try simp only [Act.put, List.getElem_toArray, List.getElem_cons_zero, List.getElem_cons_succ, List.setIfInBounds_toArray, List.set_cons_zero, List.set_cons_succ]
    refine wpAnyH_done (by kernel_rfl) ?_ _
    go_wp2_with fail
    go_ret
    exact ⟨ret_int (by rw [HQ.out]), bnext HbX.out hHeld⟩
end Go.Proofs.Ytmhggpmhekeemaa
