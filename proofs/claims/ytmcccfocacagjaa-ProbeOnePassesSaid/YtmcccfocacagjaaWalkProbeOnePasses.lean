/- The walk of ProbeOnePasses: true, and nothing that was there has changed. -/
import Derived.Test.YtmcccfocacagjaaPAwake
import Derived.Test.YtmcccfocacagjaaSCmp
import Derived.Deep.RegionHeld3
namespace Go.Proofs.Ytmcccfocacagjaa
open Go.RowKit
theorem mean_one (x : Nat) : meanF [x] = cleanF x := by
  have h := cleanF_le x
  unfold meanF
  have e : sumF [x] = cleanF x := by
    show addF 0 (cleanF x) = cleanF x
    exact addF_zero (fin_one h)
  rw [e]
  exact (congrArg (divF (cleanF x)) one_fi).trans (divF_one (fin_one h))
theorem pts_one (x : Nat) : ptsF (meanF [x]) = ptsF x := by
  rw [mean_one]; unfold ptsF; rw [clean_clean]
/-- The same plan with other points. -/
def withPass (C : Cv) (v : Int) : Cv := { C with pass := v }
theorem chk_pass {C : Cv} (h : chk C = true) (v : Int) (h0 : 0 ≤ v) (h1 : v ≤ 1000) : chk (withPass C v) = true := by
  have a : chk C = (cq1 C && (cq2 C && (stB C && cq4 C))) := rfl
  have b : chk (withPass C v) = (cq1 C && (cq2 C && (stB C && cq4 (withPass C v)))) := rfl
  rw [a] at h
  rw [b]
  simp only [Bool.and_eq_true] at h ⊢
  refine ⟨h.1, h.2.1, h.2.2.1, ?_⟩
  have := h.2.2.2
  unfold cq4 at this ⊢
  simp only [decide_eq_true_eq] at this ⊢
  exact ⟨this.1, this.2.1, h0, h1⟩
theorem good_pass {w : World} {C : Cv} (h : Good w C) (v : Int) (h0 : 0 ≤ v) (h1 : v ≤ 1000) : Good w (withPass C v) := { h with r8 := by show -9223372036854775808 ≤ v ∧ v ≤ 9223372036854775807; omega }
theorem pass_all {C : Cv} (h : chk C = true) (l : List Nat) : passB (withPass C 0) l = true := by
  unfold passB
  rw [chk_pass h 0 (by omega) (by omega)]
  show (true && decide ((0 : Int) ≤ _)) = true
  simp
theorem pass_top {C : Cv} (h : chk C = true) (x : Nat) : passB (withPass C 1000) [x] = decide (1000 ≤ ptsF x) := by
  unfold passB
  rw [chk_pass h 1000 (by omega) (by omega), pts_one]
  show (true && decide ((1000 : Int) ≤ _)) = _
  rw [Bool.true_and, decide_eq_decide]; omega
theorem top_one {x : Nat} (hx : x < 18446744073709551616) : (FloatKind.f64.format.order x 4607182418800017408 == some .gt || FloatKind.f64.format.order x 4607182418800017408 == some .eq) = decide (1000 ≤ ptsF x) := by
  have l := ord_gt (x := x) (y := 4607182418800017408) hx (by omega)
  have q := ord_eq (x := x) (y := 4607182418800017408) hx (by omega)
  rw [f64_order, l, q]
  unfold bothN
  rw [show isN 4607182418800017408 = false by decide, show key 4607182418800017408 = 4607182418800017408 by decide]
  have hp : 1000 ≤ ptsF x ↔ cleanF x = ONE := by
    constructor
    · intro h
      rcases Nat.lt_or_ge (cleanF x) ONE with g | g
      · have := ptsN_below g; unfold ptsF at h; omega
      · have := cleanF_le x; omega
    · intro h; unfold ptsF; rw [h, ptsN_one]; exact Nat.le_refl _
  rw [Bool.eq_iff_iff, decide_eq_true_eq, hp]
  have hc := kind_cases hx
  unfold cleanF ONE key
  by_cases n : isN x = true
  · rw [n]
    have : kindF x = 0 := isN_kind n
    rw [this]; simp
  · have n' : isN x = false := by simpa using n
    rw [n']
    simp only [Bool.or_false, Bool.not_false, Bool.true_and, Bool.or_eq_true, decide_eq_true_eq]
    have k0 : kindF x ≠ 0 := by rcases hc with h | h | h | h | h | h | h <;> first | omega | (exfalso; exact n h.1)
    by_cases k6 : kindF x = 6
    · rw [if_pos k6, if_pos (show x < 9223372036854775808 by omega)]; omega
    · rw [if_neg k6]
      by_cases k5 : kindF x = 5
      · rw [if_pos k5, if_pos (show x < 9223372036854775808 by omega)]; omega
      · rw [if_neg k5]
        split <;> omega

/-- A store into a plan's points. -/
theorem heap_pass {w : World} {b : Nat} {C : Cv} (h : w.heap[b]? = some (.cells C.cells 24 (0, 0))) (v : Int) : (w.setCell ⟨b, 10, none⟩ (.int .i64 v)).heap[b]? = some (.cells (withPass C v).cells 24 (0, 0)) :=
  (heap_setCell_same _ _ _ _ _ _ h).trans rfl
set_option maxRecDepth 100000 in
set_option maxHeartbeats 4000000 in
theorem walk_ProbeOnePasses (C : Cv) (a : Int) (w : World) (hG : Good w C) (ha : (Lit.int .u64 a).wf = true) :
    Calls Try.prog 3 #[.agg C.cells, .int .u64 a] w fun e w' => e = .returned (.bool true) ∧ Below w.heap.size w w' := by
  obtain ⟨x, rfl, hx⟩ := u64_nat ha
  clear ha
  have HX := Lib.hid hx
  have HG := Lib.hid hG
  have hf := run_from
  have HTOP := Lib.hid (top_one hx)
  clear hG
  have hbc := bnew (brefl w) (Obj.cells C.cells 24)
  have hBc := heap_alloc_new w (Obj.cells C.cells 24)
  have hgo : Hid (fewB C = true ∧ chk C = true ∨ fewB C = false ∨ (fewB C = true ∧ chk C = false)) := by
    show _ ∨ _
    cases fewB C <;> cases chk C <;> simp
  rcases hgo.out with ⟨h1, h2⟩ | h1 | ⟨h1, h2⟩
  · have HF := Lib.hid h1
    have HK : Hid (chkI C = 0) := by show chkI C = 0; unfold chkI; rw [if_pos h2]
    have HCK := Lib.hid h2
    clear h1 h2 hx hgo
    go_enter Try.func3, Try.ntmps3
    go_wp2_with (first
      | (go_at_call 14; refine (pawake_true _).mono ?_; rintro e wA ⟨rfl, hA⟩; have hbc := bnext hbc hA; have hBc := (hA.block _ (lt_of_block hBc)).trans hBc)
      | (with_reducible refine wpList_load_cfg rfl _ rfl w.heap.size rfl C hBc ?_)
      | (go_at_call 15; refine (few_any C _ (HG.out.below hbc)).mono ?_; rintro e wX ⟨rfl, hX⟩; have hbc := bnext hbc hX; have hBc := (hX.block _ (lt_of_block hBc)).trans hBc; rw [HF.out])
      | (go_at_call 16; refine (check_any C _ (HG.out.below hbc)).mono ?_; rintro e X ⟨rfl, hY⟩; have hbc := bnext hbc hY; have hBc := (hY.block _ (lt_of_block hBc)).trans hBc; rw [HK.out]))
    have HBC := Lib.hid hbc
    have HBX := Lib.hid hBc
    clear hY hX hA hbc hBc
    clear hbc hBc
    have hL : ∀ W, Below X.heap.size X W → W.cell? ⟨w.heap.size, 0, none⟩ = some (.int .i64 C.nodes) ∧ W.cell? ⟨w.heap.size, 1, none⟩ = some (.int .i64 C.slots) ∧ W.cell? ⟨w.heap.size, 2, none⟩ = some (.int .i64 C.rho) ∧ W.cell? ⟨w.heap.size, 3, none⟩ = some (.int .i64 C.hold) ∧ W.cell? ⟨w.heap.size, 4, none⟩ = some (.int .i64 C.grant) ∧ W.cell? ⟨w.heap.size, 5, none⟩ = some (.int .i64 C.guard) ∧ W.cell? ⟨w.heap.size, 6, none⟩ = some (.int .i64 C.work) ∧ W.cell? ⟨w.heap.size, 7, none⟩ = some (.slice C.sa C.sn C.sc) ∧ W.cell? ⟨w.heap.size, 8, none⟩ = some (.slice C.na C.nn C.nc) ∧ W.cell? ⟨w.heap.size, 9, none⟩ = some (.int .i64 C.soak) ∧ W.cell? ⟨w.heap.size, 10, none⟩ = some (.int .i64 C.pass) := fun W h => cfg_cells2 ((h.block _ (lt_of_block HBX.out)).trans HBX.out)
    have FG : Hid (∀ W, Below X.heap.size X W → Good W C) := fun W h => (HG.out.below HBC.out).below h
    have hS : Below X.heap.size X X := Below.refl _ _
    have R1 : Hid (ReadsF ((X.alloc (Obj.cells #[Value.float FloatKind.f64 x] 30)).drew) (some ⟨X.heap.size, 0, none⟩) 1 1 [x]) := readsF1 HX.out (heap_alloc_new X _)
    obtain ⟨p, hp⟩ : ∃ p, ptsF x = p := ⟨_, rfl⟩
    have HP := Lib.hid hp
    have HPB : Hid (passB C [x] = decide (C.pass ≤ (p : Int))) := by show _ = _; unfold passB; rw [HCK.out, pts_one, hp]; rfl
    clear hp
    go_region_held3 (fun W : World => Below X.heap.size X W) (first | assumption | exact hS.drew | exact bnext (by assumption) hZ | exact bnew (by assumption) _ | exact Below.drew (bnew hS _)) (first
      | (go_at_call 18; (with_reducible refine (passes_any C _ 1 1 _ _ (FG.out _ (by assumption)) R1.out (by omega)).mono ?_); rintro e wZ ⟨rfl, hZ⟩; rw [HPB.out])
      | (go_at_call 19; (with_reducible refine (points_any x _ HX.out).mono ?_); rintro e wV ⟨rfl, rfl⟩; rw [HP.out]))
    have hXZ : Below X.heap.size X wZ := (by assumption)
    have HBZ := Lib.hid ((hXZ.block _ (lt_of_block HBX.out)).trans HBX.out)
    have HbZ := Lib.hid (bnext HBC.out hXZ)
    have fz : ∀ j, wZ.frozen? ⟨w.heap.size, j, none⟩ = false := fun j => blk_free HBZ.out
    obtain ⟨_, _, _, _, _, _, _, _, _, _, c10⟩ := cfg_cells2 HBZ.out
    clear hL hS R1 hXZ hZ hbc hBc
    have HB1 : Hid ((wZ.setCell ⟨w.heap.size, 10, none⟩ (.int .i64 0)).heap[w.heap.size]? = some (.cells (withPass C 0).cells 24 (0, 0))) := heap_pass HBZ.out 0
    have Hb1 : Hid (Below w.heap.size w (wZ.setCell ⟨w.heap.size, 10, none⟩ (.int .i64 0))) := HbZ.out.setCell (Nat.le_refl _) _
    have HG1 : Hid (Good (wZ.setCell ⟨w.heap.size, 10, none⟩ (.int .i64 0)) (withPass C 0)) := good_pass (HG.out.below Hb1.out) 0 (by omega) (by omega)
    go_wp2_with (with_reducible refine wpList_load_cfg rfl _ rfl w.heap.size rfl (withPass C 0) HB1.out ?_)
    have HSZ : Hid ((wZ.setCell ⟨w.heap.size, 10, none⟩ (.int .i64 0)).heap.size = wZ.heap.size) := by show _ = _; simp
    generalize wZ.setCell ⟨w.heap.size, 10, none⟩ (.int .i64 0) = w1 at *
    refine (passes_any (withPass C 0) (some ⟨wZ.heap.size, 0, none⟩) 1 1 [x] _ (HG1.out.below (bnew (brefl w1) _)) (readsF1 HX.out (heap_alloc_at w1 _ _ HSZ.out)) (by omega)).mono ?_
    rintro e w2 ⟨rfl, hb2⟩
    rw [pass_all HCK.out]
    have Hb2 := Lib.hid (bnext (bnew Hb1.out _) hb2)
    have HG2 := Lib.hid (HG1.out.below (bnext (bnew (brefl w1) _) hb2))
    have HB2 : Hid (w2.heap[w.heap.size]? = some (.cells (withPass C 0).cells 24 (0, 0))) := (hb2.block _ (by have := lt_of_block HB1.out; simp; omega)).trans ((Below.heap_alloc _ _ _ (lt_of_block HB1.out)).trans HB1.out)
    clear hb2 fz c10
    go_wp2_with (with_reducible refine wpList_load_cfg rfl _ rfl w.heap.size rfl (withPass C 0) HB2.out ?_)
    refine (passes_any (withPass C 0) none 0 0 [] _ HG2.out (readsF_none _ _) (by omega)).mono ?_
    rintro e w3 ⟨rfl, hb3⟩
    rw [pass_all HCK.out]
    have Hb3 := Lib.hid (bnext Hb2.out hb3)
    have HG3 := Lib.hid (HG2.out.below hb3)
    have HB3 : Hid (w3.heap[w.heap.size]? = some (.cells (withPass C 0).cells 24 (0, 0))) := (hb3.block _ (lt_of_block HB2.out)).trans HB2.out
    have fz : ∀ j, w3.frozen? ⟨w.heap.size, j, none⟩ = false := fun j => blk_free HB3.out
    obtain ⟨_, _, _, _, _, _, _, _, _, _, c10⟩ := cfg_cells2 HB3.out
    clear hb3
    have HB4 : Hid ((w3.setCell ⟨w.heap.size, 10, none⟩ (.int .i64 1000)).heap[w.heap.size]? = some (.cells (withPass C 1000).cells 24 (0, 0))) := heap_pass HB3.out 1000
    have Hb4 : Hid (Below w.heap.size w (w3.setCell ⟨w.heap.size, 10, none⟩ (.int .i64 1000))) := Hb3.out.setCell (Nat.le_refl _) _
    have HG4 : Hid (Good (w3.setCell ⟨w.heap.size, 10, none⟩ (.int .i64 1000)) (withPass C 1000)) := good_pass (HG.out.below Hb4.out) 1000 (by omega) (by omega)
    go_wp2_with (with_reducible refine wpList_load_cfg rfl _ rfl w.heap.size rfl (withPass C 1000) HB4.out ?_)
    have HSZ4 : Hid ((w3.setCell ⟨w.heap.size, 10, none⟩ (.int .i64 1000)).heap.size = w3.heap.size) := by show _ = _; simp
    generalize w3.setCell ⟨w.heap.size, 10, none⟩ (.int .i64 1000) = w4 at *
    refine (passes_any (withPass C 1000) (some ⟨w3.heap.size, 0, none⟩) 1 1 [x] _ (HG4.out.below (bnew (brefl w4) _)) (readsF1 HX.out (heap_alloc_at w4 _ _ HSZ4.out)) (by omega)).mono ?_
    rintro e w5 ⟨rfl, hb5⟩
    have HT : Hid (passB (withPass C 1000) [x] = (FloatKind.f64.format.order x 4607182418800017408 == some .gt || FloatKind.f64.format.order x 4607182418800017408 == some .eq)) := by show _ = _; rw [pass_top HCK.out, HTOP.out]
    rw [HT.out]
    clear fz c10
    go_wp2_with fail
    go_ret
    exact ⟨ret_bool (by simp), bnext (bnew Hb4.out _) hb5⟩
  · have HF := Lib.hid h1
    clear h1 hx hgo
    go_enter Try.func3, Try.ntmps3
    go_wp2_with (first
      | (go_at_call 14; refine (pawake_true _).mono ?_; rintro e wA ⟨rfl, hA⟩; have hbc := bnext hbc hA; have hBc := (hA.block _ (lt_of_block hBc)).trans hBc)
      | (with_reducible refine wpList_load_cfg rfl _ rfl w.heap.size rfl C hBc ?_)
      | (go_at_call 15; refine (few_any C _ (HG.out.below hbc)).mono ?_; rintro e wX ⟨rfl, hX⟩; have hbc := bnext hbc hX; have hBc := (hX.block _ (lt_of_block hBc)).trans hBc; rw [HF.out]))
    go_ret
    exact ⟨rfl, hbc⟩
  · have HF := Lib.hid h1
    have HK : Hid (chkI C = 90) := by show chkI C = 90; unfold chkI; rw [h2]; rfl
    clear h1 h2 hx hgo
    go_enter Try.func3, Try.ntmps3
    go_wp2_with (first
      | (go_at_call 14; refine (pawake_true _).mono ?_; rintro e wA ⟨rfl, hA⟩; have hbc := bnext hbc hA; have hBc := (hA.block _ (lt_of_block hBc)).trans hBc)
      | (with_reducible refine wpList_load_cfg rfl _ rfl w.heap.size rfl C hBc ?_)
      | (go_at_call 15; refine (few_any C _ (HG.out.below hbc)).mono ?_; rintro e wX ⟨rfl, hX⟩; have hbc := bnext hbc hX; have hBc := (hX.block _ (lt_of_block hBc)).trans hBc; rw [HF.out])
      | (go_at_call 16; refine (check_any C _ (HG.out.below hbc)).mono ?_; rintro e X ⟨rfl, hY⟩; have hbc := bnext hbc hY; have hBc := (hY.block _ (lt_of_block hBc)).trans hBc; rw [HK.out]))
    go_ret
    exact ⟨rfl, hbc⟩
end Go.Proofs.Ytmcccfocacagjaa
