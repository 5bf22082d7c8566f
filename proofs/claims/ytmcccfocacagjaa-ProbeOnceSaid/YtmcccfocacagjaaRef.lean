/- The document's Check, Majority, Gain, Holds, Late, Free. -/
import Derived.Test.YtmcccfocacagjaaGain
import Derived.Test.YtmcccfocacagjaaRStages
namespace Go.Proofs.Ytmcccfocacagjaa
open Go.RowKit
theorem cfg_cells2 {w : World} {b : Nat} {C : Cv} (hb : w.heap[b]? = some (.cells C.cells 24 (0, 0))) : w.cell? ⟨b, 0, none⟩ = some (.int .i64 C.nodes) ∧ w.cell? ⟨b, 1, none⟩ = some (.int .i64 C.slots) ∧ w.cell? ⟨b, 2, none⟩ = some (.int .i64 C.rho) ∧ w.cell? ⟨b, 3, none⟩ = some (.int .i64 C.hold) ∧ w.cell? ⟨b, 4, none⟩ = some (.int .i64 C.grant) ∧ w.cell? ⟨b, 5, none⟩ = some (.int .i64 C.guard) ∧ w.cell? ⟨b, 6, none⟩ = some (.int .i64 C.work) ∧ w.cell? ⟨b, 7, none⟩ = some (.slice C.sa C.sn C.sc) ∧ w.cell? ⟨b, 8, none⟩ = some (.slice C.na C.nn C.nc) ∧ w.cell? ⟨b, 9, none⟩ = some (.int .i64 C.soak) ∧ w.cell? ⟨b, 10, none⟩ = some (.int .i64 C.pass) := by
  refine ⟨?_, ?_, ?_, ?_, ?_, ?_, ?_, ?_, ?_, ?_, ?_⟩ <;> (rw [cell_of_row _ _ _ _ _ _ hb]; rfl)

set_option maxRecDepth 100000 in
theorem within_any (t : Int) (w : World) :
    Calls Try.prog 60 #[.int .i64 t] w fun e w' => e = .returned (.bool (inR t)) ∧ w = w' := by
  go_enter Try.func60, Try.ntmps60
  go_wp2_with fail
  all_goals
    go_ret
    exact ⟨retb (by unfold inR; rw [Bool.eq_iff_iff]; simp; omega), rfl⟩

set_option maxRecDepth 100000 in
set_option maxHeartbeats 4000000 in
theorem rcheck_any (C : Cv) (w : World) (h : Good w C) :
    Calls Try.prog 53 #[.agg C.cells] w fun e w' => e = .returned (.int .i64 (chkI C)) ∧ Below w.heap.size w w' := by
  have HG := Lib.hid h
  clear h
  have hbc := bnew (brefl w) (Obj.cells C.cells 24); have hBc := heap_alloc_new w (Obj.cells C.cells 24)
  obtain ⟨f0, f1, f2, f3, f4, f5, f6, f7, f8, f9, f10⟩ := cfg_cells2 hBc
  by_cases hq : 1 ≤ C.nodes ∧ C.nodes ≤ 9 ∧ 1 ≤ C.slots ∧ C.slots ≤ C.nodes ∧ 0 ≤ C.rho ∧ C.rho ≤ 500
  · by_cases hi : inR C.hold = true ∧ inR C.grant = true ∧ inR C.guard = true ∧ inR C.work = true
    · have HE : Hid (chkI C = if stB C = true then (if (C.hold * (1000 + C.rho) < C.grant * (1000 - C.rho) ∧ 1000 + C.rho ≤ C.guard) ∧ 1 ≤ C.soak ∧ C.soak ≤ 20 ∧ 0 ≤ C.pass ∧ C.pass ≤ 1000 then 0 else 90) else 90) := by
        show chkI C = _
        have hE : chk C = (stB C && decide ((C.hold * (1000 + C.rho) < C.grant * (1000 - C.rho) ∧ 1000 + C.rho ≤ C.guard) ∧ 1 ≤ C.soak ∧ C.soak ≤ 20 ∧ 0 ≤ C.pass ∧ C.pass ≤ 1000)) := by
          unfold chk cq1 cq2 cq4 tmB
          rw [hi.1, hi.2.1, hi.2.2.1, hi.2.2.2]
          cases stB C
          · simp
          · rw [Bool.eq_iff_iff]
            simp only [Bool.true_and, Bool.and_eq_true, decide_eq_true_eq]
            omega
        unfold chkI
        rw [hE]
        cases stB C <;> simp
      obtain ⟨q0, cq1, cq2, cq3, cq4, q5⟩ := hq
      obtain ⟨i1, i2, i3, i4⟩ := hi
      have j1 : 1 ≤ C.hold ∧ C.hold ≤ 1073741824 := by simpa [inR] using i1
      have j2 : 1 ≤ C.grant ∧ C.grant ≤ 1073741824 := by simpa [inR] using i2
      have j3 : 1 ≤ C.guard ∧ C.guard ≤ 1073741824 := by simpa [inR] using i3
      have hm1 : 0 ≤ C.hold * (1000 + C.rho) ∧ C.hold * (1000 + C.rho) ≤ 1073741824 * 1500 := ⟨Int.mul_nonneg (by omega) (by omega), Int.mul_le_mul (by omega) (by omega) (by omega) (by omega)⟩
      have hm2 : 0 ≤ C.grant * (1000 - C.rho) ∧ C.grant * (1000 - C.rho) ≤ 1073741824 * 1500 := ⟨Int.mul_nonneg (by omega) (by omega), Int.mul_le_mul (by omega) (by omega) (by omega) (by omega)⟩
      obtain ⟨hm1, hm1'⟩ := hm1
      obtain ⟨hm2, hm2'⟩ := hm2
      have I1 := Lib.hid i1
      have I2 := Lib.hid i2
      have I3 := Lib.hid i3
      have I4 := Lib.hid i4
      obtain ⟨st, hst⟩ : ∃ st, stB C = st := ⟨_, rfl⟩
      have HST := Lib.hid hst
      clear hst i1 i2 i3 i4 j1 j2 j3
      go_enter Try.func53, Try.ntmps53
      cases st <;> (
      go_wp2_with (first
        | (with_reducible refine wpList_load_cfg rfl _ rfl w.heap.size rfl C hBc ?_)
        | (go_at_call 61; with_reducible refine (rstages_any C _ (HG.out.below hbc)).mono ?_; rintro e wX ⟨rfl, hX⟩; have hbc := bnext hbc hX; have hBc := (hX.block _ (lt_of_block hBc)).trans hBc; rw [HST.out]; obtain ⟨f0, f1, f2, f3, f4, f5, f6, f7, f8, f9, f10⟩ := cfg_cells2 hBc)
        | (first | (go_at_call 60; with_reducible refine (within_any C.hold _).mono ?_; rintro e wX ⟨rfl, rfl⟩; rw [I1.out]) | (go_at_call 60; with_reducible refine (within_any C.grant _).mono ?_; rintro e wX ⟨rfl, rfl⟩; rw [I2.out]) | (go_at_call 60; with_reducible refine (within_any C.guard _).mono ?_; rintro e wX ⟨rfl, rfl⟩; rw [I3.out]) | (go_at_call 60; with_reducible refine (within_any C.work _).mono ?_; rintro e wX ⟨rfl, rfl⟩; rw [I4.out])))
      all_goals
        go_ret
        first
          | exact ⟨reti (by rw [HE.out, HST.out, if_neg (by decide)]), hbc⟩
          | exact ⟨reti (by rw [HE.out, HST.out, if_pos rfl, if_pos (by omega)]), hbc⟩
          | exact ⟨reti (by rw [HE.out, HST.out, if_pos rfl, if_neg (by omega)]), hbc⟩)
    · have HE : Hid (chkI C = 90) := by
        show chkI C = 90
        unfold chkI chk cq2 tmB
        rw [if_neg]
        simp only [Bool.and_eq_true]
        intro h
        exact hi ⟨h.2.1.2.1, h.2.1.2.2.1, h.2.1.2.2.2.1, h.2.1.2.2.2.2.1⟩
      obtain ⟨q0, cq1, cq2, cq3, cq4, q5⟩ := hq
      obtain ⟨i1, h1⟩ : ∃ i, inR C.hold = i := ⟨_, rfl⟩
      obtain ⟨i2, h2⟩ : ∃ i, inR C.grant = i := ⟨_, rfl⟩
      obtain ⟨i3, h3⟩ : ∃ i, inR C.guard = i := ⟨_, rfl⟩
      obtain ⟨i4, h4⟩ : ∃ i, inR C.work = i := ⟨_, rfl⟩
      rw [h1, h2, h3, h4] at hi
      have I1 := Lib.hid h1
      have I2 := Lib.hid h2
      have I3 := Lib.hid h3
      have I4 := Lib.hid h4
      have hne : i1 = false ∨ (i1 = true ∧ i2 = false) ∨ (i1 = true ∧ i2 = true ∧ i3 = false) ∨ (i1 = true ∧ i2 = true ∧ i3 = true ∧ i4 = false) := by
        revert hi
        clear h1 h2 h3 h4 I1 I2 I3 I4
        revert i1 i2 i3 i4
        decide
      clear hi h1 h2 h3 h4
      rcases hne with rfl | ⟨rfl, rfl⟩ | ⟨rfl, rfl, rfl⟩ | ⟨rfl, rfl, rfl, rfl⟩ <;>
        (go_enter Try.func53, Try.ntmps53
         go_wp2_with ((first | (go_at_call 60; with_reducible refine (within_any C.hold _).mono ?_; rintro e wX ⟨rfl, rfl⟩; rw [I1.out]) | (go_at_call 60; with_reducible refine (within_any C.grant _).mono ?_; rintro e wX ⟨rfl, rfl⟩; rw [I2.out]) | (go_at_call 60; with_reducible refine (within_any C.guard _).mono ?_; rintro e wX ⟨rfl, rfl⟩; rw [I3.out]) | (go_at_call 60; with_reducible refine (within_any C.work _).mono ?_; rintro e wX ⟨rfl, rfl⟩; rw [I4.out])))
         go_ret
         exact ⟨reti (by rw [HE.out]), hbc⟩)
  · have HE : Hid (chkI C = 90) := by
      show chkI C = 90
      unfold chkI chk cq1 cq2
      rw [if_neg]
      simp only [Bool.and_eq_true, decide_eq_true_eq]
      omega
    go_enter Try.func53, Try.ntmps53
    go_wp2_with fail
    all_goals first
      | (exfalso; omega)
      | (go_ret; exact ⟨reti (by rw [HE.out]), hbc⟩)

end Go.Proofs.Ytmcccfocacagjaa
