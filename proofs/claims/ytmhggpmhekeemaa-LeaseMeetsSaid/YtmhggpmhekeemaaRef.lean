/- The document's Check, Majority, Gain, Holds, Late, Free. -/
import Derived.Test.YtmhggpmhekeemaaHolds
import Derived.Test.YtmhggpmhekeemaaRStages
namespace Go.Proofs.Ytmhggpmhekeemaa
open Go.RowKit
theorem cfg_cells2 {w : World} {b : Nat} {C : Cv} (hb : w.heap[b]? = some (.cells C.cells 24 (0, 0))) : w.cell? ⟨b, 0, none⟩ = some (.int .i64 C.nodes) ∧ w.cell? ⟨b, 1, none⟩ = some (.int .i64 C.slots) ∧ w.cell? ⟨b, 2, none⟩ = some (.int .i64 C.rho) ∧ w.cell? ⟨b, 3, none⟩ = some (.int .i64 C.hold) ∧ w.cell? ⟨b, 4, none⟩ = some (.int .i64 C.grant) ∧ w.cell? ⟨b, 5, none⟩ = some (.int .i64 C.guard) ∧ w.cell? ⟨b, 6, none⟩ = some (.int .i64 C.work) ∧ w.cell? ⟨b, 7, none⟩ = some (.slice C.sa C.sn C.sc) ∧ w.cell? ⟨b, 8, none⟩ = some (.slice C.na C.nn C.nc) ∧ w.cell? ⟨b, 9, none⟩ = some (.int .i64 C.soak) ∧ w.cell? ⟨b, 10, none⟩ = some (.int .i64 C.pass) := by
  refine ⟨?_, ?_, ?_, ?_, ?_, ?_, ?_, ?_, ?_, ?_, ?_⟩ <;> (rw [cell_of_row _ _ _ _ _ _ hb]; rfl)

set_option maxRecDepth 100000 in
theorem within_any (t : Int) (w : World) :
    Calls Try.prog 69 #[.int .i64 t] w fun e w' => e = .returned (.bool (inR t)) ∧ w = w' := by
  go_enter Try.func69, Try.ntmps69
  go_wp2_with fail
  all_goals
    go_ret
    exact ⟨ret_bool (by unfold inR; rw [Bool.eq_iff_iff]; simp; omega), rfl⟩

set_option maxRecDepth 100000 in
set_option maxHeartbeats 4000000 in
theorem rcheck_any (C : Cv) (w : World) (h : Good w C) :
    Calls Try.prog 40 #[.agg C.cells] w fun e w' => e = .returned (.int .i64 (chkI C)) ∧ Below w.heap.size w w' := by
  have HG := Lib.hid h
  clear h
  have hbc := bnew (brefl w) (Obj.cells C.cells 24); have hBc := heap_alloc_new w (Obj.cells C.cells 24)
  obtain ⟨f0, f1, f2, f3, f4, f5, f6, f7, f8, f9, f10⟩ := cfg_cells2 hBc
  by_cases hq : 1 ≤ C.nodes ∧ C.nodes ≤ 9 ∧ 1 ≤ C.slots ∧ C.slots ≤ C.nodes ∧ 0 ≤ C.rho ∧ C.rho ≤ 500
  · by_cases hi : inR C.hold = true ∧ inR C.grant = true ∧ inR C.guard = true ∧ inR C.work = true
    · have HE : Hid (chkI C = if stB C = true then (if (C.hold * (1000 + C.rho) < C.grant * (1000 - C.rho) ∧ 1000 + C.rho ≤ C.guard) ∧ 1 ≤ C.soak ∧ C.soak ≤ 20 ∧ 0 ≤ C.pass ∧ C.pass ≤ 1000 then 0 else 90) else 90) := by
        show chkI C = _
        have hE : chk C = (stB C && decide ((C.hold * (1000 + C.rho) < C.grant * (1000 - C.rho) ∧ 1000 + C.rho ≤ C.guard) ∧ 1 ≤ C.soak ∧ C.soak ≤ 20 ∧ 0 ≤ C.pass ∧ C.pass ≤ 1000)) := by
          unfold chk q1 q2 q4 tmB
          rw [hi.1, hi.2.1, hi.2.2.1, hi.2.2.2]
          cases stB C
          · simp
          · rw [Bool.eq_iff_iff]
            simp only [Bool.true_and, Bool.and_eq_true, decide_eq_true_eq]
            omega
        unfold chkI
        rw [hE]
        cases stB C <;> simp
      obtain ⟨q0, q1, q2, q3, q4, q5⟩ := hq
      obtain ⟨i1, i2, i3, i4⟩ := hi
      have j1 : 1 ≤ C.hold ∧ C.hold ≤ 1073741824 := by simpa [inR] using i1
      have j2 : 1 ≤ C.grant ∧ C.grant ≤ 1073741824 := by simpa [inR] using i2
      have j3 : 1 ≤ C.guard ∧ C.guard ≤ 1073741824 := by simpa [inR] using i3
      have hm1 : 0 ≤ C.hold * (1000 + C.rho) ∧ C.hold * (1000 + C.rho) ≤ 1073741824 * 1500 := ⟨Int.mul_nonneg (by omega) (by omega), Int.mul_le_mul (by omega) (by omega) (by omega) (by omega)⟩
      have hm2 : 0 ≤ C.grant * (1000 - C.rho) ∧ C.grant * (1000 - C.rho) ≤ 1073741824 * 1500 := ⟨Int.mul_nonneg (by omega) (by omega), Int.mul_le_mul (by omega) (by omega) (by omega) (by omega)⟩
      obtain ⟨hm1, hm1'⟩ := hm1
      obtain ⟨hm2, hm2'⟩ := hm2
      have I1 := Lib.hid i1
      have I2 := Lib.hid i2
      have I3 := Lib.hid i3
      have I4 := Lib.hid i4
      obtain ⟨st, hst⟩ : ∃ st, stB C = st := ⟨_, rfl⟩
      have HST := Lib.hid hst
      clear hst i1 i2 i3 i4 j1 j2 j3
      go_enter Try.func40, Try.ntmps40
      cases st <;> (
      go_wp2_with (first
        | (with_reducible refine wpList_load_cfg rfl _ rfl w.heap.size rfl C hBc ?_)
        | (go_at_call 70; with_reducible refine (rstages_any C _ (HG.out.below hbc)).mono ?_; rintro e wX ⟨rfl, hX⟩; have hbc := bnext hbc hX; have hBc := (hX.block _ (lt_of_block hBc)).trans hBc; rw [HST.out]; obtain ⟨f0, f1, f2, f3, f4, f5, f6, f7, f8, f9, f10⟩ := cfg_cells2 hBc)
        | (first | (go_at_call 69; with_reducible refine (within_any C.hold _).mono ?_; rintro e wX ⟨rfl, rfl⟩; rw [I1.out]) | (go_at_call 69; with_reducible refine (within_any C.grant _).mono ?_; rintro e wX ⟨rfl, rfl⟩; rw [I2.out]) | (go_at_call 69; with_reducible refine (within_any C.guard _).mono ?_; rintro e wX ⟨rfl, rfl⟩; rw [I3.out]) | (go_at_call 69; with_reducible refine (within_any C.work _).mono ?_; rintro e wX ⟨rfl, rfl⟩; rw [I4.out])))
      all_goals
        go_ret
        first
          | exact ⟨ret_int (by rw [HE.out, HST.out, if_neg (by decide)]), hbc⟩
          | exact ⟨ret_int (by rw [HE.out, HST.out, if_pos rfl, if_pos (by omega)]), hbc⟩
          | exact ⟨ret_int (by rw [HE.out, HST.out, if_pos rfl, if_neg (by omega)]), hbc⟩)
    · have HE : Hid (chkI C = 90) := by
        show chkI C = 90
        unfold chkI chk q2 tmB
        rw [if_neg]
        simp only [Bool.and_eq_true]
        intro h
        exact hi ⟨h.2.1.2.1, h.2.1.2.2.1, h.2.1.2.2.2.1, h.2.1.2.2.2.2.1⟩
      obtain ⟨q0, q1, q2, q3, q4, q5⟩ := hq
      obtain ⟨i1, h1⟩ : ∃ i, inR C.hold = i := ⟨_, rfl⟩
      obtain ⟨i2, h2⟩ : ∃ i, inR C.grant = i := ⟨_, rfl⟩
      obtain ⟨i3, h3⟩ : ∃ i, inR C.guard = i := ⟨_, rfl⟩
      obtain ⟨i4, h4⟩ : ∃ i, inR C.work = i := ⟨_, rfl⟩
      rw [h1, h2, h3, h4] at hi
      have I1 := Lib.hid h1
      have I2 := Lib.hid h2
      have I3 := Lib.hid h3
      have I4 := Lib.hid h4
      have hne : i1 = false ∨ (i1 = true ∧ i2 = false) ∨ (i1 = true ∧ i2 = true ∧ i3 = false) ∨ (i1 = true ∧ i2 = true ∧ i3 = true ∧ i4 = false) := by
        revert hi
        clear h1 h2 h3 h4 I1 I2 I3 I4
        revert i1 i2 i3 i4
        decide
      clear hi h1 h2 h3 h4
      rcases hne with rfl | ⟨rfl, rfl⟩ | ⟨rfl, rfl, rfl⟩ | ⟨rfl, rfl, rfl, rfl⟩ <;>
        (go_enter Try.func40, Try.ntmps40
         go_wp2_with ((first | (go_at_call 69; with_reducible refine (within_any C.hold _).mono ?_; rintro e wX ⟨rfl, rfl⟩; rw [I1.out]) | (go_at_call 69; with_reducible refine (within_any C.grant _).mono ?_; rintro e wX ⟨rfl, rfl⟩; rw [I2.out]) | (go_at_call 69; with_reducible refine (within_any C.guard _).mono ?_; rintro e wX ⟨rfl, rfl⟩; rw [I3.out]) | (go_at_call 69; with_reducible refine (within_any C.work _).mono ?_; rintro e wX ⟨rfl, rfl⟩; rw [I4.out])))
         go_ret
         exact ⟨ret_int (by rw [HE.out]), hbc⟩)
  · have HE : Hid (chkI C = 90) := by
      show chkI C = 90
      unfold chkI chk q1 q2
      rw [if_neg]
      simp only [Bool.and_eq_true, decide_eq_true_eq]
      omega
    go_enter Try.func40, Try.ntmps40
    go_wp2_with fail
    all_goals first
      | (exfalso; omega)
      | (go_ret; exact ⟨ret_int (by rw [HE.out]), hbc⟩)

set_option maxRecDepth 100000 in
set_option maxHeartbeats 1000000 in
theorem rmaj_any (C : Cv) (w : World) (h : Good w C) :
    Calls Try.prog 65 #[.agg C.cells] w fun e w' => e = .returned (.int .i64 (majI C)) ∧ Below w.heap.size w w' := by
  have HG := Lib.hid h
  clear h
  have hbc := bnew (brefl w) (Obj.cells C.cells 24); have hBc := heap_alloc_new w (Obj.cells C.cells 24)
  by_cases hc : chk C = true
  · have hn0 : 0 ≤ C.nodes := by have := chk_facts hc; omega
    have hn1 : C.nodes ≤ 9 := by have := chk_facts hc; omega
    have HM : Hid (majI C = C.nodes / 2 + 1) := by show majI C = _; unfold majI; rw [if_pos hc]
    have HK : Hid (chkI C = 0) := by show chkI C = 0; unfold chkI; rw [if_pos hc]
    have HBc := Lib.hid hBc
    clear hc hBc
    go_enter Try.func65, Try.ntmps65
    go_wp2_with fail
    go_loopw [3] (fun i wr => ∃ k : Nat, k ≤ 10 ∧ 2 * (k : Int) - 2 ≤ C.nodes ∧ i = .int .i64 k ∧ wr.heap[w.heap.size]? = some (.cells C.cells 24 (0, 0)) ∧ Below w.heap.size w wr) (fun i _ => 10 - (intOf i).toNat)
    case atStart => exact ⟨0, by omega, by omega, rfl, HBc.out, hbc⟩
    case round =>
      obtain ⟨k, hk, hk2, rfl, hBc, hbc⟩ := hrel
      clear HBc
      by_cases hlt : 2 * (k : Int) ≤ C.nodes
      · go_wp2_with (first | (with_reducible refine wpList_load_cfg rfl _ rfl w.heap.size rfl C hBc ?_) | (go_at_call 40; with_reducible refine (rcheck_any C  _ (HG.out.below hbc)).mono ?_; rintro e wX ⟨rfl, hX⟩; have hbc := bnext hbc hX; have hBc := (hX.block _ (lt_of_block hBc)).trans hBc; rw [HK.out]; obtain ⟨f0, f1, f2, f3, f4, f5, f6, f7, f8, f9, f10⟩ := cfg_cells2 hBc))
        go_roundw
        case rel => exact ⟨k + 1, by omega, by omega, by go_num, hBc, hbc⟩
        case measure => simp [intOf]; omega
      · go_wp2_with (first | (with_reducible refine wpList_load_cfg rfl _ rfl w.heap.size rfl C hBc ?_) | (go_at_call 40; with_reducible refine (rcheck_any C  _ (HG.out.below hbc)).mono ?_; rintro e wX ⟨rfl, hX⟩; have hbc := bnext hbc hX; have hBc := (hX.block _ (lt_of_block hBc)).trans hBc; rw [HK.out]; obtain ⟨f0, f1, f2, f3, f4, f5, f6, f7, f8, f9, f10⟩ := cfg_cells2 hBc))
        go_ret
        exact ⟨ret_int (by rw [HM.out]; omega), hbc⟩
  · have HM : Hid (majI C = 0) := by show majI C = _; unfold majI; rw [if_neg hc]
    have HK : Hid (chkI C = 90) := by show chkI C = 90; unfold chkI; rw [if_neg hc]
    clear hc
    go_enter Try.func65, Try.ntmps65
    go_wp2_with fail
    refine wp_loop_rounds 1 ?_
    rw [rounds_succ]
    go_wp2_with (first | (with_reducible refine wpList_load_cfg rfl _ rfl w.heap.size rfl C hBc ?_) | (go_at_call 40; with_reducible refine (rcheck_any C  _ (HG.out.below hbc)).mono ?_; rintro e wX ⟨rfl, hX⟩; have hbc := bnext hbc hX; have hBc := (hX.block _ (lt_of_block hBc)).trans hBc; rw [HK.out]; obtain ⟨f0, f1, f2, f3, f4, f5, f6, f7, f8, f9, f10⟩ := cfg_cells2 hBc))
    go_ret
    exact ⟨ret_int (by rw [HM.out]), hbc⟩

set_option maxRecDepth 100000 in
theorem rholds_any (C : Cv) (a b : Int) (w : World) (h : Good w C) :
    Calls Try.prog 64 #[.agg C.cells, .int .i64 a, .int .i64 b] w fun e w' => e = .returned (.bool (holdsB C a b)) ∧ Below w.heap.size w w' := by
  have HG := Lib.hid h
  clear h
  have hbc := bnew (brefl w) (Obj.cells C.cells 24); have hBc := heap_alloc_new w (Obj.cells C.cells 24)
  by_cases hc : chk C = true
  · have HK : Hid (chkI C = 0) := by show chkI C = 0; unfold chkI; rw [if_pos hc]
    by_cases ht : timeB a b = true
    · have hr : 0 ≤ a ∧ b ≤ 4611686018427387904 ∧ a ≤ b := by simpa [timeB] using ht
      obtain ⟨h0, h1, h2⟩ := hr
      have hg : 0 ≤ C.hold := by have := chk_facts hc; omega
      have HM : Hid (holdsB C a b = decide (b - a < C.hold)) := by show holdsB C a b = _; unfold holdsB; rw [hc, ht]; rfl
      have HT := Lib.hid ht
      clear hc ht
      go_enter Try.func64, Try.ntmps64
      go_wp2_with (first | (with_reducible refine wpList_load_cfg rfl _ rfl w.heap.size rfl C hBc ?_) | (go_at_call 40; with_reducible refine (rcheck_any C  _ (HG.out.below hbc)).mono ?_; rintro e wX ⟨rfl, hX⟩; have hbc := bnext hbc hX; have hBc := (hX.block _ (lt_of_block hBc)).trans hBc; rw [HK.out]; obtain ⟨f0, f1, f2, f3, f4, f5, f6, f7, f8, f9, f10⟩ := cfg_cells2 hBc) | (go_at_call 72; refine (rtime_any _ _ _).mono ?_; rintro e _ ⟨rfl, rfl⟩; rw [HT.out]))
      all_goals
        go_ret
        exact ⟨ret_bool (by rw [HM.out]), hbc⟩
    · have HM : Hid (holdsB C a b = false) := by show holdsB C a b = _; unfold holdsB; rw [Bool.not_eq_true] at ht; rw [ht]; simp
      have HT : Hid (timeB a b = false) := by show timeB a b = false; simpa using ht
      clear hc ht
      go_enter Try.func64, Try.ntmps64
      go_wp2_with (first | (with_reducible refine wpList_load_cfg rfl _ rfl w.heap.size rfl C hBc ?_) | (go_at_call 40; with_reducible refine (rcheck_any C  _ (HG.out.below hbc)).mono ?_; rintro e wX ⟨rfl, hX⟩; have hbc := bnext hbc hX; have hBc := (hX.block _ (lt_of_block hBc)).trans hBc; rw [HK.out]; obtain ⟨f0, f1, f2, f3, f4, f5, f6, f7, f8, f9, f10⟩ := cfg_cells2 hBc) | (go_at_call 72; refine (rtime_any _ _ _).mono ?_; rintro e _ ⟨rfl, rfl⟩; rw [HT.out]))
      go_ret
      exact ⟨ret_bool (by rw [HM.out]), hbc⟩
  · have HM : Hid (holdsB C a b = false) := by show holdsB C a b = _; unfold holdsB; rw [Bool.not_eq_true] at hc; rw [hc]; rfl
    have HK : Hid (chkI C = 90) := by show chkI C = 90; unfold chkI; rw [if_neg hc]
    obtain ⟨t, ht⟩ : ∃ t, timeB a b = t := ⟨_, rfl⟩
    have HT := Lib.hid ht
    clear hc ht
    go_enter Try.func64, Try.ntmps64
    go_wp2_with (first | (with_reducible refine wpList_load_cfg rfl _ rfl w.heap.size rfl C hBc ?_) | (go_at_call 40; with_reducible refine (rcheck_any C  _ (HG.out.below hbc)).mono ?_; rintro e wX ⟨rfl, hX⟩; have hbc := bnext hbc hX; have hBc := (hX.block _ (lt_of_block hBc)).trans hBc; rw [HK.out]; obtain ⟨f0, f1, f2, f3, f4, f5, f6, f7, f8, f9, f10⟩ := cfg_cells2 hBc) | (go_at_call 72; refine (rtime_any _ _ _).mono ?_; rintro e _ ⟨rfl, rfl⟩; rw [HT.out]))
    go_ret
    exact ⟨ret_bool (by rw [HM.out]), hbc⟩

set_option maxRecDepth 100000 in
theorem rfree_any (C : Cv) (a b : Int) (w : World) (h : Good w C) :
    Calls Try.prog 47 #[.agg C.cells, .int .i64 a, .int .i64 b] w fun e w' => e = .returned (.bool (freeB C a b)) ∧ Below w.heap.size w w' := by
  have HG := Lib.hid h
  clear h
  have hbc := bnew (brefl w) (Obj.cells C.cells 24); have hBc := heap_alloc_new w (Obj.cells C.cells 24)
  by_cases hc : chk C = true
  · have HK : Hid (chkI C = 0) := by show chkI C = 0; unfold chkI; rw [if_pos hc]
    by_cases ht : timeB a b = true
    · have hr : 0 ≤ a ∧ b ≤ 4611686018427387904 ∧ a ≤ b := by simpa [timeB] using ht
      obtain ⟨h0, h1, h2⟩ := hr
      have hg : 0 ≤ C.grant := by have := chk_facts hc; omega
      have HM : Hid (freeB C a b = decide (C.grant ≤ b - a)) := by show freeB C a b = _; unfold freeB; rw [hc, ht]; rfl
      have HT := Lib.hid ht
      clear hc ht
      go_enter Try.func47, Try.ntmps47
      go_wp2_with (first | (with_reducible refine wpList_load_cfg rfl _ rfl w.heap.size rfl C hBc ?_) | (go_at_call 40; with_reducible refine (rcheck_any C  _ (HG.out.below hbc)).mono ?_; rintro e wX ⟨rfl, hX⟩; have hbc := bnext hbc hX; have hBc := (hX.block _ (lt_of_block hBc)).trans hBc; rw [HK.out]; obtain ⟨f0, f1, f2, f3, f4, f5, f6, f7, f8, f9, f10⟩ := cfg_cells2 hBc) | (go_at_call 72; refine (rtime_any _ _ _).mono ?_; rintro e _ ⟨rfl, rfl⟩; rw [HT.out]))
      all_goals
        go_ret
        exact ⟨ret_bool (by rw [HM.out]), hbc⟩
    · have HM : Hid (freeB C a b = false) := by show freeB C a b = _; unfold freeB; rw [Bool.not_eq_true] at ht; rw [ht]; simp
      have HT : Hid (timeB a b = false) := by show timeB a b = false; simpa using ht
      clear hc ht
      go_enter Try.func47, Try.ntmps47
      go_wp2_with (first | (with_reducible refine wpList_load_cfg rfl _ rfl w.heap.size rfl C hBc ?_) | (go_at_call 40; with_reducible refine (rcheck_any C  _ (HG.out.below hbc)).mono ?_; rintro e wX ⟨rfl, hX⟩; have hbc := bnext hbc hX; have hBc := (hX.block _ (lt_of_block hBc)).trans hBc; rw [HK.out]; obtain ⟨f0, f1, f2, f3, f4, f5, f6, f7, f8, f9, f10⟩ := cfg_cells2 hBc) | (go_at_call 72; refine (rtime_any _ _ _).mono ?_; rintro e _ ⟨rfl, rfl⟩; rw [HT.out]))
      go_ret
      exact ⟨ret_bool (by rw [HM.out]), hbc⟩
  · have HM : Hid (freeB C a b = false) := by show freeB C a b = _; unfold freeB; rw [Bool.not_eq_true] at hc; rw [hc]; rfl
    have HK : Hid (chkI C = 90) := by show chkI C = 90; unfold chkI; rw [if_neg hc]
    obtain ⟨t, ht⟩ : ∃ t, timeB a b = t := ⟨_, rfl⟩
    have HT := Lib.hid ht
    clear hc ht
    go_enter Try.func47, Try.ntmps47
    go_wp2_with (first | (with_reducible refine wpList_load_cfg rfl _ rfl w.heap.size rfl C hBc ?_) | (go_at_call 40; with_reducible refine (rcheck_any C  _ (HG.out.below hbc)).mono ?_; rintro e wX ⟨rfl, hX⟩; have hbc := bnext hbc hX; have hBc := (hX.block _ (lt_of_block hBc)).trans hBc; rw [HK.out]; obtain ⟨f0, f1, f2, f3, f4, f5, f6, f7, f8, f9, f10⟩ := cfg_cells2 hBc) | (go_at_call 72; refine (rtime_any _ _ _).mono ?_; rintro e _ ⟨rfl, rfl⟩; rw [HT.out]))
    go_ret
    exact ⟨ret_bool (by rw [HM.out]), hbc⟩

set_option maxRecDepth 100000 in
set_option maxHeartbeats 1000000 in
theorem rlate_any (C : Cv) (a b : Int) (w : World) (h : Good w C) :
    Calls Try.prog 67 #[.agg C.cells, .int .i64 a, .int .i64 b] w fun e w' => e = .returned (.bool (lateB C a b)) ∧ Below w.heap.size w w' := by
  have HG := Lib.hid h
  clear h
  have hbc := bnew (brefl w) (Obj.cells C.cells 24); have hBc := heap_alloc_new w (Obj.cells C.cells 24)
  by_cases hc : chk C = true
  · have HK : Hid (chkI C = 0) := by show chkI C = 0; unfold chkI; rw [if_pos hc]
    by_cases ht : holdsB C a b = true
    · have hr : (0 ≤ a ∧ b ≤ 4611686018427387904 ∧ a ≤ b) ∧ b - a < C.hold := by
        unfold holdsB timeB at ht
        simpa [hc] using ht
      obtain ⟨⟨h0, h1, h2⟩, h3⟩ := hr
      have hg : C.hold ≤ 1073741824 := by have := chk_facts hc; omega
      have HM : Hid (lateB C a b = decide (C.hold - (b - a) ≤ C.guard)) := by show lateB C a b = _; unfold lateB; rw [hc, ht]; rfl
      have HT := Lib.hid ht
      clear hc ht
      go_enter Try.func67, Try.ntmps67
      go_wp2_with (first | (with_reducible refine wpList_load_cfg rfl _ rfl w.heap.size rfl C hBc ?_) | (go_at_call 40; with_reducible refine (rcheck_any C  _ (HG.out.below hbc)).mono ?_; rintro e wX ⟨rfl, hX⟩; have hbc := bnext hbc hX; have hBc := (hX.block _ (lt_of_block hBc)).trans hBc; rw [HK.out]; obtain ⟨f0, f1, f2, f3, f4, f5, f6, f7, f8, f9, f10⟩ := cfg_cells2 hBc) | (go_at_call 64; with_reducible refine (rholds_any C a b _ (HG.out.below hbc)).mono ?_; rintro e wX ⟨rfl, hX⟩; have hbc := bnext hbc hX; have hBc := (hX.block _ (lt_of_block hBc)).trans hBc; rw [HT.out]; obtain ⟨f0, f1, f2, f3, f4, f5, f6, f7, f8, f9, f10⟩ := cfg_cells2 hBc))
      all_goals
        go_ret
        exact ⟨ret_bool (by rw [HM.out]), hbc⟩
    · have HM : Hid (lateB C a b = true) := by show lateB C a b = _; unfold lateB; rw [Bool.not_eq_true] at ht; rw [hc, ht]; rfl
      have HT : Hid (holdsB C a b = false) := by show holdsB C a b = false; simpa using ht
      clear hc ht
      go_enter Try.func67, Try.ntmps67
      go_wp2_with (first | (with_reducible refine wpList_load_cfg rfl _ rfl w.heap.size rfl C hBc ?_) | (go_at_call 40; with_reducible refine (rcheck_any C  _ (HG.out.below hbc)).mono ?_; rintro e wX ⟨rfl, hX⟩; have hbc := bnext hbc hX; have hBc := (hX.block _ (lt_of_block hBc)).trans hBc; rw [HK.out]; obtain ⟨f0, f1, f2, f3, f4, f5, f6, f7, f8, f9, f10⟩ := cfg_cells2 hBc) | (go_at_call 64; with_reducible refine (rholds_any C a b _ (HG.out.below hbc)).mono ?_; rintro e wX ⟨rfl, hX⟩; have hbc := bnext hbc hX; have hBc := (hX.block _ (lt_of_block hBc)).trans hBc; rw [HT.out]; obtain ⟨f0, f1, f2, f3, f4, f5, f6, f7, f8, f9, f10⟩ := cfg_cells2 hBc))
      go_ret
      exact ⟨ret_bool (by rw [HM.out]), hbc⟩
  · have HM : Hid (lateB C a b = false) := by show lateB C a b = _; unfold lateB; rw [Bool.not_eq_true] at hc; rw [hc]; rfl
    have HK : Hid (chkI C = 90) := by show chkI C = 90; unfold chkI; rw [if_neg hc]
    clear hc
    go_enter Try.func67, Try.ntmps67
    go_wp2_with (first | (with_reducible refine wpList_load_cfg rfl _ rfl w.heap.size rfl C hBc ?_) | (go_at_call 40; with_reducible refine (rcheck_any C  _ (HG.out.below hbc)).mono ?_; rintro e wX ⟨rfl, hX⟩; have hbc := bnext hbc hX; have hBc := (hX.block _ (lt_of_block hBc)).trans hBc; rw [HK.out]; obtain ⟨f0, f1, f2, f3, f4, f5, f6, f7, f8, f9, f10⟩ := cfg_cells2 hBc))
    go_ret
    exact ⟨ret_bool (by rw [HM.out]), hbc⟩
end Go.Proofs.Ytmhggpmhekeemaa
