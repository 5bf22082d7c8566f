/- The walk of LeaseFits. -/
import Derived.Test.YtmhggpmhekeemaaLAwake
namespace Go.Proofs.Ytmhggpmhekeemaa
open Go.RowKit
theorem fits_late {C : Cv} {L : Lv} {now : Int} (h : fitsB C L now = true) : heldB C L now = true ∧ lateLB C L now = false := by
  unfold fitsB at h
  simp only [Bool.and_eq_true, decide_eq_true_eq] at h
  obtain ⟨hh, hf⟩ := h
  obtain ⟨f0, f1, f2, f3, f4, f5, f6, f7⟩ := held_facts hh
  refine ⟨hh, ?_⟩
  have hho : holdsB C L.asked now = true := by unfold heldB at hh; simp only [Bool.and_eq_true] at hh; exact hh.1
  unfold lateLB lateB
  rw [hh, hho]
  have : decide (C.hold - (now - L.asked) ≤ C.guard) = false := by rw [decide_eq_false_iff_not]; omega
  rw [this]; simp
theorem not_held_late {C : Cv} {L : Lv} {now : Int} (hc : chk C = true) (h : heldB C L now = false) : lateLB C L now = true ∧ fitsB C L now = false := by
  unfold lateLB fitsB; rw [hc, h]; simp
theorem held_back {C : Cv} {L : Lv} {now back : Int} (hb : 0 ≤ back) (h : heldB C L now = true) (ha : L.asked ≤ now - back) : heldB C L (now - back) = true := by
  unfold heldB holdsB timeB at h ⊢
  simp only [Bool.and_eq_true, decide_eq_true_eq] at h ⊢
  obtain ⟨⟨hc, ⟨a, b, c⟩, d⟩, e⟩ := h
  exact ⟨⟨hc, ⟨a, by omega, ha⟩, by omega⟩, e⟩
theorem wrapS {x : Int} (h0 : 0 ≤ x) (h1 : x ≤ 4611686018427387904) : IntKind.i64.wrap x = x := by
  have e : IntKind.i64.bits = 64 := rfl
  unfold IntKind.wrap
  rw [e]
  have e2 : (2 : Int) ^ 64 = 18446744073709551616 := by decide
  have e3 : (2 : Int) ^ (64 - 1) = 9223372036854775808 := by decide
  rw [e2, e3, Int.emod_eq_of_lt h0 (by omega)]
  show (if (IntKind.i64.signed && decide (x ≥ 9223372036854775808)) = true then x - 18446744073709551616 else x) = x
  rw [decide_eq_false (show ¬ x ≥ 9223372036854775808 by omega), Bool.and_false]
  rfl
set_option maxRecDepth 100000 in
set_option maxHeartbeats 16000000 in
theorem walk_LeaseFits (C : Cv) (L : Lv) (now back : Int) (w : World) (w0 : Good w C) (w1 : GoodL w L) (w2 : (Lit.int .i64 now).wf = true) (w3 : (Lit.int .u16 back).wf = true) :
    Calls Try.prog 7 #[.agg C.cells, .agg L.cells, .int .i64 now, .int .u16 back] w fun e w' => e = .returned (.bool true) ∧ Below w.heap.size w w' := by
  have HG := Lib.hid w0
  have HL := Lib.hid w1
  have hfn := w1.fr.small'
  have hrn := i64_range w2
  have r4 : 0 ≤ back ∧ back ≤ 65535 := by
    simp only [Lit.wf, Bool.and_eq_true, decide_eq_true_eq] at w3
    have h1 : IntKind.u16.min = 0 := rfl
    have h2 : IntKind.u16.max = 65535 := rfl
    omega
  have ra := w1.r2
  unfold inI at ra
  clear w0 w1 w2 w3
  have hbc : Below w.heap.size w ((w.alloc (Obj.cells C.cells 24)).alloc (LB L)) := bnew (bnew (brefl w) _) _
  have hBc : ((w.alloc (Obj.cells C.cells 24)).alloc (LB L)).heap[w.heap.size]? = some (.cells C.cells 24 (0, 0)) := ka (heap_alloc_new w _) _
  have hLc : ((w.alloc (Obj.cells C.cells 24)).alloc (LB L)).heap[w.heap.size + 1]? = some (LB L) := heap_alloc2_new _ _ _
  obtain ⟨l0, l1, l2, l3⟩ := lv_cells hLc
  by_cases hf : fewB C = true
  · have HF := Lib.hid hf
    clear hf
    by_cases h50 : L.fn ≤ 50
    · have d50 : decide ((50 : Int) < L.fn) = false := decide_eq_false (by omega)
      by_cases hc : chk C = true
      · have HK : Hid (chkI C = 0) := by show chkI C = 0; unfold chkI; rw [hc]; rfl
        have HC := Lib.hid hc
        clear hc
        by_cases n0 : 0 ≤ now
        · have d0 : decide (now < 0) = false := decide_eq_false (by omega)
          by_cases n1 : now ≤ 1152921504606846976
          · have d1 : decide ((1152921504606846976 : Int) < now) = false := decide_eq_false (by omega)
            by_cases n2 : 0 ≤ L.asked
            · have d2 : decide (L.asked < 0) = false := decide_eq_false (by omega)
              by_cases hh : heldB C L now = true
              · have HHE := Lib.hid hh
                by_cases hfi : fitsB C L now = true
                · have HFI := Lib.hid hfi
                  have HLA := Lib.hid (fits_late hfi).2
                  by_cases ha : now - back < L.asked
                  · have d3 : decide (now - back < L.asked) = true := decide_eq_true ha
                    have HAH : Hid (heldB C L (now - back) = heldB C L (now - back)) := Lib.hid rfl
                    clear hh hfi
                    go_enter Try.func7, Try.ntmps7
                    go_wp2_with (first
                      | (with_reducible refine wpList_load_cfg rfl _ rfl w.heap.size rfl C hBc ?_)
                      | (with_reducible refine wpList_load_lv rfl _ rfl (w.heap.size + 1) rfl L hLc ?_)
                      | (go_at_call 22; refine (lawake_true _).mono ?_; rintro e wX ⟨rfl, hX⟩; have hbc := bnext hbc hX; have hBc := kb hBc hX; have hLc := kb hLc hX; obtain ⟨l0, l1, l2, l3⟩ := lv_cells hLc)
                      | (go_at_call 12; with_reducible refine (few_any C _ (HG.out.below hbc)).mono ?_; rintro e wX ⟨rfl, hX⟩; have hbc := bnext hbc hX; have hBc := kb hBc hX; have hLc := kb hLc hX; obtain ⟨l0, l1, l2, l3⟩ := lv_cells hLc; rw [HF.out])
                      | (go_at_call 20; with_reducible refine (check_any C _ (HG.out.below hbc)).mono ?_; rintro e wX ⟨rfl, hX⟩; have hbc := bnext hbc hX; have hBc := kb hBc hX; have hLc := kb hLc hX; obtain ⟨l0, l1, l2, l3⟩ := lv_cells hLc; rw [HK.out])
                      | (go_at_call 31; with_reducible refine (lfits_any C L now _ (HG.out.below hbc) (HL.out.below hbc) (by omega)).mono ?_; rintro e wX ⟨rfl, hX⟩; have hbc := bnext hbc hX; have hBc := kb hBc hX; have hLc := kb hLc hX; obtain ⟨l0, l1, l2, l3⟩ := lv_cells hLc; rw [HFI.out])
                      | (go_at_call 29; with_reducible refine (llate_any C L now _ (HG.out.below hbc) (HL.out.below hbc) (by omega)).mono ?_; rintro e wX ⟨rfl, hX⟩; have hbc := bnext hbc hX; have hBc := kb hBc hX; have hLc := kb hLc hX; obtain ⟨l0, l1, l2, l3⟩ := lv_cells hLc; rw [HLA.out])
                      | (go_at_call 27; with_reducible refine (held_any C L now _ (HG.out.below hbc) (HL.out.below hbc) (by omega)).mono ?_; rintro e wX ⟨rfl, hX⟩; have hbc := bnext hbc hX; have hBc := kb hBc hX; have hLc := kb hLc hX; obtain ⟨l0, l1, l2, l3⟩ := lv_cells hLc; rw [HHE.out])
                      | (go_at_call 27; with_reducible refine (held_any C L (now - back) _ (HG.out.below hbc) (HL.out.below hbc) (by omega)).mono ?_; rintro e wX ⟨rfl, hX⟩; have hbc := bnext hbc hX; have hBc := kb hBc hX; have hLc := kb hLc hX; obtain ⟨l0, l1, l2, l3⟩ := lv_cells hLc; rw [HAH.out]))
                    go_ret
                    exact ⟨rfl, hbc⟩
                  · have d3 : decide (now - back < L.asked) = false := decide_eq_false ha
                    have HAH := Lib.hid (held_back r4.1 hh (by omega))
                    clear hh hfi
                    go_enter Try.func7, Try.ntmps7
                    go_wp2_with (first
                      | (with_reducible refine wpList_load_cfg rfl _ rfl w.heap.size rfl C hBc ?_)
                      | (with_reducible refine wpList_load_lv rfl _ rfl (w.heap.size + 1) rfl L hLc ?_)
                      | (go_at_call 22; refine (lawake_true _).mono ?_; rintro e wX ⟨rfl, hX⟩; have hbc := bnext hbc hX; have hBc := kb hBc hX; have hLc := kb hLc hX; obtain ⟨l0, l1, l2, l3⟩ := lv_cells hLc)
                      | (go_at_call 12; with_reducible refine (few_any C _ (HG.out.below hbc)).mono ?_; rintro e wX ⟨rfl, hX⟩; have hbc := bnext hbc hX; have hBc := kb hBc hX; have hLc := kb hLc hX; obtain ⟨l0, l1, l2, l3⟩ := lv_cells hLc; rw [HF.out])
                      | (go_at_call 20; with_reducible refine (check_any C _ (HG.out.below hbc)).mono ?_; rintro e wX ⟨rfl, hX⟩; have hbc := bnext hbc hX; have hBc := kb hBc hX; have hLc := kb hLc hX; obtain ⟨l0, l1, l2, l3⟩ := lv_cells hLc; rw [HK.out])
                      | (go_at_call 31; with_reducible refine (lfits_any C L now _ (HG.out.below hbc) (HL.out.below hbc) (by omega)).mono ?_; rintro e wX ⟨rfl, hX⟩; have hbc := bnext hbc hX; have hBc := kb hBc hX; have hLc := kb hLc hX; obtain ⟨l0, l1, l2, l3⟩ := lv_cells hLc; rw [HFI.out])
                      | (go_at_call 29; with_reducible refine (llate_any C L now _ (HG.out.below hbc) (HL.out.below hbc) (by omega)).mono ?_; rintro e wX ⟨rfl, hX⟩; have hbc := bnext hbc hX; have hBc := kb hBc hX; have hLc := kb hLc hX; obtain ⟨l0, l1, l2, l3⟩ := lv_cells hLc; rw [HLA.out])
                      | (go_at_call 27; with_reducible refine (held_any C L now _ (HG.out.below hbc) (HL.out.below hbc) (by omega)).mono ?_; rintro e wX ⟨rfl, hX⟩; have hbc := bnext hbc hX; have hBc := kb hBc hX; have hLc := kb hLc hX; obtain ⟨l0, l1, l2, l3⟩ := lv_cells hLc; rw [HHE.out])
                      | (go_at_call 27; with_reducible refine (held_any C L (now - back) _ (HG.out.below hbc) (HL.out.below hbc) (by omega)).mono ?_; rintro e wX ⟨rfl, hX⟩; have hbc := bnext hbc hX; have hBc := kb hBc hX; have hLc := kb hLc hX; obtain ⟨l0, l1, l2, l3⟩ := lv_cells hLc; rw [HAH.out]))
                    go_ret
                    exact ⟨rfl, hbc⟩
                · have hfi' : fitsB C L now = false := by simpa using hfi
                  have HFI := Lib.hid hfi'
                  obtain ⟨bl, hbl⟩ : ∃ b, lateLB C L now = b := ⟨_, rfl⟩
                  have HLA := Lib.hid hbl
                  by_cases ha : now - back < L.asked
                  · have d3 : decide (now - back < L.asked) = true := decide_eq_true ha
                    have HAH : Hid (heldB C L (now - back) = heldB C L (now - back)) := Lib.hid rfl
                    clear hh hfi hfi' hbl
                    cases bl
                    all_goals
                      go_enter Try.func7, Try.ntmps7
                      go_wp2_with (first
                        | (with_reducible refine wpList_load_cfg rfl _ rfl w.heap.size rfl C hBc ?_)
                        | (with_reducible refine wpList_load_lv rfl _ rfl (w.heap.size + 1) rfl L hLc ?_)
                        | (go_at_call 22; refine (lawake_true _).mono ?_; rintro e wX ⟨rfl, hX⟩; have hbc := bnext hbc hX; have hBc := kb hBc hX; have hLc := kb hLc hX; obtain ⟨l0, l1, l2, l3⟩ := lv_cells hLc)
                        | (go_at_call 12; with_reducible refine (few_any C _ (HG.out.below hbc)).mono ?_; rintro e wX ⟨rfl, hX⟩; have hbc := bnext hbc hX; have hBc := kb hBc hX; have hLc := kb hLc hX; obtain ⟨l0, l1, l2, l3⟩ := lv_cells hLc; rw [HF.out])
                        | (go_at_call 20; with_reducible refine (check_any C _ (HG.out.below hbc)).mono ?_; rintro e wX ⟨rfl, hX⟩; have hbc := bnext hbc hX; have hBc := kb hBc hX; have hLc := kb hLc hX; obtain ⟨l0, l1, l2, l3⟩ := lv_cells hLc; rw [HK.out])
                        | (go_at_call 31; with_reducible refine (lfits_any C L now _ (HG.out.below hbc) (HL.out.below hbc) (by omega)).mono ?_; rintro e wX ⟨rfl, hX⟩; have hbc := bnext hbc hX; have hBc := kb hBc hX; have hLc := kb hLc hX; obtain ⟨l0, l1, l2, l3⟩ := lv_cells hLc; rw [HFI.out])
                        | (go_at_call 29; with_reducible refine (llate_any C L now _ (HG.out.below hbc) (HL.out.below hbc) (by omega)).mono ?_; rintro e wX ⟨rfl, hX⟩; have hbc := bnext hbc hX; have hBc := kb hBc hX; have hLc := kb hLc hX; obtain ⟨l0, l1, l2, l3⟩ := lv_cells hLc; rw [HLA.out])
                        | (go_at_call 27; with_reducible refine (held_any C L now _ (HG.out.below hbc) (HL.out.below hbc) (by omega)).mono ?_; rintro e wX ⟨rfl, hX⟩; have hbc := bnext hbc hX; have hBc := kb hBc hX; have hLc := kb hLc hX; obtain ⟨l0, l1, l2, l3⟩ := lv_cells hLc; rw [HHE.out])
                        | (go_at_call 27; with_reducible refine (held_any C L (now - back) _ (HG.out.below hbc) (HL.out.below hbc) (by omega)).mono ?_; rintro e wX ⟨rfl, hX⟩; have hbc := bnext hbc hX; have hBc := kb hBc hX; have hLc := kb hLc hX; obtain ⟨l0, l1, l2, l3⟩ := lv_cells hLc; rw [HAH.out]))
                      go_ret
                      exact ⟨rfl, hbc⟩
                  · have d3 : decide (now - back < L.asked) = false := decide_eq_false ha
                    have HAH := Lib.hid (held_back r4.1 hh (by omega))
                    clear hh hfi hfi' hbl
                    cases bl
                    all_goals
                      go_enter Try.func7, Try.ntmps7
                      go_wp2_with (first
                        | (with_reducible refine wpList_load_cfg rfl _ rfl w.heap.size rfl C hBc ?_)
                        | (with_reducible refine wpList_load_lv rfl _ rfl (w.heap.size + 1) rfl L hLc ?_)
                        | (go_at_call 22; refine (lawake_true _).mono ?_; rintro e wX ⟨rfl, hX⟩; have hbc := bnext hbc hX; have hBc := kb hBc hX; have hLc := kb hLc hX; obtain ⟨l0, l1, l2, l3⟩ := lv_cells hLc)
                        | (go_at_call 12; with_reducible refine (few_any C _ (HG.out.below hbc)).mono ?_; rintro e wX ⟨rfl, hX⟩; have hbc := bnext hbc hX; have hBc := kb hBc hX; have hLc := kb hLc hX; obtain ⟨l0, l1, l2, l3⟩ := lv_cells hLc; rw [HF.out])
                        | (go_at_call 20; with_reducible refine (check_any C _ (HG.out.below hbc)).mono ?_; rintro e wX ⟨rfl, hX⟩; have hbc := bnext hbc hX; have hBc := kb hBc hX; have hLc := kb hLc hX; obtain ⟨l0, l1, l2, l3⟩ := lv_cells hLc; rw [HK.out])
                        | (go_at_call 31; with_reducible refine (lfits_any C L now _ (HG.out.below hbc) (HL.out.below hbc) (by omega)).mono ?_; rintro e wX ⟨rfl, hX⟩; have hbc := bnext hbc hX; have hBc := kb hBc hX; have hLc := kb hLc hX; obtain ⟨l0, l1, l2, l3⟩ := lv_cells hLc; rw [HFI.out])
                        | (go_at_call 29; with_reducible refine (llate_any C L now _ (HG.out.below hbc) (HL.out.below hbc) (by omega)).mono ?_; rintro e wX ⟨rfl, hX⟩; have hbc := bnext hbc hX; have hBc := kb hBc hX; have hLc := kb hLc hX; obtain ⟨l0, l1, l2, l3⟩ := lv_cells hLc; rw [HLA.out])
                        | (go_at_call 27; with_reducible refine (held_any C L now _ (HG.out.below hbc) (HL.out.below hbc) (by omega)).mono ?_; rintro e wX ⟨rfl, hX⟩; have hbc := bnext hbc hX; have hBc := kb hBc hX; have hLc := kb hLc hX; obtain ⟨l0, l1, l2, l3⟩ := lv_cells hLc; rw [HHE.out])
                        | (go_at_call 27; with_reducible refine (held_any C L (now - back) _ (HG.out.below hbc) (HL.out.below hbc) (by omega)).mono ?_; rintro e wX ⟨rfl, hX⟩; have hbc := bnext hbc hX; have hBc := kb hBc hX; have hLc := kb hLc hX; obtain ⟨l0, l1, l2, l3⟩ := lv_cells hLc; rw [HAH.out]))
                      go_ret
                      exact ⟨rfl, hbc⟩
              · have hh' : heldB C L now = false := by simpa using hh
                have HHE := Lib.hid hh'
                have HLA := Lib.hid (not_held_late HC.out hh').1
                have HFI := Lib.hid (not_held_late HC.out hh').2
                have HAH : Hid (heldB C L (now - back) = heldB C L (now - back)) := Lib.hid rfl
                clear hh hh'
                go_enter Try.func7, Try.ntmps7
                go_wp2_with (first
                  | (with_reducible refine wpList_load_cfg rfl _ rfl w.heap.size rfl C hBc ?_)
                  | (with_reducible refine wpList_load_lv rfl _ rfl (w.heap.size + 1) rfl L hLc ?_)
                  | (go_at_call 22; refine (lawake_true _).mono ?_; rintro e wX ⟨rfl, hX⟩; have hbc := bnext hbc hX; have hBc := kb hBc hX; have hLc := kb hLc hX; obtain ⟨l0, l1, l2, l3⟩ := lv_cells hLc)
                  | (go_at_call 12; with_reducible refine (few_any C _ (HG.out.below hbc)).mono ?_; rintro e wX ⟨rfl, hX⟩; have hbc := bnext hbc hX; have hBc := kb hBc hX; have hLc := kb hLc hX; obtain ⟨l0, l1, l2, l3⟩ := lv_cells hLc; rw [HF.out])
                  | (go_at_call 20; with_reducible refine (check_any C _ (HG.out.below hbc)).mono ?_; rintro e wX ⟨rfl, hX⟩; have hbc := bnext hbc hX; have hBc := kb hBc hX; have hLc := kb hLc hX; obtain ⟨l0, l1, l2, l3⟩ := lv_cells hLc; rw [HK.out])
                  | (go_at_call 31; with_reducible refine (lfits_any C L now _ (HG.out.below hbc) (HL.out.below hbc) (by omega)).mono ?_; rintro e wX ⟨rfl, hX⟩; have hbc := bnext hbc hX; have hBc := kb hBc hX; have hLc := kb hLc hX; obtain ⟨l0, l1, l2, l3⟩ := lv_cells hLc; rw [HFI.out])
                  | (go_at_call 29; with_reducible refine (llate_any C L now _ (HG.out.below hbc) (HL.out.below hbc) (by omega)).mono ?_; rintro e wX ⟨rfl, hX⟩; have hbc := bnext hbc hX; have hBc := kb hBc hX; have hLc := kb hLc hX; obtain ⟨l0, l1, l2, l3⟩ := lv_cells hLc; rw [HLA.out])
                  | (go_at_call 27; with_reducible refine (held_any C L now _ (HG.out.below hbc) (HL.out.below hbc) (by omega)).mono ?_; rintro e wX ⟨rfl, hX⟩; have hbc := bnext hbc hX; have hBc := kb hBc hX; have hLc := kb hLc hX; obtain ⟨l0, l1, l2, l3⟩ := lv_cells hLc; rw [HHE.out])
                  | (go_at_call 27; with_reducible refine (held_any C L (now - back) _ (HG.out.below hbc) (HL.out.below hbc) (by omega)).mono ?_; rintro e wX ⟨rfl, hX⟩; have hbc := bnext hbc hX; have hBc := kb hBc hX; have hLc := kb hLc hX; obtain ⟨l0, l1, l2, l3⟩ := lv_cells hLc; rw [HAH.out]))
                go_ret
                exact ⟨rfl, hbc⟩
            · have d2 : decide (L.asked < 0) = true := decide_eq_true (by omega)
              go_enter Try.func7, Try.ntmps7
              go_wp2_with (first
                | (with_reducible refine wpList_load_cfg rfl _ rfl w.heap.size rfl C hBc ?_)
                | (with_reducible refine wpList_load_lv rfl _ rfl (w.heap.size + 1) rfl L hLc ?_)
                | (go_at_call 22; refine (lawake_true _).mono ?_; rintro e wX ⟨rfl, hX⟩; have hbc := bnext hbc hX; have hBc := kb hBc hX; have hLc := kb hLc hX; obtain ⟨l0, l1, l2, l3⟩ := lv_cells hLc)
                | (go_at_call 12; with_reducible refine (few_any C _ (HG.out.below hbc)).mono ?_; rintro e wX ⟨rfl, hX⟩; have hbc := bnext hbc hX; have hBc := kb hBc hX; have hLc := kb hLc hX; obtain ⟨l0, l1, l2, l3⟩ := lv_cells hLc; rw [HF.out])
                | (go_at_call 20; with_reducible refine (check_any C _ (HG.out.below hbc)).mono ?_; rintro e wX ⟨rfl, hX⟩; have hbc := bnext hbc hX; have hBc := kb hBc hX; have hLc := kb hLc hX; obtain ⟨l0, l1, l2, l3⟩ := lv_cells hLc; rw [HK.out]))
              go_ret
              exact ⟨rfl, hbc⟩
          · have d1 : decide ((1152921504606846976 : Int) < now) = true := decide_eq_true (by omega)
            go_enter Try.func7, Try.ntmps7
            go_wp2_with (first
              | (with_reducible refine wpList_load_cfg rfl _ rfl w.heap.size rfl C hBc ?_)
              | (with_reducible refine wpList_load_lv rfl _ rfl (w.heap.size + 1) rfl L hLc ?_)
              | (go_at_call 22; refine (lawake_true _).mono ?_; rintro e wX ⟨rfl, hX⟩; have hbc := bnext hbc hX; have hBc := kb hBc hX; have hLc := kb hLc hX; obtain ⟨l0, l1, l2, l3⟩ := lv_cells hLc)
              | (go_at_call 12; with_reducible refine (few_any C _ (HG.out.below hbc)).mono ?_; rintro e wX ⟨rfl, hX⟩; have hbc := bnext hbc hX; have hBc := kb hBc hX; have hLc := kb hLc hX; obtain ⟨l0, l1, l2, l3⟩ := lv_cells hLc; rw [HF.out])
              | (go_at_call 20; with_reducible refine (check_any C _ (HG.out.below hbc)).mono ?_; rintro e wX ⟨rfl, hX⟩; have hbc := bnext hbc hX; have hBc := kb hBc hX; have hLc := kb hLc hX; obtain ⟨l0, l1, l2, l3⟩ := lv_cells hLc; rw [HK.out]))
            go_ret
            exact ⟨rfl, hbc⟩
        · have d0 : decide (now < 0) = true := decide_eq_true (by omega)
          go_enter Try.func7, Try.ntmps7
          go_wp2_with (first
            | (with_reducible refine wpList_load_cfg rfl _ rfl w.heap.size rfl C hBc ?_)
            | (with_reducible refine wpList_load_lv rfl _ rfl (w.heap.size + 1) rfl L hLc ?_)
            | (go_at_call 22; refine (lawake_true _).mono ?_; rintro e wX ⟨rfl, hX⟩; have hbc := bnext hbc hX; have hBc := kb hBc hX; have hLc := kb hLc hX; obtain ⟨l0, l1, l2, l3⟩ := lv_cells hLc)
            | (go_at_call 12; with_reducible refine (few_any C _ (HG.out.below hbc)).mono ?_; rintro e wX ⟨rfl, hX⟩; have hbc := bnext hbc hX; have hBc := kb hBc hX; have hLc := kb hLc hX; obtain ⟨l0, l1, l2, l3⟩ := lv_cells hLc; rw [HF.out])
            | (go_at_call 20; with_reducible refine (check_any C _ (HG.out.below hbc)).mono ?_; rintro e wX ⟨rfl, hX⟩; have hbc := bnext hbc hX; have hBc := kb hBc hX; have hLc := kb hLc hX; obtain ⟨l0, l1, l2, l3⟩ := lv_cells hLc; rw [HK.out]))
          go_ret
          exact ⟨rfl, hbc⟩
      · have HK : Hid (chkI C = 90) := by show chkI C = 90; unfold chkI; rw [if_neg hc]
        clear hc
        go_enter Try.func7, Try.ntmps7
        go_wp2_with (first
          | (with_reducible refine wpList_load_cfg rfl _ rfl w.heap.size rfl C hBc ?_)
          | (with_reducible refine wpList_load_lv rfl _ rfl (w.heap.size + 1) rfl L hLc ?_)
          | (go_at_call 22; refine (lawake_true _).mono ?_; rintro e wX ⟨rfl, hX⟩; have hbc := bnext hbc hX; have hBc := kb hBc hX; have hLc := kb hLc hX; obtain ⟨l0, l1, l2, l3⟩ := lv_cells hLc)
          | (go_at_call 12; with_reducible refine (few_any C _ (HG.out.below hbc)).mono ?_; rintro e wX ⟨rfl, hX⟩; have hbc := bnext hbc hX; have hBc := kb hBc hX; have hLc := kb hLc hX; obtain ⟨l0, l1, l2, l3⟩ := lv_cells hLc; rw [HF.out])
          | (go_at_call 20; with_reducible refine (check_any C _ (HG.out.below hbc)).mono ?_; rintro e wX ⟨rfl, hX⟩; have hbc := bnext hbc hX; have hBc := kb hBc hX; have hLc := kb hLc hX; obtain ⟨l0, l1, l2, l3⟩ := lv_cells hLc; rw [HK.out]))
        go_ret
        exact ⟨rfl, hbc⟩
    · have d50 : decide ((50 : Int) < L.fn) = true := decide_eq_true (by omega)
      go_enter Try.func7, Try.ntmps7
      go_wp2_with (first
        | (with_reducible refine wpList_load_cfg rfl _ rfl w.heap.size rfl C hBc ?_)
        | (with_reducible refine wpList_load_lv rfl _ rfl (w.heap.size + 1) rfl L hLc ?_)
        | (go_at_call 22; refine (lawake_true _).mono ?_; rintro e wX ⟨rfl, hX⟩; have hbc := bnext hbc hX; have hBc := kb hBc hX; have hLc := kb hLc hX; obtain ⟨l0, l1, l2, l3⟩ := lv_cells hLc)
        | (go_at_call 12; with_reducible refine (few_any C _ (HG.out.below hbc)).mono ?_; rintro e wX ⟨rfl, hX⟩; have hbc := bnext hbc hX; have hBc := kb hBc hX; have hLc := kb hLc hX; obtain ⟨l0, l1, l2, l3⟩ := lv_cells hLc; rw [HF.out])
        | (go_at_call 20; with_reducible refine (check_any C _ (HG.out.below hbc)).mono ?_; rintro e wX ⟨rfl, hX⟩; have hbc := bnext hbc hX; have hBc := kb hBc hX; have hLc := kb hLc hX; obtain ⟨l0, l1, l2, l3⟩ := lv_cells hLc; rw [HK.out]))
      go_ret
      exact ⟨rfl, hbc⟩
  · have HF : Hid (fewB C = false) := by show _ = _; simpa using hf
    clear hf
    go_enter Try.func7, Try.ntmps7
    go_wp2_with (first
      | (with_reducible refine wpList_load_cfg rfl _ rfl w.heap.size rfl C hBc ?_)
      | (with_reducible refine wpList_load_lv rfl _ rfl (w.heap.size + 1) rfl L hLc ?_)
      | (go_at_call 22; refine (lawake_true _).mono ?_; rintro e wX ⟨rfl, hX⟩; have hbc := bnext hbc hX; have hBc := kb hBc hX; have hLc := kb hLc hX; obtain ⟨l0, l1, l2, l3⟩ := lv_cells hLc)
      | (go_at_call 12; with_reducible refine (few_any C _ (HG.out.below hbc)).mono ?_; rintro e wX ⟨rfl, hX⟩; have hbc := bnext hbc hX; have hBc := kb hBc hX; have hLc := kb hLc hX; obtain ⟨l0, l1, l2, l3⟩ := lv_cells hLc; rw [HF.out])
      | (go_at_call 20; with_reducible refine (check_any C _ (HG.out.below hbc)).mono ?_; rintro e wX ⟨rfl, hX⟩; have hbc := bnext hbc hX; have hBc := kb hBc hX; have hLc := kb hLc hX; obtain ⟨l0, l1, l2, l3⟩ := lv_cells hLc; rw [HK.out]))
    go_ret
    exact ⟨rfl, hbc⟩
end Go.Proofs.Ytmhggpmhekeemaa
