/- Holds, Late, Free. -/
import Derived.Test.YtmhggpmhekeemaaGain
namespace Go.Proofs.Ytmhggpmhekeemaa
open Go.RowKit

set_option maxRecDepth 100000 in
theorem holds_any (C : Cv) (a b : Int) (w : World) (h : Good w C) :
    Calls Try.prog 62 #[.agg C.cells, .int .i64 a, .int .i64 b] w fun e w' => e = .returned (.bool (holdsB C a b)) ∧ Below w.heap.size w w' := by
  have HG := Lib.hid h
  clear h
  by_cases hc : chk C = true
  · by_cases ht : timeB a b = true
    · have hr : 0 ≤ a ∧ b ≤ 4611686018427387904 ∧ a ≤ b := by simpa [timeB] using ht
      obtain ⟨h0, h1, h2⟩ := hr
      have hg : 0 ≤ C.hold := by have := chk_facts hc; omega
      have HM : Hid (holdsB C a b = decide (b - a < C.hold)) := by show holdsB C a b = _; unfold holdsB; rw [hc, ht]; rfl
      have HC := Lib.hid hc
      have HT := Lib.hid ht
      clear hc ht
      go_enter Try.func62, Try.ntmps62
      go_wp2_with (first | (go_at_call 68; refine (may_any C _ (HG.out.below (bnew (brefl w) _))).mono ?_; rintro e w1 ⟨rfl, hb1⟩; rw [HC.out]; have f3 : w1.cell? ⟨w.heap.size, 3, none⟩ = some (.int .i64 C.hold) := by rw [cell_of_row _ _ _ _ _ _ ((hb1.block _ (by simp)).trans (heap_alloc_new _ _))]; rfl) | (go_at_call 71; refine (time_any _ _ _).mono ?_; rintro e _ ⟨rfl, rfl⟩; rw [HT.out]))
      go_ret
      exact ⟨ret_bool (by rw [HM.out]), bnext (bnew (brefl w) _) hb1⟩
    · have HM : Hid (holdsB C a b = false) := by show holdsB C a b = _; unfold holdsB; rw [Bool.not_eq_true] at ht; rw [ht]; simp
      have HC := Lib.hid hc
      have HT : Hid (timeB a b = false) := by show timeB a b = false; simpa using ht
      clear hc ht
      go_enter Try.func62, Try.ntmps62
      go_wp2_with (first | (go_at_call 68; refine (may_any C _ (HG.out.below (bnew (brefl w) _))).mono ?_; rintro e w1 ⟨rfl, hb1⟩; rw [HC.out]; have f3 : w1.cell? ⟨w.heap.size, 3, none⟩ = some (.int .i64 C.hold) := by rw [cell_of_row _ _ _ _ _ _ ((hb1.block _ (by simp)).trans (heap_alloc_new _ _))]; rfl) | (go_at_call 71; refine (time_any _ _ _).mono ?_; rintro e _ ⟨rfl, rfl⟩; rw [HT.out]))
      go_ret
      exact ⟨ret_bool (by rw [HM.out]), bnext (bnew (brefl w) _) hb1⟩
  · have HM : Hid (holdsB C a b = false) := by show holdsB C a b = _; unfold holdsB; rw [Bool.not_eq_true] at hc; rw [hc]; rfl
    have HC : Hid (chk C = false) := by show chk C = false; simpa using hc
    clear hc
    go_enter Try.func62, Try.ntmps62
    go_wp2_with (first | (go_at_call 68; refine (may_any C _ (HG.out.below (bnew (brefl w) _))).mono ?_; rintro e w1 ⟨rfl, hb1⟩; rw [HC.out]; have f3 : w1.cell? ⟨w.heap.size, 3, none⟩ = some (.int .i64 C.hold) := by rw [cell_of_row _ _ _ _ _ _ ((hb1.block _ (by simp)).trans (heap_alloc_new _ _))]; rfl) | (go_at_call 71; refine (time_any _ _ _).mono ?_; rintro e _ ⟨rfl, rfl⟩))
    go_ret
    exact ⟨ret_bool (by rw [HM.out]), bnext (bnew (brefl w) _) hb1⟩

set_option maxRecDepth 100000 in
theorem free_any (C : Cv) (a b : Int) (w : World) (h : Good w C) :
    Calls Try.prog 42 #[.agg C.cells, .int .i64 a, .int .i64 b] w fun e w' => e = .returned (.bool (freeB C a b)) ∧ Below w.heap.size w w' := by
  have HG := Lib.hid h
  clear h
  by_cases hc : chk C = true
  · by_cases ht : timeB a b = true
    · have hr : 0 ≤ a ∧ b ≤ 4611686018427387904 ∧ a ≤ b := by simpa [timeB] using ht
      obtain ⟨h0, h1, h2⟩ := hr
      have hg : 0 ≤ C.grant := by have := chk_facts hc; omega
      have HM : Hid (freeB C a b = decide (C.grant ≤ b - a)) := by show freeB C a b = _; unfold freeB; rw [hc, ht]; rfl
      have HC := Lib.hid hc
      have HT := Lib.hid ht
      clear hc ht
      go_enter Try.func42, Try.ntmps42
      go_wp2_with (first | (go_at_call 68; refine (may_any C _ (HG.out.below (bnew (brefl w) _))).mono ?_; rintro e w1 ⟨rfl, hb1⟩; rw [HC.out]; have f4 : w1.cell? ⟨w.heap.size, 4, none⟩ = some (.int .i64 C.grant) := by rw [cell_of_row _ _ _ _ _ _ ((hb1.block _ (by simp)).trans (heap_alloc_new _ _))]; rfl) | (go_at_call 71; refine (time_any _ _ _).mono ?_; rintro e _ ⟨rfl, rfl⟩; rw [HT.out]))
      go_ret
      exact ⟨ret_bool (by rw [HM.out]), bnext (bnew (brefl w) _) hb1⟩
    · have HM : Hid (freeB C a b = false) := by show freeB C a b = _; unfold freeB; rw [Bool.not_eq_true] at ht; rw [ht]; simp
      have HC := Lib.hid hc
      have HT : Hid (timeB a b = false) := by show timeB a b = false; simpa using ht
      clear hc ht
      go_enter Try.func42, Try.ntmps42
      go_wp2_with (first | (go_at_call 68; refine (may_any C _ (HG.out.below (bnew (brefl w) _))).mono ?_; rintro e w1 ⟨rfl, hb1⟩; rw [HC.out]; have f4 : w1.cell? ⟨w.heap.size, 4, none⟩ = some (.int .i64 C.grant) := by rw [cell_of_row _ _ _ _ _ _ ((hb1.block _ (by simp)).trans (heap_alloc_new _ _))]; rfl) | (go_at_call 71; refine (time_any _ _ _).mono ?_; rintro e _ ⟨rfl, rfl⟩; rw [HT.out]))
      go_ret
      exact ⟨ret_bool (by rw [HM.out]), bnext (bnew (brefl w) _) hb1⟩
  · have HM : Hid (freeB C a b = false) := by show freeB C a b = _; unfold freeB; rw [Bool.not_eq_true] at hc; rw [hc]; rfl
    have HC : Hid (chk C = false) := by show chk C = false; simpa using hc
    clear hc
    go_enter Try.func42, Try.ntmps42
    go_wp2_with (first | (go_at_call 68; refine (may_any C _ (HG.out.below (bnew (brefl w) _))).mono ?_; rintro e w1 ⟨rfl, hb1⟩; rw [HC.out]; have f4 : w1.cell? ⟨w.heap.size, 4, none⟩ = some (.int .i64 C.grant) := by rw [cell_of_row _ _ _ _ _ _ ((hb1.block _ (by simp)).trans (heap_alloc_new _ _))]; rfl) | (go_at_call 71; refine (time_any _ _ _).mono ?_; rintro e _ ⟨rfl, rfl⟩))
    go_ret
    exact ⟨ret_bool (by rw [HM.out]), bnext (bnew (brefl w) _) hb1⟩

set_option maxRecDepth 100000 in
set_option maxHeartbeats 1000000 in
theorem late_any (C : Cv) (a b : Int) (w : World) (h : Good w C) :
    Calls Try.prog 66 #[.agg C.cells, .int .i64 a, .int .i64 b] w fun e w' => e = .returned (.bool (lateB C a b)) ∧ Below w.heap.size w w' := by
  have HG := Lib.hid h
  clear h
  by_cases hc : chk C = true
  · by_cases ht : holdsB C a b = true
    · have hr : (0 ≤ a ∧ b ≤ 4611686018427387904 ∧ a ≤ b) ∧ b - a < C.hold := by
        unfold holdsB timeB at ht
        simpa [hc] using ht
      obtain ⟨⟨h0, h1, h2⟩, h3⟩ := hr
      have hg : C.hold ≤ 1073741824 := by have := chk_facts hc; omega
      have HM : Hid (lateB C a b = decide (C.hold - (b - a) ≤ C.guard)) := by show lateB C a b = _; unfold lateB; rw [hc, ht]; rfl
      have HC := Lib.hid hc
      have HT := Lib.hid ht
      clear hc ht
      go_enter Try.func66, Try.ntmps66
      go_wp2_with (first
        | (go_at_call 68; refine (may_any C _ (HG.out.below (bnew (brefl w) _))).mono ?_; rintro e w1 ⟨rfl, hb1⟩; rw [HC.out]; have hB1 := (hb1.block w.heap.size (by simp)).trans (heap_alloc_new _ _); have hb01 := bnext (bnew (brefl w) _) hb1)
        | (with_reducible refine wpList_load_cfg rfl _ rfl w.heap.size rfl C hB1 ?_)
        | (go_at_call 62; refine (holds_any C a b _ (HG.out.below hb01)).mono ?_; rintro e w2 ⟨rfl, hb2⟩; rw [HT.out]; have f3 : w2.cell? ⟨w.heap.size, 3, none⟩ = some (.int .i64 C.hold) := by rw [cell_of_row _ _ _ _ _ _ ((hb2.block _ (lt_of_block hB1)).trans hB1)]; rfl
           have f5 : w2.cell? ⟨w.heap.size, 5, none⟩ = some (.int .i64 C.guard) := by rw [cell_of_row _ _ _ _ _ _ ((hb2.block _ (lt_of_block hB1)).trans hB1)]; rfl))
      go_ret
      exact ⟨ret_bool (by rw [HM.out]), bnext hb01 hb2⟩
    · have HM : Hid (lateB C a b = true) := by show lateB C a b = _; unfold lateB; rw [Bool.not_eq_true] at ht; rw [hc, ht]; rfl
      have HC := Lib.hid hc
      have HT : Hid (holdsB C a b = false) := by show holdsB C a b = false; simpa using ht
      clear hc ht
      go_enter Try.func66, Try.ntmps66
      go_wp2_with (first
        | (go_at_call 68; refine (may_any C _ (HG.out.below (bnew (brefl w) _))).mono ?_; rintro e w1 ⟨rfl, hb1⟩; rw [HC.out]; have hB1 := (hb1.block w.heap.size (by simp)).trans (heap_alloc_new _ _); have hb01 := bnext (bnew (brefl w) _) hb1)
        | (with_reducible refine wpList_load_cfg rfl _ rfl w.heap.size rfl C hB1 ?_)
        | (go_at_call 62; refine (holds_any C a b _ (HG.out.below hb01)).mono ?_; rintro e w2 ⟨rfl, hb2⟩; rw [HT.out]))
      go_ret
      exact ⟨ret_bool (by rw [HM.out]), bnext hb01 hb2⟩
  · have HM : Hid (lateB C a b = false) := by show lateB C a b = _; unfold lateB; rw [Bool.not_eq_true] at hc; rw [hc]; rfl
    have HC : Hid (chk C = false) := by show chk C = false; simpa using hc
    clear hc
    go_enter Try.func66, Try.ntmps66
    go_wp2_with (first | (go_at_call 68; refine (may_any C _ (HG.out.below (bnew (brefl w) _))).mono ?_; rintro e w1 ⟨rfl, hb1⟩; rw [HC.out]))
    go_ret
    exact ⟨ret_bool (by rw [HM.out]), bnext (bnew (brefl w) _) hb1⟩
end Go.Proofs.Ytmhggpmhekeemaa
