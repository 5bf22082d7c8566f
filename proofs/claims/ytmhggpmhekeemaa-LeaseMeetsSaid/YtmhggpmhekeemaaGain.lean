/- Few, Majority, Gain, and what a time is. -/
import Derived.Test.YtmhggpmhekeemaaCheck
namespace Go.Proofs.Ytmhggpmhekeemaa
open Go.RowKit
def majI (C : Cv) : Int := if chk C = true then C.nodes / 2 + 1 else 0
def gainI (C : Cv) (t : Int) : Int := if chk C = true then min (max t (1000 - C.rho)) (1000 + C.rho) else 0
def timeB (a b : Int) : Bool := decide (0 ≤ a ∧ b ≤ 4611686018427387904 ∧ a ≤ b)
def holdsB (C : Cv) (a b : Int) : Bool := chk C && (timeB a b && decide (b - a < C.hold))
def freeB (C : Cv) (a b : Int) : Bool := chk C && (timeB a b && decide (C.grant ≤ b - a))
def lateB (C : Cv) (a b : Int) : Bool := chk C && (!holdsB C a b || decide (C.hold - (b - a) ≤ C.guard))
def fewB (C : Cv) : Bool := decide (C.sn ≤ 20 ∧ C.nn ≤ 20)

/-- What a plan that may be is. -/
theorem chk_facts {C : Cv} (h : chk C = true) : (1 ≤ C.nodes ∧ C.nodes ≤ 9) ∧ (1 ≤ C.slots ∧ C.slots ≤ C.nodes) ∧ (0 ≤ C.rho ∧ C.rho ≤ 500) ∧ (1 ≤ C.hold ∧ C.hold ≤ 1073741824) ∧ (1 ≤ C.grant ∧ C.grant ≤ 1073741824) ∧ (1 ≤ C.guard ∧ C.guard ≤ 1073741824) ∧ (1 ≤ C.work ∧ C.work ≤ 1073741824) ∧
    C.hold * (1000 + C.rho) < C.grant * (1000 - C.rho) ∧ 1000 + C.rho ≤ C.guard ∧ (1 ≤ C.soak ∧ C.soak ≤ 20) ∧ (0 ≤ C.pass ∧ C.pass ≤ 1000) := by
  unfold chk q1 q2 q4 tmB inR at h
  simp only [Bool.and_eq_true, decide_eq_true_eq] at h
  omega

set_option maxRecDepth 100000 in
theorem few_any (C : Cv) (w : World) (h : Good w C) :
    Calls Try.prog 12 #[.agg C.cells] w fun e w' => e = .returned (.bool (fewB C)) ∧ Below w.heap.size w w' := by
  have hsn := h.st.small'
  have hnn := h.ne.small'
  have HBO := Lib.hid (bnew (brefl w) (Obj.cells C.cells 24))
  clear h
  go_enter Try.func12, Try.ntmps12
  go_wp2_with fail
  all_goals
    go_ret
    exact ⟨ret_bool (by unfold fewB; rw [Bool.eq_iff_iff]; simp; omega), HBO.out⟩

set_option maxRecDepth 100000 in
theorem may_any (C : Cv) (w : World) (h : Good w C) :
    Calls Try.prog 68 #[.agg C.cells] w fun e w' => e = .returned (.bool (chk C)) ∧ Below w.heap.size w w' := by
  have HG := Lib.hid h
  have HE : Hid ((chkI C == 0) = chk C) := by
    show (chkI C == 0) = chk C
    unfold chkI
    cases chk C <;> rfl
  clear h
  go_enter Try.func68, Try.ntmps68
  go_wp2_with (go_at_call 20; refine (check_any C _ (HG.out.below (bnew (brefl w) _))).mono ?_; rintro e w1 ⟨rfl, hb1⟩)
  go_ret
  exact ⟨ret_bool HE.out, bnext (bnew (brefl w) _) hb1⟩

set_option maxRecDepth 100000 in
theorem time_any (a b : Int) (w : World) :
    Calls Try.prog 71 #[.int .i64 a, .int .i64 b] w fun e w' => e = .returned (.bool (timeB a b)) ∧ w = w' := by
  go_enter Try.func71, Try.ntmps71
  go_wp2_with fail
  all_goals
    go_ret
    exact ⟨ret_bool (by unfold timeB; rw [Bool.eq_iff_iff]; simp; omega), rfl⟩
set_option maxRecDepth 100000 in
theorem rtime_any (a b : Int) (w : World) :
    Calls Try.prog 72 #[.int .i64 a, .int .i64 b] w fun e w' => e = .returned (.bool (timeB a b)) ∧ w = w' := by
  go_enter Try.func72, Try.ntmps72
  go_wp2_with fail
  all_goals
    go_ret
    exact ⟨ret_bool (by unfold timeB; rw [Bool.eq_iff_iff]; simp; omega), rfl⟩

set_option maxRecDepth 100000 in
theorem maj_any (C : Cv) (w : World) (h : Good w C) :
    Calls Try.prog 63 #[.agg C.cells] w fun e w' => e = .returned (.int .i64 (majI C)) ∧ Below w.heap.size w w' := by
  have HG := Lib.hid h
  clear h
  by_cases hc : chk C = true
  · have hn0 : 0 ≤ C.nodes := by have := chk_facts hc; omega
    have hn1 : C.nodes ≤ 9 := by have := chk_facts hc; omega
    have HM : Hid (majI C = C.nodes / 2 + 1) := by show majI C = _; unfold majI; rw [if_pos hc]
    have HC := Lib.hid hc
    clear hc
    go_enter Try.func63, Try.ntmps63
    go_wp2_with (go_at_call 68; refine (may_any C _ (HG.out.below (bnew (brefl w) _))).mono ?_; rintro e w1 ⟨rfl, hb1⟩; rw [HC.out]; have f0 : w1.cell? ⟨w.heap.size, 0, none⟩ = some (.int .i64 C.nodes) := by rw [cell_of_row _ _ _ _ _ _ ((hb1.block _ (by simp)).trans (heap_alloc_new _ _))]; rfl)
    go_ret
    exact ⟨ret_int (by rw [HM.out]), bnext (bnew (brefl w) _) hb1⟩
  · have HM : Hid (majI C = 0) := by show majI C = _; unfold majI; rw [if_neg hc]
    have HC : Hid (chk C = false) := by show chk C = false; simpa using hc
    clear hc
    go_enter Try.func63, Try.ntmps63
    go_wp2_with (go_at_call 68; refine (may_any C _ (HG.out.below (bnew (brefl w) _))).mono ?_; rintro e w1 ⟨rfl, hb1⟩; rw [HC.out])
    go_ret
    exact ⟨ret_int (by rw [HM.out]), bnext (bnew (brefl w) _) hb1⟩

set_option maxRecDepth 100000 in
theorem gain_any (C : Cv) (t : Int) (w : World) (h : Good w C) :
    Calls Try.prog 35 #[.agg C.cells, .int .i64 t] w fun e w' => e = .returned (.int .i64 (gainI C t)) ∧ Below w.heap.size w w' := by
  have HG := Lib.hid h
  clear h
  by_cases hc : chk C = true
  · have hn0 : 0 ≤ C.rho := by have := chk_facts hc; omega
    have hn1 : C.rho ≤ 500 := by have := chk_facts hc; omega
    have HM : Hid (gainI C t = min (max t (1000 - C.rho)) (1000 + C.rho)) := by show gainI C t = _; unfold gainI; rw [if_pos hc]
    have HC := Lib.hid hc
    clear hc
    go_enter Try.func35, Try.ntmps35
    go_wp2_with (go_at_call 68; refine (may_any C _ (HG.out.below (bnew (brefl w) _))).mono ?_; rintro e w1 ⟨rfl, hb1⟩; rw [HC.out]; have f2 : w1.cell? ⟨w.heap.size, 2, none⟩ = some (.int .i64 C.rho) := by rw [cell_of_row _ _ _ _ _ _ ((hb1.block _ (by simp)).trans (heap_alloc_new _ _))]; rfl)
    go_ret
    exact ⟨ret_int (by rw [HM.out]), bnext (bnew (brefl w) _) hb1⟩
  · have HM : Hid (gainI C t = 0) := by show gainI C t = _; unfold gainI; rw [if_neg hc]
    have HC : Hid (chk C = false) := by show chk C = false; simpa using hc
    clear hc
    go_enter Try.func35, Try.ntmps35
    go_wp2_with (go_at_call 68; refine (may_any C _ (HG.out.below (bnew (brefl w) _))).mono ?_; rintro e w1 ⟨rfl, hb1⟩; rw [HC.out])
    go_ret
    exact ⟨ret_int (by rw [HM.out]), bnext (bnew (brefl w) _) hb1⟩
end Go.Proofs.Ytmhggpmhekeemaa
