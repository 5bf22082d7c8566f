/- Few, Majority, Gain, and what a time is. -/
import Derived.Test.YtmcccfocacagjaaCheck
namespace Go.Proofs.Ytmcccfocacagjaa
open Go.RowKit
def majI (C : Cv) : Int := if chk C = true then C.nodes / 2 + 1 else 0
def gainI (C : Cv) (t : Int) : Int := if chk C = true then min (max t (1000 - C.rho)) (1000 + C.rho) else 0
def timeB (a b : Int) : Bool := decide (0 ≤ a ∧ b ≤ 4611686018427387904 ∧ a ≤ b)
def holdsB (C : Cv) (a b : Int) : Bool := chk C && (timeB a b && decide (b - a < C.hold))
def freeB (C : Cv) (a b : Int) : Bool := chk C && (timeB a b && decide (C.grant ≤ b - a))
def lateB (C : Cv) (a b : Int) : Bool := chk C && (!holdsB C a b || decide (C.hold - (b - a) ≤ C.guard))
def fewB (C : Cv) : Bool := decide (C.sn ≤ 20 ∧ C.nn ≤ 20)

/-- What a plan that may be is. -/
theorem chk_facts {C : Cv} (h : chk C = true) : (1 ≤ C.nodes ∧ C.nodes ≤ 9) ∧ (1 ≤ C.slots ∧ C.slots ≤ C.nodes) ∧ (0 ≤ C.rho ∧ C.rho ≤ 500) ∧ (1 ≤ C.hold ∧ C.hold ≤ 1073741824) ∧ (1 ≤ C.grant ∧ C.grant ≤ 1073741824) ∧ (1 ≤ C.guard ∧ C.guard ≤ 1073741824) ∧ (1 ≤ C.work ∧ C.work ≤ 1073741824) ∧
    C.hold * (1000 + C.rho) < C.grant * (1000 - C.rho) ∧ 1000 + C.rho ≤ C.guard ∧ (1 ≤ C.soak ∧ C.soak ≤ 20) ∧ (0 ≤ C.pass ∧ C.pass ≤ 1000) := by
  unfold chk cq1 cq2 cq4 tmB inR at h
  simp only [Bool.and_eq_true, decide_eq_true_eq] at h
  omega

set_option maxRecDepth 100000 in
theorem few_any (C : Cv) (w : World) (h : Good w C) :
    Calls Try.prog 15 #[.agg C.cells] w fun e w' => e = .returned (.bool (fewB C)) ∧ Below w.heap.size w w' := by
  have hsn := h.st.small'
  have hnn := h.ne.small'
  have HBO := Lib.hid (bnew (brefl w) (Obj.cells C.cells 24))
  clear h
  go_enter Try.func15, Try.ntmps15
  go_wp2_with fail
  all_goals
    go_ret
    exact ⟨retb (by unfold fewB; rw [Bool.eq_iff_iff]; simp; omega), HBO.out⟩

end Go.Proofs.Ytmcccfocacagjaa
