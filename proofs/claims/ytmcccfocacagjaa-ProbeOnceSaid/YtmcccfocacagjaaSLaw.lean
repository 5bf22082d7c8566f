/- Small facts on clean scores. -/
import Derived.Test.YtmcccfocacagjaaSAwake
namespace Go.Proofs.Ytmcccfocacagjaa
open Go.RowKit
theorem kind_small {c : Nat} (h : c ≤ ONE) : kindF c = if c = 0 then 4 else 5 := by
  have hb : c < 18446744073709551616 := by unfold ONE at h; omega
  unfold ONE at h
  have := kind_cases hb
  split
  · subst c; decide
  · rcases this with ⟨g, g'⟩ | g | g | g | g | g | g
    · unfold isN at g; simp at g; omega
    all_goals omega
theorem bits_small {c : Nat} (h : c ≤ ONE) : bitsF c = c := by
  unfold bitsF
  rw [kind_small h]
  split <;> split <;> simp_all
theorem clean_lt (b : Nat) : cleanF b < 18446744073709551616 := by have := cleanF_le b; unfold ONE at this; omega
theorem u64_nat {a : Int} (h : (Lit.int .u64 a).wf = true) : ∃ n : Nat, a = n ∧ n < 18446744073709551616 := by
  simp only [Lit.wf, Bool.and_eq_true, decide_eq_true_eq] at h
  have h1 : IntKind.u64.min = 0 := rfl
  have h2 : IntKind.u64.max = 18446744073709551615 := rfl
  exact ⟨a.toNat, by omega, by omega⟩
end Go.Proofs.Ytmcccfocacagjaa
