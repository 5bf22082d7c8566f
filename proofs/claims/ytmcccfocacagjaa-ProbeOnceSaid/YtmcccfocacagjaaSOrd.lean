/- The order of scores, in plain Lean. -/
import Derived.Test.YtmcccfocacagjaaSLaw
namespace Go.Proofs.Ytmcccfocacagjaa
open Go.RowKit
theorem cmpI_lt {p q : Int} (h : p < q) : cmpI p q = -1 := if_pos h
theorem cmpI_gt {p q : Int} (h : q < p) : cmpI p q = 1 := by unfold cmpI; rw [if_neg (by omega), if_pos h]
theorem cmpI_eq {p q : Int} (h : p = q) : cmpI p q = 0 := by unfold cmpI; rw [if_neg (by omega), if_neg (by omega)]
theorem cmpI_cases (p q : Int) : (p < q ∧ cmpI p q = -1) ∨ (p = q ∧ cmpI p q = 0) ∨ (q < p ∧ cmpI p q = 1) := by
  rcases Int.lt_trichotomy p q with h | h | h
  · exact .inl ⟨h, cmpI_lt h⟩
  · exact .inr (.inl ⟨h, cmpI_eq h⟩)
  · exact .inr (.inr ⟨h, cmpI_gt h⟩)
theorem cmpI_anti (p q : Int) : cmpI q p = - cmpI p q := by
  have := cmpI_cases p q
  have := cmpI_cases q p
  omega
def rank (b : Nat) : Int := kindF b * 36893488147419103232 + (if kindF b = 0 then 0 else key b)
theorem key_range {b : Nat} (h : b < 18446744073709551616) : -9223372036854775808 ≤ key b ∧ key b ≤ 9223372036854775808 := by unfold key; split <;> omega
theorem ordF_rank {a b : Nat} (ha : a < 18446744073709551616) (hb : b < 18446744073709551616) : ordF a b = cmpI (rank a) (rank b) := by
  have ka := key_range ha
  have kb := key_range hb
  have za := @kind_nan a
  have zb := @kind_nan b
  have ca := kind_cases ha
  have cb := kind_cases hb
  unfold ordF
  by_cases h1 : kindF a < kindF b
  · have : rank a < rank b := by unfold rank; split <;> split <;> omega
    rw [cmpI_lt h1, cmpI_lt this]; rfl
  · by_cases h2 : kindF b < kindF a
    · have : rank b < rank a := by unfold rank; split <;> split <;> omega
      rw [cmpI_gt h2, cmpI_gt this]; rfl
    · have e : kindF a = kindF b := by omega
      have e1 : cmpI (kindF a) (kindF b) = 0 := by unfold cmpI; rw [if_neg h1, if_neg h2]
      have e2 : (if cmpI (kindF a) (kindF b) ≠ 0 then cmpI (kindF a) (kindF b) else cmpF a b) = cmpF a b := by rw [e1]; exact if_neg (by simp)
      rw [e2]
      by_cases h0 : kindF a = 0
      · have na : isN a = true := by rcases ca with h | h | h | h | h | h | h <;> first | exact h.1 | (exfalso; omega)
        have nb : isN b = true := by rcases cb with h | h | h | h | h | h | h <;> first | exact h.1 | (exfalso; omega)
        unfold cmpF rank cmpI
        rw [na, nb, ← e, h0]; rfl
      · rw [cmpF_fin (za h0) (zb (by omega))]
        unfold rank
        rw [if_neg h0, if_neg (by omega), e]
        have c1 := cmpI_cases (key a) (key b)
        have c2 := cmpI_cases (kindF b * 36893488147419103232 + key a) (kindF b * 36893488147419103232 + key b)
        omega
theorem rank_bits {a b : Nat} (ha : a < 18446744073709551616) (hb : b < 18446744073709551616) : rank a = rank b ↔ bitsF a = bitsF b := by
  have ka := key_range ha
  have kb := key_range hb
  have ca := kind_cases ha
  have cb := kind_cases hb
  have kn : kindF 9221120237041090561 = 0 := by decide
  unfold bitsF NANC
  by_cases h : kindF a = 0
  · rw [if_pos h]
    by_cases g : kindF b = 0
    · rw [if_pos g]; unfold rank; rw [h, g]; simp
    · rw [if_neg g]
      constructor
      · intro e; exfalso; unfold rank at e; rw [h, if_neg g] at e; simp at e; omega
      · intro e; exfalso; apply g; rw [← e]; exact kn
  · rw [if_neg h]
    by_cases g : kindF b = 0
    · rw [if_pos g]
      constructor
      · intro e; exfalso; unfold rank at e; rw [g, if_neg h] at e; simp at e; omega
      · intro e; exfalso; apply h; rw [e]; exact kn
    · rw [if_neg g]
      constructor
      · intro e
        unfold rank at e; rw [if_neg h, if_neg g] at e
        have e1 : kindF a = kindF b := by omega
        have e2 : key a = key b := by omega
        unfold key at e2
        rcases ca with h' | h' | h' | h' | h' | h' | h' <;> rcases cb with g' | g' | g' | g' | g' | g' | g' <;> first | (exfalso; omega) | (split at e2 <;> split at e2 <;> omega)
      · rintro rfl; rfl
end Go.Proofs.Ytmcccfocacagjaa
