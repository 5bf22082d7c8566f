/- Comparisons of clean scores; clean scores rise with the order. -/
import Derived.Test.YtmcccfocacagjaaSOrd
namespace Go.Proofs.Ytmcccfocacagjaa
open Go.RowKit
theorem leq_small {c d : Nat} (hc : c ≤ ONE) (hd : d ≤ ONE) : (FloatKind.f64.format.order c d == some .lt || FloatKind.f64.format.order c d == some .eq) = decide (c ≤ d) := by
  unfold ONE at hc hd
  have l := ord_lt (x := c) (y := d) (by omega) (by omega)
  have q := ord_eq (x := c) (y := d) (by omega) (by omega)
  rw [f64_order, l, q]
  unfold bothN isN key
  rw [if_pos (by omega), if_pos (by omega), decide_eq_false (by omega), decide_eq_false (by omega), Bool.eq_iff_iff]
  simp; omega
theorem geq_small {c d : Nat} (hc : c ≤ ONE) (hd : d ≤ ONE) : (FloatKind.f64.format.order c d == some .gt || FloatKind.f64.format.order c d == some .eq) = decide (d ≤ c) := by
  unfold ONE at hc hd
  have l := ord_gt (x := c) (y := d) (by omega) (by omega)
  have q := ord_eq (x := c) (y := d) (by omega) (by omega)
  rw [f64_order, l, q]
  unfold bothN isN key
  rw [if_pos (by omega), if_pos (by omega), decide_eq_false (by omega), decide_eq_false (by omega), Bool.eq_iff_iff]
  simp; omega
theorem clean_clean (b : Nat) : cleanF (cleanF b) = cleanF b := by
  have h := cleanF_le b
  have k := kind_small h
  generalize cleanF b = c at *
  unfold cleanF
  rw [k]
  by_cases h0 : c = 0
  · subst h0; rfl
  · rw [if_neg h0]
    rw [if_neg (by decide), if_pos rfl]
    exact Nat.min_eq_left h
theorem clean_mono {x y : Nat} (hx : x < 18446744073709551616) (hy : y < 18446744073709551616) (h : ordF x y ≤ 0) : cleanF x ≤ cleanF y := by
  rw [ordF_rank hx hy] at h
  have hr : rank x ≤ rank y := by have := cmpI_cases (rank x) (rank y); omega
  have ka := key_range hx
  have kb := key_range hy
  have ca := kind_range hx
  have cb := kind_range hy
  have hk : kindF x ≤ kindF y := by
    unfold rank at hr
    split at hr <;> split at hr <;> omega
  unfold cleanF
  by_cases y6 : kindF y = 6
  · rw [if_pos y6]
    split
    · exact Nat.le_refl _
    · split
      · exact Nat.min_le_right _ _
      · exact Nat.zero_le _
  · rw [if_neg y6, if_neg (by omega)]
    by_cases x5 : kindF x = 5
    · have y5 : kindF y = 5 := by omega
      rw [if_pos x5, if_pos y5]
      have : x ≤ y := by
        unfold rank at hr
        rw [if_neg (by omega), if_neg (by omega), x5, y5] at hr
        have c5 := kind_cases hx
        have d5 := kind_cases hy
        unfold key at hr
        rw [if_pos (by omega), if_pos (by omega)] at hr
        omega
      omega
    · rw [if_neg x5]; exact Nat.zero_le _
end Go.Proofs.Ytmcccfocacagjaa
