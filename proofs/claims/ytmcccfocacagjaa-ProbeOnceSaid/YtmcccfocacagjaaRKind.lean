/- The document's score functions, walked. -/
import Derived.Test.YtmcccfocacagjaaMean
namespace Go.Proofs.Ytmcccfocacagjaa
open Go.RowKit
/-- The cases of the document's kinds: of a word and its rest. -/
def rkCase (c r k : Int) : Prop := (9218868437227405312 < r ∧ k = 0) ∨ (9223372036854775808 ≤ c ∧ r = 9218868437227405312 ∧ k = 1) ∨ (9223372036854775808 ≤ c ∧ 0 < r ∧ r < 9218868437227405312 ∧ k = 2) ∨ (9223372036854775808 ≤ c ∧ r = 0 ∧ k = 3) ∨
  (c < 9223372036854775808 ∧ r = 0 ∧ k = 4) ∨ (c < 9223372036854775808 ∧ 0 < r ∧ r < 9218868437227405312 ∧ k = 5) ∨ (c < 9223372036854775808 ∧ r = 9218868437227405312 ∧ k = 6)
set_option maxRecDepth 100000 in
set_option maxHeartbeats 1000000 in
theorem rkind_gen (b : Nat) (c r k : Int) (w : World) (hb : c < 18446744073709551616) (hb0 : 0 ≤ c) (e : c % 9223372036854775808 = r) (h : rkCase c r k) (hr : ∀ w, (callFunc 30 #[.float .f64 b]).run Try.prog w = .ok (.value (.int .u64 c)) w) :
    Calls Try.prog 24 #[.float .f64 b] w fun e w' => e = .returned (.int .i64 k) ∧ w = w' := by
  rcases h with ⟨h1, rfl⟩ | ⟨h1, h2, rfl⟩ | ⟨h1, h2, h3, rfl⟩ | ⟨h1, h2, rfl⟩ | ⟨h1, h2, rfl⟩ | ⟨h1, h2, h3, rfl⟩ | ⟨h1, h2, rfl⟩
  · go_enter Try.func24, Try.ntmps24
    go_wp2_with fail
    go_ret
    exact ⟨rfl, rfl⟩
  all_goals
    have HR := Lib.hid (show r ≤ 9218868437227405312 by omega)
    have h4 : r ≤ 9218868437227405312 := HR.out
  all_goals
    try (have HZ := Lib.hid h2; clear h2)
    go_enter Try.func24, Try.ntmps24
    go_wp2_with fail
    all_goals
      first
      | (exfalso; have := HZ.out; omega)
      | (exfalso; omega)
      | (go_ret
         exact ⟨rfl, rfl⟩)
theorem rkind_any (b : Nat) (w : World) (hb : b < 18446744073709551616) :
    Calls Try.prog 24 #[.float .f64 b] w fun e w' => e = .returned (.int .i64 (kindF b)) ∧ w = w' := by
  refine rkind_gen b b (b % 9223372036854775808 : Nat) _ w (by omega) (by omega) (by omega) ?_ (run_bits b)
  have hN : isN b = true → 9218868437227405312 < b % 9223372036854775808 := by unfold isN; simp
  unfold rkCase
  rcases kind_cases hb with ⟨h, h'⟩ | h | h | h | h | h | h
  · have := hN h; omega
  all_goals omega
def ordR (k l m n : Int) : Int := if k < l then -1 else if l < k then 1 else if k = 0 then 0 else if m = n then 0 else if k = 2 then (if n < m then -1 else 1) else if m < n then -1 else 1
set_option maxRecDepth 100000 in
set_option maxHeartbeats 2000000 in
theorem rorder_gen (a b : Nat) (c d k l m n : Int) (w : World) (ha : a < 18446744073709551616) (hb : b < 18446744073709551616) (hka : kindF a = k) (hkb : kindF b = l)
    (hc0 : 0 ≤ c) (hd0 : 0 ≤ d) (em : c % 9223372036854775808 = m) (en : d % 9223372036854775808 = n)
    (hra : ∀ w, (callFunc 30 #[.float .f64 a]).run Try.prog w = .ok (.value (.int .u64 c)) w) (hrb : ∀ w, (callFunc 30 #[.float .f64 b]).run Try.prog w = .ok (.value (.int .u64 d)) w) :
    Calls Try.prog 26 #[.float .f64 a, .float .f64 b] w fun e w' => e = .returned (.int .i64 (ordR k l m n)) ∧ w = w' := by
  have HA := Lib.hid ha
  have HB := Lib.hid hb
  have HK := Lib.hid hka
  have HL := Lib.hid hkb
  clear hka hkb ha hb
  by_cases h1 : k < l
  · have HR : Hid (ordR k l m n = -1) := by show _ = _; unfold ordR; rw [if_pos h1]
    have h0 : (k == l) = false := by simp; omega
    go_enter Try.func26, Try.ntmps26
    go_wp2_with (first | (go_at_call 24; (with_reducible refine (rkind_any a _ HA.out).mono ?_); rintro e w' ⟨rfl, rfl⟩; rw [HK.out]) | (go_at_call 24; (with_reducible refine (rkind_any b _ HB.out).mono ?_); rintro e w' ⟨rfl, rfl⟩; rw [HL.out]))
    go_ret
    exact ⟨ret_int HR.out.symm, rfl⟩
  · by_cases h2 : l < k
    · have HR : Hid (ordR k l m n = 1) := by show _ = _; unfold ordR; rw [if_neg h1, if_pos h2]
      have h0 : (k == l) = false := by simp; omega
      go_enter Try.func26, Try.ntmps26
      go_wp2_with (first | (go_at_call 24; (with_reducible refine (rkind_any a _ HA.out).mono ?_); rintro e w' ⟨rfl, rfl⟩; rw [HK.out]) | (go_at_call 24; (with_reducible refine (rkind_any b _ HB.out).mono ?_); rintro e w' ⟨rfl, rfl⟩; rw [HL.out]))
      go_ret
      exact ⟨ret_int HR.out.symm, rfl⟩
    · obtain rfl : k = l := by omega
      clear h1 h2
      by_cases h0 : k = 0
      · subst h0
        have HR : Hid (ordR 0 0 m n = 0) := by show _ = _; unfold ordR; simp
        go_enter Try.func26, Try.ntmps26
        go_wp2_with (first | (go_at_call 24; (with_reducible refine (rkind_any a _ HA.out).mono ?_); rintro e w' ⟨rfl, rfl⟩; rw [HK.out]) | (go_at_call 24; (with_reducible refine (rkind_any b _ HB.out).mono ?_); rintro e w' ⟨rfl, rfl⟩; rw [HL.out]))
        go_ret
        exact ⟨ret_int HR.out.symm, rfl⟩
      · by_cases h2 : k = 2
        · subst h2
          rcases Int.lt_trichotomy m n with h | h | h
          · have HR : Hid (ordR 2 2 m n = 1) := by show _ = _; unfold ordR; simp; omega
            have hx : (n == m) = false := by simp; omega
            go_enter Try.func26, Try.ntmps26
            go_wp2_with (first | (go_at_call 24; (with_reducible refine (rkind_any a _ HA.out).mono ?_); rintro e w' ⟨rfl, rfl⟩; rw [HK.out]) | (go_at_call 24; (with_reducible refine (rkind_any b _ HB.out).mono ?_); rintro e w' ⟨rfl, rfl⟩; rw [HL.out]))
            go_ret
            exact ⟨ret_int HR.out.symm, rfl⟩
          · subst h
            have HR : Hid (ordR 2 2 m m = 0) := by show _ = _; unfold ordR; simp
            go_enter Try.func26, Try.ntmps26
            go_wp2_with (first | (go_at_call 24; (with_reducible refine (rkind_any a _ HA.out).mono ?_); rintro e w' ⟨rfl, rfl⟩; rw [HK.out]) | (go_at_call 24; (with_reducible refine (rkind_any b _ HB.out).mono ?_); rintro e w' ⟨rfl, rfl⟩; rw [HL.out]))
            go_ret
            exact ⟨ret_int HR.out.symm, rfl⟩
          · have HR : Hid (ordR 2 2 m n = -1) := by show _ = _; unfold ordR; simp; omega
            have hx : (n == m) = false := by simp; omega
            go_enter Try.func26, Try.ntmps26
            go_wp2_with (first | (go_at_call 24; (with_reducible refine (rkind_any a _ HA.out).mono ?_); rintro e w' ⟨rfl, rfl⟩; rw [HK.out]) | (go_at_call 24; (with_reducible refine (rkind_any b _ HB.out).mono ?_); rintro e w' ⟨rfl, rfl⟩; rw [HL.out]))
            go_ret
            exact ⟨ret_int HR.out.symm, rfl⟩
        · have k0 : (k == 0) = false := by simpa using h0
          have k2 : (k == 2) = false := by simpa using h2
          rcases Int.lt_trichotomy m n with h | h | h
          · have HR : Hid (ordR k k m n = -1) := by show _ = _; unfold ordR; simp [h0, h2]; omega
            have hx : (m == n) = false := by simp; omega
            clear h0 h2
            go_enter Try.func26, Try.ntmps26
            go_wp2_with (first | (go_at_call 24; (with_reducible refine (rkind_any a _ HA.out).mono ?_); rintro e w' ⟨rfl, rfl⟩; rw [HK.out]) | (go_at_call 24; (with_reducible refine (rkind_any b _ HB.out).mono ?_); rintro e w' ⟨rfl, rfl⟩; rw [HL.out]))
            go_ret
            exact ⟨ret_int HR.out.symm, rfl⟩
          · subst h
            have HR : Hid (ordR k k m m = 0) := by show _ = _; unfold ordR; simp
            clear h0 h2
            go_enter Try.func26, Try.ntmps26
            go_wp2_with (first | (go_at_call 24; (with_reducible refine (rkind_any a _ HA.out).mono ?_); rintro e w' ⟨rfl, rfl⟩; rw [HK.out]) | (go_at_call 24; (with_reducible refine (rkind_any b _ HB.out).mono ?_); rintro e w' ⟨rfl, rfl⟩; rw [HL.out]))
            go_ret
            exact ⟨ret_int HR.out.symm, rfl⟩
          · have HR : Hid (ordR k k m n = 1) := by show _ = _; unfold ordR; simp [h0, h2]; omega
            have hx : (m == n) = false := by simp; omega
            clear h0 h2
            go_enter Try.func26, Try.ntmps26
            go_wp2_with (first | (go_at_call 24; (with_reducible refine (rkind_any a _ HA.out).mono ?_); rintro e w' ⟨rfl, rfl⟩; rw [HK.out]) | (go_at_call 24; (with_reducible refine (rkind_any b _ HB.out).mono ?_); rintro e w' ⟨rfl, rfl⟩; rw [HL.out]))
            go_ret
            exact ⟨ret_int HR.out.symm, rfl⟩
theorem isN_kind {b : Nat} : isN b = true → kindF b = 0 := by intro h; unfold kindF kB; rw [h]; rfl
theorem cmpF_fin {a b : Nat} (ha : isN a = false) (hb : isN b = false) : cmpF a b = cmpI (key a) (key b) := by unfold cmpF; rw [ha, hb]; rfl
theorem kind_nan {b : Nat} (h : kindF b ≠ 0) : isN b = false := by
  cases e : isN b
  · rfl
  · exact absurd (isN_kind e) h
theorem ordR_eq (a b : Nat) (ha : a < 18446744073709551616) (hb : b < 18446744073709551616) : ordR (kindF a) (kindF b) (a % 9223372036854775808 : Nat) (b % 9223372036854775808 : Nat) = ordF a b := by
  have za := @kind_nan a
  have zb := @kind_nan b
  have ca := kind_cases ha
  have cb := kind_cases hb
  unfold ordR ordF
  by_cases h1 : kindF a < kindF b
  · rw [if_pos h1]; unfold cmpI; rw [if_pos h1]; rfl
  · rw [if_neg h1]
    by_cases h2 : kindF b < kindF a
    · rw [if_pos h2]; unfold cmpI; rw [if_neg h1, if_pos h2]; rfl
    · rw [if_neg h2]
      have e : cmpI (kindF a) (kindF b) = 0 := by unfold cmpI; rw [if_neg h1, if_neg h2]
      rw [e]
      by_cases h0 : kindF a = 0
      · have na : isN a = true := by rcases ca with h | h | h | h | h | h | h <;> first | exact h.1 | (exfalso; omega)
        have nb : isN b = true := by rcases cb with h | h | h | h | h | h | h <;> first | exact h.1 | (exfalso; omega)
        rw [if_pos h0]; unfold cmpF; rw [na, nb]; rfl
      · have e2 : (if (0 : Int) ≠ 0 then (0 : Int) else cmpF a b) = cmpF a b := if_neg (by simp)
        rw [if_neg h0, e2, cmpF_fin (za h0) (zb (by omega))]
        unfold cmpI key
        have ra : 9223372036854775808 ≤ a ↔ kindF a ≤ 3 := by rcases ca with h | h | h | h | h | h | h <;> omega
        have rb : 9223372036854775808 ≤ b ↔ kindF b ≤ 3 := by rcases cb with h | h | h | h | h | h | h <;> omega
        have big : kindF a = 1 ∨ kindF a = 3 ∨ kindF a = 4 ∨ kindF a = 6 → a = b := by
          rcases ca with h | h | h | h | h | h | h <;> rcases cb with g | g | g | g | g | g | g <;> omega
        have r6 := kind_range ha
        clear ca cb za zb e e2
        by_cases h3 : kindF a = 2
        · rw [if_neg (show ¬ a < 9223372036854775808 by omega), if_neg (show ¬ b < 9223372036854775808 by omega), if_pos h3]
          (repeat' split) <;> omega
        · rw [if_neg h3]
          (repeat' split) <;> omega
theorem rorder_any (a b : Nat) (w : World) (ha : a < 18446744073709551616) (hb : b < 18446744073709551616) :
    Calls Try.prog 26 #[.float .f64 a, .float .f64 b] w fun e w' => e = .returned (.int .i64 (ordF a b)) ∧ w = w' := by
  rw [← ordR_eq a b ha hb]
  exact rorder_gen a b a b _ _ _ _ w ha hb rfl rfl (by omega) (by omega) (by omega) (by omega) (run_bits a) (run_bits b)
end Go.Proofs.Ytmcccfocacagjaa
