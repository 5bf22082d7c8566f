/- Order, Clean, Points and Bits of the program, walked. -/
import Derived.Test.YtmcccfocacagjaaSc
namespace Go.Proofs.Ytmcccfocacagjaa
open Go.RowKit
theorem inan_any (n : Int) (w : World) :
    Calls Try.prog 58 #[.int .i64 n] w fun e w' => e = .returned (.bool false) ∧ w = w' := by
  go_enter Try.func58, Try.ntmps58
  go_wp2_with fail
  go_ret
  exact ⟨ret_bool (by simp), rfl⟩
def cmpI (a b : Int) : Int := if a < b then -1 else if b < a then 1 else 0
theorem ret_int {k : IntKind} {a b : Int} (h : a = b) : Ending.returned (.int k a) = .returned (.int k b) := by rw [h]
theorem cmpi_any (a b : Int) (w : World) :
    Calls Try.prog 51 #[.int .i64 a, .int .i64 b] w fun e w' => e = .returned (.int .i64 (cmpI a b)) ∧ w = w' := by
  by_cases h1 : a < b
  · go_enter Try.func51, Try.ntmps51
    go_wp2_with (go_at_call 58; refine (inan_any _ _).mono ?_; rintro e w' ⟨rfl, rfl⟩)
    go_ret
    exact ⟨ret_int (by unfold cmpI; rw [if_pos h1]), rfl⟩
  · by_cases h2 : b < a
    · go_enter Try.func51, Try.ntmps51
      go_wp2_with (go_at_call 58; refine (inan_any _ _).mono ?_; rintro e w' ⟨rfl, rfl⟩)
      go_ret
      exact ⟨ret_int (by unfold cmpI; rw [if_neg (by omega), if_pos h2]), rfl⟩
    · go_enter Try.func51, Try.ntmps51
      go_wp2_with (go_at_call 58; refine (inan_any _ _).mono ?_; rintro e w' ⟨rfl, rfl⟩)
      go_ret
      exact ⟨ret_int (by unfold cmpI; rw [if_neg (by omega), if_neg (by omega)]), rfl⟩
def cmpF (a b : Nat) : Int := if isN a = true then (if isN b = true then 0 else -1) else if isN b = true then 1 else cmpI (key a) (key b)
theorem cmpf_any (a b : Nat) (w : World) (ha : a < 18446744073709551616) (hb : b < 18446744073709551616) :
    Calls Try.prog 52 #[.float .f64 a, .float .f64 b] w fun e w' => e = .returned (.int .i64 (cmpF a b)) ∧ w = w' := by
  have fl : (FloatKind.f64.format.order a b == some .lt) = (bothN a b && decide (key a < key b)) := ord_lt ha hb
  have fg : (FloatKind.f64.format.order a b == some .gt) = (bothN a b && decide (key b < key a)) := ord_gt ha hb
  have HA := Lib.hid ha
  have HB := Lib.hid hb
  unfold bothN at fl fg
  obtain ⟨n, hn⟩ : ∃ n, isN a = n := ⟨_, rfl⟩
  obtain ⟨m, hm⟩ : ∃ m, isN b = m := ⟨_, rfl⟩
  rw [hn, hm] at fl fg
  have HN := Lib.hid hn
  have HM := Lib.hid hm
  clear hn hm
  cases n <;> cases m
  · simp only [Bool.or_self, Bool.not_false, Bool.true_and] at fl fg
    by_cases h1 : key a < key b
    · rw [decide_eq_true h1] at fl
      clear fg
      have HR : Hid (cmpF a b = -1) := by show _ = _; unfold cmpF cmpI; rw [HN.out, HM.out, if_pos h1]; rfl
      clear h1
      go_enter Try.func52, Try.ntmps52
      go_wp2_with (first | (go_at_call 59; with_reducible refine (nan_any a _ HA.out).mono ?_; rintro e w' ⟨rfl, rfl⟩; rw [HN.out]) | (go_at_call 59; with_reducible refine (nan_any b _ HB.out).mono ?_; rintro e w' ⟨rfl, rfl⟩; rw [HM.out]))
      go_ret
      exact ⟨ret_int HR.out.symm, rfl⟩
    · rw [decide_eq_false h1] at fl
      by_cases h2 : key b < key a
      · rw [decide_eq_true h2] at fg
        have HR : Hid (cmpF a b = 1) := by show _ = _; unfold cmpF cmpI; rw [HN.out, HM.out, if_neg h1, if_pos h2]; rfl
        clear h1 h2
        go_enter Try.func52, Try.ntmps52
        go_wp2_with (first | (go_at_call 59; with_reducible refine (nan_any a _ HA.out).mono ?_; rintro e w' ⟨rfl, rfl⟩; rw [HN.out]) | (go_at_call 59; with_reducible refine (nan_any b _ HB.out).mono ?_; rintro e w' ⟨rfl, rfl⟩; rw [HM.out]))
        go_ret
        exact ⟨ret_int HR.out.symm, rfl⟩
      · rw [decide_eq_false h2] at fg
        have HR : Hid (cmpF a b = 0) := by show _ = _; unfold cmpF cmpI; rw [HN.out, HM.out, if_neg h1, if_neg h2]; rfl
        clear h1 h2
        go_enter Try.func52, Try.ntmps52
        go_wp2_with (first | (go_at_call 59; with_reducible refine (nan_any a _ HA.out).mono ?_; rintro e w' ⟨rfl, rfl⟩; rw [HN.out]) | (go_at_call 59; with_reducible refine (nan_any b _ HB.out).mono ?_; rintro e w' ⟨rfl, rfl⟩; rw [HM.out]))
        go_ret
        exact ⟨ret_int HR.out.symm, rfl⟩
  all_goals
    clear fl fg
    go_enter Try.func52, Try.ntmps52
    go_wp2_with (first | (go_at_call 59; with_reducible refine (nan_any a _ HA.out).mono ?_; rintro e w' ⟨rfl, rfl⟩; rw [HN.out]) | (go_at_call 59; with_reducible refine (nan_any b _ HB.out).mono ?_; rintro e w' ⟨rfl, rfl⟩; rw [HM.out]))
    go_ret
    exact ⟨ret_int (by unfold cmpF; rw [HN.out, HM.out]; rfl), rfl⟩
def ordF (a b : Nat) : Int := if cmpI (kindF a) (kindF b) ≠ 0 then cmpI (kindF a) (kindF b) else cmpF a b
theorem order_any (a b : Nat) (w : World) (ha : a < 18446744073709551616) (hb : b < 18446744073709551616) :
    Calls Try.prog 25 #[.float .f64 a, .float .f64 b] w fun e w' => e = .returned (.int .i64 (ordF a b)) ∧ w = w' := by
  have HA := Lib.hid ha
  have HB := Lib.hid hb
  obtain ⟨r, hr⟩ : ∃ r, cmpI (kindF a) (kindF b) = r := ⟨_, rfl⟩
  have HR := Lib.hid hr
  by_cases h : r = 0
  · subst h
    clear hr
    go_enter Try.func25, Try.ntmps25
    go_wp2_with (first | (go_at_call 23; (with_reducible refine (kind_any a _ HA.out).mono ?_); rintro e w' ⟨rfl, rfl⟩) | (go_at_call 23; (with_reducible refine (kind_any b _ HB.out).mono ?_); rintro e w' ⟨rfl, rfl⟩) | (go_at_call 51; refine (cmpi_any _ _ _).mono ?_; rintro e w' ⟨rfl, rfl⟩; rw [HR.out]) | (go_at_call 52; refine (cmpf_any _ _ _ HA.out HB.out).mono ?_; rintro e w' ⟨rfl, rfl⟩))
    go_ret
    exact ⟨ret_int (by unfold ordF; rw [HR.out]; rfl), rfl⟩
  · clear hr
    go_enter Try.func25, Try.ntmps25
    go_wp2_with (first | (go_at_call 23; (with_reducible refine (kind_any a _ HA.out).mono ?_); rintro e w' ⟨rfl, rfl⟩) | (go_at_call 23; (with_reducible refine (kind_any b _ HB.out).mono ?_); rintro e w' ⟨rfl, rfl⟩) | (go_at_call 51; refine (cmpi_any _ _ _).mono ?_; rintro e w' ⟨rfl, rfl⟩; rw [HR.out]))
    go_ret
    exact ⟨ret_int (by unfold ordF; rw [HR.out, if_pos h]), rfl⟩
def cleanF (b : Nat) : Nat := if kindF b = 6 then ONE else if kindF b = 5 then min b ONE else 0
theorem kind_cases {b : Nat} (hb : b < 18446744073709551616) :
    (isN b = true ∧ kindF b = 0) ∨ (b = 18442240474082181120 ∧ kindF b = 1) ∨ (9223372036854775808 < b ∧ b < 18442240474082181120 ∧ kindF b = 2) ∨ (b = 9223372036854775808 ∧ kindF b = 3) ∨ (b = 0 ∧ kindF b = 4) ∨ (0 < b ∧ b < 9218868437227405312 ∧ kindF b = 5) ∨ (b = 9218868437227405312 ∧ kindF b = 6) := by
  by_cases h1 : isN b = true
  · exact .inl ⟨h1, by unfold kindF kB; rw [h1]; rfl⟩
  · have e1 : isN b = false := by simpa using h1
    have e2 : ¬ 9218868437227405312 < b % 9223372036854775808 := by unfold isN at e1; simpa using e1
    refine .inr ?_
    by_cases h2 : b = 18442240474082181120
    · subst h2; exact .inl ⟨rfl, by decide⟩
    · refine .inr ?_
      by_cases h3 : b = 9223372036854775808
      · subst h3; exact .inr (.inl ⟨rfl, by decide⟩)
      · by_cases h4 : b = 0
        · subst h4; exact .inr (.inr (.inl ⟨rfl, by decide⟩))
        · by_cases h5 : b = 9218868437227405312
          · subst h5; exact .inr (.inr (.inr (.inr ⟨rfl, by decide⟩)))
          · have k : kindF b = if sgnB b = true then 2 else 5 := by
              unfold kindF kB
              rw [e1, decide_eq_false (show ¬ b = LOW from h2), decide_eq_false (show ¬ b = INF from h5), decide_eq_false (show ¬ (b = 0 ∨ b = 9223372036854775808) by omega)]
              rfl
            by_cases h6 : 9223372036854775808 ≤ b
            · refine .inl ⟨by omega, by omega, ?_⟩
              rw [k, if_pos (by unfold sgnB; simpa using h6)]
            · refine .inr (.inr (.inr (.inl ⟨by omega, by omega, ?_⟩)))
              rw [k, if_neg (by unfold sgnB; simpa using h6)]
theorem kind_range {b : Nat} (hb : b < 18446744073709551616) : 0 ≤ kindF b ∧ kindF b ≤ 6 := by
  rcases kind_cases hb with h | h | h | h | h | h | h <;> omega
theorem run_min_one (x : Nat) (hx : x < 9218868437227405312) (ts : Array TypeId) (t : TypeId) (w : World) :
    (Builtin.min_ ts t #[.float .f64 x, .float .f64 4607182418800017408]).run Try.prog w = .ok (.float .f64 (min x 4607182418800017408)) w := by
  have e : FloatKind.f64.format.order x 4607182418800017408 = some (compare (x : Int) 4607182418800017408) := by
    have e1 : key x = x := by unfold key; rw [if_pos (by omega)]
    have e2 : key 4607182418800017408 = 4607182418800017408 := by decide
    have := order_key (x := x) (y := 4607182418800017408) (by omega) (by omega) (by unfold isN; simp; omega) (by decide)
    rw [e1, e2] at this
    exact this
  simp only [compare, compareOfLessAndEq] at e
  by_cases h1 : x < 4607182418800017408
  · rw [if_pos (by omega)] at e
    rw [Nat.min_eq_left (by omega)]
    simp [Builtin.min_, Builtin.min2, e]
  · rw [if_neg (by omega)] at e
    rw [Nat.min_eq_right (by omega)]
    by_cases h2 : (x : Int) = 4607182418800017408
    · rw [if_pos h2] at e
      have : x = 4607182418800017408 := by omega
      subst this
      simp [Builtin.min_, Builtin.min2, e]
    · rw [if_neg h2] at e
      simp [Builtin.min_, Builtin.min2, e]
theorem clean_any (b : Nat) (w : World) (hb : b < 18446744073709551616) :
    Calls Try.prog 29 #[.float .f64 b] w fun e w' => e = .returned (.float .f64 (cleanF b)) ∧ w = w' := by
  have HB := Lib.hid hb
  obtain ⟨k, hk⟩ : ∃ k, kindF b = k := ⟨_, rfl⟩
  have HK := Lib.hid hk
  have hr := kind_range hb
  by_cases h6 : k = 6
  · subst h6
    have hm := run_min_one 4607182418800017408 (by omega)
    clear hk hb hr
    go_enter Try.func29, Try.ntmps29
    go_wp2_with (go_at_call 23; (with_reducible refine (kind_any b _ HB.out).mono ?_); rintro e w' ⟨rfl, rfl⟩; rw [HK.out])
    go_ret
    exact ⟨by unfold cleanF; rw [HK.out]; rfl, rfl⟩
  · by_cases h5 : k = 5
    · subst h5
      have hf : b < 9218868437227405312 := by
        rcases kind_cases hb with h | h | h | h | h | h | h <;> omega
      have hm := run_min_one b hf
      clear hk hb hr hf
      go_enter Try.func29, Try.ntmps29
      go_wp2_with (go_at_call 23; (with_reducible refine (kind_any b _ HB.out).mono ?_); rintro e w' ⟨rfl, rfl⟩; rw [HK.out])
      go_ret
      exact ⟨by unfold cleanF; rw [HK.out]; rfl, rfl⟩
    · have hC : cleanF b = 0 := by unfold cleanF; rw [hk, if_neg h6, if_neg h5]
      have HC := Lib.hid hC
      have h5' : (k == 5) = false := by simpa using h5
      have h6' : (k == 6) = false := by simpa using h6
      clear hk hb hC
      go_enter Try.func29, Try.ntmps29
      go_wp2_with (go_at_call 23; (with_reducible refine (kind_any b _ HB.out).mono ?_); rintro e w' ⟨rfl, rfl⟩; rw [HK.out])
      go_ret
      exact ⟨by rw [HC.out]; rfl, rfl⟩

theorem cleanF_le (b : Nat) : cleanF b ≤ ONE := by
  unfold cleanF; split
  · exact Nat.le_refl _
  · split
    · exact Nat.min_le_right _ _
    · exact Nat.zero_le _
theorem run_mul_k (c : Nat) (h : c ≤ ONE) (t : TypeId) (w : World) : (binOp .mul t (.float .f64 c) (.float .f64 4652007308841189376)).run Try.prog w = .ok (.float .f64 (mulF c K1000)) w :=
  run_float_arith w .mul t .f64 c _ _ (mul_fin (fin_one h) (by unfold Fine; omega))
theorem int_of {n : Nat} (h : n ≤ 1000) (w : World) : (convert 30 3 (.float .f64 (fi n))).run Try.prog w = .ok (.int .i64 n) w := by
  refine run_convert_float_int w 30 3 .f64 .i64 (fi n) n (by rw [Try.underlying30]; rfl) Try.underlying3 ?_
  have e : ((FloatKind.f64.decode (fi n)).integral .zero) = .number false (flo (fi n)) 0 := integral_fin (fi_fin (by omega)) .zero (.inr rfl)
  rw [flo_fi (by omega)] at e
  unfold floatToIntVal Ieee.Datum.toInt
  rw [e]
  have : Ieee.signed false n 0 = (n : Int) := by unfold Ieee.signed; simp
  simp only [this]
  rw [if_pos]
  have h1 : IntKind.i64.min = -9223372036854775808 := rfl
  have h2 : IntKind.i64.max = 9223372036854775807 := rfl
  omega
def ptsF (b : Nat) : Nat := ptsN (cleanF b)
theorem ptsF_le (b : Nat) : ptsF b ≤ 1000 := ptsN_le (cleanF_le b)
theorem points_any (b : Nat) (w : World) (hb : b < 18446744073709551616) :
    Calls Try.prog 19 #[.float .f64 b] w fun e w' => e = .returned (.int .i64 (ptsF b)) ∧ w = w' := by
  have HB := Lib.hid hb
  have hm := run_mul_k _ (cleanF_le b)
  have hi := int_of (ptsF_le b)
  have HF := Lib.hid (fin_k (mulF_le (cleanF_le b)))
  clear hb
  unfold ptsF ptsN at *
  go_enter Try.func19, Try.ntmps19
  go_wp2_with (first | (go_at_call 29; (with_reducible refine (clean_any b _ HB.out).mono ?_); rintro e w' ⟨rfl, rfl⟩) | (go_at_call 48; refine (floor_any _ HF.out _).mono ?_; rintro e w' ⟨rfl, rfl⟩))
  go_ret
  exact ⟨rfl, rfl⟩
theorem of_any (n : Int) (w : World) :
    Calls Try.prog 33 #[.int .u64 n] w fun e w' => e = .returned (.float .f64 n.toNat) ∧ w = w' := by
  have hr := run_from n
  go_enter Try.func33, Try.ntmps33
  go_wp2_with fail
  go_ret
  exact ⟨rfl, rfl⟩
def NANC : Nat := 9221120237041090561
theorem nanc_any (w : World) : Calls Try.prog 39 #[] w fun e w' => e = .returned (.float .f64 NANC) ∧ w = w' := by
  have hr := run_from 9221120237041090561
  go_enter Try.func39, Try.ntmps39
  go_wp2_with fail
  go_ret
  exact ⟨rfl, rfl⟩
def bitsF (b : Nat) : Nat := if kindF b = 0 then NANC else b
theorem bits_any (b : Nat) (w : World) (hb : b < 18446744073709551616) :
    Calls Try.prog 28 #[.float .f64 b] w fun e w' => e = .returned (.int .u64 (bitsF b)) ∧ w = w' := by
  have HB := Lib.hid hb
  obtain ⟨k, hk⟩ : ∃ k, kindF b = k := ⟨_, rfl⟩
  have HK := Lib.hid hk
  have hr := run_bits
  by_cases h : k = 0
  · subst h
    clear hk hb
    go_enter Try.func28, Try.ntmps28
    go_wp2_with (first | (go_at_call 23; (with_reducible refine (kind_any b _ HB.out).mono ?_); rintro e w' ⟨rfl, rfl⟩; rw [HK.out]) | (go_at_call 39; refine (nanc_any _).mono ?_; rintro e w' ⟨rfl, rfl⟩))
    go_ret
    exact ⟨by unfold bitsF; rw [HK.out]; rfl, rfl⟩
  · have h' : (k == 0) = false := by simpa using h
    clear hk hb
    go_enter Try.func28, Try.ntmps28
    go_wp2_with (first | (go_at_call 23; (with_reducible refine (kind_any b _ HB.out).mono ?_); rintro e w' ⟨rfl, rfl⟩; rw [HK.out]))
    go_ret
    exact ⟨by unfold bitsF; rw [HK.out, if_neg h]; rfl, rfl⟩
/-- A slice of scores that can be read, by their bits. -/
structure ReadsF (w : World) (a : Option Addr) (len cap : Nat) (zs : List Nat) : Prop where
  length : zs.length = len
  le : len ≤ cap
  small : cap ≤ 9223372036854775807
  wf : ∀ n ∈ zs, n < 18446744073709551616
  nil : a = none → cap = 0
  cells : len = 0 ∨ ∃ b off, a = some ⟨b, off, none⟩ ∧ ∀ i, i < len → w.cell? ⟨b, off + i, none⟩ = some (.float .f64 (zs.getD i 0))
theorem ReadsF.below {w w' : World} {a : Option Addr} {len cap : Nat} {zs : List Nat} (h : ReadsF w a len cap zs) (hb : Below w.heap.size w w') : ReadsF w' a len cap zs :=
  ⟨h.length, h.le, h.small, h.wf, h.nil, h.cells.imp id fun ⟨b, off, ha, hc⟩ => ⟨b, off, ha, fun i hi => by rw [hb.cell (block_lt_of_cell (hc i hi)), hc i hi]⟩⟩
theorem readsF_none (w : World) (a : Option Addr) : ReadsF w a 0 0 [] := ⟨rfl, Nat.le_refl _, by omega, by simp, fun _ => rfl, .inl rfl⟩
def sumF (l : List Nat) : Nat := l.foldl (fun s x => addF s (cleanF x)) 0
theorem sumF_snoc (l : List Nat) (x : Nat) : sumF (l ++ [x]) = addF (sumF l) (cleanF x) := by simp [sumF]
theorem sumF_le (l : List Nat) (h : l.length < 9007199254740992) : sumF l ≤ fi l.length := by
  have gen : ∀ (n : Nat) (l : List Nat), l.length = n → n < 9007199254740992 → sumF l ≤ fi n := by
    intro n
    induction n with
    | zero =>
      intro l hl _
      have := List.eq_nil_of_length_eq_zero hl
      subst this
      exact Nat.zero_le _
    | succ n ih =>
      intro l hl hn
      rcases List.eq_nil_or_concat l with rfl | ⟨r, x, rfl⟩
      · simp at hl
      · rw [List.concat_eq_append] at hl ⊢
        rw [sumF_snoc]
        refine addF_le hn (ih r ?_ (by omega)) (cleanF_le x)
        simpa using hl
  exact gen _ l rfl h
def meanF (l : List Nat) : Nat := divF (sumF l) (fi (max l.length 1))
end Go.Proofs.Ytmcccfocacagjaa
