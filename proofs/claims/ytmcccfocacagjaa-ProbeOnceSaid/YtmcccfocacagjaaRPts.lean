/- The document's Clean, Points, Mean and Bits, walked. -/
import Derived.Test.YtmcccfocacagjaaRKind
namespace Go.Proofs.Ytmcccfocacagjaa
open Go.RowKit
theorem rclean_eq {b : Nat} (hb : b < 18446744073709551616) : cleanF b = if kindF b < 5 then 0 else if 0 < ordF b 4607182418800017408 then 4607182418800017408 else b := by
  have k1 : kindF 4607182418800017408 = 5 := by decide
  have key1 : key 4607182418800017408 = 4607182418800017408 := by decide
  have n1 : isN 4607182418800017408 = false := by decide
  have hr := kind_range hb
  have hc := kind_cases hb
  unfold cleanF ordF
  rw [k1]
  by_cases h : kindF b < 5
  · rw [if_pos h, if_neg (by omega), if_neg (by omega)]
  · rw [if_neg h]
    by_cases h6 : kindF b = 6
    · rw [if_pos h6, h6]; rfl
    · have h5 : kindF b = 5 := by omega
      have nb : isN b = false := kind_nan (by omega)
      have hlt : b < 9223372036854775808 := by omega
      rw [if_neg h6, if_pos h5, h5, cmpF_fin nb n1, key1]
      have e : key b = b := by unfold key; rw [if_pos hlt]
      rw [e]
      have e2 : cmpI 5 5 = 0 := rfl
      rw [e2]
      have e3 : (if (0 : Int) ≠ 0 then (0 : Int) else cmpI (b : Int) 4607182418800017408) = cmpI b 4607182418800017408 := if_neg (by simp)
      rw [e3]
      unfold cmpI ONE
      by_cases q1 : (b : Int) < 4607182418800017408
      · rw [if_pos q1, if_neg (by omega)]; omega
      · rw [if_neg q1]
        by_cases q2 : (4607182418800017408 : Int) < b
        · rw [if_pos q2, if_pos (by omega)]; omega
        · rw [if_neg q2, if_neg (by omega)]; omega
theorem rclean_any (b : Nat) (w : World) (hb : b < 18446744073709551616) :
    Calls Try.prog 31 #[.float .f64 b] w fun e w' => e = .returned (.float .f64 (cleanF b)) ∧ w = w' := by
  have HB := Lib.hid hb
  have HC := Lib.hid (rclean_eq hb)
  obtain ⟨k, hk⟩ : ∃ k, kindF b = k := ⟨_, rfl⟩
  obtain ⟨o, ho⟩ : ∃ o, ordF b 4607182418800017408 = o := ⟨_, rfl⟩
  have HK := Lib.hid hk
  have HO := Lib.hid ho
  clear hk ho hb
  by_cases h : k < 5
  · have HR : Hid (cleanF b = 0) := by show _ = _; rw [HC.out, HK.out, if_pos h]
    go_enter Try.func31, Try.ntmps31
    go_wp2_with (go_at_call 24; (with_reducible refine (rkind_any b _ HB.out).mono ?_); rintro e w' ⟨rfl, rfl⟩; rw [HK.out])
    go_ret
    exact ⟨by rw [HR.out]; rfl, rfl⟩
  · by_cases h' : 0 < o
    · have HR : Hid (cleanF b = 4607182418800017408) := by show _ = _; rw [HC.out, HK.out, HO.out, if_neg h, if_pos h']
      go_enter Try.func31, Try.ntmps31
      go_wp2_with (first | (go_at_call 24; (with_reducible refine (rkind_any b _ HB.out).mono ?_); rintro e w' ⟨rfl, rfl⟩; rw [HK.out]) | (go_at_call 26; (with_reducible refine (rorder_any b _ _ HB.out (by omega)).mono ?_); rintro e w' ⟨rfl, rfl⟩; rw [HO.out]))
      go_ret
      exact ⟨by rw [HR.out]; rfl, rfl⟩
    · have HR : Hid (cleanF b = b) := by show _ = _; rw [HC.out, HK.out, HO.out, if_neg h, if_neg h']
      go_enter Try.func31, Try.ntmps31
      go_wp2_with (first | (go_at_call 24; (with_reducible refine (rkind_any b _ HB.out).mono ?_); rintro e w' ⟨rfl, rfl⟩; rw [HK.out]) | (go_at_call 26; (with_reducible refine (rorder_any b _ _ HB.out (by omega)).mono ?_); rintro e w' ⟨rfl, rfl⟩; rw [HO.out]))
      go_ret
      exact ⟨by rw [HR.out]; rfl, rfl⟩
theorem rbits_any (b : Nat) (w : World) (hb : b < 18446744073709551616) :
    Calls Try.prog 32 #[.float .f64 b] w fun e w' => e = .returned (.int .u64 (bitsF b)) ∧ w = w' := by
  have HB := Lib.hid hb
  obtain ⟨k, hk⟩ : ∃ k, kindF b = k := ⟨_, rfl⟩
  have HK := Lib.hid hk
  have hr := run_bits
  by_cases h : k = 0
  · subst h
    clear hk hb
    go_enter Try.func32, Try.ntmps32
    go_wp2_with (first | (go_at_call 24; (with_reducible refine (rkind_any b _ HB.out).mono ?_); rintro e w' ⟨rfl, rfl⟩; rw [HK.out]))
    go_ret
    exact ⟨by unfold bitsF; rw [HK.out]; rfl, rfl⟩
  · have h' : (k == 0) = false := by simpa using h
    clear hk hb
    go_enter Try.func32, Try.ntmps32
    go_wp2_with (first | (go_at_call 24; (with_reducible refine (rkind_any b _ HB.out).mono ?_); rintro e w' ⟨rfl, rfl⟩; rw [HK.out]))
    go_ret
    exact ⟨by unfold bitsF; rw [HK.out, if_neg h]; rfl, rfl⟩
theorem leq_flo (n p : Nat) (m : Int) (hm : m = n) (hn : n ≤ 1000) (hp : Fine p) : (FloatKind.f64.format.order (floatOfInt .f64 m) p == some .lt || FloatKind.f64.format.order (floatOfInt .f64 m) p == some .eq) = decide (n ≤ flo p) := by
  subst hm
  have e : floatOfInt .f64 (n : Int) = fi n := fi_lit
  rw [e]
  have f1 := fi_fin (show n < 9007199254740992 by omega)
  have f2 := hp
  unfold Fine at f1 f2
  have l : (FloatKind.f64.format.order (fi n) p == some .lt) = decide ((fi n : Int) < p) := by
    have := ord_lt (x := fi n) (y := p) (by omega) (by omega)
    rw [f64_order, this]
    unfold bothN isN key
    rw [if_pos (by omega), if_pos (by omega), decide_eq_false (by omega), decide_eq_false (by omega)]; rfl
  have q : (FloatKind.f64.format.order (fi n) p == some .eq) = decide ((fi n : Int) = p) := by
    have := ord_eq (x := fi n) (y := p) (by omega) (by omega)
    rw [f64_order, this]
    unfold bothN isN key
    rw [if_pos (by omega), if_pos (by omega), decide_eq_false (by omega), decide_eq_false (by omega)]; rfl
  rw [l, q, ← Bool.decide_or, decide_eq_decide]
  have := @fi_le n p (by omega)
  rw [← this]; omega
set_option maxRecDepth 100000 in
set_option maxHeartbeats 1000000 in
theorem rpoints_any (b : Nat) (w : World) (hb : b < 18446744073709551616) :
    Calls Try.prog 27 #[.float .f64 b] w fun e w' => e = .returned (.int .i64 (ptsF b)) ∧ w = w' := by
  have HB := Lib.hid hb
  have hm := run_mul_k _ (cleanF_le b)
  have HF := Lib.hid (fin_k (mulF_le (cleanF_le b)))
  have HP : Hid (ptsF b = flo (mulF (cleanF b) K1000)) := rfl
  have HL := Lib.hid (ptsF_le b)
  clear hb
  have HQ : Hid (∀ n : Nat, n ≤ 1000 → (FloatKind.f64.format.order (floatOfInt .f64 ((n : Int) + 1)) (mulF (cleanF b) K1000) == some .lt || FloatKind.f64.format.order (floatOfInt .f64 ((n : Int) + 1)) (mulF (cleanF b) K1000) == some .eq) = decide (n + 1 ≤ ptsF b) ∨ n = 1000) := by
    show ∀ n : Nat, _
    intro n hn
    by_cases h : n = 1000
    · exact .inr h
    · exact .inl (leq_flo (n + 1) _ _ (by omega) (by omega) HF.out)
  clear HP
  generalize ptsF b = F at *
  generalize mulF (cleanF b) K1000 = p at *
  go_enter Try.func27, Try.ntmps27
  go_wp2_with (go_at_call 31; (with_reducible refine (rclean_any b _ HB.out).mono ?_); rintro e w' ⟨rfl, rfl⟩)
  clear hm
  go_loop [4] (fun n => ∃ k : Nat, k ≤ F ∧ n = .int .i64 k) (fun n => F - (intOf n).toNat)
  case atStart => exact ⟨0, Nat.zero_le _, rfl⟩
  case round =>
    obtain ⟨k, hk, rfl⟩ := hrel
    have hL := HL.out
    have hq := HQ.out k (by omega)
    by_cases hlt : k < F
    · have h1 : k < 1000 := by omega
      have ht := hq.resolve_right (by omega)
      rw [decide_eq_true (by omega)] at ht
      clear hq
      go_wp2_with fail
      go_round
      case rel => exact ⟨k + 1, by omega, by go_num⟩
      case measure => simp [intOf]; omega
    · obtain rfl : k = F := by omega
      by_cases h1 : k < 1000
      · have ht := hq.resolve_right (by omega)
        rw [decide_eq_false (by omega)] at ht
        clear hq
        go_wp2_with fail
        go_ret
        exact ⟨rfl, rfl⟩
      · clear hq
        go_wp2_with fail
        go_ret
        exact ⟨rfl, rfl⟩
theorem rmean_quo (zs : List Nat) (len : Nat) (h : zs.length = len) (hl : len ≤ 1000) (h0 : 0 < len) (t : TypeId) (w : World) :
    (binOp .quo t (.float .f64 (sumF zs)) (.float .f64 (floatOfInt .f64 (len : Int)))).run Try.prog w = .ok (.float .f64 (meanF zs)) w := by
  have := mean_quo zs len h hl t w
  rwa [show max (len : Int) 1 = (len : Int) by omega] at this
theorem meanF_nil : meanF [] = 0 := by decide +kernel
set_option maxRecDepth 100000 in
set_option maxHeartbeats 1000000 in
theorem rmean_any (a : Option Addr) (len cap : Nat) (zs : List Nat) (w : World) (h : ReadsF w a len cap zs) (hl : len ≤ 1000) :
    Calls Try.prog 35 #[.slice a len cap] w fun e w' => e = .returned (.float .f64 (meanF zs)) ∧ w = w' := by
  have HL := Lib.hid h.length
  have HW := Lib.hid h.wf
  rcases h.cells with h0 | ⟨b, off, rfl, hc⟩
  · subst h0
    have hz : zs = [] := List.eq_nil_of_length_eq_zero h.length
    subst hz
    clear h HL
    go_enter Try.func35, Try.ntmps35
    go_wp2_with fail
    go_ret
    exact ⟨by rw [meanF_nil]; rfl, rfl⟩
  · by_cases h0 : len = 0
    · subst h0
      have hz : zs = [] := List.eq_nil_of_length_eq_zero h.length
      subst hz
      clear h HL hc
      go_enter Try.func35, Try.ntmps35
      go_wp2_with fail
      go_ret
      exact ⟨by rw [meanF_nil]; rfl, rfl⟩
    · have hd := rmean_quo zs len h.length hl (by omega)
      have HC := Lib.hid hc
      have h00 : ((len : Int) == 0) = false := by simp; omega
      clear hc h h0
      go_enter Try.func35, Try.ntmps35
      go_wp2_with fail
      go_loop [3, 4] (fun s i => ∃ k : Nat, k ≤ len ∧ i = .int .i64 k ∧ s = .float .f64 (sumF (zs.take k))) (fun _ i => len - (intOf i).toNat)
      case atStart => exact ⟨0, Nat.zero_le _, rfl, rfl⟩
      case round =>
        obtain ⟨k, hk, rfl, rfl⟩ := hrel
        by_cases hlt : k < len
        · have hc := HC.out k hlt
          have hs := sum_add zs len k HL.out hl hlt
          have HX : Hid (zs.getD k 0 < 18446744073709551616) := by
            have hk' : k < zs.length := by rw [HL.out]; exact hlt
            show _ < _
            rw [List.getD, List.getElem?_eq_getElem hk']
            exact HW.out _ (List.getElem_mem _)
          generalize zs.getD k 0 = x at *
          clear hd
          go_wp2_with (go_at_call 31; refine (rclean_any _ _ HX.out).mono ?_; rintro e w' ⟨rfl, rfl⟩)
          go_round
          case rel => exact ⟨k + 1, by omega, by go_num, rfl⟩
          case measure => simp [intOf]; omega
        · have hkk : k = len := by omega
          subst hkk
          rw [List.take_of_length_le (by rw [HL.out]; exact Nat.le_refl _)]
          go_wp2_with fail
          go_ret
          exact ⟨rfl, rfl⟩
end Go.Proofs.Ytmcccfocacagjaa
