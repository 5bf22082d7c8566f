/- Mean of the program, walked. -/
import Derived.Test.YtmcccfocacagjaaPts
import Derived.LoopTactic
namespace Go.Proofs.Ytmcccfocacagjaa
open Go.RowKit
theorem take_snocF (l : List Nat) (k : Nat) (h : k < l.length) : l.take (k + 1) = l.take k ++ [l.getD k 0] := by
  rw [List.take_succ_eq_append_getElem h, List.getD, List.getElem?_eq_getElem h]; rfl
theorem fi_lit {n : Nat} : FloatKind.f64.nearest (n : Int) = fi n := by
  unfold FloatKind.nearest FloatKind.encode fi
  rw [show decide ((n : Int) < 0) = false by simp, show ((n : Int)).natAbs = n by omega]
  rfl
theorem fi_pos {n : Nat} (h0 : n ≠ 0) (h : n < 9007199254740992) : fi n ≠ 0 := by
  intro e
  have := V_fi h
  rw [e, V_small (by omega)] at this
  have hp := two_pos E74
  rcases Nat.mul_eq_zero.1 this.symm with h1 | h1 <;> omega
theorem mean_quo (zs : List Nat) (len : Nat) (h : zs.length = len) (hl : len ≤ 1000) (t : TypeId) (w : World) :
    (binOp .quo t (.float .f64 (sumF zs)) (.float .f64 (floatOfInt .f64 (max (len : Int) 1)))).run Try.prog w = .ok (.float .f64 (meanF zs)) w := by
  refine run_float_arith w .quo t .f64 _ _ _ ?_
  have e : floatOfInt .f64 (max (len : Int) 1) = fi (max zs.length 1) := by
    unfold floatOfInt
    rw [show max (len : Int) 1 = ((max zs.length 1 : Nat) : Int) by omega, fi_lit]
  rw [e]
  exact div_fin (fin_le (by omega) (sumF_le zs (by omega))) (fi_fin (by omega)) (fi_pos (by omega) (by omega))
theorem sum_add (zs : List Nat) (len k : Nat) (h : zs.length = len) (hl : len ≤ 1000) (hk : k < len) (t : TypeId) (w : World) :
    (binOp .add t (.float .f64 (sumF (zs.take k))) (.float .f64 (cleanF (zs.getD k 0)))).run Try.prog w = .ok (.float .f64 (sumF (zs.take (k + 1)))) w := by
  refine run_float_arith w .add t .f64 _ _ _ ?_
  have hle : (zs.take k).length ≤ 1000 := by rw [List.length_take]; omega
  rw [take_snocF zs k (by omega), sumF_snoc]
  exact add_fin (fin_le (by omega) (sumF_le _ (by omega))) (fin_one (cleanF_le _))
set_option maxHeartbeats 1000000 in
theorem mean_any (a : Option Addr) (len cap : Nat) (zs : List Nat) (w : World) (h : ReadsF w a len cap zs) (hl : len ≤ 1000) :
    Calls Try.prog 34 #[.slice a len cap] w fun e w' => e = .returned (.float .f64 (meanF zs)) ∧ w = w' := by
  have HL := Lib.hid h.length
  have HW := Lib.hid h.wf
  have hd := mean_quo zs len h.length hl
  rcases h.cells with h0 | ⟨b, off, rfl, hc⟩
  · subst h0
    have hz : zs = [] := List.eq_nil_of_length_eq_zero h.length
    subst hz
    simp only [show sumF [] = 0 from rfl, Int.cast_ofNat_Int] at hd
    clear h HL
    go_enter Try.func34, Try.ntmps34
    go_wp2_with fail
    go_loop [3, 8] (fun s i => i = .int .i64 0 ∧ s = .float .f64 0) (fun _ _ => 0)
    case atStart => exact ⟨rfl, rfl⟩
    case round =>
      obtain ⟨rfl, rfl⟩ := hrel
      go_wp2_with fail
      go_ret
      exact ⟨rfl, rfl⟩
  · have HC := Lib.hid hc
    clear hc h
    go_enter Try.func34, Try.ntmps34
    go_wp2_with fail
    go_loop [3, 8] (fun s i => ∃ k : Nat, k ≤ len ∧ i = .int .i64 k ∧ s = .float .f64 (sumF (zs.take k))) (fun _ i => len - (intOf i).toNat)
    case atStart => exact ⟨0, Nat.zero_le _, rfl, rfl⟩
    case round =>
      obtain ⟨k, hk, rfl, rfl⟩ := hrel
      by_cases hlt : k < len
      · have hc := HC.out k hlt
        have hs := sum_add zs len k HL.out hl hlt
        have HX : Hid (zs.getD k 0 < 18446744073709551616) := by
          have hk' : k < zs.length := by rw [HL.out]; exact hlt
          show _ < _
          rw [List.getD, List.getElem?_eq_getElem hk']
          exact HW.out _ (List.getElem_mem _)
        generalize zs.getD k 0 = x at *
        clear hd
        go_wp2_with (go_at_call 29; refine (clean_any _ _ HX.out).mono ?_; rintro e w' ⟨rfl, rfl⟩)
        go_round
        case rel => exact ⟨k + 1, by omega, by go_num, rfl⟩
        case measure => simp [intOf]; omega
      · have hkk : k = len := by omega
        subst hkk
        rw [List.take_of_length_le (by rw [HL.out]; exact Nat.le_refl _)]
        go_wp2_with fail
        go_ret
        exact ⟨rfl, rfl⟩
end Go.Proofs.Ytmcccfocacagjaa
