/- The walk of ScoreTells: true, and nothing that was there has changed. -/
import Derived.Test.YtmcccfocacagjaaSLaw
namespace Go.Proofs.Ytmcccfocacagjaa
open Go.RowKit
set_option maxRecDepth 100000 in
set_option maxHeartbeats 4000000 in
theorem walk_ScoreTells (a b : Int) (w : World) (ha : (Lit.int .u64 a).wf = true) (hb : (Lit.int .u64 b).wf = true) :
    Calls Try.prog 6 #[.int .u64 a, .int .u64 b] w fun e w' => e = .returned (.bool true) ∧ Below w.heap.size w w' := by
  obtain ⟨x, rfl, hx⟩ := u64_nat ha
  obtain ⟨y, rfl, hy⟩ := u64_nat hb
  clear ha hb
  have HX := Lib.hid hx
  have HY := Lib.hid hy
  have HCX := Lib.hid (clean_lt x)
  have HBC := Lib.hid (bits_small (cleanF_le x))
  have hf := run_from
  have hr := run_bits
  obtain ⟨k, hk⟩ : ∃ k, kindF x = k := ⟨_, rfl⟩
  have HK := Lib.hid hk
  clear hk hx hy
  have HB := Lib.hid (Below.refl w.heap.size w)
  by_cases h : k = 0
  all_goals
    first | subst h | have h0 : (k == 0) = false := by simpa using h
    go_enter Try.func6, Try.ntmps6
    go_wp2_with (first
      | (go_at_call 22; (refine (awake_true _).mono ?_); rintro e wX ⟨rfl, hX⟩)
      | (go_at_call 23; (with_reducible refine (kind_any x _ HX.out).mono ?_); rintro e w' ⟨rfl, rfl⟩; rw [HK.out])
      | (go_at_call 24; (with_reducible refine (rkind_any x _ HX.out).mono ?_); rintro e w' ⟨rfl, rfl⟩; rw [HK.out])
      | (go_at_call 25; (with_reducible refine (order_any x y _ HX.out HY.out).mono ?_); rintro e w' ⟨rfl, rfl⟩)
      | (go_at_call 26; (with_reducible refine (rorder_any x y _ HX.out HY.out).mono ?_); rintro e w' ⟨rfl, rfl⟩)
      | (go_at_call 19; (with_reducible refine (points_any x _ HX.out).mono ?_); rintro e w' ⟨rfl, rfl⟩)
      | (go_at_call 27; (with_reducible refine (rpoints_any x _ HX.out).mono ?_); rintro e w' ⟨rfl, rfl⟩)
      | (go_at_call 29; (with_reducible refine (clean_any x _ HX.out).mono ?_); rintro e w' ⟨rfl, rfl⟩)
      | (go_at_call 31; (with_reducible refine (rclean_any x _ HX.out).mono ?_); rintro e w' ⟨rfl, rfl⟩)
      | (go_at_call 28; (with_reducible refine (bits_any (cleanF x) _ HCX.out).mono ?_); rintro e w' ⟨rfl, rfl⟩; rw [HBC.out])
      | (go_at_call 28; (with_reducible refine (bits_any x _ HX.out).mono ?_); rintro e w' ⟨rfl, rfl⟩)
      | (go_at_call 32; (with_reducible refine (rbits_any x _ HX.out).mono ?_); rintro e w' ⟨rfl, rfl⟩)
      | (go_at_call 33; (refine (of_any _ _).mono ?_); rintro e w' ⟨rfl, rfl⟩))
    go_ret
    exact ⟨rfl, hX⟩
end Go.Proofs.Ytmcccfocacagjaa
