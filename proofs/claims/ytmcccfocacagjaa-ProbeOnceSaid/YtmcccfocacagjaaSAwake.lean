/- The head of the laws of scores. -/
import Derived.Test.YtmcccfocacagjaaRPts
import Derived.Below
namespace Go.Proofs.Ytmcccfocacagjaa
open Go.RowKit
theorem of1 (w : World) : Calls Try.prog 33 #[.int .u64 9223372036854775808] w fun e w' => e = .returned (.float .f64 9223372036854775808) ∧ w = w' := of_any _ w
theorem of2 (w : World) : Calls Try.prog 33 #[.int .u64 9221120237041090561] w fun e w' => e = .returned (.float .f64 9221120237041090561) ∧ w = w' := of_any _ w
theorem of3 (w : World) : Calls Try.prog 33 #[.int .u64 9218868437227405312] w fun e w' => e = .returned (.float .f64 9218868437227405312) ∧ w = w' := of_any _ w
theorem k1 (w : World) : Calls Try.prog 23 #[.float .f64 9223372036854775808] w fun e w' => e = .returned (.int .i64 3) ∧ w = w' := by
  have := kind_any 9223372036854775808 w (by omega)
  rwa [show kindF 9223372036854775808 = 3 by decide] at this
theorem k2 (w : World) : Calls Try.prog 23 #[.float .f64 0] w fun e w' => e = .returned (.int .i64 4) ∧ w = w' := by
  have := kind_any 0 w (by omega)
  rwa [show kindF 0 = 4 by decide] at this
theorem k3 (w : World) : Calls Try.prog 23 #[.float .f64 9221120237041090561] w fun e w' => e = .returned (.int .i64 0) ∧ w = w' := by
  have := kind_any 9221120237041090561 w (by omega)
  rwa [show kindF 9221120237041090561 = 0 by decide] at this
theorem o1 (w : World) : Calls Try.prog 25 #[.float .f64 9223372036854775808, .float .f64 0] w fun e w' => e = .returned (.int .i64 (-1)) ∧ w = w' := by
  have := order_any 9223372036854775808 0 w (by omega) (by omega)
  rwa [show ordF 9223372036854775808 0 = -1 by decide] at this
theorem c1 (w : World) : Calls Try.prog 29 #[.float .f64 9221120237041090561] w fun e w' => e = .returned (.float .f64 0) ∧ w = w' := by
  have := clean_any 9221120237041090561 w (by omega)
  rwa [show cleanF 9221120237041090561 = 0 by decide] at this
theorem c2 (w : World) : Calls Try.prog 29 #[.float .f64 9218868437227405312] w fun e w' => e = .returned (.float .f64 4607182418800017408) ∧ w = w' := by
  have := clean_any 9218868437227405312 w (by omega)
  rwa [show cleanF 9218868437227405312 = 4607182418800017408 by decide] at this
theorem b1 (w : World) : Calls Try.prog 28 #[.float .f64 0] w fun e w' => e = .returned (.int .u64 0) ∧ w = w' := by
  have := bits_any 0 w (by omega)
  rwa [show bitsF 0 = 0 by decide] at this
theorem b2 (w : World) : Calls Try.prog 28 #[.float .f64 4607182418800017408] w fun e w' => e = .returned (.int .u64 4607182418800017408) ∧ w = w' := by
  have := bits_any 4607182418800017408 w (by omega)
  rwa [show bitsF 4607182418800017408 = 4607182418800017408 by decide] at this
theorem p1 (w : World) : Calls Try.prog 19 #[.float .f64 4602678819172646912] w fun e w' => e = .returned (.int .i64 500) ∧ w = w' := by
  have := points_any 4602678819172646912 w (by omega)
  rwa [show ptsF 4602678819172646912 = 500 by decide +kernel] at this
theorem readsF3 {w : World} {x y z : Nat} (hx : x < 18446744073709551616) (hy : y < 18446744073709551616) (hz : z < 18446744073709551616) {g : Nat} {e : TypeId} {fr : Nat × Nat} (h : w.heap[g]? = some (.cells #[.float .f64 x, .float .f64 y, .float .f64 z] e fr)) :
    ReadsF w (some ⟨g, 0, none⟩) 3 3 [x, y, z] := by
  refine ⟨rfl, Nat.le_refl _, by omega, ?_, (fun h => by cases h), .inr ⟨g, 0, rfl, ?_⟩⟩
  · intro n hn
    simp at hn
    rcases hn with rfl | rfl | rfl <;> assumption
  · intro i hi
    rw [cell_of_row _ _ _ _ _ _ h]
    have : i = 0 ∨ i = 1 ∨ i = 2 := by omega
    rcases this with rfl | rfl | rfl <;> rfl
theorem m1 (g : Nat) (w : World) (e : TypeId) (fr : Nat × Nat) (h : w.heap[g]? = some (.cells #[.float .f64 4602678819172646912, .float .f64 9221120237041090561, .float .f64 4619567317775286272] e fr)) :
    Calls Try.prog 34 #[.slice (some ⟨g, 0, none⟩) 3 3] w fun e w' => e = .returned (.float .f64 4602678819172646912) ∧ w = w' := by
  have := mean_any _ 3 3 _ w (readsF3 (by omega) (by omega) (by omega) h) (by omega)
  rwa [show meanF [4602678819172646912, 9221120237041090561, 4619567317775286272] = 4602678819172646912 by decide +kernel] at this
theorem oeq (b : Nat) : FloatKind.f64.format.order b b = Ieee.double.order b b := rfl
theorem q1 : FloatKind.f64.format.order 4607182418800017408 4607182418800017408 = some .eq := by decide +kernel
theorem q2 : FloatKind.f64.format.order 4602678819172646912 4602678819172646912 = some .eq := by decide +kernel
set_option maxRecDepth 100000 in
set_option maxHeartbeats 2000000 in
theorem awake_true (w : World) : Calls Try.prog 22 #[] w fun e w' => e = .returned (.bool true) ∧ Below w.heap.size w w' := by
  have hr := run_bits 4607182418800017408
  have e1 := q1
  have e2 := q2
  go_enter Try.func22, Try.ntmps22
  go_wp2_with (first
    | (go_at_call 33; (first | (with_reducible refine (of1 _).mono ?_) | (with_reducible refine (of2 _).mono ?_) | (with_reducible refine (of3 _).mono ?_)); rintro e w' ⟨rfl, rfl⟩)
    | (go_at_call 23; (first | (with_reducible refine (k1 _).mono ?_) | (with_reducible refine (k2 _).mono ?_) | (with_reducible refine (k3 _).mono ?_)); rintro e w' ⟨rfl, rfl⟩)
    | (go_at_call 25; (first | (with_reducible refine (o1 _).mono ?_)); rintro e w' ⟨rfl, rfl⟩)
    | (go_at_call 29; (first | (with_reducible refine (c1 _).mono ?_) | (with_reducible refine (c2 _).mono ?_)); rintro e w' ⟨rfl, rfl⟩)
    | (go_at_call 28; (first | (with_reducible refine (b1 _).mono ?_) | (with_reducible refine (b2 _).mono ?_)); rintro e w' ⟨rfl, rfl⟩)
    | (go_at_call 19; (first | (with_reducible refine (p1 _).mono ?_)); rintro e w' ⟨rfl, rfl⟩)
    | (go_at_call 34; (refine (m1 _ _ 30 (0, 0) (heap_alloc_new _ _)).mono ?_); rintro e w' ⟨rfl, rfl⟩))
  go_ret
  exact ⟨rfl, (Below.refl _ _).alloc (Nat.le_refl _) _⟩
end Go.Proofs.Ytmcccfocacagjaa
