/- The score functions of the program, walked: each gives its plain law's answer, and the world is as it was. -/
import Derived.Test.YtmcccfocacagjaaProg
import Derived.Test.YtmcccfocacagjaaFlt
import Derived.WalkKit
import Derived.WalkLawsBesides
import Derived.Laws.Externs
import Derived.Lib.Hide
import Derived.Lib.MinMax
namespace Go.Proofs.Ytmcccfocacagjaa
open Go.RowKit
theorem run_bits (b : Nat) (w : World) : (callFunc 30 #[.float .f64 b]).run Try.prog w = .ok (.value (.int .u64 b)) w := by
  rw [run_callFunc_extern (e := Extern.MathFloatBits.float64bits) Try.func30 (by kernel_rfl) (by kernel_rfl) (by kernel_rfl) (by kernel_rfl)]
  rfl
theorem run_from (n : Int) (w : World) : (callFunc 17 #[.int .u64 n]).run Try.prog w = .ok (.value (.float .f64 n.toNat)) w := by
  rw [run_callFunc_extern (e := Extern.MathFloatBits.float64frombits) Try.func17 (by kernel_rfl) (by kernel_rfl) (by kernel_rfl) (by kernel_rfl)]
  rfl
theorem floor_entry (x m : Nat) (p : Int) (n : String) (way : Ieee.Toward) (h : FloatKind.f64.decode x = .number false m p) : Extern.MathFloor.toIntegral n way #[.float .f64 x] = pure (.float .f64 (FloatKind.f64.encode ((Ieee.Datum.number false m p).integral way))) := by
  have gen : ∀ (A : Bool → Nat → Sem Value) (B : Ieee.Datum → Sem Value) (d : Ieee.Datum), d = .number false m p → Extern.MathFloor.toIntegral.match_1 (fun _ => Sem Value) d A B = B (.number false m p) := by rintro A B _ rfl; rfl
  exact gen _ _ _ h
theorem run_floor (x : Nat) (h : Fine x) (w : World) : (callFunc 55 #[.float .f64 x]).run Try.prog w = .ok (.value (.float .f64 (fi (flo x)))) w := by
  rw [run_callFunc_extern (e := Extern.MathFloor.toIntegral "math.archFloor" .down) Try.func55 (by kernel_rfl) (by kernel_rfl) (by kernel_rfl) (by kernel_rfl)]
  have e : FloatKind.f64.decode x = .number false (mg x) (-1074 + pl x) := read_fin h
  have e2 : ((FloatKind.f64.decode x).integral .down) = .number false (flo x) 0 := integral_fin h .down (.inl rfl)
  rw [e] at e2
  rw [floor_entry x _ _ _ _ e, e2]
  rfl
theorem f64_order (a b : Nat) : FloatKind.f64.format.order a b = Ieee.double.order a b := rfl
theorem isN_self {b : Nat} (hb : b < 18446744073709551616) : FloatKind.f64.format.order b b = if isN b = true then none else some .eq := by
  rw [f64_order]
  by_cases h : isN b = true
  · rw [if_pos h, order_nan hb hb (.inl h)]
  · rw [if_neg h, order_key hb hb (by simpa using h) (by simpa using h)]; simp [compare, compareOfLessAndEq]
theorem nan_any (b : Nat) (w : World) (hb : b < 18446744073709551616) :
    Calls Try.prog 59 #[.float .f64 b] w fun e w' => e = .returned (.bool (isN b)) ∧ w = w' := by
  have h := isN_self hb
  generalize isN b = n at *
  cases n
  all_goals
    simp at h
    go_enter Try.func59, Try.ntmps59
    go_wp2_with fail
    go_ret
    exact ⟨rfl, rfl⟩
theorem ret_bool {a b : Bool} (h : a = b) : Ending.returned (.bool a) = .returned (.bool b) := by rw [h]
def sgnB (b : Nat) : Bool := decide (9223372036854775808 ≤ b)
theorem sign_any (b : Nat) (w : World) (hb : b < 18446744073709551616) :
    Calls Try.prog 49 #[.float .f64 b] w fun e w' => e = .returned (.bool (sgnB b)) ∧ w = w' := by
  have hr := run_bits b
  go_enter Try.func49, Try.ntmps49
  go_wp2_with fail
  go_ret
  exact ⟨ret_bool (by unfold sgnB; rw [Bool.eq_iff_iff]; simp only [decide_eq_true_eq]; unfold wrap64; omega), rfl⟩
def LOW : Nat := 18442240474082181120
def INF : Nat := 9218868437227405312
theorem gt_max {c : Nat} (hc : c < 18446744073709551616) : (FloatKind.f64.format.order c 9218868437227405311 == some .gt) = decide (c = INF) := by
  rw [f64_order, ord_gt hc (by omega)]
  unfold INF bothN
  rw [show isN 9218868437227405311 = false by decide, show key 9218868437227405311 = 9218868437227405311 by decide]
  unfold isN key
  rw [Bool.eq_iff_iff]
  simp
  split <;> omega
def negB (b : Nat) : Nat := b ^^^ 9223372036854775808
theorem negB_lt {b : Nat} (h : b < 18446744073709551616) : negB b < 18446744073709551616 := Nat.xor_lt_two_pow (n := 64) h (by decide)
theorem negB_inf {b : Nat} : negB b = INF ↔ b = LOW := by
  unfold negB
  constructor
  · intro h
    have : b ^^^ 9223372036854775808 ^^^ 9223372036854775808 = INF ^^^ 9223372036854775808 := by rw [h]
    rw [Nat.xor_assoc, Nat.xor_self, Nat.xor_zero] at this
    rw [this]; decide
  · rintro rfl; decide
theorem run_neg (b : Nat) (w : World) : Sem.run Try.prog (Op.unary UnOp.neg (.float .f64 b)) w = .ok (.float .f64 (negB b)) w := rfl
theorem pinf_any (b : Nat) (r : Bool) (w : World) (hb : b < 18446744073709551616) (hr : decide (b = INF) = r) :
    Calls Try.prog 50 #[.float .f64 b, .int .i64 1] w fun e w' => e = .returned (.bool r) ∧ w = w' := by
  have HG := Lib.hid (gt_max hb)
  have HR := Lib.hid hr
  clear hr
  go_enter Try.func50, Try.ntmps50
  go_wp2_with fail
  go_ret
  exact ⟨ret_bool (HG.out.trans HR.out), rfl⟩
theorem minf_any (b : Nat) (r : Bool) (w : World) (hb : b < 18446744073709551616) (hr : decide (b = LOW) = r) :
    Calls Try.prog 50 #[.float .f64 b, .int .i64 (-1)] w fun e w' => e = .returned (.bool r) ∧ w = w' := by
  have HG := Lib.hid (gt_max (negB_lt hb))
  have HR : Hid (decide (negB b = INF) = r) := by show _ = _; rw [← hr]; simp only [negB_inf]
  clear hr
  have hn := run_neg b
  go_enter Try.func50, Try.ntmps50
  go_wp2_with fail
  go_ret
  exact ⟨ret_bool (HG.out.trans HR.out), rfl⟩
theorem floor_any (x : Nat) (h : Fine x) (w : World) :
    Calls Try.prog 48 #[.float .f64 x] w fun e w' => e = .returned (.float .f64 (fi (flo x))) ∧ w = w' := by
  have hr := run_floor x h
  go_enter Try.func48, Try.ntmps48
  go_wp2_with fail
  go_ret
  exact ⟨rfl, rfl⟩
theorem eq_zero {b : Nat} (hb : b < 18446744073709551616) : (FloatKind.f64.format.order b 0 == some .eq) = decide (b = 0 ∨ b = 9223372036854775808) := by
  rw [f64_order, ord_eq hb (by omega)]
  unfold bothN
  rw [show isN 0 = false by decide, show key 0 = 0 by decide]
  unfold isN key
  rw [Bool.eq_iff_iff]
  simp
  split <;> omega
def kB (n l h z s : Bool) : Int := if n then 0 else if l then 1 else if h then 6 else if z && s then 3 else if z then 4 else if s then 2 else 5
theorem kind_gen (b : Nat) (n l h z s : Bool) (w : World) (hb : b < 18446744073709551616) (hn : isN b = n) (hl : decide (b = LOW) = l) (hh : decide (b = INF) = h) (hz : decide (b = 0 ∨ b = 9223372036854775808) = z) (hs : sgnB b = s) :
    Calls Try.prog 23 #[.float .f64 b] w fun e w' => e = .returned (.int .i64 (kB n l h z s)) ∧ w = w' := by
  have fN := isN_self hb
  rw [hn] at fN
  have fZ := (eq_zero hb).trans hz
  have HL := Lib.hid hl
  have HI := Lib.hid hh
  have HS := Lib.hid hs
  clear hn hl hh hz hs
  cases n
  · cases l
    · cases h
      · cases z <;> cases s
        all_goals
          simp only [Bool.false_eq_true, ↓reduceIte] at fN
          go_enter Try.func23, Try.ntmps23
          go_wp2_with (first
            | (go_at_call 49; refine (sign_any b _ hb).mono ?_; rintro e w' ⟨rfl, rfl⟩; rw [HS.out])
            | (go_at_call 50; with_reducible refine (minf_any b _ _ hb HL.out).mono ?_; rintro e w' ⟨rfl, rfl⟩)
            | (go_at_call 50; with_reducible refine (pinf_any b _ _ hb HI.out).mono ?_; rintro e w' ⟨rfl, rfl⟩))
          go_ret
          exact ⟨rfl, rfl⟩
      · simp only [Bool.false_eq_true, ↓reduceIte] at fN
        go_enter Try.func23, Try.ntmps23
        go_wp2_with (first
            | (go_at_call 49; refine (sign_any b _ hb).mono ?_; rintro e w' ⟨rfl, rfl⟩)
            | (go_at_call 50; with_reducible refine (minf_any b _ _ hb HL.out).mono ?_; rintro e w' ⟨rfl, rfl⟩)
            | (go_at_call 50; with_reducible refine (pinf_any b _ _ hb HI.out).mono ?_; rintro e w' ⟨rfl, rfl⟩))
        go_ret
        exact ⟨rfl, rfl⟩
    · simp only [Bool.false_eq_true, ↓reduceIte] at fN
      go_enter Try.func23, Try.ntmps23
      go_wp2_with (first
            | (go_at_call 49; refine (sign_any b _ hb).mono ?_; rintro e w' ⟨rfl, rfl⟩)
            | (go_at_call 50; with_reducible refine (minf_any b _ _ hb HL.out).mono ?_; rintro e w' ⟨rfl, rfl⟩))
      go_ret
      exact ⟨rfl, rfl⟩
  · simp only [↓reduceIte] at fN
    go_enter Try.func23, Try.ntmps23
    go_wp2_with (first
            | (go_at_call 49; refine (sign_any b _ hb).mono ?_; rintro e w' ⟨rfl, rfl⟩))
    go_ret
    exact ⟨rfl, rfl⟩
def kindF (b : Nat) : Int := kB (isN b) (decide (b = LOW)) (decide (b = INF)) (decide (b = 0 ∨ b = 9223372036854775808)) (sgnB b)
theorem kind_any (b : Nat) (w : World) (hb : b < 18446744073709551616) :
    Calls Try.prog 23 #[.float .f64 b] w fun e w' => e = .returned (.int .i64 (kindF b)) ∧ w = w' := kind_gen b _ _ _ _ _ w hb rfl rfl rfl rfl rfl
end Go.Proofs.Ytmcccfocacagjaa
