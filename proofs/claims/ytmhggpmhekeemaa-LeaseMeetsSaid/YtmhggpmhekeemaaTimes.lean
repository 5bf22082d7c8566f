/- The first, second and fourth thing that a plan needs, and its times. -/
import Derived.Test.YtmhggpmhekeemaaBase
namespace Go.Proofs.Ytmhggpmhekeemaa
open Go.RowKit
set_option maxRecDepth 100000 in
theorem q1_any (C : Cv) (b : Nat) (w : World) (hb : w.heap[b]? = some (.cells C.cells 24 (0, 0))) :
    Calls Try.prog 50 #[.pointer (some ⟨b, 0, none⟩)] w fun e w' => e = .returned (.bool (q1 C)) ∧ w = w' := by
  have c0 : w.cell? ⟨b, 0, none⟩ = some (.int .i64 C.nodes) := by rw [cell_of_row _ _ _ _ _ _ hb]; rfl
  have c1 : w.cell? ⟨b, 1, none⟩ = some (.int .i64 C.slots) := by rw [cell_of_row _ _ _ _ _ _ hb]; rfl
  clear hb
  go_enter Try.func50, Try.ntmps50
  go_wp2_with fail
  all_goals
    go_ret
    exact ⟨ret_bool (by unfold q1; rw [Bool.eq_iff_iff]; simp; omega), rfl⟩

set_option maxRecDepth 100000 in
theorem q4_any (C : Cv) (b : Nat) (w : World) (hb : w.heap[b]? = some (.cells C.cells 24 (0, 0))) :
    Calls Try.prog 55 #[.pointer (some ⟨b, 0, none⟩)] w fun e w' => e = .returned (.bool (q4 C)) ∧ w = w' := by
  have c0 : w.cell? ⟨b, 9, none⟩ = some (.int .i64 C.soak) := by rw [cell_of_row _ _ _ _ _ _ hb]; rfl
  have c1 : w.cell? ⟨b, 10, none⟩ = some (.int .i64 C.pass) := by rw [cell_of_row _ _ _ _ _ _ hb]; rfl
  clear hb
  go_enter Try.func55, Try.ntmps55
  go_wp2_with fail
  all_goals
    go_ret
    exact ⟨ret_bool (by unfold q4; rw [Bool.eq_iff_iff]; simp; omega), rfl⟩

/-- 'times', where the drift is one that may be. -/
theorem inR_yes {t : Int} (h0 : 1 ≤ t) (h1 : t ≤ 1073741824) : inR t = true := by simp [inR]; omega
set_option maxRecDepth 100000 in
set_option maxHeartbeats 1000000 in
theorem times_any (C : Cv) (w : World) (hr0 : 0 ≤ C.rho) (hr1 : C.rho ≤ 500) :
    Calls Try.prog 52 #[.agg C.cells] w fun e w' => e = .returned (.bool (tmB C)) ∧ Below w.heap.size w w' := by
  have i0 : ∀ (w : World) (x0 x1 x2 x3 : Int), (Instr.index 88 (.agg #[.int .i64 x0, .int .i64 x1, .int .i64 x2, .int .i64 x3]) (.int .i64 0)).run Try.prog w = .ok (.int .i64 x0) w := fun _ _ _ _ _ => by kernel_rfl
  have i1 : ∀ (w : World) (x0 x1 x2 x3 : Int), (Instr.index 88 (.agg #[.int .i64 x0, .int .i64 x1, .int .i64 x2, .int .i64 x3]) (.int .i64 1)).run Try.prog w = .ok (.int .i64 x1) w := fun _ _ _ _ _ => by kernel_rfl
  have i2 : ∀ (w : World) (x0 x1 x2 x3 : Int), (Instr.index 88 (.agg #[.int .i64 x0, .int .i64 x1, .int .i64 x2, .int .i64 x3]) (.int .i64 2)).run Try.prog w = .ok (.int .i64 x2) w := fun _ _ _ _ _ => by kernel_rfl
  have i3 : ∀ (w : World) (x0 x1 x2 x3 : Int), (Instr.index 88 (.agg #[.int .i64 x0, .int .i64 x1, .int .i64 x2, .int .i64 x3]) (.int .i64 3)).run Try.prog w = .ok (.int .i64 x3) w := fun _ _ _ _ _ => by kernel_rfl
  go_enter Try.func52, Try.ntmps52
  go_wp2_with fail
  have hb0 : Below w.heap.size w (w.alloc (.cells C.cells 24)) := (Below.refl _ _).alloc (Nat.le_refl _) _
  have HB := Lib.hid hb0
  clear hb0
  refine wp_loop_rounds 5 ?_
  rw [rounds_succ]
  go_wp2_with fail
  all_goals try (go_ret; exact ⟨ret_bool (by unfold tmB inR; rw [Bool.eq_iff_iff]; simp; omega), HB.out⟩)
  rw [rounds_succ]
  go_wp2_with fail
  all_goals try (go_ret; exact ⟨ret_bool (by unfold tmB inR; rw [Bool.eq_iff_iff]; simp; omega), HB.out⟩)
  rw [rounds_succ]
  go_wp2_with fail
  all_goals try (go_ret; exact ⟨ret_bool (by unfold tmB inR; rw [Bool.eq_iff_iff]; simp; omega), HB.out⟩)
  rw [rounds_succ]
  go_wp2_with fail
  all_goals try (go_ret; exact ⟨ret_bool (by unfold tmB inR; rw [Bool.eq_iff_iff]; simp; omega), HB.out⟩)
  have hm1 : 0 ≤ C.hold * (1000 + C.rho) ∧ C.hold * (1000 + C.rho) ≤ 1073741824 * 1500 := ⟨Int.mul_nonneg (by omega) (by omega), Int.mul_le_mul (by omega) (by omega) (by omega) (by omega)⟩
  have hm2 : 0 ≤ C.grant * (1000 - C.rho) ∧ C.grant * (1000 - C.rho) ≤ 1073741824 * 1500 := ⟨Int.mul_nonneg (by omega) (by omega), Int.mul_le_mul (by omega) (by omega) (by omega) (by omega)⟩
  obtain ⟨hm1, hm1'⟩ := hm1
  obtain ⟨hm2, hm2'⟩ := hm2
  rw [rounds_succ]
  go_wp2_with fail
  all_goals (go_ret; exact ⟨ret_bool (by unfold tmB inR; rw [Bool.eq_iff_iff]; simp; omega), HB.out⟩)
end Go.Proofs.Ytmhggpmhekeemaa
