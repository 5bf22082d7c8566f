/- awake() answers true. -/
import Derived.Test.YtdllcnafcghcfaaHolds
namespace Go.Proofs.Ytdllcnafcghcfaa
open Go.RowKit
/-- The plan of 'awake', whose lists lie in blocks g and g + 1. -/
def C0 (g : Nat) : Cv := { nodes := 3, slots := 1, rho := 100, hold := 10000, grant := 20000, guard := 1100, work := 1, sa := some ⟨g, 0, none⟩, sn := 3, sc := 3, na := some ⟨g + 1, 0, none⟩, nn := 2, nc := 2, soak := 1, pass := 0, st := [0, 0, 1], ne := [2, 1] }
/-- The plan of nothing. -/
def C9 : Cv := { nodes := 0, slots := 0, rho := 0, hold := 0, grant := 0, guard := 0, work := 0, sa := none, sn := 0, sc := 0, na := none, nn := 0, nc := 0, soak := 0, pass := 0, st := [], ne := [] }
theorem good9 (w : World) : Good w C9 := ⟨reads_none _ _ _, reads_none _ _ _, by decide, by decide, by decide, by decide, by decide, by decide, by decide, by decide, by decide⟩
theorem good0 {w : World} {g : Nat} (h1 : w.heap[g]? = some (.cells (cellsOf .i64 [0, 0, 1]) 3 (0, 0))) (h2 : w.heap[g + 1]? = some (.cells (cellsOf .i64 [2, 1]) 3 (0, 0))) : Good w (C0 g) :=
  ⟨blk_reads h1 (by decide) (by decide), blk_reads h2 (by decide) (by decide), by simp [C0], by simp [C0], by simp [C0], by simp [C0], by simp [C0], by simp [C0], by simp [C0], by simp [C0], by simp [C0]⟩
theorem heap_alloc_at (w : World) (o : Obj) (k : Nat) (h : w.heap.size = k) : (w.alloc o).heap[k]? = some o := by subst h; exact heap_alloc_new w o
theorem c0_chk (g : Nat) : chk (C0 g) = true := rfl

set_option maxRecDepth 100000 in
set_option maxHeartbeats 2000000 in
theorem awake_true (w : World) : Calls Try.prog 10 #[] w fun e w' => e = .returned (.bool true) ∧ Below w.heap.size w w' := by
  go_enter Try.func10, Try.ntmps10
  go_wp2_with fail
  have e1 : (((w.alloc (Obj.cells #[Value.int IntKind.i64 0, Value.int IntKind.i64 0, Value.int IntKind.i64 1] 3)).alloc (Obj.cells #[Value.int IntKind.i64 2, Value.int IntKind.i64 1] 3)).alloc (.cells (C0 w.heap.size).cells 25)).heap[w.heap.size]? = some (.cells (cellsOf .i64 [0, 0, 1]) 3 (0, 0)) := by
    rw [Below.heap_alloc _ _ _ (by simp; omega), heap_alloc2_old]; rfl
  have e2 : (((w.alloc (Obj.cells #[Value.int IntKind.i64 0, Value.int IntKind.i64 0, Value.int IntKind.i64 1] 3)).alloc (Obj.cells #[Value.int IntKind.i64 2, Value.int IntKind.i64 1] 3)).alloc (.cells (C0 w.heap.size).cells 25)).heap[w.heap.size + 1]? = some (.cells (cellsOf .i64 [2, 1]) 3 (0, 0)) := by
    rw [Below.heap_alloc _ _ _ (by simp), heap_alloc2_new]; rfl
  have hB0 : (((w.alloc (Obj.cells #[Value.int IntKind.i64 0, Value.int IntKind.i64 0, Value.int IntKind.i64 1] 3)).alloc (Obj.cells #[Value.int IntKind.i64 2, Value.int IntKind.i64 1] 3)).alloc (.cells (C0 w.heap.size).cells 25)).heap[w.heap.size + 2]? = some (.cells (C0 w.heap.size).cells 25 (0, 0)) :=
    heap_alloc_at _ _ _ (by simp)
  have hb0 := bnew (bnew (bnew (brefl w) (Obj.cells #[Value.int IntKind.i64 0, Value.int IntKind.i64 0, Value.int IntKind.i64 1] 3)) (Obj.cells #[Value.int IntKind.i64 2, Value.int IntKind.i64 1] 3)) (.cells (C0 w.heap.size).cells 25)
  have HG := Lib.hid (good0 e1 e2)
  have HB := Lib.hid hB0
  have HL := Lib.hid hb0
  clear e1 e2 hB0 hb0
  refine (check_any (C0 w.heap.size) _ HG.out).mono ?_
  rintro e w1 ⟨rfl, hb1⟩
  rw [show chkI (C0 w.heap.size) = 0 from rfl]
  have W1 := hb1
  clear hb1
  go_wp2_with (with_reducible refine wpList_load_cfg rfl _ rfl (w.heap.size + 2) rfl (C0 w.heap.size) ((W1.block _ (lt_of_block HB.out)).trans HB.out) ?_)
  refine (check_any C9 _ (good9 _)).mono ?_
  rintro e w2 ⟨rfl, hb2⟩
  rw [show chkI C9 = 90 from rfl]
  have W2 := bnext W1 hb2
  clear hb2
  go_wp2_with (with_reducible refine wpList_load_cfg rfl _ rfl (w.heap.size + 2) rfl (C0 w.heap.size) ((W2.block _ (lt_of_block HB.out)).trans HB.out) ?_)
  refine (maj_any (C0 w.heap.size) _ (HG.out.below W2)).mono ?_
  rintro e w3 ⟨rfl, hb3⟩
  rw [show majI (C0 w.heap.size) = 2 from rfl]
  have W3 := bnext W2 hb3
  clear hb3
  go_wp2_with (with_reducible refine wpList_load_cfg rfl _ rfl (w.heap.size + 2) rfl (C0 w.heap.size) ((W3.block _ (lt_of_block HB.out)).trans HB.out) ?_)
  refine (gain_any (C0 w.heap.size) 2000 _ (HG.out.below W3)).mono ?_
  rintro e w4 ⟨rfl, hb4⟩
  rw [show gainI (C0 w.heap.size) 2000 = 1100 from rfl]
  have W4 := bnext W3 hb4
  clear hb4
  go_wp2_with (with_reducible refine wpList_load_cfg rfl _ rfl (w.heap.size + 2) rfl (C0 w.heap.size) ((W4.block _ (lt_of_block HB.out)).trans HB.out) ?_)
  refine (gain_any (C0 w.heap.size) (-5) _ (HG.out.below W4)).mono ?_
  rintro e w5 ⟨rfl, hb5⟩
  rw [show gainI (C0 w.heap.size) (-5) = 900 from rfl]
  have W5 := bnext W4 hb5
  clear hb5
  go_wp2_with (with_reducible refine wpList_load_cfg rfl _ rfl (w.heap.size + 2) rfl (C0 w.heap.size) ((W5.block _ (lt_of_block HB.out)).trans HB.out) ?_)
  refine (holds_any (C0 w.heap.size) 5 10004 _ (HG.out.below W5)).mono ?_
  rintro e w6 ⟨rfl, hb6⟩
  rw [show holdsB (C0 w.heap.size) 5 10004 = true from rfl]
  have W6 := bnext W5 hb6
  clear hb6
  go_wp2_with (with_reducible refine wpList_load_cfg rfl _ rfl (w.heap.size + 2) rfl (C0 w.heap.size) ((W6.block _ (lt_of_block HB.out)).trans HB.out) ?_)
  refine (holds_any (C0 w.heap.size) 5 10005 _ (HG.out.below W6)).mono ?_
  rintro e w7 ⟨rfl, hb7⟩
  rw [show holdsB (C0 w.heap.size) 5 10005 = false from rfl]
  have W7 := bnext W6 hb7
  clear hb7
  go_wp2_with (with_reducible refine wpList_load_cfg rfl _ rfl (w.heap.size + 2) rfl (C0 w.heap.size) ((W7.block _ (lt_of_block HB.out)).trans HB.out) ?_)
  refine (late_any (C0 w.heap.size) 5 8905 _ (HG.out.below W7)).mono ?_
  rintro e w8 ⟨rfl, hb8⟩
  rw [show lateB (C0 w.heap.size) 5 8905 = true from rfl]
  have W8 := bnext W7 hb8
  clear hb8
  go_wp2_with (with_reducible refine wpList_load_cfg rfl _ rfl (w.heap.size + 2) rfl (C0 w.heap.size) ((W8.block _ (lt_of_block HB.out)).trans HB.out) ?_)
  refine (late_any (C0 w.heap.size) 5 8904 _ (HG.out.below W8)).mono ?_
  rintro e w9 ⟨rfl, hb9⟩
  rw [show lateB (C0 w.heap.size) 5 8904 = false from rfl]
  have W9 := bnext W8 hb9
  clear hb9
  go_wp2_with (with_reducible refine wpList_load_cfg rfl _ rfl (w.heap.size + 2) rfl (C0 w.heap.size) ((W9.block _ (lt_of_block HB.out)).trans HB.out) ?_)
  refine (free_any (C0 w.heap.size) 5 20005 _ (HG.out.below W9)).mono ?_
  rintro e w10 ⟨rfl, hb10⟩
  rw [show freeB (C0 w.heap.size) 5 20005 = true from rfl]
  have W10 := bnext W9 hb10
  clear hb10
  go_wp2_with (with_reducible refine wpList_load_cfg rfl _ rfl (w.heap.size + 2) rfl (C0 w.heap.size) ((W10.block _ (lt_of_block HB.out)).trans HB.out) ?_)
  refine (free_any (C0 w.heap.size) 5 20004 _ (HG.out.below W10)).mono ?_
  rintro e w11 ⟨rfl, hb11⟩
  rw [show freeB (C0 w.heap.size) 5 20004 = false from rfl]
  have W11 := bnext W10 hb11
  clear hb11
  go_wp2_with (with_reducible refine wpList_load_cfg rfl _ rfl (w.heap.size + 2) rfl (C0 w.heap.size) ((W11.block _ (lt_of_block HB.out)).trans HB.out) ?_)
  go_ret
  exact ⟨rfl, bnext HL.out W11⟩
end Go.Proofs.Ytdllcnafcghcfaa
