/- The closures of Ask and Free, and 'changed' with each. -/
import Derived.Test.YtmhggpmhekeemaaChanged
namespace Go.Proofs.Ytmhggpmhekeemaa
open Go.RowKit
theorem heap_alloc_at (w : World) (o : Obj) (k : Nat) (h : w.heap.size = k) : (w.alloc o).heap[k]? = some o := by subst h; exact heap_alloc_new w o
theorem grant_size : (Try.prog.info? 68).map (·.size) = some 3 := by kernel_rfl
set_option maxRecDepth 100000 in
set_option maxHeartbeats 1000000 in
theorem ask1_any (g k p q r : Nat) (x : G3) (fl : List Value) (w : World) (h1 : w.cell? ⟨p, 0, none⟩ = some (.int .i64 x.node)) (h2 : w.cell? ⟨q, 0, none⟩ = some (.int .i64 x.nonce)) (h3 : w.cell? ⟨r, 0, none⟩ = some (.int .i64 x.since))
    (hg : w.heap[g]? = some (.cells fl.toArray 68 (0, 0))) (hk : k * 3 + 2 < fl.length) :
    Calls Try.prog 45 #[.pointer (some ⟨g, k * 3, none⟩), .pointer (some ⟨p, 0, none⟩), .pointer (some ⟨q, 0, none⟩), .pointer (some ⟨r, 0, none⟩)] w fun e w' => e = .returned (.tuple #[]) ∧
      w' = ((w.setCell ⟨g, k * 3, none⟩ (.int .i64 x.node)).setCell ⟨g, k * 3 + 1, none⟩ (.int .i64 x.nonce)).setCell ⟨g, k * 3 + 2, none⟩ (.int .i64 x.since) := by
  have f : ∀ j, w.frozen? ⟨g, j, none⟩ = false := fun j => blk_free hg
  have c : ∀ j, j < fl.length → ∃ v, w.cell? ⟨g, j, none⟩ = some v := fun j hj => by
    rw [cell_of_row _ _ _ _ _ _ hg]
    exact ⟨fl[j], by simp [hj]⟩
  obtain ⟨v0, c0⟩ := c (k * 3) (by omega)
  obtain ⟨v1, c1⟩ := c (k * 3 + 1) (by omega)
  obtain ⟨v2, c2⟩ := c (k * 3 + 2) (by omega)
  clear hg c hk
  go_enter Try.func45, Try.ntmps45
  go_wp2_with fail
  go_end0
  exact ⟨rfl, rfl⟩
set_option maxRecDepth 100000 in
set_option maxHeartbeats 1000000 in
theorem free1_any (g k : Nat) (fl : List Value) (w : World)
    (hg : w.heap[g]? = some (.cells fl.toArray 68 (0, 0))) (hk : k * 3 + 2 < fl.length) :
    Calls Try.prog 49 #[.pointer (some ⟨g, k * 3, none⟩)] w fun e w' => e = .returned (.tuple #[]) ∧ ∃ w1, Below w.heap.size w w1 ∧
      w' = ((w1.setCell ⟨g, k * 3, none⟩ (.int .i64 gnone.node)).setCell ⟨g, k * 3 + 1, none⟩ (.int .i64 gnone.nonce)).setCell ⟨g, k * 3 + 2, none⟩ (.int .i64 gnone.since) := by
  have HG := Lib.hid hg
  have HK := Lib.hid hk
  clear hg hk
  go_enter Try.func49, Try.ntmps49
  go_wp2_with (go_at_call 39; refine (none_any _).mono ?_; rintro e w1 ⟨rfl, hb1⟩; have hg := (hb1.block _ (lt_of_block HG.out)).trans HG.out; have f : ∀ j, w1.frozen? ⟨g, j, none⟩ = false := (fun j => blk_free hg); have c : ∀ j, j < fl.length → ∃ v, w1.cell? ⟨g, j, none⟩ = some v := (fun j hj => (by rw [cell_of_row _ _ _ _ _ _ hg]; exact ⟨fl[j], by simp [hj]⟩)); obtain ⟨v0, c0⟩ := c (k * 3) (by have := HK.out; omega); obtain ⟨v1, c1⟩ := c (k * 3 + 1) (by have := HK.out; omega); obtain ⟨v2, c2⟩ := c (k * 3 + 2) (by have := HK.out; omega); clear hg c)
  go_end0
  exact ⟨rfl, w1, hb1, rfl⟩

set_option maxRecDepth 100000 in
set_option maxHeartbeats 1000000 in
theorem changed_ask (boot : Int) (ad : Option Addr) (n cap : Nat) (gs : List G3) (k : Nat) (x : G3) (p : Nat) (w : World) (h : Acc w ad n cap gs) (hk : k < n) (hx : x.Wf)
    (h1 : w.cell? ⟨p, 0, none⟩ = some (.int .i64 x.node)) (h2 : w.cell? ⟨p + 1, 0, none⟩ = some (.int .i64 x.nonce)) (h3 : w.cell? ⟨p + 2, 0, none⟩ = some (.int .i64 x.since)) :
    Calls Try.prog 44 #[.agg #[.int .i64 boot, .slice ad n cap], .int .i64 k, .func (Fn.func 45) #[] #[.pointer (some ⟨p, 0, none⟩), .pointer (some ⟨p + 1, 0, none⟩), .pointer (some ⟨p + 2, 0, none⟩)]] w fun e w' => ∃ ad' cap', e = .returned (.agg #[.int .i64 boot, .slice ad' n cap']) ∧ Acc w' ad' n cap' (gs.set k x) ∧ Below w.heap.size w w' := by
  have HA := Lib.hid h
  have HN := Lib.hid h.few
  have HC1 := Lib.hid h1
  have HC2 := Lib.hid h2
  have HC3 := Lib.hid h3
  clear h1 h2 h3
  obtain ⟨b, rfl, _⟩ := h.cell hk
  clear h
  have hn20 : n ≤ 20 := HN.out
  have HL3 : Hid ((flat gs).length = n * 3) := by show _ = _; rw [flat_length, HA.out.len]
  go_enter Try.func44, Try.ntmps44
  have hb0 : Below w.heap.size w ((w.alloc (Obj.cells #[Value.int IntKind.i64 boot, Value.slice (some ⟨b, 0, none⟩) n cap] 30)).alloc (Obj.cells #[Value.int IntKind.i64 0, Value.slice none 0 0] 30)) := bnew (bnew (brefl w) _) _
  have HA0 : Hid (((w.alloc (Obj.cells #[Value.int IntKind.i64 boot, Value.slice (some ⟨b, 0, none⟩) n cap] 30)).alloc (Obj.cells #[Value.int IntKind.i64 0, Value.slice none 0 0] 30)).heap[w.heap.size]? = some (.cells #[.int .i64 boot, .slice (some ⟨b, 0, none⟩) n cap] 30 (0, 0))) := heap_alloc2_old _ _ _
  have HR0 : Hid (((w.alloc (Obj.cells #[Value.int IntKind.i64 boot, Value.slice (some ⟨b, 0, none⟩) n cap] 30)).alloc (Obj.cells #[Value.int IntKind.i64 0, Value.slice none 0 0] 30)).heap[w.heap.size + 1]? = some (.cells #[.int .i64 0, .slice none 0 0] 30 (0, 0))) := heap_alloc2_new _ _ _
  obtain ⟨cs, hcs, hmk⟩ := run_make3 n hn20 ((w.alloc (Obj.cells #[Value.int IntKind.i64 boot, Value.slice (some ⟨b, 0, none⟩) n cap] 30)).alloc (Obj.cells #[Value.int IntKind.i64 0, Value.slice none 0 0] 30))
  have HCS := Lib.hid hcs
  clear hcs
  have HB0 := Lib.hid hb0
  clear hb0
  go_wp2_with (first
    | (refine wpList_copy3 rfl (.tmp 12) (.tmp 14) 28 28 rfl 68 Try.underlying28 grant_size (w.heap.size + 1 + 1) n n ⟨b, 0, none⟩ cap rfl rfl cs 68 (heap_alloc_at _ _ _ (by simp)) (flat gs) HL3.out ((HA.out.below (bnew HB0.out _)).news _ rfl) HCS.out (flat_one gs) ?_; generalize hW : World.setRow _ _ _ = W5; have HB5 : Hid (Below w.heap.size w W5) := hW ▸ below_setRow (bnew HB0.out _) (by omega) _; have HG5 : Hid (W5.heap[w.heap.size + 1 + 1]? = some (.cells (flat gs).toArray 68 (0, 0))) := (by show _ = _; rw [← hW]; exact setRow_heap _ _ _ _ _ _ (heap_alloc_at _ _ _ (by simp))); have HA5 : Hid (W5.heap[w.heap.size]? = some (.cells #[.int .i64 boot, .slice (some ⟨b, 0, none⟩) n cap] 30 (0, 0))) := (by show _ = _; rw [← hW]; exact (setRow_other _ _ _ _ (by omega)).trans ((Below.heap_alloc _ _ _ (lt_of_block HA0.out)).trans HA0.out)); have HR5 : Hid (W5.heap[w.heap.size + 1]? = some (.cells #[.int .i64 0, .slice none 0 0] 30 (0, 0))) := (by show _ = _; rw [← hW]; exact (setRow_other _ _ _ _ (by omega)).trans ((Below.heap_alloc _ _ _ (lt_of_block HR0.out)).trans HR0.out)); clear hW)
    | (go_at_call 45; refine (ask1_any (w.heap.size + 1 + 1) k p (p + 1) (p + 2) x (flat gs) _ ((HB5.out.cell (block_lt_of_cell HC1.out)).trans HC1.out) ((HB5.out.cell (block_lt_of_cell HC2.out)).trans HC2.out) ((HB5.out.cell (block_lt_of_cell HC3.out)).trans HC3.out) HG5.out (by rw [HL3.out]; omega)).mono ?_; rintro e W6 ⟨rfl, hw6⟩; have G0 := HG5.out; have A0 := HA5.out; have R0 := HR5.out; have B0 := HB5.out; have HG6 : Hid (W6.heap[w.heap.size + 1 + 1]? = some (.cells (flat (gs.set k x)).toArray 68 (0, 0))) := (by show _ = _; rw [hw6]; exact acc_set G0 rfl HA.out.len hk x); have HA6 : Hid (W6.heap[w.heap.size]? = some (.cells #[.int .i64 boot, .slice (some ⟨b, 0, none⟩) n cap] 30 (0, 0))) := (by show _ = _; rw [hw6]; exact (heap_setCell_other _ _ _ _ (by show w.heap.size ≠ w.heap.size + 1 + 1; omega)).trans ((heap_setCell_other _ _ _ _ (by show w.heap.size ≠ w.heap.size + 1 + 1; omega)).trans ((heap_setCell_other _ _ _ _ (by show w.heap.size ≠ w.heap.size + 1 + 1; omega)).trans A0))); have HR6 : Hid (W6.heap[w.heap.size + 1]? = some (.cells #[.int .i64 0, .slice none 0 0] 30 (0, 0))) := (by show _ = _; rw [hw6]; exact (heap_setCell_other _ _ _ _ (by show w.heap.size + 1 ≠ w.heap.size + 1 + 1; omega)).trans ((heap_setCell_other _ _ _ _ (by show w.heap.size + 1 ≠ w.heap.size + 1 + 1; omega)).trans ((heap_setCell_other _ _ _ _ (by show w.heap.size + 1 ≠ w.heap.size + 1 + 1; omega)).trans R0))); have HB6 : Hid (Below w.heap.size w W6) := (by show Below _ _ _; rw [hw6]; exact ((B0.setCell (by show w.heap.size ≤ w.heap.size + 1 + 1; omega) _).setCell (by show w.heap.size ≤ w.heap.size + 1 + 1; omega) _).setCell (by show w.heap.size ≤ w.heap.size + 1 + 1; omega) _); clear hw6 G0 A0 R0 B0; obtain ⟨f0, f1⟩ := acc_cells HA6.out; obtain ⟨x0, x1⟩ := acc_cells HR6.out; have z0 : ∀ j, W6.frozen? ⟨w.heap.size + 1, j, none⟩ = false := (fun j => blk_free HR6.out)))
  have hR : ((W6.setCell ⟨w.heap.size + 1, 0, none⟩ (.int .i64 boot)).setCell ⟨w.heap.size + 1, 1, none⟩ (.slice (some ⟨w.heap.size + 1 + 1, 0, none⟩) n n)).heap[w.heap.size + 1]? = some (.cells #[.int .i64 boot, .slice (some ⟨w.heap.size + 1 + 1, 0, none⟩) n n] 30 (0, 0)) := (heap_setCell_same _ _ _ _ _ _ (heap_setCell_same _ _ _ _ _ _ HR6.out)).trans rfl
  refine bodyPost_ret (results_cell_row rfl _ _ (w.heap.size + 1) 30 _ (0, 0) _ rfl hR Try.underlying30 rfl (acc_info.trans rfl)) rfl ?_
  have hG8 : ((W6.setCell ⟨w.heap.size + 1, 0, none⟩ (.int .i64 boot)).setCell ⟨w.heap.size + 1, 1, none⟩ (.slice (some ⟨w.heap.size + 1 + 1, 0, none⟩) n n)).heap[w.heap.size + 1 + 1]? = some (.cells (flat (gs.set k x)).toArray 68 (0, 0)) := (heap_setCell_other _ _ _ _ (by show w.heap.size + 1 + 1 ≠ w.heap.size + 1; omega)).trans ((heap_setCell_other _ _ _ _ (by show w.heap.size + 1 + 1 ≠ w.heap.size + 1; omega)).trans HG6.out)
  have hl := HA.out.len
  exact ⟨_, _, rfl, acc_of_blk hG8 (by simpa using hl) (Nat.le_refl _) (by unfold maxLen; omega) (by simp [flat_length, hl]) (by rw [List.take_of_length_le (by simp [flat_length, hl])]) (gset_wf HA.out.wf k hx) hn20, (HB6.out.setCell (Nat.le_succ _) _).setCell (Nat.le_succ _) _⟩

set_option maxRecDepth 100000 in
set_option maxHeartbeats 1000000 in
theorem changed_free (boot : Int) (ad : Option Addr) (n cap : Nat) (gs : List G3) (k : Nat) (w : World) (h : Acc w ad n cap gs) (hk : k < n) :
    Calls Try.prog 44 #[.agg #[.int .i64 boot, .slice ad n cap], .int .i64 k, .func (Fn.func 49) #[] #[]] w fun e w' => ∃ ad' cap', e = .returned (.agg #[.int .i64 boot, .slice ad' n cap']) ∧ Acc w' ad' n cap' (gs.set k gnone) ∧ Below w.heap.size w w' := by
  have HA := Lib.hid h
  have HN := Lib.hid h.few
  have hx := gnone_wf
  obtain ⟨b, rfl, _⟩ := h.cell hk
  clear h
  have hn20 : n ≤ 20 := HN.out
  have HL3 : Hid ((flat gs).length = n * 3) := by show _ = _; rw [flat_length, HA.out.len]
  go_enter Try.func44, Try.ntmps44
  have hb0 : Below w.heap.size w ((w.alloc (Obj.cells #[Value.int IntKind.i64 boot, Value.slice (some ⟨b, 0, none⟩) n cap] 30)).alloc (Obj.cells #[Value.int IntKind.i64 0, Value.slice none 0 0] 30)) := bnew (bnew (brefl w) _) _
  have HA0 : Hid (((w.alloc (Obj.cells #[Value.int IntKind.i64 boot, Value.slice (some ⟨b, 0, none⟩) n cap] 30)).alloc (Obj.cells #[Value.int IntKind.i64 0, Value.slice none 0 0] 30)).heap[w.heap.size]? = some (.cells #[.int .i64 boot, .slice (some ⟨b, 0, none⟩) n cap] 30 (0, 0))) := heap_alloc2_old _ _ _
  have HR0 : Hid (((w.alloc (Obj.cells #[Value.int IntKind.i64 boot, Value.slice (some ⟨b, 0, none⟩) n cap] 30)).alloc (Obj.cells #[Value.int IntKind.i64 0, Value.slice none 0 0] 30)).heap[w.heap.size + 1]? = some (.cells #[.int .i64 0, .slice none 0 0] 30 (0, 0))) := heap_alloc2_new _ _ _
  obtain ⟨cs, hcs, hmk⟩ := run_make3 n hn20 ((w.alloc (Obj.cells #[Value.int IntKind.i64 boot, Value.slice (some ⟨b, 0, none⟩) n cap] 30)).alloc (Obj.cells #[Value.int IntKind.i64 0, Value.slice none 0 0] 30))
  have HCS := Lib.hid hcs
  clear hcs
  have HB0 := Lib.hid hb0
  clear hb0
  go_wp2_with (first
    | (refine wpList_copy3 rfl (.tmp 12) (.tmp 14) 28 28 rfl 68 Try.underlying28 grant_size (w.heap.size + 1 + 1) n n ⟨b, 0, none⟩ cap rfl rfl cs 68 (heap_alloc_at _ _ _ (by simp)) (flat gs) HL3.out ((HA.out.below (bnew HB0.out _)).news _ rfl) HCS.out (flat_one gs) ?_; generalize hW : World.setRow _ _ _ = W5; have HB5 : Hid (Below w.heap.size w W5) := hW ▸ below_setRow (bnew HB0.out _) (by omega) _; have HG5 : Hid (W5.heap[w.heap.size + 1 + 1]? = some (.cells (flat gs).toArray 68 (0, 0))) := (by show _ = _; rw [← hW]; exact setRow_heap _ _ _ _ _ _ (heap_alloc_at _ _ _ (by simp))); have HA5 : Hid (W5.heap[w.heap.size]? = some (.cells #[.int .i64 boot, .slice (some ⟨b, 0, none⟩) n cap] 30 (0, 0))) := (by show _ = _; rw [← hW]; exact (setRow_other _ _ _ _ (by omega)).trans ((Below.heap_alloc _ _ _ (lt_of_block HA0.out)).trans HA0.out)); have HR5 : Hid (W5.heap[w.heap.size + 1]? = some (.cells #[.int .i64 0, .slice none 0 0] 30 (0, 0))) := (by show _ = _; rw [← hW]; exact (setRow_other _ _ _ _ (by omega)).trans ((Below.heap_alloc _ _ _ (lt_of_block HR0.out)).trans HR0.out)); clear hW)
    | (go_at_call 49; refine (free1_any (w.heap.size + 1 + 1) k (flat gs) _ HG5.out (by rw [HL3.out]; omega)).mono ?_; rintro e W6 ⟨rfl, W55, hb55, hw6⟩; have G0 := (hb55.block _ (lt_of_block HG5.out)).trans HG5.out; have A0 := (hb55.block _ (lt_of_block HA5.out)).trans HA5.out; have R0 := (hb55.block _ (lt_of_block HR5.out)).trans HR5.out; have B0 := bnext HB5.out hb55; have HG6 : Hid (W6.heap[w.heap.size + 1 + 1]? = some (.cells (flat (gs.set k gnone)).toArray 68 (0, 0))) := (by show _ = _; rw [hw6]; exact acc_set G0 rfl HA.out.len hk gnone); have HA6 : Hid (W6.heap[w.heap.size]? = some (.cells #[.int .i64 boot, .slice (some ⟨b, 0, none⟩) n cap] 30 (0, 0))) := (by show _ = _; rw [hw6]; exact (heap_setCell_other _ _ _ _ (by show w.heap.size ≠ w.heap.size + 1 + 1; omega)).trans ((heap_setCell_other _ _ _ _ (by show w.heap.size ≠ w.heap.size + 1 + 1; omega)).trans ((heap_setCell_other _ _ _ _ (by show w.heap.size ≠ w.heap.size + 1 + 1; omega)).trans A0))); have HR6 : Hid (W6.heap[w.heap.size + 1]? = some (.cells #[.int .i64 0, .slice none 0 0] 30 (0, 0))) := (by show _ = _; rw [hw6]; exact (heap_setCell_other _ _ _ _ (by show w.heap.size + 1 ≠ w.heap.size + 1 + 1; omega)).trans ((heap_setCell_other _ _ _ _ (by show w.heap.size + 1 ≠ w.heap.size + 1 + 1; omega)).trans ((heap_setCell_other _ _ _ _ (by show w.heap.size + 1 ≠ w.heap.size + 1 + 1; omega)).trans R0))); have HB6 : Hid (Below w.heap.size w W6) := (by show Below _ _ _; rw [hw6]; exact ((B0.setCell (by show w.heap.size ≤ w.heap.size + 1 + 1; omega) _).setCell (by show w.heap.size ≤ w.heap.size + 1 + 1; omega) _).setCell (by show w.heap.size ≤ w.heap.size + 1 + 1; omega) _); clear hw6 G0 A0 R0 B0; obtain ⟨f0, f1⟩ := acc_cells HA6.out; obtain ⟨x0, x1⟩ := acc_cells HR6.out; have z0 : ∀ j, W6.frozen? ⟨w.heap.size + 1, j, none⟩ = false := (fun j => blk_free HR6.out)))
  have hR : ((W6.setCell ⟨w.heap.size + 1, 0, none⟩ (.int .i64 boot)).setCell ⟨w.heap.size + 1, 1, none⟩ (.slice (some ⟨w.heap.size + 1 + 1, 0, none⟩) n n)).heap[w.heap.size + 1]? = some (.cells #[.int .i64 boot, .slice (some ⟨w.heap.size + 1 + 1, 0, none⟩) n n] 30 (0, 0)) := (heap_setCell_same _ _ _ _ _ _ (heap_setCell_same _ _ _ _ _ _ HR6.out)).trans rfl
  refine bodyPost_ret (results_cell_row rfl _ _ (w.heap.size + 1) 30 _ (0, 0) _ rfl hR Try.underlying30 rfl (acc_info.trans rfl)) rfl ?_
  have hG8 : ((W6.setCell ⟨w.heap.size + 1, 0, none⟩ (.int .i64 boot)).setCell ⟨w.heap.size + 1, 1, none⟩ (.slice (some ⟨w.heap.size + 1 + 1, 0, none⟩) n n)).heap[w.heap.size + 1 + 1]? = some (.cells (flat (gs.set k gnone)).toArray 68 (0, 0)) := (heap_setCell_other _ _ _ _ (by show w.heap.size + 1 + 1 ≠ w.heap.size + 1; omega)).trans ((heap_setCell_other _ _ _ _ (by show w.heap.size + 1 + 1 ≠ w.heap.size + 1; omega)).trans HG6.out)
  have hl := HA.out.len
  exact ⟨_, _, rfl, acc_of_blk hG8 (by simpa using hl) (Nat.le_refl _) (by unfold maxLen; omega) (by simp [flat_length, hl]) (by rw [List.take_of_length_le (by simp [flat_length, hl])]) (gset_wf HA.out.wf k hx) hn20, (HB6.out.setCell (Nat.le_succ _) _).setCell (Nat.le_succ _) _⟩
end Go.Proofs.Ytmhggpmhekeemaa
