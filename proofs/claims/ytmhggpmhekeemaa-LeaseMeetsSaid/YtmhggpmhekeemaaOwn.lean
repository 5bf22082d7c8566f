/- A grant to no one; an acceptor in memory of its own. -/
import Derived.Test.YtmhggpmhekeemaaAcc
import Derived.Handy
namespace Go.Proofs.Ytmhggpmhekeemaa
open Go.RowKit
theorem own_form {w : World} {base : Nat} {e : TypeId} {size : Nat} {v : Value} {n : Nat} {xs : List Value} (h : w.ownsRow base e size v n xs) : ∃ ad cap, v = .slice ad n cap ∧ (∀ p, ad = some p → base ≤ p.block) := by
  rcases h.2 with ⟨rfl, rfl⟩ | ⟨g, cap, cur, rfl, hb, _⟩
  · exact ⟨none, 0, rfl, by simp⟩
  · exact ⟨_, _, rfl, by intro p hp; cases hp; exact hb⟩
theorem acc_cells {w : World} {b : Nat} {boot : Int} {ad : Option Addr} {n cap : Nat} (hb : w.heap[b]? = some (.cells #[.int .i64 boot, .slice ad n cap] 30 (0, 0))) : w.cell? ⟨b, 0, none⟩ = some (.int .i64 boot) ∧ w.cell? ⟨b, 1, none⟩ = some (.slice ad n cap) := by
  refine ⟨?_, ?_⟩ <;> (rw [cell_of_row _ _ _ _ _ _ hb]; rfl)
theorem acc_info : (Try.prog.info? 30).map (·.size) = some 2 := by kernel_rfl
set_option maxRecDepth 100000 in
theorem none_any (w : World) :
    Calls Try.prog 39 #[] w fun e w' => e = .returned (.agg #[.int .i64 (-1), .int .i64 0, .int .i64 0]) ∧ Below w.heap.size w w' := by
  have HB := Lib.hid (brefl w)
  go_enter Try.func39, Try.ntmps39
  go_wp2_with fail
  go_returns
  exact ⟨rfl, bnew HB.out _⟩
set_option maxRecDepth 100000 in
theorem own_any (boot : Int) (ad : Option Addr) (n cap : Nat) (gs : List G3) (w : World) (h : Acc w ad n cap gs) :
    Calls Try.prog 43 #[.agg #[.int .i64 boot, .slice ad n cap]] w fun e w' => ∃ ad' cap', e = .returned (.agg #[.int .i64 boot, .slice ad' n cap']) ∧ Acc w' ad' n cap' gs ∧ Below w.heap.size w w' := by
  have HA := Lib.hid h
  have HS := Lib.hid h.few
  obtain ⟨i0, hi, hz0, hz1, hz2⟩ := grant_i
  have HI := Lib.hid hi
  have HZ := Lib.hid hz0
  clear hi hz0 h
  go_enter Try.func43, Try.ntmps43
  go_wp2_with fail
  have hb0 : Below w.heap.size w ((w.alloc (Obj.cells #[Value.int IntKind.i64 boot, Value.slice ad n cap] 30)).alloc (Obj.cells #[Value.int IntKind.i64 0, Value.slice none 0 0] 30)) := bnew (bnew (brefl w) _) _
  have hc0 : ((w.alloc (Obj.cells #[Value.int IntKind.i64 boot, Value.slice ad n cap] 30)).alloc (Obj.cells #[Value.int IntKind.i64 0, Value.slice none 0 0] 30)).heap[w.heap.size]? = some (.cells #[.int .i64 boot, .slice ad n cap] 30 (0, 0)) := heap_alloc2_old _ _ _
  have hr0 : ((w.alloc (Obj.cells #[Value.int IntKind.i64 boot, Value.slice ad n cap] 30)).alloc (Obj.cells #[Value.int IntKind.i64 0, Value.slice none 0 0] 30)).heap[w.heap.size + 1]? = some (.cells #[.int .i64 0, .slice none 0 0] 30 (0, 0)) := heap_alloc2_new _ _ _
  generalize (w.alloc (Obj.cells #[Value.int IntKind.i64 boot, Value.slice ad n cap] 30)).alloc (Obj.cells #[Value.int IntKind.i64 0, Value.slice none 0 0] 30) = X at *
  have hC : ∀ W : World, W.heap[w.heap.size]? = some (.cells #[.int .i64 boot, .slice ad n cap] 30 (0, 0)) → W.cell? ⟨w.heap.size, 0, none⟩ = some (.int .i64 boot) ∧ W.cell? ⟨w.heap.size, 1, none⟩ = some (.slice ad n cap) := fun W h => acc_cells h
  have HL := Lib.hid (Nat.lt_trans (Nat.lt_succ_self _) (lt_of_block hr0))
  go_region_held3 (fun W : World => Below w.heap.size w W ∧ W.heap[w.heap.size]? = some (.cells #[.int .i64 boot, .slice ad n cap] 30 (0, 0)))
    (first | assumption | exact ⟨hb0.drew, hc0⟩ | exact ⟨hb7, hc7⟩ | exact ⟨(hb7.setCell (by show w.heap.size ≤ w.heap.size + 1; omega) _).setCell (by show w.heap.size ≤ w.heap.size + 1; omega) _, (heap_setCell_other _ _ _ _ (by show w.heap.size ≠ w.heap.size + 1; omega)).trans ((heap_setCell_other _ _ _ _ (by show w.heap.size ≠ w.heap.size + 1; omega)).trans hc7)⟩ | exact ⟨hb7.setCell (by show w.heap.size ≤ w.heap.size + 1; omega) _, (heap_setCell_other _ _ _ _ (by show w.heap.size ≠ w.heap.size + 1; omega)).trans hc7⟩)
    (first
      | (rw [if_pos (by rfl)]; refine wp_append_row (.const (.slice none 0 0)) (.tmp 6) 28 rfl X.heap.size 68 i0 _ 3 24 Try.underlying28 HI.out HZ.out hz1 hz2 rfl (by decide) (.slice none 0 0) 0 [] rfl (World.ownsRow_nil _ _ _ _) ad n cap (flat gs) rfl HA.out.nil (by rw [flat_length, HA.out.len]) (HA.out.below hb0.drew).news (flat_one gs) (by have := HS.out; unfold maxLen; omega) (by have := HS.out; omega) (Nat.le_refl _) ?_; intro v7 w7 ho7 hg7; obtain ⟨ad7, cap7, rfl, hp7⟩ := own_form ho7; rw [Nat.zero_add, List.nil_append] at ho7; have hb7 := bgrown (hb0.drew) hg7 (by intro k hk; cases hk); have hc7 := (hg7.block w.heap.size (by have := HL.out; exact this) (by intro h; cases h)).trans hc0; have hr7 := (hg7.block (w.heap.size + 1) (lt_of_block hr0) (by intro h; cases h)).trans hr0; obtain ⟨x7, y7⟩ := acc_cells hr7; have z7 : ∀ j, w7.frozen? ⟨w.heap.size + 1, j, none⟩ = false := fun j => blk_free hr7; rw [Nat.zero_add]))
  go_wp2_with fail
  have hR : ((w7.setCell ⟨w.heap.size + 1, 0, none⟩ (.int .i64 boot)).setCell ⟨w.heap.size + 1, 1, none⟩ (.slice ad7 n cap7)).heap[w.heap.size + 1]? = some (.cells #[.int .i64 boot, .slice ad7 n cap7] 30 (0, 0)) := (heap_setCell_same _ _ _ _ _ _ (heap_setCell_same _ _ _ _ _ _ hr7)).trans rfl
  refine bodyPost_ret (results_cell_row rfl _ _ (w.heap.size + 1) 30 _ (0, 0) _ rfl hR Try.underlying30 rfl (acc_info.trans rfl)) rfl ?_
  have hlx : w.heap.size + 1 < X.heap.size := lt_of_block hr0
  have ho8 := ownsRow_setCell_below (ownsRow_setCell_below ho7 (a := ⟨w.heap.size + 1, 0, none⟩) hlx (.int .i64 boot)) (a := ⟨w.heap.size + 1, 1, none⟩) hlx (.slice ad7 n cap7)
  exact ⟨ad7, cap7, rfl, acc_of_own ho8 HA.out.wf HS.out, (hb7.setCell (Nat.le_succ _) _).setCell (Nat.le_succ _) _⟩
end Go.Proofs.Ytmhggpmhekeemaa
