/- The walk of CrcTurns: true, and nothing that was there has changed. -/
import Derived.Test.YtkehdagodeaepaaTurns
import Derived.Deep.RegionHeld3
namespace Go.Proofs.Ytkehdagodeaepaa
open Go.RowKit
set_option maxRecDepth 100000 in
set_option maxHeartbeats 1000000 in
theorem walk_CrcTurns (a0 : Option Addr) (len0 cap0 : Nat) (z0 : List Int) (a1 x0 x1 x2 x3 : Int) (w : World) (w0 : Reads .u8 w a0 len0 cap0 z0) (w1 : (Lit.int .i64 a1).wf = true) (w2 : ∀ x ∈ [x0, x1, x2, x3], 0 ≤ x ∧ x < 256) :
    Calls Try.prog 6 #[.slice a0 len0 cap0, .int .i64 a1, .agg #[.int .u8 x0, .int .u8 x1, .int .u8 x2, .int .u8 x3]] w fun e w' => e = .returned (.bool true) ∧ Below w.heap.size w w' := by
  have hs0 := w0.small'
  by_cases hz : len0 = 0
  · subst hz
    go_enter Try.func6, Try.ntmps6
    go_wp2_with (go_at_call 9; refine (awake_true _).mono ?_; rintro e wA ⟨rfl, hbA⟩)
    go_ret
    exact ⟨rfl, bnext (bnew (brefl w) _) hbA⟩
  · by_cases hb : len0 > 500
    · have hz' : ((len0 : Int) == 0) = false := by rw [beq_eq_false_iff_ne]; omega
      go_enter Try.func6, Try.ntmps6
      go_wp2_with (go_at_call 9; refine (awake_true _).mono ?_; rintro e wA ⟨rfl, hbA⟩)
      go_ret
      exact ⟨rfl, bnext (bnew (brefl w) _) hbA⟩
    · have hz' : ((len0 : Int) == 0) = false := by rw [beq_eq_false_iff_ne]; omega
      have hb' : (len0 : Int) ≤ 500 := by omega
      have hp : (1 : Int) ≤ len0 := by omega
      have hr1 : -9223372036854775808 ≤ a1 ∧ a1 ≤ 9223372036854775807 := by
        simp only [Lit.wf, Bool.and_eq_true, decide_eq_true_eq] at w1
        have h1 : IntKind.i64.min = -9223372036854775808 := rfl
        have h2 : IntKind.i64.max = 9223372036854775807 := rfl
        omega
      obtain ⟨hr2, hr3⟩ := hr1
      obtain ⟨i0, hi, hz0, hz1, hz2⟩ := info_parts byte_info
      have hl0 : z0.length = len0 := w0.length
      have hbx : ∀ W', Below w.heap.size w W' → Reads .u8 W' a0 len0 cap0 z0 := fun W' h => w0.below h
      have HR := Lib.hid hbx
      clear hbx
      have hpos : 0 < (len0 : Int) := by omega
      have hAA : ∃ A : Nat, A < len0 ∧ (a1 < 0 → -((a1 + 1).tmod (len0 : Int)) = (A : Int)) ∧ (¬ a1 < 0 → a1 % (len0 : Int) = (A : Int)) := by
        by_cases hn : a1 < 0
        · have h1 := Int.emod_nonneg (-(a1 + 1)) (show (len0 : Int) ≠ 0 by omega)
          have h2 := Int.emod_lt_of_pos (-(a1 + 1)) hpos
          refine ⟨((-(a1 + 1)) % (len0 : Int)).toNat, by omega, fun _ => ?_, fun h => absurd hn h⟩
          rw [← Int.neg_tmod, Int.tmod_eq_emod_of_nonneg (by omega)]
          omega
        · have h1 := Int.emod_nonneg a1 (show (len0 : Int) ≠ 0 by omega)
          have h2 := Int.emod_lt_of_pos a1 hpos
          exact ⟨(a1 % (len0 : Int)).toNat, by omega, fun h => absurd h hn, fun _ => by omega⟩
      obtain ⟨A, hA, hA1, hA2⟩ := hAA
      have HA1 := Lib.hid hA1
      have HA2 := Lib.hid hA2
      have HW2 := Lib.hid w2
      clear hA1 hA2 w2
      by_cases hneg : a1 < 0
      · go_enter Try.func6, Try.ntmps6
        go_wp2_with (first
          | (go_at_call 9; refine (awake_true _).mono ?_; rintro e wA ⟨rfl, hbA⟩)
          | (with_reducible refine wpList_append_reads rfl (.tmp 29) (.tmp 30) 23 rfl wA.heap.size 5 i0 (.int .u8 0) 1 Try.underlying23 hi hz0 hz1 hz2 rfl _ 0 [] rfl (World.ownsRow_lit wA #[] 0 (Nat.le_refl _) (by decide) rfl) .u8 _ _ _ _ rfl (HR.out _ (bnew (bnext (bnew (brefl w) _) hbA) _)) (by unfold maxLen; omega) (by omega) (by simp) ?_; intro v1 wD ho1 hg1))
        rw [HA1.out hneg]
        simp only [Nat.zero_add, List.nil_append] at ho1
        rcases ho1.2 with ⟨_, h00⟩ | ⟨g, cp, _, hv, hgb, _⟩
        · omega
        subst hv
        have hgW : w.heap.size + 1 ≤ g := by have := hbA.size; simp at this; omega
        have hbD : Below w.heap.size w wD := bgrown_lit (bnew (bnext (bnew (brefl w) _) hbA) _) hg1 (by have := hbA.size; simp at this; omega)
        have hlt1 : w.heap.size < wA.heap.size := by have := hbA.size; simp at this; omega
        have hlt2 : w.heap.size < (wA.alloc (Obj.cells #[] 5)).heap.size := by simp; omega
        have hne : some w.heap.size ≠ Value.ownBlock (.slice (some ⟨wA.heap.size, 0, none⟩) 0 0) := by
          simp only [Value.ownBlock]
          intro h
          injection h with h
          omega
        have hbox : wD.heap[w.heap.size]? = some (.cells (cellsOf .u8 [x0, x1, x2, x3]) 30 (0, 0)) := by
          rw [hg1.block _ hlt2 hne, (bnew hbA _).block _ (by simp), heap_alloc_new]
          rfl
        have HOWN := Lib.hid ho1
        have HBOX := Lib.hid hbox
        clear hg1 ho1 hbox hr2 hr3 hi hz0 hz1 hz2 HA1 HA2
        go_loopw [9] (fun i wr => ∃ k : Nat, k ≤ 4 ∧ A + k ≤ len0 ∧ i = .int .i64 k ∧ wr.ownsRow wA.heap.size 5 1 (.slice (some ⟨g, 0, none⟩) len0 cp) len0 ((turn z0 [x0, x1, x2, x3] A k).map (Value.int .u8)) ∧ wr.heap[w.heap.size]? = some (.cells (cellsOf .u8 [x0, x1, x2, x3]) 30 (0, 0)) ∧ Below w.heap.size w wr) (fun i _ => 4 - (intOf i).toNat)
        case atStart => exact ⟨0, by omega, by omega, rfl, HOWN.out, HBOX.out, hbD⟩
        case round =>
          obtain ⟨k, hk4, hkl, rfl, hown, hbox, hbel⟩ := hrel
          by_cases h4 : k < 4
          · by_cases hlt : A + k < len0
            · have hlen := turn_length z0 [x0, x1, x2, x3] A k
              have hrz := turn_range (bytes_range w0.wf) HW2.out A k
              obtain ⟨x, hx⟩ : ∃ x, x = (turn z0 [x0, x1, x2, x3] A k).getD (A + k) 0 := ⟨_, rfl⟩
              obtain ⟨y, hy⟩ : ∃ y, y = [x0, x1, x2, x3].getD k 0 := ⟨_, rfl⟩
              have hl1 : A + k < (turn z0 [x0, x1, x2, x3] A k).length := by omega
              have hl2 : k < [x0, x1, x2, x3].length := by simpa using h4
              have hxr : 0 ≤ x ∧ x < 256 := by rw [hx, List.getD, List.getElem?_eq_getElem hl1]; exact hrz _ (List.getElem_mem _)
              have hyr : 0 ≤ y ∧ y < 256 := by rw [hy, List.getD, List.getElem?_eq_getElem hl2]; exact HW2.out _ (List.getElem_mem _)
              have hxor : bits .xor .u8 x y = xI x y := xI_bits hxr hyr
              have c1 : wr.cell? ⟨g, A + k, none⟩ = some (.int .u8 x) := by
                rw [hown.cellAt (A + k) (by omega), hx]
                simp [List.getElem?_eq_getElem hl1]
              have c2 : wr.cell? ⟨w.heap.size, k, none⟩ = some (.int .u8 y) := by rw [blk_cell hbox hl2, hy]
              have f1 := hown.frozenAt (A + k)
              have hnx := (hown.stored (A + k) (.int .u8 (xI x y))).1
              rw [← List.map_set, hx, hy] at hnx
              have hbx : (wr.setCell ⟨g, A + k, none⟩ (.int .u8 (xI x y))).heap[w.heap.size]? = some (.cells (cellsOf .u8 [x0, x1, x2, x3]) 30 (0, 0)) := by
                rw [heap_setCell_other _ _ _ _ (by simp; omega)]; exact hbox
              rw [← hx, ← hy] at hnx
              have HNX := Lib.hid hnx
              have HBX := Lib.hid hbx
              have HEQ : Hid (xI x y = xI ((turn z0 [x0, x1, x2, x3] A k).getD (A + k) 0) ([x0, x1, x2, x3].getD k 0)) := by
                show xI x y = _
                rw [hx, hy]
              have hw1 : IntKind.i64.wrap ((A : Int) + (k : Int)) = (A : Int) + (k : Int) := by rw [IntKind.wrap_i64]; omega
              have hw2 : ((A : Int) + (k : Int)).toNat = A + k := by omega
              have hw3 : (0 : Int) ≤ (A : Int) + (k : Int) := by omega
              have hw4 : (A : Int) + (k : Int) < len0 := by omega
              clear hnx hbx hx hy hxr hyr hl1 hl2 hrz hlen hown hbox
              go_wp2_with fail
              go_region
              clear hw1 hw2
              all_goals (go_wp2_with fail)
              all_goals (refine ⟨⟨k + 1, by omega, by omega, by go_num, by rw [turn, ← HEQ.out]; exact HNX.out, HBX.out, (hbel.setCell (by show w.heap.size ≤ g; omega) _).drew⟩, by simp [intOf]; omega⟩)
            · have fa : ∀ W', Below wr.heap.size wr W' → Reads .u8 W' (some ⟨g, 0, none⟩) len0 cp (turn z0 [x0, x1, x2, x3] A k) := fun W' h => by
                obtain ⟨ad, c', hv', hR⟩ := reads_of_own hown (by
                  intro n hn
                  have := turn_range (bytes_range w0.wf) HW2.out A k n hn
                  have e1 : IntKind.u8.min = 0 := rfl
                  have e2 : IntKind.u8.max = 255 := rfl
                  simp only [Lit.wf, Bool.and_eq_true, decide_eq_true_eq]
                  omega)
                injection hv' with e1 e2 e3
                subst e1 e3
                exact hR.below h
              have fb : ∀ W', Below wr.heap.size wr W' → Reads .u8 W' a0 len0 cap0 z0 := fun W' h => HR.out _ (bnext hbel h)
              have conv : ∀ (W' : World) (ad : Option Addr) (c' : Nat) (zs : List Int), Reads .u8 W' ad len0 c' zs → (convert 23 9 (.slice ad len0 c')).run Try.prog W' = .ok (.string (strOfNums zs)) W' := fun W' ad c' zs hR => by
                rcases hR.cells with h0 | ⟨b, off, rfl, hc⟩
                · omega
                · exact run_convert_bytes_arg W' 23 5 Try.underlying23 Try.underlying5 b off len0 c' zs hR.length hc 9 Try.underlying9
              have hca : ∀ W', Below wr.heap.size wr W' → (convert 23 9 (.slice (some ⟨g, 0, none⟩) len0 cp)).run Try.prog W' = .ok (.string (strOfNums (turn z0 [x0, x1, x2, x3] A k))) W' := fun W' h => conv _ _ _ _ (fa W' h)
              have hcb : ∀ W', Below wr.heap.size wr W' → (convert 23 9 (.slice a0 len0 cap0)).run Try.prog W' = .ok (.string (strOfNums z0)) W' := fun W' h => conv _ _ _ _ (fb W' h)
              have FA := Lib.hid fa
              have HEND := Lib.hid (turns_bool (A := A) hk4 (bytes_range w0.wf) HW2.out)
              have HBEL := Lib.hid hbel
              have FB := Lib.hid fb
              have hS : Below wr.heap.size wr wr := Below.refl _ _
              clear fa fb conv hown hbox
              go_wp2_with fail
              clear hbel
              go_region_held3 (fun W : World => Below wr.heap.size wr W) (first | assumption | exact hS.drew | exact bnext (by assumption) hb62 | exact bnext (by assumption) hb64) (first
                | (go_at_call 12; with_reducible refine (sum_any (some ⟨g, 0, none⟩) len0 cp (turn z0 [x0, x1, x2, x3] A k) _ (FA.out _ (by assumption))).mono ?_; rintro e w62 ⟨rfl, hb62⟩)
                | (go_at_call 12; with_reducible refine (sum_any a0 len0 cap0 z0 _ (FB.out _ (by assumption))).mono ?_; rintro e w64 ⟨rfl, hb64⟩))
              go_wp2_with fail
              go_ret
              exact ⟨congrArg (fun b => Ending.returned (.bool b)) HEND.out, bnext HBEL.out (by assumption)⟩
          · have fa : ∀ W', Below wr.heap.size wr W' → Reads .u8 W' (some ⟨g, 0, none⟩) len0 cp (turn z0 [x0, x1, x2, x3] A k) := fun W' h => by
              obtain ⟨ad, c', hv', hR⟩ := reads_of_own hown (by
                intro n hn
                have := turn_range (bytes_range w0.wf) HW2.out A k n hn
                have e1 : IntKind.u8.min = 0 := rfl
                have e2 : IntKind.u8.max = 255 := rfl
                simp only [Lit.wf, Bool.and_eq_true, decide_eq_true_eq]
                omega)
              injection hv' with e1 e2 e3
              subst e1 e3
              exact hR.below h
            have fb : ∀ W', Below wr.heap.size wr W' → Reads .u8 W' a0 len0 cap0 z0 := fun W' h => HR.out _ (bnext hbel h)
            have conv : ∀ (W' : World) (ad : Option Addr) (c' : Nat) (zs : List Int), Reads .u8 W' ad len0 c' zs → (convert 23 9 (.slice ad len0 c')).run Try.prog W' = .ok (.string (strOfNums zs)) W' := fun W' ad c' zs hR => by
              rcases hR.cells with h0 | ⟨b, off, rfl, hc⟩
              · omega
              · exact run_convert_bytes_arg W' 23 5 Try.underlying23 Try.underlying5 b off len0 c' zs hR.length hc 9 Try.underlying9
            have hca : ∀ W', Below wr.heap.size wr W' → (convert 23 9 (.slice (some ⟨g, 0, none⟩) len0 cp)).run Try.prog W' = .ok (.string (strOfNums (turn z0 [x0, x1, x2, x3] A k))) W' := fun W' h => conv _ _ _ _ (fa W' h)
            have hcb : ∀ W', Below wr.heap.size wr W' → (convert 23 9 (.slice a0 len0 cap0)).run Try.prog W' = .ok (.string (strOfNums z0)) W' := fun W' h => conv _ _ _ _ (fb W' h)
            have FA := Lib.hid fa
            have HEND := Lib.hid (turns_bool (A := A) hk4 (bytes_range w0.wf) HW2.out)
            have HBEL := Lib.hid hbel
            have FB := Lib.hid fb
            have hS : Below wr.heap.size wr wr := Below.refl _ _
            clear fa fb conv hown hbox
            go_wp2_with fail
            clear hbel
            go_region_held3 (fun W : World => Below wr.heap.size wr W) (first | assumption | exact hS.drew | exact bnext (by assumption) hb62 | exact bnext (by assumption) hb64) (first
              | (go_at_call 12; with_reducible refine (sum_any (some ⟨g, 0, none⟩) len0 cp (turn z0 [x0, x1, x2, x3] A k) _ (FA.out _ (by assumption))).mono ?_; rintro e w62 ⟨rfl, hb62⟩)
              | (go_at_call 12; with_reducible refine (sum_any a0 len0 cap0 z0 _ (FB.out _ (by assumption))).mono ?_; rintro e w64 ⟨rfl, hb64⟩))
            go_wp2_with fail
            go_ret
            exact ⟨congrArg (fun b => Ending.returned (.bool b)) HEND.out, bnext HBEL.out (by assumption)⟩
      · go_enter Try.func6, Try.ntmps6
        go_wp2_with (first
          | (go_at_call 9; refine (awake_true _).mono ?_; rintro e wA ⟨rfl, hbA⟩)
          | (with_reducible refine wpList_append_reads rfl (.tmp 29) (.tmp 30) 23 rfl wA.heap.size 5 i0 (.int .u8 0) 1 Try.underlying23 hi hz0 hz1 hz2 rfl _ 0 [] rfl (World.ownsRow_lit wA #[] 0 (Nat.le_refl _) (by decide) rfl) .u8 _ _ _ _ rfl (HR.out _ (bnew (bnext (bnew (brefl w) _) hbA) _)) (by unfold maxLen; omega) (by omega) (by simp) ?_; intro v1 wD ho1 hg1))
        rw [HA2.out (by omega)]
        simp only [Nat.zero_add, List.nil_append] at ho1
        rcases ho1.2 with ⟨_, h00⟩ | ⟨g, cp, _, hv, hgb, _⟩
        · omega
        subst hv
        have hgW : w.heap.size + 1 ≤ g := by have := hbA.size; simp at this; omega
        have hbD : Below w.heap.size w wD := bgrown_lit (bnew (bnext (bnew (brefl w) _) hbA) _) hg1 (by have := hbA.size; simp at this; omega)
        have hlt1 : w.heap.size < wA.heap.size := by have := hbA.size; simp at this; omega
        have hlt2 : w.heap.size < (wA.alloc (Obj.cells #[] 5)).heap.size := by simp; omega
        have hne : some w.heap.size ≠ Value.ownBlock (.slice (some ⟨wA.heap.size, 0, none⟩) 0 0) := by
          simp only [Value.ownBlock]
          intro h
          injection h with h
          omega
        have hbox : wD.heap[w.heap.size]? = some (.cells (cellsOf .u8 [x0, x1, x2, x3]) 30 (0, 0)) := by
          rw [hg1.block _ hlt2 hne, (bnew hbA _).block _ (by simp), heap_alloc_new]
          rfl
        have HOWN := Lib.hid ho1
        have HBOX := Lib.hid hbox
        clear hg1 ho1 hbox hr2 hr3 hi hz0 hz1 hz2 HA1 HA2
        go_loopw [9] (fun i wr => ∃ k : Nat, k ≤ 4 ∧ A + k ≤ len0 ∧ i = .int .i64 k ∧ wr.ownsRow wA.heap.size 5 1 (.slice (some ⟨g, 0, none⟩) len0 cp) len0 ((turn z0 [x0, x1, x2, x3] A k).map (Value.int .u8)) ∧ wr.heap[w.heap.size]? = some (.cells (cellsOf .u8 [x0, x1, x2, x3]) 30 (0, 0)) ∧ Below w.heap.size w wr) (fun i _ => 4 - (intOf i).toNat)
        case atStart => exact ⟨0, by omega, by omega, rfl, HOWN.out, HBOX.out, hbD⟩
        case round =>
          obtain ⟨k, hk4, hkl, rfl, hown, hbox, hbel⟩ := hrel
          by_cases h4 : k < 4
          · by_cases hlt : A + k < len0
            · have hlen := turn_length z0 [x0, x1, x2, x3] A k
              have hrz := turn_range (bytes_range w0.wf) HW2.out A k
              obtain ⟨x, hx⟩ : ∃ x, x = (turn z0 [x0, x1, x2, x3] A k).getD (A + k) 0 := ⟨_, rfl⟩
              obtain ⟨y, hy⟩ : ∃ y, y = [x0, x1, x2, x3].getD k 0 := ⟨_, rfl⟩
              have hl1 : A + k < (turn z0 [x0, x1, x2, x3] A k).length := by omega
              have hl2 : k < [x0, x1, x2, x3].length := by simpa using h4
              have hxr : 0 ≤ x ∧ x < 256 := by rw [hx, List.getD, List.getElem?_eq_getElem hl1]; exact hrz _ (List.getElem_mem _)
              have hyr : 0 ≤ y ∧ y < 256 := by rw [hy, List.getD, List.getElem?_eq_getElem hl2]; exact HW2.out _ (List.getElem_mem _)
              have hxor : bits .xor .u8 x y = xI x y := xI_bits hxr hyr
              have c1 : wr.cell? ⟨g, A + k, none⟩ = some (.int .u8 x) := by
                rw [hown.cellAt (A + k) (by omega), hx]
                simp [List.getElem?_eq_getElem hl1]
              have c2 : wr.cell? ⟨w.heap.size, k, none⟩ = some (.int .u8 y) := by rw [blk_cell hbox hl2, hy]
              have f1 := hown.frozenAt (A + k)
              have hnx := (hown.stored (A + k) (.int .u8 (xI x y))).1
              rw [← List.map_set, hx, hy] at hnx
              have hbx : (wr.setCell ⟨g, A + k, none⟩ (.int .u8 (xI x y))).heap[w.heap.size]? = some (.cells (cellsOf .u8 [x0, x1, x2, x3]) 30 (0, 0)) := by
                rw [heap_setCell_other _ _ _ _ (by simp; omega)]; exact hbox
              rw [← hx, ← hy] at hnx
              have HNX := Lib.hid hnx
              have HBX := Lib.hid hbx
              have HEQ : Hid (xI x y = xI ((turn z0 [x0, x1, x2, x3] A k).getD (A + k) 0) ([x0, x1, x2, x3].getD k 0)) := by
                show xI x y = _
                rw [hx, hy]
              have hw1 : IntKind.i64.wrap ((A : Int) + (k : Int)) = (A : Int) + (k : Int) := by rw [IntKind.wrap_i64]; omega
              have hw2 : ((A : Int) + (k : Int)).toNat = A + k := by omega
              have hw3 : (0 : Int) ≤ (A : Int) + (k : Int) := by omega
              have hw4 : (A : Int) + (k : Int) < len0 := by omega
              clear hnx hbx hx hy hxr hyr hl1 hl2 hrz hlen hown hbox
              go_wp2_with fail
              go_region
              clear hw1 hw2
              all_goals (go_wp2_with fail)
              all_goals (refine ⟨⟨k + 1, by omega, by omega, by go_num, by rw [turn, ← HEQ.out]; exact HNX.out, HBX.out, (hbel.setCell (by show w.heap.size ≤ g; omega) _).drew⟩, by simp [intOf]; omega⟩)
            · have fa : ∀ W', Below wr.heap.size wr W' → Reads .u8 W' (some ⟨g, 0, none⟩) len0 cp (turn z0 [x0, x1, x2, x3] A k) := fun W' h => by
                obtain ⟨ad, c', hv', hR⟩ := reads_of_own hown (by
                  intro n hn
                  have := turn_range (bytes_range w0.wf) HW2.out A k n hn
                  have e1 : IntKind.u8.min = 0 := rfl
                  have e2 : IntKind.u8.max = 255 := rfl
                  simp only [Lit.wf, Bool.and_eq_true, decide_eq_true_eq]
                  omega)
                injection hv' with e1 e2 e3
                subst e1 e3
                exact hR.below h
              have fb : ∀ W', Below wr.heap.size wr W' → Reads .u8 W' a0 len0 cap0 z0 := fun W' h => HR.out _ (bnext hbel h)
              have conv : ∀ (W' : World) (ad : Option Addr) (c' : Nat) (zs : List Int), Reads .u8 W' ad len0 c' zs → (convert 23 9 (.slice ad len0 c')).run Try.prog W' = .ok (.string (strOfNums zs)) W' := fun W' ad c' zs hR => by
                rcases hR.cells with h0 | ⟨b, off, rfl, hc⟩
                · omega
                · exact run_convert_bytes_arg W' 23 5 Try.underlying23 Try.underlying5 b off len0 c' zs hR.length hc 9 Try.underlying9
              have hca : ∀ W', Below wr.heap.size wr W' → (convert 23 9 (.slice (some ⟨g, 0, none⟩) len0 cp)).run Try.prog W' = .ok (.string (strOfNums (turn z0 [x0, x1, x2, x3] A k))) W' := fun W' h => conv _ _ _ _ (fa W' h)
              have hcb : ∀ W', Below wr.heap.size wr W' → (convert 23 9 (.slice a0 len0 cap0)).run Try.prog W' = .ok (.string (strOfNums z0)) W' := fun W' h => conv _ _ _ _ (fb W' h)
              have FA := Lib.hid fa
              have HEND := Lib.hid (turns_bool (A := A) hk4 (bytes_range w0.wf) HW2.out)
              have HBEL := Lib.hid hbel
              have FB := Lib.hid fb
              have hS : Below wr.heap.size wr wr := Below.refl _ _
              clear fa fb conv hown hbox
              go_wp2_with fail
              clear hbel
              go_region_held3 (fun W : World => Below wr.heap.size wr W) (first | assumption | exact hS.drew | exact bnext (by assumption) hb62 | exact bnext (by assumption) hb64) (first
                | (go_at_call 12; with_reducible refine (sum_any (some ⟨g, 0, none⟩) len0 cp (turn z0 [x0, x1, x2, x3] A k) _ (FA.out _ (by assumption))).mono ?_; rintro e w62 ⟨rfl, hb62⟩)
                | (go_at_call 12; with_reducible refine (sum_any a0 len0 cap0 z0 _ (FB.out _ (by assumption))).mono ?_; rintro e w64 ⟨rfl, hb64⟩))
              go_wp2_with fail
              go_ret
              exact ⟨congrArg (fun b => Ending.returned (.bool b)) HEND.out, bnext HBEL.out (by assumption)⟩
          · have fa : ∀ W', Below wr.heap.size wr W' → Reads .u8 W' (some ⟨g, 0, none⟩) len0 cp (turn z0 [x0, x1, x2, x3] A k) := fun W' h => by
              obtain ⟨ad, c', hv', hR⟩ := reads_of_own hown (by
                intro n hn
                have := turn_range (bytes_range w0.wf) HW2.out A k n hn
                have e1 : IntKind.u8.min = 0 := rfl
                have e2 : IntKind.u8.max = 255 := rfl
                simp only [Lit.wf, Bool.and_eq_true, decide_eq_true_eq]
                omega)
              injection hv' with e1 e2 e3
              subst e1 e3
              exact hR.below h
            have fb : ∀ W', Below wr.heap.size wr W' → Reads .u8 W' a0 len0 cap0 z0 := fun W' h => HR.out _ (bnext hbel h)
            have conv : ∀ (W' : World) (ad : Option Addr) (c' : Nat) (zs : List Int), Reads .u8 W' ad len0 c' zs → (convert 23 9 (.slice ad len0 c')).run Try.prog W' = .ok (.string (strOfNums zs)) W' := fun W' ad c' zs hR => by
              rcases hR.cells with h0 | ⟨b, off, rfl, hc⟩
              · omega
              · exact run_convert_bytes_arg W' 23 5 Try.underlying23 Try.underlying5 b off len0 c' zs hR.length hc 9 Try.underlying9
            have hca : ∀ W', Below wr.heap.size wr W' → (convert 23 9 (.slice (some ⟨g, 0, none⟩) len0 cp)).run Try.prog W' = .ok (.string (strOfNums (turn z0 [x0, x1, x2, x3] A k))) W' := fun W' h => conv _ _ _ _ (fa W' h)
            have hcb : ∀ W', Below wr.heap.size wr W' → (convert 23 9 (.slice a0 len0 cap0)).run Try.prog W' = .ok (.string (strOfNums z0)) W' := fun W' h => conv _ _ _ _ (fb W' h)
            have FA := Lib.hid fa
            have HEND := Lib.hid (turns_bool (A := A) hk4 (bytes_range w0.wf) HW2.out)
            have HBEL := Lib.hid hbel
            have FB := Lib.hid fb
            have hS : Below wr.heap.size wr wr := Below.refl _ _
            clear fa fb conv hown hbox
            go_wp2_with fail
            clear hbel
            go_region_held3 (fun W : World => Below wr.heap.size wr W) (first | assumption | exact hS.drew | exact bnext (by assumption) hb62 | exact bnext (by assumption) hb64) (first
              | (go_at_call 12; with_reducible refine (sum_any (some ⟨g, 0, none⟩) len0 cp (turn z0 [x0, x1, x2, x3] A k) _ (FA.out _ (by assumption))).mono ?_; rintro e w62 ⟨rfl, hb62⟩)
              | (go_at_call 12; with_reducible refine (sum_any a0 len0 cap0 z0 _ (FB.out _ (by assumption))).mono ?_; rintro e w64 ⟨rfl, hb64⟩))
            go_wp2_with fail
            go_ret
            exact ⟨congrArg (fun b => Ending.returned (.bool b)) HEND.out, bnext HBEL.out (by assumption)⟩
end Go.Proofs.Ytkehdagodeaepaa
