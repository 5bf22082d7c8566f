/- Free. -/
import Derived.Test.YtmhggpmhekeemaaAsk
namespace Go.Proofs.Ytmhggpmhekeemaa
open Go.RowKit
/-- What is granted behind a slot was given back. -/
def freeG (C : Cv) (n : Nat) (gs : List G3) (slot node nonce : Int) : List G3 :=
  if mayB C n slot = true ∧ (gs.getD slot.toNat gnone).node = node ∧ (gs.getD slot.toNat gnone).nonce = nonce then gs.set slot.toNat gnone else gs

set_option maxRecDepth 100000 in
set_option maxHeartbeats 4000000 in
theorem gfree_any (C : Cv) (boot : Int) (ad : Option Addr) (n cap : Nat) (gs : List G3) (slot node nonce : Int) (w : World) (h : Good w C) (ha : Acc w ad n cap gs) :
    Calls Try.prog 17 #[.agg C.cells, .agg #[.int .i64 boot, .slice ad n cap], .int .i64 slot, .int .i64 node, .int .i64 nonce] w fun e w' =>
      ∃ ad' cap', e = .returned (.agg #[.int .i64 boot, .slice ad' n cap']) ∧ Acc w' ad' n cap' (freeG C n gs slot node nonce) ∧ Below w.heap.size w w' := by
  have HG := Lib.hid h
  have HA := Lib.hid ha
  by_cases hm : mayB C n slot = true
  · have hmm : chk C = true ∧ ((n : Int) = C.slots ∧ 0 ≤ slot ∧ slot < C.slots) := by unfold mayB at hm; simpa using hm
    obtain ⟨hck, hns, hs0, hs1⟩ := hmm
    obtain ⟨k, rfl⟩ := Int.eq_ofNat_of_zero_le hs0
    have hk : k < n := by omega
    obtain ⟨b, rfl, _⟩ := ha.cell hk
    obtain ⟨gn, gc, gi, hG⟩ : ∃ gn gc gi, gs.getD k gnone = ⟨gn, gc, gi⟩ := ⟨_, _, _, rfl⟩
    have HM := Lib.hid hm
    have HGG := Lib.hid hG
    by_cases h1 : gn = node
    · by_cases h2 : gc = nonce
      · have HQ : Hid (freeG C n gs k node nonce = gs.set k gnone) := by
          show _ = _; unfold freeG; rw [show ((k : Int)).toNat = k by omega, hG, if_pos ⟨hm, h1, h2⟩]
        have h1s := h1.symm
        have h2s := h2.symm
        clear h1 h2 ha hns hs1 hm hG h
        subst h1s
        subst h2s
        have hbc : Below w.heap.size w (((w.alloc (Obj.cells C.cells 24)).alloc (Obj.cells #[Value.int IntKind.i64 boot, Value.slice (some ⟨b, 0, none⟩) n cap] 30)).alloc (Obj.cells #[Value.int IntKind.i64 0, Value.slice none 0 0] 30)) := bnew (bnew (bnew (brefl w) _) _) _
        have hBc : (((w.alloc (Obj.cells C.cells 24)).alloc (Obj.cells #[Value.int IntKind.i64 boot, Value.slice (some ⟨b, 0, none⟩) n cap] 30)).alloc (Obj.cells #[Value.int IntKind.i64 0, Value.slice none 0 0] 30)).heap[w.heap.size]? = some (Obj.cells C.cells 24) := by (repeat (first | exact heap_alloc_at _ _ _ (by simp) | rw [Below.heap_alloc _ _ _ (by first | (simp; done) | (simp; omega))]))
        have hAc : (((w.alloc (Obj.cells C.cells 24)).alloc (Obj.cells #[Value.int IntKind.i64 boot, Value.slice (some ⟨b, 0, none⟩) n cap] 30)).alloc (Obj.cells #[Value.int IntKind.i64 0, Value.slice none 0 0] 30)).heap[w.heap.size + 1]? = some (Obj.cells #[Value.int IntKind.i64 boot, Value.slice (some ⟨b, 0, none⟩) n cap] 30) := by (repeat (first | exact heap_alloc_at _ _ _ (by simp) | rw [Below.heap_alloc _ _ _ (by first | (simp; done) | (simp; omega))]))
        have hRs : (((w.alloc (Obj.cells C.cells 24)).alloc (Obj.cells #[Value.int IntKind.i64 boot, Value.slice (some ⟨b, 0, none⟩) n cap] 30)).alloc (Obj.cells #[Value.int IntKind.i64 0, Value.slice none 0 0] 30)).heap[w.heap.size + 2]? = some (Obj.cells #[Value.int IntKind.i64 0, Value.slice none 0 0] 30) := by (repeat (first | exact heap_alloc_at _ _ _ (by simp) | rw [Below.heap_alloc _ _ _ (by first | (simp; done) | (simp; omega))]))
        go_enter Try.func17, Try.ntmps17
        go_wp2_with (first
          | ((with_reducible refine wpList_load_cfg rfl _ rfl w.heap.size rfl C hBc ?_))
          | (go_at_call 41; with_reducible refine (amay_any C boot _ n cap _ _ (HG.out.below hbc)).mono ?_; rintro e wX ⟨rfl, hX⟩; have hbc := bnext hbc hX; have hBc := (hX.block _ (lt_of_block hBc)).trans hBc; have hAc := (hX.block _ (lt_of_block hAc)).trans hAc; have hRs := (hX.block _ (lt_of_block hRs)).trans hRs; obtain ⟨f0, f1⟩ := acc_cells hAc; obtain ⟨x0, x1⟩ := acc_cells hRs; have z0 : ∀ j, wX.frozen? ⟨w.heap.size + 2, j, none⟩ = false := (fun j => blk_free hRs); rw [HM.out]; obtain ⟨b', hb', c0, c1, c2⟩ := (HA.out.below hbc).cell hk; cases hb'; rw [HGG.out] at c0 c1 c2; dsimp only at c0 c1 c2)
          | (go_at_call 44; refine (changed_free boot _ n cap gs k _ (HA.out.below hbc) hk).mono ?_; rintro e wX ⟨ad9, cap9, rfl, hA9, hX⟩; have hbc := bnext hbc hX; have hBc := (hX.block _ (lt_of_block hBc)).trans hBc; have hAc := (hX.block _ (lt_of_block hAc)).trans hAc; have hRs := (hX.block _ (lt_of_block hRs)).trans hRs; obtain ⟨f0, f1⟩ := acc_cells hAc; obtain ⟨x0, x1⟩ := acc_cells hRs; have z0 : ∀ j, wX.frozen? ⟨w.heap.size + 2, j, none⟩ = false := (fun j => blk_free hRs)))
        rw [HQ.out]
        refine bodyPost_ret (results_cell_row rfl _ _ (w.heap.size + 2) 30 _ (0, 0) _ rfl ((heap_setCell_same _ _ _ _ _ _ (heap_setCell_same _ _ _ _ _ _ hRs)).trans rfl) Try.underlying30 rfl (acc_info.trans rfl)) rfl ?_
        exact ⟨ad9, cap9, rfl, hA9.store hRs _ _, (hbc.setCell (show w.heap.size ≤ w.heap.size + 2 from Nat.le_add_right _ _) _).setCell (show w.heap.size ≤ w.heap.size + 2 from Nat.le_add_right _ _) _⟩
      · have HQ : Hid (freeG C n gs k node nonce = gs) := by
          show _ = _; unfold freeG; rw [show ((k : Int)).toNat = k by omega, hG, if_neg (by rintro ⟨_, _, g⟩; exact h2 g)]
        have h1s := h1.symm
        have h3 : (gc == nonce) = false := by simpa using h2
        have h4 : (gc != nonce) = true := by simpa using h2
        clear h1 h2 ha hns hs1 hm hG h
        subst h1s
        have hbc : Below w.heap.size w (((w.alloc (Obj.cells C.cells 24)).alloc (Obj.cells #[Value.int IntKind.i64 boot, Value.slice (some ⟨b, 0, none⟩) n cap] 30)).alloc (Obj.cells #[Value.int IntKind.i64 0, Value.slice none 0 0] 30)) := bnew (bnew (bnew (brefl w) _) _) _
        have hBc : (((w.alloc (Obj.cells C.cells 24)).alloc (Obj.cells #[Value.int IntKind.i64 boot, Value.slice (some ⟨b, 0, none⟩) n cap] 30)).alloc (Obj.cells #[Value.int IntKind.i64 0, Value.slice none 0 0] 30)).heap[w.heap.size]? = some (Obj.cells C.cells 24) := by (repeat (first | exact heap_alloc_at _ _ _ (by simp) | rw [Below.heap_alloc _ _ _ (by first | (simp; done) | (simp; omega))]))
        have hAc : (((w.alloc (Obj.cells C.cells 24)).alloc (Obj.cells #[Value.int IntKind.i64 boot, Value.slice (some ⟨b, 0, none⟩) n cap] 30)).alloc (Obj.cells #[Value.int IntKind.i64 0, Value.slice none 0 0] 30)).heap[w.heap.size + 1]? = some (Obj.cells #[Value.int IntKind.i64 boot, Value.slice (some ⟨b, 0, none⟩) n cap] 30) := by (repeat (first | exact heap_alloc_at _ _ _ (by simp) | rw [Below.heap_alloc _ _ _ (by first | (simp; done) | (simp; omega))]))
        have hRs : (((w.alloc (Obj.cells C.cells 24)).alloc (Obj.cells #[Value.int IntKind.i64 boot, Value.slice (some ⟨b, 0, none⟩) n cap] 30)).alloc (Obj.cells #[Value.int IntKind.i64 0, Value.slice none 0 0] 30)).heap[w.heap.size + 2]? = some (Obj.cells #[Value.int IntKind.i64 0, Value.slice none 0 0] 30) := by (repeat (first | exact heap_alloc_at _ _ _ (by simp) | rw [Below.heap_alloc _ _ _ (by first | (simp; done) | (simp; omega))]))
        go_enter Try.func17, Try.ntmps17
        go_wp2_with (first
          | ((with_reducible refine wpList_load_cfg rfl _ rfl w.heap.size rfl C hBc ?_))
          | (go_at_call 41; with_reducible refine (amay_any C boot _ n cap _ _ (HG.out.below hbc)).mono ?_; rintro e wX ⟨rfl, hX⟩; have hbc := bnext hbc hX; have hBc := (hX.block _ (lt_of_block hBc)).trans hBc; have hAc := (hX.block _ (lt_of_block hAc)).trans hAc; have hRs := (hX.block _ (lt_of_block hRs)).trans hRs; obtain ⟨f0, f1⟩ := acc_cells hAc; obtain ⟨x0, x1⟩ := acc_cells hRs; have z0 : ∀ j, wX.frozen? ⟨w.heap.size + 2, j, none⟩ = false := (fun j => blk_free hRs); rw [HM.out]; obtain ⟨b', hb', c0, c1, c2⟩ := (HA.out.below hbc).cell hk; cases hb'; rw [HGG.out] at c0 c1 c2; dsimp only at c0 c1 c2)
          | (go_at_call 43; refine (own_any boot _ n cap gs _ (HA.out.below hbc)).mono ?_; rintro e wX ⟨ad9, cap9, rfl, hA9, hX⟩; have hbc := bnext hbc hX; have hBc := (hX.block _ (lt_of_block hBc)).trans hBc; have hAc := (hX.block _ (lt_of_block hAc)).trans hAc; have hRs := (hX.block _ (lt_of_block hRs)).trans hRs; obtain ⟨f0, f1⟩ := acc_cells hAc; obtain ⟨x0, x1⟩ := acc_cells hRs; have z0 : ∀ j, wX.frozen? ⟨w.heap.size + 2, j, none⟩ = false := (fun j => blk_free hRs)))
        rw [HQ.out]
        refine bodyPost_ret (results_cell_row rfl _ _ (w.heap.size + 2) 30 _ (0, 0) _ rfl ((heap_setCell_same _ _ _ _ _ _ (heap_setCell_same _ _ _ _ _ _ hRs)).trans rfl) Try.underlying30 rfl (acc_info.trans rfl)) rfl ?_
        exact ⟨ad9, cap9, rfl, hA9.store hRs _ _, (hbc.setCell (show w.heap.size ≤ w.heap.size + 2 from Nat.le_add_right _ _) _).setCell (show w.heap.size ≤ w.heap.size + 2 from Nat.le_add_right _ _) _⟩
    · have HQ : Hid (freeG C n gs k node nonce = gs) := by
        show _ = _; unfold freeG; rw [show ((k : Int)).toNat = k by omega, hG, if_neg (by rintro ⟨_, g, _⟩; exact h1 g)]
      have h3 : (gn == node) = false := by simpa using h1
      have h4 : (gn != node) = true := by simpa using h1
      clear h1 ha hns hs1 hm hG h
      have hbc : Below w.heap.size w (((w.alloc (Obj.cells C.cells 24)).alloc (Obj.cells #[Value.int IntKind.i64 boot, Value.slice (some ⟨b, 0, none⟩) n cap] 30)).alloc (Obj.cells #[Value.int IntKind.i64 0, Value.slice none 0 0] 30)) := bnew (bnew (bnew (brefl w) _) _) _
      have hBc : (((w.alloc (Obj.cells C.cells 24)).alloc (Obj.cells #[Value.int IntKind.i64 boot, Value.slice (some ⟨b, 0, none⟩) n cap] 30)).alloc (Obj.cells #[Value.int IntKind.i64 0, Value.slice none 0 0] 30)).heap[w.heap.size]? = some (Obj.cells C.cells 24) := by (repeat (first | exact heap_alloc_at _ _ _ (by simp) | rw [Below.heap_alloc _ _ _ (by first | (simp; done) | (simp; omega))]))
      have hAc : (((w.alloc (Obj.cells C.cells 24)).alloc (Obj.cells #[Value.int IntKind.i64 boot, Value.slice (some ⟨b, 0, none⟩) n cap] 30)).alloc (Obj.cells #[Value.int IntKind.i64 0, Value.slice none 0 0] 30)).heap[w.heap.size + 1]? = some (Obj.cells #[Value.int IntKind.i64 boot, Value.slice (some ⟨b, 0, none⟩) n cap] 30) := by (repeat (first | exact heap_alloc_at _ _ _ (by simp) | rw [Below.heap_alloc _ _ _ (by first | (simp; done) | (simp; omega))]))
      have hRs : (((w.alloc (Obj.cells C.cells 24)).alloc (Obj.cells #[Value.int IntKind.i64 boot, Value.slice (some ⟨b, 0, none⟩) n cap] 30)).alloc (Obj.cells #[Value.int IntKind.i64 0, Value.slice none 0 0] 30)).heap[w.heap.size + 2]? = some (Obj.cells #[Value.int IntKind.i64 0, Value.slice none 0 0] 30) := by (repeat (first | exact heap_alloc_at _ _ _ (by simp) | rw [Below.heap_alloc _ _ _ (by first | (simp; done) | (simp; omega))]))
      go_enter Try.func17, Try.ntmps17
      go_wp2_with (first
        | ((with_reducible refine wpList_load_cfg rfl _ rfl w.heap.size rfl C hBc ?_))
        | (go_at_call 41; with_reducible refine (amay_any C boot _ n cap _ _ (HG.out.below hbc)).mono ?_; rintro e wX ⟨rfl, hX⟩; have hbc := bnext hbc hX; have hBc := (hX.block _ (lt_of_block hBc)).trans hBc; have hAc := (hX.block _ (lt_of_block hAc)).trans hAc; have hRs := (hX.block _ (lt_of_block hRs)).trans hRs; obtain ⟨f0, f1⟩ := acc_cells hAc; obtain ⟨x0, x1⟩ := acc_cells hRs; have z0 : ∀ j, wX.frozen? ⟨w.heap.size + 2, j, none⟩ = false := (fun j => blk_free hRs); rw [HM.out]; obtain ⟨b', hb', c0, c1, c2⟩ := (HA.out.below hbc).cell hk; cases hb'; rw [HGG.out] at c0 c1 c2; dsimp only at c0 c1 c2)
        | (go_at_call 43; refine (own_any boot _ n cap gs _ (HA.out.below hbc)).mono ?_; rintro e wX ⟨ad9, cap9, rfl, hA9, hX⟩; have hbc := bnext hbc hX; have hBc := (hX.block _ (lt_of_block hBc)).trans hBc; have hAc := (hX.block _ (lt_of_block hAc)).trans hAc; have hRs := (hX.block _ (lt_of_block hRs)).trans hRs; obtain ⟨f0, f1⟩ := acc_cells hAc; obtain ⟨x0, x1⟩ := acc_cells hRs; have z0 : ∀ j, wX.frozen? ⟨w.heap.size + 2, j, none⟩ = false := (fun j => blk_free hRs)))
      rw [HQ.out]
      refine bodyPost_ret (results_cell_row rfl _ _ (w.heap.size + 2) 30 _ (0, 0) _ rfl ((heap_setCell_same _ _ _ _ _ _ (heap_setCell_same _ _ _ _ _ _ hRs)).trans rfl) Try.underlying30 rfl (acc_info.trans rfl)) rfl ?_
      exact ⟨ad9, cap9, rfl, hA9.store hRs _ _, (hbc.setCell (show w.heap.size ≤ w.heap.size + 2 from Nat.le_add_right _ _) _).setCell (show w.heap.size ≤ w.heap.size + 2 from Nat.le_add_right _ _) _⟩
  · have HQ : Hid (freeG C n gs slot node nonce = gs) := by show _ = _; unfold freeG; rw [if_neg (by rintro ⟨g, _⟩; exact hm g)]
    have HM : Hid (mayB C n slot = false) := by show _ = _; simpa using hm
    clear ha hm h
    have hbc : Below w.heap.size w (((w.alloc (Obj.cells C.cells 24)).alloc (Obj.cells #[Value.int IntKind.i64 boot, Value.slice ad n cap] 30)).alloc (Obj.cells #[Value.int IntKind.i64 0, Value.slice none 0 0] 30)) := bnew (bnew (bnew (brefl w) _) _) _
    have hBc : (((w.alloc (Obj.cells C.cells 24)).alloc (Obj.cells #[Value.int IntKind.i64 boot, Value.slice ad n cap] 30)).alloc (Obj.cells #[Value.int IntKind.i64 0, Value.slice none 0 0] 30)).heap[w.heap.size]? = some (Obj.cells C.cells 24) := by (repeat (first | exact heap_alloc_at _ _ _ (by simp) | rw [Below.heap_alloc _ _ _ (by first | (simp; done) | (simp; omega))]))
    have hAc : (((w.alloc (Obj.cells C.cells 24)).alloc (Obj.cells #[Value.int IntKind.i64 boot, Value.slice ad n cap] 30)).alloc (Obj.cells #[Value.int IntKind.i64 0, Value.slice none 0 0] 30)).heap[w.heap.size + 1]? = some (Obj.cells #[Value.int IntKind.i64 boot, Value.slice ad n cap] 30) := by (repeat (first | exact heap_alloc_at _ _ _ (by simp) | rw [Below.heap_alloc _ _ _ (by first | (simp; done) | (simp; omega))]))
    have hRs : (((w.alloc (Obj.cells C.cells 24)).alloc (Obj.cells #[Value.int IntKind.i64 boot, Value.slice ad n cap] 30)).alloc (Obj.cells #[Value.int IntKind.i64 0, Value.slice none 0 0] 30)).heap[w.heap.size + 2]? = some (Obj.cells #[Value.int IntKind.i64 0, Value.slice none 0 0] 30) := by (repeat (first | exact heap_alloc_at _ _ _ (by simp) | rw [Below.heap_alloc _ _ _ (by first | (simp; done) | (simp; omega))]))
    go_enter Try.func17, Try.ntmps17
    go_wp2_with (first
      | ((with_reducible refine wpList_load_cfg rfl _ rfl w.heap.size rfl C hBc ?_))
      | (go_at_call 41; with_reducible refine (amay_any C boot _ n cap _ _ (HG.out.below hbc)).mono ?_; rintro e wX ⟨rfl, hX⟩; have hbc := bnext hbc hX; have hBc := (hX.block _ (lt_of_block hBc)).trans hBc; have hAc := (hX.block _ (lt_of_block hAc)).trans hAc; have hRs := (hX.block _ (lt_of_block hRs)).trans hRs; obtain ⟨f0, f1⟩ := acc_cells hAc; obtain ⟨x0, x1⟩ := acc_cells hRs; have z0 : ∀ j, wX.frozen? ⟨w.heap.size + 2, j, none⟩ = false := (fun j => blk_free hRs); rw [HM.out])
      | (go_at_call 43; refine (own_any boot _ n cap gs _ (HA.out.below hbc)).mono ?_; rintro e wX ⟨ad9, cap9, rfl, hA9, hX⟩; have hbc := bnext hbc hX; have hBc := (hX.block _ (lt_of_block hBc)).trans hBc; have hAc := (hX.block _ (lt_of_block hAc)).trans hAc; have hRs := (hX.block _ (lt_of_block hRs)).trans hRs; obtain ⟨f0, f1⟩ := acc_cells hAc; obtain ⟨x0, x1⟩ := acc_cells hRs; have z0 : ∀ j, wX.frozen? ⟨w.heap.size + 2, j, none⟩ = false := (fun j => blk_free hRs)))
    rw [HQ.out]
    refine bodyPost_ret (results_cell_row rfl _ _ (w.heap.size + 2) 30 _ (0, 0) _ rfl ((heap_setCell_same _ _ _ _ _ _ (heap_setCell_same _ _ _ _ _ _ hRs)).trans rfl) Try.underlying30 rfl (acc_info.trans rfl)) rfl ?_
    exact ⟨ad9, cap9, rfl, hA9.store hRs _ _, (hbc.setCell (show w.heap.size ≤ w.heap.size + 2 from Nat.le_add_right _ _) _).setCell (show w.heap.size ≤ w.heap.size + 2 from Nat.le_add_right _ _) _⟩
end Go.Proofs.Ytmhggpmhekeemaa
