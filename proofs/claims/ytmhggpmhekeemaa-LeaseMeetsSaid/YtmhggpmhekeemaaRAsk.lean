/- The document's Ask and Free. -/
import Derived.Test.YtmhggpmhekeemaaRPut
namespace Go.Proofs.Ytmhggpmhekeemaa
open Go.RowKit
set_option maxRecDepth 100000 in
set_option maxHeartbeats 4000000 in
theorem rgfree_any (C : Cv) (boot : Int) (ad : Option Addr) (n cap : Nat) (gs : List G3) (slot node nonce : Int) (w : World) (h : Good w C) (ha : Acc w ad n cap gs) :
    Calls Try.prog 18 #[.agg C.cells, .agg #[.int .i64 boot, .slice ad n cap], .int .i64 slot, .int .i64 node, .int .i64 nonce] w fun e w' =>
      ∃ ad' cap', e = .returned (.agg #[.int .i64 boot, .slice ad' n cap']) ∧ Acc w' ad' n cap' (freeG C n gs slot node nonce) ∧ Below w.heap.size w w' := by
  have HG := Lib.hid h
  have HA := Lib.hid ha
  by_cases hm : mayB C n slot = true
  · have hmm : chk C = true ∧ ((n : Int) = C.slots ∧ 0 ≤ slot ∧ slot < C.slots) := by unfold mayB at hm; simpa using hm
    obtain ⟨hck, hns, hs0, hs1⟩ := hmm
    obtain ⟨k, rfl⟩ := Int.eq_ofNat_of_zero_le hs0
    have hk : k < n := by omega
    obtain ⟨b, rfl, _⟩ := ha.cell hk
    obtain ⟨gn, gc, gi, hG⟩ : ∃ gn gc gi, gs.getD k gnone = ⟨gn, gc, gi⟩ := ⟨_, _, _, rfl⟩
    have HM := Lib.hid hm
    have HGG := Lib.hid hG
    by_cases h1 : gn = node
    · by_cases h2 : gc = nonce
      · have HQ : Hid (freeG C n gs k node nonce = gs.set k gnone) := by
          show _ = _; unfold freeG; rw [show ((k : Int)).toNat = k by omega, hG, if_pos ⟨hm, h1, h2⟩]
        have h1s := h1.symm
        have h2s := h2.symm
        clear h1 h2 ha hns hs1 hm hG h
        subst h1s
        subst h2s
        have hbc : Below w.heap.size w (((w.alloc (Obj.cells C.cells 24)).alloc (Obj.cells #[Value.int IntKind.i64 boot, Value.slice (some ⟨b, 0, none⟩) n cap] 30)).alloc (Obj.cells #[Value.int IntKind.i64 0, Value.slice none 0 0] 30)) := bnew (bnew (bnew (brefl w) _) _) _
        have hBc : (((w.alloc (Obj.cells C.cells 24)).alloc (Obj.cells #[Value.int IntKind.i64 boot, Value.slice (some ⟨b, 0, none⟩) n cap] 30)).alloc (Obj.cells #[Value.int IntKind.i64 0, Value.slice none 0 0] 30)).heap[w.heap.size]? = some (Obj.cells C.cells 24) := by (repeat (first | exact heap_alloc_at _ _ _ (by simp) | rw [Below.heap_alloc _ _ _ (by first | (simp; done) | (simp; omega))]))
        have hAc : (((w.alloc (Obj.cells C.cells 24)).alloc (Obj.cells #[Value.int IntKind.i64 boot, Value.slice (some ⟨b, 0, none⟩) n cap] 30)).alloc (Obj.cells #[Value.int IntKind.i64 0, Value.slice none 0 0] 30)).heap[w.heap.size + 1]? = some (Obj.cells #[Value.int IntKind.i64 boot, Value.slice (some ⟨b, 0, none⟩) n cap] 30) := by (repeat (first | exact heap_alloc_at _ _ _ (by simp) | rw [Below.heap_alloc _ _ _ (by first | (simp; done) | (simp; omega))]))
        have hRs : (((w.alloc (Obj.cells C.cells 24)).alloc (Obj.cells #[Value.int IntKind.i64 boot, Value.slice (some ⟨b, 0, none⟩) n cap] 30)).alloc (Obj.cells #[Value.int IntKind.i64 0, Value.slice none 0 0] 30)).heap[w.heap.size + 2]? = some (Obj.cells #[Value.int IntKind.i64 0, Value.slice none 0 0] 30) := by (repeat (first | exact heap_alloc_at _ _ _ (by simp) | rw [Below.heap_alloc _ _ _ (by first | (simp; done) | (simp; omega))]))
        go_enter Try.func18, Try.ntmps18
        go_wp2_with (first
          | ((with_reducible refine wpList_load_cfg rfl _ rfl w.heap.size rfl C hBc ?_))
          | (go_at_call 46; with_reducible refine (rmay_any C boot _ n cap _ _ (HG.out.below hbc)).mono ?_; rintro e wX ⟨rfl, hX⟩; have hbc := bnext hbc hX; have hBc := (hX.block _ (lt_of_block hBc)).trans hBc; have hAc := (hX.block _ (lt_of_block hAc)).trans hAc; have hRs := (hX.block _ (lt_of_block hRs)).trans hRs; obtain ⟨f0, f1⟩ := acc_cells hAc; obtain ⟨m0, m1, _⟩ := cfg_cells2 hBc; obtain ⟨x0, x1⟩ := acc_cells hRs; have z0 : ∀ j, wX.frozen? ⟨w.heap.size + 2, j, none⟩ = false := (fun j => blk_free hRs); rw [HM.out]; obtain ⟨b', hb', c0, c1, c2⟩ := (HA.out.below hbc).cell hk; cases hb'; rw [HGG.out] at c0 c1 c2; dsimp only at c0 c1 c2)
          | (go_at_call 48; refine (put_any boot _ n cap gs k gnone _ (HA.out.below hbc) hk gnone_wf).mono ?_; rintro e wX ⟨ad9, cap9, rfl, hA9, hX⟩; have hbc := bnext hbc hX; have hBc := (hX.block _ (lt_of_block hBc)).trans hBc; have hAc := (hX.block _ (lt_of_block hAc)).trans hAc; have hRs := (hX.block _ (lt_of_block hRs)).trans hRs; obtain ⟨f0, f1⟩ := acc_cells hAc; obtain ⟨m0, m1, _⟩ := cfg_cells2 hBc; obtain ⟨x0, x1⟩ := acc_cells hRs; have z0 : ∀ j, wX.frozen? ⟨w.heap.size + 2, j, none⟩ = false := (fun j => blk_free hRs)))
        rw [HQ.out]
        refine bodyPost_ret (results_cell_row rfl _ _ (w.heap.size + 2) 30 _ (0, 0) _ rfl ((heap_setCell_same _ _ _ _ _ _ (heap_setCell_same _ _ _ _ _ _ hRs)).trans rfl) Try.underlying30 rfl (acc_info.trans rfl)) rfl ?_
        exact ⟨ad9, cap9, rfl, hA9.store hRs _ _, (hbc.setCell (show w.heap.size ≤ w.heap.size + 2 from Nat.le_add_right _ _) _).setCell (show w.heap.size ≤ w.heap.size + 2 from Nat.le_add_right _ _) _⟩
      · have HQ : Hid (freeG C n gs k node nonce = gs) := by
          show _ = _; unfold freeG; rw [show ((k : Int)).toNat = k by omega, hG, if_neg (by rintro ⟨_, _, g⟩; exact h2 g)]
        have h1s := h1.symm
        have h3 : (gc == nonce) = false := by simpa using h2
        have h4 : (gc != nonce) = true := by simpa using h2
        clear h1 h2 ha hns hs1 hm hG h
        subst h1s
        have hbc : Below w.heap.size w (((w.alloc (Obj.cells C.cells 24)).alloc (Obj.cells #[Value.int IntKind.i64 boot, Value.slice (some ⟨b, 0, none⟩) n cap] 30)).alloc (Obj.cells #[Value.int IntKind.i64 0, Value.slice none 0 0] 30)) := bnew (bnew (bnew (brefl w) _) _) _
        have hBc : (((w.alloc (Obj.cells C.cells 24)).alloc (Obj.cells #[Value.int IntKind.i64 boot, Value.slice (some ⟨b, 0, none⟩) n cap] 30)).alloc (Obj.cells #[Value.int IntKind.i64 0, Value.slice none 0 0] 30)).heap[w.heap.size]? = some (Obj.cells C.cells 24) := by (repeat (first | exact heap_alloc_at _ _ _ (by simp) | rw [Below.heap_alloc _ _ _ (by first | (simp; done) | (simp; omega))]))
        have hAc : (((w.alloc (Obj.cells C.cells 24)).alloc (Obj.cells #[Value.int IntKind.i64 boot, Value.slice (some ⟨b, 0, none⟩) n cap] 30)).alloc (Obj.cells #[Value.int IntKind.i64 0, Value.slice none 0 0] 30)).heap[w.heap.size + 1]? = some (Obj.cells #[Value.int IntKind.i64 boot, Value.slice (some ⟨b, 0, none⟩) n cap] 30) := by (repeat (first | exact heap_alloc_at _ _ _ (by simp) | rw [Below.heap_alloc _ _ _ (by first | (simp; done) | (simp; omega))]))
        have hRs : (((w.alloc (Obj.cells C.cells 24)).alloc (Obj.cells #[Value.int IntKind.i64 boot, Value.slice (some ⟨b, 0, none⟩) n cap] 30)).alloc (Obj.cells #[Value.int IntKind.i64 0, Value.slice none 0 0] 30)).heap[w.heap.size + 2]? = some (Obj.cells #[Value.int IntKind.i64 0, Value.slice none 0 0] 30) := by (repeat (first | exact heap_alloc_at _ _ _ (by simp) | rw [Below.heap_alloc _ _ _ (by first | (simp; done) | (simp; omega))]))
        go_enter Try.func18, Try.ntmps18
        go_wp2_with (first
          | ((with_reducible refine wpList_load_cfg rfl _ rfl w.heap.size rfl C hBc ?_))
          | (go_at_call 46; with_reducible refine (rmay_any C boot _ n cap _ _ (HG.out.below hbc)).mono ?_; rintro e wX ⟨rfl, hX⟩; have hbc := bnext hbc hX; have hBc := (hX.block _ (lt_of_block hBc)).trans hBc; have hAc := (hX.block _ (lt_of_block hAc)).trans hAc; have hRs := (hX.block _ (lt_of_block hRs)).trans hRs; obtain ⟨f0, f1⟩ := acc_cells hAc; obtain ⟨m0, m1, _⟩ := cfg_cells2 hBc; obtain ⟨x0, x1⟩ := acc_cells hRs; have z0 : ∀ j, wX.frozen? ⟨w.heap.size + 2, j, none⟩ = false := (fun j => blk_free hRs); rw [HM.out]; obtain ⟨b', hb', c0, c1, c2⟩ := (HA.out.below hbc).cell hk; cases hb'; rw [HGG.out] at c0 c1 c2; dsimp only at c0 c1 c2))
        rw [HQ.out]
        refine bodyPost_ret (results_cell_row rfl _ _ (w.heap.size + 2) 30 _ (0, 0) _ rfl ((heap_setCell_same _ _ _ _ _ _ (heap_setCell_same _ _ _ _ _ _ hRs)).trans rfl) Try.underlying30 rfl (acc_info.trans rfl)) rfl ?_
        exact ⟨_, _, rfl, (HA.out.below hbc).store hRs _ _, (hbc.setCell (show w.heap.size ≤ w.heap.size + 2 from Nat.le_add_right _ _) _).setCell (show w.heap.size ≤ w.heap.size + 2 from Nat.le_add_right _ _) _⟩
    · have HQ : Hid (freeG C n gs k node nonce = gs) := by
        show _ = _; unfold freeG; rw [show ((k : Int)).toNat = k by omega, hG, if_neg (by rintro ⟨_, g, _⟩; exact h1 g)]
      have h3 : (gn == node) = false := by simpa using h1
      have h4 : (gn != node) = true := by simpa using h1
      clear h1 ha hns hs1 hm hG h
      have hbc : Below w.heap.size w (((w.alloc (Obj.cells C.cells 24)).alloc (Obj.cells #[Value.int IntKind.i64 boot, Value.slice (some ⟨b, 0, none⟩) n cap] 30)).alloc (Obj.cells #[Value.int IntKind.i64 0, Value.slice none 0 0] 30)) := bnew (bnew (bnew (brefl w) _) _) _
      have hBc : (((w.alloc (Obj.cells C.cells 24)).alloc (Obj.cells #[Value.int IntKind.i64 boot, Value.slice (some ⟨b, 0, none⟩) n cap] 30)).alloc (Obj.cells #[Value.int IntKind.i64 0, Value.slice none 0 0] 30)).heap[w.heap.size]? = some (Obj.cells C.cells 24) := by (repeat (first | exact heap_alloc_at _ _ _ (by simp) | rw [Below.heap_alloc _ _ _ (by first | (simp; done) | (simp; omega))]))
      have hAc : (((w.alloc (Obj.cells C.cells 24)).alloc (Obj.cells #[Value.int IntKind.i64 boot, Value.slice (some ⟨b, 0, none⟩) n cap] 30)).alloc (Obj.cells #[Value.int IntKind.i64 0, Value.slice none 0 0] 30)).heap[w.heap.size + 1]? = some (Obj.cells #[Value.int IntKind.i64 boot, Value.slice (some ⟨b, 0, none⟩) n cap] 30) := by (repeat (first | exact heap_alloc_at _ _ _ (by simp) | rw [Below.heap_alloc _ _ _ (by first | (simp; done) | (simp; omega))]))
      have hRs : (((w.alloc (Obj.cells C.cells 24)).alloc (Obj.cells #[Value.int IntKind.i64 boot, Value.slice (some ⟨b, 0, none⟩) n cap] 30)).alloc (Obj.cells #[Value.int IntKind.i64 0, Value.slice none 0 0] 30)).heap[w.heap.size + 2]? = some (Obj.cells #[Value.int IntKind.i64 0, Value.slice none 0 0] 30) := by (repeat (first | exact heap_alloc_at _ _ _ (by simp) | rw [Below.heap_alloc _ _ _ (by first | (simp; done) | (simp; omega))]))
      go_enter Try.func18, Try.ntmps18
      go_wp2_with (first
        | ((with_reducible refine wpList_load_cfg rfl _ rfl w.heap.size rfl C hBc ?_))
        | (go_at_call 46; with_reducible refine (rmay_any C boot _ n cap _ _ (HG.out.below hbc)).mono ?_; rintro e wX ⟨rfl, hX⟩; have hbc := bnext hbc hX; have hBc := (hX.block _ (lt_of_block hBc)).trans hBc; have hAc := (hX.block _ (lt_of_block hAc)).trans hAc; have hRs := (hX.block _ (lt_of_block hRs)).trans hRs; obtain ⟨f0, f1⟩ := acc_cells hAc; obtain ⟨m0, m1, _⟩ := cfg_cells2 hBc; obtain ⟨x0, x1⟩ := acc_cells hRs; have z0 : ∀ j, wX.frozen? ⟨w.heap.size + 2, j, none⟩ = false := (fun j => blk_free hRs); rw [HM.out]; obtain ⟨b', hb', c0, c1, c2⟩ := (HA.out.below hbc).cell hk; cases hb'; rw [HGG.out] at c0 c1 c2; dsimp only at c0 c1 c2))
      rw [HQ.out]
      refine bodyPost_ret (results_cell_row rfl _ _ (w.heap.size + 2) 30 _ (0, 0) _ rfl ((heap_setCell_same _ _ _ _ _ _ (heap_setCell_same _ _ _ _ _ _ hRs)).trans rfl) Try.underlying30 rfl (acc_info.trans rfl)) rfl ?_
      exact ⟨_, _, rfl, (HA.out.below hbc).store hRs _ _, (hbc.setCell (show w.heap.size ≤ w.heap.size + 2 from Nat.le_add_right _ _) _).setCell (show w.heap.size ≤ w.heap.size + 2 from Nat.le_add_right _ _) _⟩
  · have HQ : Hid (freeG C n gs slot node nonce = gs) := by show _ = _; unfold freeG; rw [if_neg (by rintro ⟨g, _⟩; exact hm g)]
    have HM : Hid (mayB C n slot = false) := by show _ = _; simpa using hm
    clear ha hm h
    have hbc : Below w.heap.size w (((w.alloc (Obj.cells C.cells 24)).alloc (Obj.cells #[Value.int IntKind.i64 boot, Value.slice ad n cap] 30)).alloc (Obj.cells #[Value.int IntKind.i64 0, Value.slice none 0 0] 30)) := bnew (bnew (bnew (brefl w) _) _) _
    have hBc : (((w.alloc (Obj.cells C.cells 24)).alloc (Obj.cells #[Value.int IntKind.i64 boot, Value.slice ad n cap] 30)).alloc (Obj.cells #[Value.int IntKind.i64 0, Value.slice none 0 0] 30)).heap[w.heap.size]? = some (Obj.cells C.cells 24) := by (repeat (first | exact heap_alloc_at _ _ _ (by simp) | rw [Below.heap_alloc _ _ _ (by first | (simp; done) | (simp; omega))]))
    have hAc : (((w.alloc (Obj.cells C.cells 24)).alloc (Obj.cells #[Value.int IntKind.i64 boot, Value.slice ad n cap] 30)).alloc (Obj.cells #[Value.int IntKind.i64 0, Value.slice none 0 0] 30)).heap[w.heap.size + 1]? = some (Obj.cells #[Value.int IntKind.i64 boot, Value.slice ad n cap] 30) := by (repeat (first | exact heap_alloc_at _ _ _ (by simp) | rw [Below.heap_alloc _ _ _ (by first | (simp; done) | (simp; omega))]))
    have hRs : (((w.alloc (Obj.cells C.cells 24)).alloc (Obj.cells #[Value.int IntKind.i64 boot, Value.slice ad n cap] 30)).alloc (Obj.cells #[Value.int IntKind.i64 0, Value.slice none 0 0] 30)).heap[w.heap.size + 2]? = some (Obj.cells #[Value.int IntKind.i64 0, Value.slice none 0 0] 30) := by (repeat (first | exact heap_alloc_at _ _ _ (by simp) | rw [Below.heap_alloc _ _ _ (by first | (simp; done) | (simp; omega))]))
    go_enter Try.func18, Try.ntmps18
    go_wp2_with (first
      | ((with_reducible refine wpList_load_cfg rfl _ rfl w.heap.size rfl C hBc ?_))
      | (go_at_call 46; with_reducible refine (rmay_any C boot _ n cap _ _ (HG.out.below hbc)).mono ?_; rintro e wX ⟨rfl, hX⟩; have hbc := bnext hbc hX; have hBc := (hX.block _ (lt_of_block hBc)).trans hBc; have hAc := (hX.block _ (lt_of_block hAc)).trans hAc; have hRs := (hX.block _ (lt_of_block hRs)).trans hRs; obtain ⟨f0, f1⟩ := acc_cells hAc; obtain ⟨m0, m1, _⟩ := cfg_cells2 hBc; obtain ⟨x0, x1⟩ := acc_cells hRs; have z0 : ∀ j, wX.frozen? ⟨w.heap.size + 2, j, none⟩ = false := (fun j => blk_free hRs); rw [HM.out]))
    rw [HQ.out]
    refine bodyPost_ret (results_cell_row rfl _ _ (w.heap.size + 2) 30 _ (0, 0) _ rfl ((heap_setCell_same _ _ _ _ _ _ (heap_setCell_same _ _ _ _ _ _ hRs)).trans rfl) Try.underlying30 rfl (acc_info.trans rfl)) rfl ?_
    exact ⟨_, _, rfl, (HA.out.below hbc).store hRs _ _, (hbc.setCell (show w.heap.size ≤ w.heap.size + 2 from Nat.le_add_right _ _) _).setCell (show w.heap.size ≤ w.heap.size + 2 from Nat.le_add_right _ _) _⟩

set_option maxRecDepth 100000 in
set_option maxHeartbeats 4000000 in
theorem rask_d0 (C : Cv) (boot : Int) (b : Nat) (n cap : Nat) (gs : List G3) (k : Nat) (node nonce now gn gc gi : Int) (w : World) (h : Good w C) (ha : Acc w (some ⟨b, 0, none⟩) n cap gs) (rn : inI node) (rc : inI nonce) (rw' : inI now)
    (hk : k < n) (hm : mayB C n k = true) (ho : 0 ≤ node ∧ node < C.nodes ∧ 0 ≤ nonce ∧ 0 ≤ now) (hf : freeB C boot now = false) (hG : gs.getD k gnone = ⟨gn, gc, gi⟩)  :
    Calls Try.prog 16 #[.agg C.cells, .agg #[.int .i64 boot, .slice (some ⟨b, 0, none⟩) n cap], .int .i64 k, .int .i64 node, .int .i64 nonce, .int .i64 now] w fun e w' =>
      ∃ ad' cap', e = .returned (.tuple #[.agg #[.int .i64 boot, .slice ad' n cap'], .bool (askB C boot n gs k node nonce now)]) ∧ Acc w' ad' n cap' (askG C boot n gs k node nonce now) ∧ Below w.heap.size w w' := by
  have HG := Lib.hid h
  have HA := Lib.hid ha
  have RN := Lib.hid rn
  have RC := Lib.hid rc
  have RW := Lib.hid rw'
  have HM := Lib.hid hm
  have HF1 := Lib.hid hf
  have HGG := Lib.hid hG
  have hn20 := ha.few
  have hlen : (k : Int) < n := by omega
  have HQ : Hid (askB C boot n gs k node nonce now = false) := by
    show _ = _
    unfold askB
    rw [hm, hf, decide_eq_true ho, show ((k : Int)).toNat = k by omega, hG]
    simp
  obtain ⟨y, hy⟩ : ∃ y, freeB C gi now = y := ⟨_, rfl⟩
  have HF2 := Lib.hid hy
  clear hy
  obtain ⟨o0, o1, o2, o3⟩ := ho
  clear h ha rn rc rw' hm hf hG
  have hbc : Below w.heap.size w (((w.alloc (Obj.cells C.cells 24)).alloc (Obj.cells #[Value.int IntKind.i64 boot, Value.slice (some ⟨b, 0, none⟩) n cap] 30)).alloc (Obj.cells #[Value.int IntKind.i64 0, Value.slice none 0 0] 30)) := bnew (bnew (bnew (brefl w) _) _) _
  have hBc : (((w.alloc (Obj.cells C.cells 24)).alloc (Obj.cells #[Value.int IntKind.i64 boot, Value.slice (some ⟨b, 0, none⟩) n cap] 30)).alloc (Obj.cells #[Value.int IntKind.i64 0, Value.slice none 0 0] 30)).heap[w.heap.size]? = some (Obj.cells C.cells 24) := by (repeat (first | exact heap_alloc_at _ _ _ (by simp) | rw [Below.heap_alloc _ _ _ (by first | (simp; done) | (simp; omega))]))
  have hAc : (((w.alloc (Obj.cells C.cells 24)).alloc (Obj.cells #[Value.int IntKind.i64 boot, Value.slice (some ⟨b, 0, none⟩) n cap] 30)).alloc (Obj.cells #[Value.int IntKind.i64 0, Value.slice none 0 0] 30)).heap[w.heap.size + 1]? = some (Obj.cells #[Value.int IntKind.i64 boot, Value.slice (some ⟨b, 0, none⟩) n cap] 30) := by (repeat (first | exact heap_alloc_at _ _ _ (by simp) | rw [Below.heap_alloc _ _ _ (by first | (simp; done) | (simp; omega))]))
  have hRs : (((w.alloc (Obj.cells C.cells 24)).alloc (Obj.cells #[Value.int IntKind.i64 boot, Value.slice (some ⟨b, 0, none⟩) n cap] 30)).alloc (Obj.cells #[Value.int IntKind.i64 0, Value.slice none 0 0] 30)).heap[w.heap.size + 2]? = some (Obj.cells #[Value.int IntKind.i64 0, Value.slice none 0 0] 30) := by (repeat (first | exact heap_alloc_at _ _ _ (by simp) | rw [Below.heap_alloc _ _ _ (by first | (simp; done) | (simp; omega))]))
  go_enter Try.func16, Try.ntmps16
  go_wp2_with (first
    | ((with_reducible refine wpList_load_cfg rfl _ rfl w.heap.size rfl C hBc ?_))
    | ((with_reducible refine wpList_load_cfg rfl _ rfl w.heap.size rfl C ((Below.heap_alloc _ _ _ (lt_of_block hBc)).trans hBc) ?_))
    | (go_at_call 46; with_reducible refine (rmay_any C boot _ n cap _ _ (HG.out.below hbc)).mono ?_; rintro e wX ⟨rfl, hX⟩; have hbc := bnext hbc hX; have hBc := (hX.block _ (lt_of_block hBc)).trans hBc; have hAc := (hX.block _ (lt_of_block hAc)).trans hAc; have hRs := (hX.block _ (lt_of_block hRs)).trans hRs; obtain ⟨f0, f1⟩ := acc_cells hAc; obtain ⟨m0, m1, _⟩ := cfg_cells2 hBc; obtain ⟨x0, x1⟩ := acc_cells hRs; have z0 : ∀ j, wX.frozen? ⟨w.heap.size + 2, j, none⟩ = false := (fun j => blk_free hRs); rw [HM.out])
    | (go_at_call 47; with_reducible refine (rfree_any C boot now _ (HG.out.below hbc)).mono ?_; rintro e wX ⟨rfl, hX⟩; have hbc := bnext hbc hX; have hBc := (hX.block _ (lt_of_block hBc)).trans hBc; have hAc := (hX.block _ (lt_of_block hAc)).trans hAc; have hRs := (hX.block _ (lt_of_block hRs)).trans hRs; obtain ⟨f0, f1⟩ := acc_cells hAc; obtain ⟨m0, m1, _⟩ := cfg_cells2 hBc; obtain ⟨x0, x1⟩ := acc_cells hRs; have z0 : ∀ j, wX.frozen? ⟨w.heap.size + 2, j, none⟩ = false := (fun j => blk_free hRs); rw [HF1.out]; obtain ⟨b', hb', c0, c1, c2⟩ := (HA.out.below hbc).cell hk; cases hb'; rw [HGG.out] at c0 c1 c2; dsimp only at c0 c1 c2; have fa0 := (fun o => cell_alloc (o := o) f0); have fa1 := (fun o => cell_alloc (o := o) f1))
    | (go_at_call 47; with_reducible refine (rfree_any C gi now _ (HG.out.below (bnew hbc _))).mono ?_; rintro e wX ⟨rfl, hX⟩; have hGb := (hX.block _ (by simp)).trans (heap_alloc_new _ _); obtain ⟨g0, g1, g2⟩ := grant_cells hGb; have hbc := bnext (bnew hbc _) hX; have hBc := (hX.block _ (by have := lt_of_block hBc; simp; omega)).trans ((Below.heap_alloc _ _ _ (lt_of_block hBc)).trans hBc); have hAc := (hX.block _ (by have := lt_of_block hAc; simp; omega)).trans ((Below.heap_alloc _ _ _ (lt_of_block hAc)).trans hAc); have hRs := (hX.block _ (by have := lt_of_block hRs; simp; omega)).trans ((Below.heap_alloc _ _ _ (lt_of_block hRs)).trans hRs); obtain ⟨f0, f1⟩ := acc_cells hAc; obtain ⟨m0, m1, _⟩ := cfg_cells2 hBc; obtain ⟨x0, x1⟩ := acc_cells hRs; have z0 : ∀ j, wX.frozen? ⟨w.heap.size + 2, j, none⟩ = false := (fun j => blk_free hRs); rw [HF2.out]))
  rw [HQ.out, askG_no HQ.out]
  refine bodyPost_ret (results_cell_tmp rfl _ _ (w.heap.size + 2) _ rfl (res_acc hRs boot (some ⟨b, 0, none⟩) n cap)) rfl ?_
  exact ⟨(some ⟨b, 0, none⟩), cap, rfl, (HA.out.below hbc).store hRs _ _, (hbc.setCell (show w.heap.size ≤ w.heap.size + 2 from Nat.le_add_right _ _) _).setCell (show w.heap.size ≤ w.heap.size + 2 from Nat.le_add_right _ _) _⟩

set_option maxRecDepth 100000 in
set_option maxHeartbeats 4000000 in
theorem rask_d1 (C : Cv) (boot : Int) (b : Nat) (n cap : Nat) (gs : List G3) (k : Nat) (node nonce now gn gc gi : Int) (w : World) (h : Good w C) (ha : Acc w (some ⟨b, 0, none⟩) n cap gs) (rn : inI node) (rc : inI nonce) (rw' : inI now)
    (hk : k < n) (hm : mayB C n k = true) (ho : 0 ≤ node ∧ node < C.nodes ∧ 0 ≤ nonce ∧ 0 ≤ now) (hf : freeB C boot now = true) (hG : gs.getD k gnone = ⟨gn, gc, gi⟩) (h1 : gn < 0) :
    Calls Try.prog 16 #[.agg C.cells, .agg #[.int .i64 boot, .slice (some ⟨b, 0, none⟩) n cap], .int .i64 k, .int .i64 node, .int .i64 nonce, .int .i64 now] w fun e w' =>
      ∃ ad' cap', e = .returned (.tuple #[.agg #[.int .i64 boot, .slice ad' n cap'], .bool (askB C boot n gs k node nonce now)]) ∧ Acc w' ad' n cap' (askG C boot n gs k node nonce now) ∧ Below w.heap.size w w' := by
  have HG := Lib.hid h
  have HA := Lib.hid ha
  have RN := Lib.hid rn
  have RC := Lib.hid rc
  have RW := Lib.hid rw'
  have HM := Lib.hid hm
  have HF1 := Lib.hid hf
  have HGG := Lib.hid hG
  have hn20 := ha.few
  have hlen : (k : Int) < n := by omega
  have HQ : Hid (askB C boot n gs k node nonce now = true) := by
    show _ = _
    unfold askB
    rw [hm, hf, decide_eq_true ho, show ((k : Int)).toNat = k by omega, hG]
    simp [h1]
  obtain ⟨y, hy⟩ : ∃ y, freeB C gi now = y := ⟨_, rfl⟩
  have HF2 := Lib.hid hy
  clear hy
  obtain ⟨o0, o1, o2, o3⟩ := ho
  clear h ha rn rc rw' hm hf hG
  have hbc : Below w.heap.size w (((w.alloc (Obj.cells C.cells 24)).alloc (Obj.cells #[Value.int IntKind.i64 boot, Value.slice (some ⟨b, 0, none⟩) n cap] 30)).alloc (Obj.cells #[Value.int IntKind.i64 0, Value.slice none 0 0] 30)) := bnew (bnew (bnew (brefl w) _) _) _
  have hBc : (((w.alloc (Obj.cells C.cells 24)).alloc (Obj.cells #[Value.int IntKind.i64 boot, Value.slice (some ⟨b, 0, none⟩) n cap] 30)).alloc (Obj.cells #[Value.int IntKind.i64 0, Value.slice none 0 0] 30)).heap[w.heap.size]? = some (Obj.cells C.cells 24) := by (repeat (first | exact heap_alloc_at _ _ _ (by simp) | rw [Below.heap_alloc _ _ _ (by first | (simp; done) | (simp; omega))]))
  have hAc : (((w.alloc (Obj.cells C.cells 24)).alloc (Obj.cells #[Value.int IntKind.i64 boot, Value.slice (some ⟨b, 0, none⟩) n cap] 30)).alloc (Obj.cells #[Value.int IntKind.i64 0, Value.slice none 0 0] 30)).heap[w.heap.size + 1]? = some (Obj.cells #[Value.int IntKind.i64 boot, Value.slice (some ⟨b, 0, none⟩) n cap] 30) := by (repeat (first | exact heap_alloc_at _ _ _ (by simp) | rw [Below.heap_alloc _ _ _ (by first | (simp; done) | (simp; omega))]))
  have hRs : (((w.alloc (Obj.cells C.cells 24)).alloc (Obj.cells #[Value.int IntKind.i64 boot, Value.slice (some ⟨b, 0, none⟩) n cap] 30)).alloc (Obj.cells #[Value.int IntKind.i64 0, Value.slice none 0 0] 30)).heap[w.heap.size + 2]? = some (Obj.cells #[Value.int IntKind.i64 0, Value.slice none 0 0] 30) := by (repeat (first | exact heap_alloc_at _ _ _ (by simp) | rw [Below.heap_alloc _ _ _ (by first | (simp; done) | (simp; omega))]))
  go_enter Try.func16, Try.ntmps16
  go_wp2_with (first
    | ((with_reducible refine wpList_load_cfg rfl _ rfl w.heap.size rfl C hBc ?_))
    | ((with_reducible refine wpList_load_cfg rfl _ rfl w.heap.size rfl C ((Below.heap_alloc _ _ _ (lt_of_block hBc)).trans hBc) ?_))
    | (go_at_call 46; with_reducible refine (rmay_any C boot _ n cap _ _ (HG.out.below hbc)).mono ?_; rintro e wX ⟨rfl, hX⟩; have hbc := bnext hbc hX; have hBc := (hX.block _ (lt_of_block hBc)).trans hBc; have hAc := (hX.block _ (lt_of_block hAc)).trans hAc; have hRs := (hX.block _ (lt_of_block hRs)).trans hRs; obtain ⟨f0, f1⟩ := acc_cells hAc; obtain ⟨m0, m1, _⟩ := cfg_cells2 hBc; obtain ⟨x0, x1⟩ := acc_cells hRs; have z0 : ∀ j, wX.frozen? ⟨w.heap.size + 2, j, none⟩ = false := (fun j => blk_free hRs); rw [HM.out])
    | (go_at_call 47; with_reducible refine (rfree_any C boot now _ (HG.out.below hbc)).mono ?_; rintro e wX ⟨rfl, hX⟩; have hbc := bnext hbc hX; have hBc := (hX.block _ (lt_of_block hBc)).trans hBc; have hAc := (hX.block _ (lt_of_block hAc)).trans hAc; have hRs := (hX.block _ (lt_of_block hRs)).trans hRs; obtain ⟨f0, f1⟩ := acc_cells hAc; obtain ⟨m0, m1, _⟩ := cfg_cells2 hBc; obtain ⟨x0, x1⟩ := acc_cells hRs; have z0 : ∀ j, wX.frozen? ⟨w.heap.size + 2, j, none⟩ = false := (fun j => blk_free hRs); rw [HF1.out]; obtain ⟨b', hb', c0, c1, c2⟩ := (HA.out.below hbc).cell hk; cases hb'; rw [HGG.out] at c0 c1 c2; dsimp only at c0 c1 c2; have fa0 := (fun o => cell_alloc (o := o) f0); have fa1 := (fun o => cell_alloc (o := o) f1))
    | (go_at_call 47; with_reducible refine (rfree_any C gi now _ (HG.out.below (bnew hbc _))).mono ?_; rintro e wX ⟨rfl, hX⟩; have hGb := (hX.block _ (by simp)).trans (heap_alloc_new _ _); obtain ⟨g0, g1, g2⟩ := grant_cells hGb; have hbc := bnext (bnew hbc _) hX; have hBc := (hX.block _ (by have := lt_of_block hBc; simp; omega)).trans ((Below.heap_alloc _ _ _ (lt_of_block hBc)).trans hBc); have hAc := (hX.block _ (by have := lt_of_block hAc; simp; omega)).trans ((Below.heap_alloc _ _ _ (lt_of_block hAc)).trans hAc); have hRs := (hX.block _ (by have := lt_of_block hRs; simp; omega)).trans ((Below.heap_alloc _ _ _ (lt_of_block hRs)).trans hRs); obtain ⟨f0, f1⟩ := acc_cells hAc; obtain ⟨m0, m1, _⟩ := cfg_cells2 hBc; obtain ⟨x0, x1⟩ := acc_cells hRs; have z0 : ∀ j, wX.frozen? ⟨w.heap.size + 2, j, none⟩ = false := (fun j => blk_free hRs); rw [HF2.out])
    | (go_at_call 48; refine (put_any boot _ n cap gs k ⟨node, nonce, now⟩ _ (HA.out.below hbc) hk ⟨RN.out, RC.out, RW.out⟩).mono ?_; rintro e wX ⟨ad9, cap9, rfl, hA9, hX⟩; have hbc := bnext hbc hX; have hBc := (hX.block _ (lt_of_block hBc)).trans hBc; have hAc := (hX.block _ (lt_of_block hAc)).trans hAc; have hRs := (hX.block _ (lt_of_block hRs)).trans hRs; obtain ⟨f0, f1⟩ := acc_cells hAc; obtain ⟨m0, m1, _⟩ := cfg_cells2 hBc; obtain ⟨x0, x1⟩ := acc_cells hRs; have z0 : ∀ j, wX.frozen? ⟨w.heap.size + 2, j, none⟩ = false := (fun j => blk_free hRs)))
  rw [HQ.out, askG_yes HQ.out]
  refine bodyPost_ret (results_cell_tmp rfl _ _ (w.heap.size + 2) _ rfl (res_acc hRs boot ad9 n cap9)) rfl ?_
  exact ⟨ad9, cap9, rfl, hA9.store hRs _ _, (hbc.setCell (show w.heap.size ≤ w.heap.size + 2 from Nat.le_add_right _ _) _).setCell (show w.heap.size ≤ w.heap.size + 2 from Nat.le_add_right _ _) _⟩

set_option maxRecDepth 100000 in
set_option maxHeartbeats 4000000 in
theorem rask_d2 (C : Cv) (boot : Int) (b : Nat) (n cap : Nat) (gs : List G3) (k : Nat) (node nonce now gn gc gi : Int) (w : World) (h : Good w C) (ha : Acc w (some ⟨b, 0, none⟩) n cap gs) (rn : inI node) (rc : inI nonce) (rw' : inI now)
    (hk : k < n) (hm : mayB C n k = true) (ho : 0 ≤ node ∧ node < C.nodes ∧ 0 ≤ nonce ∧ 0 ≤ now) (hf : freeB C boot now = true) (hG : gs.getD k gnone = ⟨gn, gc, gi⟩) (h0 : ¬ gn < 0) (h1 : gn = node) (h2 : gc < nonce) :
    Calls Try.prog 16 #[.agg C.cells, .agg #[.int .i64 boot, .slice (some ⟨b, 0, none⟩) n cap], .int .i64 k, .int .i64 node, .int .i64 nonce, .int .i64 now] w fun e w' =>
      ∃ ad' cap', e = .returned (.tuple #[.agg #[.int .i64 boot, .slice ad' n cap'], .bool (askB C boot n gs k node nonce now)]) ∧ Acc w' ad' n cap' (askG C boot n gs k node nonce now) ∧ Below w.heap.size w w' := by
  have HG := Lib.hid h
  have HA := Lib.hid ha
  have RN := Lib.hid rn
  have RC := Lib.hid rc
  have RW := Lib.hid rw'
  have HM := Lib.hid hm
  have HF1 := Lib.hid hf
  have HGG := Lib.hid hG
  have hn20 := ha.few
  have hlen : (k : Int) < n := by omega
  have HQ : Hid (askB C boot n gs k node nonce now = true) := by
    show _ = _
    unfold askB
    rw [hm, hf, decide_eq_true ho, show ((k : Int)).toNat = k by omega, hG]
    simp [h1, h2]
  have h1s := h1.symm
  clear h1
  subst h1s
  obtain ⟨y, hy⟩ : ∃ y, freeB C gi now = y := ⟨_, rfl⟩
  have HF2 := Lib.hid hy
  clear hy
  obtain ⟨o0, o1, o2, o3⟩ := ho
  clear h ha rn rc rw' hm hf hG
  have hbc : Below w.heap.size w (((w.alloc (Obj.cells C.cells 24)).alloc (Obj.cells #[Value.int IntKind.i64 boot, Value.slice (some ⟨b, 0, none⟩) n cap] 30)).alloc (Obj.cells #[Value.int IntKind.i64 0, Value.slice none 0 0] 30)) := bnew (bnew (bnew (brefl w) _) _) _
  have hBc : (((w.alloc (Obj.cells C.cells 24)).alloc (Obj.cells #[Value.int IntKind.i64 boot, Value.slice (some ⟨b, 0, none⟩) n cap] 30)).alloc (Obj.cells #[Value.int IntKind.i64 0, Value.slice none 0 0] 30)).heap[w.heap.size]? = some (Obj.cells C.cells 24) := by (repeat (first | exact heap_alloc_at _ _ _ (by simp) | rw [Below.heap_alloc _ _ _ (by first | (simp; done) | (simp; omega))]))
  have hAc : (((w.alloc (Obj.cells C.cells 24)).alloc (Obj.cells #[Value.int IntKind.i64 boot, Value.slice (some ⟨b, 0, none⟩) n cap] 30)).alloc (Obj.cells #[Value.int IntKind.i64 0, Value.slice none 0 0] 30)).heap[w.heap.size + 1]? = some (Obj.cells #[Value.int IntKind.i64 boot, Value.slice (some ⟨b, 0, none⟩) n cap] 30) := by (repeat (first | exact heap_alloc_at _ _ _ (by simp) | rw [Below.heap_alloc _ _ _ (by first | (simp; done) | (simp; omega))]))
  have hRs : (((w.alloc (Obj.cells C.cells 24)).alloc (Obj.cells #[Value.int IntKind.i64 boot, Value.slice (some ⟨b, 0, none⟩) n cap] 30)).alloc (Obj.cells #[Value.int IntKind.i64 0, Value.slice none 0 0] 30)).heap[w.heap.size + 2]? = some (Obj.cells #[Value.int IntKind.i64 0, Value.slice none 0 0] 30) := by (repeat (first | exact heap_alloc_at _ _ _ (by simp) | rw [Below.heap_alloc _ _ _ (by first | (simp; done) | (simp; omega))]))
  go_enter Try.func16, Try.ntmps16
  go_wp2_with (first
    | ((with_reducible refine wpList_load_cfg rfl _ rfl w.heap.size rfl C hBc ?_))
    | ((with_reducible refine wpList_load_cfg rfl _ rfl w.heap.size rfl C ((Below.heap_alloc _ _ _ (lt_of_block hBc)).trans hBc) ?_))
    | (go_at_call 46; with_reducible refine (rmay_any C boot _ n cap _ _ (HG.out.below hbc)).mono ?_; rintro e wX ⟨rfl, hX⟩; have hbc := bnext hbc hX; have hBc := (hX.block _ (lt_of_block hBc)).trans hBc; have hAc := (hX.block _ (lt_of_block hAc)).trans hAc; have hRs := (hX.block _ (lt_of_block hRs)).trans hRs; obtain ⟨f0, f1⟩ := acc_cells hAc; obtain ⟨m0, m1, _⟩ := cfg_cells2 hBc; obtain ⟨x0, x1⟩ := acc_cells hRs; have z0 : ∀ j, wX.frozen? ⟨w.heap.size + 2, j, none⟩ = false := (fun j => blk_free hRs); rw [HM.out])
    | (go_at_call 47; with_reducible refine (rfree_any C boot now _ (HG.out.below hbc)).mono ?_; rintro e wX ⟨rfl, hX⟩; have hbc := bnext hbc hX; have hBc := (hX.block _ (lt_of_block hBc)).trans hBc; have hAc := (hX.block _ (lt_of_block hAc)).trans hAc; have hRs := (hX.block _ (lt_of_block hRs)).trans hRs; obtain ⟨f0, f1⟩ := acc_cells hAc; obtain ⟨m0, m1, _⟩ := cfg_cells2 hBc; obtain ⟨x0, x1⟩ := acc_cells hRs; have z0 : ∀ j, wX.frozen? ⟨w.heap.size + 2, j, none⟩ = false := (fun j => blk_free hRs); rw [HF1.out]; obtain ⟨b', hb', c0, c1, c2⟩ := (HA.out.below hbc).cell hk; cases hb'; rw [HGG.out] at c0 c1 c2; dsimp only at c0 c1 c2; have fa0 := (fun o => cell_alloc (o := o) f0); have fa1 := (fun o => cell_alloc (o := o) f1))
    | (go_at_call 47; with_reducible refine (rfree_any C gi now _ (HG.out.below (bnew hbc _))).mono ?_; rintro e wX ⟨rfl, hX⟩; have hGb := (hX.block _ (by simp)).trans (heap_alloc_new _ _); obtain ⟨g0, g1, g2⟩ := grant_cells hGb; have hbc := bnext (bnew hbc _) hX; have hBc := (hX.block _ (by have := lt_of_block hBc; simp; omega)).trans ((Below.heap_alloc _ _ _ (lt_of_block hBc)).trans hBc); have hAc := (hX.block _ (by have := lt_of_block hAc; simp; omega)).trans ((Below.heap_alloc _ _ _ (lt_of_block hAc)).trans hAc); have hRs := (hX.block _ (by have := lt_of_block hRs; simp; omega)).trans ((Below.heap_alloc _ _ _ (lt_of_block hRs)).trans hRs); obtain ⟨f0, f1⟩ := acc_cells hAc; obtain ⟨m0, m1, _⟩ := cfg_cells2 hBc; obtain ⟨x0, x1⟩ := acc_cells hRs; have z0 : ∀ j, wX.frozen? ⟨w.heap.size + 2, j, none⟩ = false := (fun j => blk_free hRs); rw [HF2.out])
    | (go_at_call 48; refine (put_any boot _ n cap gs k ⟨node, nonce, now⟩ _ (HA.out.below hbc) hk ⟨RN.out, RC.out, RW.out⟩).mono ?_; rintro e wX ⟨ad9, cap9, rfl, hA9, hX⟩; have hbc := bnext hbc hX; have hBc := (hX.block _ (lt_of_block hBc)).trans hBc; have hAc := (hX.block _ (lt_of_block hAc)).trans hAc; have hRs := (hX.block _ (lt_of_block hRs)).trans hRs; obtain ⟨f0, f1⟩ := acc_cells hAc; obtain ⟨m0, m1, _⟩ := cfg_cells2 hBc; obtain ⟨x0, x1⟩ := acc_cells hRs; have z0 : ∀ j, wX.frozen? ⟨w.heap.size + 2, j, none⟩ = false := (fun j => blk_free hRs)))
  rw [HQ.out, askG_yes HQ.out]
  refine bodyPost_ret (results_cell_tmp rfl _ _ (w.heap.size + 2) _ rfl (res_acc hRs boot ad9 n cap9)) rfl ?_
  exact ⟨ad9, cap9, rfl, hA9.store hRs _ _, (hbc.setCell (show w.heap.size ≤ w.heap.size + 2 from Nat.le_add_right _ _) _).setCell (show w.heap.size ≤ w.heap.size + 2 from Nat.le_add_right _ _) _⟩

set_option maxRecDepth 100000 in
set_option maxHeartbeats 4000000 in
theorem rask_d3 (C : Cv) (boot : Int) (b : Nat) (n cap : Nat) (gs : List G3) (k : Nat) (node nonce now gn gc gi : Int) (w : World) (h : Good w C) (ha : Acc w (some ⟨b, 0, none⟩) n cap gs) (rn : inI node) (rc : inI nonce) (rw' : inI now)
    (hk : k < n) (hm : mayB C n k = true) (ho : 0 ≤ node ∧ node < C.nodes ∧ 0 ≤ nonce ∧ 0 ≤ now) (hf : freeB C boot now = true) (hG : gs.getD k gnone = ⟨gn, gc, gi⟩) (h0 : ¬ gn < 0) (h1 : gn ≠ node) (h2 : freeB C gi now = true) :
    Calls Try.prog 16 #[.agg C.cells, .agg #[.int .i64 boot, .slice (some ⟨b, 0, none⟩) n cap], .int .i64 k, .int .i64 node, .int .i64 nonce, .int .i64 now] w fun e w' =>
      ∃ ad' cap', e = .returned (.tuple #[.agg #[.int .i64 boot, .slice ad' n cap'], .bool (askB C boot n gs k node nonce now)]) ∧ Acc w' ad' n cap' (askG C boot n gs k node nonce now) ∧ Below w.heap.size w w' := by
  have HG := Lib.hid h
  have HA := Lib.hid ha
  have RN := Lib.hid rn
  have RC := Lib.hid rc
  have RW := Lib.hid rw'
  have HM := Lib.hid hm
  have HF1 := Lib.hid hf
  have HGG := Lib.hid hG
  have hn20 := ha.few
  have hlen : (k : Int) < n := by omega
  have HQ : Hid (askB C boot n gs k node nonce now = true) := by
    show _ = _
    unfold askB
    rw [hm, hf, decide_eq_true ho, show ((k : Int)).toNat = k by omega, hG]
    simp [h2]
  have h3 : (gn == node) = false := by simpa using h1
  have HF2 := Lib.hid h2
  clear h1 h2
  obtain ⟨o0, o1, o2, o3⟩ := ho
  clear h ha rn rc rw' hm hf hG
  have hbc : Below w.heap.size w (((w.alloc (Obj.cells C.cells 24)).alloc (Obj.cells #[Value.int IntKind.i64 boot, Value.slice (some ⟨b, 0, none⟩) n cap] 30)).alloc (Obj.cells #[Value.int IntKind.i64 0, Value.slice none 0 0] 30)) := bnew (bnew (bnew (brefl w) _) _) _
  have hBc : (((w.alloc (Obj.cells C.cells 24)).alloc (Obj.cells #[Value.int IntKind.i64 boot, Value.slice (some ⟨b, 0, none⟩) n cap] 30)).alloc (Obj.cells #[Value.int IntKind.i64 0, Value.slice none 0 0] 30)).heap[w.heap.size]? = some (Obj.cells C.cells 24) := by (repeat (first | exact heap_alloc_at _ _ _ (by simp) | rw [Below.heap_alloc _ _ _ (by first | (simp; done) | (simp; omega))]))
  have hAc : (((w.alloc (Obj.cells C.cells 24)).alloc (Obj.cells #[Value.int IntKind.i64 boot, Value.slice (some ⟨b, 0, none⟩) n cap] 30)).alloc (Obj.cells #[Value.int IntKind.i64 0, Value.slice none 0 0] 30)).heap[w.heap.size + 1]? = some (Obj.cells #[Value.int IntKind.i64 boot, Value.slice (some ⟨b, 0, none⟩) n cap] 30) := by (repeat (first | exact heap_alloc_at _ _ _ (by simp) | rw [Below.heap_alloc _ _ _ (by first | (simp; done) | (simp; omega))]))
  have hRs : (((w.alloc (Obj.cells C.cells 24)).alloc (Obj.cells #[Value.int IntKind.i64 boot, Value.slice (some ⟨b, 0, none⟩) n cap] 30)).alloc (Obj.cells #[Value.int IntKind.i64 0, Value.slice none 0 0] 30)).heap[w.heap.size + 2]? = some (Obj.cells #[Value.int IntKind.i64 0, Value.slice none 0 0] 30) := by (repeat (first | exact heap_alloc_at _ _ _ (by simp) | rw [Below.heap_alloc _ _ _ (by first | (simp; done) | (simp; omega))]))
  go_enter Try.func16, Try.ntmps16
  go_wp2_with (first
    | ((with_reducible refine wpList_load_cfg rfl _ rfl w.heap.size rfl C hBc ?_))
    | ((with_reducible refine wpList_load_cfg rfl _ rfl w.heap.size rfl C ((Below.heap_alloc _ _ _ (lt_of_block hBc)).trans hBc) ?_))
    | (go_at_call 46; with_reducible refine (rmay_any C boot _ n cap _ _ (HG.out.below hbc)).mono ?_; rintro e wX ⟨rfl, hX⟩; have hbc := bnext hbc hX; have hBc := (hX.block _ (lt_of_block hBc)).trans hBc; have hAc := (hX.block _ (lt_of_block hAc)).trans hAc; have hRs := (hX.block _ (lt_of_block hRs)).trans hRs; obtain ⟨f0, f1⟩ := acc_cells hAc; obtain ⟨m0, m1, _⟩ := cfg_cells2 hBc; obtain ⟨x0, x1⟩ := acc_cells hRs; have z0 : ∀ j, wX.frozen? ⟨w.heap.size + 2, j, none⟩ = false := (fun j => blk_free hRs); rw [HM.out])
    | (go_at_call 47; with_reducible refine (rfree_any C boot now _ (HG.out.below hbc)).mono ?_; rintro e wX ⟨rfl, hX⟩; have hbc := bnext hbc hX; have hBc := (hX.block _ (lt_of_block hBc)).trans hBc; have hAc := (hX.block _ (lt_of_block hAc)).trans hAc; have hRs := (hX.block _ (lt_of_block hRs)).trans hRs; obtain ⟨f0, f1⟩ := acc_cells hAc; obtain ⟨m0, m1, _⟩ := cfg_cells2 hBc; obtain ⟨x0, x1⟩ := acc_cells hRs; have z0 : ∀ j, wX.frozen? ⟨w.heap.size + 2, j, none⟩ = false := (fun j => blk_free hRs); rw [HF1.out]; obtain ⟨b', hb', c0, c1, c2⟩ := (HA.out.below hbc).cell hk; cases hb'; rw [HGG.out] at c0 c1 c2; dsimp only at c0 c1 c2; have fa0 := (fun o => cell_alloc (o := o) f0); have fa1 := (fun o => cell_alloc (o := o) f1))
    | (go_at_call 47; with_reducible refine (rfree_any C gi now _ (HG.out.below (bnew hbc _))).mono ?_; rintro e wX ⟨rfl, hX⟩; have hGb := (hX.block _ (by simp)).trans (heap_alloc_new _ _); obtain ⟨g0, g1, g2⟩ := grant_cells hGb; have hbc := bnext (bnew hbc _) hX; have hBc := (hX.block _ (by have := lt_of_block hBc; simp; omega)).trans ((Below.heap_alloc _ _ _ (lt_of_block hBc)).trans hBc); have hAc := (hX.block _ (by have := lt_of_block hAc; simp; omega)).trans ((Below.heap_alloc _ _ _ (lt_of_block hAc)).trans hAc); have hRs := (hX.block _ (by have := lt_of_block hRs; simp; omega)).trans ((Below.heap_alloc _ _ _ (lt_of_block hRs)).trans hRs); obtain ⟨f0, f1⟩ := acc_cells hAc; obtain ⟨m0, m1, _⟩ := cfg_cells2 hBc; obtain ⟨x0, x1⟩ := acc_cells hRs; have z0 : ∀ j, wX.frozen? ⟨w.heap.size + 2, j, none⟩ = false := (fun j => blk_free hRs); rw [HF2.out])
    | (go_at_call 48; refine (put_any boot _ n cap gs k ⟨node, nonce, now⟩ _ (HA.out.below hbc) hk ⟨RN.out, RC.out, RW.out⟩).mono ?_; rintro e wX ⟨ad9, cap9, rfl, hA9, hX⟩; have hbc := bnext hbc hX; have hBc := (hX.block _ (lt_of_block hBc)).trans hBc; have hAc := (hX.block _ (lt_of_block hAc)).trans hAc; have hRs := (hX.block _ (lt_of_block hRs)).trans hRs; obtain ⟨f0, f1⟩ := acc_cells hAc; obtain ⟨m0, m1, _⟩ := cfg_cells2 hBc; obtain ⟨x0, x1⟩ := acc_cells hRs; have z0 : ∀ j, wX.frozen? ⟨w.heap.size + 2, j, none⟩ = false := (fun j => blk_free hRs)))
  rw [HQ.out, askG_yes HQ.out]
  refine bodyPost_ret (results_cell_tmp rfl _ _ (w.heap.size + 2) _ rfl (res_acc hRs boot ad9 n cap9)) rfl ?_
  exact ⟨ad9, cap9, rfl, hA9.store hRs _ _, (hbc.setCell (show w.heap.size ≤ w.heap.size + 2 from Nat.le_add_right _ _) _).setCell (show w.heap.size ≤ w.heap.size + 2 from Nat.le_add_right _ _) _⟩

set_option maxRecDepth 100000 in
set_option maxHeartbeats 4000000 in
theorem rask_d4 (C : Cv) (boot : Int) (b : Nat) (n cap : Nat) (gs : List G3) (k : Nat) (node nonce now gn gc gi : Int) (w : World) (h : Good w C) (ha : Acc w (some ⟨b, 0, none⟩) n cap gs) (rn : inI node) (rc : inI nonce) (rw' : inI now)
    (hk : k < n) (hm : mayB C n k = true) (ho : 0 ≤ node ∧ node < C.nodes ∧ 0 ≤ nonce ∧ 0 ≤ now) (hf : freeB C boot now = true) (hG : gs.getD k gnone = ⟨gn, gc, gi⟩) (h0 : ¬ gn < 0) (h1 : gn ≠ node) (h2 : freeB C gi now = false) :
    Calls Try.prog 16 #[.agg C.cells, .agg #[.int .i64 boot, .slice (some ⟨b, 0, none⟩) n cap], .int .i64 k, .int .i64 node, .int .i64 nonce, .int .i64 now] w fun e w' =>
      ∃ ad' cap', e = .returned (.tuple #[.agg #[.int .i64 boot, .slice ad' n cap'], .bool (askB C boot n gs k node nonce now)]) ∧ Acc w' ad' n cap' (askG C boot n gs k node nonce now) ∧ Below w.heap.size w w' := by
  have HG := Lib.hid h
  have HA := Lib.hid ha
  have RN := Lib.hid rn
  have RC := Lib.hid rc
  have RW := Lib.hid rw'
  have HM := Lib.hid hm
  have HF1 := Lib.hid hf
  have HGG := Lib.hid hG
  have hn20 := ha.few
  have hlen : (k : Int) < n := by omega
  have HQ : Hid (askB C boot n gs k node nonce now = false) := by
    show _ = _
    unfold askB
    rw [hm, hf, decide_eq_true ho, show ((k : Int)).toNat = k by omega, hG]
    simp [h0, h1, h2]
  have h3 : (gn == node) = false := by simpa using h1
  have HF2 := Lib.hid h2
  clear h1 h2
  obtain ⟨o0, o1, o2, o3⟩ := ho
  clear h ha rn rc rw' hm hf hG
  have hbc : Below w.heap.size w (((w.alloc (Obj.cells C.cells 24)).alloc (Obj.cells #[Value.int IntKind.i64 boot, Value.slice (some ⟨b, 0, none⟩) n cap] 30)).alloc (Obj.cells #[Value.int IntKind.i64 0, Value.slice none 0 0] 30)) := bnew (bnew (bnew (brefl w) _) _) _
  have hBc : (((w.alloc (Obj.cells C.cells 24)).alloc (Obj.cells #[Value.int IntKind.i64 boot, Value.slice (some ⟨b, 0, none⟩) n cap] 30)).alloc (Obj.cells #[Value.int IntKind.i64 0, Value.slice none 0 0] 30)).heap[w.heap.size]? = some (Obj.cells C.cells 24) := by (repeat (first | exact heap_alloc_at _ _ _ (by simp) | rw [Below.heap_alloc _ _ _ (by first | (simp; done) | (simp; omega))]))
  have hAc : (((w.alloc (Obj.cells C.cells 24)).alloc (Obj.cells #[Value.int IntKind.i64 boot, Value.slice (some ⟨b, 0, none⟩) n cap] 30)).alloc (Obj.cells #[Value.int IntKind.i64 0, Value.slice none 0 0] 30)).heap[w.heap.size + 1]? = some (Obj.cells #[Value.int IntKind.i64 boot, Value.slice (some ⟨b, 0, none⟩) n cap] 30) := by (repeat (first | exact heap_alloc_at _ _ _ (by simp) | rw [Below.heap_alloc _ _ _ (by first | (simp; done) | (simp; omega))]))
  have hRs : (((w.alloc (Obj.cells C.cells 24)).alloc (Obj.cells #[Value.int IntKind.i64 boot, Value.slice (some ⟨b, 0, none⟩) n cap] 30)).alloc (Obj.cells #[Value.int IntKind.i64 0, Value.slice none 0 0] 30)).heap[w.heap.size + 2]? = some (Obj.cells #[Value.int IntKind.i64 0, Value.slice none 0 0] 30) := by (repeat (first | exact heap_alloc_at _ _ _ (by simp) | rw [Below.heap_alloc _ _ _ (by first | (simp; done) | (simp; omega))]))
  go_enter Try.func16, Try.ntmps16
  go_wp2_with (first
    | ((with_reducible refine wpList_load_cfg rfl _ rfl w.heap.size rfl C hBc ?_))
    | ((with_reducible refine wpList_load_cfg rfl _ rfl w.heap.size rfl C ((Below.heap_alloc _ _ _ (lt_of_block hBc)).trans hBc) ?_))
    | (go_at_call 46; with_reducible refine (rmay_any C boot _ n cap _ _ (HG.out.below hbc)).mono ?_; rintro e wX ⟨rfl, hX⟩; have hbc := bnext hbc hX; have hBc := (hX.block _ (lt_of_block hBc)).trans hBc; have hAc := (hX.block _ (lt_of_block hAc)).trans hAc; have hRs := (hX.block _ (lt_of_block hRs)).trans hRs; obtain ⟨f0, f1⟩ := acc_cells hAc; obtain ⟨m0, m1, _⟩ := cfg_cells2 hBc; obtain ⟨x0, x1⟩ := acc_cells hRs; have z0 : ∀ j, wX.frozen? ⟨w.heap.size + 2, j, none⟩ = false := (fun j => blk_free hRs); rw [HM.out])
    | (go_at_call 47; with_reducible refine (rfree_any C boot now _ (HG.out.below hbc)).mono ?_; rintro e wX ⟨rfl, hX⟩; have hbc := bnext hbc hX; have hBc := (hX.block _ (lt_of_block hBc)).trans hBc; have hAc := (hX.block _ (lt_of_block hAc)).trans hAc; have hRs := (hX.block _ (lt_of_block hRs)).trans hRs; obtain ⟨f0, f1⟩ := acc_cells hAc; obtain ⟨m0, m1, _⟩ := cfg_cells2 hBc; obtain ⟨x0, x1⟩ := acc_cells hRs; have z0 : ∀ j, wX.frozen? ⟨w.heap.size + 2, j, none⟩ = false := (fun j => blk_free hRs); rw [HF1.out]; obtain ⟨b', hb', c0, c1, c2⟩ := (HA.out.below hbc).cell hk; cases hb'; rw [HGG.out] at c0 c1 c2; dsimp only at c0 c1 c2; have fa0 := (fun o => cell_alloc (o := o) f0); have fa1 := (fun o => cell_alloc (o := o) f1))
    | (go_at_call 47; with_reducible refine (rfree_any C gi now _ (HG.out.below (bnew hbc _))).mono ?_; rintro e wX ⟨rfl, hX⟩; have hGb := (hX.block _ (by simp)).trans (heap_alloc_new _ _); obtain ⟨g0, g1, g2⟩ := grant_cells hGb; have hbc := bnext (bnew hbc _) hX; have hBc := (hX.block _ (by have := lt_of_block hBc; simp; omega)).trans ((Below.heap_alloc _ _ _ (lt_of_block hBc)).trans hBc); have hAc := (hX.block _ (by have := lt_of_block hAc; simp; omega)).trans ((Below.heap_alloc _ _ _ (lt_of_block hAc)).trans hAc); have hRs := (hX.block _ (by have := lt_of_block hRs; simp; omega)).trans ((Below.heap_alloc _ _ _ (lt_of_block hRs)).trans hRs); obtain ⟨f0, f1⟩ := acc_cells hAc; obtain ⟨m0, m1, _⟩ := cfg_cells2 hBc; obtain ⟨x0, x1⟩ := acc_cells hRs; have z0 : ∀ j, wX.frozen? ⟨w.heap.size + 2, j, none⟩ = false := (fun j => blk_free hRs); rw [HF2.out]))
  rw [HQ.out, askG_no HQ.out]
  refine bodyPost_ret (results_cell_tmp rfl _ _ (w.heap.size + 2) _ rfl (res_acc hRs boot (some ⟨b, 0, none⟩) n cap)) rfl ?_
  exact ⟨(some ⟨b, 0, none⟩), cap, rfl, (HA.out.below hbc).store hRs _ _, (hbc.setCell (show w.heap.size ≤ w.heap.size + 2 from Nat.le_add_right _ _) _).setCell (show w.heap.size ≤ w.heap.size + 2 from Nat.le_add_right _ _) _⟩

set_option maxRecDepth 100000 in
set_option maxHeartbeats 4000000 in
theorem rask_d5 (C : Cv) (boot : Int) (b : Nat) (n cap : Nat) (gs : List G3) (k : Nat) (node nonce now gn gc gi : Int) (w : World) (h : Good w C) (ha : Acc w (some ⟨b, 0, none⟩) n cap gs) (rn : inI node) (rc : inI nonce) (rw' : inI now)
    (hk : k < n) (hm : mayB C n k = true) (ho : 0 ≤ node ∧ node < C.nodes ∧ 0 ≤ nonce ∧ 0 ≤ now) (hf : freeB C boot now = true) (hG : gs.getD k gnone = ⟨gn, gc, gi⟩) (h0 : ¬ gn < 0) (h1 : gn = node) (h4 : ¬ gc < nonce) (h2 : freeB C gi now = true) :
    Calls Try.prog 16 #[.agg C.cells, .agg #[.int .i64 boot, .slice (some ⟨b, 0, none⟩) n cap], .int .i64 k, .int .i64 node, .int .i64 nonce, .int .i64 now] w fun e w' =>
      ∃ ad' cap', e = .returned (.tuple #[.agg #[.int .i64 boot, .slice ad' n cap'], .bool (askB C boot n gs k node nonce now)]) ∧ Acc w' ad' n cap' (askG C boot n gs k node nonce now) ∧ Below w.heap.size w w' := by
  have HG := Lib.hid h
  have HA := Lib.hid ha
  have RN := Lib.hid rn
  have RC := Lib.hid rc
  have RW := Lib.hid rw'
  have HM := Lib.hid hm
  have HF1 := Lib.hid hf
  have HGG := Lib.hid hG
  have hn20 := ha.few
  have hlen : (k : Int) < n := by omega
  have HQ : Hid (askB C boot n gs k node nonce now = true) := by
    show _ = _
    unfold askB
    rw [hm, hf, decide_eq_true ho, show ((k : Int)).toNat = k by omega, hG]
    simp [h2]
  have h1s := h1.symm
  clear h1
  subst h1s
  have h5 : decide (gc < nonce) = false := by simpa using h4
  have HF2 := Lib.hid h2
  clear h2
  obtain ⟨o0, o1, o2, o3⟩ := ho
  clear h ha rn rc rw' hm hf hG
  have hbc : Below w.heap.size w (((w.alloc (Obj.cells C.cells 24)).alloc (Obj.cells #[Value.int IntKind.i64 boot, Value.slice (some ⟨b, 0, none⟩) n cap] 30)).alloc (Obj.cells #[Value.int IntKind.i64 0, Value.slice none 0 0] 30)) := bnew (bnew (bnew (brefl w) _) _) _
  have hBc : (((w.alloc (Obj.cells C.cells 24)).alloc (Obj.cells #[Value.int IntKind.i64 boot, Value.slice (some ⟨b, 0, none⟩) n cap] 30)).alloc (Obj.cells #[Value.int IntKind.i64 0, Value.slice none 0 0] 30)).heap[w.heap.size]? = some (Obj.cells C.cells 24) := by (repeat (first | exact heap_alloc_at _ _ _ (by simp) | rw [Below.heap_alloc _ _ _ (by first | (simp; done) | (simp; omega))]))
  have hAc : (((w.alloc (Obj.cells C.cells 24)).alloc (Obj.cells #[Value.int IntKind.i64 boot, Value.slice (some ⟨b, 0, none⟩) n cap] 30)).alloc (Obj.cells #[Value.int IntKind.i64 0, Value.slice none 0 0] 30)).heap[w.heap.size + 1]? = some (Obj.cells #[Value.int IntKind.i64 boot, Value.slice (some ⟨b, 0, none⟩) n cap] 30) := by (repeat (first | exact heap_alloc_at _ _ _ (by simp) | rw [Below.heap_alloc _ _ _ (by first | (simp; done) | (simp; omega))]))
  have hRs : (((w.alloc (Obj.cells C.cells 24)).alloc (Obj.cells #[Value.int IntKind.i64 boot, Value.slice (some ⟨b, 0, none⟩) n cap] 30)).alloc (Obj.cells #[Value.int IntKind.i64 0, Value.slice none 0 0] 30)).heap[w.heap.size + 2]? = some (Obj.cells #[Value.int IntKind.i64 0, Value.slice none 0 0] 30) := by (repeat (first | exact heap_alloc_at _ _ _ (by simp) | rw [Below.heap_alloc _ _ _ (by first | (simp; done) | (simp; omega))]))
  go_enter Try.func16, Try.ntmps16
  go_wp2_with (first
    | ((with_reducible refine wpList_load_cfg rfl _ rfl w.heap.size rfl C hBc ?_))
    | ((with_reducible refine wpList_load_cfg rfl _ rfl w.heap.size rfl C ((Below.heap_alloc _ _ _ (lt_of_block hBc)).trans hBc) ?_))
    | (go_at_call 46; with_reducible refine (rmay_any C boot _ n cap _ _ (HG.out.below hbc)).mono ?_; rintro e wX ⟨rfl, hX⟩; have hbc := bnext hbc hX; have hBc := (hX.block _ (lt_of_block hBc)).trans hBc; have hAc := (hX.block _ (lt_of_block hAc)).trans hAc; have hRs := (hX.block _ (lt_of_block hRs)).trans hRs; obtain ⟨f0, f1⟩ := acc_cells hAc; obtain ⟨m0, m1, _⟩ := cfg_cells2 hBc; obtain ⟨x0, x1⟩ := acc_cells hRs; have z0 : ∀ j, wX.frozen? ⟨w.heap.size + 2, j, none⟩ = false := (fun j => blk_free hRs); rw [HM.out])
    | (go_at_call 47; with_reducible refine (rfree_any C boot now _ (HG.out.below hbc)).mono ?_; rintro e wX ⟨rfl, hX⟩; have hbc := bnext hbc hX; have hBc := (hX.block _ (lt_of_block hBc)).trans hBc; have hAc := (hX.block _ (lt_of_block hAc)).trans hAc; have hRs := (hX.block _ (lt_of_block hRs)).trans hRs; obtain ⟨f0, f1⟩ := acc_cells hAc; obtain ⟨m0, m1, _⟩ := cfg_cells2 hBc; obtain ⟨x0, x1⟩ := acc_cells hRs; have z0 : ∀ j, wX.frozen? ⟨w.heap.size + 2, j, none⟩ = false := (fun j => blk_free hRs); rw [HF1.out]; obtain ⟨b', hb', c0, c1, c2⟩ := (HA.out.below hbc).cell hk; cases hb'; rw [HGG.out] at c0 c1 c2; dsimp only at c0 c1 c2; have fa0 := (fun o => cell_alloc (o := o) f0); have fa1 := (fun o => cell_alloc (o := o) f1))
    | (go_at_call 47; with_reducible refine (rfree_any C gi now _ (HG.out.below (bnew hbc _))).mono ?_; rintro e wX ⟨rfl, hX⟩; have hGb := (hX.block _ (by simp)).trans (heap_alloc_new _ _); obtain ⟨g0, g1, g2⟩ := grant_cells hGb; have hbc := bnext (bnew hbc _) hX; have hBc := (hX.block _ (by have := lt_of_block hBc; simp; omega)).trans ((Below.heap_alloc _ _ _ (lt_of_block hBc)).trans hBc); have hAc := (hX.block _ (by have := lt_of_block hAc; simp; omega)).trans ((Below.heap_alloc _ _ _ (lt_of_block hAc)).trans hAc); have hRs := (hX.block _ (by have := lt_of_block hRs; simp; omega)).trans ((Below.heap_alloc _ _ _ (lt_of_block hRs)).trans hRs); obtain ⟨f0, f1⟩ := acc_cells hAc; obtain ⟨m0, m1, _⟩ := cfg_cells2 hBc; obtain ⟨x0, x1⟩ := acc_cells hRs; have z0 : ∀ j, wX.frozen? ⟨w.heap.size + 2, j, none⟩ = false := (fun j => blk_free hRs); rw [HF2.out])
    | (go_at_call 48; refine (put_any boot _ n cap gs k ⟨node, nonce, now⟩ _ (HA.out.below hbc) hk ⟨RN.out, RC.out, RW.out⟩).mono ?_; rintro e wX ⟨ad9, cap9, rfl, hA9, hX⟩; have hbc := bnext hbc hX; have hBc := (hX.block _ (lt_of_block hBc)).trans hBc; have hAc := (hX.block _ (lt_of_block hAc)).trans hAc; have hRs := (hX.block _ (lt_of_block hRs)).trans hRs; obtain ⟨f0, f1⟩ := acc_cells hAc; obtain ⟨m0, m1, _⟩ := cfg_cells2 hBc; obtain ⟨x0, x1⟩ := acc_cells hRs; have z0 : ∀ j, wX.frozen? ⟨w.heap.size + 2, j, none⟩ = false := (fun j => blk_free hRs)))
  rw [HQ.out, askG_yes HQ.out]
  refine bodyPost_ret (results_cell_tmp rfl _ _ (w.heap.size + 2) _ rfl (res_acc hRs boot ad9 n cap9)) rfl ?_
  exact ⟨ad9, cap9, rfl, hA9.store hRs _ _, (hbc.setCell (show w.heap.size ≤ w.heap.size + 2 from Nat.le_add_right _ _) _).setCell (show w.heap.size ≤ w.heap.size + 2 from Nat.le_add_right _ _) _⟩

set_option maxRecDepth 100000 in
set_option maxHeartbeats 4000000 in
theorem rask_d6 (C : Cv) (boot : Int) (b : Nat) (n cap : Nat) (gs : List G3) (k : Nat) (node nonce now gn gc gi : Int) (w : World) (h : Good w C) (ha : Acc w (some ⟨b, 0, none⟩) n cap gs) (rn : inI node) (rc : inI nonce) (rw' : inI now)
    (hk : k < n) (hm : mayB C n k = true) (ho : 0 ≤ node ∧ node < C.nodes ∧ 0 ≤ nonce ∧ 0 ≤ now) (hf : freeB C boot now = true) (hG : gs.getD k gnone = ⟨gn, gc, gi⟩) (h0 : ¬ gn < 0) (h1 : gn = node) (h4 : ¬ gc < nonce) (h2 : freeB C gi now = false) :
    Calls Try.prog 16 #[.agg C.cells, .agg #[.int .i64 boot, .slice (some ⟨b, 0, none⟩) n cap], .int .i64 k, .int .i64 node, .int .i64 nonce, .int .i64 now] w fun e w' =>
      ∃ ad' cap', e = .returned (.tuple #[.agg #[.int .i64 boot, .slice ad' n cap'], .bool (askB C boot n gs k node nonce now)]) ∧ Acc w' ad' n cap' (askG C boot n gs k node nonce now) ∧ Below w.heap.size w w' := by
  have HG := Lib.hid h
  have HA := Lib.hid ha
  have RN := Lib.hid rn
  have RC := Lib.hid rc
  have RW := Lib.hid rw'
  have HM := Lib.hid hm
  have HF1 := Lib.hid hf
  have HGG := Lib.hid hG
  have hn20 := ha.few
  have hlen : (k : Int) < n := by omega
  have HQ : Hid (askB C boot n gs k node nonce now = false) := by
    show _ = _
    unfold askB
    rw [hm, hf, decide_eq_true ho, show ((k : Int)).toNat = k by omega, hG]
    simp [h0, h4, h2]
  have h1s := h1.symm
  clear h1
  subst h1s
  have h5 : decide (gc < nonce) = false := by simpa using h4
  have HF2 := Lib.hid h2
  clear h2
  obtain ⟨o0, o1, o2, o3⟩ := ho
  clear h ha rn rc rw' hm hf hG
  have hbc : Below w.heap.size w (((w.alloc (Obj.cells C.cells 24)).alloc (Obj.cells #[Value.int IntKind.i64 boot, Value.slice (some ⟨b, 0, none⟩) n cap] 30)).alloc (Obj.cells #[Value.int IntKind.i64 0, Value.slice none 0 0] 30)) := bnew (bnew (bnew (brefl w) _) _) _
  have hBc : (((w.alloc (Obj.cells C.cells 24)).alloc (Obj.cells #[Value.int IntKind.i64 boot, Value.slice (some ⟨b, 0, none⟩) n cap] 30)).alloc (Obj.cells #[Value.int IntKind.i64 0, Value.slice none 0 0] 30)).heap[w.heap.size]? = some (Obj.cells C.cells 24) := by (repeat (first | exact heap_alloc_at _ _ _ (by simp) | rw [Below.heap_alloc _ _ _ (by first | (simp; done) | (simp; omega))]))
  have hAc : (((w.alloc (Obj.cells C.cells 24)).alloc (Obj.cells #[Value.int IntKind.i64 boot, Value.slice (some ⟨b, 0, none⟩) n cap] 30)).alloc (Obj.cells #[Value.int IntKind.i64 0, Value.slice none 0 0] 30)).heap[w.heap.size + 1]? = some (Obj.cells #[Value.int IntKind.i64 boot, Value.slice (some ⟨b, 0, none⟩) n cap] 30) := by (repeat (first | exact heap_alloc_at _ _ _ (by simp) | rw [Below.heap_alloc _ _ _ (by first | (simp; done) | (simp; omega))]))
  have hRs : (((w.alloc (Obj.cells C.cells 24)).alloc (Obj.cells #[Value.int IntKind.i64 boot, Value.slice (some ⟨b, 0, none⟩) n cap] 30)).alloc (Obj.cells #[Value.int IntKind.i64 0, Value.slice none 0 0] 30)).heap[w.heap.size + 2]? = some (Obj.cells #[Value.int IntKind.i64 0, Value.slice none 0 0] 30) := by (repeat (first | exact heap_alloc_at _ _ _ (by simp) | rw [Below.heap_alloc _ _ _ (by first | (simp; done) | (simp; omega))]))
  go_enter Try.func16, Try.ntmps16
  go_wp2_with (first
    | ((with_reducible refine wpList_load_cfg rfl _ rfl w.heap.size rfl C hBc ?_))
    | ((with_reducible refine wpList_load_cfg rfl _ rfl w.heap.size rfl C ((Below.heap_alloc _ _ _ (lt_of_block hBc)).trans hBc) ?_))
    | (go_at_call 46; with_reducible refine (rmay_any C boot _ n cap _ _ (HG.out.below hbc)).mono ?_; rintro e wX ⟨rfl, hX⟩; have hbc := bnext hbc hX; have hBc := (hX.block _ (lt_of_block hBc)).trans hBc; have hAc := (hX.block _ (lt_of_block hAc)).trans hAc; have hRs := (hX.block _ (lt_of_block hRs)).trans hRs; obtain ⟨f0, f1⟩ := acc_cells hAc; obtain ⟨m0, m1, _⟩ := cfg_cells2 hBc; obtain ⟨x0, x1⟩ := acc_cells hRs; have z0 : ∀ j, wX.frozen? ⟨w.heap.size + 2, j, none⟩ = false := (fun j => blk_free hRs); rw [HM.out])
    | (go_at_call 47; with_reducible refine (rfree_any C boot now _ (HG.out.below hbc)).mono ?_; rintro e wX ⟨rfl, hX⟩; have hbc := bnext hbc hX; have hBc := (hX.block _ (lt_of_block hBc)).trans hBc; have hAc := (hX.block _ (lt_of_block hAc)).trans hAc; have hRs := (hX.block _ (lt_of_block hRs)).trans hRs; obtain ⟨f0, f1⟩ := acc_cells hAc; obtain ⟨m0, m1, _⟩ := cfg_cells2 hBc; obtain ⟨x0, x1⟩ := acc_cells hRs; have z0 : ∀ j, wX.frozen? ⟨w.heap.size + 2, j, none⟩ = false := (fun j => blk_free hRs); rw [HF1.out]; obtain ⟨b', hb', c0, c1, c2⟩ := (HA.out.below hbc).cell hk; cases hb'; rw [HGG.out] at c0 c1 c2; dsimp only at c0 c1 c2; have fa0 := (fun o => cell_alloc (o := o) f0); have fa1 := (fun o => cell_alloc (o := o) f1))
    | (go_at_call 47; with_reducible refine (rfree_any C gi now _ (HG.out.below (bnew hbc _))).mono ?_; rintro e wX ⟨rfl, hX⟩; have hGb := (hX.block _ (by simp)).trans (heap_alloc_new _ _); obtain ⟨g0, g1, g2⟩ := grant_cells hGb; have hbc := bnext (bnew hbc _) hX; have hBc := (hX.block _ (by have := lt_of_block hBc; simp; omega)).trans ((Below.heap_alloc _ _ _ (lt_of_block hBc)).trans hBc); have hAc := (hX.block _ (by have := lt_of_block hAc; simp; omega)).trans ((Below.heap_alloc _ _ _ (lt_of_block hAc)).trans hAc); have hRs := (hX.block _ (by have := lt_of_block hRs; simp; omega)).trans ((Below.heap_alloc _ _ _ (lt_of_block hRs)).trans hRs); obtain ⟨f0, f1⟩ := acc_cells hAc; obtain ⟨m0, m1, _⟩ := cfg_cells2 hBc; obtain ⟨x0, x1⟩ := acc_cells hRs; have z0 : ∀ j, wX.frozen? ⟨w.heap.size + 2, j, none⟩ = false := (fun j => blk_free hRs); rw [HF2.out]))
  rw [HQ.out, askG_no HQ.out]
  refine bodyPost_ret (results_cell_tmp rfl _ _ (w.heap.size + 2) _ rfl (res_acc hRs boot (some ⟨b, 0, none⟩) n cap)) rfl ?_
  exact ⟨(some ⟨b, 0, none⟩), cap, rfl, (HA.out.below hbc).store hRs _ _, (hbc.setCell (show w.heap.size ≤ w.heap.size + 2 from Nat.le_add_right _ _) _).setCell (show w.heap.size ≤ w.heap.size + 2 from Nat.le_add_right _ _) _⟩

set_option maxRecDepth 100000 in
set_option maxHeartbeats 4000000 in
theorem rask_any (C : Cv) (boot : Int) (ad : Option Addr) (n cap : Nat) (gs : List G3) (slot node nonce now : Int) (w : World) (h : Good w C) (ha : Acc w ad n cap gs) (rn : inI node) (rc : inI nonce) (rw' : inI now) :
    Calls Try.prog 16 #[.agg C.cells, .agg #[.int .i64 boot, .slice ad n cap], .int .i64 slot, .int .i64 node, .int .i64 nonce, .int .i64 now] w fun e w' =>
      ∃ ad' cap', e = .returned (.tuple #[.agg #[.int .i64 boot, .slice ad' n cap'], .bool (askB C boot n gs slot node nonce now)]) ∧ Acc w' ad' n cap' (askG C boot n gs slot node nonce now) ∧ Below w.heap.size w w' := by
  have HG := Lib.hid h
  have HA := Lib.hid ha
  by_cases hm : mayB C n slot = true
  · have hmm : chk C = true ∧ ((n : Int) = C.slots ∧ 0 ≤ slot ∧ slot < C.slots) := by unfold mayB at hm; simpa using hm
    obtain ⟨hck, hns, hs0, hs1⟩ := hmm
    obtain ⟨k, rfl⟩ := Int.eq_ofNat_of_zero_le hs0
    have hk : k < n := by omega
    obtain ⟨b, rfl, _⟩ := ha.cell hk
    by_cases ho : 0 ≤ node ∧ node < C.nodes ∧ 0 ≤ nonce ∧ 0 ≤ now
    · obtain ⟨gn, gc, gi, hG⟩ : ∃ gn gc gi, gs.getD k gnone = ⟨gn, gc, gi⟩ := ⟨_, _, _, rfl⟩
      by_cases hf : freeB C boot now = true
      · by_cases a1 : gn < 0
        · exact rask_d1 C boot b n cap gs k node nonce now gn gc gi w h ha rn rc rw' hk hm ho hf hG a1
        · by_cases a2 : gn = node
          · by_cases a3 : gc < nonce
            · exact rask_d2 C boot b n cap gs k node nonce now gn gc gi w h ha rn rc rw' hk hm ho hf hG a1 a2 a3
            · by_cases a4 : freeB C gi now = true
              · exact rask_d5 C boot b n cap gs k node nonce now gn gc gi w h ha rn rc rw' hk hm ho hf hG a1 a2 a3 a4
              · exact rask_d6 C boot b n cap gs k node nonce now gn gc gi w h ha rn rc rw' hk hm ho hf hG a1 a2 a3 (by simpa using a4)
          · by_cases a4 : freeB C gi now = true
            · exact rask_d3 C boot b n cap gs k node nonce now gn gc gi w h ha rn rc rw' hk hm ho hf hG a1 a2 a4
            · exact rask_d4 C boot b n cap gs k node nonce now gn gc gi w h ha rn rc rw' hk hm ho hf hG a1 a2 (by simpa using a4)
      · exact rask_d0 C boot b n cap gs k node nonce now gn gc gi w h ha rn rc rw' hk hm ho (by simpa using hf) hG
    · have HQ : Hid (askB C boot n gs k node nonce now = false) := by show _ = _; unfold askB; rw [decide_eq_false ho]; simp
      have HM := Lib.hid hm
      clear hm ha hns hs1 h
      have hbc : Below w.heap.size w (((w.alloc (Obj.cells C.cells 24)).alloc (Obj.cells #[Value.int IntKind.i64 boot, Value.slice (some ⟨b, 0, none⟩) n cap] 30)).alloc (Obj.cells #[Value.int IntKind.i64 0, Value.slice none 0 0] 30)) := bnew (bnew (bnew (brefl w) _) _) _
      have hBc : (((w.alloc (Obj.cells C.cells 24)).alloc (Obj.cells #[Value.int IntKind.i64 boot, Value.slice (some ⟨b, 0, none⟩) n cap] 30)).alloc (Obj.cells #[Value.int IntKind.i64 0, Value.slice none 0 0] 30)).heap[w.heap.size]? = some (Obj.cells C.cells 24) := by (repeat (first | exact heap_alloc_at _ _ _ (by simp) | rw [Below.heap_alloc _ _ _ (by first | (simp; done) | (simp; omega))]))
      have hAc : (((w.alloc (Obj.cells C.cells 24)).alloc (Obj.cells #[Value.int IntKind.i64 boot, Value.slice (some ⟨b, 0, none⟩) n cap] 30)).alloc (Obj.cells #[Value.int IntKind.i64 0, Value.slice none 0 0] 30)).heap[w.heap.size + 1]? = some (Obj.cells #[Value.int IntKind.i64 boot, Value.slice (some ⟨b, 0, none⟩) n cap] 30) := by (repeat (first | exact heap_alloc_at _ _ _ (by simp) | rw [Below.heap_alloc _ _ _ (by first | (simp; done) | (simp; omega))]))
      have hRs : (((w.alloc (Obj.cells C.cells 24)).alloc (Obj.cells #[Value.int IntKind.i64 boot, Value.slice (some ⟨b, 0, none⟩) n cap] 30)).alloc (Obj.cells #[Value.int IntKind.i64 0, Value.slice none 0 0] 30)).heap[w.heap.size + 2]? = some (Obj.cells #[Value.int IntKind.i64 0, Value.slice none 0 0] 30) := by (repeat (first | exact heap_alloc_at _ _ _ (by simp) | rw [Below.heap_alloc _ _ _ (by first | (simp; done) | (simp; omega))]))
      go_enter Try.func16, Try.ntmps16
      go_wp2_with (first
        | ((with_reducible refine wpList_load_cfg rfl _ rfl w.heap.size rfl C hBc ?_))
        | (go_at_call 46; with_reducible refine (rmay_any C boot _ n cap _ _ (HG.out.below hbc)).mono ?_; rintro e wX ⟨rfl, hX⟩; have hbc := bnext hbc hX; have hBc := (hX.block _ (lt_of_block hBc)).trans hBc; have hAc := (hX.block _ (lt_of_block hAc)).trans hAc; have hRs := (hX.block _ (lt_of_block hRs)).trans hRs; obtain ⟨f0, f1⟩ := acc_cells hAc; obtain ⟨m0, m1, _⟩ := cfg_cells2 hBc; obtain ⟨x0, x1⟩ := acc_cells hRs; have z0 : ∀ j, wX.frozen? ⟨w.heap.size + 2, j, none⟩ = false := (fun j => blk_free hRs); rw [HM.out]))
      all_goals
        first
        | (exfalso; omega)
        | (rw [HQ.out, askG_no HQ.out]
           refine bodyPost_ret (results_cell_tmp rfl _ _ (w.heap.size + 2) _ rfl (res_acc hRs boot (some ⟨b, 0, none⟩) n cap)) rfl ?_
           exact ⟨(some ⟨b, 0, none⟩), cap, rfl, (HA.out.below hbc).store hRs _ _, (hbc.setCell (show w.heap.size ≤ w.heap.size + 2 from Nat.le_add_right _ _) _).setCell (show w.heap.size ≤ w.heap.size + 2 from Nat.le_add_right _ _) _⟩)
  · have HQ : Hid (askB C boot n gs slot node nonce now = false) := by show _ = _; unfold askB; rw [Bool.not_eq_true] at hm; rw [hm]; rfl
    have HM : Hid (mayB C n slot = false) := by show _ = _; simpa using hm
    clear ha hm h
    have hbc : Below w.heap.size w (((w.alloc (Obj.cells C.cells 24)).alloc (Obj.cells #[Value.int IntKind.i64 boot, Value.slice ad n cap] 30)).alloc (Obj.cells #[Value.int IntKind.i64 0, Value.slice none 0 0] 30)) := bnew (bnew (bnew (brefl w) _) _) _
    have hBc : (((w.alloc (Obj.cells C.cells 24)).alloc (Obj.cells #[Value.int IntKind.i64 boot, Value.slice ad n cap] 30)).alloc (Obj.cells #[Value.int IntKind.i64 0, Value.slice none 0 0] 30)).heap[w.heap.size]? = some (Obj.cells C.cells 24) := by (repeat (first | exact heap_alloc_at _ _ _ (by simp) | rw [Below.heap_alloc _ _ _ (by first | (simp; done) | (simp; omega))]))
    have hAc : (((w.alloc (Obj.cells C.cells 24)).alloc (Obj.cells #[Value.int IntKind.i64 boot, Value.slice ad n cap] 30)).alloc (Obj.cells #[Value.int IntKind.i64 0, Value.slice none 0 0] 30)).heap[w.heap.size + 1]? = some (Obj.cells #[Value.int IntKind.i64 boot, Value.slice ad n cap] 30) := by (repeat (first | exact heap_alloc_at _ _ _ (by simp) | rw [Below.heap_alloc _ _ _ (by first | (simp; done) | (simp; omega))]))
    have hRs : (((w.alloc (Obj.cells C.cells 24)).alloc (Obj.cells #[Value.int IntKind.i64 boot, Value.slice ad n cap] 30)).alloc (Obj.cells #[Value.int IntKind.i64 0, Value.slice none 0 0] 30)).heap[w.heap.size + 2]? = some (Obj.cells #[Value.int IntKind.i64 0, Value.slice none 0 0] 30) := by (repeat (first | exact heap_alloc_at _ _ _ (by simp) | rw [Below.heap_alloc _ _ _ (by first | (simp; done) | (simp; omega))]))
    go_enter Try.func16, Try.ntmps16
    go_wp2_with (first
      | ((with_reducible refine wpList_load_cfg rfl _ rfl w.heap.size rfl C hBc ?_))
      | (go_at_call 46; with_reducible refine (rmay_any C boot _ n cap _ _ (HG.out.below hbc)).mono ?_; rintro e wX ⟨rfl, hX⟩; have hbc := bnext hbc hX; have hBc := (hX.block _ (lt_of_block hBc)).trans hBc; have hAc := (hX.block _ (lt_of_block hAc)).trans hAc; have hRs := (hX.block _ (lt_of_block hRs)).trans hRs; obtain ⟨f0, f1⟩ := acc_cells hAc; obtain ⟨m0, m1, _⟩ := cfg_cells2 hBc; obtain ⟨x0, x1⟩ := acc_cells hRs; have z0 : ∀ j, wX.frozen? ⟨w.heap.size + 2, j, none⟩ = false := (fun j => blk_free hRs); rw [HM.out]))
    rw [HQ.out, askG_no HQ.out]
    refine bodyPost_ret (results_cell_tmp rfl _ _ (w.heap.size + 2) _ rfl (res_acc hRs boot ad n cap)) rfl ?_
    exact ⟨ad, cap, rfl, (HA.out.below hbc).store hRs _ _, (hbc.setCell (show w.heap.size ≤ w.heap.size + 2 from Nat.le_add_right _ _) _).setCell (show w.heap.size ≤ w.heap.size + 2 from Nat.le_add_right _ _) _⟩
end Go.Proofs.Ytmhggpmhekeemaa
