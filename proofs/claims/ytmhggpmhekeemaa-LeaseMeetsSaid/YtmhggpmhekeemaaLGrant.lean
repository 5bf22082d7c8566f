/- A lease that a node granted, of the program and of the document. -/
import Derived.Test.YtmhggpmhekeemaaLSlot
namespace Go.Proofs.Ytmhggpmhekeemaa
open Go.RowKit
def grB (C : Cv) (L : Lv) (node slot nonce : Int) : Bool := chk C && (decide (slot = L.slot ∧ nonce = L.nonce ∧ 0 ≤ node ∧ node < C.nodes) && !inB L.fs node)
def grN (C : Cv) (L : Lv) (node slot nonce : Int) : Nat := if grB C L node slot nonce = true then L.fn + 1 else L.fn
def grF (C : Cv) (L : Lv) (node slot nonce : Int) : List Int := if grB C L node slot nonce = true then L.fs ++ [node] else L.fs
theorem reads_one {w : World} {x : Int} (hx : inI x) : Reads .i64 (w.alloc (Obj.cells #[.int .i64 x] 3)) (some ⟨w.heap.size, 0, none⟩) 1 1 [x] :=
  blk_reads (zs := [x]) (heap_alloc_new w _) (Nat.le_of_lt_succ (Nat.lt_of_lt_of_le (Nat.lt_succ_self 1) (by decide))) (by
    intro n hn
    simp only [List.mem_cons, List.not_mem_nil, or_false] at hn
    subst hn
    unfold inI at hx
    simp only [Lit.wf, Bool.and_eq_true, decide_eq_true_eq]
    exact hx)
abbrev LB (L : Lv) : Obj := Obj.cells #[Value.int IntKind.i64 L.slot, Value.int IntKind.i64 L.nonce, Value.int IntKind.i64 L.asked, Value.slice L.fa L.fn L.fc] 48
abbrev RB : Obj := Obj.cells #[Value.int IntKind.i64 0, Value.int IntKind.i64 0, Value.int IntKind.i64 0, Value.slice none 0 0] 48
theorem reads_st4 {k : IntKind} {W : World} {H n c : Nat} {a : Option Addr} {zs : List Int} (h : Reads k W a n c zs) (hp : ∀ p, a = some p → H + 3 ≤ p.block) (v u0 u1 u2 u3 : Value) :
    Reads k (((((W.setCell ⟨H + 1, 3, none⟩ v).setCell ⟨H + 2, 0, none⟩ u0).setCell ⟨H + 2, 1, none⟩ u1).setCell ⟨H + 2, 2, none⟩ u2).setCell ⟨H + 2, 3, none⟩ u3) a n c zs :=
  ((((h.store ⟨H + 1, 3, none⟩ v (fun p q => by have := hp p q; show p.block ≠ H + 1; omega)).store ⟨H + 2, 0, none⟩ u0 (fun p q => by have := hp p q; show p.block ≠ H + 2; omega)).store ⟨H + 2, 1, none⟩ u1 (fun p q => by have := hp p q; show p.block ≠ H + 2; omega)).store ⟨H + 2, 2, none⟩ u2 (fun p q => by have := hp p q; show p.block ≠ H + 2; omega)).store ⟨H + 2, 3, none⟩ u3 (fun p q => by have := hp p q; show p.block ≠ H + 2; omega)
set_option maxRecDepth 100000 in
set_option maxHeartbeats 2000000 in
theorem lgrant_yes (C : Cv) (L : Lv) (node slot nonce : Int) (w : World) (h : Good w C) (hl : GoodL w L) (hn : L.fn ≤ 99) (rn : inI node) (hy : grB C L node slot nonce = true) :
    Calls Try.prog 24 #[.agg C.cells, .agg L.cells, .int .i64 node, .int .i64 slot, .int .i64 nonce] w fun e w' =>
      ∃ ad cap, e = .returned (.agg #[.int .i64 L.slot, .int .i64 L.nonce, .int .i64 L.asked, .slice ad (L.fn + 1) cap]) ∧ Reads .i64 w' ad (L.fn + 1) cap (L.fs ++ [node]) ∧ Below w.heap.size w w' ∧ (∀ p, ad = some p → w.heap.size ≤ p.block) := by
  have hyy : chk C = true ∧ (slot = L.slot ∧ nonce = L.nonce ∧ 0 ≤ node ∧ node < C.nodes) ∧ inB L.fs node = false := by
    unfold grB at hy; simpa only [Bool.and_eq_true, decide_eq_true_eq, Bool.not_eq_true'] using hy
  obtain ⟨hc, ⟨e1, e2, h3, h4⟩, hin⟩ := hyy
  have HK : Hid (chkI C = 0) := by show chkI C = 0; unfold chkI; rw [hc]; rfl
  have hs : (slot == L.slot) = true := by simpa using e1
  have hs2 : (nonce == L.nonce) = true := by simpa using e2
  have HIN := Lib.hid hin
  have HG := Lib.hid h
  have HL := Lib.hid hl
  have HRN := Lib.hid rn
  subst e1 e2
  clear hy hc hin h hl rn hs hs2
  have hbc : Below w.heap.size w (((w.alloc (Obj.cells C.cells 24)).alloc (LB L)).alloc RB) := bnew (bnew (bnew (brefl w) _) _) _
  have hBc : (((w.alloc (Obj.cells C.cells 24)).alloc (LB L)).alloc RB).heap[w.heap.size]? = some (.cells C.cells 24 (0, 0)) := ka (ka (heap_alloc_new w _) _) _
  have hLc : (((w.alloc (Obj.cells C.cells 24)).alloc (LB L)).alloc RB).heap[w.heap.size + 1]? = some (LB L) := ka (heap_alloc2_new _ _ _) _
  have hRs : (((w.alloc (Obj.cells C.cells 24)).alloc (LB L)).alloc RB).heap[w.heap.size + 2]? = some RB := heap_alloc_at _ _ _ (by simp)
  go_enter Try.func24, Try.ntmps24
  go_wp2_with (first
    | (with_reducible refine wpList_load_cfg rfl _ rfl w.heap.size rfl C hBc ?_)
    | (go_at_call 20; with_reducible refine (check_any C _ (HG.out.below hbc)).mono ?_; rintro e wX ⟨rfl, hX⟩; have hbc := bnext hbc hX; have hBc := kb hBc hX; have hLc := kb hLc hX; have hRs := kb hRs hX; rw [HK.out]; obtain ⟨m0, _⟩ := cfg_cells2 hBc; obtain ⟨l0, l1, l2, l3⟩ := lv_cells hLc)
    | (go_at_call 59; with_reducible refine (has_any _ _ _ L.fs _ _ (HL.out.below hbc).fr).mono ?_; rintro e wX ⟨rfl, rfl⟩; rw [HIN.out])
    | (go_at_call 60; with_reducible refine (with_any _ _ L.fn _ 1 1 L.fs [node] _ (HL.out.below (bnew hbc _)).fr (reads_one HRN.out) (by omega) (by omega)).mono ?_; rintro e w6 ⟨⟨ad6, cap6, rfl, hr6, hp6⟩, hb6⟩; have hs6 : w.heap.size + 3 ≤ (wX.alloc (Obj.cells #[Value.int .i64 node] 3)).heap.size := (by have := lt_of_block hRs; simp; omega); have HR6 := Lib.hid (And.intro hr6 (fun p hp => Nat.le_trans hs6 (hp6 p hp))); clear hr6 hp6 hs6; have hbc := bnext (bnew hbc _) hb6; have hLc := kb (ka hLc _) hb6; have hRs := kb (ka hRs _) hb6; obtain ⟨l0, l1, l2, l3⟩ := lv_cells hLc; obtain ⟨x0, x1, x2, x3⟩ := lv_cells hRs; have zL : ∀ j, w6.frozen? ⟨w.heap.size + 1, j, none⟩ = false := (fun j => blk_free hLc); have zR : ∀ j, w6.frozen? ⟨w.heap.size + 2, j, none⟩ = false := (fun j => blk_free hRs)))
  have hR := (heap_setCell_other (w := w6) ⟨w.heap.size + 1, 3, none⟩ (w.heap.size + 2) (.slice ad6 (L.fn + 1) cap6) (show w.heap.size + 2 ≠ w.heap.size + 1 by omega)).trans hRs
  refine bodyPost_ret (results_cell_row rfl _ _ (w.heap.size + 2) 48 _ (0, 0) _ rfl (st4_same hR _ _ _ _) Try.underlying48 rfl (lv_info.trans rfl)) rfl ?_
  refine ⟨ad6, cap6, rfl, reads_st4 HR6.out.1 HR6.out.2 _ _ _ _ _, st4_below (hbc.setCell (show w.heap.size ≤ w.heap.size + 1 by omega) _) (show w.heap.size ≤ w.heap.size + 2 by omega) _ _ _ _, fun p hp => by have := HR6.out.2 p hp; omega⟩
theorem reads_lt {k : IntKind} {w : World} {a : Option Addr} {n c : Nat} {zs : List Int} (h : Reads k w a n c zs) : n = 0 ∨ ∀ p, a = some p → p.block < w.heap.size := by
  rcases h.cells with h0 | ⟨b, off, rfl, hc⟩
  · exact .inl h0
  · by_cases h0 : n = 0
    · exact .inl h0
    · exact .inr fun p hp => by cases hp; exact block_lt_of_cell (hc 0 (by omega))
theorem Reads.store' {k : IntKind} {w : World} {a : Option Addr} {n c : Nat} {zs : List Int} (h : Reads k w a n c zs) (A : Addr) (v : Value) (hA : n = 0 ∨ ∀ p, a = some p → p.block ≠ A.block) : Reads k (w.setCell A v) a n c zs := by
  rcases hA with h0 | hA
  · exact ⟨h.length, h.le, h.small, h.wf, h.nil, .inl h0⟩
  · exact h.store A v hA
/-- What came in, behind a store into a box of the call's own. -/
theorem reads_res {k : IntKind} {W : World} {H n c t : Nat} {a : Option Addr} {zs : List Int} {x : Obj} (h : Reads k W a n c zs) (hp : n = 0 ∨ ∀ p, a = some p → p.block < H) (_ : W.heap[H + t]? = some x) (u0 u1 u2 u3 : Value) :
    Reads k ((((W.setCell ⟨H + t, 0, none⟩ u0).setCell ⟨H + t, 1, none⟩ u1).setCell ⟨H + t, 2, none⟩ u2).setCell ⟨H + t, 3, none⟩ u3) a n c zs := by
  have key : n = 0 ∨ ∀ p, a = some p → p.block ≠ H + t := hp.imp id fun q p e => by have := q p e; omega
  exact (((h.store' ⟨H + t, 0, none⟩ u0 key).store' ⟨H + t, 1, none⟩ u1 key).store' ⟨H + t, 2, none⟩ u2 key).store' ⟨H + t, 3, none⟩ u3 key
theorem ownE (w : World) : (w.alloc (Obj.cells #[] 3)).ownsRow w.heap.size 3 1 (.slice (some ⟨w.heap.size, 0, none⟩) 0 0) 0 [] :=
  ⟨rfl, .inr ⟨w.heap.size, 0, #[], rfl, Nat.le_refl _, heap_alloc_new w _, Nat.le_refl _, Nat.zero_le _, rfl, rfl⟩⟩
set_option maxRecDepth 100000 in
set_option maxHeartbeats 8000000 in
theorem lgrant_no (C : Cv) (L : Lv) (node slot nonce : Int) (w : World) (h : Good w C) (hl : GoodL w L) (hn : L.fn ≤ 99) (rn : inI node) (hy : grB C L node slot nonce = false) :
    Calls Try.prog 24 #[.agg C.cells, .agg L.cells, .int .i64 node, .int .i64 slot, .int .i64 nonce] w fun e w' =>
      ∃ ad cap, e = .returned (.agg #[.int .i64 L.slot, .int .i64 L.nonce, .int .i64 L.asked, .slice ad L.fn cap]) ∧ Reads .i64 w' ad L.fn cap L.fs ∧ Below w.heap.size w w' ∧ (∀ p, ad = some p → w.heap.size ≤ p.block) := by
  have HLT := Lib.hid (reads_lt hl.fr)
  have HG := Lib.hid h
  have HL := Lib.hid hl
  have HRN := Lib.hid rn
  clear h hl rn
  have hbc : Below w.heap.size w (((w.alloc (Obj.cells C.cells 24)).alloc (LB L)).alloc RB) := bnew (bnew (bnew (brefl w) _) _) _
  have hBc : (((w.alloc (Obj.cells C.cells 24)).alloc (LB L)).alloc RB).heap[w.heap.size]? = some (.cells C.cells 24 (0, 0)) := ka (ka (heap_alloc_new w _) _) _
  have hLc : (((w.alloc (Obj.cells C.cells 24)).alloc (LB L)).alloc RB).heap[w.heap.size + 1]? = some (LB L) := ka (heap_alloc2_new _ _ _) _
  have hRs : (((w.alloc (Obj.cells C.cells 24)).alloc (LB L)).alloc RB).heap[w.heap.size + 2]? = some RB := heap_alloc_at _ _ _ (by simp)
  by_cases hc : chk C = true
  · have HK : Hid (chkI C = 0) := by show chkI C = 0; unfold chkI; rw [hc]; rfl
    by_cases e1 : slot = L.slot
    · subst e1
      by_cases e2 : nonce = L.nonce
      · subst e2
        by_cases h3 : 0 ≤ node
        · by_cases h4 : node < C.nodes
          · have hin : inB L.fs node = true := by
              unfold grB at hy; rw [hc] at hy; simpa [h3, h4] using hy
            have HIN := Lib.hid hin
            clear hy hc hin
            go_enter Try.func24, Try.ntmps24
            go_wp2_with (first
              | (with_reducible refine wpList_load_cfg rfl _ rfl w.heap.size rfl C hBc ?_)
              | (go_at_call 20; with_reducible refine (check_any C _ (HG.out.below hbc)).mono ?_; rintro e wX ⟨rfl, hX⟩; have hbc := bnext hbc hX; have hBc := kb hBc hX; have hLc := kb hLc hX; have hRs := kb hRs hX; rw [HK.out]; obtain ⟨m0, _⟩ := cfg_cells2 hBc; obtain ⟨l0, l1, l2, l3⟩ := lv_cells hLc; obtain ⟨x0, x1, x2, x3⟩ := lv_cells hRs; have zR : ∀ j, wX.frozen? ⟨w.heap.size + 2, j, none⟩ = false := (fun j => blk_free hRs))
              | (go_at_call 59; with_reducible refine (has_any _ _ _ L.fs _ _ (HL.out.below hbc).fr).mono ?_; rintro e wX ⟨rfl, rfl⟩; rw [HIN.out])
              | (go_at_call 60; with_reducible refine (with_any _ none L.fn _ 0 0 L.fs [] _ (HL.out.below hbc).fr (reads_none _ _ _) (by omega) (by omega)).mono ?_; rintro e w6 ⟨⟨ad6, cap6, rfl, hr6, hp6⟩, hb6⟩; simp only [List.append_nil, Nat.add_zero] at hr6; have hs6 : w.heap.size + 3 ≤ wX.heap.size := (by have := lt_of_block hRs; omega); have HR6 := Lib.hid (And.intro hr6 (fun p hp => Nat.le_trans hs6 (hp6 p hp))); clear hr6 hp6 hs6; have hbc := bnext hbc hb6; have hLc := kb hLc hb6; have hRs := kb hRs hb6; obtain ⟨l0, l1, l2, l3⟩ := lv_cells hLc; obtain ⟨x0, x1, x2, x3⟩ := lv_cells hRs; have zL : ∀ j, w6.frozen? ⟨w.heap.size + 1, j, none⟩ = false := (fun j => blk_free hLc); have zR : ∀ j, w6.frozen? ⟨w.heap.size + 2, j, none⟩ = false := (fun j => blk_free hRs)))
            have hR := (heap_setCell_other (w := w6) ⟨w.heap.size + 1, 3, none⟩ (w.heap.size + 2) (.slice ad6 L.fn cap6) (show w.heap.size + 2 ≠ w.heap.size + 1 by omega)).trans hRs
            refine bodyPost_ret (results_cell_row rfl _ _ (w.heap.size + 2) 48 _ (0, 0) _ rfl (st4_same hR _ _ _ _) Try.underlying48 rfl (lv_info.trans rfl)) rfl ?_
            refine ⟨ad6, cap6, rfl, reads_st4 HR6.out.1 HR6.out.2 _ _ _ _ _, st4_below (hbc.setCell (show w.heap.size ≤ w.heap.size + 1 by omega) _) (show w.heap.size ≤ w.heap.size + 2 by omega) _ _ _ _, fun p hp => by have := HR6.out.2 p hp; omega⟩
          · obtain ⟨bi, hbi⟩ : ∃ b, inB L.fs node = b := ⟨_, rfl⟩
            have HIN := Lib.hid hbi
            clear hy hc hbi
            go_enter Try.func24, Try.ntmps24
            go_wp2_with (first
              | (with_reducible refine wpList_load_cfg rfl _ rfl w.heap.size rfl C hBc ?_)
              | (go_at_call 20; with_reducible refine (check_any C _ (HG.out.below hbc)).mono ?_; rintro e wX ⟨rfl, hX⟩; have hbc := bnext hbc hX; have hBc := kb hBc hX; have hLc := kb hLc hX; have hRs := kb hRs hX; rw [HK.out]; obtain ⟨m0, _⟩ := cfg_cells2 hBc; obtain ⟨l0, l1, l2, l3⟩ := lv_cells hLc; obtain ⟨x0, x1, x2, x3⟩ := lv_cells hRs; have zR : ∀ j, wX.frozen? ⟨w.heap.size + 2, j, none⟩ = false := (fun j => blk_free hRs))
              | (go_at_call 60; with_reducible refine (with_any _ none L.fn _ 0 0 L.fs [] _ (HL.out.below hbc).fr (reads_none _ _ _) (by omega) (by omega)).mono ?_; rintro e w6 ⟨⟨ad6, cap6, rfl, hr6, hp6⟩, hb6⟩; simp only [List.append_nil, Nat.add_zero] at hr6; have hs6 : w.heap.size + 3 ≤ wX.heap.size := (by have := lt_of_block hRs; omega); have HR6 := Lib.hid (And.intro hr6 (fun p hp => Nat.le_trans hs6 (hp6 p hp))); clear hr6 hp6 hs6; have hbc := bnext hbc hb6; have hLc := kb hLc hb6; have hRs := kb hRs hb6; obtain ⟨l0, l1, l2, l3⟩ := lv_cells hLc; obtain ⟨x0, x1, x2, x3⟩ := lv_cells hRs; have zL : ∀ j, w6.frozen? ⟨w.heap.size + 1, j, none⟩ = false := (fun j => blk_free hLc); have zR : ∀ j, w6.frozen? ⟨w.heap.size + 2, j, none⟩ = false := (fun j => blk_free hRs)))
            have hR := (heap_setCell_other (w := w6) ⟨w.heap.size + 1, 3, none⟩ (w.heap.size + 2) (.slice ad6 L.fn cap6) (show w.heap.size + 2 ≠ w.heap.size + 1 by omega)).trans hRs
            refine bodyPost_ret (results_cell_row rfl _ _ (w.heap.size + 2) 48 _ (0, 0) _ rfl (st4_same hR _ _ _ _) Try.underlying48 rfl (lv_info.trans rfl)) rfl ?_
            refine ⟨ad6, cap6, rfl, reads_st4 HR6.out.1 HR6.out.2 _ _ _ _ _, st4_below (hbc.setCell (show w.heap.size ≤ w.heap.size + 1 by omega) _) (show w.heap.size ≤ w.heap.size + 2 by omega) _ _ _ _, fun p hp => by have := HR6.out.2 p hp; omega⟩
        · obtain ⟨bi, hbi⟩ : ∃ b, inB L.fs node = b := ⟨_, rfl⟩
          have HIN := Lib.hid hbi
          clear hy hc hbi
          go_enter Try.func24, Try.ntmps24
          go_wp2_with (first
            | (with_reducible refine wpList_load_cfg rfl _ rfl w.heap.size rfl C hBc ?_)
            | (go_at_call 20; with_reducible refine (check_any C _ (HG.out.below hbc)).mono ?_; rintro e wX ⟨rfl, hX⟩; have hbc := bnext hbc hX; have hBc := kb hBc hX; have hLc := kb hLc hX; have hRs := kb hRs hX; rw [HK.out]; obtain ⟨m0, _⟩ := cfg_cells2 hBc; obtain ⟨l0, l1, l2, l3⟩ := lv_cells hLc; obtain ⟨x0, x1, x2, x3⟩ := lv_cells hRs; have zR : ∀ j, wX.frozen? ⟨w.heap.size + 2, j, none⟩ = false := (fun j => blk_free hRs))
            | (go_at_call 60; with_reducible refine (with_any _ none L.fn _ 0 0 L.fs [] _ (HL.out.below hbc).fr (reads_none _ _ _) (by omega) (by omega)).mono ?_; rintro e w6 ⟨⟨ad6, cap6, rfl, hr6, hp6⟩, hb6⟩; simp only [List.append_nil, Nat.add_zero] at hr6; have hs6 : w.heap.size + 3 ≤ wX.heap.size := (by have := lt_of_block hRs; omega); have HR6 := Lib.hid (And.intro hr6 (fun p hp => Nat.le_trans hs6 (hp6 p hp))); clear hr6 hp6 hs6; have hbc := bnext hbc hb6; have hLc := kb hLc hb6; have hRs := kb hRs hb6; obtain ⟨l0, l1, l2, l3⟩ := lv_cells hLc; obtain ⟨x0, x1, x2, x3⟩ := lv_cells hRs; have zL : ∀ j, w6.frozen? ⟨w.heap.size + 1, j, none⟩ = false := (fun j => blk_free hLc); have zR : ∀ j, w6.frozen? ⟨w.heap.size + 2, j, none⟩ = false := (fun j => blk_free hRs)))
          have hR := (heap_setCell_other (w := w6) ⟨w.heap.size + 1, 3, none⟩ (w.heap.size + 2) (.slice ad6 L.fn cap6) (show w.heap.size + 2 ≠ w.heap.size + 1 by omega)).trans hRs
          refine bodyPost_ret (results_cell_row rfl _ _ (w.heap.size + 2) 48 _ (0, 0) _ rfl (st4_same hR _ _ _ _) Try.underlying48 rfl (lv_info.trans rfl)) rfl ?_
          refine ⟨ad6, cap6, rfl, reads_st4 HR6.out.1 HR6.out.2 _ _ _ _ _, st4_below (hbc.setCell (show w.heap.size ≤ w.heap.size + 1 by omega) _) (show w.heap.size ≤ w.heap.size + 2 by omega) _ _ _ _, fun p hp => by have := HR6.out.2 p hp; omega⟩
      · have hs2 : (nonce == L.nonce) = false := by simpa using e2
        have hs3 : (nonce != L.nonce) = true := by simpa using e2
        clear e2
        obtain ⟨bi, hbi⟩ : ∃ b, inB L.fs node = b := ⟨_, rfl⟩
        have HIN := Lib.hid hbi
        clear hy hc hbi
        go_enter Try.func24, Try.ntmps24
        go_wp2_with (first
          | (with_reducible refine wpList_load_cfg rfl _ rfl w.heap.size rfl C hBc ?_)
          | (go_at_call 20; with_reducible refine (check_any C _ (HG.out.below hbc)).mono ?_; rintro e wX ⟨rfl, hX⟩; have hbc := bnext hbc hX; have hBc := kb hBc hX; have hLc := kb hLc hX; have hRs := kb hRs hX; rw [HK.out]; obtain ⟨m0, _⟩ := cfg_cells2 hBc; obtain ⟨l0, l1, l2, l3⟩ := lv_cells hLc; obtain ⟨x0, x1, x2, x3⟩ := lv_cells hRs; have zR : ∀ j, wX.frozen? ⟨w.heap.size + 2, j, none⟩ = false := (fun j => blk_free hRs))
          | (go_at_call 60; with_reducible refine (with_any _ none L.fn _ 0 0 L.fs [] _ (HL.out.below hbc).fr (reads_none _ _ _) (by omega) (by omega)).mono ?_; rintro e w6 ⟨⟨ad6, cap6, rfl, hr6, hp6⟩, hb6⟩; simp only [List.append_nil, Nat.add_zero] at hr6; have hs6 : w.heap.size + 3 ≤ wX.heap.size := (by have := lt_of_block hRs; omega); have HR6 := Lib.hid (And.intro hr6 (fun p hp => Nat.le_trans hs6 (hp6 p hp))); clear hr6 hp6 hs6; have hbc := bnext hbc hb6; have hLc := kb hLc hb6; have hRs := kb hRs hb6; obtain ⟨l0, l1, l2, l3⟩ := lv_cells hLc; obtain ⟨x0, x1, x2, x3⟩ := lv_cells hRs; have zL : ∀ j, w6.frozen? ⟨w.heap.size + 1, j, none⟩ = false := (fun j => blk_free hLc); have zR : ∀ j, w6.frozen? ⟨w.heap.size + 2, j, none⟩ = false := (fun j => blk_free hRs)))
        have hR := (heap_setCell_other (w := w6) ⟨w.heap.size + 1, 3, none⟩ (w.heap.size + 2) (.slice ad6 L.fn cap6) (show w.heap.size + 2 ≠ w.heap.size + 1 by omega)).trans hRs
        refine bodyPost_ret (results_cell_row rfl _ _ (w.heap.size + 2) 48 _ (0, 0) _ rfl (st4_same hR _ _ _ _) Try.underlying48 rfl (lv_info.trans rfl)) rfl ?_
        refine ⟨ad6, cap6, rfl, reads_st4 HR6.out.1 HR6.out.2 _ _ _ _ _, st4_below (hbc.setCell (show w.heap.size ≤ w.heap.size + 1 by omega) _) (show w.heap.size ≤ w.heap.size + 2 by omega) _ _ _ _, fun p hp => by have := HR6.out.2 p hp; omega⟩
    · have hs : (slot == L.slot) = false := by simpa using e1
      have hs1 : (slot != L.slot) = true := by simpa using e1
      clear e1
      obtain ⟨bi, hbi⟩ : ∃ b, inB L.fs node = b := ⟨_, rfl⟩
      have HIN := Lib.hid hbi
      clear hy hc hbi
      go_enter Try.func24, Try.ntmps24
      go_wp2_with (first
        | (with_reducible refine wpList_load_cfg rfl _ rfl w.heap.size rfl C hBc ?_)
        | (go_at_call 20; with_reducible refine (check_any C _ (HG.out.below hbc)).mono ?_; rintro e wX ⟨rfl, hX⟩; have hbc := bnext hbc hX; have hBc := kb hBc hX; have hLc := kb hLc hX; have hRs := kb hRs hX; rw [HK.out]; obtain ⟨m0, _⟩ := cfg_cells2 hBc; obtain ⟨l0, l1, l2, l3⟩ := lv_cells hLc; obtain ⟨x0, x1, x2, x3⟩ := lv_cells hRs; have zR : ∀ j, wX.frozen? ⟨w.heap.size + 2, j, none⟩ = false := (fun j => blk_free hRs))
        | (go_at_call 60; with_reducible refine (with_any _ none L.fn _ 0 0 L.fs [] _ (HL.out.below hbc).fr (reads_none _ _ _) (by omega) (by omega)).mono ?_; rintro e w6 ⟨⟨ad6, cap6, rfl, hr6, hp6⟩, hb6⟩; simp only [List.append_nil, Nat.add_zero] at hr6; have hs6 : w.heap.size + 3 ≤ wX.heap.size := (by have := lt_of_block hRs; omega); have HR6 := Lib.hid (And.intro hr6 (fun p hp => Nat.le_trans hs6 (hp6 p hp))); clear hr6 hp6 hs6; have hbc := bnext hbc hb6; have hLc := kb hLc hb6; have hRs := kb hRs hb6; obtain ⟨l0, l1, l2, l3⟩ := lv_cells hLc; obtain ⟨x0, x1, x2, x3⟩ := lv_cells hRs; have zL : ∀ j, w6.frozen? ⟨w.heap.size + 1, j, none⟩ = false := (fun j => blk_free hLc); have zR : ∀ j, w6.frozen? ⟨w.heap.size + 2, j, none⟩ = false := (fun j => blk_free hRs)))
      have hR := (heap_setCell_other (w := w6) ⟨w.heap.size + 1, 3, none⟩ (w.heap.size + 2) (.slice ad6 L.fn cap6) (show w.heap.size + 2 ≠ w.heap.size + 1 by omega)).trans hRs
      refine bodyPost_ret (results_cell_row rfl _ _ (w.heap.size + 2) 48 _ (0, 0) _ rfl (st4_same hR _ _ _ _) Try.underlying48 rfl (lv_info.trans rfl)) rfl ?_
      refine ⟨ad6, cap6, rfl, reads_st4 HR6.out.1 HR6.out.2 _ _ _ _ _, st4_below (hbc.setCell (show w.heap.size ≤ w.heap.size + 1 by omega) _) (show w.heap.size ≤ w.heap.size + 2 by omega) _ _ _ _, fun p hp => by have := HR6.out.2 p hp; omega⟩
  · have HK : Hid (chkI C = 90) := by show chkI C = 90; unfold chkI; rw [if_neg hc]
    obtain ⟨bi, hbi⟩ : ∃ b, inB L.fs node = b := ⟨_, rfl⟩
    have HIN := Lib.hid hbi
    clear hy hc hbi
    go_enter Try.func24, Try.ntmps24
    go_wp2_with (first
      | (with_reducible refine wpList_load_cfg rfl _ rfl w.heap.size rfl C hBc ?_)
      | (go_at_call 20; with_reducible refine (check_any C _ (HG.out.below hbc)).mono ?_; rintro e wX ⟨rfl, hX⟩; have hbc := bnext hbc hX; have hBc := kb hBc hX; have hLc := kb hLc hX; have hRs := kb hRs hX; rw [HK.out]; obtain ⟨m0, _⟩ := cfg_cells2 hBc; obtain ⟨l0, l1, l2, l3⟩ := lv_cells hLc; obtain ⟨x0, x1, x2, x3⟩ := lv_cells hRs; have zR : ∀ j, wX.frozen? ⟨w.heap.size + 2, j, none⟩ = false := (fun j => blk_free hRs))
      | (go_at_call 60; with_reducible refine (with_any _ none L.fn _ 0 0 L.fs [] _ (HL.out.below hbc).fr (reads_none _ _ _) (by omega) (by omega)).mono ?_; rintro e w6 ⟨⟨ad6, cap6, rfl, hr6, hp6⟩, hb6⟩; simp only [List.append_nil, Nat.add_zero] at hr6; have hs6 : w.heap.size + 3 ≤ wX.heap.size := (by have := lt_of_block hRs; omega); have HR6 := Lib.hid (And.intro hr6 (fun p hp => Nat.le_trans hs6 (hp6 p hp))); clear hr6 hp6 hs6; have hbc := bnext hbc hb6; have hLc := kb hLc hb6; have hRs := kb hRs hb6; obtain ⟨l0, l1, l2, l3⟩ := lv_cells hLc; obtain ⟨x0, x1, x2, x3⟩ := lv_cells hRs; have zL : ∀ j, w6.frozen? ⟨w.heap.size + 1, j, none⟩ = false := (fun j => blk_free hLc); have zR : ∀ j, w6.frozen? ⟨w.heap.size + 2, j, none⟩ = false := (fun j => blk_free hRs)))
    have hR := (heap_setCell_other (w := w6) ⟨w.heap.size + 1, 3, none⟩ (w.heap.size + 2) (.slice ad6 L.fn cap6) (show w.heap.size + 2 ≠ w.heap.size + 1 by omega)).trans hRs
    refine bodyPost_ret (results_cell_row rfl _ _ (w.heap.size + 2) 48 _ (0, 0) _ rfl (st4_same hR _ _ _ _) Try.underlying48 rfl (lv_info.trans rfl)) rfl ?_
    refine ⟨ad6, cap6, rfl, reads_st4 HR6.out.1 HR6.out.2 _ _ _ _ _, st4_below (hbc.setCell (show w.heap.size ≤ w.heap.size + 1 by omega) _) (show w.heap.size ≤ w.heap.size + 2 by omega) _ _ _ _, fun p hp => by have := HR6.out.2 p hp; omega⟩
set_option maxRecDepth 100000 in
set_option maxHeartbeats 8000000 in
theorem rlgrant_no (C : Cv) (L : Lv) (node slot nonce : Int) (w : World) (h : Good w C) (hl : GoodL w L) (_ : L.fn ≤ 99) (rn : inI node) (hy : grB C L node slot nonce = false) :
    Calls Try.prog 25 #[.agg C.cells, .agg L.cells, .int .i64 node, .int .i64 slot, .int .i64 nonce] w fun e w' =>
      ∃ ad cap, e = .returned (.agg #[.int .i64 L.slot, .int .i64 L.nonce, .int .i64 L.asked, .slice ad L.fn cap]) ∧ Reads .i64 w' ad L.fn cap L.fs ∧ Below w.heap.size w w' := by
  have HLT := Lib.hid (reads_lt hl.fr)
  have HG := Lib.hid h
  have HL := Lib.hid hl
  have HRN := Lib.hid rn
  clear h hl rn
  have hbc : Below w.heap.size w (((w.alloc (Obj.cells C.cells 24)).alloc (LB L)).alloc RB) := bnew (bnew (bnew (brefl w) _) _) _
  have hBc : (((w.alloc (Obj.cells C.cells 24)).alloc (LB L)).alloc RB).heap[w.heap.size]? = some (.cells C.cells 24 (0, 0)) := ka (ka (heap_alloc_new w _) _) _
  have hLc : (((w.alloc (Obj.cells C.cells 24)).alloc (LB L)).alloc RB).heap[w.heap.size + 1]? = some (LB L) := ka (heap_alloc2_new _ _ _) _
  have hRs : (((w.alloc (Obj.cells C.cells 24)).alloc (LB L)).alloc RB).heap[w.heap.size + 2]? = some RB := heap_alloc_at _ _ _ (by simp)
  by_cases hc : chk C = true
  · have HK : Hid (chkI C = 0) := by show chkI C = 0; unfold chkI; rw [hc]; rfl
    by_cases e1 : slot = L.slot
    · subst e1
      by_cases e2 : nonce = L.nonce
      · subst e2
        by_cases h3 : 0 ≤ node
        · by_cases h4 : node < C.nodes
          · have hin : inB L.fs node = true := by
              unfold grB at hy; rw [hc] at hy; simpa [h3, h4] using hy
            have HIN := Lib.hid hin
            clear hy hc hin
            go_enter Try.func25, Try.ntmps25
            go_wp2_with (first
              | (go_at_call 61; with_reducible refine (in_any _ _ _ L.fs _ _ (HL.out.below hbc).fr).mono ?_; rintro e wX ⟨rfl, rfl⟩; rw [HIN.out])
              | (with_reducible refine wpList_load_cfg rfl _ rfl w.heap.size rfl C hBc ?_)
              | (go_at_call 40; with_reducible refine (rcheck_any C _ (HG.out.below hbc)).mono ?_; rintro e wX ⟨rfl, hX⟩; have hbc := bnext hbc hX; have hBc := kb hBc hX; have hLc := kb hLc hX; have hRs := kb hRs hX; rw [HK.out]; obtain ⟨m0, _⟩ := cfg_cells2 hBc; obtain ⟨l0, l1, l2, l3⟩ := lv_cells hLc; obtain ⟨x0, x1, x2, x3⟩ := lv_cells hRs; have zR : ∀ j, wX.frozen? ⟨w.heap.size + 2, j, none⟩ = false := (fun j => blk_free hRs)))
            refine bodyPost_ret (results_cell_row rfl _ _ (w.heap.size + 2) 48 _ (0, 0) _ rfl (st4_same hRs _ _ _ _) Try.underlying48 rfl (lv_info.trans rfl)) rfl ?_
            refine ⟨_, _, rfl, reads_res (HL.out.below hbc).fr HLT.out hRs _ _ _ _, st4_below hbc (show w.heap.size ≤ w.heap.size + 2 by omega) _ _ _ _⟩
          · obtain ⟨bi, hbi⟩ : ∃ b, inB L.fs node = b := ⟨_, rfl⟩
            have HIN := Lib.hid hbi
            clear hy hc hbi
            go_enter Try.func25, Try.ntmps25
            go_wp2_with (first
              | (go_at_call 61; with_reducible refine (in_any _ _ _ L.fs _ _ (HL.out.below hbc).fr).mono ?_; rintro e wX ⟨rfl, rfl⟩; rw [HIN.out])
              | (with_reducible refine wpList_load_cfg rfl _ rfl w.heap.size rfl C hBc ?_)
              | (go_at_call 40; with_reducible refine (rcheck_any C _ (HG.out.below hbc)).mono ?_; rintro e wX ⟨rfl, hX⟩; have hbc := bnext hbc hX; have hBc := kb hBc hX; have hLc := kb hLc hX; have hRs := kb hRs hX; rw [HK.out]; obtain ⟨m0, _⟩ := cfg_cells2 hBc; obtain ⟨l0, l1, l2, l3⟩ := lv_cells hLc; obtain ⟨x0, x1, x2, x3⟩ := lv_cells hRs; have zR : ∀ j, wX.frozen? ⟨w.heap.size + 2, j, none⟩ = false := (fun j => blk_free hRs)))
            refine bodyPost_ret (results_cell_row rfl _ _ (w.heap.size + 2) 48 _ (0, 0) _ rfl (st4_same hRs _ _ _ _) Try.underlying48 rfl (lv_info.trans rfl)) rfl ?_
            refine ⟨_, _, rfl, reads_res (HL.out.below hbc).fr HLT.out hRs _ _ _ _, st4_below hbc (show w.heap.size ≤ w.heap.size + 2 by omega) _ _ _ _⟩
        · obtain ⟨bi, hbi⟩ : ∃ b, inB L.fs node = b := ⟨_, rfl⟩
          have HIN := Lib.hid hbi
          clear hy hc hbi
          go_enter Try.func25, Try.ntmps25
          go_wp2_with (first
            | (go_at_call 61; with_reducible refine (in_any _ _ _ L.fs _ _ (HL.out.below hbc).fr).mono ?_; rintro e wX ⟨rfl, rfl⟩; rw [HIN.out])
            | (with_reducible refine wpList_load_cfg rfl _ rfl w.heap.size rfl C hBc ?_)
            | (go_at_call 40; with_reducible refine (rcheck_any C _ (HG.out.below hbc)).mono ?_; rintro e wX ⟨rfl, hX⟩; have hbc := bnext hbc hX; have hBc := kb hBc hX; have hLc := kb hLc hX; have hRs := kb hRs hX; rw [HK.out]; obtain ⟨m0, _⟩ := cfg_cells2 hBc; obtain ⟨l0, l1, l2, l3⟩ := lv_cells hLc; obtain ⟨x0, x1, x2, x3⟩ := lv_cells hRs; have zR : ∀ j, wX.frozen? ⟨w.heap.size + 2, j, none⟩ = false := (fun j => blk_free hRs)))
          refine bodyPost_ret (results_cell_row rfl _ _ (w.heap.size + 2) 48 _ (0, 0) _ rfl (st4_same hRs _ _ _ _) Try.underlying48 rfl (lv_info.trans rfl)) rfl ?_
          refine ⟨_, _, rfl, reads_res (HL.out.below hbc).fr HLT.out hRs _ _ _ _, st4_below hbc (show w.heap.size ≤ w.heap.size + 2 by omega) _ _ _ _⟩
      · have hs2 : (nonce == L.nonce) = false := by simpa using e2
        have hs3 : (nonce != L.nonce) = true := by simpa using e2
        clear e2
        obtain ⟨bi, hbi⟩ : ∃ b, inB L.fs node = b := ⟨_, rfl⟩
        have HIN := Lib.hid hbi
        clear hy hc hbi
        go_enter Try.func25, Try.ntmps25
        go_wp2_with (first
          | (go_at_call 61; with_reducible refine (in_any _ _ _ L.fs _ _ (HL.out.below hbc).fr).mono ?_; rintro e wX ⟨rfl, rfl⟩; rw [HIN.out])
          | (with_reducible refine wpList_load_cfg rfl _ rfl w.heap.size rfl C hBc ?_)
          | (go_at_call 40; with_reducible refine (rcheck_any C _ (HG.out.below hbc)).mono ?_; rintro e wX ⟨rfl, hX⟩; have hbc := bnext hbc hX; have hBc := kb hBc hX; have hLc := kb hLc hX; have hRs := kb hRs hX; rw [HK.out]; obtain ⟨m0, _⟩ := cfg_cells2 hBc; obtain ⟨l0, l1, l2, l3⟩ := lv_cells hLc; obtain ⟨x0, x1, x2, x3⟩ := lv_cells hRs; have zR : ∀ j, wX.frozen? ⟨w.heap.size + 2, j, none⟩ = false := (fun j => blk_free hRs)))
        refine bodyPost_ret (results_cell_row rfl _ _ (w.heap.size + 2) 48 _ (0, 0) _ rfl (st4_same hRs _ _ _ _) Try.underlying48 rfl (lv_info.trans rfl)) rfl ?_
        refine ⟨_, _, rfl, reads_res (HL.out.below hbc).fr HLT.out hRs _ _ _ _, st4_below hbc (show w.heap.size ≤ w.heap.size + 2 by omega) _ _ _ _⟩
    · have hs : (slot == L.slot) = false := by simpa using e1
      have hs1 : (slot != L.slot) = true := by simpa using e1
      clear e1
      obtain ⟨bi, hbi⟩ : ∃ b, inB L.fs node = b := ⟨_, rfl⟩
      have HIN := Lib.hid hbi
      clear hy hc hbi
      go_enter Try.func25, Try.ntmps25
      go_wp2_with (first
        | (go_at_call 61; with_reducible refine (in_any _ _ _ L.fs _ _ (HL.out.below hbc).fr).mono ?_; rintro e wX ⟨rfl, rfl⟩; rw [HIN.out])
        | (with_reducible refine wpList_load_cfg rfl _ rfl w.heap.size rfl C hBc ?_)
        | (go_at_call 40; with_reducible refine (rcheck_any C _ (HG.out.below hbc)).mono ?_; rintro e wX ⟨rfl, hX⟩; have hbc := bnext hbc hX; have hBc := kb hBc hX; have hLc := kb hLc hX; have hRs := kb hRs hX; rw [HK.out]; obtain ⟨m0, _⟩ := cfg_cells2 hBc; obtain ⟨l0, l1, l2, l3⟩ := lv_cells hLc; obtain ⟨x0, x1, x2, x3⟩ := lv_cells hRs; have zR : ∀ j, wX.frozen? ⟨w.heap.size + 2, j, none⟩ = false := (fun j => blk_free hRs)))
      refine bodyPost_ret (results_cell_row rfl _ _ (w.heap.size + 2) 48 _ (0, 0) _ rfl (st4_same hRs _ _ _ _) Try.underlying48 rfl (lv_info.trans rfl)) rfl ?_
      refine ⟨_, _, rfl, reads_res (HL.out.below hbc).fr HLT.out hRs _ _ _ _, st4_below hbc (show w.heap.size ≤ w.heap.size + 2 by omega) _ _ _ _⟩
  · have HK : Hid (chkI C = 90) := by show chkI C = 90; unfold chkI; rw [if_neg hc]
    obtain ⟨bi, hbi⟩ : ∃ b, inB L.fs node = b := ⟨_, rfl⟩
    have HIN := Lib.hid hbi
    clear hy hc hbi
    go_enter Try.func25, Try.ntmps25
    go_wp2_with (first
      | (go_at_call 61; with_reducible refine (in_any _ _ _ L.fs _ _ (HL.out.below hbc).fr).mono ?_; rintro e wX ⟨rfl, rfl⟩; rw [HIN.out])
      | (with_reducible refine wpList_load_cfg rfl _ rfl w.heap.size rfl C hBc ?_)
      | (go_at_call 40; with_reducible refine (rcheck_any C _ (HG.out.below hbc)).mono ?_; rintro e wX ⟨rfl, hX⟩; have hbc := bnext hbc hX; have hBc := kb hBc hX; have hLc := kb hLc hX; have hRs := kb hRs hX; rw [HK.out]; obtain ⟨m0, _⟩ := cfg_cells2 hBc; obtain ⟨l0, l1, l2, l3⟩ := lv_cells hLc; obtain ⟨x0, x1, x2, x3⟩ := lv_cells hRs; have zR : ∀ j, wX.frozen? ⟨w.heap.size + 2, j, none⟩ = false := (fun j => blk_free hRs)))
    refine bodyPost_ret (results_cell_row rfl _ _ (w.heap.size + 2) 48 _ (0, 0) _ rfl (st4_same hRs _ _ _ _) Try.underlying48 rfl (lv_info.trans rfl)) rfl ?_
    refine ⟨_, _, rfl, reads_res (HL.out.below hbc).fr HLT.out hRs _ _ _ _, st4_below hbc (show w.heap.size ≤ w.heap.size + 2 by omega) _ _ _ _⟩
set_option maxRecDepth 100000 in
set_option maxHeartbeats 4000000 in
theorem rlgrant_yes (C : Cv) (L : Lv) (node slot nonce : Int) (w : World) (h : Good w C) (hl : GoodL w L) (hn : L.fn ≤ 99) (rn : inI node) (hy : grB C L node slot nonce = true) :
    Calls Try.prog 25 #[.agg C.cells, .agg L.cells, .int .i64 node, .int .i64 slot, .int .i64 nonce] w fun e w' =>
      ∃ ad cap, e = .returned (.agg #[.int .i64 L.slot, .int .i64 L.nonce, .int .i64 L.asked, .slice ad (L.fn + 1) cap]) ∧ Reads .i64 w' ad (L.fn + 1) cap (L.fs ++ [node]) ∧ Below w.heap.size w w' := by
  have hyy : chk C = true ∧ (slot = L.slot ∧ nonce = L.nonce ∧ 0 ≤ node ∧ node < C.nodes) ∧ inB L.fs node = false := by
    unfold grB at hy; simpa only [Bool.and_eq_true, decide_eq_true_eq, Bool.not_eq_true'] using hy
  obtain ⟨hc, ⟨e1, e2, h3, h4⟩, hin⟩ := hyy
  have HK : Hid (chkI C = 0) := by show chkI C = 0; unfold chkI; rw [hc]; rfl
  have HIN := Lib.hid hin
  subst e1 e2
  obtain ⟨i0, hi, hz0, hz1, hz2⟩ := num_i
  have HI := Lib.hid hi
  have HZ := Lib.hid hz0
  clear hy hc hin hi hz0
  have HG := Lib.hid h
  have HL := Lib.hid hl
  have HRN := Lib.hid rn
  clear h hl rn
  have hbc : Below w.heap.size w (((w.alloc (Obj.cells C.cells 24)).alloc (LB L)).alloc RB) := bnew (bnew (bnew (brefl w) _) _) _
  have hBc : (((w.alloc (Obj.cells C.cells 24)).alloc (LB L)).alloc RB).heap[w.heap.size]? = some (.cells C.cells 24 (0, 0)) := ka (ka (heap_alloc_new w _) _) _
  have hLc : (((w.alloc (Obj.cells C.cells 24)).alloc (LB L)).alloc RB).heap[w.heap.size + 1]? = some (LB L) := ka (heap_alloc2_new _ _ _) _
  have hRs : (((w.alloc (Obj.cells C.cells 24)).alloc (LB L)).alloc RB).heap[w.heap.size + 2]? = some RB := heap_alloc_at _ _ _ (by simp)
  go_enter Try.func25, Try.ntmps25
  go_wp2_with (first
    | (go_at_call 61; with_reducible refine (in_any _ _ _ L.fs _ _ (HL.out.below hbc).fr).mono ?_; rintro e wX ⟨rfl, rfl⟩; rw [HIN.out])
    | (with_reducible refine wpList_load_cfg rfl _ rfl w.heap.size rfl C hBc ?_)
    | (go_at_call 40; with_reducible refine (rcheck_any C _ (HG.out.below hbc)).mono ?_; rintro e wX ⟨rfl, hX⟩; have hbc := bnext hbc hX; have hBc := kb hBc hX; have hLc := kb hLc hX; have hRs := kb hRs hX; rw [HK.out]; obtain ⟨m0, _⟩ := cfg_cells2 hBc; obtain ⟨l0, l1, l2, l3⟩ := lv_cells hLc; obtain ⟨x0, x1, x2, x3⟩ := lv_cells hRs; have zR : ∀ j, wX.frozen? ⟨w.heap.size + 2, j, none⟩ = false := (fun j => blk_free hRs); have la3 := (fun o => cell_alloc (o := o) l3))
    | (at_builtin; (refine wpList_append_reads (by rfl) (.tmp 45) (.tmp 47) 22 rfl wX.heap.size 3 i0 _ 8 Try.underlying22 HI.out HZ.out hz1 hz2 rfl (.slice (some ⟨wX.heap.size, 0, none⟩) 0 0) 0 [] rfl (ownE wX) .i64 L.fa L.fn L.fc L.fs rfl (HL.out.below (bnew hbc _)).fr (by unfold maxLen; omega) (by omega) (by simp) ?_); intro v7 w7 ho7 hg7; simp only [Nat.zero_add, List.nil_append] at ho7; have hb7 := (bnew (brefl wX) (Obj.cells #[] 3)).grown hg7 (by simp) (own_base (ownE wX) (Nat.le_refl _)); obtain ⟨ad7, cap7, rfl⟩ := own_slice ho7; have HO7 := Lib.hid ho7; have HB7 := Lib.hid hb7; have HX7 : Hid (wX.heap.size ≤ w7.heap.size) := Lib.hid hb7.size; clear ho7 hb7 hg7)
    | (at_builtin; (refine wpList_append_reads (by rfl) (.tmp 48) (.tmp 50) 22 rfl wX.heap.size 3 i0 _ 8 Try.underlying22 HI.out HZ.out hz1 hz2 rfl (.slice ad7 L.fn cap7) L.fn (L.fs.map (Value.int .i64)) rfl (HO7.out.alloc _) .i64 (some ⟨w7.heap.size, 0, none⟩) 1 1 [node] rfl (reads_one HRN.out) (by unfold maxLen; omega) (by omega) (by have := HX7.out; simp; omega) ?_); intro v8 w8 ho8 hg8; have hb8 := (bnew HB7.out (Obj.cells #[Value.int .i64 node] 3)).grown hg8 (by have := HX7.out; simp; omega) (own_base HO7.out (Nat.le_refl _)); obtain ⟨ad8, cap8, rfl⟩ := own_slice ho8; have hbc := bnext hbc hb8; have hLc := kb hLc hb8; have hRX := lt_of_block hRs; have hRs := kb hRs hb8; obtain ⟨l0, l1, l2, l3⟩ := lv_cells hLc; obtain ⟨x0, x1, x2, x3⟩ := lv_cells hRs; have zL : ∀ j, w8.frozen? ⟨w.heap.size + 1, j, none⟩ = false := (fun j => blk_free hLc); have zR : ∀ j, w8.frozen? ⟨w.heap.size + 2, j, none⟩ = false := (fun j => blk_free hRs); have HO8 := Lib.hid ho8; clear ho8 hb8 hg8))
  have hR := (heap_setCell_other (w := w8) ⟨w.heap.size + 1, 3, none⟩ (w.heap.size + 2) (.slice ad8 (L.fn + 1) cap8) (show w.heap.size + 2 ≠ w.heap.size + 1 by omega)).trans hRs
  refine bodyPost_ret (results_cell_row rfl _ _ (w.heap.size + 2) 48 _ (0, 0) _ rfl (st4_same hR _ _ _ _) Try.underlying48 rfl (lv_info.trans rfl)) rfl ?_
  have hRR : Reads .i64 w8 ad8 (L.fn + 1) cap8 (L.fs ++ [node]) := own_reads (by rw [List.map_append]; exact HO8.out) (by
    intro x hx
    rcases List.mem_append.1 hx with q | q
    · exact HL.out.fr.wf x q
    · have r := (reads_one (w := w) HRN.out).wf x q
      exact r)
  refine ⟨ad8, cap8, rfl, reads_st4 hRR (fun p hp => ?_) _ _ _ _ _, st4_below (hbc.setCell (show w.heap.size ≤ w.heap.size + 1 by omega) _) (show w.heap.size ≤ w.heap.size + 2 by omega) _ _ _ _⟩
  have := own_base HO8.out (Nat.le_refl _) p.block (by rw [hp]; rfl)
  omega
theorem lgrant_any (C : Cv) (L : Lv) (node slot nonce : Int) (w : World) (h : Good w C) (hl : GoodL w L) (hn : L.fn ≤ 99) (rn : inI node) :
    Calls Try.prog 24 #[.agg C.cells, .agg L.cells, .int .i64 node, .int .i64 slot, .int .i64 nonce] w fun e w' =>
      ∃ ad cap, e = .returned (.agg #[.int .i64 L.slot, .int .i64 L.nonce, .int .i64 L.asked, .slice ad (grN C L node slot nonce) cap]) ∧ Reads .i64 w' ad (grN C L node slot nonce) cap (grF C L node slot nonce) ∧ Below w.heap.size w w' ∧ (∀ p, ad = some p → w.heap.size ≤ p.block) := by
  by_cases hy : grB C L node slot nonce = true
  · have e1 : grN C L node slot nonce = L.fn + 1 := if_pos hy
    have e2 : grF C L node slot nonce = L.fs ++ [node] := if_pos hy
    rw [e1, e2]; exact lgrant_yes C L node slot nonce w h hl hn rn hy
  · have e1 : grN C L node slot nonce = L.fn := if_neg hy
    have e2 : grF C L node slot nonce = L.fs := if_neg hy
    rw [e1, e2]; exact lgrant_no C L node slot nonce w h hl hn rn (by simpa using hy)
theorem rlgrant_any (C : Cv) (L : Lv) (node slot nonce : Int) (w : World) (h : Good w C) (hl : GoodL w L) (hn : L.fn ≤ 99) (rn : inI node) :
    Calls Try.prog 25 #[.agg C.cells, .agg L.cells, .int .i64 node, .int .i64 slot, .int .i64 nonce] w fun e w' =>
      ∃ ad cap, e = .returned (.agg #[.int .i64 L.slot, .int .i64 L.nonce, .int .i64 L.asked, .slice ad (grN C L node slot nonce) cap]) ∧ Reads .i64 w' ad (grN C L node slot nonce) cap (grF C L node slot nonce) ∧ Below w.heap.size w w' := by
  by_cases hy : grB C L node slot nonce = true
  · have e1 : grN C L node slot nonce = L.fn + 1 := if_pos hy
    have e2 : grF C L node slot nonce = L.fs ++ [node] := if_pos hy
    rw [e1, e2]; exact rlgrant_yes C L node slot nonce w h hl hn rn hy
  · have e1 : grN C L node slot nonce = L.fn := if_neg hy
    have e2 : grF C L node slot nonce = L.fs := if_neg hy
    rw [e1, e2]; exact rlgrant_no C L node slot nonce w h hl hn rn (by simpa using hy)
end Go.Proofs.Ytmhggpmhekeemaa
