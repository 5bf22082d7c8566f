/- A lease in memory; Ask; which slot a node asks for. -/
import Derived.Test.YtmhggpmhekeemaaLCat
namespace Go.Proofs.Ytmhggpmhekeemaa
open Go.RowKit
/-- A lease as it stands in memory. -/
structure Lv where
  slot : Int
  nonce : Int
  asked : Int
  fa : Option Addr
  fn : Nat
  fc : Nat
  fs : List Int
abbrev Lv.cells (L : Lv) : Array Value := #[.int .i64 L.slot, .int .i64 L.nonce, .int .i64 L.asked, .slice L.fa L.fn L.fc]
structure GoodL (w : World) (L : Lv) : Prop where
  fr : Reads .i64 w L.fa L.fn L.fc L.fs
  r0 : inI L.slot
  r1 : inI L.nonce
  r2 : inI L.asked
theorem GoodL.below {w w' : World} {L : Lv} (h : GoodL w L) (hb : Below w.heap.size w w') : GoodL w' L := { h with fr := h.fr.below hb }
theorem lv_info : (Try.prog.info? 48).map (·.size) = some 4 := by kernel_rfl
/-- A whole lease, loaded; guarded or not. -/
theorem wpList_load_lv {w : World} {ops : Array Oper} {rest : List Oper} {o : Oper} {a : Act} {Q : Exit → Act → World → Prop} (hw : Region.wanted o (yielded ops a.tmps) = true) (x : Operand) (ho : o.op = .load 48 x)
    (g : Nat) (hx : a.eval x = .pointer (some ⟨g, 0, none⟩)) (L : Lv) (hg : w.heap[g]? = some (.cells L.cells 48 (0, 0)))
    (h : wpList Try.prog ops Q rest (a.put o.dst (.agg L.cells)) w) : wpList Try.prog ops Q (o :: rest) a w :=
  BigFrame.wpList_want hw fun _ hK => wp_load_row 48 x ho g hx 48 L.cells (0, 0) _ hg Try.underlying48 rfl (lv_info.trans rfl) (hK _ _ h)
theorem lv_cells {w : World} {b : Nat} {x y z u : Value} (hb : w.heap[b]? = some (.cells #[x, y, z, u] 48 (0, 0))) : w.cell? ⟨b, 0, none⟩ = some x ∧ w.cell? ⟨b, 1, none⟩ = some y ∧ w.cell? ⟨b, 2, none⟩ = some z ∧ w.cell? ⟨b, 3, none⟩ = some u := by
  refine ⟨?_, ?_, ?_, ?_⟩ <;> (rw [cell_of_row _ _ _ _ _ _ hb]; rfl)
theorem st4_same {W : World} {A : Nat} {x0 x1 x2 x3 : Value} (hX : W.heap[A]? = some (.cells #[x0, x1, x2, x3] 48 (0, 0))) (u0 u1 u2 u3 : Value) :
    ((((W.setCell ⟨A, 0, none⟩ u0).setCell ⟨A, 1, none⟩ u1).setCell ⟨A, 2, none⟩ u2).setCell ⟨A, 3, none⟩ u3).heap[A]? = some (.cells #[u0, u1, u2, u3] 48 (0, 0)) :=
  (heap_setCell_same _ _ _ _ _ _ (heap_setCell_same _ _ _ _ _ _ (heap_setCell_same _ _ _ _ _ _ (heap_setCell_same _ _ _ _ _ _ hX)))).trans rfl
theorem st4_below {w W : World} {A : Nat} (hb : Below w.heap.size w W) (h : w.heap.size ≤ A) (u0 u1 u2 u3 : Value) : Below w.heap.size w ((((W.setCell ⟨A, 0, none⟩ u0).setCell ⟨A, 1, none⟩ u1).setCell ⟨A, 2, none⟩ u2).setCell ⟨A, 3, none⟩ u3) :=
  (((hb.setCell (show w.heap.size ≤ (⟨A, 0, none⟩ : Addr).block from h) u0).setCell (show w.heap.size ≤ (⟨A, 1, none⟩ : Addr).block from h) u1).setCell (show w.heap.size ≤ (⟨A, 2, none⟩ : Addr).block from h) u2).setCell (show w.heap.size ≤ (⟨A, 3, none⟩ : Addr).block from h) u3
set_option maxRecDepth 100000 in
theorem lask_any (slot nonce now : Int) (w : World) :
    Calls Try.prog 26 #[.int .i64 slot, .int .i64 nonce, .int .i64 now] w fun e w' => e = .returned (.agg #[.int .i64 slot, .int .i64 nonce, .int .i64 now, .slice none 0 0]) ∧ Below w.heap.size w w' := by
  have HB := Lib.hid (brefl w)
  go_enter Try.func26, Try.ntmps26
  go_wp2_with fail
  go_returns
  exact ⟨rfl, bnew HB.out _⟩
def slotI (C : Cv) (node n : Int) : Int := if chk C = true ∧ 0 ≤ node ∧ node ≤ 1000 ∧ 0 ≤ n ∧ n ≤ 1099511627776 then (node + n) % C.slots else 0
set_option maxRecDepth 100000 in
set_option maxHeartbeats 2000000 in
theorem slot_any (C : Cv) (node n : Int) (w : World) (h : Good w C) :
    Calls Try.prog 33 #[.agg C.cells, .int .i64 node, .int .i64 n] w fun e w' => e = .returned (.int .i64 (slotI C node n)) ∧ Below w.heap.size w w' := by
  have HG := Lib.hid h
  clear h
  have hbc := bnew (brefl w) (Obj.cells C.cells 24)
  have hBc := heap_alloc_new w (Obj.cells C.cells 24)
  by_cases hc : chk C = true
  · have HK : Hid (chkI C = 0) := by show chkI C = 0; unfold chkI; rw [hc]; rfl
    have hcf := chk_facts hc
    have hs1 : 1 ≤ C.slots := hcf.2.1.1
    have hs9 : C.slots ≤ 9 := by have := hcf.1; have := hcf.2.1; omega
    have HC := Lib.hid hc
    clear hc hcf
    by_cases hr : 0 ≤ node ∧ node ≤ 1000 ∧ 0 ≤ n ∧ n ≤ 1099511627776
    · obtain ⟨h1, h2, h3, h4⟩ := hr
      go_enter Try.func33, Try.ntmps33
      go_wp2_with (first
        | (with_reducible refine wpList_load_cfg rfl _ rfl w.heap.size rfl C hBc ?_)
        | (go_at_call 20; with_reducible refine (check_any C _ (HG.out.below hbc)).mono ?_; rintro e wX ⟨rfl, hX⟩; have hbc := bnext hbc hX; have hBc := kb hBc hX; rw [HK.out]; obtain ⟨_, m1, _⟩ := cfg_cells2 hBc))
      go_ret
      exact ⟨ret_int (by unfold slotI; rw [if_pos ⟨HC.out, h1, h2, h3, h4⟩]), hbc⟩
    · have HN : Hid (slotI C node n = 0) := by show slotI C node n = 0; unfold slotI; rw [if_neg]; intro ⟨_, q⟩; exact hr q
      by_cases h1 : 0 ≤ node
      · by_cases h2 : node ≤ 1000
        · by_cases h3 : 0 ≤ n
          · have h4 : ¬ n ≤ 1099511627776 := fun q => hr ⟨h1, h2, h3, q⟩
            clear hr
            go_enter Try.func33, Try.ntmps33
            go_wp2_with (first
              | (with_reducible refine wpList_load_cfg rfl _ rfl w.heap.size rfl C hBc ?_)
              | (go_at_call 20; with_reducible refine (check_any C _ (HG.out.below hbc)).mono ?_; rintro e wX ⟨rfl, hX⟩; have hbc := bnext hbc hX; have hBc := kb hBc hX; rw [HK.out]; obtain ⟨_, m1, _⟩ := cfg_cells2 hBc))
            go_ret
            exact ⟨ret_int (by rw [HN.out]), hbc⟩
          · clear hr
            go_enter Try.func33, Try.ntmps33
            go_wp2_with (first
              | (with_reducible refine wpList_load_cfg rfl _ rfl w.heap.size rfl C hBc ?_)
              | (go_at_call 20; with_reducible refine (check_any C _ (HG.out.below hbc)).mono ?_; rintro e wX ⟨rfl, hX⟩; have hbc := bnext hbc hX; have hBc := kb hBc hX; rw [HK.out]; obtain ⟨_, m1, _⟩ := cfg_cells2 hBc))
            go_ret
            exact ⟨ret_int (by rw [HN.out]), hbc⟩
        · clear hr
          go_enter Try.func33, Try.ntmps33
          go_wp2_with (first
            | (with_reducible refine wpList_load_cfg rfl _ rfl w.heap.size rfl C hBc ?_)
            | (go_at_call 20; with_reducible refine (check_any C _ (HG.out.below hbc)).mono ?_; rintro e wX ⟨rfl, hX⟩; have hbc := bnext hbc hX; have hBc := kb hBc hX; rw [HK.out]; obtain ⟨_, m1, _⟩ := cfg_cells2 hBc))
          go_ret
          exact ⟨ret_int (by rw [HN.out]), hbc⟩
      · clear hr
        go_enter Try.func33, Try.ntmps33
        go_wp2_with (first
          | (with_reducible refine wpList_load_cfg rfl _ rfl w.heap.size rfl C hBc ?_)
          | (go_at_call 20; with_reducible refine (check_any C _ (HG.out.below hbc)).mono ?_; rintro e wX ⟨rfl, hX⟩; have hbc := bnext hbc hX; have hBc := kb hBc hX; rw [HK.out]; obtain ⟨_, m1, _⟩ := cfg_cells2 hBc))
        go_ret
        exact ⟨ret_int (by rw [HN.out]), hbc⟩
  · have HK : Hid (chkI C = 90) := by show chkI C = 90; unfold chkI; rw [if_neg hc]
    have HN : Hid (slotI C node n = 0) := by show slotI C node n = 0; unfold slotI; rw [if_neg]; intro ⟨q, _⟩; exact hc q
    clear hc
    go_enter Try.func33, Try.ntmps33
    go_wp2_with (first
      | (with_reducible refine wpList_load_cfg rfl _ rfl w.heap.size rfl C hBc ?_)
      | (go_at_call 20; with_reducible refine (check_any C _ (HG.out.below hbc)).mono ?_; rintro e wX ⟨rfl, hX⟩; have hbc := bnext hbc hX; have hBc := kb hBc hX; rw [HK.out]; obtain ⟨_, m1, _⟩ := cfg_cells2 hBc))
    go_ret
    exact ⟨ret_int (by rw [HN.out]), hbc⟩
set_option maxRecDepth 100000 in
set_option maxHeartbeats 2000000 in
theorem rslot_any (C : Cv) (node n : Int) (w : World) (h : Good w C) :
    Calls Try.prog 34 #[.agg C.cells, .int .i64 node, .int .i64 n] w fun e w' => e = .returned (.int .i64 (slotI C node n)) ∧ Below w.heap.size w w' := by
  have HG := Lib.hid h
  clear h
  have hbc := bnew (brefl w) (Obj.cells C.cells 24)
  have hBc := heap_alloc_new w (Obj.cells C.cells 24)
  by_cases hc : chk C = true
  · have HK : Hid (chkI C = 0) := by show chkI C = 0; unfold chkI; rw [hc]; rfl
    have hcf := chk_facts hc
    have hs1 : 1 ≤ C.slots := hcf.2.1.1
    have hs9 : C.slots ≤ 9 := by have := hcf.1; have := hcf.2.1; omega
    have HC := Lib.hid hc
    clear hc hcf
    by_cases hr : 0 ≤ node ∧ node ≤ 1000 ∧ 0 ≤ n ∧ n ≤ 1099511627776
    · obtain ⟨h1, h2, h3, h4⟩ := hr
      go_enter Try.func34, Try.ntmps34
      go_wp2_with (first
        | (with_reducible refine wpList_load_cfg rfl _ rfl w.heap.size rfl C hBc ?_)
        | (go_at_call 40; with_reducible refine (rcheck_any C _ (HG.out.below hbc)).mono ?_; rintro e wX ⟨rfl, hX⟩; have hbc := bnext hbc hX; have hBc := kb hBc hX; rw [HK.out]; obtain ⟨_, m1, _⟩ := cfg_cells2 hBc))
      go_ret
      exact ⟨ret_int (by unfold slotI; rw [if_pos ⟨HC.out, h1, h2, h3, h4⟩]), hbc⟩
    · have HN : Hid (slotI C node n = 0) := by show slotI C node n = 0; unfold slotI; rw [if_neg]; intro ⟨_, q⟩; exact hr q
      by_cases h1 : 0 ≤ node
      · by_cases h2 : node ≤ 1000
        · by_cases h3 : 0 ≤ n
          · have h4 : ¬ n ≤ 1099511627776 := fun q => hr ⟨h1, h2, h3, q⟩
            clear hr
            go_enter Try.func34, Try.ntmps34
            go_wp2_with (first
              | (with_reducible refine wpList_load_cfg rfl _ rfl w.heap.size rfl C hBc ?_)
              | (go_at_call 40; with_reducible refine (rcheck_any C _ (HG.out.below hbc)).mono ?_; rintro e wX ⟨rfl, hX⟩; have hbc := bnext hbc hX; have hBc := kb hBc hX; rw [HK.out]; obtain ⟨_, m1, _⟩ := cfg_cells2 hBc))
            go_ret
            exact ⟨ret_int (by rw [HN.out]), hbc⟩
          · clear hr
            go_enter Try.func34, Try.ntmps34
            go_wp2_with (first
              | (with_reducible refine wpList_load_cfg rfl _ rfl w.heap.size rfl C hBc ?_)
              | (go_at_call 40; with_reducible refine (rcheck_any C _ (HG.out.below hbc)).mono ?_; rintro e wX ⟨rfl, hX⟩; have hbc := bnext hbc hX; have hBc := kb hBc hX; rw [HK.out]; obtain ⟨_, m1, _⟩ := cfg_cells2 hBc))
            go_ret
            exact ⟨ret_int (by rw [HN.out]), hbc⟩
        · clear hr
          go_enter Try.func34, Try.ntmps34
          go_wp2_with (first
            | (with_reducible refine wpList_load_cfg rfl _ rfl w.heap.size rfl C hBc ?_)
            | (go_at_call 40; with_reducible refine (rcheck_any C _ (HG.out.below hbc)).mono ?_; rintro e wX ⟨rfl, hX⟩; have hbc := bnext hbc hX; have hBc := kb hBc hX; rw [HK.out]; obtain ⟨_, m1, _⟩ := cfg_cells2 hBc))
          go_ret
          exact ⟨ret_int (by rw [HN.out]), hbc⟩
      · clear hr
        go_enter Try.func34, Try.ntmps34
        go_wp2_with (first
          | (with_reducible refine wpList_load_cfg rfl _ rfl w.heap.size rfl C hBc ?_)
          | (go_at_call 40; with_reducible refine (rcheck_any C _ (HG.out.below hbc)).mono ?_; rintro e wX ⟨rfl, hX⟩; have hbc := bnext hbc hX; have hBc := kb hBc hX; rw [HK.out]; obtain ⟨_, m1, _⟩ := cfg_cells2 hBc))
        go_ret
        exact ⟨ret_int (by rw [HN.out]), hbc⟩
  · have HK : Hid (chkI C = 90) := by show chkI C = 90; unfold chkI; rw [if_neg hc]
    have HN : Hid (slotI C node n = 0) := by show slotI C node n = 0; unfold slotI; rw [if_neg]; intro ⟨q, _⟩; exact hc q
    clear hc
    go_enter Try.func34, Try.ntmps34
    go_wp2_with (first
      | (with_reducible refine wpList_load_cfg rfl _ rfl w.heap.size rfl C hBc ?_)
      | (go_at_call 40; with_reducible refine (rcheck_any C _ (HG.out.below hbc)).mono ?_; rintro e wX ⟨rfl, hX⟩; have hbc := bnext hbc hX; have hBc := kb hBc hX; rw [HK.out]; obtain ⟨_, m1, _⟩ := cfg_cells2 hBc))
    go_ret
    exact ⟨ret_int (by rw [HN.out]), hbc⟩
end Go.Proofs.Ytmhggpmhekeemaa
