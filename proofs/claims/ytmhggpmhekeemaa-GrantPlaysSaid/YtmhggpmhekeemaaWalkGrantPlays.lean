/- The walk of GrantPlays: true, and nothing that was there has changed. -/
import Derived.Test.YtmhggpmhekeemaaGAwake
import Derived.Test.YtmhggpmhekeemaaKOpen
namespace Go.Proofs.Ytmhggpmhekeemaa
open Go.RowKit
def nN (C : Cv) : Nat := if chk C = true then C.slots.toNat else 0
def bN (C : Cv) (now : Int) : Int := if chk C = true then now else 0
def gN (C : Cv) : List G3 := if chk C = true then List.replicate C.slots.toNat gnone else []
theorem new_any (C : Cv) (now : Int) (w : World) (h : Good w C) :
    Calls Try.prog 13 #[.agg C.cells, .int .i64 now] w fun e w' => ∃ ad cap, e = .returned (.agg #[.int .i64 (bN C now), .slice ad (nN C) cap]) ∧ Acc w' ad (nN C) cap (gN C) ∧ Below w.heap.size w w' := by
  by_cases hc : chk C = true
  · have e1 : nN C = C.slots.toNat := if_pos hc
    have e2 : bN C now = now := if_pos hc
    have e3 : gN C = List.replicate C.slots.toNat gnone := if_pos hc
    rw [e1, e2, e3]; exact new_yes C now w h hc
  · have e1 : nN C = 0 := if_neg hc
    have e2 : bN C now = 0 := if_neg hc
    have e3 : gN C = [] := if_neg hc
    rw [e1, e2, e3]
    exact (new_no C now w h (by simpa using hc)).mono fun e w' ⟨he, hb⟩ => ⟨none, 0, he, acc_nil _, hb⟩
theorem rnew_any (C : Cv) (now : Int) (w : World) (h : Good w C) :
    Calls Try.prog 14 #[.agg C.cells, .int .i64 now] w fun e w' => ∃ ad cap, e = .returned (.agg #[.int .i64 (bN C now), .slice ad (nN C) cap]) ∧ Acc w' ad (nN C) cap (gN C) ∧ Below w.heap.size w w' := by
  by_cases hc : chk C = true
  · have e1 : nN C = C.slots.toNat := if_pos hc
    have e2 : bN C now = now := if_pos hc
    have e3 : gN C = List.replicate C.slots.toNat gnone := if_pos hc
    rw [e1, e2, e3]; exact rnew_yes C now w h hc
  · have e1 : nN C = 0 := if_neg hc
    have e2 : bN C now = 0 := if_neg hc
    have e3 : gN C = [] := if_neg hc
    rw [e1, e2, e3]
    exact (rnew_no C now w h (by simpa using hc)).mono fun e w' ⟨he, hb⟩ => ⟨none, 0, he, acc_nil _, hb⟩
theorem st_same {W : World} {A : Nat} {x y : Value} (hX : W.heap[A]? = some (.cells #[x, y] 30 (0, 0))) (u v : Value) : ((W.setCell ⟨A, 0, none⟩ u).setCell ⟨A, 1, none⟩ v).heap[A]? = some (.cells #[u, v] 30 (0, 0)) :=
  (heap_setCell_same _ _ _ _ _ _ (heap_setCell_same _ _ _ _ _ _ hX)).trans rfl
theorem st_other {W : World} {A B : Nat} {o : Obj} (hX : W.heap[B]? = some o) (h : B ≠ A) (u v : Value) : ((W.setCell ⟨A, 0, none⟩ u).setCell ⟨A, 1, none⟩ v).heap[B]? = some o :=
  (heap_setCell_other _ _ _ _ h).trans ((heap_setCell_other _ _ _ _ h).trans hX)
theorem st_below {w W : World} {A : Nat} (hb : Below w.heap.size w W) (h : w.heap.size ≤ A) (u v : Value) : Below w.heap.size w ((W.setCell ⟨A, 0, none⟩ u).setCell ⟨A, 1, none⟩ v) :=
  (hb.setCell (show w.heap.size ≤ (⟨A, 0, none⟩ : Addr).block from h) u).setCell (show w.heap.size ≤ (⟨A, 1, none⟩ : Addr).block from h) v
@[reducible] def KBOX (k : K5) : Obj := .cells #[.int .i64 k.kind, .int .i64 k.slot, .int .i64 k.node, .int .i64 k.nonce, .int .i64 k.ahead] 33
theorem call_cells {w : World} {b : Nat} {k : K5} (hb : w.heap[b]? = some (.cells #[.int .i64 k.kind, .int .i64 k.slot, .int .i64 k.node, .int .i64 k.nonce, .int .i64 k.ahead] 33 (0, 0))) :
    w.cell? ⟨b, 0, none⟩ = some (.int .i64 k.kind) ∧ w.cell? ⟨b, 1, none⟩ = some (.int .i64 k.slot) ∧ w.cell? ⟨b, 2, none⟩ = some (.int .i64 k.node) ∧ w.cell? ⟨b, 3, none⟩ = some (.int .i64 k.nonce) ∧ w.cell? ⟨b, 4, none⟩ = some (.int .i64 k.ahead) := by
  refine ⟨?_, ?_, ?_, ?_, ?_⟩ <;> (rw [cell_of_row _ _ _ _ _ _ hb]; rfl)
set_option maxRecDepth 100000 in
set_option maxHeartbeats 8000000 in
theorem walk_GrantPlays (C : Cv) (sa : Option Addr) (sn sc : Nat) (ks : Nat → K5) (w : World) (w0 : Good w C) (w1 : ReadsK w sa sn sc ks) :
    Calls Try.prog 3 #[.agg C.cells, .slice sa sn sc] w fun e w' => e = .returned (.bool true) ∧ Below w.heap.size w w' := by
  have HG := Lib.hid w0
  have HR := Lib.hid w1
  have hsn : sn ≤ 9223372036854775807 := Nat.le_trans w1.le w1.small
  clear w0 w1
  have hbc := bnew (brefl w) (Obj.cells C.cells 24)
  have hBc := heap_alloc_new w (Obj.cells C.cells 24)
  by_cases hf : fewB C = true
  · have HF := Lib.hid hf
    clear hf
    go_enter Try.func3, Try.ntmps3
    go_wp2_with (first
      | (with_reducible refine wpList_load_cfg rfl _ rfl w.heap.size rfl C hBc ?_)
      | (go_at_call 11; refine (gawake_true _).mono ?_; rintro e wX ⟨rfl, hX⟩; have hbc := bnext hbc hX; have hBc := (hX.block _ (lt_of_block hBc)).trans hBc)
      | (go_at_call 12; refine (few_any C _ (HG.out.below hbc)).mono ?_; rintro e wX ⟨rfl, hX⟩; have hbc := bnext hbc hX; have hBc := (hX.block _ (lt_of_block hBc)).trans hBc; rw [HF.out])
      | (go_at_call 13; with_reducible refine (new_any C 0 _ (HG.out.below hbc)).mono ?_; rintro e w1 ⟨ad1, cap1, rfl, hA1, hb1⟩; have hLw := lt_of_block (kb hBc hb1); have hbc := bnew (bnext hbc hb1) (Obj.cells #[Value.int .i64 (bN C 0), Value.slice ad1 (nN C) cap1] 30); have hBc := ka (kb hBc hb1) (Obj.cells #[Value.int .i64 (bN C 0), Value.slice ad1 (nN C) cap1] 30); have hX1 := heap_alloc_new w1 (Obj.cells #[Value.int .i64 (bN C 0), Value.slice ad1 (nN C) cap1] 30); have hA1 := hA1.below (bnew (brefl w1) (Obj.cells #[Value.int .i64 (bN C 0), Value.slice ad1 (nN C) cap1] 30)); clear hb1)
      | (go_at_call 14; with_reducible refine (rnew_any C 0 _ (HG.out.below hbc)).mono ?_; rintro e w2 ⟨ad2, cap2, rfl, hA2, hb2⟩; have hL12 := lt_of_block (kb hX1 hb2); have hbc := bnew (bnext hbc hb2) (Obj.cells #[Value.int .i64 (bN C 0), Value.slice ad2 (nN C) cap2] 30); have hBc := ka (kb hBc hb2) (Obj.cells #[Value.int .i64 (bN C 0), Value.slice ad2 (nN C) cap2] 30); have hX1 := ka (kb hX1 hb2) (Obj.cells #[Value.int .i64 (bN C 0), Value.slice ad2 (nN C) cap2] 30); have hA1 := (hA1.below hb2).below (bnew (brefl w2) (Obj.cells #[Value.int .i64 (bN C 0), Value.slice ad2 (nN C) cap2] 30)); have hX2 := heap_alloc_new w2 (Obj.cells #[Value.int .i64 (bN C 0), Value.slice ad2 (nN C) cap2] 30); have hA2 := hA2.below (bnew (brefl w2) (Obj.cells #[Value.int .i64 (bN C 0), Value.slice ad2 (nN C) cap2] 30)); clear hb2))
    have HX1 := Lib.hid hX1
    have HX2 := Lib.hid hX2
    have HA1 := Lib.hid hA1
    have HA2 := Lib.hid hA2
    have HBc := Lib.hid hBc
    have Hbc := Lib.hid hbc
    have HL12 := Lib.hid hL12
    have HLw := Lib.hid hLw
    clear hX1 hX2 hA1 hA2 hBc hbc
    clear hBc hbc
    go_loopw [6, 9] (fun now i wr => ∃ (k : Nat) (t boot : Int) (a1 : Option Addr) (c1 : Nat) (a2 : Option Addr) (c2 : Nat) (gs : List G3), k ≤ 60 ∧ i = .int .i64 k ∧ now = .int .i64 t ∧ 0 ≤ t ∧ t ≤ k * 1099511627776 ∧ wr.heap[w1.heap.size]? = some (.cells #[.int .i64 boot, .slice a1 (nN C) c1] 30 (0, 0)) ∧ wr.heap[w2.heap.size]? = some (.cells #[.int .i64 boot, .slice a2 (nN C) c2] 30 (0, 0)) ∧ Acc wr a1 (nN C) c1 gs ∧ Acc wr a2 (nN C) c2 gs ∧ wr.heap[w.heap.size]? = some (.cells C.cells 24 (0, 0)) ∧ Below w.heap.size w wr) (fun _ i _ => 60 - (intOf i).toNat)
    case atStart => exact ⟨0, 0, bN C 0, ad1, cap1, ad2, cap2, gN C, by omega, rfl, rfl, by omega, by omega, HX1.out, HX2.out, HA1.out, HA2.out, HBc.out, Hbc.out⟩
    case round =>
      obtain ⟨k, t, boot, a1, c1, a2, c2, gs, hk, rfl, rfl, ht0, ht1, hX1, hX2, hA1, hA2, hBc, hbc⟩ := hrel
      by_cases hin : k < sn ∧ k < 60
      · obtain ⟨hks, hk60⟩ := hin
        rcases (HR.out.below hbc).cells with h0 | ⟨b, off, hsa, hcell⟩
        · exact absurd h0 (by omega)
        obtain ⟨c0, c1', c2', c3, c4⟩ := hcell k hks
        obtain ⟨wn, wc, wa⟩ := HR.out.wf k hks
        subst hsa
        obtain ⟨K, hKe⟩ : ∃ K, ks k = K := ⟨_, rfl⟩
        rw [hKe] at c0 c1' c2' c3 c4 wn wc wa
        clear hKe hcell
        obtain ⟨kd, sl, nd, nc, ah⟩ := K
        simp only at c0 c1' c2' c3 c4 wn wc wa
        have hka := lt_of_block hX1
        have hkb := lt_of_block hX2
        have hXK := heap_alloc_new wr (Obj.cells #[Value.int .i64 kd, Value.int .i64 sl, Value.int .i64 nd, Value.int .i64 nc, Value.int .i64 ah] 33)
        have hX1 := ka hX1 (Obj.cells #[Value.int .i64 kd, Value.int .i64 sl, Value.int .i64 nd, Value.int .i64 nc, Value.int .i64 ah] 33)
        have hX2 := ka hX2 (Obj.cells #[Value.int .i64 kd, Value.int .i64 sl, Value.int .i64 nd, Value.int .i64 nc, Value.int .i64 ah] 33)
        have hA1 := hA1.below (bnew (brefl wr) (Obj.cells #[Value.int .i64 kd, Value.int .i64 sl, Value.int .i64 nd, Value.int .i64 nc, Value.int .i64 ah] 33))
        have hA2 := hA2.below (bnew (brefl wr) (Obj.cells #[Value.int .i64 kd, Value.int .i64 sl, Value.int .i64 nd, Value.int .i64 nc, Value.int .i64 ah] 33))
        have hBc := ka hBc (Obj.cells #[Value.int .i64 kd, Value.int .i64 sl, Value.int .i64 nd, Value.int .i64 nc, Value.int .i64 ah] 33)
        have hbc := bnew hbc (Obj.cells #[Value.int .i64 kd, Value.int .i64 sl, Value.int .i64 nd, Value.int .i64 nc, Value.int .i64 ah] 33)
        obtain ⟨x0, x1, x2, x3, x4⟩ := call_cells (k := ⟨kd, sl, nd, nc, ah⟩) hXK
        obtain ⟨p0, p1⟩ := acc_cells hX1
        obtain ⟨q0, q1⟩ := acc_cells hX2
        have hl12 := HL12.out
        have hlw := HLw.out
        have hk1 : w1.heap.size < wr.heap.size := hka
        have hk2 : w2.heap.size < wr.heap.size := hkb
        by_cases ha : 0 < ah ∧ ah < 1099511627776
        · obtain ⟨ha0, ha1⟩ := ha
          by_cases h1 : kd = 1
          · subst h1
            go_wp2_with (first
              | (with_reducible refine wpList_load_cfg rfl _ rfl w.heap.size rfl C hBc ?_)
              | (go_at_call 15; with_reducible refine (ask_any C boot _ (nN C) _ gs sl nd nc (t + ah) _ (HG.out.below hbc) hA1 wn wc (by unfold inI; omega)).mono ?_; rintro e w3 ⟨a3, c3, rfl, hA3, hb3⟩; have hbc := bnew (bnext hbc hb3) (Obj.cells #[Value.int .i64 boot, Value.slice a3 (nN C) c3] 30); have hBc := ka (kb hBc hb3) (Obj.cells #[Value.int .i64 boot, Value.slice a3 (nN C) c3] 30); have hl31 := lt_of_block (kb hX1 hb3); have hX1 := ka (kb hX1 hb3) (Obj.cells #[Value.int .i64 boot, Value.slice a3 (nN C) c3] 30); have hl32 := lt_of_block (kb hX2 hb3); have hX2 := ka (kb hX2 hb3) (Obj.cells #[Value.int .i64 boot, Value.slice a3 (nN C) c3] 30); have hl3K := lt_of_block (kb hXK hb3); have hXK := ka (kb hXK hb3) (Obj.cells #[Value.int .i64 boot, Value.slice a3 (nN C) c3] 30); have hA2 := (hA2.below hb3).below (bnew (brefl w3) (Obj.cells #[Value.int .i64 boot, Value.slice a3 (nN C) c3] 30)); have hX3 := heap_alloc_new w3 (Obj.cells #[Value.int .i64 boot, Value.slice a3 (nN C) c3] 30); have hA3 := hA3.below (bnew (brefl w3) (Obj.cells #[Value.int .i64 boot, Value.slice a3 (nN C) c3] 30)); obtain ⟨x0, x1, x2, x3, x4⟩ := call_cells (k := ⟨_, _, _, _, _⟩) hXK; obtain ⟨p0, p1⟩ := acc_cells hX1; obtain ⟨q0, q1⟩ := acc_cells hX2)
              | (go_at_call 16; with_reducible refine (rask_any C boot _ (nN C) _ gs sl nd nc (t + ah) _ (HG.out.below hbc) hA2 wn wc (by unfold inI; omega)).mono ?_; rintro e w4 ⟨a4, c4, rfl, hA4, hb4⟩; have hbc := bnext hbc hb4; have hBc := kb hBc hb4; have hl41 := lt_of_block (kb hX1 hb4); have hX1 := kb hX1 hb4; have hl42 := lt_of_block (kb hX2 hb4); have hX2 := kb hX2 hb4; have hl4K := lt_of_block (kb hXK hb4); have hXK := kb hXK hb4; have hl43 := lt_of_block (kb hX3 hb4); have hX3 := kb hX3 hb4; have hA3 := hA3.below hb4; obtain ⟨x0, x1, x2, x3, x4⟩ := call_cells (k := ⟨_, _, _, _, _⟩) hXK; obtain ⟨p0, p1⟩ := acc_cells hX1; obtain ⟨q0, q1⟩ := acc_cells hX2; obtain ⟨r0, r1⟩ := acc_cells hX3; have z1 : ∀ j, World.frozen? _ ⟨w1.heap.size, j, none⟩ = false := fun j => blk_free hX1; have hA3 := hA3.store hX1 (.int .i64 boot) (.slice a3 (nN C) c3); have hA4 := hA4.store hX1 (.int .i64 boot) (.slice a3 (nN C) c3); have hX2 := st_other (A := w1.heap.size) hX2 (by omega) (.int .i64 boot) (.slice a3 (nN C) c3); have hBc := st_other (A := w1.heap.size) hBc (by omega) (.int .i64 boot) (.slice a3 (nN C) c3); have hX1 := st_same hX1 (.int .i64 boot) (.slice a3 (nN C) c3); have hbc := st_below hbc (show w.heap.size ≤ w1.heap.size by omega) (.int .i64 boot) (.slice a3 (nN C) c3); obtain ⟨q0, q1⟩ := acc_cells hX2; have z2 : ∀ j, World.frozen? _ ⟨w2.heap.size, j, none⟩ = false := fun j => blk_free hX2; have hA4 := hA4.store hX2 (.int .i64 boot) (.slice a4 (nN C) c4); have hA3 := hA3.store hX2 (.int .i64 boot) (.slice a4 (nN C) c4); have hX1 := st_other (A := w2.heap.size) hX1 (by omega) (.int .i64 boot) (.slice a4 (nN C) c4); have hBc := st_other (A := w2.heap.size) hBc (by omega) (.int .i64 boot) (.slice a4 (nN C) c4); have hX2 := st_same hX2 (.int .i64 boot) (.slice a4 (nN C) c4); have hbc := st_below hbc (show w.heap.size ≤ w2.heap.size by omega) (.int .i64 boot) (.slice a4 (nN C) c4); obtain ⟨p0, p1⟩ := acc_cells hX1; obtain ⟨q0, q1⟩ := acc_cells hX2; have hbc := bnew hbc (Obj.cells #[Value.int .i64 boot, Value.slice a4 (nN C) c4] 30); have hBc := ka hBc (Obj.cells #[Value.int .i64 boot, Value.slice a4 (nN C) c4] 30); have hX1 := ka hX1 (Obj.cells #[Value.int .i64 boot, Value.slice a4 (nN C) c4] 30); have hX2 := ka hX2 (Obj.cells #[Value.int .i64 boot, Value.slice a4 (nN C) c4] 30); have hA3 := hA3.below (bnew (brefl _) (Obj.cells #[Value.int .i64 boot, Value.slice a4 (nN C) c4] 30)); have hA4 := hA4.below (bnew (brefl _) (Obj.cells #[Value.int .i64 boot, Value.slice a4 (nN C) c4] 30)))
              | (go_at_call 19; with_reducible refine (same_yes boot _ _ (nN C) _ _ (askG C boot (nN C) gs sl nd nc (t + ah)) _ hA3 hA4).mono ?_; rintro e wS ⟨rfl, hS⟩; have hbc := bnext hbc hS; have hBc := kb hBc hS; have hX1 := kb hX1 hS; have hX2 := kb hX2 hS; have hA3 := hA3.below hS; have hA4 := hA4.below hS))
            go_roundw
            case rel => exact ⟨k + 1, t + ah, boot, a3, c3, a4, c4, (askG C boot (nN C) gs sl nd nc (t + ah)), by omega, by go_num, rfl, by omega, by omega, hX1, hX2, hA3, hA4, hBc, hbc⟩
            case measure => simp [intOf]; omega
          · by_cases h2 : kd = 2
            · subst h2
              go_wp2_with (first
                | (with_reducible refine wpList_load_cfg rfl _ rfl w.heap.size rfl C hBc ?_)
                | (go_at_call 17; with_reducible refine (gfree_any C boot _ (nN C) _ gs sl nd nc _ (HG.out.below hbc) hA1).mono ?_; rintro e w3 ⟨a3, c3, rfl, hA3, hb3⟩; have hbc := bnext hbc hb3; have hBc := kb hBc hb3; have hX1 := kb hX1 hb3; have hX2 := kb hX2 hb3; have hXK := kb hXK hb3; have hA2 := hA2.below hb3; obtain ⟨p0, p1⟩ := acc_cells hX1; obtain ⟨q0, q1⟩ := acc_cells hX2; have z1 : ∀ j, World.frozen? _ ⟨w1.heap.size, j, none⟩ = false := fun j => blk_free hX1; have hA3 := hA3.store hX1 (.int .i64 boot) (.slice a3 (nN C) c3); have hA2 := hA2.store hX1 (.int .i64 boot) (.slice a3 (nN C) c3); have hX2 := st_other (A := w1.heap.size) hX2 (by omega) (.int .i64 boot) (.slice a3 (nN C) c3); have hXK := st_other (A := w1.heap.size) hXK (by omega) (.int .i64 boot) (.slice a3 (nN C) c3); have hBc := st_other (A := w1.heap.size) hBc (by omega) (.int .i64 boot) (.slice a3 (nN C) c3); have hX1 := st_same hX1 (.int .i64 boot) (.slice a3 (nN C) c3); have hbc := st_below hbc (show w.heap.size ≤ w1.heap.size by omega) (.int .i64 boot) (.slice a3 (nN C) c3); obtain ⟨x0, x1, x2, x3, x4⟩ := call_cells (k := ⟨_, _, _, _, _⟩) hXK; obtain ⟨p0, p1⟩ := acc_cells hX1; obtain ⟨q0, q1⟩ := acc_cells hX2)
                | (go_at_call 18; with_reducible refine (rgfree_any C boot _ (nN C) _ gs sl nd nc _ (HG.out.below hbc) hA2).mono ?_; rintro e w4 ⟨a4, c4, rfl, hA4, hb4⟩; have hbc := bnext hbc hb4; have hBc := kb hBc hb4; have hX1 := kb hX1 hb4; have hX2 := kb hX2 hb4; have hXK := kb hXK hb4; have hA3 := hA3.below hb4; obtain ⟨p0, p1⟩ := acc_cells hX1; obtain ⟨q0, q1⟩ := acc_cells hX2; have z2 : ∀ j, World.frozen? _ ⟨w2.heap.size, j, none⟩ = false := fun j => blk_free hX2; have hA4 := hA4.store hX2 (.int .i64 boot) (.slice a4 (nN C) c4); have hA3 := hA3.store hX2 (.int .i64 boot) (.slice a4 (nN C) c4); have hX1 := st_other (A := w2.heap.size) hX1 (by omega) (.int .i64 boot) (.slice a4 (nN C) c4); have hXK := st_other (A := w2.heap.size) hXK (by omega) (.int .i64 boot) (.slice a4 (nN C) c4); have hBc := st_other (A := w2.heap.size) hBc (by omega) (.int .i64 boot) (.slice a4 (nN C) c4); have hX2 := st_same hX2 (.int .i64 boot) (.slice a4 (nN C) c4); have hbc := st_below hbc (show w.heap.size ≤ w2.heap.size by omega) (.int .i64 boot) (.slice a4 (nN C) c4); obtain ⟨x0, x1, x2, x3, x4⟩ := call_cells (k := ⟨_, _, _, _, _⟩) hXK; obtain ⟨p0, p1⟩ := acc_cells hX1; obtain ⟨q0, q1⟩ := acc_cells hX2)
                | (go_at_call 19; with_reducible refine (same_yes boot _ _ (nN C) _ _ (freeG C (nN C) gs sl nd nc) _ hA3 hA4).mono ?_; rintro e wS ⟨rfl, hS⟩; have hbc := bnext hbc hS; have hBc := kb hBc hS; have hX1 := kb hX1 hS; have hX2 := kb hX2 hS; have hA3 := hA3.below hS; have hA4 := hA4.below hS))
              go_roundw
              case rel => exact ⟨k + 1, t + ah, boot, a3, c3, a4, c4, (freeG C (nN C) gs sl nd nc), by omega, by go_num, rfl, by omega, by omega, hX1, hX2, hA3, hA4, hBc, hbc⟩
              case measure => simp [intOf]; omega
            · by_cases h3 : kd = 3
              · subst h3
                go_wp2_with (first
                  | (with_reducible refine wpList_load_cfg rfl _ rfl w.heap.size rfl C hBc ?_)
                  | (go_at_call 13; with_reducible refine (new_any C (t + ah) _ (HG.out.below hbc)).mono ?_; rintro e w3 ⟨a3, c3, rfl, hA3, hb3⟩; have hbc := bnext hbc hb3; have hBc := kb hBc hb3; have hX1 := kb hX1 hb3; have hX2 := kb hX2 hb3; have hXK := kb hXK hb3; have hA2 := hA2.below hb3; obtain ⟨p0, p1⟩ := acc_cells hX1; obtain ⟨q0, q1⟩ := acc_cells hX2; have z1 : ∀ j, World.frozen? _ ⟨w1.heap.size, j, none⟩ = false := fun j => blk_free hX1; have hA3 := hA3.store hX1 (.int .i64 (bN C (t + ah))) (.slice a3 (nN C) c3); have hA2 := hA2.store hX1 (.int .i64 (bN C (t + ah))) (.slice a3 (nN C) c3); have hX2 := st_other (A := w1.heap.size) hX2 (by omega) (.int .i64 (bN C (t + ah))) (.slice a3 (nN C) c3); have hXK := st_other (A := w1.heap.size) hXK (by omega) (.int .i64 (bN C (t + ah))) (.slice a3 (nN C) c3); have hBc := st_other (A := w1.heap.size) hBc (by omega) (.int .i64 (bN C (t + ah))) (.slice a3 (nN C) c3); have hX1 := st_same hX1 (.int .i64 (bN C (t + ah))) (.slice a3 (nN C) c3); have hbc := st_below hbc (show w.heap.size ≤ w1.heap.size by omega) (.int .i64 (bN C (t + ah))) (.slice a3 (nN C) c3); obtain ⟨x0, x1, x2, x3, x4⟩ := call_cells (k := ⟨_, _, _, _, _⟩) hXK; obtain ⟨p0, p1⟩ := acc_cells hX1; obtain ⟨q0, q1⟩ := acc_cells hX2)
                  | (go_at_call 14; with_reducible refine (rnew_any C (t + ah) _ (HG.out.below hbc)).mono ?_; rintro e w4 ⟨a4, c4, rfl, hA4, hb4⟩; have hbc := bnext hbc hb4; have hBc := kb hBc hb4; have hX1 := kb hX1 hb4; have hX2 := kb hX2 hb4; have hXK := kb hXK hb4; have hA3 := hA3.below hb4; obtain ⟨p0, p1⟩ := acc_cells hX1; obtain ⟨q0, q1⟩ := acc_cells hX2; have z2 : ∀ j, World.frozen? _ ⟨w2.heap.size, j, none⟩ = false := fun j => blk_free hX2; have hA4 := hA4.store hX2 (.int .i64 (bN C (t + ah))) (.slice a4 (nN C) c4); have hA3 := hA3.store hX2 (.int .i64 (bN C (t + ah))) (.slice a4 (nN C) c4); have hX1 := st_other (A := w2.heap.size) hX1 (by omega) (.int .i64 (bN C (t + ah))) (.slice a4 (nN C) c4); have hXK := st_other (A := w2.heap.size) hXK (by omega) (.int .i64 (bN C (t + ah))) (.slice a4 (nN C) c4); have hBc := st_other (A := w2.heap.size) hBc (by omega) (.int .i64 (bN C (t + ah))) (.slice a4 (nN C) c4); have hX2 := st_same hX2 (.int .i64 (bN C (t + ah))) (.slice a4 (nN C) c4); have hbc := st_below hbc (show w.heap.size ≤ w2.heap.size by omega) (.int .i64 (bN C (t + ah))) (.slice a4 (nN C) c4); obtain ⟨x0, x1, x2, x3, x4⟩ := call_cells (k := ⟨_, _, _, _, _⟩) hXK; obtain ⟨p0, p1⟩ := acc_cells hX1; obtain ⟨q0, q1⟩ := acc_cells hX2)
                  | (go_at_call 19; with_reducible refine (same_yes (bN C (t + ah)) _ _ (nN C) _ _ (gN C) _ hA3 hA4).mono ?_; rintro e wS ⟨rfl, hS⟩; have hbc := bnext hbc hS; have hBc := kb hBc hS; have hX1 := kb hX1 hS; have hX2 := kb hX2 hS; have hA3 := hA3.below hS; have hA4 := hA4.below hS))
                go_roundw
                case rel => exact ⟨k + 1, t + ah, (bN C (t + ah)), a3, c3, a4, c4, (gN C), by omega, by go_num, rfl, by omega, by omega, hX1, hX2, hA3, hA4, hBc, hbc⟩
                case measure => simp [intOf]; omega
              · go_wp2_with (first
                  | (with_reducible refine wpList_load_cfg rfl _ rfl w.heap.size rfl C hBc ?_)
                  | (go_at_call 19; with_reducible refine (same_yes boot _ _ (nN C) _ _ gs _ hA1 hA2).mono ?_; rintro e wS ⟨rfl, hS⟩; have hbc := bnext hbc hS; have hBc := kb hBc hS; have hX1 := kb hX1 hS; have hX2 := kb hX2 hS; have hA1 := hA1.below hS; have hA2 := hA2.below hS))
                go_roundw
                case rel => exact ⟨k + 1, t + ah, boot, a1, c1, a2, c2, gs, by omega, by go_num, rfl, by omega, by omega, hX1, hX2, hA1, hA2, hBc, hbc⟩
                case measure => simp [intOf]; omega
        · by_cases ha0 : 0 < ah
          · have ha1 : ¬ ah < 1099511627776 := fun h => ha ⟨ha0, h⟩
            by_cases h1 : kd = 1
            · subst h1
              go_wp2_with (first
                | (with_reducible refine wpList_load_cfg rfl _ rfl w.heap.size rfl C hBc ?_)
                | (go_at_call 15; with_reducible refine (ask_any C boot _ (nN C) _ gs sl nd nc (t) _ (HG.out.below hbc) hA1 wn wc (by unfold inI; omega)).mono ?_; rintro e w3 ⟨a3, c3, rfl, hA3, hb3⟩; have hbc := bnew (bnext hbc hb3) (Obj.cells #[Value.int .i64 boot, Value.slice a3 (nN C) c3] 30); have hBc := ka (kb hBc hb3) (Obj.cells #[Value.int .i64 boot, Value.slice a3 (nN C) c3] 30); have hl31 := lt_of_block (kb hX1 hb3); have hX1 := ka (kb hX1 hb3) (Obj.cells #[Value.int .i64 boot, Value.slice a3 (nN C) c3] 30); have hl32 := lt_of_block (kb hX2 hb3); have hX2 := ka (kb hX2 hb3) (Obj.cells #[Value.int .i64 boot, Value.slice a3 (nN C) c3] 30); have hl3K := lt_of_block (kb hXK hb3); have hXK := ka (kb hXK hb3) (Obj.cells #[Value.int .i64 boot, Value.slice a3 (nN C) c3] 30); have hA2 := (hA2.below hb3).below (bnew (brefl w3) (Obj.cells #[Value.int .i64 boot, Value.slice a3 (nN C) c3] 30)); have hX3 := heap_alloc_new w3 (Obj.cells #[Value.int .i64 boot, Value.slice a3 (nN C) c3] 30); have hA3 := hA3.below (bnew (brefl w3) (Obj.cells #[Value.int .i64 boot, Value.slice a3 (nN C) c3] 30)); obtain ⟨x0, x1, x2, x3, x4⟩ := call_cells (k := ⟨_, _, _, _, _⟩) hXK; obtain ⟨p0, p1⟩ := acc_cells hX1; obtain ⟨q0, q1⟩ := acc_cells hX2)
                | (go_at_call 16; with_reducible refine (rask_any C boot _ (nN C) _ gs sl nd nc (t) _ (HG.out.below hbc) hA2 wn wc (by unfold inI; omega)).mono ?_; rintro e w4 ⟨a4, c4, rfl, hA4, hb4⟩; have hbc := bnext hbc hb4; have hBc := kb hBc hb4; have hl41 := lt_of_block (kb hX1 hb4); have hX1 := kb hX1 hb4; have hl42 := lt_of_block (kb hX2 hb4); have hX2 := kb hX2 hb4; have hl4K := lt_of_block (kb hXK hb4); have hXK := kb hXK hb4; have hl43 := lt_of_block (kb hX3 hb4); have hX3 := kb hX3 hb4; have hA3 := hA3.below hb4; obtain ⟨x0, x1, x2, x3, x4⟩ := call_cells (k := ⟨_, _, _, _, _⟩) hXK; obtain ⟨p0, p1⟩ := acc_cells hX1; obtain ⟨q0, q1⟩ := acc_cells hX2; obtain ⟨r0, r1⟩ := acc_cells hX3; have z1 : ∀ j, World.frozen? _ ⟨w1.heap.size, j, none⟩ = false := fun j => blk_free hX1; have hA3 := hA3.store hX1 (.int .i64 boot) (.slice a3 (nN C) c3); have hA4 := hA4.store hX1 (.int .i64 boot) (.slice a3 (nN C) c3); have hX2 := st_other (A := w1.heap.size) hX2 (by omega) (.int .i64 boot) (.slice a3 (nN C) c3); have hBc := st_other (A := w1.heap.size) hBc (by omega) (.int .i64 boot) (.slice a3 (nN C) c3); have hX1 := st_same hX1 (.int .i64 boot) (.slice a3 (nN C) c3); have hbc := st_below hbc (show w.heap.size ≤ w1.heap.size by omega) (.int .i64 boot) (.slice a3 (nN C) c3); obtain ⟨q0, q1⟩ := acc_cells hX2; have z2 : ∀ j, World.frozen? _ ⟨w2.heap.size, j, none⟩ = false := fun j => blk_free hX2; have hA4 := hA4.store hX2 (.int .i64 boot) (.slice a4 (nN C) c4); have hA3 := hA3.store hX2 (.int .i64 boot) (.slice a4 (nN C) c4); have hX1 := st_other (A := w2.heap.size) hX1 (by omega) (.int .i64 boot) (.slice a4 (nN C) c4); have hBc := st_other (A := w2.heap.size) hBc (by omega) (.int .i64 boot) (.slice a4 (nN C) c4); have hX2 := st_same hX2 (.int .i64 boot) (.slice a4 (nN C) c4); have hbc := st_below hbc (show w.heap.size ≤ w2.heap.size by omega) (.int .i64 boot) (.slice a4 (nN C) c4); obtain ⟨p0, p1⟩ := acc_cells hX1; obtain ⟨q0, q1⟩ := acc_cells hX2; have hbc := bnew hbc (Obj.cells #[Value.int .i64 boot, Value.slice a4 (nN C) c4] 30); have hBc := ka hBc (Obj.cells #[Value.int .i64 boot, Value.slice a4 (nN C) c4] 30); have hX1 := ka hX1 (Obj.cells #[Value.int .i64 boot, Value.slice a4 (nN C) c4] 30); have hX2 := ka hX2 (Obj.cells #[Value.int .i64 boot, Value.slice a4 (nN C) c4] 30); have hA3 := hA3.below (bnew (brefl _) (Obj.cells #[Value.int .i64 boot, Value.slice a4 (nN C) c4] 30)); have hA4 := hA4.below (bnew (brefl _) (Obj.cells #[Value.int .i64 boot, Value.slice a4 (nN C) c4] 30)))
                | (go_at_call 19; with_reducible refine (same_yes boot _ _ (nN C) _ _ (askG C boot (nN C) gs sl nd nc (t)) _ hA3 hA4).mono ?_; rintro e wS ⟨rfl, hS⟩; have hbc := bnext hbc hS; have hBc := kb hBc hS; have hX1 := kb hX1 hS; have hX2 := kb hX2 hS; have hA3 := hA3.below hS; have hA4 := hA4.below hS))
              go_roundw
              case rel => exact ⟨k + 1, t, boot, a3, c3, a4, c4, (askG C boot (nN C) gs sl nd nc (t)), by omega, by go_num, rfl, by omega, by omega, hX1, hX2, hA3, hA4, hBc, hbc⟩
              case measure => simp [intOf]; omega
            · by_cases h2 : kd = 2
              · subst h2
                go_wp2_with (first
                  | (with_reducible refine wpList_load_cfg rfl _ rfl w.heap.size rfl C hBc ?_)
                  | (go_at_call 17; with_reducible refine (gfree_any C boot _ (nN C) _ gs sl nd nc _ (HG.out.below hbc) hA1).mono ?_; rintro e w3 ⟨a3, c3, rfl, hA3, hb3⟩; have hbc := bnext hbc hb3; have hBc := kb hBc hb3; have hX1 := kb hX1 hb3; have hX2 := kb hX2 hb3; have hXK := kb hXK hb3; have hA2 := hA2.below hb3; obtain ⟨p0, p1⟩ := acc_cells hX1; obtain ⟨q0, q1⟩ := acc_cells hX2; have z1 : ∀ j, World.frozen? _ ⟨w1.heap.size, j, none⟩ = false := fun j => blk_free hX1; have hA3 := hA3.store hX1 (.int .i64 boot) (.slice a3 (nN C) c3); have hA2 := hA2.store hX1 (.int .i64 boot) (.slice a3 (nN C) c3); have hX2 := st_other (A := w1.heap.size) hX2 (by omega) (.int .i64 boot) (.slice a3 (nN C) c3); have hXK := st_other (A := w1.heap.size) hXK (by omega) (.int .i64 boot) (.slice a3 (nN C) c3); have hBc := st_other (A := w1.heap.size) hBc (by omega) (.int .i64 boot) (.slice a3 (nN C) c3); have hX1 := st_same hX1 (.int .i64 boot) (.slice a3 (nN C) c3); have hbc := st_below hbc (show w.heap.size ≤ w1.heap.size by omega) (.int .i64 boot) (.slice a3 (nN C) c3); obtain ⟨x0, x1, x2, x3, x4⟩ := call_cells (k := ⟨_, _, _, _, _⟩) hXK; obtain ⟨p0, p1⟩ := acc_cells hX1; obtain ⟨q0, q1⟩ := acc_cells hX2)
                  | (go_at_call 18; with_reducible refine (rgfree_any C boot _ (nN C) _ gs sl nd nc _ (HG.out.below hbc) hA2).mono ?_; rintro e w4 ⟨a4, c4, rfl, hA4, hb4⟩; have hbc := bnext hbc hb4; have hBc := kb hBc hb4; have hX1 := kb hX1 hb4; have hX2 := kb hX2 hb4; have hXK := kb hXK hb4; have hA3 := hA3.below hb4; obtain ⟨p0, p1⟩ := acc_cells hX1; obtain ⟨q0, q1⟩ := acc_cells hX2; have z2 : ∀ j, World.frozen? _ ⟨w2.heap.size, j, none⟩ = false := fun j => blk_free hX2; have hA4 := hA4.store hX2 (.int .i64 boot) (.slice a4 (nN C) c4); have hA3 := hA3.store hX2 (.int .i64 boot) (.slice a4 (nN C) c4); have hX1 := st_other (A := w2.heap.size) hX1 (by omega) (.int .i64 boot) (.slice a4 (nN C) c4); have hXK := st_other (A := w2.heap.size) hXK (by omega) (.int .i64 boot) (.slice a4 (nN C) c4); have hBc := st_other (A := w2.heap.size) hBc (by omega) (.int .i64 boot) (.slice a4 (nN C) c4); have hX2 := st_same hX2 (.int .i64 boot) (.slice a4 (nN C) c4); have hbc := st_below hbc (show w.heap.size ≤ w2.heap.size by omega) (.int .i64 boot) (.slice a4 (nN C) c4); obtain ⟨x0, x1, x2, x3, x4⟩ := call_cells (k := ⟨_, _, _, _, _⟩) hXK; obtain ⟨p0, p1⟩ := acc_cells hX1; obtain ⟨q0, q1⟩ := acc_cells hX2)
                  | (go_at_call 19; with_reducible refine (same_yes boot _ _ (nN C) _ _ (freeG C (nN C) gs sl nd nc) _ hA3 hA4).mono ?_; rintro e wS ⟨rfl, hS⟩; have hbc := bnext hbc hS; have hBc := kb hBc hS; have hX1 := kb hX1 hS; have hX2 := kb hX2 hS; have hA3 := hA3.below hS; have hA4 := hA4.below hS))
                go_roundw
                case rel => exact ⟨k + 1, t, boot, a3, c3, a4, c4, (freeG C (nN C) gs sl nd nc), by omega, by go_num, rfl, by omega, by omega, hX1, hX2, hA3, hA4, hBc, hbc⟩
                case measure => simp [intOf]; omega
              · by_cases h3 : kd = 3
                · subst h3
                  go_wp2_with (first
                    | (with_reducible refine wpList_load_cfg rfl _ rfl w.heap.size rfl C hBc ?_)
                    | (go_at_call 13; with_reducible refine (new_any C (t) _ (HG.out.below hbc)).mono ?_; rintro e w3 ⟨a3, c3, rfl, hA3, hb3⟩; have hbc := bnext hbc hb3; have hBc := kb hBc hb3; have hX1 := kb hX1 hb3; have hX2 := kb hX2 hb3; have hXK := kb hXK hb3; have hA2 := hA2.below hb3; obtain ⟨p0, p1⟩ := acc_cells hX1; obtain ⟨q0, q1⟩ := acc_cells hX2; have z1 : ∀ j, World.frozen? _ ⟨w1.heap.size, j, none⟩ = false := fun j => blk_free hX1; have hA3 := hA3.store hX1 (.int .i64 (bN C (t))) (.slice a3 (nN C) c3); have hA2 := hA2.store hX1 (.int .i64 (bN C (t))) (.slice a3 (nN C) c3); have hX2 := st_other (A := w1.heap.size) hX2 (by omega) (.int .i64 (bN C (t))) (.slice a3 (nN C) c3); have hXK := st_other (A := w1.heap.size) hXK (by omega) (.int .i64 (bN C (t))) (.slice a3 (nN C) c3); have hBc := st_other (A := w1.heap.size) hBc (by omega) (.int .i64 (bN C (t))) (.slice a3 (nN C) c3); have hX1 := st_same hX1 (.int .i64 (bN C (t))) (.slice a3 (nN C) c3); have hbc := st_below hbc (show w.heap.size ≤ w1.heap.size by omega) (.int .i64 (bN C (t))) (.slice a3 (nN C) c3); obtain ⟨x0, x1, x2, x3, x4⟩ := call_cells (k := ⟨_, _, _, _, _⟩) hXK; obtain ⟨p0, p1⟩ := acc_cells hX1; obtain ⟨q0, q1⟩ := acc_cells hX2)
                    | (go_at_call 14; with_reducible refine (rnew_any C (t) _ (HG.out.below hbc)).mono ?_; rintro e w4 ⟨a4, c4, rfl, hA4, hb4⟩; have hbc := bnext hbc hb4; have hBc := kb hBc hb4; have hX1 := kb hX1 hb4; have hX2 := kb hX2 hb4; have hXK := kb hXK hb4; have hA3 := hA3.below hb4; obtain ⟨p0, p1⟩ := acc_cells hX1; obtain ⟨q0, q1⟩ := acc_cells hX2; have z2 : ∀ j, World.frozen? _ ⟨w2.heap.size, j, none⟩ = false := fun j => blk_free hX2; have hA4 := hA4.store hX2 (.int .i64 (bN C (t))) (.slice a4 (nN C) c4); have hA3 := hA3.store hX2 (.int .i64 (bN C (t))) (.slice a4 (nN C) c4); have hX1 := st_other (A := w2.heap.size) hX1 (by omega) (.int .i64 (bN C (t))) (.slice a4 (nN C) c4); have hXK := st_other (A := w2.heap.size) hXK (by omega) (.int .i64 (bN C (t))) (.slice a4 (nN C) c4); have hBc := st_other (A := w2.heap.size) hBc (by omega) (.int .i64 (bN C (t))) (.slice a4 (nN C) c4); have hX2 := st_same hX2 (.int .i64 (bN C (t))) (.slice a4 (nN C) c4); have hbc := st_below hbc (show w.heap.size ≤ w2.heap.size by omega) (.int .i64 (bN C (t))) (.slice a4 (nN C) c4); obtain ⟨x0, x1, x2, x3, x4⟩ := call_cells (k := ⟨_, _, _, _, _⟩) hXK; obtain ⟨p0, p1⟩ := acc_cells hX1; obtain ⟨q0, q1⟩ := acc_cells hX2)
                    | (go_at_call 19; with_reducible refine (same_yes (bN C (t)) _ _ (nN C) _ _ (gN C) _ hA3 hA4).mono ?_; rintro e wS ⟨rfl, hS⟩; have hbc := bnext hbc hS; have hBc := kb hBc hS; have hX1 := kb hX1 hS; have hX2 := kb hX2 hS; have hA3 := hA3.below hS; have hA4 := hA4.below hS))
                  go_roundw
                  case rel => exact ⟨k + 1, t, (bN C (t)), a3, c3, a4, c4, (gN C), by omega, by go_num, rfl, by omega, by omega, hX1, hX2, hA3, hA4, hBc, hbc⟩
                  case measure => simp [intOf]; omega
                · go_wp2_with (first
                    | (with_reducible refine wpList_load_cfg rfl _ rfl w.heap.size rfl C hBc ?_)
                    | (go_at_call 19; with_reducible refine (same_yes boot _ _ (nN C) _ _ gs _ hA1 hA2).mono ?_; rintro e wS ⟨rfl, hS⟩; have hbc := bnext hbc hS; have hBc := kb hBc hS; have hX1 := kb hX1 hS; have hX2 := kb hX2 hS; have hA1 := hA1.below hS; have hA2 := hA2.below hS))
                  go_roundw
                  case rel => exact ⟨k + 1, t, boot, a1, c1, a2, c2, gs, by omega, by go_num, rfl, by omega, by omega, hX1, hX2, hA1, hA2, hBc, hbc⟩
                  case measure => simp [intOf]; omega
          ·
            by_cases h1 : kd = 1
            · subst h1
              go_wp2_with (first
                | (with_reducible refine wpList_load_cfg rfl _ rfl w.heap.size rfl C hBc ?_)
                | (go_at_call 15; with_reducible refine (ask_any C boot _ (nN C) _ gs sl nd nc (t) _ (HG.out.below hbc) hA1 wn wc (by unfold inI; omega)).mono ?_; rintro e w3 ⟨a3, c3, rfl, hA3, hb3⟩; have hbc := bnew (bnext hbc hb3) (Obj.cells #[Value.int .i64 boot, Value.slice a3 (nN C) c3] 30); have hBc := ka (kb hBc hb3) (Obj.cells #[Value.int .i64 boot, Value.slice a3 (nN C) c3] 30); have hl31 := lt_of_block (kb hX1 hb3); have hX1 := ka (kb hX1 hb3) (Obj.cells #[Value.int .i64 boot, Value.slice a3 (nN C) c3] 30); have hl32 := lt_of_block (kb hX2 hb3); have hX2 := ka (kb hX2 hb3) (Obj.cells #[Value.int .i64 boot, Value.slice a3 (nN C) c3] 30); have hl3K := lt_of_block (kb hXK hb3); have hXK := ka (kb hXK hb3) (Obj.cells #[Value.int .i64 boot, Value.slice a3 (nN C) c3] 30); have hA2 := (hA2.below hb3).below (bnew (brefl w3) (Obj.cells #[Value.int .i64 boot, Value.slice a3 (nN C) c3] 30)); have hX3 := heap_alloc_new w3 (Obj.cells #[Value.int .i64 boot, Value.slice a3 (nN C) c3] 30); have hA3 := hA3.below (bnew (brefl w3) (Obj.cells #[Value.int .i64 boot, Value.slice a3 (nN C) c3] 30)); obtain ⟨x0, x1, x2, x3, x4⟩ := call_cells (k := ⟨_, _, _, _, _⟩) hXK; obtain ⟨p0, p1⟩ := acc_cells hX1; obtain ⟨q0, q1⟩ := acc_cells hX2)
                | (go_at_call 16; with_reducible refine (rask_any C boot _ (nN C) _ gs sl nd nc (t) _ (HG.out.below hbc) hA2 wn wc (by unfold inI; omega)).mono ?_; rintro e w4 ⟨a4, c4, rfl, hA4, hb4⟩; have hbc := bnext hbc hb4; have hBc := kb hBc hb4; have hl41 := lt_of_block (kb hX1 hb4); have hX1 := kb hX1 hb4; have hl42 := lt_of_block (kb hX2 hb4); have hX2 := kb hX2 hb4; have hl4K := lt_of_block (kb hXK hb4); have hXK := kb hXK hb4; have hl43 := lt_of_block (kb hX3 hb4); have hX3 := kb hX3 hb4; have hA3 := hA3.below hb4; obtain ⟨x0, x1, x2, x3, x4⟩ := call_cells (k := ⟨_, _, _, _, _⟩) hXK; obtain ⟨p0, p1⟩ := acc_cells hX1; obtain ⟨q0, q1⟩ := acc_cells hX2; obtain ⟨r0, r1⟩ := acc_cells hX3; have z1 : ∀ j, World.frozen? _ ⟨w1.heap.size, j, none⟩ = false := fun j => blk_free hX1; have hA3 := hA3.store hX1 (.int .i64 boot) (.slice a3 (nN C) c3); have hA4 := hA4.store hX1 (.int .i64 boot) (.slice a3 (nN C) c3); have hX2 := st_other (A := w1.heap.size) hX2 (by omega) (.int .i64 boot) (.slice a3 (nN C) c3); have hBc := st_other (A := w1.heap.size) hBc (by omega) (.int .i64 boot) (.slice a3 (nN C) c3); have hX1 := st_same hX1 (.int .i64 boot) (.slice a3 (nN C) c3); have hbc := st_below hbc (show w.heap.size ≤ w1.heap.size by omega) (.int .i64 boot) (.slice a3 (nN C) c3); obtain ⟨q0, q1⟩ := acc_cells hX2; have z2 : ∀ j, World.frozen? _ ⟨w2.heap.size, j, none⟩ = false := fun j => blk_free hX2; have hA4 := hA4.store hX2 (.int .i64 boot) (.slice a4 (nN C) c4); have hA3 := hA3.store hX2 (.int .i64 boot) (.slice a4 (nN C) c4); have hX1 := st_other (A := w2.heap.size) hX1 (by omega) (.int .i64 boot) (.slice a4 (nN C) c4); have hBc := st_other (A := w2.heap.size) hBc (by omega) (.int .i64 boot) (.slice a4 (nN C) c4); have hX2 := st_same hX2 (.int .i64 boot) (.slice a4 (nN C) c4); have hbc := st_below hbc (show w.heap.size ≤ w2.heap.size by omega) (.int .i64 boot) (.slice a4 (nN C) c4); obtain ⟨p0, p1⟩ := acc_cells hX1; obtain ⟨q0, q1⟩ := acc_cells hX2; have hbc := bnew hbc (Obj.cells #[Value.int .i64 boot, Value.slice a4 (nN C) c4] 30); have hBc := ka hBc (Obj.cells #[Value.int .i64 boot, Value.slice a4 (nN C) c4] 30); have hX1 := ka hX1 (Obj.cells #[Value.int .i64 boot, Value.slice a4 (nN C) c4] 30); have hX2 := ka hX2 (Obj.cells #[Value.int .i64 boot, Value.slice a4 (nN C) c4] 30); have hA3 := hA3.below (bnew (brefl _) (Obj.cells #[Value.int .i64 boot, Value.slice a4 (nN C) c4] 30)); have hA4 := hA4.below (bnew (brefl _) (Obj.cells #[Value.int .i64 boot, Value.slice a4 (nN C) c4] 30)))
                | (go_at_call 19; with_reducible refine (same_yes boot _ _ (nN C) _ _ (askG C boot (nN C) gs sl nd nc (t)) _ hA3 hA4).mono ?_; rintro e wS ⟨rfl, hS⟩; have hbc := bnext hbc hS; have hBc := kb hBc hS; have hX1 := kb hX1 hS; have hX2 := kb hX2 hS; have hA3 := hA3.below hS; have hA4 := hA4.below hS))
              go_roundw
              case rel => exact ⟨k + 1, t, boot, a3, c3, a4, c4, (askG C boot (nN C) gs sl nd nc (t)), by omega, by go_num, rfl, by omega, by omega, hX1, hX2, hA3, hA4, hBc, hbc⟩
              case measure => simp [intOf]; omega
            · by_cases h2 : kd = 2
              · subst h2
                go_wp2_with (first
                  | (with_reducible refine wpList_load_cfg rfl _ rfl w.heap.size rfl C hBc ?_)
                  | (go_at_call 17; with_reducible refine (gfree_any C boot _ (nN C) _ gs sl nd nc _ (HG.out.below hbc) hA1).mono ?_; rintro e w3 ⟨a3, c3, rfl, hA3, hb3⟩; have hbc := bnext hbc hb3; have hBc := kb hBc hb3; have hX1 := kb hX1 hb3; have hX2 := kb hX2 hb3; have hXK := kb hXK hb3; have hA2 := hA2.below hb3; obtain ⟨p0, p1⟩ := acc_cells hX1; obtain ⟨q0, q1⟩ := acc_cells hX2; have z1 : ∀ j, World.frozen? _ ⟨w1.heap.size, j, none⟩ = false := fun j => blk_free hX1; have hA3 := hA3.store hX1 (.int .i64 boot) (.slice a3 (nN C) c3); have hA2 := hA2.store hX1 (.int .i64 boot) (.slice a3 (nN C) c3); have hX2 := st_other (A := w1.heap.size) hX2 (by omega) (.int .i64 boot) (.slice a3 (nN C) c3); have hXK := st_other (A := w1.heap.size) hXK (by omega) (.int .i64 boot) (.slice a3 (nN C) c3); have hBc := st_other (A := w1.heap.size) hBc (by omega) (.int .i64 boot) (.slice a3 (nN C) c3); have hX1 := st_same hX1 (.int .i64 boot) (.slice a3 (nN C) c3); have hbc := st_below hbc (show w.heap.size ≤ w1.heap.size by omega) (.int .i64 boot) (.slice a3 (nN C) c3); obtain ⟨x0, x1, x2, x3, x4⟩ := call_cells (k := ⟨_, _, _, _, _⟩) hXK; obtain ⟨p0, p1⟩ := acc_cells hX1; obtain ⟨q0, q1⟩ := acc_cells hX2)
                  | (go_at_call 18; with_reducible refine (rgfree_any C boot _ (nN C) _ gs sl nd nc _ (HG.out.below hbc) hA2).mono ?_; rintro e w4 ⟨a4, c4, rfl, hA4, hb4⟩; have hbc := bnext hbc hb4; have hBc := kb hBc hb4; have hX1 := kb hX1 hb4; have hX2 := kb hX2 hb4; have hXK := kb hXK hb4; have hA3 := hA3.below hb4; obtain ⟨p0, p1⟩ := acc_cells hX1; obtain ⟨q0, q1⟩ := acc_cells hX2; have z2 : ∀ j, World.frozen? _ ⟨w2.heap.size, j, none⟩ = false := fun j => blk_free hX2; have hA4 := hA4.store hX2 (.int .i64 boot) (.slice a4 (nN C) c4); have hA3 := hA3.store hX2 (.int .i64 boot) (.slice a4 (nN C) c4); have hX1 := st_other (A := w2.heap.size) hX1 (by omega) (.int .i64 boot) (.slice a4 (nN C) c4); have hXK := st_other (A := w2.heap.size) hXK (by omega) (.int .i64 boot) (.slice a4 (nN C) c4); have hBc := st_other (A := w2.heap.size) hBc (by omega) (.int .i64 boot) (.slice a4 (nN C) c4); have hX2 := st_same hX2 (.int .i64 boot) (.slice a4 (nN C) c4); have hbc := st_below hbc (show w.heap.size ≤ w2.heap.size by omega) (.int .i64 boot) (.slice a4 (nN C) c4); obtain ⟨x0, x1, x2, x3, x4⟩ := call_cells (k := ⟨_, _, _, _, _⟩) hXK; obtain ⟨p0, p1⟩ := acc_cells hX1; obtain ⟨q0, q1⟩ := acc_cells hX2)
                  | (go_at_call 19; with_reducible refine (same_yes boot _ _ (nN C) _ _ (freeG C (nN C) gs sl nd nc) _ hA3 hA4).mono ?_; rintro e wS ⟨rfl, hS⟩; have hbc := bnext hbc hS; have hBc := kb hBc hS; have hX1 := kb hX1 hS; have hX2 := kb hX2 hS; have hA3 := hA3.below hS; have hA4 := hA4.below hS))
                go_roundw
                case rel => exact ⟨k + 1, t, boot, a3, c3, a4, c4, (freeG C (nN C) gs sl nd nc), by omega, by go_num, rfl, by omega, by omega, hX1, hX2, hA3, hA4, hBc, hbc⟩
                case measure => simp [intOf]; omega
              · by_cases h3 : kd = 3
                · subst h3
                  go_wp2_with (first
                    | (with_reducible refine wpList_load_cfg rfl _ rfl w.heap.size rfl C hBc ?_)
                    | (go_at_call 13; with_reducible refine (new_any C (t) _ (HG.out.below hbc)).mono ?_; rintro e w3 ⟨a3, c3, rfl, hA3, hb3⟩; have hbc := bnext hbc hb3; have hBc := kb hBc hb3; have hX1 := kb hX1 hb3; have hX2 := kb hX2 hb3; have hXK := kb hXK hb3; have hA2 := hA2.below hb3; obtain ⟨p0, p1⟩ := acc_cells hX1; obtain ⟨q0, q1⟩ := acc_cells hX2; have z1 : ∀ j, World.frozen? _ ⟨w1.heap.size, j, none⟩ = false := fun j => blk_free hX1; have hA3 := hA3.store hX1 (.int .i64 (bN C (t))) (.slice a3 (nN C) c3); have hA2 := hA2.store hX1 (.int .i64 (bN C (t))) (.slice a3 (nN C) c3); have hX2 := st_other (A := w1.heap.size) hX2 (by omega) (.int .i64 (bN C (t))) (.slice a3 (nN C) c3); have hXK := st_other (A := w1.heap.size) hXK (by omega) (.int .i64 (bN C (t))) (.slice a3 (nN C) c3); have hBc := st_other (A := w1.heap.size) hBc (by omega) (.int .i64 (bN C (t))) (.slice a3 (nN C) c3); have hX1 := st_same hX1 (.int .i64 (bN C (t))) (.slice a3 (nN C) c3); have hbc := st_below hbc (show w.heap.size ≤ w1.heap.size by omega) (.int .i64 (bN C (t))) (.slice a3 (nN C) c3); obtain ⟨x0, x1, x2, x3, x4⟩ := call_cells (k := ⟨_, _, _, _, _⟩) hXK; obtain ⟨p0, p1⟩ := acc_cells hX1; obtain ⟨q0, q1⟩ := acc_cells hX2)
                    | (go_at_call 14; with_reducible refine (rnew_any C (t) _ (HG.out.below hbc)).mono ?_; rintro e w4 ⟨a4, c4, rfl, hA4, hb4⟩; have hbc := bnext hbc hb4; have hBc := kb hBc hb4; have hX1 := kb hX1 hb4; have hX2 := kb hX2 hb4; have hXK := kb hXK hb4; have hA3 := hA3.below hb4; obtain ⟨p0, p1⟩ := acc_cells hX1; obtain ⟨q0, q1⟩ := acc_cells hX2; have z2 : ∀ j, World.frozen? _ ⟨w2.heap.size, j, none⟩ = false := fun j => blk_free hX2; have hA4 := hA4.store hX2 (.int .i64 (bN C (t))) (.slice a4 (nN C) c4); have hA3 := hA3.store hX2 (.int .i64 (bN C (t))) (.slice a4 (nN C) c4); have hX1 := st_other (A := w2.heap.size) hX1 (by omega) (.int .i64 (bN C (t))) (.slice a4 (nN C) c4); have hXK := st_other (A := w2.heap.size) hXK (by omega) (.int .i64 (bN C (t))) (.slice a4 (nN C) c4); have hBc := st_other (A := w2.heap.size) hBc (by omega) (.int .i64 (bN C (t))) (.slice a4 (nN C) c4); have hX2 := st_same hX2 (.int .i64 (bN C (t))) (.slice a4 (nN C) c4); have hbc := st_below hbc (show w.heap.size ≤ w2.heap.size by omega) (.int .i64 (bN C (t))) (.slice a4 (nN C) c4); obtain ⟨x0, x1, x2, x3, x4⟩ := call_cells (k := ⟨_, _, _, _, _⟩) hXK; obtain ⟨p0, p1⟩ := acc_cells hX1; obtain ⟨q0, q1⟩ := acc_cells hX2)
                    | (go_at_call 19; with_reducible refine (same_yes (bN C (t)) _ _ (nN C) _ _ (gN C) _ hA3 hA4).mono ?_; rintro e wS ⟨rfl, hS⟩; have hbc := bnext hbc hS; have hBc := kb hBc hS; have hX1 := kb hX1 hS; have hX2 := kb hX2 hS; have hA3 := hA3.below hS; have hA4 := hA4.below hS))
                  go_roundw
                  case rel => exact ⟨k + 1, t, (bN C (t)), a3, c3, a4, c4, (gN C), by omega, by go_num, rfl, by omega, by omega, hX1, hX2, hA3, hA4, hBc, hbc⟩
                  case measure => simp [intOf]; omega
                · go_wp2_with (first
                    | (with_reducible refine wpList_load_cfg rfl _ rfl w.heap.size rfl C hBc ?_)
                    | (go_at_call 19; with_reducible refine (same_yes boot _ _ (nN C) _ _ gs _ hA1 hA2).mono ?_; rintro e wS ⟨rfl, hS⟩; have hbc := bnext hbc hS; have hBc := kb hBc hS; have hX1 := kb hX1 hS; have hX2 := kb hX2 hS; have hA1 := hA1.below hS; have hA2 := hA2.below hS))
                  go_roundw
                  case rel => exact ⟨k + 1, t, boot, a1, c1, a2, c2, gs, by omega, by go_num, rfl, by omega, by omega, hX1, hX2, hA1, hA2, hBc, hbc⟩
                  case measure => simp [intOf]; omega
      · by_cases hks : k < sn
        · have hk60 : ¬ k < 60 := fun h => hin ⟨hks, h⟩
          go_wp2_with fail
          go_ret
          exact ⟨rfl, hbc⟩
        · go_wp2_with fail
          go_ret
          exact ⟨rfl, hbc⟩
  · have HF : Hid (fewB C = false) := by show _ = _; simpa using hf
    clear hf
    go_enter Try.func3, Try.ntmps3
    go_wp2_with (first
      | (with_reducible refine wpList_load_cfg rfl _ rfl w.heap.size rfl C hBc ?_)
      | (go_at_call 11; refine (gawake_true _).mono ?_; rintro e wX ⟨rfl, hX⟩; have hbc := bnext hbc hX; have hBc := (hX.block _ (lt_of_block hBc)).trans hBc)
      | (go_at_call 12; refine (few_any C _ (HG.out.below hbc)).mono ?_; rintro e wX ⟨rfl, hX⟩; have hbc := bnext hbc hX; have hBc := (hX.block _ (lt_of_block hBc)).trans hBc; rw [HF.out]))
    go_ret
    exact ⟨rfl, hbc⟩
end Go.Proofs.Ytmhggpmhekeemaa
