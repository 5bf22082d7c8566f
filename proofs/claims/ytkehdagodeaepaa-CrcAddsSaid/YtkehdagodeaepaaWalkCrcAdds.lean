/- The walk of CrcAdds: true, and nothing that was there has changed. -/
import Derived.Test.YtkehdagodeaepaaAdds
import Derived.Lib.MinMax
import Derived.Deep.RegionHeld3
namespace Go.Proofs.Ytkehdagodeaepaa
open Go.RowKit
set_option maxRecDepth 100000 in
set_option maxHeartbeats 1000000 in
theorem walk_CrcAdds (a0 : Option Addr) (len0 cap0 : Nat) (z0 : List Int) (a1 : Option Addr) (len1 cap1 : Nat) (z1 : List Int) (w : World) (w0 : Reads .u8 w a0 len0 cap0 z0) (w1 : Reads .u8 w a1 len1 cap1 z1) :
    Calls Try.prog 5 #[.slice a0 len0 cap0, .slice a1 len1 cap1] w fun e w' => e = .returned (.bool true) ∧ Below w.heap.size w w' := by
  have hs0 := w0.small'
  have hs1 := w1.small'
  obtain ⟨n, hn⟩ : ∃ n : Nat, (n : Int) = min (len0 : Int) (len1 : Int) := ⟨min len0 len1, by omega⟩
  have hmin : min (len0 : Int) (len1 : Int) = (n : Int) := hn.symm
  have hn0 : n ≤ len0 := by omega
  have hn1 : n ≤ len1 := by omega
  clear hn
  by_cases hb : n > 500
  · go_enter Try.func5, Try.ntmps5
    go_wp2_with (go_at_call 9; refine (awake_true _).mono ?_; rintro e wA ⟨rfl, hbA⟩)
    go_ret
    exact ⟨rfl, hbA⟩
  · have hb' : (n : Int) ≤ 500 := by omega
    have hmk := fun (W : World) => run_make_row' (P := Try.prog) 23 5 (.int .u8 0) 1 Try.underlying23 byte_info rfl .i64 .i64 n (by omega) (by omega) W
    go_enter Try.func5, Try.ntmps5
    go_wp2_with (go_at_call 9; refine (awake_true _).mono ?_; rintro e wA ⟨rfl, hbA⟩)
    have hlA : n ≤ z0.length := by have := w0.length; omega
    have hlB : n ≤ z1.length := by have := w1.length; omega
    have HA := Lib.hid (bytes_range w0.wf)
    have HB := Lib.hid (bytes_range w1.wf)
    generalize hg : wA.heap.size = g
    have hgw : w.heap.size ≤ g := by rw [← hg]; exact hbA.size
    have hstart : (wA.alloc (Obj.cells (madeCells #[Value.int IntKind.u8 0] n) 5)).heap[g]? = some (.cells (cellsOf .u8 (both n z0 z1 0)) 5 (0, 0)) := by
      rw [← hg, heap_alloc_new]
      have : madeCells #[Value.int IntKind.u8 0] n = cellsOf .u8 (both n z0 z1 0) := by
        apply Array.toList_inj.1
        rw [toList_madeCells_one]
        simp [cellsOf, both]
      rw [this]
    have HST := Lib.hid hstart
    have HG := Lib.hid hgw
    have R0 := w0.below (bnew hbA (Obj.cells (madeCells #[Value.int IntKind.u8 0] n) 5))
    have R1 := w1.below (bnew hbA (Obj.cells (madeCells #[Value.int IntKind.u8 0] n) 5))
    have hbB := bnew hbA (Obj.cells (madeCells #[Value.int IntKind.u8 0] n) 5)
    clear hmk hg hstart hgw
    generalize (wA.alloc (Obj.cells (madeCells #[Value.int IntKind.u8 0] n) 5)) = W at *
    go_loopw [8] (fun i wr => ∃ k : Nat, k ≤ n ∧ i = .int .i64 k ∧ wr.heap[g]? = some (.cells (cellsOf .u8 (both n z0 z1 k)) 5 (0, 0)) ∧ Below w.heap.size w wr) (fun i _ => n - (intOf i).toNat)
    case atStart => exact ⟨0, Nat.zero_le _, rfl, HST.out, hbB⟩
    case round =>
      obtain ⟨k, hk, rfl, hblk, hbel⟩ := hrel
      by_cases hlt : k < n
      · have S0 := w0.below hbel
        have S1 := w1.below hbel
        rcases S0.cells with h | ⟨b0, off0, rfl, hc0⟩
        · omega
        rcases S1.cells with h | ⟨b1, off1, rfl, hc1⟩
        · omega
        have c0 := hc0 k (by omega)
        have c1 := hc1 k (by omega)
        have hl0 : k < z0.length := by omega
        have hl1 : k < z1.length := by omega
        obtain ⟨x, hx⟩ : ∃ x, x = z0.getD k 0 := ⟨_, rfl⟩
        obtain ⟨y, hy⟩ : ∃ y, y = z1.getD k 0 := ⟨_, rfl⟩
        have hxr : 0 ≤ x ∧ x < 256 := by rw [hx, List.getD, List.getElem?_eq_getElem hl0]; exact HA.out _ (List.getElem_mem _)
        have hyr : 0 ≤ y ∧ y < 256 := by rw [hy, List.getD, List.getElem?_eq_getElem hl1]; exact HB.out _ (List.getElem_mem _)
        have hxor : bits .xor .u8 x y = xI x y := xI_bits hxr hyr
        have cg := blk_cell hblk (j := k) (by rw [both_length hlA hlB hk]; exact hlt)
        have cf := blk_free (j := k) hblk
        have hnext : (wr.setCell ⟨g, k, none⟩ (.int .u8 (xI x y))).heap[g]? = some (.cells (cellsOf .u8 (both n z0 z1 (k + 1))) 5 (0, 0)) := by
          rw [blk_set hblk, hx, hy, both_set hlA hlB hlt]
        rw [← hx] at c0
        rw [← hy] at c1
        obtain ⟨old, hold⟩ : ∃ old, wr.cell? ⟨g, k, none⟩ = some old := ⟨_, cg⟩
        have HN := Lib.hid hnext
        clear hnext cg hx hy hc0 hc1 hblk S0 S1 hxr hyr w0 w1 R0 R1
        go_wp2_with fail
        go_region
        all_goals (go_wp2_with fail)
        refine ⟨⟨k + 1, by omega, by go_num, HN.out, (hbel.setCell HG.out _).drew⟩, by simp [intOf]; omega⟩
      · have : k = n := by omega
        subst this
        have hc0 : (k : Int) ≤ (cap0 : Int) := by have := w0.le; omega
        have hc1 : (k : Int) ≤ (cap1 : Int) := by have := w1.le; omega
        have fa : ∀ W', Below w.heap.size w W' → Reads .u8 W' a0 k cap0 (z0.take k) := fun W' h => (w0.below h).take hn0
        have fb : ∀ W', Below w.heap.size w W' → Reads .u8 W' a1 k cap1 (z1.take k) := fun W' h => (w1.below h).take hn1
        have fc : ∀ W', Below wr.heap.size wr W' → Reads .u8 W' (some ⟨g, 0, none⟩) k k (both k z0 z1 k) := fun W' h => by
          have hlen := both_length hlA hlB (Nat.le_refl k)
          have := blk_reads hblk (by omega) (both_wf HA.out HB.out k)
          rw [hlen] at this
          exact this.below h
        have fz : ∀ X : World, Reads .u8 (X.alloc (.cells (madeCells #[Value.int IntKind.u8 0] k) 5)) (some ⟨X.heap.size, 0, none⟩) k k (List.replicate k 0) := fun X => by
          have h1 : madeCells #[Value.int IntKind.u8 0] k = cellsOf .u8 (List.replicate k 0) := by
            apply Array.toList_inj.1
            rw [toList_madeCells_one]
            simp [cellsOf]
          have := blk_reads (k := .u8) (zs := List.replicate k 0) (wr := X.alloc (.cells (madeCells #[Value.int IntKind.u8 0] k) 5)) (g := X.heap.size) (e := 5) (fr := (0, 0)) (by rw [heap_alloc_new, h1]) (by simp; omega) (by intro x hx; simp at hx; rw [hx.2]; rfl)
          simpa using this
        have hlaw := adds_law hlA hlB HA.out HB.out
        have hmk := fun (W : World) => run_make_row' (P := Try.prog) 23 5 (.int .u8 0) 1 Try.underlying23 byte_info rfl .i64 .i64 k (by omega) (by omega) W
        have FA := Lib.hid fa
        have FB := Lib.hid fb
        have FC := Lib.hid fc
        have FZ := Lib.hid fz
        have HL := Lib.hid hlaw
        clear fa fb fc fz hlaw w0 w1 R0 R1 hblk
        go_wp2_with fail
        have hw : ∀ W', Below wr.heap.size wr W' → Below w.heap.size w W' := fun W' h => bnext hbel h
        have HW := Lib.hid hw
        clear hw
        have hS : Below wr.heap.size wr wr := Below.refl _ _
        clear hbel
        go_region_held3 (fun W : World => Below wr.heap.size wr W) (first | assumption | exact hS.drew | exact (bnew hS _).drew | exact bnew (by assumption) _ | exact bnext (by assumption) hb40 | exact bnext (by assumption) hb44 | exact bnext (by assumption) hb48 | exact bnext (by assumption) hb52) (first
          | (go_at_call 12; with_reducible refine (sum_any (some ⟨g, 0, none⟩) k k (both k z0 z1 k) _ (FC.out _ (by assumption))).mono ?_; rintro e w40 ⟨rfl, hb40⟩; rw [HL.out])
          | (go_at_call 12; with_reducible refine (sum_any a0 k cap0 (z0.take k) _ (FA.out _ (HW.out _ (by assumption)))).mono ?_; rintro e w44 ⟨rfl, hb44⟩)
          | (go_at_call 12; with_reducible refine (sum_any a1 k cap1 (z1.take k) _ (FB.out _ (HW.out _ (by assumption)))).mono ?_; rintro e w48 ⟨rfl, hb48⟩)
          | (go_at_call 12; refine (sum_any (some ⟨_, 0, none⟩) k k (List.replicate k 0) _ (by first | exact FZ.out _ | exact (FZ.out _).below hb48 | exact ((FZ.out _).below hb44).below hb48 | exact (((FZ.out _).below hb40).below hb44).below hb48 | exact ((((FZ.out wr).below (Below.refl _ _).drew).below hb40).below hb44).below hb48)).mono ?_; rintro e w52 ⟨rfl, hb52⟩))
        all_goals
          go_wp2_with fail
          go_ret
          exact ⟨rfl, HW.out _ (by assumption)⟩
end Go.Proofs.Ytkehdagodeaepaa
