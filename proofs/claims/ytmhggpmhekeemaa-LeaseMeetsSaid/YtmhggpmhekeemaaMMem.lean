/- How LeaseMeets' memory stands. -/
import Derived.Test.YtmhggpmhekeemaaMAcc
import Derived.Test.YtmhggpmhekeemaaMInv
namespace Go.Proofs.Ytmhggpmhekeemaa
open Go.RowKit
theorem st1_other {W : World} {A B j : Nat} {o : Obj} (hX : W.heap[B]? = some o) (h : B ≠ A) (v : Value) : (W.setCell ⟨A, j, none⟩ v).heap[B]? = some o := (heap_setCell_other _ _ _ _ h).trans hX
theorem st2_other {W : World} {A B i j : Nat} {o : Obj} (hX : W.heap[B]? = some o) (h : B ≠ A) (u v : Value) : ((W.setCell ⟨A, i, none⟩ u).setCell ⟨A, j, none⟩ v).heap[B]? = some o := st1_other (st1_other hX h u) h v
theorem st4_other {W : World} {A B : Nat} {o : Obj} (hX : W.heap[B]? = some o) (h : B ≠ A) (u0 u1 u2 u3 : Value) : ((((W.setCell ⟨A, 0, none⟩ u0).setCell ⟨A, 1, none⟩ u1).setCell ⟨A, 2, none⟩ u2).setCell ⟨A, 3, none⟩ u3).heap[B]? = some o :=
  st1_other (st1_other (st1_other (st1_other hX h u0) h u1) h u2) h u3
theorem st1_below {w W : World} {A j : Nat} (hb : Below w.heap.size w W) (h : w.heap.size ≤ A) (v : Value) : Below w.heap.size w (W.setCell ⟨A, j, none⟩ v) :=
  hb.setCell (show w.heap.size ≤ (⟨A, j, none⟩ : Addr).block from h) v
theorem st2_below {w W : World} {A i j : Nat} (hb : Below w.heap.size w W) (h : w.heap.size ≤ A) (u v : Value) : Below w.heap.size w ((W.setCell ⟨A, i, none⟩ u).setCell ⟨A, j, none⟩ v) := st1_below (st1_below hb h u) h v
/-- The plan's box, the clocks, the acceptors, and both leases. -/
structure MS (w wr : World) (C : Cv) (N S bC bA bL : Nat) (cs : List Int) (gs : Nat → List G3) (A B : Lv) : Prop where
  o1 : w.heap.size < bC
  o2 : bC < bA
  o3 : bA < bL
  ab : AB wr bA N S N gs
  cl : wr.heap[bC]? = some (.cells (cellsOf .i64 cs) 42 (0, 0))
  la : wr.heap[bL]? = some (LB A)
  lb : wr.heap[bL + 1]? = some (LB B)
  ra : Reads .i64 wr A.fa A.fn A.fc A.fs
  rb : Reads .i64 wr B.fa B.fn B.fc B.fs
  pa : ∀ p, A.fa = some p → bL + 1 < p.block
  pb : ∀ p, B.fa = some p → bL + 1 < p.block
  pc : wr.heap[w.heap.size]? = some (.cells C.cells 24 (0, 0))
  bb : Below w.heap.size w wr
section
variable {w wr : World} {C : Cv} {N S bC bA bL : Nat} {cs : List Int} {gs : Nat → List G3} {A B : Lv}
theorem MS.below (h : MS w wr C N S bC bA bL cs gs A B) {w' : World} (hb : Below wr.heap.size wr w') : MS w w' C N S bC bA bL cs gs A B :=
  ⟨h.o1, h.o2, h.o3, h.ab.below hb, kb h.cl hb, kb h.la hb, kb h.lb hb, h.ra.below hb, h.rb.below hb, h.pa, h.pb, kb h.pc hb, bnext h.bb hb⟩
theorem MS.alloc (h : MS w wr C N S bC bA bL cs gs A B) (o : Obj) : MS w (wr.alloc o) C N S bC bA bL cs gs A B := h.below (bnew (brefl wr) o)
theorem MS.drewN (h : MS w wr C N S bC bA bL cs gs A B) (n : Nat) : MS w (wr.drewN n) C N S bC bA bL cs gs A B :=
  h.below ⟨rfl, rfl, rfl, Nat.le_refl _, fun _ _ => rfl⟩
theorem MS.size (h : MS w wr C N S bC bA bL cs gs A B) : bL + 1 < wr.heap.size := lt_of_block h.lb
/-- A clock is set. -/
theorem MS.clk (h : MS w wr C N S bC bA bL cs gs A B) (n : Nat) (x : Int) : MS w (wr.setCell ⟨bC, n, none⟩ (.int .i64 x)) C N S bC bA bL (cs.set n x) gs A B := by
  have o1 := h.o1; have o2 := h.o2; have o3 := h.o3
  exact ⟨o1, o2, o3, h.ab.other (T := 42) (by decide) h.cl (by omega) n _, blk_set h.cl n x, st1_other h.la (by omega) _, st1_other h.lb (by omega) _,
    h.ra.store _ _ (fun p hp => by have := h.pa p hp; show p.block ≠ bC; omega), h.rb.store _ _ (fun p hp => by have := h.pb p hp; show p.block ≠ bC; omega), h.pa, h.pb, st1_other h.pc (by omega) _, st1_below h.bb (by omega) _⟩
/-- An acceptor is set. -/
theorem MS.acc (h : MS w wr C N S bC bA bL cs gs A B) {m : Nat} (hm : m < N) {ad : Option Addr} {cap : Nat} {g : List G3} (hA : Acc wr ad S cap g) :
    MS w ((wr.setCell ⟨bA, m * 2, none⟩ (.int .i64 0)).setCell ⟨bA, m * 2 + 1, none⟩ (.slice ad S cap)) C N S bC bA bL cs (fun j => if j = m then g else gs j) A B := by
  have o1 := h.o1; have o2 := h.o2; have o3 := h.o3
  exact ⟨o1, o2, o3, h.ab.store hm hA (fun j q => .inl q), st2_other h.cl (by omega) _ _, st2_other h.la (by omega) _ _, st2_other h.lb (by omega) _ _,
    (h.ra.store _ _ (fun p hp => by have := h.pa p hp; show p.block ≠ bA; omega)).store _ _ (fun p hp => by have := h.pa p hp; show p.block ≠ bA; omega),
    (h.rb.store _ _ (fun p hp => by have := h.pb p hp; show p.block ≠ bA; omega)).store _ _ (fun p hp => by have := h.pb p hp; show p.block ≠ bA; omega), h.pa, h.pb, st2_other h.pc (by omega) _ _, st2_below h.bb (by omega) _ _⟩
theorem ab_st4 (h : AB wr bA N S N gs) {r : Nat} {x0 x1 x2 x3 : Value} (hr : wr.heap[r]? = some (.cells #[x0, x1, x2, x3] 48 (0, 0))) (hne : bA ≠ r) (u0 u1 u2 u3 : Value) :
    AB ((((wr.setCell ⟨r, 0, none⟩ u0).setCell ⟨r, 1, none⟩ u1).setCell ⟨r, 2, none⟩ u2).setCell ⟨r, 3, none⟩ u3) bA N S N gs := by
  have e1 := heap_setCell_same wr r 0 _ _ u0 hr
  have e2 := heap_setCell_same _ r 1 _ _ u1 e1
  have e3 := heap_setCell_same _ r 2 _ _ u2 e2
  exact (((h.other (T := 48) (by decide) hr hne 0 u0).other (T := 48) (by decide) e1 hne 1 u1).other (T := 48) (by decide) e2 hne 2 u2).other (T := 48) (by decide) e3 hne 3 u3
/-- A's lease is set. -/
theorem MS.leA (h : MS w wr C N S bC bA bL cs gs A B) (L : Lv) (hR : Reads .i64 wr L.fa L.fn L.fc L.fs) (hp : ∀ p, L.fa = some p → bL + 1 < p.block) :
    MS w ((((wr.setCell ⟨bL, 0, none⟩ (.int .i64 L.slot)).setCell ⟨bL, 1, none⟩ (.int .i64 L.nonce)).setCell ⟨bL, 2, none⟩ (.int .i64 L.asked)).setCell ⟨bL, 3, none⟩ (.slice L.fa L.fn L.fc)) C N S bC bA bL cs gs L B := by
  have o1 := h.o1; have o2 := h.o2; have o3 := h.o3
  exact ⟨o1, o2, o3, ab_st4 h.ab h.la (by omega) _ _ _ _, st4_other h.cl (by omega) _ _ _ _, st4_same h.la _ _ _ _, st4_other h.lb (by omega) _ _ _ _,
    reads_box4 hR (fun p q => by have := hp p q; omega) _ _ _ _, reads_box4 h.rb (fun p q => by have := h.pb p q; omega) _ _ _ _, hp, h.pb, st4_other h.pc (by omega) _ _ _ _, st4_below h.bb (by omega) _ _ _ _⟩
/-- B's lease is set. -/
theorem MS.leB (h : MS w wr C N S bC bA bL cs gs A B) (L : Lv) (hR : Reads .i64 wr L.fa L.fn L.fc L.fs) (hp : ∀ p, L.fa = some p → bL + 1 < p.block) :
    MS w ((((wr.setCell ⟨bL + 1, 0, none⟩ (.int .i64 L.slot)).setCell ⟨bL + 1, 1, none⟩ (.int .i64 L.nonce)).setCell ⟨bL + 1, 2, none⟩ (.int .i64 L.asked)).setCell ⟨bL + 1, 3, none⟩ (.slice L.fa L.fn L.fc)) C N S bC bA bL cs gs A L := by
  have o1 := h.o1; have o2 := h.o2; have o3 := h.o3
  exact ⟨o1, o2, o3, ab_st4 h.ab h.lb (by omega) _ _ _ _, st4_other h.cl (by omega) _ _ _ _, st4_other h.la (by omega) _ _ _ _, st4_same h.lb _ _ _ _,
    reads_box4 h.ra (fun p q => by have := h.pa p q; omega) _ _ _ _, reads_box4 hR (fun p q => by have := hp p q; omega) _ _ _ _, h.pa, hp, st4_other h.pc (by omega) _ _ _ _, st4_below h.bb (by omega) _ _ _ _⟩
theorem MS.start {X : World} (o1 : w.heap.size < bC) (o2 : bC < bA) (hab : AB X bA N S N gs) (hcl : X.heap[bC]? = some (.cells (cellsOf .i64 cs) 42 (0, 0))) (hpc : X.heap[w.heap.size]? = some (.cells C.cells 24 (0, 0))) (hbb : Below w.heap.size w X) :
    MS w ((X.alloc RB).alloc RB) C N S bC bA X.heap.size cs gs Z Z :=
  ⟨o1, o2, hab.lt, hab.below (bnew (bnew (brefl X) _) _), ka (ka hcl _) _, ka (heap_alloc_new X _) _, heap_alloc2_new _ _ _, reads_none _ _ _, reads_none _ _ _, nofun, nofun, ka (ka hpc _) _, bnew (bnew hbb _) _⟩
end
end Go.Proofs.Ytmhggpmhekeemaa
