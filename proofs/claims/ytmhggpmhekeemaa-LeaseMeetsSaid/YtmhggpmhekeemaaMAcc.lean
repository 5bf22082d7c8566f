/- The acceptors of all nodes, in one row. -/
import Derived.Test.YtmhggpmhekeemaaMTold
import Derived.Test.YtmhggpmhekeemaaMLaw
namespace Go.Proofs.Ytmhggpmhekeemaa
open Go.RowKit
theorem Acc.one' {w : World} {ad : Option Addr} {n cap : Nat} {gs : List G3} (h : Acc w ad n cap gs) {r : Nat} {cs : Array Value} {T : TypeId} (hT : T ≠ 68) (hr : w.heap[r]? = some (.cells cs T (0, 0))) (j : Nat) (u : Value) : Acc (w.setCell ⟨r, j, none⟩ u) ad n cap gs := by
  refine ⟨⟨h.own.1, ?_⟩, h.wf, h.few⟩
  rcases h.own.2 with h0 | ⟨g, cap', cur, hv, hbg, hg, rr⟩
  · exact .inl h0
  · refine .inr ⟨g, cap', cur, hv, hbg, (heap_setCell_other _ _ _ _ (show g ≠ r from fun e => ?_)).trans hg, rr⟩
    subst e
    rw [hr] at hg
    cases hg
    exact hT rfl
/-- The first k of N acceptors: each is up since 0, and granted gs. -/
def AB (w : World) (b N S k : Nat) (gs : Nat → List G3) : Prop :=
  ∃ cur : Array Value, w.heap[b]? = some (.cells cur 30 (0, 0)) ∧ cur.size = N * 2 ∧ ∀ m, m < k → ∃ ad cap, cur[m * 2]? = some (.int .i64 0) ∧ cur[m * 2 + 1]? = some (.slice ad S cap) ∧ Acc w ad S cap (gs m)
theorem AB.cells {w : World} {b N S k : Nat} {gs : Nat → List G3} (h : AB w b N S k gs) {m : Nat} (hm : m < k) : ∃ ad cap, w.cell? ⟨b, m * 2, none⟩ = some (.int .i64 0) ∧ w.cell? ⟨b, m * 2 + 1, none⟩ = some (.slice ad S cap) ∧ Acc w ad S cap (gs m) := by
  obtain ⟨cur, hb, _, hc⟩ := h
  obtain ⟨ad, cap, h0, h1, hA⟩ := hc m hm
  exact ⟨ad, cap, by rw [cell_of_row _ _ _ _ _ _ hb, h0], by rw [cell_of_row _ _ _ _ _ _ hb, h1], hA⟩
theorem AB.block {w : World} {b N S k : Nat} {gs : Nat → List G3} (h : AB w b N S k gs) : ∃ cur : Array Value, w.heap[b]? = some (.cells cur 30 (0, 0)) ∧ cur.size = N * 2 := by
  obtain ⟨cur, hb, hs, _⟩ := h; exact ⟨cur, hb, hs⟩
theorem AB.lt {w : World} {b N S k : Nat} {gs : Nat → List G3} (h : AB w b N S k gs) : b < w.heap.size := by
  obtain ⟨cur, hb, _⟩ := h.block; exact lt_of_block hb
theorem AB.free {w : World} {b N S k : Nat} {gs : Nat → List G3} (h : AB w b N S k gs) (j : Nat) : w.frozen? ⟨b, j, none⟩ = false := by
  obtain ⟨cur, hb, _⟩ := h.block; exact blk_free hb
theorem AB.there {w : World} {b N S k : Nat} {gs : Nat → List G3} (h : AB w b N S k gs) {m : Nat} (hm : m < N) : ∃ x y, w.cell? ⟨b, m * 2, none⟩ = some x ∧ w.cell? ⟨b, m * 2 + 1, none⟩ = some y := by
  obtain ⟨cur, hb, hs⟩ := h.block
  have h0 : m * 2 < cur.size := by omega
  have h1 : m * 2 + 1 < cur.size := by omega
  exact ⟨cur[m * 2], cur[m * 2 + 1], by rw [cell_of_row _ _ _ _ _ _ hb]; simp [h0], by rw [cell_of_row _ _ _ _ _ _ hb]; simp [h1]⟩
theorem AB.below {w w' : World} {b N S k : Nat} {gs : Nat → List G3} (h : AB w b N S k gs) (hb : Below w.heap.size w w') : AB w' b N S k gs := by
  obtain ⟨cur, h1, h2, h3⟩ := h
  refine ⟨cur, (hb.block _ (lt_of_block h1)).trans h1, h2, fun m hm => ?_⟩
  obtain ⟨ad, cap, a, c, d⟩ := h3 m hm
  exact ⟨ad, cap, a, c, d.below hb⟩
theorem AB.drewN {w : World} {b N S k m : Nat} {gs : Nat → List G3} (h : AB w b N S k gs) : AB (w.drewN m) b N S k gs := by
  obtain ⟨cur, h1, h2, h3⟩ := h
  refine ⟨cur, h1, h2, fun m hm => ?_⟩
  obtain ⟨ad, cap, a, c, d⟩ := h3 m hm
  exact ⟨ad, cap, a, c, ⟨d.own, d.wf, d.few⟩⟩
/-- A store into another block, of no grants. -/
theorem AB.other {w : World} {b N S k : Nat} {gs : Nat → List G3} (h : AB w b N S k gs) {r : Nat} {cs : Array Value} {T : TypeId} (hT : T ≠ 68) (hr : w.heap[r]? = some (.cells cs T (0, 0))) (hne : b ≠ r) (j : Nat) (u : Value) : AB (w.setCell ⟨r, j, none⟩ u) b N S k gs := by
  obtain ⟨cur, h1, h2, h3⟩ := h
  refine ⟨cur, (heap_setCell_other _ _ _ _ hne).trans h1, h2, fun m hm => ?_⟩
  obtain ⟨ad, cap, a, c, d⟩ := h3 m hm
  exact ⟨ad, cap, a, c, d.one' hT hr j u⟩
/-- An acceptor is stored in its place. -/
theorem AB.store {w : World} {b N S k : Nat} {gs : Nat → List G3} (h : AB w b N S k gs) {m : Nat} (hmN : m < N) {ad : Option Addr} {cap : Nat} {g : List G3} (hA : Acc w ad S cap g) {k' : Nat} (hk : ∀ j, j < k' → j < k ∨ j = m) :
    AB ((w.setCell ⟨b, m * 2, none⟩ (.int .i64 0)).setCell ⟨b, m * 2 + 1, none⟩ (.slice ad S cap)) b N S k' (fun j => if j = m then g else gs j) := by
  obtain ⟨cur, h1, h2, h3⟩ := h
  have e1 := heap_setCell_same w b (m * 2) _ _ (.int .i64 0) h1
  have e2 := heap_setCell_same _ b (m * 2 + 1) _ _ (.slice ad S cap) e1
  have keep : ∀ {ad' : Option Addr} {cap' : Nat} {g' : List G3}, Acc w ad' S cap' g' → Acc ((w.setCell ⟨b, m * 2, none⟩ (.int .i64 0)).setCell ⟨b, m * 2 + 1, none⟩ (.slice ad S cap)) ad' S cap' g' := fun hh => (hh.one' (T := 30) (by decide) h1 _ _).one' (T := 30) (by decide) e1 _ _
  refine ⟨_, e2, by simp [h2], fun j hj => ?_⟩
  by_cases e : j = m
  · subst e
    refine ⟨ad, cap, ?_, ?_, by show Acc _ ad S cap (if j = j then g else gs j); rw [if_pos rfl]; exact keep hA⟩
    · have : j * 2 < cur.size := by omega
      simp [this]
    · have : j * 2 + 1 < cur.size := by omega
      simp [this]
  · rcases hk j hj with q | q
    · obtain ⟨ad', cap', a, c, d⟩ := h3 j q
      refine ⟨ad', cap', ?_, ?_, by show Acc _ ad' S cap' (if j = m then g else gs j); rw [if_neg e]; exact keep d⟩
      · rw [Array.getElem?_setIfInBounds_ne (by omega), Array.getElem?_setIfInBounds_ne (by omega)]; exact a
      · rw [Array.getElem?_setIfInBounds_ne (by omega), Array.getElem?_setIfInBounds_ne (by omega)]; exact c
    · exact absurd q e
theorem acc_zero : (Try.prog.info? 30).map (fun i => (i.zero, i.size, i.bytes)) = some (some (.agg #[.int .i64 0, .slice none 0 0]), 2, 32) := by kernel_rfl
theorem acc_i : ∃ i, Try.prog.info? 30 = some i ∧ i.zero = some (.agg #[.int .i64 0, .slice none 0 0]) ∧ i.size = 2 ∧ i.bytes = 32 := by
  have := acc_zero
  cases h : Try.prog.info? 30 with
  | none => rw [h] at this; cases this
  | some i => rw [h] at this; simp at this; exact ⟨i, rfl, this.1, this.2.1, this.2.2⟩
theorem run_make2 (N : Nat) (hN : N ≤ 9) (W : World) : ∃ cs : Array Value, cs.size = N * 2 ∧ (Instr.makeSlice 61 (.int .i64 (N : Int)) (.int .i64 (N : Int))).run Try.prog W = .ok (.slice (some ⟨W.heap.size, 0, none⟩) N N) (W.alloc (.cells cs 30)) := by
  obtain ⟨i0, hi, hz0, hz1, hz2⟩ := acc_i
  have hr := run_make (P := Try.prog) W 61 30 i0 _ Try.underlying61 hi hz0 .i64 .i64 N N (by omega) (Int.le_refl _) (by rw [hz2]; omega) (by omega)
  simp only [Int.toNat_natCast] at hr
  exact ⟨_, by rw [size_madeCells, hz1], hr⟩
theorem ab_new (W : World) (cs : Array Value) (N S : Nat) (h : cs.size = N * 2) (gs : Nat → List G3) : AB (W.alloc (.cells cs 30)) W.heap.size N S 0 gs :=
  ⟨cs, heap_alloc_new W _, h, fun m hm => absurd hm (by omega)⟩
end Go.Proofs.Ytmhggpmhekeemaa
