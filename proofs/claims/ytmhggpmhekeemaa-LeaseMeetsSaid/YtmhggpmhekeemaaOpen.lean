/- A plan that came in, opened. -/
import Derived.Test.YtmhggpmhekeemaaBase
import Derived.ProofKit
import Derived.Lib.SmallJoins
import Derived.Deep.Fields
import Derived.ChangeOld
namespace Go.Proofs.Ytmhggpmhekeemaa
open Go.Joins Go.ChangeShapes Go.WideShapes Go.RowKit Go.Deep
section
variable {H : Type} {enc : TypeId × Value → H} {P : Program} {w : World} {base : Nat} {spare : Nat → Bool} {held : Bool}
theorem open_agg11 {r : Reach} {b0 : Nat} {t : TypeId} {f0 f1 f2 f3 f4 f5 f6 f7 f8 f9 f10 : Field} {v : Value} {d : DataW H} {p : List MemPlace} (hs : P.underlying t = some (.struct #[f0, f1, f2, f3, f4, f5, f6, f7, f8, f9, f10])) (hone : oneCellFields P #[f0, f1, f2, f3, f4, f5, f6, f7, f8, f9, f10] = true) (hC : P.cellsOf t = 11)
    (hv : Value.okWide P w r b0 t v) (h : DataW.Trod enc P w base spare held t v d p) :
    ∃ (v0 v1 v2 v3 v4 v5 v6 v7 v8 v9 v10 : Value) (n : Nat), v = .agg #[v0, v1, v2, v3, v4, v5, v6, v7, v8, v9, v10] ∧
      (∃ y, DataW.trod enc P w base spare held n f0.type [v0] = some y) ∧ (∃ y, DataW.trod enc P w base spare held n f1.type [v1] = some y) ∧ (∃ y, DataW.trod enc P w base spare held n f2.type [v2] = some y) ∧ (∃ y, DataW.trod enc P w base spare held n f3.type [v3] = some y) ∧ (∃ y, DataW.trod enc P w base spare held n f4.type [v4] = some y) ∧ (∃ y, DataW.trod enc P w base spare held n f5.type [v5] = some y) ∧ (∃ y, DataW.trod enc P w base spare held n f6.type [v6] = some y) ∧ (∃ y, DataW.trod enc P w base spare held n f7.type [v7] = some y) ∧ (∃ y, DataW.trod enc P w base spare held n f8.type [v8] = some y) ∧ (∃ y, DataW.trod enc P w base spare held n f9.type [v9] = some y) ∧ (∃ y, DataW.trod enc P w base spare held n f10.type [v10] = some y) := by
  obtain ⟨cs, rfl, hsz⟩ := okWide_struct hs hv
  obtain ⟨l⟩ := cs
  match l, hsz.trans hC with
  | [c0, c1, c2, c3, c4, c5, c6, c7, c8, c9, c10], _ =>
    obtain ⟨fuel, hf⟩ := h
    obtain ⟨xs, n, _, hx, _, hlen, hg⟩ := DataW.trod_struct hs hf
    obtain ⟨o0, k0⟩ := hone_of hone 0 f0 rfl
    obtain ⟨o1, k1⟩ := hone_of hone 1 f1 rfl
    obtain ⟨o2, k2⟩ := hone_of hone 2 f2 rfl
    obtain ⟨o3, k3⟩ := hone_of hone 3 f3 rfl
    obtain ⟨o4, k4⟩ := hone_of hone 4 f4 rfl
    obtain ⟨o5, k5⟩ := hone_of hone 5 f5 rfl
    obtain ⟨o6, k6⟩ := hone_of hone 6 f6 rfl
    obtain ⟨o7, k7⟩ := hone_of hone 7 f7 rfl
    obtain ⟨o8, k8⟩ := hone_of hone 8 f8 rfl
    obtain ⟨o9, k9⟩ := hone_of hone 9 f9 rfl
    obtain ⟨o10, k10⟩ := hone_of hone 10 f10 rfl
    match xs, hlen with
    | [y0, y1, y2, y3, y4, y5, y6, y7, y8, y9, y10], _ =>
      exact ⟨c0, c1, c2, c3, c4, c5, c6, c7, c8, c9, c10, n, rfl, ⟨y0, by simpa [Value.cells, o0, k0] using hg 0 f0 rfl⟩, ⟨y1, by simpa [Value.cells, o1, k1] using hg 1 f1 rfl⟩, ⟨y2, by simpa [Value.cells, o2, k2] using hg 2 f2 rfl⟩, ⟨y3, by simpa [Value.cells, o3, k3] using hg 3 f3 rfl⟩, ⟨y4, by simpa [Value.cells, o4, k4] using hg 4 f4 rfl⟩, ⟨y5, by simpa [Value.cells, o5, k5] using hg 5 f5 rfl⟩, ⟨y6, by simpa [Value.cells, o6, k6] using hg 6 f6 rfl⟩, ⟨y7, by simpa [Value.cells, o7, k7] using hg 7 f7 rfl⟩, ⟨y8, by simpa [Value.cells, o8, k8] using hg 8 f8 rfl⟩, ⟨y9, by simpa [Value.cells, o9, k9] using hg 9 f9 rfl⟩, ⟨y10, by simpa [Value.cells, o10, k10] using hg 10 f10 rfl⟩⟩
end

section
variable {H : Type} {enc : TypeId × Value → H} {w : World} {base : Nat} {spare : Nat → Bool} {held : Bool}
/-- A slice of integers that came in: it reads. -/
theorem slice_reads {t e : TypeId} {k : IntKind} {fuel : Nat} {v : Value} {y : DataW H × List MemPlace} (ht : Try.prog.underlying t = some (.slice e)) (he : Try.prog.underlying e = some (.int k)) (hc : Try.prog.cellsOf e = 1)
    (h : DataW.trod enc Try.prog w base (fun _ => true) held fuel t [v] = some y) : ∃ a n c zs, v = .slice a n c ∧ Reads k w a n c zs := by
  rcases open_ints ht he hc h with ⟨hcs, _⟩ | ⟨x, l, c, zs, hcs, _, hl, hm, hz, _, hcell, hwz⟩
  · simp at hcs
    exact ⟨none, 0, 0, [], hcs, reads_none _ _ _⟩
  · simp at hcs
    exact ⟨some x, l, c, _, hcs, reads_of_row hl hm (by simpa using hz) hcell hwz⟩
/-- A plan that came in: it reads. -/
theorem open_cfg {r : Reach} {b0 : Nat} {v : Value} {d : DataW H} {p : List MemPlace} (hv : Value.okWide Try.prog w r b0 24 v) (h : DataW.Trod enc Try.prog w base (fun _ => true) held 24 v d p) : ∃ C : Cv, v = .agg C.cells ∧ Good w C := by
  obtain ⟨c0, c1, c2, c3, c4, c5, c6, c7, c8, c9, c10, n, rfl, ⟨_, h0⟩, ⟨_, h1⟩, ⟨_, h2⟩, ⟨_, h3⟩, ⟨_, h4⟩, ⟨_, h5⟩, ⟨_, h6⟩, ⟨_, h7⟩, ⟨_, h8⟩, ⟨_, h9⟩, ⟨_, h10⟩⟩ := open_agg11 Try.underlying24 (by kernel_rfl) (by kernel_rfl) hv h
  obtain ⟨x0, e0, rfl, w0⟩ := DataW.trod_int Try.underlying3 h0
  obtain ⟨x1, e1, rfl, w1⟩ := DataW.trod_int Try.underlying3 h1
  obtain ⟨x2, e2, rfl, w2⟩ := DataW.trod_int Try.underlying3 h2
  obtain ⟨x3, e3, rfl, w3⟩ := DataW.trod_int Try.underlying2 h3
  obtain ⟨x4, e4, rfl, w4⟩ := DataW.trod_int Try.underlying2 h4
  obtain ⟨x5, e5, rfl, w5⟩ := DataW.trod_int Try.underlying2 h5
  obtain ⟨x6, e6, rfl, w6⟩ := DataW.trod_int Try.underlying2 h6
  obtain ⟨x9, e9, rfl, w9⟩ := DataW.trod_int Try.underlying3 h9
  obtain ⟨x10, e10, rfl, w10⟩ := DataW.trod_int Try.underlying3 h10
  obtain ⟨a7, n7, k7, z7, rfl, R7⟩ := slice_reads Try.underlying22 Try.underlying3 (by kernel_rfl) h7
  obtain ⟨a8, n8, k8, z8, rfl, R8⟩ := slice_reads Try.underlying22 Try.underlying3 (by kernel_rfl) h8
  simp at e0 e1 e2 e3 e4 e5 e6 e9 e10
  subst e0 e1 e2 e3 e4 e5 e6 e9 e10
  exact ⟨⟨x0, x1, x2, x3, x4, x5, x6, a7, n7, k7, a8, n8, k8, x9, x10, z7, z8⟩, rfl, ⟨R7, R8, i64_range w0, i64_range w1, i64_range w2, i64_range w3, i64_range w4, i64_range w5, i64_range w6, i64_range w9, i64_range w10⟩⟩
end
end Go.Proofs.Ytmhggpmhekeemaa
