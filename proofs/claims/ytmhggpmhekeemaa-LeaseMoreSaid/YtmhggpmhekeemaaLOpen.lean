/- A lease that came in, opened. -/
import Derived.Test.YtmhggpmhekeemaaOpen
import Derived.Test.YtmhggpmhekeemaaLSlot
namespace Go.Proofs.Ytmhggpmhekeemaa
open Go.Joins Go.ChangeShapes Go.WideShapes Go.RowKit Go.Deep
section
variable {H : Type} {enc : TypeId × Value → H} {P : Program} {w : World} {base : Nat} {spare : Nat → Bool} {held : Bool}
theorem open_agg4' {r : Reach} {b0 : Nat} {t : TypeId} {f0 f1 f2 f3 : Field} {v : Value} {d : DataW H} {p : List MemPlace} (hs : P.underlying t = some (.struct #[f0, f1, f2, f3])) (hone : oneCellFields P #[f0, f1, f2, f3] = true) (hC : P.cellsOf t = 4)
    (hv : Value.okWide P w r b0 t v) (h : DataW.Trod enc P w base spare held t v d p) :
    ∃ (v0 v1 v2 v3 : Value) (n : Nat), v = .agg #[v0, v1, v2, v3] ∧
      (∃ y, DataW.trod enc P w base spare held n f0.type [v0] = some y) ∧ (∃ y, DataW.trod enc P w base spare held n f1.type [v1] = some y) ∧ (∃ y, DataW.trod enc P w base spare held n f2.type [v2] = some y) ∧ (∃ y, DataW.trod enc P w base spare held n f3.type [v3] = some y) := by
  obtain ⟨cs, rfl, hsz⟩ := okWide_struct hs hv
  obtain ⟨l⟩ := cs
  match l, hsz.trans hC with
  | [c0, c1, c2, c3], _ =>
    obtain ⟨fuel, hf⟩ := h
    obtain ⟨xs, n, _, hx, _, hlen, hg⟩ := DataW.trod_struct hs hf
    obtain ⟨o0, k0⟩ := hone_of hone 0 f0 rfl
    obtain ⟨o1, k1⟩ := hone_of hone 1 f1 rfl
    obtain ⟨o2, k2⟩ := hone_of hone 2 f2 rfl
    obtain ⟨o3, k3⟩ := hone_of hone 3 f3 rfl
    match xs, hlen with
    | [y0, y1, y2, y3], _ =>
      exact ⟨c0, c1, c2, c3, n, rfl, ⟨y0, by simpa [Value.cells, o0, k0] using hg 0 f0 rfl⟩, ⟨y1, by simpa [Value.cells, o1, k1] using hg 1 f1 rfl⟩, ⟨y2, by simpa [Value.cells, o2, k2] using hg 2 f2 rfl⟩, ⟨y3, by simpa [Value.cells, o3, k3] using hg 3 f3 rfl⟩⟩
end
section
variable {H : Type} {enc : TypeId × Value → H} {w : World} {base : Nat} {spare : Nat → Bool} {held : Bool}
/-- A lease that came in: it reads. -/
theorem open_lv {r : Reach} {b0 : Nat} {v : Value} {d : DataW H} {p : List MemPlace} (hv : Value.okWide Try.prog w r b0 48 v) (h : DataW.Trod enc Try.prog w base (fun _ => true) held 48 v d p) : ∃ L : Lv, v = .agg L.cells ∧ GoodL w L := by
  obtain ⟨c0, c1, c2, c3, n, rfl, ⟨_, h0⟩, ⟨_, h1⟩, ⟨_, h2⟩, ⟨_, h3⟩⟩ := open_agg4' Try.underlying48 (by kernel_rfl) (by kernel_rfl) hv h
  obtain ⟨x0, e0, rfl, w0⟩ := DataW.trod_int Try.underlying3 h0
  obtain ⟨x1, e1, rfl, w1⟩ := DataW.trod_int Try.underlying2 h1
  obtain ⟨x2, e2, rfl, w2⟩ := DataW.trod_int Try.underlying2 h2
  obtain ⟨a3, n3, k3, z3, rfl, R3⟩ := slice_reads Try.underlying22 Try.underlying3 (by kernel_rfl) h3
  simp at e0 e1 e2
  subst e0 e1 e2
  exact ⟨⟨x0, x1, x2, a3, n3, k3, z3⟩, rfl, ⟨R3, i64_range w0, i64_range w1, i64_range w2⟩⟩
end
end Go.Proofs.Ytmhggpmhekeemaa
