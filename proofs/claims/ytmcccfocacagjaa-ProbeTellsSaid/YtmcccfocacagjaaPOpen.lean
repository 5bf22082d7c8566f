/- What a node said that came in, opened. -/
import Derived.Test.YtmcccfocacagjaaOpen
namespace Go.Proofs.Ytmcccfocacagjaa
open Go.Joins Go.ChangeShapes Go.WideShapes Go.RowKit Go.Deep
variable {H : Type} {enc : TypeId × Value → H} {w : World} {base : Nat} {held : Bool}
theorem open_soak {r : Reach} {b0 : Nat} {v : Value} {d : DataW H} {p : List MemPlace} (hv : Value.okWide Try.prog w r b0 37 v) (h : DataW.Trod enc Try.prog w base (fun _ => true) held 37 v d p) :
    ∃ x y : Int, v = .agg #[.int .i64 x, .int .i64 y] ∧ (-9223372036854775808 ≤ x ∧ x ≤ 9223372036854775807) := by
  obtain ⟨v0, v1, y0, y1, n, rfl, _, _, h0, h1⟩ := open_agg2 Try.underlying37 (by kernel_rfl) (by kernel_rfl) hv h
  obtain ⟨x0, e0, rfl, w0⟩ := DataW.trod_int Try.underlying3 h0
  obtain ⟨x1, e1, rfl, w1⟩ := DataW.trod_int Try.underlying3 h1
  simp at e0 e1
  subst e0 e1
  exact ⟨x0, x1, rfl, i64_range w0⟩
end Go.Proofs.Ytmcccfocacagjaa
