/- A slice of slices of words that came in, opened. -/
import Derived.Test.YtmcccfocacagjaaOpen
import Derived.Deep.Matrix
namespace Go.Proofs.Ytmcccfocacagjaa
open Go.Joins Go.ChangeShapes Go.WideShapes Go.RowKit Go.Deep
/-- A slice of slices that can be read. -/
structure ReadsR (w : World) (a : Option Addr) (len cap : Nat) (A : Nat → Option Addr) (L Cp : Nat → Nat) (Z : Nat → List Int) : Prop where
  le : len ≤ cap
  small : cap ≤ 9223372036854775807
  cells : len = 0 ∨ ∃ b off, a = some ⟨b, off, none⟩ ∧ ∀ i, i < len → w.cell? ⟨b, off + i, none⟩ = some (.slice (A i) (L i) (Cp i)) ∧ Reads .u64 w (A i) (L i) (Cp i) (Z i)
theorem ReadsR.below {w w' : World} {a : Option Addr} {len cap : Nat} {A : Nat → Option Addr} {L Cp : Nat → Nat} {Z : Nat → List Int} (h : ReadsR w a len cap A L Cp Z) (hb : Below w.heap.size w w') : ReadsR w' a len cap A L Cp Z :=
  ⟨h.le, h.small, h.cells.imp id fun ⟨b, off, ha, hc⟩ => ⟨b, off, ha, fun i hi => ⟨by rw [hb.cell (block_lt_of_cell (hc i hi).1), (hc i hi).1], (hc i hi).2.below hb⟩⟩⟩
variable {H : Type} {enc : TypeId × Value → H} {w : World} {base : Nat} {held : Bool}
theorem open_rows {fuel : Nat} {a : Option Addr} {len cap : Nat} {y : DataW H × List MemPlace} (h : DataW.trod enc Try.prog w base (fun _ => true) held fuel 51 [.slice a len cap] = some y) :
    ∃ (A : Nat → Option Addr) (L Cp : Nat → Nat) (Z : Nat → List Int), ReadsR w a len cap A L Cp Z := by
  rcases open_int_rows Try.underlying51 Try.underlying38 Try.underlying25 (by kernel_rfl) (by kernel_rfl) h with ⟨hcs, _⟩ | ⟨x, l, c, A, L, Cp, Z, hcs, _, hl, hm, _, hr⟩
  · simp at hcs
    obtain ⟨rfl, rfl, rfl⟩ := hcs
    exact ⟨fun _ => none, fun _ => 0, fun _ => 0, fun _ => [], Nat.le_refl _, by omega, .inl rfl⟩
  · simp at hcs
    obtain ⟨rfl, rfl, rfl⟩ := hcs
    refine ⟨A, L, Cp, fun r => (Z r).take (L r), hl, by unfold maxLen at hm; omega, ?_⟩
    by_cases h0 : len = 0
    · exact .inl h0
    · refine .inr ?_
      obtain ⟨b, off, spot⟩ := x
      have h00 := (hr 0 (by omega)).1
      have hspot : spot = none := by simpa [Addr.add] using World.cell?_spot h00
      subst hspot
      refine ⟨b, off, rfl, fun i hi => ?_⟩
      obtain ⟨c1, c2, c3, c4, c5, c6, c7⟩ := hr i (by omega)
      rw [show (⟨b, off, none⟩ : Addr).add i = ⟨b, off + i, none⟩ by simp [Addr.add]] at c1
      refine ⟨c1, ?_⟩
      cases hA : A i with
      | none =>
        have := c6 hA
        have hL : L i = 0 := by omega
        rw [hL, this]
        simp only [List.take_zero]
        exact reads_none _ _ _
      | some p =>
        exact reads_of_row c2 c3 c4 (fun j hj => (c7 p hA).2 j (by omega)) c5
end Go.Proofs.Ytmcccfocacagjaa
