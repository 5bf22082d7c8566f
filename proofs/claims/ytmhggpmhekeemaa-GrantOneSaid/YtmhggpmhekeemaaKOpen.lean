/- A slice of calls (five ints each) that came in, opened. -/
import Derived.Test.YtmhggpmhekeemaaOpen
import Derived.Test.YtmhggpmhekeemaaAcc
import Derived.Deep.Slices
import Derived.Deep.Fields
import Derived.ChangeSame
namespace Go.Proofs.Ytmhggpmhekeemaa
open Go.ChangeShapes Go.WideShapes Go.RowKit Go.Deep
/-- A call of a script. -/
structure K5 where
  kind : Int
  slot : Int
  node : Int
  nonce : Int
  ahead : Int
/-- A slice of calls that can be read. -/
structure ReadsK (w : World) (a : Option Addr) (len cap : Nat) (ks : Nat → K5) : Prop where
  le : len ≤ cap
  small : cap ≤ 9223372036854775807
  cells : len = 0 ∨ ∃ b off, a = some ⟨b, off, none⟩ ∧ ∀ i, i < len → w.cell? ⟨b, off + i * 5, none⟩ = some (.int .i64 (ks i).kind) ∧ w.cell? ⟨b, off + i * 5 + 1, none⟩ = some (.int .i64 (ks i).slot) ∧ w.cell? ⟨b, off + i * 5 + 2, none⟩ = some (.int .i64 (ks i).node) ∧ w.cell? ⟨b, off + i * 5 + 3, none⟩ = some (.int .i64 (ks i).nonce) ∧ w.cell? ⟨b, off + i * 5 + 4, none⟩ = some (.int .i64 (ks i).ahead)
  wf : ∀ i, i < len → inI (ks i).node ∧ inI (ks i).nonce ∧ inI (ks i).ahead
theorem ReadsK.below {w w' : World} {a : Option Addr} {len cap : Nat} {ks : Nat → K5} (h : ReadsK w a len cap ks) (hb : Below w.heap.size w w') : ReadsK w' a len cap ks :=
  ⟨h.le, h.small, h.cells.imp id fun ⟨b, off, ha, hc⟩ => ⟨b, off, ha, fun i hi => by
    obtain ⟨c0, c1, c2, c3, c4⟩ := hc i hi
    exact ⟨by rw [hb.cell (block_lt_of_cell c0), c0], by rw [hb.cell (block_lt_of_cell c1), c1], by rw [hb.cell (block_lt_of_cell c2), c2], by rw [hb.cell (block_lt_of_cell c3), c3], by rw [hb.cell (block_lt_of_cell c4), c4]⟩⟩, h.wf⟩
section
variable {H : Type} {enc : TypeId × Value → H} {w : World} {base : Nat} {held : Bool}
theorem addr_add (b off k : Nat) : (⟨b, off, none⟩ : Addr).add k = ⟨b, off + k, none⟩ := by simp [Addr.add]
theorem one3 : Try.prog.cellsOf 3 = 1 := by kernel_rfl
theorem one2 : Try.prog.cellsOf 2 = 1 := by kernel_rfl
theorem five33 : Try.prog.cellsOf 33 = 5 := by kernel_rfl
theorem drop_one {cs : List Value} {j : Nat} (h : j < cs.length) : (cs.drop j).take 1 = [cs[j]] := by
  rw [List.drop_eq_getElem_cons h]; rfl
theorem open_call {n : Nat} {cs : List Value} {x : DataW H × List MemPlace} {a : Addr} (hc : w.cells? base a 5 = some cs) (h : DataW.trod enc Try.prog w base (fun _ => true) held n 33 cs = some x) :
    ∃ k : K5, (w.cell? (a.add 0) = some (.int .i64 k.kind) ∧ w.cell? (a.add 1) = some (.int .i64 k.slot) ∧ w.cell? (a.add 2) = some (.int .i64 k.node) ∧ w.cell? (a.add 3) = some (.int .i64 k.nonce) ∧ w.cell? (a.add 4) = some (.int .i64 k.ahead)) ∧ inI k.node ∧ inI k.nonce ∧ inI k.ahead := by
  obtain ⟨ys, n', hn', hy, hlen, hyl, hf⟩ := DataW.trod_struct Try.underlying33 h
  obtain ⟨_, hcl, hat⟩ := World.cells?_some hc
  have hyl5 : ys.length = 5 := hyl
  have f0 : DataW.trod enc Try.prog w base (fun _ => true) held n' 3 (List.take (Try.prog.cellsOf 3) (List.drop 0 cs)) = ys[0]? := hf 0 _ rfl
  rw [one3, drop_one (by omega), List.getElem?_eq_getElem (by omega)] at f0
  have f1 : DataW.trod enc Try.prog w base (fun _ => true) held n' 3 (List.take (Try.prog.cellsOf 3) (List.drop 1 cs)) = ys[1]? := hf 1 _ rfl
  rw [one3, drop_one (by omega), List.getElem?_eq_getElem (by omega)] at f1
  have f2 : DataW.trod enc Try.prog w base (fun _ => true) held n' 3 (List.take (Try.prog.cellsOf 3) (List.drop 2 cs)) = ys[2]? := hf 2 _ rfl
  rw [one3, drop_one (by omega), List.getElem?_eq_getElem (by omega)] at f2
  have f3 : DataW.trod enc Try.prog w base (fun _ => true) held n' 2 (List.take (Try.prog.cellsOf 2) (List.drop 3 cs)) = ys[3]? := hf 3 _ rfl
  rw [one2, drop_one (by omega), List.getElem?_eq_getElem (by omega)] at f3
  have f4 : DataW.trod enc Try.prog w base (fun _ => true) held n' 2 (List.take (Try.prog.cellsOf 2) (List.drop 4 cs)) = ys[4]? := hf 4 _ rfl
  rw [one2, drop_one (by omega), List.getElem?_eq_getElem (by omega)] at f4
  obtain ⟨x0, e0, _, w0⟩ := DataW.trod_int Try.underlying3 f0
  obtain ⟨x1, e1, _, w1⟩ := DataW.trod_int Try.underlying3 f1
  obtain ⟨x2, e2, _, w2⟩ := DataW.trod_int Try.underlying3 f2
  obtain ⟨x3, e3, _, w3⟩ := DataW.trod_int Try.underlying2 f3
  obtain ⟨x4, e4, _, w4⟩ := DataW.trod_int Try.underlying2 f4
  simp only [List.cons.injEq, and_true] at e0 e1 e2 e3 e4
  have g : ∀ j (hj : j < 5) v, cs[j]'(by omega) = v → w.cell? (a.add j) = some v := fun j hj v hv => by
    rw [hat j hj, List.getElem?_eq_getElem (by omega), hv]
  exact ⟨⟨x0, x1, x2, x3, x4⟩, ⟨g 0 (by omega) _ e0, g 1 (by omega) _ e1, g 2 (by omega) _ e2, g 3 (by omega) _ e3, g 4 (by omega) _ e4⟩, i64_range w2, i64_range w3, i64_range w4⟩
theorem open_calls {fuel : Nat} {a : Option Addr} {len cap : Nat} {y : DataW H × List MemPlace} (h : DataW.trod enc Try.prog w base (fun _ => true) held fuel 25 [.slice a len cap] = some y) :
    ∃ ks, ReadsK w a len cap ks := by
  rcases open_slice Try.underlying25 h with ⟨hcs, _⟩ | ⟨x, l, c, m, n, D, Pl, hcs, _, hl, hm, hmm, _, hi⟩
  · simp at hcs
    obtain ⟨rfl, rfl, rfl⟩ := hcs
    exact ⟨fun _ => ⟨0, 0, 0, 0, 0⟩, Nat.le_refl _, by omega, .inl rfl, fun i hi => by omega⟩
  · simp at hcs
    obtain ⟨rfl, rfl, rfl⟩ := hcs
    simp only [if_true] at hmm
    subst hmm
    have hk : ∀ i, ∃ k : K5, i < len → ((w.cell? ((x.add (i * 5)).add 0) = some (.int .i64 k.kind) ∧ w.cell? ((x.add (i * 5)).add 1) = some (.int .i64 k.slot) ∧ w.cell? ((x.add (i * 5)).add 2) = some (.int .i64 k.node) ∧ w.cell? ((x.add (i * 5)).add 3) = some (.int .i64 k.nonce) ∧ w.cell? ((x.add (i * 5)).add 4) = some (.int .i64 k.ahead)) ∧ inI k.node ∧ inI k.nonce ∧ inI k.ahead) := fun i => by
      by_cases hlt : i < len
      · obtain ⟨cs', hc, ht⟩ := hi i (by omega)
        rw [five33] at hc
        obtain ⟨k, hk⟩ := open_call hc ht
        exact ⟨k, fun _ => hk⟩
      · exact ⟨⟨0, 0, 0, 0, 0⟩, fun h => absurd h hlt⟩
    obtain ⟨ks, hks⟩ := Classical.axiomOfChoice hk
    refine ⟨ks, hl, by unfold maxLen at hm; omega, ?_, fun i hi => (hks i hi).2⟩
    by_cases h0 : len = 0
    · exact .inl h0
    · refine .inr ?_
      obtain ⟨b, off, spot⟩ := x
      have h00 := (hks 0 (by omega)).1.1
      have hspot : spot = none := by simpa [Addr.add] using World.cell?_spot h00
      subst hspot
      refine ⟨b, off, rfl, fun i hi => ?_⟩
      obtain ⟨c0, c1, c2, c3, c4⟩ := (hks i hi).1
      simp only [addr_add, Nat.add_zero] at c0 c1 c2 c3 c4
      exact ⟨c0, c1, c2, c3, c4⟩
end
end Go.Proofs.Ytmhggpmhekeemaa
