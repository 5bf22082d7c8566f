/- An acceptor whose slot's grant is another one. -/
import Derived.Test.YtmhggpmhekeemaaOwn
import Derived.Laws.CopyRow
namespace Go.Proofs.Ytmhggpmhekeemaa
open Go.RowKit
/-- 'copy' of elements of three cells, all of a slice into a row of the same length. -/
theorem run_copy3 {P : Program} (w : World) (dT sT ty elem : TypeId) (g n dCap sCap : Nat) (a : Addr) (cur : Array Value) (t : TypeId) (cs : List Value)
    (hu : P.underlying dT = some (.slice elem)) (hs : (P.info? elem).map (·.size) = some 3)
    (hg : w.heap[g]? = some (.cells cur t (0, 0))) (hn : cs.length = n * 3)
    (hsrc : ∀ j v, cs[j]? = some v → w.cell? (a.add j) = some v) (hfit : cur.size = n * 3) (h1 : ∀ v ∈ cs, v.oneCell' = true) :
    (Builtin.copy_ #[dT, sT] ty #[.slice (some ⟨g, 0, none⟩) n dCap, .slice (some a) n sCap]).run P w =
      .ok (goInt n) (w.setRow g cs.toArray) := by
  have hl := run_loadCells_list (P := P) w a cs hsrc
  have hst := run_storeCells_at P g 0 t cs 0 cur w hg (by simp; omega) h1
  rw [hn] at hl
  have hd : List.drop cs.length cur.toList = [] := by simp; omega
  cases hq : P.info? elem with
  | none => simp [hq] at hs
  | some i =>
    have hi : i.size = 3 := by simpa [hq] using hs
    simp [Builtin.copy_, run_underlying hu, Builtin.lenOf, Builtin.firstCells, sizeOf, typeInfo, hq, hi, hl, hst, hd]
theorem wpList_copy3 {P : Program} {w : World} {ops : Array Oper} {rest : List Oper} {o : Oper} {a : Act} {Q : Exit → Act → World → Prop} (hgd : o.guard = none) (d s : Operand) (dT sT : TypeId)
    (ho : o.op = .call { callee := .builtin .copy, args := #[d, s], argTypes := #[dT, sT] }) (elem : TypeId) (hu : P.underlying dT = some (.slice elem)) (hsz : (P.info? elem).map (·.size) = some 3)
    (g n dCap : Nat) (ad : Addr) (sCap : Nat) (hd : a.eval d = .slice (some ⟨g, 0, none⟩) n dCap) (hs : a.eval s = .slice (some ad) n sCap)
    (cur : Array Value) (t : TypeId) (hg : w.heap[g]? = some (.cells cur t (0, 0))) (cs : List Value) (hn : cs.length = n * 3)
    (hsrc : ∀ j v, cs[j]? = some v → w.cell? (ad.add j) = some v) (hfit : cur.size = n * 3) (h1 : ∀ v ∈ cs, v.oneCell' = true)
    (h : wpList P ops Q rest (a.put o.dst (goInt n)) (w.setRow g cs.toArray)) : wpList P ops Q (o :: rest) a w := by
  refine wpList_plain hgd fun K hK => ?_
  have hrun := run_copy3 (P := P) w dT sT o.type elem g n dCap sCap ad cur t cs hu hsz hg hn hsrc hfit h1
  unfold Oper.wp
  simp [execOp, ho, resolve, invoke, builtin, hd, hs, hrun, Result.andThen]
  exact hK _ _ h
theorem run_make3 (n : Nat) (hn : n ≤ 20) (W : World) : ∃ cs : Array Value, cs.size = n * 3 ∧ (Instr.makeSlice 28 (.int .i64 (n : Int)) (.int .i64 (n : Int))).run Try.prog W = .ok (.slice (some ⟨W.heap.size, 0, none⟩) n n) (W.alloc (.cells cs 68)) := by
  obtain ⟨i0, hi, hz0, hz1, hz2⟩ := grant_i
  have hr := run_make (P := Try.prog) W 28 68 i0 _ Try.underlying28 hi hz0 .i64 .i64 n n (by omega) (Int.le_refl _) (by rw [hz2]; omega) (by omega)
  simp only [Int.toNat_natCast] at hr
  exact ⟨_, by rw [size_madeCells, hz1], hr⟩
theorem gset_wf {gs : List G3} (h : ∀ g ∈ gs, g.Wf) (k : Nat) {x : G3} (hx : x.Wf) : ∀ g ∈ gs.set k x, g.Wf := by
  intro g hg
  rcases List.mem_or_eq_of_mem_set hg with hg | rfl
  · exact h g hg
  · exact hx
/-- What stands behind three stores into a row. -/
theorem acc_set {w : World} {g : Nat} {n : Nat} {gs : List G3} {fl : List Value} (hg : w.heap[g]? = some (.cells fl.toArray 68 (0, 0))) (hf : fl = flat gs) (hl : gs.length = n) {k : Nat} (hk : k < n) (x : G3) :
    (((w.setCell ⟨g, k * 3, none⟩ (.int .i64 x.node)).setCell ⟨g, k * 3 + 1, none⟩ (.int .i64 x.nonce)).setCell ⟨g, k * 3 + 2, none⟩ (.int .i64 x.since)).heap[g]? = some (.cells (flat (gs.set k x)).toArray 68 (0, 0)) := by
  subst hf
  rw [heap_setCell_same _ _ _ _ _ _ (heap_setCell_same _ _ _ _ _ _ (heap_setCell_same _ _ _ _ _ _ hg)), flat_set _ _ _ (by omega)]
  simp
theorem acc_of_blk {w : World} {g n cap : Nat} {gs : List G3} {cur : Array Value} (hg : w.heap[g]? = some (.cells cur 68 (0, 0))) (hl : gs.length = n) (hc : n ≤ cap) (hm : cap ≤ maxLen) (hs : cur.size = cap * 3) (ht : cur.toList.take (n * 3) = flat gs) (hw : ∀ g ∈ gs, g.Wf) (hf : n ≤ 20) : Acc w (some ⟨g, 0, none⟩) n cap gs :=
  ⟨⟨by rw [flat_length, hl], .inr ⟨g, cap, cur, rfl, Nat.zero_le _, hg, hc, hm, hs, ht⟩⟩, hw, hf⟩
end Go.Proofs.Ytmhggpmhekeemaa
