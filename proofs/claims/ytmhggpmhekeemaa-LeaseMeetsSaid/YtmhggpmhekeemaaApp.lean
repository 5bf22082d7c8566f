/- An append onto a row of the call's own, from whatever slice reads. -/
import Derived.Test.YtmhggpmhekeemaaHolds
import Derived.Laws.OwnMore
namespace Go.Proofs.Ytmhggpmhekeemaa
open Go.RowKit

theorem Reads.alloc {k : IntKind} {w : World} {a : Option Addr} {len cap : Nat} {zs : List Int} (h : Reads k w a len cap zs) (o : Obj) : Reads k (w.alloc o) a len cap zs := h.below (bnew (brefl w) o)
/-- What is owned reads. -/
theorem reads_of_own {k : IntKind} {w : World} {base : Nat} {e : TypeId} {v : Value} {n : Nat} {zs : List Int} (h : w.ownsRow base e 1 v n (zs.map (Value.int k))) (hw : ∀ n ∈ zs, (Lit.int k n).wf = true) :
    ∃ a cap, v = .slice a n cap ∧ Reads k w a n cap zs := by
  have hl : zs.length = n := by have := h.1; simpa using this
  rcases h.2 with ⟨rfl, rfl⟩ | ⟨g, cap, cur, rfl, hb, hg, hn, hc, hs, ht⟩
  · have : zs = [] := List.eq_nil_of_length_eq_zero hl
    subst this
    exact ⟨none, 0, rfl, reads_none _ _ _⟩
  · refine ⟨some ⟨g, 0, none⟩, cap, rfl, ⟨hl, hn, hc, hw, (fun h => by cases h), .inr ⟨g, 0, rfl, fun i hi => ?_⟩⟩⟩
    have hz : i < zs.length := by omega
    rw [Nat.zero_add, h.cellAt i (by omega)]
    simp [hz]
/-- 'append(v, src...)': v the call's own, the source whatever reads; guarded or not. -/
theorem wp_append_reads {P : Program} {w : World} {o : Oper} {a : Act} {K : Act → World → Prop} {Q : Exit → Act → World → Prop} (s x : Operand) (t : TypeId)
    (ho : o.op = .call { callee := .builtin .append, args := #[s, x], argTypes := #[t, t] })
    (base : Nat) (e : TypeId) (i : TypeInfo) (z : Value) (bytes : Nat) (ht : P.underlying t = some (.slice e)) (hi : P.info? e = some i) (hz : i.zero = some z)
    (hsize : i.size = 1) (hby : i.bytes = bytes) (hzs : z.cells.size = 1)
    (v : Value) (n : Nat) (xs : List Value) (hs : a.eval s = v) (hown : w.ownsRow base e 1 v n xs)
    (k : IntKind) (ad : Option Addr) (m c : Nat) (zs : List Int) (hx : a.eval x = .slice ad m c) (hr : Reads k w ad m c zs)
    (h63 : n + m ≤ maxLen) (hbytes : (n + m) * bytes ≤ 140737488355328) (hbase : base ≤ w.heap.size)
    (h : ∀ v' w', w'.ownsRow base e 1 v' (n + m) (xs ++ zs.map (Value.int k)) → w.grownBy w' v.ownBlock → K (a.put o.dst v') w') : o.wp P a w K Q := by
  have hl := hr.length
  cases ad with
  | none =>
    have hc := hr.nil rfl
    subst hc
    have hm : m = 0 := by have := hr.le; omega
    subst hm
    have : zs = [] := List.eq_nil_of_length_eq_zero hl
    subst this
    have hrun := run_append_owned_none (P := P) (w := w) base t o.type e i 1 ht hi v n xs hown
    have hK := h v w (by simpa using hown) (World.grownBy.refl _ _)
    unfold Oper.wp
    simp [execOp, ho, resolve, invoke, builtin, hs, hx, hrun, Result.andThen]
    exact hK
  | some p =>
    refine wp_append_own w s x t ho base e i z 1 bytes ht hi hz hsize hby hzs (by decide) v n xs hs hown p m c (zs.map (Value.int k)) hx (by simp [hl]) ?_ ?_ h63 hbytes hbase (fun v' w' h1 h2 _ => h v' w' h1 h2)
    · intro j u hu
      rcases hr.cells with h0 | ⟨b, off, hp, hcell⟩
      · subst h0
        have : zs = [] := List.eq_nil_of_length_eq_zero hl
        subst this
        simp at hu
      · cases hp
        have hj : j < zs.length := by
          rcases Nat.lt_or_ge j zs.length with hlt | hge
          · exact hlt
          · simp [hge] at hu
        have := hcell j (by omega)
        rw [show (⟨b, off, none⟩ : Addr).add j = ⟨b, off + j, none⟩ by simp [Addr.add], this]
        simpa [List.getD, List.getElem?_eq_getElem hj] using hu
    · intro u hu
      simp only [List.mem_map] at hu
      obtain ⟨n, _, rfl⟩ := hu
      rfl
theorem wpList_append_reads {P : Program} {w : World} {ops : Array Oper} {rest : List Oper} {o : Oper} {a : Act} {Q : Exit → Act → World → Prop} (hw : Region.wanted o (yielded ops a.tmps) = true) (s x : Operand) (t : TypeId)
    (ho : o.op = .call { callee := .builtin .append, args := #[s, x], argTypes := #[t, t] })
    (base : Nat) (e : TypeId) (i : TypeInfo) (z : Value) (bytes : Nat) (ht : P.underlying t = some (.slice e)) (hi : P.info? e = some i) (hz : i.zero = some z)
    (hsize : i.size = 1) (hby : i.bytes = bytes) (hzs : z.cells.size = 1)
    (v : Value) (n : Nat) (xs : List Value) (hs : a.eval s = v) (hown : w.ownsRow base e 1 v n xs)
    (k : IntKind) (ad : Option Addr) (m c : Nat) (zs : List Int) (hx : a.eval x = .slice ad m c) (hr : Reads k w ad m c zs)
    (h63 : n + m ≤ maxLen) (hbytes : (n + m) * bytes ≤ 140737488355328) (hbase : base ≤ w.heap.size)
    (h : ∀ v' w', w'.ownsRow base e 1 v' (n + m) (xs ++ zs.map (Value.int k)) → w.grownBy w' v.ownBlock → wpList P ops Q rest (a.put o.dst v') w') : wpList P ops Q (o :: rest) a w :=
  BigFrame.wpList_want hw fun _ hK => wp_append_reads s x t ho base e i z bytes ht hi hz hsize hby hzs v n xs hs hown k ad m c zs hx hr h63 hbytes hbase fun v' w' h1 h2 => hK _ _ (h v' w' h1 h2)
theorem num_info : (Try.prog.info? 3).map (fun i => (i.zero, i.size, i.bytes)) = some (some (.int .i64 0), 1, 8) := by kernel_rfl
theorem bgrown {w a b : World} {row : Option Nat} (h : Below w.heap.size w a) (hg : a.grownBy b row) (hr : ∀ k, row = some k → w.heap.size ≤ k) : Below w.heap.size w b := h.grown hg h.size hr
theorem bgrown_lit {w a b : World} {g o n c : Nat} (h : Below w.heap.size w a) (hg : a.grownBy b (Value.ownBlock (.slice (some ⟨g, o, none⟩) n c))) (hle : w.heap.size ≤ g) : Below w.heap.size w b :=
  bgrown h hg (fun k hk => by
    have : g = k := by simpa [Value.ownBlock] using hk
    omega)
/-- A row's cells, read. -/
theorem reads_of_blk {k : IntKind} {w : World} {g n cap : Nat} {cur : Array Value} {e : TypeId} {fr : Nat × Nat} {zs : List Int} (hb : w.heap[g]? = some (.cells cur e fr)) (hn : n ≤ cap) (hm : cap ≤ 9223372036854775807) (hz : zs.length = n) (ht : cur.toList.take n = zs.map (Value.int k)) (hw : ∀ n ∈ zs, (Lit.int k n).wf = true) :
    Reads k w (some ⟨g, 0, none⟩) n cap zs := by
  refine ⟨hz, hn, hm, hw, (fun h => by cases h), .inr ⟨g, 0, rfl, fun i hi => ?_⟩⟩
  rw [cell_of_row _ _ _ _ _ _ hb, Nat.zero_add]
  have h1 : (cur.toList.take n)[i]? = (zs.map (Value.int k))[i]? := by rw [ht]
  rw [List.getElem?_take_of_lt hi] at h1
  rw [← Array.getElem?_toList, h1]
  have : i < zs.length := by omega
  simp [this]
theorem take_set_map {k : IntKind} {cur : Array Value} {n : Nat} {zs : List Int} (ht : cur.toList.take n = zs.map (Value.int k)) {j : Nat} (x : Int) : ((cur.set! j (.int k x)).toList.take n) = (zs.set j x).map (Value.int k) := by
  rw [Array.set!_eq_setIfInBounds, Array.toList_setIfInBounds, List.take_set, ht, List.map_set]
end Go.Proofs.Ytmhggpmhekeemaa
