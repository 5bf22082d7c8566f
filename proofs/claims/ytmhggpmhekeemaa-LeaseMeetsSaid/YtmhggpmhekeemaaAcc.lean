/- What a node granted: how it stands in memory; an append and a copy of elements of any size. -/
import Derived.Test.YtmhggpmhekeemaaApp
import Derived.Deep.Onto
import Derived.Deep.RegionHeld3
namespace Go.Proofs.Ytmhggpmhekeemaa
open Go.RowKit

/-- A grant: to whom, by what number, since when. -/
structure G3 where
  node : Int
  nonce : Int
  since : Int
def flat : List G3 → List Value
  | [] => []
  | g :: r => .int .i64 g.node :: .int .i64 g.nonce :: .int .i64 g.since :: flat r
def inI (a : Int) : Prop := -9223372036854775808 ≤ a ∧ a ≤ 9223372036854775807
structure G3.Wf (g : G3) : Prop where
  node : inI g.node
  nonce : inI g.nonce
  since : inI g.since
def gnone : G3 := ⟨-1, 0, 0⟩
theorem gnone_wf : gnone.Wf := ⟨by unfold inI gnone; decide, by unfold inI gnone; decide, by unfold inI gnone; decide⟩
theorem flat_length (l : List G3) : (flat l).length = l.length * 3 := by
  induction l with
  | nil => rfl
  | cons g r ih => simp only [flat, List.length_cons, ih]; omega
theorem flat_append (a b : List G3) : flat (a ++ b) = flat a ++ flat b := by
  induction a with
  | nil => rfl
  | cons g r ih => simp [flat, ih]
theorem flat_get (l : List G3) (k : Nat) (hk : k < l.length) : (flat l)[k * 3]? = some (.int .i64 (l.getD k gnone).node) ∧ (flat l)[k * 3 + 1]? = some (.int .i64 (l.getD k gnone).nonce) ∧ (flat l)[k * 3 + 2]? = some (.int .i64 (l.getD k gnone).since) := by
  induction l generalizing k with
  | nil => simp at hk
  | cons g r ih =>
    cases k with
    | zero => simp [flat]
    | succ k =>
      have := ih k (by simpa using hk)
      have e : (k + 1) * 3 = k * 3 + 3 := by omega
      rw [e]
      simpa [flat] using this
theorem flat_set (l : List G3) (k : Nat) (g : G3) (hk : k < l.length) : flat (l.set k g) = (((flat l).set (k * 3) (.int .i64 g.node)).set (k * 3 + 1) (.int .i64 g.nonce)).set (k * 3 + 2) (.int .i64 g.since) := by
  induction l generalizing k with
  | nil => simp at hk
  | cons x r ih =>
    cases k with
    | zero => simp [flat]
    | succ k =>
      have := ih k (by simpa using hk)
      have e : (k + 1) * 3 = k * 3 + 3 := by omega
      rw [e]
      simpa [flat] using this
theorem flat_one (l : List G3) : ∀ v ∈ flat l, v.oneCell' = true := by
  induction l with
  | nil => simp [flat]
  | cons g r ih =>
    intro v hv
    simp only [flat, List.mem_cons] at hv
    rcases hv with rfl | rfl | rfl | hv
    · rfl
    · rfl
    · rfl
    · exact ih v hv

/-- The grants of an acceptor: a row of its own, or nil; each number fits. -/
structure Acc (w : World) (ad : Option Addr) (n cap : Nat) (gs : List G3) : Prop where
  own : w.ownsRow 0 68 3 (.slice ad n cap) n (flat gs)
  wf : ∀ g ∈ gs, g.Wf
  few : n ≤ 20
theorem Acc.len {w : World} {ad : Option Addr} {n cap : Nat} {gs : List G3} (h : Acc w ad n cap gs) : gs.length = n := by
  have := h.own.1
  rw [flat_length] at this
  omega
theorem Acc.cases {w : World} {ad : Option Addr} {n cap : Nat} {gs : List G3} (h : Acc w ad n cap gs) :
    (ad = none ∧ n = 0 ∧ cap = 0 ∧ gs = []) ∨ ∃ g cur, ad = some ⟨g, 0, none⟩ ∧ w.heap[g]? = some (.cells cur 68 (0, 0)) ∧ n ≤ cap ∧ cap ≤ maxLen ∧ cur.size = cap * 3 ∧ cur.toList.take (n * 3) = flat gs := by
  rcases h.own.2 with ⟨hv, h0⟩ | ⟨g, cap', cur, hv, _, hg, hnc, hm, hs, ht⟩
  · simp only [Value.slice.injEq] at hv
    obtain ⟨rfl, rfl, rfl⟩ := hv
    refine .inl ⟨rfl, rfl, rfl, ?_⟩
    have := h.len
    exact List.eq_nil_of_length_eq_zero this
  · simp only [Value.slice.injEq, true_and] at hv
    obtain ⟨rfl, rfl⟩ := hv
    exact .inr ⟨g, cur, rfl, hg, hnc, hm, hs, ht⟩
theorem Acc.below {w w' : World} {ad : Option Addr} {n cap : Nat} {gs : List G3} (h : Acc w ad n cap gs) (hb : Below w.heap.size w w') : Acc w' ad n cap gs := by
  refine ⟨⟨h.own.1, ?_⟩, h.wf, h.few⟩
  rcases h.own.2 with h0 | ⟨g, cap', cur, hv, hbg, hg, r⟩
  · exact .inl h0
  · exact .inr ⟨g, cap', cur, hv, hbg, (hb.block _ (lt_of_block hg)).trans hg, r⟩
theorem acc_nil (w : World) : Acc w none 0 0 [] := ⟨⟨rfl, .inl ⟨rfl, rfl⟩⟩, by simp, by omega⟩
theorem acc_of_own {w : World} {base n cap : Nat} {ad : Option Addr} {gs : List G3} (h : w.ownsRow base 68 3 (.slice ad n cap) n (flat gs)) (hw : ∀ g ∈ gs, g.Wf) (hf : n ≤ 20) : Acc w ad n cap gs := ⟨h.mono (Nat.zero_le _), hw, hf⟩
/-- What stands in a slot. -/
theorem Acc.cell {w : World} {ad : Option Addr} {n cap : Nat} {gs : List G3} (h : Acc w ad n cap gs) {k : Nat} (hk : k < n) :
    ∃ b, ad = some ⟨b, 0, none⟩ ∧ w.cell? ⟨b, k * 3, none⟩ = some (.int .i64 (gs.getD k gnone).node) ∧ w.cell? ⟨b, k * 3 + 1, none⟩ = some (.int .i64 (gs.getD k gnone).nonce) ∧ w.cell? ⟨b, k * 3 + 2, none⟩ = some (.int .i64 (gs.getD k gnone).since) := by
  rcases h.cases with ⟨_, h0, _⟩ | ⟨b, cur, rfl, hg, hnc, hm, hs, ht⟩
  · omega
  · have hl := h.len
    obtain ⟨e0, e1, e2⟩ := flat_get gs k (by omega)
    have get : ∀ j v, j < n * 3 → (flat gs)[j]? = some v → w.cell? ⟨b, j, none⟩ = some v := fun j v hj hv => by
      rw [cell_of_row _ _ _ _ _ _ hg]
      rw [← ht, List.getElem?_take_of_lt hj] at hv
      rw [← Array.getElem?_toList, hv]
    exact ⟨b, rfl, get _ _ (by omega) e0, get _ _ (by omega) e1, get _ _ (by omega) e2⟩
theorem Acc.getD_wf {w : World} {ad : Option Addr} {n cap : Nat} {gs : List G3} (h : Acc w ad n cap gs) (k : Nat) : (gs.getD k gnone).Wf := by
  by_cases hk : k < gs.length
  · rw [List.getD, List.getElem?_eq_getElem hk]; exact h.wf _ (List.getElem_mem _)
  · rw [List.getD, List.getElem?_eq_none (by omega)]; exact gnone_wf

/-- 'append(v, src...)': v the call's own, the source a row, or nil; elements of any size. -/
theorem wp_append_row {P : Program} {w : World} {o : Oper} {a : Act} {K : Act → World → Prop} {Q : Exit → Act → World → Prop} (s x : Operand) (t : TypeId)
    (ho : o.op = .call { callee := .builtin .append, args := #[s, x], argTypes := #[t, t] })
    (base : Nat) (e : TypeId) (i : TypeInfo) (z : Value) (size bytes : Nat) (ht : P.underlying t = some (.slice e)) (hi : P.info? e = some i) (hz : i.zero = some z)
    (hsize : i.size = size) (hby : i.bytes = bytes) (hzs : z.cells.size = size) (hsz : 0 < size)
    (v : Value) (n : Nat) (xs : List Value) (hs : a.eval s = v) (hown : w.ownsRow base e size v n xs)
    (ad : Option Addr) (m c : Nat) (news : List Value) (hx : a.eval x = .slice ad m c) (hnil : ad = none → m = 0 ∧ c = 0) (hl : news.length = m * size)
    (hnews : ∀ p, ad = some p → ∀ j u, news[j]? = some u → w.cell? (p.add j) = some u) (h1 : ∀ u ∈ news, u.oneCell' = true)
    (h63 : n + m ≤ maxLen) (hbytes : (n + m) * bytes ≤ 140737488355328) (hbase : base ≤ w.heap.size)
    (h : ∀ v' w', w'.ownsRow base e size v' (n + m) (xs ++ news) → w.grownBy w' v.ownBlock → K (a.put o.dst v') w') : o.wp P a w K Q := by
  cases ad with
  | none =>
    obtain ⟨rfl, rfl⟩ := hnil rfl
    have : news = [] := List.eq_nil_of_length_eq_zero (by simpa using hl)
    subst this
    have hrun := run_append_owned_none (P := P) (w := w) base t o.type e i size ht hi v n xs hown
    have hK := h v w (by simpa using hown) (World.grownBy.refl _ _)
    unfold Oper.wp
    simp [execOp, ho, resolve, invoke, builtin, hs, hx, hrun, Result.andThen]
    exact hK
  | some p => exact wp_append_own w s x t ho base e i z size bytes ht hi hz hsize hby hzs hsz v n xs hs hown p m c news hx hl (hnews p rfl) h1 h63 hbytes hbase (fun v' w' h1 h2 _ => h v' w' h1 h2)
/-- The same, a step of a region. -/
theorem step_append_row {P : Program} {w : World} {ops : Array Oper} {o : Oper} {a : Act} {K : Act → World → Prop} {Q : Exit → Act → World → Prop} {E : Prop} (hw : Region.wanted o (yielded ops a.tmps) = true) (s x : Operand) (t : TypeId)
    (ho : o.op = .call { callee := .builtin .append, args := #[s, x], argTypes := #[t, t] })
    (base : Nat) (e : TypeId) (i : TypeInfo) (z : Value) (size bytes : Nat) (ht : P.underlying t = some (.slice e)) (hi : P.info? e = some i) (hz : i.zero = some z)
    (hsize : i.size = size) (hby : i.bytes = bytes) (hzs : z.cells.size = size) (hsz : 0 < size)
    (v : Value) (n : Nat) (xs : List Value) (hs : a.eval s = v) (hown : w.ownsRow base e size v n xs)
    (ad : Option Addr) (m c : Nat) (news : List Value) (hx : a.eval x = .slice ad m c) (hnil : ad = none → m = 0 ∧ c = 0) (hl : news.length = m * size)
    (hnews : ∀ p, ad = some p → ∀ j u, news[j]? = some u → w.cell? (p.add j) = some u) (h1 : ∀ u ∈ news, u.oneCell' = true)
    (h63 : n + m ≤ maxLen) (hbytes : (n + m) * bytes ≤ 140737488355328) (hbase : base ≤ w.heap.size)
    (h : ∀ v' w', w'.ownsRow base e size v' (n + m) (xs ++ news) → w.grownBy w' v.ownBlock → K (a.put o.dst v') w') :
    if Region.wanted o (yielded ops a.tmps) = true then Oper.wp P o a w K Q else E := by
  rw [if_pos hw]
  exact wp_append_row s x t ho base e i z size bytes ht hi hz hsize hby hzs hsz v n xs hs hown ad m c news hx hnil hl hnews h1 h63 hbytes hbase h
theorem wpList_append_row {P : Program} {w : World} {ops : Array Oper} {rest : List Oper} {o : Oper} {a : Act} {Q : Exit → Act → World → Prop} (hw : Region.wanted o (yielded ops a.tmps) = true) (s x : Operand) (t : TypeId)
    (ho : o.op = .call { callee := .builtin .append, args := #[s, x], argTypes := #[t, t] })
    (base : Nat) (e : TypeId) (i : TypeInfo) (z : Value) (size bytes : Nat) (ht : P.underlying t = some (.slice e)) (hi : P.info? e = some i) (hz : i.zero = some z)
    (hsize : i.size = size) (hby : i.bytes = bytes) (hzs : z.cells.size = size) (hsz : 0 < size)
    (v : Value) (n : Nat) (xs : List Value) (hs : a.eval s = v) (hown : w.ownsRow base e size v n xs)
    (ad : Option Addr) (m c : Nat) (news : List Value) (hx : a.eval x = .slice ad m c) (hnil : ad = none → m = 0 ∧ c = 0) (hl : news.length = m * size)
    (hnews : ∀ p, ad = some p → ∀ j u, news[j]? = some u → w.cell? (p.add j) = some u) (h1 : ∀ u ∈ news, u.oneCell' = true)
    (h63 : n + m ≤ maxLen) (hbytes : (n + m) * bytes ≤ 140737488355328) (hbase : base ≤ w.heap.size)
    (h : ∀ v' w', w'.ownsRow base e size v' (n + m) (xs ++ news) → w.grownBy w' v.ownBlock → wpList P ops Q rest (a.put o.dst v') w') : wpList P ops Q (o :: rest) a w :=
  BigFrame.wpList_want hw fun _ hK => wp_append_row s x t ho base e i z size bytes ht hi hz hsize hby hzs hsz v n xs hs hown ad m c news hx hnil hl hnews h1 h63 hbytes hbase fun v' w' h1 h2 => hK _ _ (h v' w' h1 h2)
theorem grant_info : (Try.prog.info? 68).map (fun i => (i.zero, i.size, i.bytes)) = some (some (.agg #[.int .i64 0, .int .i64 0, .int .i64 0]), 3, 24) := by kernel_rfl
theorem grant_i : ∃ i, Try.prog.info? 68 = some i ∧ i.zero = some (.agg #[.int .i64 0, .int .i64 0, .int .i64 0]) ∧ i.size = 3 ∧ i.bytes = 24 := by
  have := grant_info
  cases h : Try.prog.info? 68 with
  | none => rw [h] at this; cases this
  | some i => rw [h] at this; simp at this; exact ⟨i, rfl, this.1, this.2.1, this.2.2⟩
theorem Acc.news {w : World} {ad : Option Addr} {n cap : Nat} {gs : List G3} (h : Acc w ad n cap gs) : ∀ p, ad = some p → ∀ j u, (flat gs)[j]? = some u → w.cell? (p.add j) = some u := by
  intro p hp j u hu
  rcases h.cases with ⟨h0, _⟩ | ⟨b, cur, rfl, hg, hnc, hm, hs, ht⟩
  · rw [h0] at hp; cases hp
  · cases hp
    have hj : j < n * 3 := by
      rw [← h.len, ← flat_length]
      rcases Nat.lt_or_ge j (flat gs).length with hlt | hge
      · exact hlt
      · simp [hge] at hu
    rw [show (⟨b, 0, none⟩ : Addr).add j = ⟨b, j, none⟩ by simp [Addr.add]; omega, cell_of_row _ _ _ _ _ _ hg]
    rw [← ht, List.getElem?_take_of_lt hj] at hu
    rw [← Array.getElem?_toList, hu]
theorem Acc.nil {w : World} {ad : Option Addr} {n cap : Nat} {gs : List G3} (h : Acc w ad n cap gs) : ad = none → n = 0 ∧ cap = 0 := by
  intro h0
  rcases h.cases with ⟨_, h1, h2, _⟩ | ⟨b, cur, h3, _⟩
  · exact ⟨h1, h2⟩
  · rw [h0] at h3; cases h3
theorem Acc.small {w : World} {ad : Option Addr} {n cap : Nat} {gs : List G3} (h : Acc w ad n cap gs) : n ≤ cap ∧ cap ≤ maxLen := by
  rcases h.cases with ⟨_, h1, h2, _⟩ | ⟨b, cur, h3, _, h4, h5, _⟩
  · subst h1 h2; simp
  · exact ⟨h4, h5⟩
end Go.Proofs.Ytmhggpmhekeemaa
