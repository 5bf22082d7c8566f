/- A plan: how it stands in memory, and which may be, in plain Lean. -/
import Derived.Test.YtmhggpmhekeemaaProg
import Derived.WalkKit
import Derived.WalkLawsBesides
import Derived.Lib.Hide
import Derived.Lib.MinMax
import Derived.Laws.CopyOwn
namespace Go.Proofs.Ytmhggpmhekeemaa
open Go.RowKit

/-- A plan as it stands in memory: its numbers, where its lists lie, and what they read. -/
structure Cv where
  nodes : Int
  slots : Int
  rho : Int
  hold : Int
  grant : Int
  guard : Int
  work : Int
  sa : Option Addr
  sn : Nat
  sc : Nat
  na : Option Addr
  nn : Nat
  nc : Nat
  soak : Int
  pass : Int
  st : List Int
  ne : List Int
abbrev Cv.cells (C : Cv) : Array Value := #[.int .i64 C.nodes, .int .i64 C.slots, .int .i64 C.rho, .int .i64 C.hold, .int .i64 C.grant, .int .i64 C.guard, .int .i64 C.work, .slice C.sa C.sn C.sc, .slice C.na C.nn C.nc, .int .i64 C.soak, .int .i64 C.pass]

theorem ret_bool {a b : Bool} (h : a = b) : Ending.returned (.bool a) = .returned (.bool b) := by rw [h]
theorem ret_int {k : IntKind} {a b : Int} (h : a = b) : Ending.returned (.int k a) = .returned (.int k b) := by rw [h]

/-- A slice of numbers that can be read: its elements are zs, each fits. -/
structure Reads (k : IntKind) (w : World) (a : Option Addr) (len cap : Nat) (zs : List Int) : Prop where
  length : zs.length = len
  le : len ≤ cap
  small : cap ≤ 9223372036854775807
  wf : ∀ n ∈ zs, (Lit.int k n).wf = true
  nil : a = none → cap = 0
  cells : len = 0 ∨ ∃ b off, a = some ⟨b, off, none⟩ ∧ ∀ i, i < len → w.cell? ⟨b, off + i, none⟩ = some (.int k (zs.getD i 0))
theorem Reads.small' {k : IntKind} {w : World} {a : Option Addr} {len cap : Nat} {zs : List Int} (h : Reads k w a len cap zs) : len ≤ 9223372036854775807 := Nat.le_trans h.le h.small
theorem Reads.below {k : IntKind} {w w' : World} {a : Option Addr} {len cap : Nat} {zs : List Int} (h : Reads k w a len cap zs) (hb : Below w.heap.size w w') : Reads k w' a len cap zs :=
  ⟨h.length, h.le, h.small, h.wf, h.nil, h.cells.imp id fun ⟨b, off, ha, hc⟩ => ⟨b, off, ha, fun i hi => by rw [hb.cell (block_lt_of_cell (hc i hi)), hc i hi]⟩⟩
theorem reads_none (k : IntKind) (w : World) (a : Option Addr) : Reads k w a 0 0 [] := ⟨rfl, Nat.le_refl _, by omega, by simp, fun _ => rfl, .inl rfl⟩
/-- What the opener of a slice of integers gives. -/
theorem reads_of_row {k : IntKind} {w : World} {x : Addr} {len cap : Nat} {zs : List Int} (hl : len ≤ cap) (hm : cap ≤ maxLen) (hz : zs.length = cap) (hcell : ∀ i, i < zs.length → w.cell? (x.add i) = some (.int k (zs.getD i 0))) (hw : ∀ n ∈ zs, (Lit.int k n).wf = true) :
    Reads k w (some x) len cap (zs.take len) := by
  unfold maxLen at hm
  refine ⟨by simp; omega, hl, by omega, fun n hn => hw n (List.mem_of_mem_take hn), (fun h => by cases h), ?_⟩
  by_cases h0 : len = 0
  · exact .inl h0
  · refine .inr ?_
    obtain ⟨b, off, spot⟩ := x
    have hc := hcell 0 (by omega)
    have hspot : spot = none := by simpa [Addr.add] using World.cell?_spot hc
    subst hspot
    refine ⟨b, off, rfl, fun i hi => ?_⟩
    have := hcell i (by omega)
    rw [show (⟨b, off, none⟩ : Addr).add i = ⟨b, off + i, none⟩ by simp [Addr.add]] at this
    rw [this]
    have h1 : i < zs.length := by omega
    simp [List.getD, hi, List.getElem?_eq_getElem h1]
theorem i64_range {a : Int} (h : (Lit.int .i64 a).wf = true) : -9223372036854775808 ≤ a ∧ a ≤ 9223372036854775807 := by
  simp only [Lit.wf, Bool.and_eq_true, decide_eq_true_eq] at h
  have h1 : IntKind.i64.min = -9223372036854775808 := rfl
  have h2 : IntKind.i64.max = 9223372036854775807 := rfl
  omega
/-- One call behind another. -/
theorem bnext {w a b : World} (h : Below w.heap.size w a) (k : Below a.heap.size a b) : Below w.heap.size w b := h.trans (k.mono h.size)
theorem bnew {w a : World} (h : Below w.heap.size w a) (o : Obj) : Below w.heap.size w (a.alloc o) := h.alloc h.size o
theorem brefl (w : World) : Below w.heap.size w w := Below.refl _ _
def cellsOf (k : IntKind) (zs : List Int) : Array Value := (zs.map (Value.int k)).toArray
theorem blk_cell {wr : World} {g : Nat} {e : TypeId} {k : IntKind} {zs : List Int} {fr : Nat × Nat} (h : wr.heap[g]? = some (.cells (cellsOf k zs) e fr)) {j : Nat} (hj : j < zs.length) : wr.cell? ⟨g, j, none⟩ = some (.int k (zs.getD j 0)) := by
  rw [cell_of_row _ _ _ _ _ _ h]; simp [cellsOf, hj]
theorem blk_free {wr : World} {g : Nat} {e : TypeId} {cs : Array Value} {j : Nat} (h : wr.heap[g]? = some (.cells cs e (0, 0))) : wr.frozen? ⟨g, j, none⟩ = false := by
  simp [World.frozen?, h]
theorem blk_set {wr : World} {g : Nat} {e : TypeId} {k : IntKind} {zs : List Int} (h : wr.heap[g]? = some (.cells (cellsOf k zs) e (0, 0))) (j : Nat) (x : Int) : (wr.setCell ⟨g, j, none⟩ (.int k x)).heap[g]? = some (.cells (cellsOf k (zs.set j x)) e (0, 0)) := by
  rw [heap_setCell_same _ _ _ _ _ _ h]
  simp [cellsOf, List.map_set]
theorem blk_reads {wr : World} {g : Nat} {e : TypeId} {k : IntKind} {zs : List Int} {fr : Nat × Nat} (h : wr.heap[g]? = some (.cells (cellsOf k zs) e fr)) (hs : zs.length ≤ 9223372036854775807) (hw : ∀ n ∈ zs, (Lit.int k n).wf = true) : Reads k wr (some ⟨g, 0, none⟩) zs.length zs.length zs :=
  ⟨rfl, Nat.le_refl _, hs, hw, (fun h => by cases h), .inr ⟨g, 0, rfl, fun i hi => by rw [cell_of_row _ _ _ _ _ _ h]; simp [cellsOf, hi]⟩⟩

/-- A plan that reads: its numbers fit, its lists read. -/
structure Good (w : World) (C : Cv) : Prop where
  st : Reads .i64 w C.sa C.sn C.sc C.st
  ne : Reads .i64 w C.na C.nn C.nc C.ne
  r0 : -9223372036854775808 ≤ C.nodes ∧ C.nodes ≤ 9223372036854775807
  r1 : -9223372036854775808 ≤ C.slots ∧ C.slots ≤ 9223372036854775807
  r2 : -9223372036854775808 ≤ C.rho ∧ C.rho ≤ 9223372036854775807
  r3 : -9223372036854775808 ≤ C.hold ∧ C.hold ≤ 9223372036854775807
  r4 : -9223372036854775808 ≤ C.grant ∧ C.grant ≤ 9223372036854775807
  r5 : -9223372036854775808 ≤ C.guard ∧ C.guard ≤ 9223372036854775807
  r6 : -9223372036854775808 ≤ C.work ∧ C.work ≤ 9223372036854775807
  r7 : -9223372036854775808 ≤ C.soak ∧ C.soak ≤ 9223372036854775807
  r8 : -9223372036854775808 ≤ C.pass ∧ C.pass ≤ 9223372036854775807
theorem Good.below {w w' : World} {C : Cv} (h : Good w C) (hb : Below w.heap.size w w') : Good w' C := { h with st := h.st.below hb, ne := h.ne.below hb }

def q1 (C : Cv) : Bool := decide (1 ≤ C.nodes ∧ C.nodes ≤ 9 ∧ 1 ≤ C.slots ∧ C.slots ≤ C.nodes)
def inR (t : Int) : Bool := decide (1 ≤ t ∧ t ≤ 1073741824)
def tmB (C : Cv) : Bool := inR C.hold && (inR C.grant && (inR C.guard && (inR C.work && decide (C.hold * (1000 + C.rho) < C.grant * (1000 - C.rho) ∧ 1000 + C.rho ≤ C.guard))))
def q2 (C : Cv) : Bool := decide (0 ≤ C.rho ∧ C.rho ≤ 500) && tmB C
def q4 (C : Cv) : Bool := decide (1 ≤ C.soak ∧ C.soak ≤ 20 ∧ 0 ≤ C.pass ∧ C.pass ≤ 1000)

/-- How many of a list are a number. -/
def cnt : List Int → Int → Int
  | [], _ => 0
  | x :: r, s => (if x = s then 1 else 0) + cnt r s
theorem cnt_append (a b : List Int) (s : Int) : cnt (a ++ b) s = cnt a s + cnt b s := by
  induction a with
  | nil => simp [cnt]
  | cons x r ih => simp only [List.cons_append, cnt, ih]; omega
theorem cnt_range (l : List Int) (s : Int) : 0 ≤ cnt l s ∧ cnt l s ≤ l.length := by
  induction l with
  | nil => simp [cnt]
  | cons x r ih => simp only [cnt, List.length_cons]; split <;> omega
def mostOf (l : List Int) : Int := l.foldl max 0
theorem mostOf_append (l : List Int) (x : Int) : mostOf (l ++ [x]) = max (mostOf l) x := by simp [mostOf]
theorem mostOf_range {l : List Int} (h : ∀ s ∈ l, 0 ≤ s ∧ s < 4) : 0 ≤ mostOf l ∧ mostOf l < 4 := by
  have gen : ∀ (l : List Int) (m : Int), 0 ≤ m → m < 4 → (∀ s ∈ l, 0 ≤ s ∧ s < 4) → 0 ≤ l.foldl max m ∧ l.foldl max m < 4 := by
    intro l
    induction l with
    | nil => intro m h0 h1 _; exact ⟨h0, h1⟩
    | cons x r ih =>
      intro m h0 h1 h
      have hx := h x (by simp)
      exact ih (max m x) (by omega) (by omega) (fun s hs => h s (by simp [hs]))
  exact gen l 0 (by omega) (by omega) h
def okS (s : Int) : Bool := decide (0 ≤ s ∧ s < 4)
def okN (C : Cv) (i : Nat) : Bool := decide (0 ≤ C.ne.getD i 0 ∧ C.ne.getD i 0 ≤ cnt C.st i)
def stB (C : Cv) : Bool := C.st.all okS && (decide ((C.sn : Int) = C.nodes ∧ (C.nn : Int) = mostOf C.st + 1) && (List.range C.nn).all (okN C))
def chk (C : Cv) : Bool := q1 C && (q2 C && (stB C && q4 C))
theorem okS_of {l : List Int} (h : l.all okS = true) : ∀ s ∈ l, 0 ≤ s ∧ s < 4 := by
  intro s hs
  have := List.all_eq_true.1 h s hs
  simpa [okS] using this
theorem stB_bad {C : Cv} {k : Nat} (hk : k < C.st.length) (h : ¬ (0 ≤ C.st.getD k 0 ∧ C.st.getD k 0 < 4)) : stB C = false := by
  have : C.st.all okS = false := by
    rw [Bool.eq_false_iff]
    intro ht
    refine h ?_
    rw [List.getD, List.getElem?_eq_getElem hk]
    exact okS_of ht _ (List.getElem_mem _)
  unfold stB
  rw [this]; rfl
theorem stB_long {C : Cv} (h : ¬ ((C.sn : Int) = C.nodes ∧ (C.nn : Int) = mostOf C.st + 1)) : stB C = false := by
  unfold stB
  rw [decide_eq_false h]; simp
theorem stB_need {C : Cv} {k : Nat} (hk : k < C.nn) (h : ¬ (0 ≤ C.ne.getD k 0 ∧ C.ne.getD k 0 ≤ cnt C.st k)) : stB C = false := by
  have : (List.range C.nn).all (okN C) = false := by
    rw [Bool.eq_false_iff]
    intro ht
    have := List.all_eq_true.1 ht k (List.mem_range.2 hk)
    exact h (by simpa [okN] using this)
  unfold stB
  rw [this]; simp
theorem stB_good {C : Cv} (h1 : ∀ s ∈ C.st, 0 ≤ s ∧ s < 4) (h2 : (C.sn : Int) = C.nodes ∧ (C.nn : Int) = mostOf C.st + 1) (h3 : ∀ k, k < C.nn → 0 ≤ C.ne.getD k 0 ∧ C.ne.getD k 0 ≤ cnt C.st k) : stB C = true := by
  unfold stB
  have e1 : C.st.all okS = true := List.all_eq_true.2 fun s hs => by simpa [okS] using h1 s hs
  have e2 : (List.range C.nn).all (okN C) = true := List.all_eq_true.2 fun k hk => by simpa [okN] using h3 k (List.mem_range.1 hk)
  rw [e1, e2, decide_eq_true h2]; rfl
end Go.Proofs.Ytmhggpmhekeemaa
