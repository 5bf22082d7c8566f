/- What is told of a clock, and how long a node waits. -/
import Derived.Test.YtmhggpmhekeemaaLAwake
import Derived.Test.YtmhggpmhekeemaaOpen
import Derived.Deep.Matrix
namespace Go.Proofs.Ytmhggpmhekeemaa
open Go.RowKit
/-- A row of a slice of slices. -/
structure RowV where
  a : Option Addr
  n : Nat
  c : Nat
  zs : List Int
/-- A slice of slices of numbers that can be read. -/
structure ReadsR (w : World) (a : Option Addr) (len cap : Nat) (rs : Nat → RowV) : Prop where
  le : len ≤ cap
  small : cap ≤ 9223372036854775807
  cells : len = 0 ∨ ∃ b off, a = some ⟨b, off, none⟩ ∧ ∀ i, i < len → w.cell? ⟨b, off + i, none⟩ = some (.slice (rs i).a (rs i).n (rs i).c) ∧ Reads .i64 w (rs i).a (rs i).n (rs i).c (rs i).zs
theorem ReadsR.below {w w' : World} {a : Option Addr} {len cap : Nat} {rs : Nat → RowV} (h : ReadsR w a len cap rs) (hb : Below w.heap.size w w') : ReadsR w' a len cap rs :=
  ⟨h.le, h.small, h.cells.imp id fun ⟨b, off, ha, hc⟩ => ⟨b, off, ha, fun i hi => ⟨by rw [hb.cell (block_lt_of_cell (hc i hi).1), (hc i hi).1], (hc i hi).2.below hb⟩⟩⟩
def waitN (zs : List Int) (n : Nat) : Nat := if n < zs.length then (zs.getD n 0).toNat % 20 else 0
theorem waitN_lt (zs : List Int) (n : Nat) : waitN zs n < 20 := by unfold waitN; split <;> omega
def SomeNum (e : Ending) : Prop := ∃ x : Int, e = .returned (.int .i64 x)
set_option maxRecDepth 100000 in
set_option maxHeartbeats 1000000 in
theorem told_any (a : Option Addr) (len cap : Nat) (rs : Nat → RowV) (t n : Nat) (w : World) (h : ReadsR w a len cap rs) (ht : t < 60) (hn : n < 9) :
    Calls Try.prog 36 #[.slice a len cap, .int .i64 t, .int .i64 n] w fun e w' => SomeNum e ∧ w = w' := by
  have hl : len ≤ 9223372036854775807 := Nat.le_trans h.le h.small
  by_cases h0 : len = 0
  · subst h0
    clear h
    go_enter Try.func36, Try.ntmps36
    go_wp2_with fail
    go_ret
    exact ⟨⟨_, rfl⟩, rfl⟩
  · rcases h.cells with q | ⟨b, off, ha, hc⟩
    · exact absurd q h0
    subst ha
    have hm : t % len < len := Nat.mod_lt _ (by omega)
    obtain ⟨c0, hr⟩ := hc (t % len) hm
    obtain ⟨⟨ra, rn, rc, rz⟩, hR⟩ : ∃ R, rs (t % len) = R := ⟨_, rfl⟩
    rw [hR] at c0 hr
    simp only at c0 hr
    have hrn := hr.small'
    have HM : ((t : Int) % (len : Int)) = ((t % len : Nat) : Int) := rfl
    obtain ⟨j, hj⟩ : ∃ j, t % len = j := ⟨_, rfl⟩
    rw [hj] at c0 hm
    have hlen : (j : Int) < len := by omega
    have hix := indexAt_slice (a := some ⟨b, off, none⟩) (c := cap) rfl hm
    have HJ : (t : Int) % (len : Int) = (j : Int) := by rw [HM, hj]
    clear HM hR hc h
    by_cases hlt : n < rn
    · rcases hr.cells with q | ⟨b', off', ha', hc'⟩
      · exact absurd q (by omega)
      subst ha'
      have c1 := hc' n hlt
      clear hr hc' hj
      go_enter Try.func36, Try.ntmps36
      go_wp2_with fail
      go_ret
      exact ⟨⟨_, rfl⟩, rfl⟩
    · clear hr hj
      go_enter Try.func36, Try.ntmps36
      go_wp2_with fail
      go_ret
      exact ⟨⟨_, rfl⟩, rfl⟩
set_option maxRecDepth 100000 in
set_option maxHeartbeats 1000000 in
theorem wait_any (a : Option Addr) (len cap : Nat) (zs : List Int) (n : Nat) (w : World) (h : Reads .u8 w a len cap zs) (hn : n < 100) :
    Calls Try.prog 37 #[.slice a len cap, .int .i64 n] w fun e w' => e = .returned (.int .i64 (waitN zs n)) ∧ w = w' := by
  have hl := h.small'
  by_cases hlt : n < len
  · rcases h.cells with q | ⟨b, off, ha, hc⟩
    · exact absurd q (by omega)
    subst ha
    have c0 := hc n hlt
    have hw : (Lit.int .u8 (zs.getD n 0)).wf = true := by
      have : n < zs.length := by rw [h.length]; exact hlt
      rw [List.getD, List.getElem?_eq_getElem this]; exact h.wf _ (List.getElem_mem this)
    have HE : Hid (waitN zs n = (zs.getD n 0).toNat % 20) := by
      show _ = _
      unfold waitN; rw [if_pos (by rw [h.length]; exact hlt)]
    obtain ⟨v, hv⟩ : ∃ v, zs.getD n 0 = v := ⟨_, rfl⟩
    rw [hv] at c0 hw HE
    have r : 0 ≤ v ∧ v ≤ 255 := by
      simp only [Lit.wf, Bool.and_eq_true, decide_eq_true_eq] at hw
      have h1 : IntKind.u8.min = 0 := rfl
      have h2 : IntKind.u8.max = 255 := rfl
      omega
    obtain ⟨r0, r1⟩ := r
    clear hv hw h hc
    go_enter Try.func37, Try.ntmps37
    go_wp2_with fail
    go_ret
    exact ⟨ret_int (by rw [HE.out]; omega), rfl⟩
  · have HE : Hid (waitN zs n = 0) := by
      show _ = _
      unfold waitN; rw [if_neg (by rw [h.length]; exact hlt)]
    clear h
    go_enter Try.func37, Try.ntmps37
    go_wp2_with fail
    go_ret
    exact ⟨ret_int (by rw [HE.out]; rfl), rfl⟩
section
open Go.Joins Go.ChangeShapes Go.WideShapes Go.Deep
variable {H : Type} {enc : TypeId × Value → H} {w : World} {base : Nat} {held : Bool}
/-- A slice of slices of numbers that came in. -/
theorem open_rows {fuel : Nat} {a : Option Addr} {len cap : Nat} {y : DataW H × List MemPlace} (h : DataW.trod enc Try.prog w base (fun _ => true) held fuel 59 [.slice a len cap] = some y) : ∃ rs, ReadsR w a len cap rs := by
  rcases open_int_rows Try.underlying59 Try.underlying22 Try.underlying3 (by kernel_rfl) (by kernel_rfl) h with ⟨hcs, _⟩ | ⟨x, l, c, A, L, C, Z, hcs, _, hl, hm, _, hr⟩
  · simp at hcs
    obtain ⟨rfl, rfl, rfl⟩ := hcs
    exact ⟨fun _ => ⟨none, 0, 0, []⟩, Nat.le_refl _, by omega, .inl rfl⟩
  · simp at hcs
    obtain ⟨rfl, rfl, rfl⟩ := hcs
    refine ⟨fun i => ⟨A i, L i, C i, (Z i).take (L i)⟩, hl, by unfold maxLen at hm; omega, ?_⟩
    by_cases h0 : len = 0
    · exact .inl h0
    · refine .inr ?_
      obtain ⟨b, off, spot⟩ := x
      have h00 := (hr 0 (by omega)).1
      have hspot : spot = none := by simpa [Addr.add] using World.cell?_spot h00
      subst hspot
      refine ⟨b, off, rfl, fun i hi => ?_⟩
      obtain ⟨c0, q1, q2, q3, q4, q5, q6⟩ := hr i (by omega)
      refine ⟨by rw [show (⟨b, off, none⟩ : Addr).add i = ⟨b, off + i, none⟩ by simp [Addr.add]] at c0; exact c0, ?_⟩
      show Reads .i64 w (A i) (L i) (C i) ((Z i).take (L i))
      cases hA : A i with
      | none =>
        have hC := q5 hA
        have hL : L i = 0 := by omega
        rw [hC, hL]
        have hZ : Z i = [] := List.eq_nil_of_length_eq_zero (by omega)
        rw [hZ]
        exact reads_none _ _ _
      | some a' => exact reads_of_row q1 q2 q3 (fun j hj => (q6 a' hA).2 j (by omega)) q4
end
end Go.Proofs.Ytmhggpmhekeemaa
