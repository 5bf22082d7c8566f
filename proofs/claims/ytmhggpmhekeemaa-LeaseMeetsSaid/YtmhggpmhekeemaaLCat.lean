/- One list of numbers behind another. -/
import Derived.Test.YtmhggpmhekeemaaLNum
namespace Go.Proofs.Ytmhggpmhekeemaa
open Go.RowKit
theorem two_cells {W : World} {g : Nat} {x y : Value} {t : TypeId} (hX : W.heap[g]? = some (.cells #[x, y] t (0, 0))) : W.cell? ⟨g, 0, none⟩ = some x ∧ W.cell? ⟨g, 1, none⟩ = some y := by
  refine ⟨?_, ?_⟩ <;> (rw [cell_of_row _ _ _ _ _ _ hX]; rfl)
theorem own_reads {w : World} {base : Nat} {ad : Option Addr} {cap n : Nat} {zs : List Int} (h : w.ownsRow base 3 1 (.slice ad n cap) n (zs.map (Value.int .i64))) (hw : ∀ n ∈ zs, (Lit.int .i64 n).wf = true) : Reads .i64 w ad n cap zs := by
  obtain ⟨a, c, he, hr⟩ := reads_of_own h hw
  cases he; exact hr
theorem own_slice {w : World} {base : Nat} {e : TypeId} {v : Value} {n : Nat} {xs : List Value} (h : w.ownsRow base e 1 v n xs) : ∃ ad cap, v = .slice ad n cap := by
  rcases h.2 with ⟨rfl, rfl⟩ | ⟨g, cap, cur, rfl, _⟩
  · exact ⟨none, 0, rfl⟩
  · exact ⟨_, _, rfl⟩
theorem own_base {w : World} {base b' n : Nat} {e : TypeId} {v : Value} {xs : List Value} (h : w.ownsRow base e 1 v n xs) (hb : b' ≤ base) : ∀ k, v.ownBlock = some k → b' ≤ k := by
  intro k hk
  rcases h.2 with ⟨rfl, _⟩ | ⟨g, cap, cur, rfl, hg, _⟩
  · simp [Value.ownBlock] at hk
  · have : g = k := by simpa [Value.ownBlock] using hk
    omega
/-- A store elsewhere. -/
theorem Reads.store {k : IntKind} {w : World} {a : Option Addr} {n c : Nat} {zs : List Int} (h : Reads k w a n c zs) (A : Addr) (v : Value) (hA : ∀ p, a = some p → p.block ≠ A.block) : Reads k (w.setCell A v) a n c zs :=
  ⟨h.length, h.le, h.small, h.wf, h.nil, h.cells.imp id fun ⟨b, off, ha, hc⟩ => ⟨b, off, ha, fun i hi => by
    rw [World.cell?_setCell_other (h := fun e => hA _ ha (by rw [e]))]; exact hc i hi⟩⟩
set_option maxRecDepth 100000 in
set_option maxHeartbeats 2000000 in
theorem concat_any (g : Nat) (a b : Option Addr) (n c m d : Nat) (zs ys : List Int) (w : World) (hg : w.heap[g]? = some (.cells #[.slice a n c, .slice b m d] 22 (0, 0))) (h1 : Reads .i64 w a n c zs) (h2 : Reads .i64 w b m d ys) (hn : n ≤ 100) (hm : m ≤ 100) :
    Calls Try.prog 75 #[.slice (some ⟨g, 0, none⟩) 2 2] w fun e w' => (∃ ad cap, e = .returned (.slice ad (n + m) cap) ∧ Reads .i64 w' ad (n + m) cap (zs ++ ys) ∧ ∀ p, ad = some p → w.heap.size ≤ p.block) ∧ Below w.heap.size w w' := by
  have H1 := Lib.hid h1
  have H2 := Lib.hid h2
  have HGB := Lib.hid hg
  obtain ⟨c0, c1⟩ := two_cells hg
  obtain ⟨i0, hi, hz0, hz1, hz2⟩ := num_i
  have HI := Lib.hid hi
  have HZ := Lib.hid hz0
  clear h1 h2 hg hi hz0
  go_enter Try.func75, Try.ntmps75
  go_wp2_with fail
  refine wp_loop_rounds 3 ?_
  rw [rounds_succ]
  go_wp2_with fail
  rw [rounds_succ]
  go_wp2_with fail
  rw [rounds_succ]
  go_wp2_with (go_at_call 76; refine (grow_any (n + m) _ (by omega)).mono ?_; rintro e w1 ⟨⟨ad0, cap0, rfl, ho0⟩, hb0⟩; have HO0 := Lib.hid ho0; have HB0 := Lib.hid hb0; have HG0 := Lib.hid (kb HGB.out hb0); obtain ⟨d0, d1⟩ := two_cells HG0.out; clear ho0 hb0)
  refine wp_loop_rounds 3 ?_
  rw [rounds_succ]
  go_wp2_with (at_builtin; (refine wpList_append_reads (by rfl) (.tmp 31) (.tmp 32) 22 rfl w.heap.size 3 i0 _ 8 Try.underlying22 HI.out HZ.out hz1 hz2 rfl (.slice ad0 0 cap0) 0 [] rfl HO0.out .i64 a n c zs rfl (H1.out.below HB0.out) (by unfold maxLen; omega) (by omega) HB0.out.size ?_); intro v2 w2 ho2 hg2; simp only [Nat.zero_add, List.nil_append] at ho2; have hb2 := HB0.out.grown hg2 HB0.out.size (own_base HO0.out (Nat.le_refl _)); obtain ⟨ad2, cap2, rfl⟩ := own_slice ho2; have HO2 := Lib.hid ho2; have HB2 := Lib.hid hb2; have HG2 := Lib.hid (kb HGB.out hb2); obtain ⟨e0, e1⟩ := two_cells HG2.out; clear ho2 hb2 hg2)
  rw [rounds_succ]
  go_wp2_with (at_builtin; (refine wpList_append_reads (by rfl) (.tmp 31) (.tmp 32) 22 rfl w.heap.size 3 i0 _ 8 Try.underlying22 HI.out HZ.out hz1 hz2 rfl (.slice ad2 n cap2) n (zs.map (Value.int .i64)) rfl HO2.out .i64 b m d ys rfl (H2.out.below HB2.out) (by unfold maxLen; omega) (by omega) HB2.out.size ?_); intro v3 w3 ho3 hg3; have hb3 := HB2.out.grown hg3 HB2.out.size (own_base HO2.out (Nat.le_refl _)); obtain ⟨ad3, cap3, rfl⟩ := own_slice ho3; have HO3 := Lib.hid ho3; have HB3 := Lib.hid hb3; clear ho3 hb3 hg3)
  rw [rounds_succ]
  go_wp2_with fail
  go_ret
  refine ⟨⟨ad3, cap3, rfl, own_reads (by rw [List.map_append]; exact HO3.out) ?_, fun p hp => own_base HO3.out (Nat.le_refl _) _ (by rw [hp]; rfl)⟩, HB3.out⟩
  intro x hx
  rcases List.mem_append.1 hx with h | h
  · exact H1.out.wf x h
  · exact H2.out.wf x h
set_option maxRecDepth 100000 in
theorem with_any (a b : Option Addr) (n c m d : Nat) (zs ys : List Int) (w : World) (h1 : Reads .i64 w a n c zs) (h2 : Reads .i64 w b m d ys) (hn : n ≤ 100) (hm : m ≤ 100) :
    Calls Try.prog 60 #[.slice a n c, .slice b m d] w fun e w' => (∃ ad cap, e = .returned (.slice ad (n + m) cap) ∧ Reads .i64 w' ad (n + m) cap (zs ++ ys) ∧ ∀ p, ad = some p → w.heap.size ≤ p.block) ∧ Below w.heap.size w w' := by
  have H1 := Lib.hid h1
  have H2 := Lib.hid h2
  clear h1 h2
  go_enter Try.func60, Try.ntmps60
  go_wp2_with (go_at_call 75; with_reducible refine (concat_any w.heap.size a b n c m d zs ys _ (heap_alloc_new _ _) (H1.out.alloc _) (H2.out.alloc _) hn hm).mono ?_; rintro e w1 ⟨⟨ad0, cap0, rfl, ho0, hp0⟩, hb0⟩; have HO0 := Lib.hid ho0; have HB0 := Lib.hid hb0; have HP0 := Lib.hid hp0; clear ho0 hb0 hp0)
  go_ret
  exact ⟨⟨ad0, cap0, rfl, HO0.out, fun p hp => Nat.le_trans (by simp) (HP0.out p hp)⟩, bnext (bnew (brefl w) _) HB0.out⟩
end Go.Proofs.Ytmhggpmhekeemaa
