/- The document's may and put. -/
import Derived.Test.YtmhggpmhekeemaaHolder
namespace Go.Proofs.Ytmhggpmhekeemaa
open Go.RowKit
set_option maxRecDepth 100000 in
set_option maxHeartbeats 1000000 in
theorem rmay_any (C : Cv) (boot : Int) (ad : Option Addr) (n cap : Nat) (slot : Int) (w : World) (h : Good w C) :
    Calls Try.prog 46 #[.agg C.cells, .agg #[.int .i64 boot, .slice ad n cap], .int .i64 slot] w fun e w' => e = .returned (.bool (mayB C n slot)) ∧ Below w.heap.size w w' := by
  have HG := Lib.hid h
  have r1 := h.r1
  clear h
  have hbc := bnew (bnew (brefl w) (Obj.cells C.cells 24)) (Obj.cells #[.int .i64 boot, .slice ad n cap] 30)
  have hBc : ((w.alloc (Obj.cells C.cells 24)).alloc (Obj.cells #[.int .i64 boot, .slice ad n cap] 30)).heap[w.heap.size]? = some (.cells C.cells 24 (0, 0)) := heap_alloc2_old _ _ _
  have hAc : ((w.alloc (Obj.cells C.cells 24)).alloc (Obj.cells #[.int .i64 boot, .slice ad n cap] 30)).heap[w.heap.size + 1]? = some (.cells #[.int .i64 boot, .slice ad n cap] 30 (0, 0)) := heap_alloc2_new _ _ _
  by_cases hk : chk C = true
  · have HM : Hid (mayB C n slot = decide ((n : Int) = C.slots ∧ 0 ≤ slot ∧ slot < C.slots)) := by show mayB C n slot = _; unfold mayB; rw [hk]; rfl
    have HK : Hid (chkI C = 0) := by show chkI C = 0; unfold chkI; rw [if_pos hk]
    clear hk
    go_enter Try.func46, Try.ntmps46
    go_wp2_with (first
      | (with_reducible refine wpList_load_cfg rfl _ rfl w.heap.size rfl C hBc ?_)
      | (go_at_call 40; with_reducible refine (rcheck_any C _ (HG.out.below hbc)).mono ?_; rintro e wX ⟨rfl, hX⟩; have hbc := bnext hbc hX; have hBc := (hX.block _ (lt_of_block hBc)).trans hBc; have hAc := (hX.block _ (lt_of_block hAc)).trans hAc; rw [HK.out]; obtain ⟨f0, f1⟩ := acc_cells hAc; obtain ⟨_, g1, _⟩ := cfg_cells2 hBc))
    all_goals
      go_ret
      exact ⟨ret_bool (by rw [HM.out, Bool.eq_iff_iff]; simp; omega), hbc⟩
  · have HM : Hid (mayB C n slot = false) := by show mayB C n slot = _; unfold mayB; rw [Bool.not_eq_true] at hk; rw [hk]; rfl
    have HK : Hid (chkI C = 90) := by show chkI C = 90; unfold chkI; rw [if_neg hk]
    clear hk
    go_enter Try.func46, Try.ntmps46
    go_wp2_with (first
      | (with_reducible refine wpList_load_cfg rfl _ rfl w.heap.size rfl C hBc ?_)
      | (go_at_call 40; with_reducible refine (rcheck_any C _ (HG.out.below hbc)).mono ?_; rintro e wX ⟨rfl, hX⟩; have hbc := bnext hbc hX; have hBc := (hX.block _ (lt_of_block hBc)).trans hBc; have hAc := (hX.block _ (lt_of_block hAc)).trans hAc; rw [HK.out]))
    go_ret
    exact ⟨ret_bool (by rw [HM.out]), hbc⟩

theorem own_some {w : World} {base n : Nat} {ad : Option Addr} {cap : Nat} {xs : List Value} (h : w.ownsRow base 68 3 (.slice ad n cap) n xs) (hn : 0 < n) :
    ∃ g cur, ad = some ⟨g, 0, none⟩ ∧ base ≤ g ∧ w.heap[g]? = some (.cells cur 68 (0, 0)) ∧ n ≤ cap ∧ cap ≤ maxLen ∧ cur.size = cap * 3 ∧ cur.toList.take (n * 3) = xs := by
  rcases h.2 with ⟨_, h0⟩ | ⟨g, c, cur, hv, hb, hg, r⟩
  · omega
  · injection hv with h1 _ h3
    subst h1 h3
    exact ⟨g, cur, rfl, hb, hg, r⟩
/-- Three stores into an own row. -/
theorem take_set3 {cur : Array Value} {gs : List G3} {n k : Nat} (ht : cur.toList.take (n * 3) = flat gs) (hl : gs.length = n) (hk : k < n) (x : G3) :
    (((cur.set! (k * 3) (.int .i64 x.node)).set! (k * 3 + 1) (.int .i64 x.nonce)).set! (k * 3 + 2) (.int .i64 x.since)).toList.take (n * 3) = flat (gs.set k x) := by
  rw [flat_set _ _ _ (by omega), ← ht]
  simp only [Array.set!_eq_setIfInBounds, Array.toList_setIfInBounds, List.take_set]
theorem grant_cells {w : World} {b : Nat} {x y z : Int} (hb : w.heap[b]? = some (.cells #[.int .i64 x, .int .i64 y, .int .i64 z] 68 (0, 0))) : w.cell? ⟨b, 0, none⟩ = some (.int .i64 x) ∧ w.cell? ⟨b, 1, none⟩ = some (.int .i64 y) ∧ w.cell? ⟨b, 2, none⟩ = some (.int .i64 z) := by
  refine ⟨?_, ?_, ?_⟩ <;> (rw [cell_of_row _ _ _ _ _ _ hb]; rfl)
theorem grant_box : (Try.prog.info? 68).map (·.size) = some 3 := by kernel_rfl
set_option maxRecDepth 100000 in
set_option maxHeartbeats 4000000 in
theorem put_any (boot : Int) (ad : Option Addr) (n cap : Nat) (gs : List G3) (k : Nat) (x : G3) (w : World) (h : Acc w ad n cap gs) (hk : k < n) (hx : x.Wf) :
    Calls Try.prog 48 #[.agg #[.int .i64 boot, .slice ad n cap], .int .i64 k, .agg #[.int .i64 x.node, .int .i64 x.nonce, .int .i64 x.since]] w fun e w' => ∃ ad' cap', e = .returned (.agg #[.int .i64 boot, .slice ad' n cap']) ∧ Acc w' ad' n cap' (gs.set k x) ∧ Below w.heap.size w w' := by
  have hn20 := h.few
  obtain ⟨b, rfl, _⟩ := h.cell hk
  have HA := Lib.hid h
  obtain ⟨i0, hi, hz0, hz1, hz2⟩ := grant_i
  have HI := Lib.hid hi
  have HZ := Lib.hid hz0
  clear hi hz0 h
  have hlen : (k : Int) < n := by omega
  have HbX : Hid (Below w.heap.size w ((((w.alloc (Obj.cells #[Value.int IntKind.i64 boot, Value.slice (some ⟨b, 0, none⟩) n cap] 30)).alloc (Obj.cells #[Value.int IntKind.i64 x.node, Value.int IntKind.i64 x.nonce, Value.int IntKind.i64 x.since] 68)).alloc (Obj.cells #[Value.int IntKind.i64 0, Value.slice none 0 0] 30)).alloc (Obj.cells #[] 68))) := bnew (bnew (bnew (bnew (brefl w) _) _) _) _
  have HAc : Hid (((((w.alloc (Obj.cells #[Value.int IntKind.i64 boot, Value.slice (some ⟨b, 0, none⟩) n cap] 30)).alloc (Obj.cells #[Value.int IntKind.i64 x.node, Value.int IntKind.i64 x.nonce, Value.int IntKind.i64 x.since] 68)).alloc (Obj.cells #[Value.int IntKind.i64 0, Value.slice none 0 0] 30)).alloc (Obj.cells #[] 68)).heap[w.heap.size]? = some (.cells #[.int .i64 boot, .slice (some ⟨b, 0, none⟩) n cap] 30 (0, 0))) := by show _ = _; (repeat (first | exact heap_alloc_at _ _ _ (by simp) | rw [Below.heap_alloc _ _ _ (by first | (simp; done) | (simp; omega))]))
  have HRc : Hid (((((w.alloc (Obj.cells #[Value.int IntKind.i64 boot, Value.slice (some ⟨b, 0, none⟩) n cap] 30)).alloc (Obj.cells #[Value.int IntKind.i64 x.node, Value.int IntKind.i64 x.nonce, Value.int IntKind.i64 x.since] 68)).alloc (Obj.cells #[Value.int IntKind.i64 0, Value.slice none 0 0] 30)).alloc (Obj.cells #[] 68)).heap[w.heap.size + 2]? = some (.cells #[.int .i64 0, .slice none 0 0] 30 (0, 0))) := by show _ = _; (repeat (first | exact heap_alloc_at _ _ _ (by simp) | rw [Below.heap_alloc _ _ _ (by first | (simp; done) | (simp; omega))]))
  have HXc : Hid (((((w.alloc (Obj.cells #[Value.int IntKind.i64 boot, Value.slice (some ⟨b, 0, none⟩) n cap] 30)).alloc (Obj.cells #[Value.int IntKind.i64 x.node, Value.int IntKind.i64 x.nonce, Value.int IntKind.i64 x.since] 68)).alloc (Obj.cells #[Value.int IntKind.i64 0, Value.slice none 0 0] 30)).alloc (Obj.cells #[] 68)).heap[w.heap.size + 1]? = some (.cells #[.int .i64 x.node, .int .i64 x.nonce, .int .i64 x.since] 68 (0, 0))) := by show _ = _; (repeat (first | exact heap_alloc_at _ _ _ (by simp) | rw [Below.heap_alloc _ _ _ (by first | (simp; done) | (simp; omega))]))
  have HEc : Hid (((((w.alloc (Obj.cells #[Value.int IntKind.i64 boot, Value.slice (some ⟨b, 0, none⟩) n cap] 30)).alloc (Obj.cells #[Value.int IntKind.i64 x.node, Value.int IntKind.i64 x.nonce, Value.int IntKind.i64 x.since] 68)).alloc (Obj.cells #[Value.int IntKind.i64 0, Value.slice none 0 0] 30)).alloc (Obj.cells #[] 68)).heap[w.heap.size + 3]? = some (.cells #[] 68 (0, 0))) := by show _ = _; (repeat (first | exact heap_alloc_at _ _ _ (by simp) | rw [Below.heap_alloc _ _ _ (by first | (simp; done) | (simp; omega))]))
  have HO : Hid (((((w.alloc (Obj.cells #[Value.int IntKind.i64 boot, Value.slice (some ⟨b, 0, none⟩) n cap] 30)).alloc (Obj.cells #[Value.int IntKind.i64 x.node, Value.int IntKind.i64 x.nonce, Value.int IntKind.i64 x.since] 68)).alloc (Obj.cells #[Value.int IntKind.i64 0, Value.slice none 0 0] 30)).alloc (Obj.cells #[] 68)).ownsRow (w.heap.size + 3) 68 3 (.slice (some ⟨w.heap.size + 3, 0, none⟩) 0 0) 0 []) := ⟨by simp, .inr ⟨w.heap.size + 3, 0, #[], rfl, Nat.le_refl _, HEc.out, Nat.le_refl _, by unfold maxLen; omega, by simp, by simp⟩⟩
  have HSZ : Hid (w.heap.size + 3 ≤ ((((w.alloc (Obj.cells #[Value.int IntKind.i64 boot, Value.slice (some ⟨b, 0, none⟩) n cap] 30)).alloc (Obj.cells #[Value.int IntKind.i64 x.node, Value.int IntKind.i64 x.nonce, Value.int IntKind.i64 x.since] 68)).alloc (Obj.cells #[Value.int IntKind.i64 0, Value.slice none 0 0] 30)).alloc (Obj.cells #[] 68)).heap.size) := by show _ ≤ _; simp
  go_enter Try.func48, Try.ntmps48
  go_wp2_with (at_builtin; (refine wpList_append_row (by rfl) (.tmp 8) (.tmp 10) 28 rfl (w.heap.size + 3) 68 i0 _ 3 24 Try.underlying28 HI.out HZ.out hz1 hz2 rfl (by decide) (.slice (some ⟨w.heap.size + 3, 0, none⟩) 0 0) 0 [] rfl HO.out (some ⟨b, 0, none⟩) n cap (flat gs) rfl (fun h => by cases h) (by rw [flat_length, HA.out.len]) (HA.out.below HbX.out).news (flat_one gs) (by unfold maxLen; omega) (by omega) HSZ.out ?_); intro v7 w7 ho7 hg7; obtain ⟨ad7, cap7, rfl, hp7⟩ := own_form ho7; rw [Nat.zero_add, List.nil_append] at ho7; obtain ⟨g7, cur7, rfl, hgb, hgg, hgn, hgm, hgs, hgt⟩ := own_some ho7 (by omega); rw [Nat.zero_add]; have HGB := Lib.hid hgb; have HGG := Lib.hid hgg; have HGT := Lib.hid hgt; have HGS := Lib.hid hgs; have HGM := Lib.hid hgm; have HAc7 := Lib.hid ((hg7.block w.heap.size (lt_of_block HAc.out) (by intro e; have e1 : w.heap.size = w.heap.size + 3 := Option.some.inj e; omega)).trans HAc.out); have HXc7 := ((hg7.block (w.heap.size + 1) (lt_of_block HXc.out) (by intro e; have e1 : w.heap.size + 1 = w.heap.size + 3 := Option.some.inj e; omega)).trans HXc.out); obtain ⟨k0, k1, k2⟩ := grant_cells HXc7; clear HXc7; have HRc7 := Lib.hid ((hg7.block (w.heap.size + 2) (lt_of_block HRc.out) (by intro e; have e1 : w.heap.size + 2 = w.heap.size + 3 := Option.some.inj e; omega)).trans HRc.out); have Hb7 := Lib.hid (bgrown HbX.out hg7 (by intro k' hk'; have hk2 : w.heap.size + 3 = k' := (by simpa [Value.ownBlock] using hk'); omega)); have e7 : ∀ j, j < cap7 * 3 → ∃ v, w7.cell? ⟨g7, j, none⟩ = some v := (fun j hj => (by rw [cell_of_row _ _ _ _ _ _ hgg]; exact ⟨cur7[j]'(by omega), by simp [hgs, hj]⟩)); obtain ⟨p0, q0⟩ := e7 (k * 3) (by omega); obtain ⟨p1, q1⟩ := e7 (k * 3 + 1) (by omega); obtain ⟨p2, q2⟩ := e7 (k * 3 + 2) (by omega); have z7 : ∀ j, w7.frozen? ⟨g7, j, none⟩ = false := (fun j => blk_free hgg); have HA8 : Hid ((((w7.setCell ⟨g7, k * 3, none⟩ (.int .i64 x.node)).setCell ⟨g7, k * 3 + 1, none⟩ (.int .i64 x.nonce)).setCell ⟨g7, k * 3 + 2, none⟩ (.int .i64 x.since)).heap[w.heap.size]? = some (.cells #[.int .i64 boot, .slice (some ⟨b, 0, none⟩) n cap] 30 (0, 0))) := ((heap_setCell_other _ _ _ _ (by show w.heap.size ≠ g7; omega)).trans ((heap_setCell_other _ _ _ _ (by show w.heap.size ≠ g7; omega)).trans ((heap_setCell_other _ _ _ _ (by show w.heap.size ≠ g7; omega)).trans HAc7.out))); have HR8 : Hid ((((w7.setCell ⟨g7, k * 3, none⟩ (.int .i64 x.node)).setCell ⟨g7, k * 3 + 1, none⟩ (.int .i64 x.nonce)).setCell ⟨g7, k * 3 + 2, none⟩ (.int .i64 x.since)).heap[w.heap.size + 2]? = some (.cells #[.int .i64 0, .slice none 0 0] 30 (0, 0))) := ((heap_setCell_other _ _ _ _ (by show w.heap.size + 2 ≠ g7; omega)).trans ((heap_setCell_other _ _ _ _ (by show w.heap.size + 2 ≠ g7; omega)).trans ((heap_setCell_other _ _ _ _ (by show w.heap.size + 2 ≠ g7; omega)).trans HRc7.out))); obtain ⟨a0, a1⟩ := acc_cells HA8.out; obtain ⟨r0, r1⟩ := acc_cells HR8.out; have zr : ∀ j, (((w7.setCell ⟨g7, k * 3, none⟩ (.int .i64 x.node)).setCell ⟨g7, k * 3 + 1, none⟩ (.int .i64 x.nonce)).setCell ⟨g7, k * 3 + 2, none⟩ (.int .i64 x.since)).frozen? ⟨w.heap.size + 2, j, none⟩ = false := (fun j => blk_free HR8.out); clear ho7 hg7 hp7 hgg hgt e7)
  have HG8 : Hid ((((w7.setCell ⟨g7, k * 3, none⟩ (.int .i64 x.node)).setCell ⟨g7, k * 3 + 1, none⟩ (.int .i64 x.nonce)).setCell ⟨g7, k * 3 + 2, none⟩ (.int .i64 x.since)).heap[g7]? = some (.cells (((cur7.set! (k * 3) (.int .i64 x.node)).set! (k * 3 + 1) (.int .i64 x.nonce)).set! (k * 3 + 2) (.int .i64 x.since)) 68 (0, 0))) := heap_setCell_same _ _ _ _ _ _ (heap_setCell_same _ _ _ _ _ _ (heap_setCell_same _ _ _ _ _ _ HGG.out))
  have HT8 := Lib.hid (take_set3 HGT.out HA.out.len hk x)
  refine bodyPost_ret (results_cell_row rfl _ _ (w.heap.size + 2) 30 _ (0, 0) _ rfl ((heap_setCell_same _ _ _ _ _ _ (heap_setCell_same _ _ _ _ _ _ HR8.out)).trans rfl) Try.underlying30 rfl (acc_info.trans rfl)) rfl ?_
  refine ⟨some ⟨g7, 0, none⟩, cap7, rfl, Acc.store ?_ HR8.out _ _, ((((Hb7.out.setCell (show w.heap.size ≤ g7 by omega) _).setCell (show w.heap.size ≤ g7 by omega) _).setCell (show w.heap.size ≤ g7 by omega) _).setCell (show w.heap.size ≤ w.heap.size + 2 by omega) _).setCell (show w.heap.size ≤ w.heap.size + 2 by omega) _⟩
  exact acc_of_blk HG8.out (by rw [List.length_set, HA.out.len]) hgn HGM.out (by simpa using HGS.out) HT8.out (gset_wf HA.out.wf k hx) hn20
end Go.Proofs.Ytmhggpmhekeemaa
