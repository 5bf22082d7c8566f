/- New, of the program and of the document. -/
import Derived.Test.YtmhggpmhekeemaaRPut
import Derived.LoopTactic
import Derived.Deep.RegionHeld3
import Derived.Outline
import Derived.Deep.RegionLaw
namespace Go.Proofs.Ytmhggpmhekeemaa
open Go.RowKit
theorem blk_news {w : World} {g : Nat} {x : G3} {fr : Nat × Nat} (h : w.heap[g]? = some (.cells #[.int .i64 x.node, .int .i64 x.nonce, .int .i64 x.since] 68 fr)) : ∀ p, (some ⟨g, 0, none⟩ : Option Addr) = some p → ∀ j u, (flat [x])[j]? = some u → w.cell? (p.add j) = some u := by
  intro p hp j u hu
  cases hp
  rw [show (⟨g, 0, none⟩ : Addr).add j = ⟨g, j, none⟩ by simp [Addr.add]; omega, cell_of_row _ _ _ _ _ _ h]
  rw [← Array.getElem?_toList]
  exact hu
theorem own_below {w w' : World} {base : Nat} {v : Value} {n : Nat} {xs : List Value} (h : w.ownsRow base 68 3 v n xs) (hb : Below w.heap.size w w') : w'.ownsRow base 68 3 v n xs := by
  refine ⟨h.1, ?_⟩
  rcases h.2 with h0 | ⟨g, cap', cur, hv, hbg, hg, r⟩
  · exact .inl h0
  · exact .inr ⟨g, cap', cur, hv, hbg, (hb.block _ (lt_of_block hg)).trans hg, r⟩
theorem own_block {w : World} {base n : Nat} {e : TypeId} {size : Nat} {v : Value} {xs : List Value} (h : w.ownsRow base e size v n xs) : ∀ k, v.ownBlock = some k → base ≤ k := by
  intro k hk
  rcases h.2 with ⟨rfl, _⟩ | ⟨g, cap, cur, rfl, hb, _⟩
  · simp [Value.ownBlock] at hk
  · have : g = k := by simpa [Value.ownBlock] using hk
    omega
theorem grown7 {wr W w7 : World} {b n m : Nat} {e : TypeId} {v : Value} {xs : List Value} (hB : Below wr.heap.size wr W) (hb : b ≤ wr.heap.size) (ho : wr.ownsRow b e n v m xs) (hg : W.grownBy w7 v.ownBlock) : Below b wr w7 :=
  (hB.mono hb).grown hg (Nat.le_trans hb hB.size) (own_block ho)
theorem set8 {w W : World} {b : Nat} (h : Below (b + 1) w W) (o : Nat) (v : Value) : Below b w (W.setCell ⟨b, o, none⟩ v) :=
  (h.mono (Nat.le_succ b)).setCell (show b ≤ (⟨b, o, none⟩ : Addr).block from Nat.le_refl _) v
theorem flat_rep (k : Nat) : flat (List.replicate (k + 1) gnone) = flat (List.replicate k gnone) ++ flat [gnone] := by
  rw [List.replicate_succ', flat_append]
theorem rep_wf (k : Nat) : ∀ g ∈ List.replicate k gnone, g.Wf := by
  intro g hg
  rw [List.eq_of_mem_replicate hg]; exact gnone_wf
set_option maxRecDepth 100000 in
set_option maxHeartbeats 4000000 in
theorem new_no (C : Cv) (now : Int) (w : World) (h : Good w C) (hc : chk C = false) :
    Calls Try.prog 13 #[.agg C.cells, .int .i64 now] w fun e w' => e = .returned (.agg #[.int .i64 0, .slice none 0 0]) ∧ Below w.heap.size w w' := by
  have HG := Lib.hid h
  have HK : Hid (chkI C = 90) := by show chkI C = 90; unfold chkI; rw [hc]; rfl
  clear h hc
  have hbc : Below w.heap.size w ((w.alloc (Obj.cells C.cells 24)).alloc (Obj.cells #[Value.int IntKind.i64 0, Value.slice none 0 0] 30)) := bnew (bnew (brefl w) _) _
  have hBc : ((w.alloc (Obj.cells C.cells 24)).alloc (Obj.cells #[Value.int IntKind.i64 0, Value.slice none 0 0] 30)).heap[w.heap.size]? = some (.cells C.cells 24 (0, 0)) := heap_alloc2_old _ _ _
  have hRs : ((w.alloc (Obj.cells C.cells 24)).alloc (Obj.cells #[Value.int IntKind.i64 0, Value.slice none 0 0] 30)).heap[w.heap.size + 1]? = some (.cells #[.int .i64 0, .slice none 0 0] 30 (0, 0)) := heap_alloc2_new _ _ _
  go_enter Try.func13, Try.ntmps13
  go_wp2_with (first
    | (with_reducible refine wpList_load_cfg rfl _ rfl w.heap.size rfl C hBc ?_)
    | (go_at_call 20; with_reducible refine (check_any C _ (HG.out.below hbc)).mono ?_; rintro e wX ⟨rfl, hX⟩; have hbc := bnext hbc hX; have hRs := (hX.block _ (lt_of_block hRs)).trans hRs; rw [HK.out]; obtain ⟨x0, x1⟩ := acc_cells hRs; have z0 : ∀ j, wX.frozen? ⟨w.heap.size + 1, j, none⟩ = false := (fun j => blk_free hRs)))
  refine bodyPost_ret (results_cell_row rfl _ _ (w.heap.size + 1) 30 _ (0, 0) _ rfl ((heap_setCell_same _ _ _ _ _ _ (heap_setCell_same _ _ _ _ _ _ hRs)).trans rfl) Try.underlying30 rfl (acc_info.trans rfl)) rfl ?_
  exact ⟨rfl, (hbc.setCell (show w.heap.size ≤ w.heap.size + 1 from Nat.le_add_right _ _) _).setCell (show w.heap.size ≤ w.heap.size + 1 from Nat.le_add_right _ _) _⟩
set_option maxRecDepth 100000 in
set_option maxHeartbeats 4000000 in
theorem new_yes (C : Cv) (now : Int) (w : World) (h : Good w C) (hc : chk C = true) :
    Calls Try.prog 13 #[.agg C.cells, .int .i64 now] w fun e w' => ∃ ad cap, e = .returned (.agg #[.int .i64 now, .slice ad C.slots.toNat cap]) ∧ Acc w' ad C.slots.toNat cap (List.replicate C.slots.toNat gnone) ∧ Below w.heap.size w w' := by
  have HG := Lib.hid h
  have HK : Hid (chkI C = 0) := by show chkI C = 0; unfold chkI; rw [hc]; rfl
  have hcf := chk_facts hc
  have hs1 : 1 ≤ C.slots := hcf.2.1.1
  have hs9 : C.slots ≤ 9 := by have := hcf.1; have := hcf.2.1; omega
  clear h hc hcf
  have hbc : Below w.heap.size w ((w.alloc (Obj.cells C.cells 24)).alloc (Obj.cells #[Value.int IntKind.i64 0, Value.slice none 0 0] 30)) := bnew (bnew (brefl w) _) _
  have hBc : ((w.alloc (Obj.cells C.cells 24)).alloc (Obj.cells #[Value.int IntKind.i64 0, Value.slice none 0 0] 30)).heap[w.heap.size]? = some (.cells C.cells 24 (0, 0)) := heap_alloc2_old _ _ _
  have hRs : ((w.alloc (Obj.cells C.cells 24)).alloc (Obj.cells #[Value.int IntKind.i64 0, Value.slice none 0 0] 30)).heap[w.heap.size + 1]? = some (.cells #[.int .i64 0, .slice none 0 0] 30 (0, 0)) := heap_alloc2_new _ _ _
  obtain ⟨i0, hi, hz0, hz1, hz2⟩ := grant_i
  have HI := Lib.hid hi
  have HZ := Lib.hid hz0
  clear hi hz0
  go_enter Try.func13, Try.ntmps13
  go_wp2_with (first
    | (with_reducible refine wpList_load_cfg rfl _ rfl w.heap.size rfl C hBc ?_)
    | (go_at_call 20; with_reducible refine (check_any C _ (HG.out.below hbc)).mono ?_; rintro e wX ⟨rfl, hX⟩; have hbc := bnext hbc hX; have hBc := (hX.block _ (lt_of_block hBc)).trans hBc; have hRs := (hX.block _ (lt_of_block hRs)).trans hRs; rw [HK.out]; obtain ⟨_, m1, _⟩ := cfg_cells2 hBc; have ma := (fun o => cell_alloc (o := o) m1)))
  obtain ⟨sl, hsl, hsl9⟩ : ∃ sl : Nat, C.slots = sl ∧ sl ≤ 9 := ⟨C.slots.toNat, by omega, by omega⟩
  have HSL : Hid (C.slots.toNat = sl) := by show C.slots.toNat = sl; omega
  simp only [hsl] at m1 ma ⊢
  have HXR := Lib.hid ((Below.heap_alloc wX (Obj.cells #[Value.int IntKind.i64 now, Value.slice none 0 0] 30) _ (lt_of_block hRs)).trans hRs)
  have HXB := Lib.hid (bnew hbc (Obj.cells #[Value.int IntKind.i64 now, Value.slice none 0 0] 30))
  have HXA := Lib.hid (heap_alloc_new wX (Obj.cells #[Value.int IntKind.i64 now, Value.slice none 0 0] 30))
  have HXS : Hid (wX.heap.size + 1 ≤ (wX.alloc (Obj.cells #[Value.int IntKind.i64 now, Value.slice none 0 0] 30)).heap.size) := by show _ ≤ _; simp
  have HRA : Hid (w.heap.size + 1 < wX.heap.size) := lt_of_block hRs
  clear hsl m1 ma hbc hBc hRs hX
  clear hbc hBc hRs
  go_loopw [14] (fun i wr => ∃ (k : Nat) (ad : Option Addr) (cap : Nat), k ≤ sl ∧ i = .int .i64 k ∧ wr.heap[wX.heap.size]? = some (.cells #[.int .i64 now, .slice ad k cap] 30 (0, 0)) ∧ wr.ownsRow (wX.heap.size + 1) 68 3 (.slice ad k cap) k (flat (List.replicate k gnone)) ∧ wr.heap[w.heap.size + 1]? = some (.cells #[.int .i64 0, .slice none 0 0] 30 (0, 0)) ∧ Below w.heap.size w wr ∧ wX.heap.size + 1 ≤ wr.heap.size) (fun i _ => sl - (intOf i).toNat)
  case atStart => exact ⟨0, none, 0, Nat.zero_le _, rfl, HXA.out, World.ownsRow_nil _ _ _ _, HXR.out, HXB.out, HXS.out⟩
  case round =>
    obtain ⟨k, ad, cap, hk, rfl, hA, hown, hR, hb, hsz⟩ := hrel
    by_cases hlt : k < sl
    · have FO : Hid (∀ W, Below wr.heap.size wr W → W.ownsRow (wX.heap.size + 1) 68 3 (.slice ad k cap) k (flat (List.replicate k gnone))) := fun W h => own_below hown h
      have HA := Lib.hid hA
      have HR := Lib.hid hR
      have HB := Lib.hid hb
      have HSZ := Lib.hid hsz
      have HTK := Lib.hid (flat_rep k)
      have hL : ∀ W : World, W.heap[wX.heap.size]? = some (.cells #[.int .i64 now, .slice ad k cap] 30 (0, 0)) → W.cell? ⟨wX.heap.size, 0, none⟩ = some (.int .i64 now) ∧ W.cell? ⟨wX.heap.size, 1, none⟩ = some (.slice ad k cap) := fun W h => acc_cells h
      have hS : Below wr.heap.size wr wr := Below.refl _ _
      clear hown hA hR hb
      go_wp2_with fail
      obtain ⟨u0, u1⟩ := acc_cells HA.out
      go_region_law ((first
        | (go_simp; with_reducible refine (none_any _).mono ?_; rintro e wN ⟨rfl, hN⟩; have hN1 : Below wr.heap.size wr wN := (bnext hS.drew hN); have hN2 := (hN.block _ (lt_of_block HA.out)).trans HA.out; obtain ⟨n0, n1⟩ := acc_cells hN2; have na1 := (fun o => cell_alloc (o := o) n1))
        | (refine step_append_row (by rfl) _ _ 28 rfl (wX.heap.size + 1) 68 i0 _ 3 24 Try.underlying28 HI.out HZ.out hz1 hz2 rfl (by decide) (.slice ad k cap) k (flat (List.replicate k gnone)) rfl (FO.out _ (by first | exact bnew hN1 _ | exact Below.drew (bnew hN1 _))) (some ⟨wN.heap.size, 0, none⟩) 1 1 (flat [gnone]) rfl (fun h => by cases h) rfl (blk_news (heap_alloc_new wN _)) (flat_one _) (by unfold maxLen; omega) (by omega) (by have := hN1.size; have := HSZ.out; simp; omega) ?_; intro v7 w7 ho7 hg7; have hB7 := grown7 (by first | exact bnew hN1 _ | exact Below.drew (bnew hN1 _)) HSZ.out (FO.out _ hS) hg7; obtain ⟨ad7, cap7, rfl, hp7⟩ := own_form ho7; have HA7 := Lib.hid ((hB7.block wX.heap.size (Nat.lt_succ_self _)).trans HA.out); obtain ⟨x7, y7⟩ := acc_cells HA7.out; have z7 : ∀ j, w7.frozen? ⟨wX.heap.size, j, none⟩ = false := (fun j => blk_free HA7.out); have HO7 := Lib.hid ho7; have HB7 := Lib.hid hB7; clear ho7 hB7 hg7)))
      all_goals
        have hA8 : (w7.setCell ⟨wX.heap.size, 1, none⟩ (.slice ad7 (k + 1) cap7)).heap[wX.heap.size]? = some (.cells #[.int .i64 now, .slice ad7 (k + 1) cap7] 30 (0, 0)) := (heap_setCell_same _ _ _ _ _ _ HA7.out).trans rfl
        have hO8 := ownsRow_setCell_below HO7.out (a := ⟨wX.heap.size, 1, none⟩) (Nat.lt_succ_self _) (.slice ad7 (k + 1) cap7)
        rw [← HTK.out] at hO8
        have hB8 := set8 HB7.out 1 (.slice ad7 (k + 1) cap7)
        have hR8 : (w7.setCell ⟨wX.heap.size, 1, none⟩ (.slice ad7 (k + 1) cap7)).heap[w.heap.size + 1]? = some (.cells #[.int .i64 0, .slice none 0 0] 30 (0, 0)) := (heap_setCell_other _ _ _ _ (Nat.ne_of_lt HRA.out)).trans ((HB7.out.block _ (Nat.lt_succ_of_lt HRA.out)).trans HR.out)
        generalize w7.setCell ⟨wX.heap.size, 1, none⟩ (.slice ad7 (k + 1) cap7) = W8 at *
        go_wp2_with fail
        go_roundw
        case rel => exact ⟨k + 1, ad7, cap7, by omega, by go_num, hA8, hO8, hR8, by have h := hB8.mono (show w.heap.size ≤ wX.heap.size by have := HRA.out; omega); exact HB.out.trans h, by have := hB8.size; have := HSZ.out; omega⟩
        case measure => simp [intOf]; omega
    · have hke : k = sl := by omega
      subst hke
      obtain ⟨r0, r1⟩ := acc_cells hR
      obtain ⟨a0, a1⟩ := acc_cells hA
      have z0 : ∀ j, wr.frozen? ⟨w.heap.size + 1, j, none⟩ = false := fun j => blk_free hR
      go_wp2_with fail
      refine bodyPost_ret (results_cell_row rfl _ _ (w.heap.size + 1) 30 _ (0, 0) _ rfl ((heap_setCell_same _ _ _ _ _ _ (heap_setCell_same _ _ _ _ _ _ hR)).trans rfl) Try.underlying30 rfl (acc_info.trans rfl)) rfl ?_
      rw [HSL.out]
      refine ⟨ad, cap, rfl, acc_of_own (ownsRow_setCell_below (ownsRow_setCell_below hown (a := ⟨w.heap.size + 1, 0, none⟩) (Nat.lt_succ_of_lt HRA.out) _) (a := ⟨w.heap.size + 1, 1, none⟩) (Nat.lt_succ_of_lt HRA.out) _) (rep_wf _) (by omega), (hb.setCell (show w.heap.size ≤ w.heap.size + 1 from Nat.le_add_right _ _) _).setCell (show w.heap.size ≤ w.heap.size + 1 from Nat.le_add_right _ _) _⟩
set_option maxRecDepth 100000 in
set_option maxHeartbeats 4000000 in
theorem rnew_no (C : Cv) (now : Int) (w : World) (h : Good w C) (hc : chk C = false) :
    Calls Try.prog 14 #[.agg C.cells, .int .i64 now] w fun e w' => e = .returned (.agg #[.int .i64 0, .slice none 0 0]) ∧ Below w.heap.size w w' := by
  have HG := Lib.hid h
  have HK : Hid (chkI C = 90) := by show chkI C = 90; unfold chkI; rw [hc]; rfl
  clear h hc
  have hbc : Below w.heap.size w ((w.alloc (Obj.cells C.cells 24)).alloc (Obj.cells #[Value.int IntKind.i64 0, Value.slice none 0 0] 30)) := bnew (bnew (brefl w) _) _
  have hBc : ((w.alloc (Obj.cells C.cells 24)).alloc (Obj.cells #[Value.int IntKind.i64 0, Value.slice none 0 0] 30)).heap[w.heap.size]? = some (.cells C.cells 24 (0, 0)) := heap_alloc2_old _ _ _
  have hRs : ((w.alloc (Obj.cells C.cells 24)).alloc (Obj.cells #[Value.int IntKind.i64 0, Value.slice none 0 0] 30)).heap[w.heap.size + 1]? = some (.cells #[.int .i64 0, .slice none 0 0] 30 (0, 0)) := heap_alloc2_new _ _ _
  go_enter Try.func14, Try.ntmps14
  go_wp2_with (first
    | (with_reducible refine wpList_load_cfg rfl _ rfl w.heap.size rfl C hBc ?_)
    | (go_at_call 40; with_reducible refine (rcheck_any C _ (HG.out.below hbc)).mono ?_; rintro e wX ⟨rfl, hX⟩; have hbc := bnext hbc hX; have hRs := (hX.block _ (lt_of_block hRs)).trans hRs; rw [HK.out]; obtain ⟨x0, x1⟩ := acc_cells hRs; have z0 : ∀ j, wX.frozen? ⟨w.heap.size + 1, j, none⟩ = false := (fun j => blk_free hRs)))
  refine bodyPost_ret (results_cell_row rfl _ _ (w.heap.size + 1) 30 _ (0, 0) _ rfl ((heap_setCell_same _ _ _ _ _ _ (heap_setCell_same _ _ _ _ _ _ hRs)).trans rfl) Try.underlying30 rfl (acc_info.trans rfl)) rfl ?_
  exact ⟨rfl, (hbc.setCell (show w.heap.size ≤ w.heap.size + 1 from Nat.le_add_right _ _) _).setCell (show w.heap.size ≤ w.heap.size + 1 from Nat.le_add_right _ _) _⟩
set_option maxRecDepth 100000 in
set_option maxHeartbeats 4000000 in
theorem rnew_yes (C : Cv) (now : Int) (w : World) (h : Good w C) (hc : chk C = true) :
    Calls Try.prog 14 #[.agg C.cells, .int .i64 now] w fun e w' => ∃ ad cap, e = .returned (.agg #[.int .i64 now, .slice ad C.slots.toNat cap]) ∧ Acc w' ad C.slots.toNat cap (List.replicate C.slots.toNat gnone) ∧ Below w.heap.size w w' := by
  have HG := Lib.hid h
  have HK : Hid (chkI C = 0) := by show chkI C = 0; unfold chkI; rw [hc]; rfl
  have hcf := chk_facts hc
  have hs1 : 1 ≤ C.slots := hcf.2.1.1
  have hs9 : C.slots ≤ 9 := by have := hcf.1; have := hcf.2.1; omega
  clear h hc hcf
  have hbc : Below w.heap.size w ((w.alloc (Obj.cells C.cells 24)).alloc (Obj.cells #[Value.int IntKind.i64 0, Value.slice none 0 0] 30)) := bnew (bnew (brefl w) _) _
  have hBc : ((w.alloc (Obj.cells C.cells 24)).alloc (Obj.cells #[Value.int IntKind.i64 0, Value.slice none 0 0] 30)).heap[w.heap.size]? = some (.cells C.cells 24 (0, 0)) := heap_alloc2_old _ _ _
  have hRs : ((w.alloc (Obj.cells C.cells 24)).alloc (Obj.cells #[Value.int IntKind.i64 0, Value.slice none 0 0] 30)).heap[w.heap.size + 1]? = some (.cells #[.int .i64 0, .slice none 0 0] 30 (0, 0)) := heap_alloc2_new _ _ _
  obtain ⟨i0, hi, hz0, hz1, hz2⟩ := grant_i
  have HI := Lib.hid hi
  have HZ := Lib.hid hz0
  clear hi hz0
  go_enter Try.func14, Try.ntmps14
  go_wp2_with (first
    | (with_reducible refine wpList_load_cfg rfl _ rfl w.heap.size rfl C hBc ?_)
    | (go_at_call 40; with_reducible refine (rcheck_any C _ (HG.out.below hbc)).mono ?_; rintro e wX ⟨rfl, hX⟩; have hbc := bnext hbc hX; have hBc := (hX.block _ (lt_of_block hBc)).trans hBc; have hRs := (hX.block _ (lt_of_block hRs)).trans hRs; rw [HK.out]; obtain ⟨_, m1, _⟩ := cfg_cells2 hBc; have ma := (fun o => cell_alloc (o := o) m1)))
  obtain ⟨sl, hsl, hsl9⟩ : ∃ sl : Nat, C.slots = sl ∧ sl ≤ 9 := ⟨C.slots.toNat, by omega, by omega⟩
  have HSL : Hid (C.slots.toNat = sl) := by show C.slots.toNat = sl; omega
  simp only [hsl] at m1 ma
  have HXR := Lib.hid ((Below.heap_alloc wX (Obj.cells #[Value.int IntKind.i64 now, Value.slice none 0 0] 30) _ (lt_of_block hRs)).trans hRs)
  have HXB := Lib.hid (bnew hbc (Obj.cells #[Value.int IntKind.i64 now, Value.slice none 0 0] 30))
  have HXA := Lib.hid (heap_alloc_new wX (Obj.cells #[Value.int IntKind.i64 now, Value.slice none 0 0] 30))
  have HXC := Lib.hid ((Below.heap_alloc wX (Obj.cells #[Value.int IntKind.i64 now, Value.slice none 0 0] 30) _ (lt_of_block hBc)).trans hBc)
  have HXS : Hid (wX.heap.size + 1 ≤ (wX.alloc (Obj.cells #[Value.int IntKind.i64 now, Value.slice none 0 0] 30)).heap.size) := by show _ ≤ _; simp
  have HRA : Hid (w.heap.size + 1 < wX.heap.size) := lt_of_block hRs
  clear m1 ma hbc hBc hRs hX
  go_loopw [6] (fun i wr => ∃ (k : Nat) (ad : Option Addr) (cap : Nat), k ≤ sl ∧ i = .int .i64 k ∧ wr.heap[wX.heap.size]? = some (.cells #[.int .i64 now, .slice ad k cap] 30 (0, 0)) ∧ wr.ownsRow (wX.heap.size + 1) 68 3 (.slice ad k cap) k (flat (List.replicate k gnone)) ∧ wr.heap[w.heap.size + 1]? = some (.cells #[.int .i64 0, .slice none 0 0] 30 (0, 0)) ∧ wr.heap[w.heap.size]? = some (.cells C.cells 24 (0, 0)) ∧ Below w.heap.size w wr ∧ wX.heap.size + 1 ≤ wr.heap.size) (fun i _ => sl - (intOf i).toNat)
  case atStart => exact ⟨0, none, 0, Nat.zero_le _, rfl, HXA.out, World.ownsRow_nil _ _ _ _, HXR.out, HXC.out, HXB.out, HXS.out⟩
  case round =>
    obtain ⟨k, ad, cap, hk, rfl, hA, hown, hR, hC, hb, hsz⟩ := hrel
    obtain ⟨_, m1, _⟩ := cfg_cells2 hC
    simp only [hsl] at m1
    by_cases hlt : k < sl
    · have FO : Hid (∀ W, Below wr.heap.size wr W → W.ownsRow (wX.heap.size + 1) 68 3 (.slice ad k cap) k (flat (List.replicate k gnone))) := fun W h => own_below hown h
      have HA := Lib.hid hA
      have HR := Lib.hid hR
      have HC := Lib.hid hC
      have HB := Lib.hid hb
      have HSZ := Lib.hid hsz
      have HTK := Lib.hid (flat_rep k)
      have hS : Below wr.heap.size wr wr := Below.refl _ _
      obtain ⟨u0, u1⟩ := acc_cells hA
      clear hown hA hR hb hC
      go_wp2_with (at_builtin; (refine wpList_append_row (by rfl) (.tmp 20) (.tmp 22) 28 rfl (wX.heap.size + 1) 68 i0 _ 3 24 Try.underlying28 HI.out HZ.out hz1 hz2 rfl (by decide) (.slice ad k cap) k (flat (List.replicate k gnone)) rfl (FO.out _ (bnew hS _)) (some ⟨wr.heap.size, 0, none⟩) 1 1 (flat [gnone]) rfl (fun h => by cases h) rfl (blk_news (heap_alloc_new wr _)) (flat_one _) (by unfold maxLen; omega) (by omega) (by have := HSZ.out; simp; omega) ?_); intro v7 w7 ho7 hg7; have hB7 := grown7 (bnew hS _) HSZ.out (FO.out _ hS) hg7; obtain ⟨ad7, cap7, rfl, hp7⟩ := own_form ho7; have HA7 := Lib.hid ((hB7.block wX.heap.size (Nat.lt_succ_self _)).trans HA.out); obtain ⟨x7, y7⟩ := acc_cells HA7.out; have z7 : ∀ j, w7.frozen? ⟨wX.heap.size, j, none⟩ = false := (fun j => blk_free HA7.out); have HO7 := Lib.hid ho7; have HB7 := Lib.hid hB7; clear ho7 hB7 hg7)
      all_goals
        have hA8 : (w7.setCell ⟨wX.heap.size, 1, none⟩ (.slice ad7 (k + 1) cap7)).heap[wX.heap.size]? = some (.cells #[.int .i64 now, .slice ad7 (k + 1) cap7] 30 (0, 0)) := (heap_setCell_same _ _ _ _ _ _ HA7.out).trans rfl
        have hO8 := ownsRow_setCell_below HO7.out (a := ⟨wX.heap.size, 1, none⟩) (Nat.lt_succ_self _) (.slice ad7 (k + 1) cap7)
        rw [← HTK.out] at hO8
        have hB8 := set8 HB7.out 1 (.slice ad7 (k + 1) cap7)
        have hR8 : (w7.setCell ⟨wX.heap.size, 1, none⟩ (.slice ad7 (k + 1) cap7)).heap[w.heap.size + 1]? = some (.cells #[.int .i64 0, .slice none 0 0] 30 (0, 0)) := (heap_setCell_other _ _ _ _ (Nat.ne_of_lt HRA.out)).trans ((HB7.out.block _ (Nat.lt_succ_of_lt HRA.out)).trans HR.out)
        have hC8 : (w7.setCell ⟨wX.heap.size, 1, none⟩ (.slice ad7 (k + 1) cap7)).heap[w.heap.size]? = some (.cells C.cells 24 (0, 0)) := (heap_setCell_other _ _ _ _ (show w.heap.size ≠ wX.heap.size by have := HRA.out; omega)).trans ((HB7.out.block _ (by have := HRA.out; omega)).trans HC.out)
        generalize w7.setCell ⟨wX.heap.size, 1, none⟩ (.slice ad7 (k + 1) cap7) = W8 at *
        go_wp2_with fail
        go_roundw
        case rel => exact ⟨k + 1, ad7, cap7, by omega, by go_num, hA8, hO8, hR8, hC8, by have h := hB8.mono (show w.heap.size ≤ wX.heap.size by have := HRA.out; omega); exact HB.out.trans h, by have := hB8.size; have := HSZ.out; omega⟩
        case measure => simp [intOf]; omega
    · have hke : k = sl := by omega
      subst hke
      obtain ⟨r0, r1⟩ := acc_cells hR
      obtain ⟨a0, a1⟩ := acc_cells hA
      have z0 : ∀ j, wr.frozen? ⟨w.heap.size + 1, j, none⟩ = false := fun j => blk_free hR
      go_wp2_with fail
      refine bodyPost_ret (results_cell_row rfl _ _ (w.heap.size + 1) 30 _ (0, 0) _ rfl ((heap_setCell_same _ _ _ _ _ _ (heap_setCell_same _ _ _ _ _ _ hR)).trans rfl) Try.underlying30 rfl (acc_info.trans rfl)) rfl ?_
      rw [HSL.out]
      refine ⟨ad, cap, rfl, acc_of_own (ownsRow_setCell_below (ownsRow_setCell_below hown (a := ⟨w.heap.size + 1, 0, none⟩) (Nat.lt_succ_of_lt HRA.out) _) (a := ⟨w.heap.size + 1, 1, none⟩) (Nat.lt_succ_of_lt HRA.out) _) (rep_wf _) (by omega), (hb.setCell (show w.heap.size ≤ w.heap.size + 1 from Nat.le_add_right _ _) _).setCell (show w.heap.size ≤ w.heap.size + 1 from Nat.le_add_right _ _) _⟩
end Go.Proofs.Ytmhggpmhekeemaa
