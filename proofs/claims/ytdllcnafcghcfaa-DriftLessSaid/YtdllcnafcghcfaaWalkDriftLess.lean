/- The walk of DriftLess: true, and nothing that was there has changed. -/
import Derived.Test.YtdllcnafcghcfaaLess
import Derived.Deep.RegionHeld3
namespace Go.Proofs.Ytdllcnafcghcfaa
open Go.RowKit
theorem cfg_cells {w : World} {b : Nat} {C : Cv} (hb : w.heap[b]? = some (.cells C.cells 25 (0, 0))) : w.cell? ⟨b, 0, none⟩ = some (.int .i64 C.nodes) ∧ w.cell? ⟨b, 1, none⟩ = some (.int .i64 C.slots) ∧ w.cell? ⟨b, 2, none⟩ = some (.int .i64 C.rho) ∧ w.cell? ⟨b, 3, none⟩ = some (.int .i64 C.hold) ∧ w.cell? ⟨b, 4, none⟩ = some (.int .i64 C.grant) ∧ w.cell? ⟨b, 5, none⟩ = some (.int .i64 C.guard) ∧ w.cell? ⟨b, 6, none⟩ = some (.int .i64 C.work) ∧ w.cell? ⟨b, 7, none⟩ = some (.slice C.sa C.sn C.sc) ∧ w.cell? ⟨b, 8, none⟩ = some (.slice C.na C.nn C.nc) ∧ w.cell? ⟨b, 9, none⟩ = some (.int .i64 C.soak) ∧ w.cell? ⟨b, 10, none⟩ = some (.int .i64 C.pass) := by
  refine ⟨?_, ?_, ?_, ?_, ?_, ?_, ?_, ?_, ?_, ?_, ?_⟩ <;> (rw [cell_of_row _ _ _ _ _ _ hb]; rfl)

theorem Cv.one (C : Cv) : C.cells.all (·.oneCell') = true := by simp [Value.oneCell']
theorem own_some {w : World} {base : Nat} {e : TypeId} {v : Value} {n : Nat} {xs : List Value} (h : w.ownsRow base e 1 v n xs) (hn : n ≠ 0) :
    ∃ g cap cur, v = .slice (some ⟨g, 0, none⟩) n cap ∧ base ≤ g ∧ w.heap[g]? = some (.cells cur e (0, 0)) ∧ n ≤ cap ∧ cap ≤ maxLen ∧ cur.size = cap ∧ cur.toList.take n = xs := by
  rcases h.2 with ⟨_, h00⟩ | ⟨g, cap, cur, hv, hb, hg, hnc, hm, hs, ht⟩
  · omega
  · exact ⟨g, cap, cur, hv, hb, hg, hnc, hm, by simpa using hs, by simpa using ht⟩
theorem chk_ne {C : Cv} (hk : chk C = true) {k : Nat} (hkn : k < C.nn) : 0 ≤ C.ne.getD k 0 := by
  have hh : chk C = (q1 C && (q2 C && (stB C && q4 C))) := rfl
  rw [hk] at hh
  have hh' := hh.symm
  simp only [Bool.and_eq_true] at hh'
  obtain ⟨h1, h2, h3, h4⟩ := hh'
  unfold stB at h3
  simp only [Bool.and_eq_true, decide_eq_true_eq, List.all_eq_true, List.mem_range] at h3
  have := h3.2.2 k hkn
  unfold okN at this
  simp only [decide_eq_true_eq] at this
  omega
set_option maxRecDepth 100000 in
set_option maxHeartbeats 1000000 in
theorem walk_DriftLess (C0 : Cv) (s m : Int) (w : World) (w0 : Good w C0) (w1 : (Lit.int .u8 s).wf = true) (w2 : (Lit.int .u16 m).wf = true) :
    Calls Try.prog 9 #[.agg C0.cells, .int .u8 s, .int .u16 m] w fun e w' => e = .returned (.bool true) ∧ Below w.heap.size w w' := by
  have HG := Lib.hid w0
  clear w0
  have r3 : 0 ≤ s ∧ s ≤ 255 := by
    simp only [Lit.wf, Bool.and_eq_true, decide_eq_true_eq] at w1
    have h1 : IntKind.u8.min = 0 := rfl
    have h2 : IntKind.u8.max = 255 := rfl
    omega
  have r4 : 0 ≤ m ∧ m ≤ 65535 := by
    simp only [Lit.wf, Bool.and_eq_true, decide_eq_true_eq] at w2
    have h1 : IntKind.u16.min = 0 := rfl
    have h2 : IntKind.u16.max = 65535 := rfl
    omega
  obtain ⟨r3, r3'⟩ := r3
  obtain ⟨r4, r4'⟩ := r4
  clear w1 w2
  by_cases hf : fewB C0 = true
  · have HF := Lib.hid hf
    by_cases hk : chk C0 = true
    · have HK : Hid (chkI C0 = 0) := by show chkI C0 = 0; unfold chkI; rw [if_pos hk]
      have HKK := Lib.hid hk
      obtain ⟨n0, n4⟩ := chk_nn hk
      clear hk hf
      obtain ⟨i0, hi, hz0, hz1, hz2⟩ : ∃ i, Try.prog.info? 3 = some i ∧ i.zero = some (.int .i64 0) ∧ i.size = 1 ∧ i.bytes = 8 := by
        have := num_info
        cases h : Try.prog.info? 3 with
        | none => rw [h] at this; cases this
        | some i => rw [h] at this; simp at this; exact ⟨i, rfl, this.1, this.2.1, this.2.2⟩
      have HI := Lib.hid hi
      clear hi
      go_enter Try.func9, Try.ntmps9
      go_wp2_with (first
      | (go_at_call 10; refine (awake_true _).mono ?_; rintro e wA ⟨rfl, hA⟩; have hbc := bnext (bnew (brefl w) _) hA; have hBc := (hA.block w.heap.size (by simp)).trans (heap_alloc_new _ _))
      | (with_reducible refine wpList_load_cfg rfl _ rfl w.heap.size rfl C0 hBc ?_)
      | (go_at_call 11; refine (few_any C0 _ (HG.out.below hbc)).mono ?_; rintro e wX ⟨rfl, hX⟩; have hbc := bnext hbc hX; have hBc := (hX.block _ (lt_of_block hBc)).trans hBc; rw [HF.out])
      | (go_at_call 12; refine (check_any C0 _ (HG.out.below hbc)).mono ?_; rintro e wX ⟨rfl, hX⟩; have hbc := bnext hbc hX; have hBc := (hX.block _ (lt_of_block hBc)).trans hBc; rw [HK.out])
      | ((with_reducible refine wpList_store_row rfl 25 _ _ rfl wX.heap.size C0.cells rfl rfl 25 _ (heap_alloc_new _ _) (cfg_info.trans rfl) rfl C0.one ?_); generalize hWS : World.setRow _ _ _ = WS; have hltX := lt_of_block hBc; have hbc : Below w.heap.size w WS := hWS ▸ below_setRow (bnew hbc _) (Nat.le_of_lt hltX) _; have hBc : WS.heap[w.heap.size]? = some (.cells C0.cells 25 (0, 0)) := (by rw [← hWS]; exact (setRow_other _ _ _ _ (by omega)).trans ((Below.heap_alloc _ _ _ hltX).trans hBc)); have hDS : WS.heap[wX.heap.size]? = some (.cells C0.cells 25 (0, 0)) := (by rw [← hWS]; exact setRow_heap _ _ _ _ _ _ (heap_alloc_new _ _)); have HSZ : Hid (WS.heap.size = wX.heap.size + 1) := (by show _ = _; rw [← hWS]; simp [World.setRow]); clear hWS; have f8 : (WS.alloc (Obj.cells #[] 3)).cell? ⟨w.heap.size, 8, none⟩ = some (.slice C0.na C0.nn C0.nc) := (cfg_cells ((Below.heap_alloc _ _ _ (lt_of_block hBc)).trans hBc)).2.2.2.2.2.2.2.2.1)
      | (refine wpList_append_reads rfl (.tmp 22) (.tmp 24) 23 rfl WS.heap.size 3 i0 (.int .i64 0) 8 Try.underlying23 HI.out hz0 hz1 hz2 rfl (.slice (some ⟨WS.heap.size, 0, none⟩) 0 0) 0 [] rfl (World.ownsRow_lit WS #[] 0 (Nat.le_refl _) (by decide) rfl) .i64 C0.na C0.nn C0.nc C0.ne rfl ((HG.out.below hbc).ne.alloc _) (by unfold maxLen; omega) (by omega) (by simp) ?_; intro v1 wD ho1 hg1; rw [Nat.zero_add, List.nil_append] at ho1; obtain ⟨g, cp, cur, rfl, hgb, hgD, hgn, hgc, hgs, hgt⟩ := own_some ho1 (by omega); have hsz := HSZ.out; have hbD : Below w.heap.size w wD := bgrown_lit (bnew hbc _) hg1 (by omega); have hne : ∀ j, j < WS.heap.size → wD.heap[j]? = WS.heap[j]? := fun j hj => (by rw [hg1.block _ (by simp; omega) (by simp only [Value.ownBlock]; intro h; injection h; omega), Below.heap_alloc _ _ _ hj]); have hBD := (hne _ (by omega)).trans hBc; have hDD := (hne _ (by omega)).trans hDS; have hlD := lt_of_block hgD; clear hne hsz; have fD8 := (cfg_cells hDD).2.2.2.2.2.2.2.2.1; have fF8 : wD.frozen? ⟨wX.heap.size, 8, none⟩ = false := blk_free hDD))
      have hsz := HSZ.out
      have hB6 : (wD.setCell ⟨wX.heap.size, 8, none⟩ (.slice (some ⟨g, 0, none⟩) C0.nn cp)).heap[w.heap.size]? = some (.cells C0.cells 25 (0, 0)) := (heap_setCell_other _ _ _ _ (by show w.heap.size ≠ wX.heap.size; omega)).trans hBD
      have hD6 : (wD.setCell ⟨wX.heap.size, 8, none⟩ (.slice (some ⟨g, 0, none⟩) C0.nn cp)).heap[wX.heap.size]? = some (.cells (Cv.cells { C0 with na := some ⟨g, 0, none⟩, nc := cp }) 25 (0, 0)) := (heap_setCell_same _ _ _ _ _ _ hDD).trans rfl
      have hG6 : (wD.setCell ⟨wX.heap.size, 8, none⟩ (.slice (some ⟨g, 0, none⟩) C0.nn cp)).heap[g]? = some (.cells cur 3 (0, 0)) := (heap_setCell_other _ _ _ _ (by show g ≠ wX.heap.size; omega)).trans hgD
      have hb6 : Below w.heap.size w (wD.setCell ⟨wX.heap.size, 8, none⟩ (.slice (some ⟨g, 0, none⟩) C0.nn cp)) := hbD.setCell (Nat.le_of_lt hltX) _
      generalize wD.setCell ⟨wX.heap.size, 8, none⟩ (.slice (some ⟨g, 0, none⟩) C0.nn cp) = W6 at *
      have HlD := Lib.hid hltX
      have Hlg : Hid (wX.heap.size < g) := by show _ < _; omega
      clear hg1 ho1 hgb hgD hlD fD8 fF8 hBD hDD hbD hsz f8 hBc hDS hbc hX hA
      generalize hDn : wX.heap.size = D at *
      obtain ⟨k, hk⟩ := Int.eq_ofNat_of_zero_le (Int.emod_nonneg s (show (C0.nn : Int) ≠ 0 by omega))
      have hkn : k < C0.nn := by have := Int.emod_lt_of_pos s (show 0 < (C0.nn : Int) by omega); omega
      simp only [hk]
      obtain ⟨x, hx⟩ : ∃ x, x = C0.ne.getD k 0 := ⟨_, rfl⟩
      have hx0 : 0 ≤ x := hx ▸ chk_ne HKK.out hkn
      have hx1 : x ≤ 9223372036854775807 := hx ▸ getD_range (by rw [HG.out.ne.length]; exact hkn) (fun s hs => (i64_range (HG.out.ne.wf s hs)).2)
      have cD8 := (cfg_cells hD6).2.2.2.2.2.2.2.2.1
      have cg := (reads_of_blk hG6 hgn (by unfold maxLen at hgc; omega) HG.out.ne.length hgt HG.out.ne.wf).cells
      have cgk : W6.cell? ⟨g, k, none⟩ = some (.int .i64 x) := by
        rcases cg with h | ⟨b, off, h, hc⟩
        · omega
        · cases h
          rw [hx, ← hc k hkn, Nat.zero_add]
      have fgk : W6.frozen? ⟨g, k, none⟩ = false := blk_free hG6
      clear cg hk
      have HX := Lib.hid hx
      clear hx
      go_region
      have hkc : k < cur.size := by omega
      have hB7 : (W6.setCell ⟨g, k, none⟩ (.int .i64 (max (x - 1) 0))).drew.heap[w.heap.size]? = some (.cells C0.cells 25 (0, 0)) := (heap_setCell_other _ _ _ _ (by show w.heap.size ≠ g; have := Hlg.out; have := HlD.out; omega)).trans hB6
      have hD7 : (W6.setCell ⟨g, k, none⟩ (.int .i64 (max (x - 1) 0))).drew.heap[D]? = some (.cells (Cv.cells { C0 with na := some ⟨g, 0, none⟩, nc := cp }) 25 (0, 0)) := (heap_setCell_other _ _ _ _ (by show D ≠ g; have := Hlg.out; omega)).trans hD6
      have hG7 : (W6.setCell ⟨g, k, none⟩ (.int .i64 (max (x - 1) 0))).drew.heap[g]? = some (.cells (cur.setIfInBounds k (.int .i64 (max (x - 1) 0))) 3 (0, 0)) := heap_setCell_same _ _ _ _ _ _ hG6
      have hb7 : Below w.heap.size w (W6.setCell ⟨g, k, none⟩ (.int .i64 (max (x - 1) 0))).drew := (hb6.setCell (by show w.heap.size ≤ g; have := Hlg.out; have := HlD.out; omega) _).drew
      generalize (W6.setCell ⟨g, k, none⟩ (.int .i64 (max (x - 1) 0))).drew = W7 at *
      clear hB6 hD6 hG6 hb6 cD8 cgk fgk
      have hcur : cur.size = (cur.setIfInBounds k (.int .i64 (max (x - 1) 0))).size := by simp
      have hgt7 : (cur.setIfInBounds k (.int .i64 (max (x - 1) 0))).toList.take C0.nn = (C0.ne.set k (max (C0.ne.getD k 0 - 1) 0)).map (Value.int .i64) := by
        rw [← HX.out, ← take_set_map hgt]; simp
      rw [hcur] at hgs
      generalize cur.setIfInBounds k (.int .i64 (max (x - 1) 0)) = cur7 at *
      clear hcur hgt hkc
      have F4 := (chk_facts HKK.out).2.2.2.2
      obtain ⟨⟨q0, q1⟩, ⟨q2, q3⟩, _⟩ := F4
      have c4 := (cfg_cells hB7).2.2.2.2.1
      have d4 := (cfg_cells hD7).2.2.2.2.1
      have e4 : W7.frozen? ⟨D, 4, none⟩ = false := blk_free hD7
      have hD8 : ∀ v, (W7.setCell ⟨D, 4, none⟩ (.int .i64 v)).heap[D]? = some (.cells (Cv.cells { C0 with na := some ⟨g, 0, none⟩, nc := cp, grant := v }) 25 (0, 0)) := fun v => (heap_setCell_same _ _ _ _ _ _ hD7).trans rfl
      have hB8 : ∀ v, (W7.setCell ⟨D, 4, none⟩ (.int .i64 v)).heap[w.heap.size]? = some (.cells C0.cells 25 (0, 0)) := fun v => (heap_setCell_other _ _ _ _ (by show w.heap.size ≠ D; have := HlD.out; omega)).trans hB7
      have hG8 : ∀ v, (W7.setCell ⟨D, 4, none⟩ (.int .i64 v)).heap[g]? = some (.cells cur7 3 (0, 0)) := fun v => (heap_setCell_other _ _ _ _ (by show g ≠ D; have := Hlg.out; omega)).trans hG7
      have hb8 : ∀ v, Below w.heap.size w (W7.setCell ⟨D, 4, none⟩ (.int .i64 v)) := fun v => hb7.setCell (Nat.le_of_lt HlD.out) _
      have c5 := fun v => (cfg_cells (hB8 v)).2.2.2.2.2.1
      have d5 := fun v => (cfg_cells (hD8 v)).2.2.2.2.2.1
      have e5 : ∀ v, (W7.setCell ⟨D, 4, none⟩ (.int .i64 v)).frozen? ⟨D, 5, none⟩ = false := fun v => blk_free (hD8 v)
      have HB8 := Lib.hid hB8
      have HD8 := Lib.hid hD8
      have HG8 := Lib.hid hG8
      have Hb8 := Lib.hid hb8
      clear hB8 hD8 hG8 hb8 hB7 hD7 hG7 hb7
      obtain ⟨GR, hGR⟩ : ∃ GR, GR = min (C0.grant + m) 1073741824 := ⟨_, rfl⟩
      obtain ⟨GU, hGU⟩ : ∃ GU, GU = min (C0.guard + m) 1073741824 := ⟨_, rfl⟩
      have HB9 : Hid (((W7.setCell ⟨D, 4, none⟩ (.int .i64 (min (C0.grant + m) 1073741824))).setCell ⟨D, 5, none⟩ (.int .i64 (min (C0.guard + m) 1073741824))).heap[w.heap.size]? = some (.cells C0.cells 25 (0, 0))) := (heap_setCell_other _ _ _ _ (by show w.heap.size ≠ D; have := HlD.out; omega)).trans (HB8.out _)
      have HD9 : Hid (((W7.setCell ⟨D, 4, none⟩ (.int .i64 (min (C0.grant + m) 1073741824))).setCell ⟨D, 5, none⟩ (.int .i64 (min (C0.guard + m) 1073741824))).heap[D]? = some (.cells (Cv.cells { C0 with na := some ⟨g, 0, none⟩, nc := cp, ne := C0.ne.set k (max (C0.ne.getD k 0 - 1) 0), grant := GR, guard := GU }) 25 (0, 0))) := by
        show _ = _
        rw [hGR, hGU]
        exact (heap_setCell_same _ _ _ _ _ _ (HD8.out _)).trans rfl
      have HG9 : Hid (((W7.setCell ⟨D, 4, none⟩ (.int .i64 (min (C0.grant + m) 1073741824))).setCell ⟨D, 5, none⟩ (.int .i64 (min (C0.guard + m) 1073741824))).heap[g]? = some (.cells cur7 3 (0, 0))) := (heap_setCell_other _ _ _ _ (by show g ≠ D; have := Hlg.out; omega)).trans (HG8.out _)
      have Hb9 : Hid (Below w.heap.size w ((W7.setCell ⟨D, 4, none⟩ (.int .i64 (min (C0.grant + m) 1073741824))).setCell ⟨D, 5, none⟩ (.int .i64 (min (C0.guard + m) 1073741824)))) := (Hb8.out _).setCell (Nat.le_of_lt HlD.out) _
      have HGR := Lib.hid hGR
      have HGU := Lib.hid hGU
      clear HB8 HD8 HG8 Hb8 hGR hGU
      go_wp2_with (first
        | ((with_reducible refine wpList_load_cfg rfl _ rfl w.heap.size rfl C0 HB9.out ?_); generalize ((W7.setCell ⟨D, 4, none⟩ (.int .i64 (min (C0.grant + m) 1073741824))).setCell ⟨D, 5, none⟩ (.int .i64 (min (C0.guard + m) 1073741824))) = W9 at *)
        | ((with_reducible refine wpList_store_row rfl 25 _ _ rfl W9.heap.size C0.cells rfl rfl 25 _ (heap_alloc_new _ _) (cfg_info.trans rfl) rfl C0.one ?_); generalize hWS : World.setRow _ _ _ = WT; have HbT : Hid (Below w.heap.size w WT) := (by have := (lt_of_block HB9.out); exact hWS ▸ below_setRow (bnew Hb9.out _) (Nat.le_of_lt this) _); have hne : ∀ j, j < W9.heap.size → WT.heap[j]? = W9.heap[j]? := fun j hj => (by rw [← hWS]; exact (setRow_other _ _ _ _ (by omega)).trans (Below.heap_alloc _ _ _ hj)); have HBT := Lib.hid ((hne _ (lt_of_block HB9.out)).trans HB9.out); have HDT := Lib.hid ((hne _ (lt_of_block HD9.out)).trans HD9.out); have HGT := Lib.hid ((hne _ (lt_of_block HG9.out)).trans HG9.out); have HET : Hid (WT.heap[W9.heap.size]? = some (.cells C0.cells 25 (0, 0))) := (by show _ = _; rw [← hWS]; exact setRow_heap _ _ _ _ _ _ (heap_alloc_new _ _)); have HSZT : Hid (WT.heap.size = W9.heap.size + 1) := (by show _ = _; rw [← hWS]; simp [World.setRow]); clear hWS hne; have f8 : (WT.alloc (Obj.cells #[] 3)).cell? ⟨w.heap.size, 8, none⟩ = some (.slice C0.na C0.nn C0.nc) := (cfg_cells ((Below.heap_alloc _ _ _ (lt_of_block HBT.out)).trans HBT.out)).2.2.2.2.2.2.2.2.1)
        | (refine wpList_append_reads rfl (.tmp 59) (.tmp 61) 23 rfl WT.heap.size 3 i0 (.int .i64 0) 8 Try.underlying23 HI.out hz0 hz1 hz2 rfl (.slice (some ⟨WT.heap.size, 0, none⟩) 0 0) 0 [] rfl (World.ownsRow_lit WT #[] 0 (Nat.le_refl _) (by decide) rfl) .i64 C0.na C0.nn C0.nc C0.ne rfl ((HG.out.below HbT.out).ne.alloc _) (by unfold maxLen; omega) (by omega) (by simp) ?_; intro v1 wE ho1 hg1; rw [Nat.zero_add, List.nil_append] at ho1; obtain ⟨g2, cp2, cur2, rfl, hgb, hgD, _, _, _, _⟩ := own_some ho1 (by omega); have hne : ∀ j, j < WT.heap.size → wE.heap[j]? = WT.heap[j]? := fun j hj => (by rw [hg1.block _ (by simp; omega) (by simp only [Value.ownBlock]; intro h; injection h; omega), Below.heap_alloc _ _ _ hj]); have HBE := Lib.hid ((hne _ (lt_of_block HBT.out)).trans HBT.out); have HDE := Lib.hid ((hne _ (lt_of_block HDT.out)).trans HDT.out); have HGE := Lib.hid ((hne _ (lt_of_block HGT.out)).trans HGT.out); have HEE := Lib.hid ((hne _ (lt_of_block HET.out)).trans HET.out); have HbE := Lib.hid (bgrown_lit (bnew HbT.out _) hg1 (Nat.le_of_lt (lt_of_block HBT.out))); have Hlg2 := Lib.hid hgb; have HO1 := Lib.hid ho1; clear hne hg1 ho1 hgb hgD)
        | (refine wpList_append_reads rfl (.tmp 62) (.tmp 63) 23 rfl WT.heap.size 3 i0 (.int .i64 0) 8 Try.underlying23 HI.out hz0 hz1 hz2 rfl (.slice (some ⟨g2, 0, none⟩) C0.nn cp2) C0.nn _ rfl (HO1.out.alloc _) .i64 (some ⟨wE.heap.size, 0, none⟩) 1 1 [0] rfl (blk_reads (heap_alloc_new wE (Obj.cells (cellsOf .i64 [0]) 3)) (by simp) (by decide)) (by unfold maxLen; omega) (by omega) (by have := (HO1.out.lt g2 rfl).2; have := Hlg2.out; simp; omega) ?_; intro v3 wF ho3 hg3; obtain ⟨g3, cp3, cur3, rfl, hgb3, hgD3, hgn3, hgc3, hgs3, hgt3⟩ := own_some ho3 (by omega); have hne : ∀ j, j < WT.heap.size → wF.heap[j]? = wE.heap[j]? := fun j hj => (by have h1 := (HO1.out.lt g2 rfl).2; have h2 := Hlg2.out; rw [hg3.block _ (by simp; omega) (by simp only [Value.ownBlock]; intro h; injection h; omega), Below.heap_alloc _ _ _ (by omega)]); have HBF := Lib.hid ((hne _ (lt_of_block HBT.out)).trans HBE.out); have HDF := Lib.hid ((hne _ (lt_of_block HDT.out)).trans HDE.out); have HGF := Lib.hid ((hne _ (lt_of_block HGT.out)).trans HGE.out); have HEF := Lib.hid ((hne _ (lt_of_block HET.out)).trans HEE.out); have HbF := Lib.hid (bgrown_lit (bnew HbE.out _) hg3 (by have h2 := Hlg2.out; have h3 := lt_of_block HBT.out; omega)); have HG3 := Lib.hid hgD3; have HL3 := Lib.hid hgb3; clear hne hg3 ho3 hgD3 hgb3; have cE8 := (cfg_cells HEF.out).2.2.2.2.2.2.2.2.1; have fE8 : wF.frozen? ⟨W9.heap.size, 8, none⟩ = false := blk_free HEF.out))
      have hEE : w.heap.size ≤ W9.heap.size := Nat.le_of_lt (lt_of_block HB9.out)
      have hDE : D < W9.heap.size := lt_of_block HD9.out
      have hGE : g < W9.heap.size := lt_of_block HG9.out
      have hE3 : W9.heap.size < g3 := by have := HL3.out; have := HSZT.out; omega
      have hB12 : (wF.setCell ⟨W9.heap.size, 8, none⟩ (.slice (some ⟨g3, 0, none⟩) (C0.nn + 1) cp3)).heap[w.heap.size]? = some (.cells C0.cells 25 (0, 0)) := (heap_setCell_other _ _ _ _ (by show w.heap.size ≠ W9.heap.size; have := lt_of_block HB9.out; omega)).trans HBF.out
      have hD12 : (wF.setCell ⟨W9.heap.size, 8, none⟩ (.slice (some ⟨g3, 0, none⟩) (C0.nn + 1) cp3)).heap[D]? = some (.cells (Cv.cells { C0 with na := some ⟨g, 0, none⟩, nc := cp, ne := C0.ne.set k (max (C0.ne.getD k 0 - 1) 0), grant := GR, guard := GU }) 25 (0, 0)) := (heap_setCell_other _ _ _ _ (by show D ≠ W9.heap.size; omega)).trans HDF.out
      have hG12 : (wF.setCell ⟨W9.heap.size, 8, none⟩ (.slice (some ⟨g3, 0, none⟩) (C0.nn + 1) cp3)).heap[g]? = some (.cells cur7 3 (0, 0)) := (heap_setCell_other _ _ _ _ (by show g ≠ W9.heap.size; omega)).trans HGF.out
      have hE12 : (wF.setCell ⟨W9.heap.size, 8, none⟩ (.slice (some ⟨g3, 0, none⟩) (C0.nn + 1) cp3)).heap[W9.heap.size]? = some (.cells (Cv.cells { C0 with na := some ⟨g3, 0, none⟩, nn := C0.nn + 1, nc := cp3, ne := C0.ne ++ [0] }) 25 (0, 0)) := (heap_setCell_same _ _ _ _ _ _ HEF.out).trans rfl
      have hH12 : (wF.setCell ⟨W9.heap.size, 8, none⟩ (.slice (some ⟨g3, 0, none⟩) (C0.nn + 1) cp3)).heap[g3]? = some (.cells cur3 3 (0, 0)) := (heap_setCell_other _ _ _ _ (by show g3 ≠ W9.heap.size; omega)).trans HG3.out
      have hb12 : Below w.heap.size w (wF.setCell ⟨W9.heap.size, 8, none⟩ (.slice (some ⟨g3, 0, none⟩) (C0.nn + 1) cp3)) := HbF.out.setCell hEE _
      generalize wF.setCell ⟨W9.heap.size, 8, none⟩ (.slice (some ⟨g3, 0, none⟩) (C0.nn + 1) cp3) = W12 at *
      clear cE8 fE8 HBF HDF HGF HEF HbF HG3 HL3 HBE HDE HGE HEE HbE HO1 HBT HDT HGT HET HbT f8 HB9 HD9 HG9 Hb9 HSZT hE3 hGE hDE hEE
      generalize W9.heap.size = E at *
      have hwfne := HG.out.ne.wf
      have hln := HG.out.ne.length
      have hx2 := HX.out
      have G1 : ∀ W, Below W12.heap.size W12 W → Good W C0 := fun W h => HG.out.below (bnext hb12 h)
      have GD : ∀ W, Below W12.heap.size W12 W → Good W { C0 with na := some ⟨g, 0, none⟩, nc := cp, ne := C0.ne.set k (max (C0.ne.getD k 0 - 1) 0), grant := GR, guard := GU } := fun W h => { G1 W h with
        ne := (reads_of_blk hG12 hgn (by unfold maxLen at hgc; omega) (by simpa using hln) hgt7 (by
          intro n hn
          rcases List.mem_or_eq_of_mem_set hn with hn | rfl
          · exact hwfne n hn
          · rw [← hx2]
            simp only [Lit.wf, Bool.and_eq_true, decide_eq_true_eq]
            have h1 : IntKind.i64.min = -9223372036854775808 := rfl
            have h2 : IntKind.i64.max = 9223372036854775807 := rfl
            omega)).below h
        r4 := by have := HGR.out; show -9223372036854775808 ≤ GR ∧ GR ≤ 9223372036854775807; omega
        r5 := by have := HGU.out; show -9223372036854775808 ≤ GU ∧ GU ≤ 9223372036854775807; omega }
      have GE : ∀ W, Below W12.heap.size W12 W → Good W { C0 with na := some ⟨g3, 0, none⟩, nn := C0.nn + 1, nc := cp3, ne := C0.ne ++ [0] } := fun W h => { G1 W h with
        ne := (reads_of_blk hH12 hgn3 (by unfold maxLen at hgc3; omega) (by simp [hln]) (by rw [hgt3]; simp) (by
          intro n hn
          rcases List.mem_append.1 hn with hn | hn
          · exact hwfne n hn
          · simp only [List.mem_singleton] at hn; subst hn; decide)).below h }
      have kD : chkI { C0 with na := some ⟨g, 0, none⟩, nc := cp, ne := C0.ne.set k (max (C0.ne.getD k 0 - 1) 0), grant := GR, guard := GU } = 0 := by
        unfold chkI
        rw [if_pos]
        rw [HGR.out, HGU.out]
        exact less_chk HKK.out g cp k m r4
      have kE : chkI { C0 with na := some ⟨g3, 0, none⟩, nn := C0.nn + 1, nc := cp3, ne := C0.ne ++ [0] } = 90 := by
        unfold chkI
        rw [if_neg]
        rw [less_bad HKK.out]
        simp
      have mD : majI { C0 with na := some ⟨g, 0, none⟩, nc := cp, ne := C0.ne.set k (max (C0.ne.getD k 0 - 1) 0), grant := GR, guard := GU } = majI C0 := by
        unfold majI
        rw [if_pos HKK.out, if_pos]
        rw [HGR.out, HGU.out]
        exact less_chk HKK.out g cp k m r4
      obtain ⟨M0, hM0⟩ : ∃ M0, majI C0 = M0 := ⟨_, rfl⟩
      rw [hM0] at mD
      generalize hCD : ({ C0 with na := some ⟨g, 0, none⟩, nc := cp, ne := C0.ne.set k (max (C0.ne.getD k 0 - 1) 0), grant := GR, guard := GU } : Cv) = CD at *
      generalize hCE : ({ C0 with na := some ⟨g3, 0, none⟩, nn := C0.nn + 1, nc := cp3, ne := C0.ne ++ [0] } : Cv) = CE at *
      have FG1 := Lib.hid G1
      have FGD := Lib.hid GD
      have FGE := Lib.hid GE
      have KD := Lib.hid kD
      have KE := Lib.hid kE
      have MD := Lib.hid mD
      have M1 := Lib.hid hM0
      have hL1 : ∀ W, Below W12.heap.size W12 W → W.cell? ⟨w.heap.size, 0, none⟩ = some (.int .i64 C0.nodes) ∧ W.cell? ⟨w.heap.size, 1, none⟩ = some (.int .i64 C0.slots) ∧ W.cell? ⟨w.heap.size, 2, none⟩ = some (.int .i64 C0.rho) ∧ W.cell? ⟨w.heap.size, 3, none⟩ = some (.int .i64 C0.hold) ∧ W.cell? ⟨w.heap.size, 4, none⟩ = some (.int .i64 C0.grant) ∧ W.cell? ⟨w.heap.size, 5, none⟩ = some (.int .i64 C0.guard) ∧ W.cell? ⟨w.heap.size, 6, none⟩ = some (.int .i64 C0.work) ∧ W.cell? ⟨w.heap.size, 7, none⟩ = some (.slice C0.sa C0.sn C0.sc) ∧ W.cell? ⟨w.heap.size, 8, none⟩ = some (.slice C0.na C0.nn C0.nc) ∧ W.cell? ⟨w.heap.size, 9, none⟩ = some (.int .i64 C0.soak) ∧ W.cell? ⟨w.heap.size, 10, none⟩ = some (.int .i64 C0.pass) := fun W h => cfg_cells ((h.block _ (lt_of_block hB12)).trans hB12)
      have hL2 : ∀ W, Below W12.heap.size W12 W → W.cell? ⟨D, 0, none⟩ = some (.int .i64 CD.nodes) ∧ W.cell? ⟨D, 1, none⟩ = some (.int .i64 CD.slots) ∧ W.cell? ⟨D, 2, none⟩ = some (.int .i64 CD.rho) ∧ W.cell? ⟨D, 3, none⟩ = some (.int .i64 CD.hold) ∧ W.cell? ⟨D, 4, none⟩ = some (.int .i64 CD.grant) ∧ W.cell? ⟨D, 5, none⟩ = some (.int .i64 CD.guard) ∧ W.cell? ⟨D, 6, none⟩ = some (.int .i64 CD.work) ∧ W.cell? ⟨D, 7, none⟩ = some (.slice CD.sa CD.sn CD.sc) ∧ W.cell? ⟨D, 8, none⟩ = some (.slice CD.na CD.nn CD.nc) ∧ W.cell? ⟨D, 9, none⟩ = some (.int .i64 CD.soak) ∧ W.cell? ⟨D, 10, none⟩ = some (.int .i64 CD.pass) := fun W h => cfg_cells ((h.block _ (lt_of_block hD12)).trans hD12)
      have hL3 : ∀ W, Below W12.heap.size W12 W → W.cell? ⟨E, 0, none⟩ = some (.int .i64 CE.nodes) ∧ W.cell? ⟨E, 1, none⟩ = some (.int .i64 CE.slots) ∧ W.cell? ⟨E, 2, none⟩ = some (.int .i64 CE.rho) ∧ W.cell? ⟨E, 3, none⟩ = some (.int .i64 CE.hold) ∧ W.cell? ⟨E, 4, none⟩ = some (.int .i64 CE.grant) ∧ W.cell? ⟨E, 5, none⟩ = some (.int .i64 CE.guard) ∧ W.cell? ⟨E, 6, none⟩ = some (.int .i64 CE.work) ∧ W.cell? ⟨E, 7, none⟩ = some (.slice CE.sa CE.sn CE.sc) ∧ W.cell? ⟨E, 8, none⟩ = some (.slice CE.na CE.nn CE.nc) ∧ W.cell? ⟨E, 9, none⟩ = some (.int .i64 CE.soak) ∧ W.cell? ⟨E, 10, none⟩ = some (.int .i64 CE.pass) := fun W h => cfg_cells ((h.block _ (lt_of_block hE12)).trans hE12)
      have HB12 := Lib.hid hb12
      have hS : Below W12.heap.size W12 W12 := Below.refl _ _
      clear G1 GD GE kD kE mD hM0 hb12 hB12 hD12 hG12 hE12 hH12 hCD hCE hgt3 hgs3 hgc3 hgn3 hgt7 hgs hgc hgn hwfne hln hx2 c4 d4 e4 c5 d5 e5
      go_region_held3 (fun W : World => Below W12.heap.size W12 W) (first | assumption | exact hS.drew | exact Below.drew (by assumption) | exact bnext (by assumption) hY) (first
        | (go_at_call 12; with_reducible refine (check_any CD _ (FGD.out _ (by assumption))).mono ?_; rintro e wY ⟨rfl, hY⟩; rw [KD.out])
        | (go_at_call 12; with_reducible refine (check_any CE _ (FGE.out _ (by assumption))).mono ?_; rintro e wY ⟨rfl, hY⟩; rw [KE.out])
        | (go_at_call 14; with_reducible refine (maj_any CD _ (FGD.out _ (by assumption))).mono ?_; rintro e wY ⟨rfl, hY⟩; rw [MD.out])
        | (go_at_call 14; with_reducible refine (maj_any C0 _ (FG1.out _ (by assumption))).mono ?_; rintro e wY ⟨rfl, hY⟩; rw [M1.out]))
      all_goals
        go_wp2_with fail
        go_ret
        exact ⟨rfl, bnext HB12.out (by assumption)⟩
    · have HK : Hid (chkI C0 = 90) := by show chkI C0 = 90; unfold chkI; rw [if_neg hk]
      clear hk hf
      go_enter Try.func9, Try.ntmps9
      go_wp2_with (first
      | (go_at_call 10; refine (awake_true _).mono ?_; rintro e wA ⟨rfl, hA⟩; have hbc := bnext (bnew (brefl w) _) hA; have hBc := (hA.block w.heap.size (by simp)).trans (heap_alloc_new _ _))
      | (with_reducible refine wpList_load_cfg rfl _ rfl w.heap.size rfl C0 hBc ?_)
      | (go_at_call 11; refine (few_any C0 _ (HG.out.below hbc)).mono ?_; rintro e wX ⟨rfl, hX⟩; have hbc := bnext hbc hX; have hBc := (hX.block _ (lt_of_block hBc)).trans hBc; rw [HF.out])
      | (go_at_call 12; refine (check_any C0 _ (HG.out.below hbc)).mono ?_; rintro e wX ⟨rfl, hX⟩; have hbc := bnext hbc hX; have hBc := (hX.block _ (lt_of_block hBc)).trans hBc; rw [HK.out]))
      go_ret
      exact ⟨rfl, hbc⟩
  · have HF : Hid (fewB C0 = false) := by show fewB C0 = false; simpa using hf
    clear hf
    go_enter Try.func9, Try.ntmps9
    go_wp2_with (first
      | (go_at_call 10; refine (awake_true _).mono ?_; rintro e wA ⟨rfl, hA⟩; have hbc := bnext (bnew (brefl w) _) hA; have hBc := (hA.block w.heap.size (by simp)).trans (heap_alloc_new _ _))
      | (with_reducible refine wpList_load_cfg rfl _ rfl w.heap.size rfl C0 hBc ?_)
      | (go_at_call 11; refine (few_any C0 _ (HG.out.below hbc)).mono ?_; rintro e wX ⟨rfl, hX⟩; have hbc := bnext hbc hX; have hBc := (hX.block _ (lt_of_block hBc)).trans hBc; rw [HF.out])
      | (go_at_call 12; refine (check_any C0 _ (HG.out.below hbc)).mono ?_; rintro e wX ⟨rfl, hX⟩; have hbc := bnext hbc hX; have hBc := (hX.block _ (lt_of_block hBc)).trans hBc; rw [HK.out]))
    go_ret
    exact ⟨rfl, hbc⟩
end Go.Proofs.Ytdllcnafcghcfaa
