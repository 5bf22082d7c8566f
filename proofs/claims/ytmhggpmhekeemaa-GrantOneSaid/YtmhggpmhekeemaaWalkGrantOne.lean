/- The walk of GrantOne. -/
import Derived.Test.YtmhggpmhekeemaaGAwake
import Derived.Test.YtmhggpmhekeemaaKOpen
import Derived.Test.YtmhggpmhekeemaaOneLaw
import Derived.Deep.QuietTactic
import Derived.BigQuiet
import Derived.Deep.DeepCutAuto
namespace Go.Proofs.Ytmhggpmhekeemaa
open Go.RowKit
theorem p_new1 (C : Cv) (S : Nat) (now : Int) (hS : C.slots = (S : Int)) (w : World) (hc : chk C = true) (hG : Good w C) :
    Calls Try.prog 13 #[.agg C.cells, .int .i64 now] w fun e w' => ∃ ad cap, e = .returned (.agg #[.int .i64 now, .slice ad S cap]) ∧ Acc w' ad S cap (List.replicate S gnone) ∧ Below w.heap.size w w' := by
  have h := new_yes C now w hG hc
  rw [show C.slots.toNat = S by omega] at h
  exact h
theorem one_stay {W : World} {A : Nat} {x y : Value} (hX : W.heap[A]? = some (.cells #[x, y] 30 (0, 0))) (u v : Value) : ((W.setCell ⟨A, 0, none⟩ u).setCell ⟨A, 1, none⟩ v).heap[A]? = some (.cells #[u, v] 30 (0, 0)) :=
  (heap_setCell_same _ _ _ _ _ _ (heap_setCell_same _ _ _ _ _ _ hX)).trans rfl
theorem one_other {W : World} {A B : Nat} {o : Obj} (hX : W.heap[B]? = some o) (h : B ≠ A) (u v : Value) : ((W.setCell ⟨A, 0, none⟩ u).setCell ⟨A, 1, none⟩ v).heap[B]? = some o :=
  (heap_setCell_other _ _ _ _ h).trans ((heap_setCell_other _ _ _ _ h).trans hX)
theorem one_below {w W : World} {A : Nat} (hb : Below w.heap.size w W) (h : w.heap.size ≤ A) (u v : Value) : Below w.heap.size w ((W.setCell ⟨A, 0, none⟩ u).setCell ⟨A, 1, none⟩ v) :=
  (hb.setCell (show w.heap.size ≤ (⟨A, 0, none⟩ : Addr).block from h) u).setCell (show w.heap.size ≤ (⟨A, 1, none⟩ : Addr).block from h) v
theorem os_other {W : World} {A B j : Nat} {o : Obj} (hX : W.heap[B]? = some o) (h : B ≠ A) (v : Value) : (W.setCell ⟨A, j, none⟩ v).heap[B]? = some o := (heap_setCell_other _ _ _ _ h).trans hX
theorem drewN_heap {W : World} {n B : Nat} {o : Obj} (hX : W.heap[B]? = some o) : (W.drewN n).heap[B]? = some o := hX
theorem drewN_below {w W : World} (h : Below w.heap.size w W) (n : Nat) : Below w.heap.size w (W.drewN n) := ⟨h.os, h.tape, h.output, h.size, h.block⟩
theorem Acc.drewN {W : World} {ad : Option Addr} {n cap m : Nat} {gs : List G3} (h : Acc W ad n cap gs) : Acc (W.drewN m) ad n cap gs := ⟨h.own, h.wf, h.few⟩
theorem Acc.one {w : World} {ad : Option Addr} {n cap : Nat} {gs : List G3} (h : Acc w ad n cap gs) {r : Nat} {cs : Array Value} {T : TypeId} (hT : T ≠ 68) (hr : w.heap[r]? = some (.cells cs T (0, 0))) (j : Nat) (u : Value) : Acc (w.setCell ⟨r, j, none⟩ u) ad n cap gs := by
  refine ⟨⟨h.own.1, ?_⟩, h.wf, h.few⟩
  rcases h.own.2 with h0 | ⟨g, cap', cur, hv, hbg, hg, rr⟩
  · exact .inl h0
  · refine .inr ⟨g, cap', cur, hv, hbg, (heap_setCell_other _ _ _ _ (show g ≠ r from fun e => ?_)).trans hg, rr⟩
    subst e
    rw [hr] at hg
    cases hg
    exact hT rfl
theorem call_cells1 {w : World} {b : Nat} {k : K5} (hb : w.heap[b]? = some (.cells #[.int .i64 k.kind, .int .i64 k.slot, .int .i64 k.node, .int .i64 k.nonce, .int .i64 k.ahead] 33 (0, 0))) :
    w.cell? ⟨b, 0, none⟩ = some (.int .i64 k.kind) ∧ w.cell? ⟨b, 1, none⟩ = some (.int .i64 k.slot) ∧ w.cell? ⟨b, 2, none⟩ = some (.int .i64 k.node) ∧ w.cell? ⟨b, 3, none⟩ = some (.int .i64 k.nonce) ∧ w.cell? ⟨b, 4, none⟩ = some (.int .i64 k.ahead) := by
  refine ⟨?_, ?_, ?_, ?_, ?_⟩ <;> (rw [cell_of_row _ _ _ _ _ _ hb]; rfl)
set_option maxRecDepth 100000 in
set_option maxHeartbeats 16000000 in
theorem walk_GrantOne (C : Cv) (sa : Option Addr) (sn sc : Nat) (ks : Nat → K5) (w : World) (w0 : Good w C) (w1 : ReadsK w sa sn sc ks) :
    Calls Try.prog 4 #[.agg C.cells, .slice sa sn sc] w fun e w' => e = .returned (.bool true) ∧ Below w.heap.size w w' := by
  have HG := Lib.hid w0
  have HR := Lib.hid w1
  have hsn : sn ≤ 9223372036854775807 := Nat.le_trans w1.le w1.small
  clear w0 w1
  have hbc := bnew (brefl w) (Obj.cells C.cells 24)
  have hBc := heap_alloc_new w (Obj.cells C.cells 24)
  by_cases hf : fewB C = true
  · have HF := Lib.hid hf
    clear hf
    by_cases hc : chk C = true
    · have HK : Hid (chkI C = 0) := by show chkI C = 0; unfold chkI; rw [hc]; rfl
      have hcf := chk_facts hc
      obtain ⟨S, hS⟩ : ∃ S : Nat, C.slots = (S : Int) := ⟨C.slots.toNat, by omega⟩
      have HC := Lib.hid hc
      have HS := Lib.hid hS
      have hS1 : 1 ≤ S := by omega
      have hS9 : S ≤ 9 := by omega
      have hg1 : 1 ≤ C.grant := hcf.2.2.2.2.1.1
      have hg2 : C.grant ≤ 1073741824 := hcf.2.2.2.2.1.2
      clear hc hcf hS
      go_enter Try.func4, Try.ntmps4
      go_wp2_with (first
        | (with_reducible refine wpList_load_cfg rfl _ rfl w.heap.size rfl C hBc ?_)
        | (go_at_call 11; refine (gawake_true _).mono ?_; rintro e wX ⟨rfl, hX⟩; have hbc := bnext hbc hX; have hBc := kb hBc hX)
        | (go_at_call 12; refine (few_any C _ (HG.out.below hbc)).mono ?_; rintro e wX ⟨rfl, hX⟩; have hbc := bnext hbc hX; have hBc := kb hBc hX; rw [HF.out])
        | (go_at_call 20; with_reducible refine (check_any C _ (HG.out.below hbc)).mono ?_; rintro e wX ⟨rfl, hX⟩; have hbc := bnext hbc hX; have hBc := kb hBc hX; rw [HK.out])
        | (go_at_call 13; with_reducible refine (p_new1 C S 0 HS.out _ HC.out (HG.out.below hbc)).mono ?_; rintro e w1 ⟨ad1, cap1, rfl, hA1, hb1⟩; have hLw := lt_of_block (kb hBc hb1); have hbc := bnew (bnext hbc hb1) (Obj.cells #[Value.int .i64 0, Value.slice ad1 S cap1] 30); have hBc := ka (kb hBc hb1) (Obj.cells #[Value.int .i64 0, Value.slice ad1 S cap1] 30); have hX1 := heap_alloc_new w1 (Obj.cells #[Value.int .i64 0, Value.slice ad1 S cap1] 30); have hA1 := hA1.below (bnew (brefl w1) (Obj.cells #[Value.int .i64 0, Value.slice ad1 S cap1] 30)); clear hb1))
      refine wp_loop_rounds 10 ?_
      rw [rounds_succ]
      go_wp2_with fail
      rw [rounds_succ]
      go_wp2_with fail
      rw [rounds_succ]
      go_wp2_with fail
      rw [rounds_succ]
      go_wp2_with fail
      rw [rounds_succ]
      go_wp2_with fail
      rw [rounds_succ]
      go_wp2_with fail
      rw [rounds_succ]
      go_wp2_with fail
      rw [rounds_succ]
      go_wp2_with fail
      rw [rounds_succ]
      go_wp2_with fail
      rw [rounds_succ]
      go_wp2_with fail
      have HX1 : Hid ((((w1.alloc (Obj.cells #[Value.int .i64 0, Value.slice ad1 S cap1] 30)).alloc (Obj.cells (cellsOf .i64 (List.replicate 9 (-1))) 41)).alloc (Obj.cells (cellsOf .i64 (List.replicate 9 0)) 42)).heap[w1.heap.size]? = some (.cells #[.int .i64 0, .slice ad1 S cap1] 30 (0, 0))) := ka (ka hX1 _) _
      have HH1 : Hid ((((w1.alloc (Obj.cells #[Value.int .i64 0, Value.slice ad1 S cap1] 30)).alloc (Obj.cells (cellsOf .i64 (List.replicate 9 (-1))) 41)).alloc (Obj.cells (cellsOf .i64 (List.replicate 9 0)) 42)).heap[w1.heap.size + 1]? = some (.cells (cellsOf .i64 (List.replicate 9 (-1))) 41 (0, 0))) := ka (heap_alloc2_new _ _ _) _
      have HS1 : Hid ((((w1.alloc (Obj.cells #[Value.int .i64 0, Value.slice ad1 S cap1] 30)).alloc (Obj.cells (cellsOf .i64 (List.replicate 9 (-1))) 41)).alloc (Obj.cells (cellsOf .i64 (List.replicate 9 0)) 42)).heap[w1.heap.size + 1 + 1]? = some (.cells (cellsOf .i64 (List.replicate 9 0)) 42 (0, 0))) := heap_alloc_at _ _ _ (by simp)
      have HBc := Lib.hid (ka (ka hBc (Obj.cells (cellsOf .i64 (List.replicate 9 (-1))) 41)) (Obj.cells (cellsOf .i64 (List.replicate 9 0)) 42))
      have Hbc := Lib.hid (bnew (bnew hbc (Obj.cells (cellsOf .i64 (List.replicate 9 (-1))) 41)) (Obj.cells (cellsOf .i64 (List.replicate 9 0)) 42))
      have HA1 := Lib.hid ((hA1.below (bnew (brefl _) (Obj.cells (cellsOf .i64 (List.replicate 9 (-1))) 41))).below (bnew (brefl _) (Obj.cells (cellsOf .i64 (List.replicate 9 0)) 42)))
      have HLw := Lib.hid hLw
      clear hX1 hBc hbc hA1 hLw
      go_loopw [6, 11] (fun now i wr => ∃ (k : Nat) (t boot : Int) (a1 : Option Addr) (c1 : Nat) (gs : List G3) (hs ss : List Int), k ≤ 60 ∧ i = .int .i64 k ∧ now = .int .i64 t ∧ 0 ≤ t ∧ t ≤ k * 1099511627776 ∧ wr.heap[w1.heap.size]? = some (.cells #[.int .i64 boot, .slice a1 S c1] 30 (0, 0)) ∧ wr.heap[w1.heap.size + 1]? = some (.cells (cellsOf .i64 hs) 41 (0, 0)) ∧ wr.heap[w1.heap.size + 1 + 1]? = some (.cells (cellsOf .i64 ss) 42 (0, 0)) ∧ Acc wr a1 S c1 gs ∧ Hid (Keeps S boot t gs hs ss) ∧ wr.heap[w.heap.size]? = some (.cells C.cells 24 (0, 0)) ∧ Below w.heap.size w wr) (fun _ i _ => 60 - (intOf i).toNat)
      case atStart => exact ⟨0, 0, 0, ad1, cap1, List.replicate S gnone, List.replicate 9 (-1), List.replicate 9 0, by omega, rfl, rfl, by omega, by omega, HX1.out, HH1.out, HS1.out, HA1.out, keeps_new (by omega) _ (by simp) _, HBc.out, Hbc.out⟩
      case round =>
        obtain ⟨k, t, boot, a1, c1, gs, hs, ss, hk, rfl, rfl, ht0, ht1, hX1, hH, hSS, hA1, hI, hBc, hbc⟩ := hrel
        by_cases hin : k < sn ∧ k < 60
        · obtain ⟨hks, hk60⟩ := hin
          rcases (HR.out.below hbc).cells with h0 | ⟨b, off, hsa, hcell⟩
          · exact absurd h0 (by omega)
          obtain ⟨c0, c1', c2', c3, c4⟩ := hcell k hks
          obtain ⟨wn, wc0, wa⟩ := HR.out.wf k hks
          subst hsa
          obtain ⟨K, hKe⟩ : ∃ K, ks k = K := ⟨_, rfl⟩
          rw [hKe] at c0 c1' c2' c3 c4 wn wc0 wa
          clear hKe hcell
          obtain ⟨kd, sl, nd, nc, ah⟩ := K
          simp only at c0 c1' c2' c3 c4 wn wc0 wa
          have HWN := Lib.hid wn
          have HWC := Lib.hid wc0
          clear wn wc0 wa
          have HXK := Lib.hid (heap_alloc_new wr (Obj.cells #[Value.int .i64 kd, Value.int .i64 sl, Value.int .i64 nd, Value.int .i64 nc, Value.int .i64 ah] 33))
          go_upto_region 18 with fail
          go_cut [58] (fun s58 wc => ∃ bb : Bool, s58 = .bool bb ∧ (bb = true → 0 < ah ∧ ah < 1099511627776) ∧ wc = wr.alloc (Obj.cells #[Value.int .i64 kd, Value.int .i64 sl, Value.int .i64 nd, Value.int .i64 nc, Value.int .i64 ah] 33))
          case first =>
            go_wp2_with fail
            all_goals
              go_meet
              exact ⟨_, rfl, by simp; try omega, rfl⟩
          case rest =>
          obtain ⟨bb, rfl, hbb, rfl⟩ := hcut
          go_upto_if 58 with fail
          go_cut [6] (fun s6 wc => ∃ t1 : Int, s6 = .int .i64 t1 ∧ t ≤ t1 ∧ t1 ≤ t + 1099511627776 ∧ wc = wr.alloc (Obj.cells #[Value.int .i64 kd, Value.int .i64 sl, Value.int .i64 nd, Value.int .i64 nc, Value.int .i64 ah] 33))
          case first =>
            cases bb
            · go_wp2_with fail
              go_meet
              exact ⟨_, rfl, by omega, by omega, rfl⟩
            · obtain ⟨hq0, hq1⟩ := hbb rfl
              obtain ⟨_, _, _, _, x4⟩ := call_cells1 (k := ⟨kd, sl, nd, nc, ah⟩) HXK.out
              go_wp2_with fail
              go_meet
              exact ⟨_, rfl, by omega, by omega, rfl⟩
          case rest =>
            obtain ⟨t1, rfl, ht10, ht11, rfl⟩ := hcut
            have hk0 : w1.heap.size + 1 + 1 < wr.heap.size := lt_of_block hSS
            have hl0 : w.heap.size < w1.heap.size := HLw.out
            have hX1 := ka hX1 (Obj.cells #[Value.int .i64 kd, Value.int .i64 sl, Value.int .i64 nd, Value.int .i64 nc, Value.int .i64 ah] 33)
            have hH := ka hH (Obj.cells #[Value.int .i64 kd, Value.int .i64 sl, Value.int .i64 nd, Value.int .i64 nc, Value.int .i64 ah] 33)
            have hSS := ka hSS (Obj.cells #[Value.int .i64 kd, Value.int .i64 sl, Value.int .i64 nd, Value.int .i64 nc, Value.int .i64 ah] 33)
            have hA1 := hA1.below (bnew (brefl wr) (Obj.cells #[Value.int .i64 kd, Value.int .i64 sl, Value.int .i64 nd, Value.int .i64 nc, Value.int .i64 ah] 33))
            have hBc := ka hBc (Obj.cells #[Value.int .i64 kd, Value.int .i64 sl, Value.int .i64 nd, Value.int .i64 nc, Value.int .i64 ah] 33)
            have hbc := bnew hbc (Obj.cells #[Value.int .i64 kd, Value.int .i64 sl, Value.int .i64 nd, Value.int .i64 nc, Value.int .i64 ah] 33)
            have HI : Hid (Keeps S boot t1 gs hs ss) := hI.out.later ht10
            have HT1 : Hid (inI t1) := by show inI t1; unfold inI; omega
            obtain ⟨x0, x1, x2, x3, x4⟩ := call_cells1 (k := ⟨kd, sl, nd, nc, ah⟩) HXK.out
            obtain ⟨p0, p1⟩ := acc_cells hX1
            clear hI c0 c1' c2' c3 c4
            by_cases h1 : kd = 1
            · subst h1
              by_cases hy : askB C boot S gs sl nd nc t1 = true
              · obtain ⟨s, hs0⟩ : ∃ s : Nat, sl = (s : Int) := ⟨sl.toNat, by have := (ask_facts hy).1; omega⟩
                subst hs0
                have hsl0 := (ask_facts hy).1.2
                have hsS : s < S := by have := HS.out; omega
                obtain ⟨hj, hN⟩ := Keeps.ask HI.out HS.out hS9 hA1.len hy
                rw [Int.toNat_natCast] at hj hN
                have HN := Lib.hid hN
                have HY := Lib.hid hy
                obtain ⟨v, hv⟩ : ∃ v, hs.getD s 0 = v := ⟨_, rfl⟩
                obtain ⟨u, hu⟩ : ∃ u, ss.getD s 0 = u := ⟨_, rfl⟩
                rw [hv, hu] at hj
                have HJ := Lib.hid hj
                have HV := Lib.hid hv
                have HU := Lib.hid hu
                clear hv hu hN hy hj
                go_upto_region 24 with (first
                  | (with_reducible refine wpList_load_cfg rfl _ rfl w.heap.size rfl C hBc ?_)
                  | (go_at_call 15; with_reducible refine (ask_b C boot a1 S c1 gs (askG C boot S gs (s : Int) nd nc t1) (s : Int) nd nc t1 true _ HY.out rfl (HG.out.below hbc) hA1 HWN.out HWC.out HT1.out).mono ?_; rintro e w3 ⟨a3, c3, rfl, hA3, hb3⟩; have hbc := bnew (bnext hbc hb3) (Obj.cells #[Value.int .i64 boot, Value.slice a3 S c3] 30); have hBc := ka (kb hBc hb3) (Obj.cells #[Value.int .i64 boot, Value.slice a3 S c3] 30); have hX1 := ka (kb hX1 hb3) (Obj.cells #[Value.int .i64 boot, Value.slice a3 S c3] 30); have hH := ka (kb hH hb3) (Obj.cells #[Value.int .i64 boot, Value.slice a3 S c3] 30); have hSS := ka (kb hSS hb3) (Obj.cells #[Value.int .i64 boot, Value.slice a3 S c3] 30); have hXK := ka (kb HXK.out hb3) (Obj.cells #[Value.int .i64 boot, Value.slice a3 S c3] 30); have hA1 := (hA1.below hb3).below (bnew (brefl w3) (Obj.cells #[Value.int .i64 boot, Value.slice a3 S c3] 30)); have hA3 := hA3.below (bnew (brefl w3) (Obj.cells #[Value.int .i64 boot, Value.slice a3 S c3] 30)); have hX3 := heap_alloc_new w3 (Obj.cells #[Value.int .i64 boot, Value.slice a3 S c3] 30); have hl3 := lt_of_block (kb HXK.out hb3); clear hb3))
                generalize (w3.alloc (Obj.cells #[Value.int .i64 boot, Value.slice a3 S c3] 30)) = Y at *
                clear x0 x1 x2 x3 x4 p0 p1
                obtain ⟨m0, m1, m2, m3, m4, _⟩ := cfg_cells2 hBc
                obtain ⟨x0, x1, x2, x3, x4⟩ := call_cells1 (k := ⟨_, _, _, _, _⟩) hXK
                have q1 := blk_cell hH (j := s) (by rw [HI.out.lh]; omega)
                have q2 := blk_cell hSS (j := s) (by rw [HI.out.ls]; omega)
                rw [HV.out] at q1
                rw [HU.out] at q2
                have hk1 : w3.heap.size < Y.heap.size := lt_of_block hX3
                have HXK2 := Lib.hid hXK
                have HSS := Lib.hid hSS
                have HX3 := Lib.hid hX3
                have HX1 := Lib.hid hX1
                have HBC := Lib.hid hBc
                have HHH := Lib.hid hH
                have HA3 := Lib.hid hA3
                have HBB := Lib.hid hbc
                clear hXK hSS hX3 hX1 hBc hH hA1 hA3 hbc
                have b0 : (0 : Int) ≤ (s : Int) := by omega
                have b9 : (s : Int) < 9 := by omega
                have d1 : decide ((s : Int) < 0) = false := decide_eq_false (by omega)
                have d2 : decide (C.slots ≤ (s : Int)) = false := decide_eq_false (by omega)
                by_cases hv0 : v < 0
                · have d3 : decide (0 ≤ v) = false := decide_eq_false (by omega)
                  first | (go_quiet (fail)) | fail
                  go_upto_region 26 with fail
                  have hXK := drewN_heap (n := nq) HXK2.out
                  have hSS := drewN_heap (n := nq) HSS.out
                  have hX3 := drewN_heap (n := nq) HX3.out
                  have hX1 := drewN_heap (n := nq) HX1.out
                  have hBc := drewN_heap (n := nq) HBC.out
                  have hH := drewN_heap (n := nq) HHH.out
                  have hA3 := HA3.out.drewN (m := nq)
                  have hbc := drewN_below HBB.out nq
                  have hk2 : w3.heap.size < (Y.drewN nq).heap.size := hk1
                  clear HXK2 HSS HX3 HX1 HBC HHH HA3 HBB x0 x1 x2 x3 x4 m0 m1 m2 m3 m4 q1 q2
                  generalize (Y.drewN nq) = Z at *
                  obtain ⟨x0, x1, x2, x3, x4⟩ := call_cells1 (k := ⟨_, _, _, _, _⟩) hXK
                  have q1 := blk_cell hH (j := s) (by rw [HI.out.lh]; omega)
                  rw [HV.out] at q1
                  have zH : ∀ j, Z.frozen? ⟨w1.heap.size + 1, j, none⟩ = false := fun j => blk_free hH
                  have K1 := os_other (A := w1.heap.size + 1) (j := s) hXK (by omega) (.int .i64 nd)
                  have S1 := os_other (A := w1.heap.size + 1) (j := s) hSS (by omega) (.int .i64 nd)
                  have T1 := os_other (A := w1.heap.size + 1) (j := s) hX3 (by omega) (.int .i64 nd)
                  have X1 := os_other (A := w1.heap.size + 1) (j := s) hX1 (by omega) (.int .i64 nd)
                  have C1 := os_other (A := w1.heap.size + 1) (j := s) hBc (by omega) (.int .i64 nd)
                  have H1 := blk_set hH s nd
                  have b1 : Below w.heap.size w (Z.setCell ⟨w1.heap.size + 1, s, none⟩ (.int .i64 nd)) := hbc.setCell (show w.heap.size ≤ w1.heap.size + 1 by omega) _
                  have A1 := hA3.one (T := 41) (by decide) hH s (.int .i64 nd)
                  obtain ⟨y0, y1, y2, y3, y4⟩ := call_cells1 (k := ⟨_, _, _, _, _⟩) K1
                  have r1 := blk_cell S1 (j := s) (by rw [HI.out.ls]; omega)
                  rw [HU.out] at r1
                  have zS : ∀ j, (Z.setCell ⟨w1.heap.size + 1, s, none⟩ (.int .i64 nd)).frozen? ⟨w1.heap.size + 1 + 1, j, none⟩ = false := fun j => blk_free S1
                  have T2 := os_other (A := w1.heap.size + 1 + 1) (j := s) T1 (by omega) (.int .i64 t1)
                  have X2 := os_other (A := w1.heap.size + 1 + 1) (j := s) X1 (by omega) (.int .i64 t1)
                  have C2 := os_other (A := w1.heap.size + 1 + 1) (j := s) C1 (by omega) (.int .i64 t1)
                  have H2 := os_other (A := w1.heap.size + 1 + 1) (j := s) H1 (by omega) (.int .i64 t1)
                  have S2 := blk_set S1 s t1
                  have A2 := A1.one (T := 42) (by decide) S1 s (.int .i64 t1)
                  have b2 := b1.setCell (show w.heap.size ≤ (⟨w1.heap.size + 1 + 1, s, none⟩ : Addr).block from (by show w.heap.size ≤ w1.heap.size + 1 + 1; omega)) (.int .i64 t1)
                  obtain ⟨e0, e1⟩ := acc_cells T2
                  obtain ⟨g0, g1⟩ := acc_cells X2
                  have zX : ∀ j, ((Z.setCell ⟨w1.heap.size + 1, s, none⟩ (.int .i64 nd)).setCell ⟨w1.heap.size + 1 + 1, s, none⟩ (.int .i64 t1)).frozen? ⟨w1.heap.size, j, none⟩ = false := fun j => blk_free X2
                  have FX1 := Lib.hid (one_stay X2 (.int .i64 boot) (.slice a3 S c3))
                  have FH := Lib.hid (one_other (A := w1.heap.size) H2 (by omega) (.int .i64 boot) (.slice a3 S c3))
                  have FS := Lib.hid (one_other (A := w1.heap.size) S2 (by omega) (.int .i64 boot) (.slice a3 S c3))
                  have FB := Lib.hid (one_other (A := w1.heap.size) C2 (by omega) (.int .i64 boot) (.slice a3 S c3))
                  have FA := Lib.hid (A2.store X2 (.int .i64 boot) (.slice a3 S c3))
                  have Fb := Lib.hid (one_below (A := w1.heap.size) b2 (by omega) (.int .i64 boot) (.slice a3 S c3))
                  clear hXK hSS hX3 hX1 hBc hH K1 S1 T1 X1 C1 H1 T2 X2 C2 H2 S2 A1 A2 b1 b2 hA3 hbc
                  go_wp2_with fail
                  go_roundw
                  case rel => exact ⟨k + 1, t1, boot, a3, c3, (askG C boot S gs (s : Int) nd nc t1), hs.set s nd, ss.set s t1, by omega, by go_num, rfl, by omega, by omega, FX1.out, FH.out, FS.out, FA.out, HN, FB.out, Fb.out⟩
                  case measure => simp [intOf]; omega
                · have d3 : decide (0 ≤ v) = true := decide_eq_true (by omega)
                  by_cases hvn : v = nd
                  · have d4 : (v != nd) = false := by simpa using hvn
                    have HVN := Lib.hid hvn
                    clear hvn
                    first | (go_quiet (fail)) | fail
                    go_upto_region 26 with fail
                    have hXK := drewN_heap (n := nq) HXK2.out
                    have hSS := drewN_heap (n := nq) HSS.out
                    have hX3 := drewN_heap (n := nq) HX3.out
                    have hX1 := drewN_heap (n := nq) HX1.out
                    have hBc := drewN_heap (n := nq) HBC.out
                    have hH := drewN_heap (n := nq) HHH.out
                    have hA3 := HA3.out.drewN (m := nq)
                    have hbc := drewN_below HBB.out nq
                    have hk2 : w3.heap.size < (Y.drewN nq).heap.size := hk1
                    clear HXK2 HSS HX3 HX1 HBC HHH HA3 HBB x0 x1 x2 x3 x4 m0 m1 m2 m3 m4 q1 q2
                    generalize (Y.drewN nq) = Z at *
                    obtain ⟨x0, x1, x2, x3, x4⟩ := call_cells1 (k := ⟨_, _, _, _, _⟩) hXK
                    have q1 := blk_cell hH (j := s) (by rw [HI.out.lh]; omega)
                    rw [HV.out] at q1
                    have zH : ∀ j, Z.frozen? ⟨w1.heap.size + 1, j, none⟩ = false := fun j => blk_free hH
                    have K1 := os_other (A := w1.heap.size + 1) (j := s) hXK (by omega) (.int .i64 nd)
                    have S1 := os_other (A := w1.heap.size + 1) (j := s) hSS (by omega) (.int .i64 nd)
                    have T1 := os_other (A := w1.heap.size + 1) (j := s) hX3 (by omega) (.int .i64 nd)
                    have X1 := os_other (A := w1.heap.size + 1) (j := s) hX1 (by omega) (.int .i64 nd)
                    have C1 := os_other (A := w1.heap.size + 1) (j := s) hBc (by omega) (.int .i64 nd)
                    have H1 := blk_set hH s nd
                    have b1 : Below w.heap.size w (Z.setCell ⟨w1.heap.size + 1, s, none⟩ (.int .i64 nd)) := hbc.setCell (show w.heap.size ≤ w1.heap.size + 1 by omega) _
                    have A1 := hA3.one (T := 41) (by decide) hH s (.int .i64 nd)
                    obtain ⟨y0, y1, y2, y3, y4⟩ := call_cells1 (k := ⟨_, _, _, _, _⟩) K1
                    have r1 := blk_cell S1 (j := s) (by rw [HI.out.ls]; omega)
                    rw [HU.out] at r1
                    have zS : ∀ j, (Z.setCell ⟨w1.heap.size + 1, s, none⟩ (.int .i64 nd)).frozen? ⟨w1.heap.size + 1 + 1, j, none⟩ = false := fun j => blk_free S1
                    have T2 := os_other (A := w1.heap.size + 1 + 1) (j := s) T1 (by omega) (.int .i64 t1)
                    have X2 := os_other (A := w1.heap.size + 1 + 1) (j := s) X1 (by omega) (.int .i64 t1)
                    have C2 := os_other (A := w1.heap.size + 1 + 1) (j := s) C1 (by omega) (.int .i64 t1)
                    have H2 := os_other (A := w1.heap.size + 1 + 1) (j := s) H1 (by omega) (.int .i64 t1)
                    have S2 := blk_set S1 s t1
                    have A2 := A1.one (T := 42) (by decide) S1 s (.int .i64 t1)
                    have b2 := b1.setCell (show w.heap.size ≤ (⟨w1.heap.size + 1 + 1, s, none⟩ : Addr).block from (by show w.heap.size ≤ w1.heap.size + 1 + 1; omega)) (.int .i64 t1)
                    obtain ⟨e0, e1⟩ := acc_cells T2
                    obtain ⟨g0, g1⟩ := acc_cells X2
                    have zX : ∀ j, ((Z.setCell ⟨w1.heap.size + 1, s, none⟩ (.int .i64 nd)).setCell ⟨w1.heap.size + 1 + 1, s, none⟩ (.int .i64 t1)).frozen? ⟨w1.heap.size, j, none⟩ = false := fun j => blk_free X2
                    have FX1 := Lib.hid (one_stay X2 (.int .i64 boot) (.slice a3 S c3))
                    have FH := Lib.hid (one_other (A := w1.heap.size) H2 (by omega) (.int .i64 boot) (.slice a3 S c3))
                    have FS := Lib.hid (one_other (A := w1.heap.size) S2 (by omega) (.int .i64 boot) (.slice a3 S c3))
                    have FB := Lib.hid (one_other (A := w1.heap.size) C2 (by omega) (.int .i64 boot) (.slice a3 S c3))
                    have FA := Lib.hid (A2.store X2 (.int .i64 boot) (.slice a3 S c3))
                    have Fb := Lib.hid (one_below (A := w1.heap.size) b2 (by omega) (.int .i64 boot) (.slice a3 S c3))
                    clear hXK hSS hX3 hX1 hBc hH K1 S1 T1 X1 C1 H1 T2 X2 C2 H2 S2 A1 A2 b1 b2 hA3 hbc
                    go_wp2_with fail
                    go_roundw
                    case rel => exact ⟨k + 1, t1, boot, a3, c3, (askG C boot S gs (s : Int) nd nc t1), hs.set s nd, ss.set s t1, by omega, by go_num, rfl, by omega, by omega, FX1.out, FH.out, FS.out, FA.out, HN, FB.out, Fb.out⟩
                    case measure => simp [intOf]; omega
                  · have d4 : (v != nd) = true := by simpa using hvn
                    have hjj : (0 ≤ u ∧ u ≤ t1) ∧ C.grant ≤ t1 - u := by
                      rcases HJ.out with q | q | q
                      · exact absurd q hv0
                      · exact absurd q hvn
                      · exact q
                    obtain ⟨⟨u0, u1⟩, hgt⟩ := hjj
                    have d5 : decide (t1 - u < C.grant) = false := decide_eq_false (by omega)
                    have hw : IntKind.i64.wrap (t1 - u) = t1 - u := by rw [IntKind.wrap_i64]; omega
                    clear hvn
                    first | (go_quiet (fail)) | fail
                    go_upto_region 26 with fail
                    have hXK := drewN_heap (n := nq) HXK2.out
                    have hSS := drewN_heap (n := nq) HSS.out
                    have hX3 := drewN_heap (n := nq) HX3.out
                    have hX1 := drewN_heap (n := nq) HX1.out
                    have hBc := drewN_heap (n := nq) HBC.out
                    have hH := drewN_heap (n := nq) HHH.out
                    have hA3 := HA3.out.drewN (m := nq)
                    have hbc := drewN_below HBB.out nq
                    have hk2 : w3.heap.size < (Y.drewN nq).heap.size := hk1
                    clear HXK2 HSS HX3 HX1 HBC HHH HA3 HBB x0 x1 x2 x3 x4 m0 m1 m2 m3 m4 q1 q2
                    generalize (Y.drewN nq) = Z at *
                    obtain ⟨x0, x1, x2, x3, x4⟩ := call_cells1 (k := ⟨_, _, _, _, _⟩) hXK
                    have q1 := blk_cell hH (j := s) (by rw [HI.out.lh]; omega)
                    rw [HV.out] at q1
                    have zH : ∀ j, Z.frozen? ⟨w1.heap.size + 1, j, none⟩ = false := fun j => blk_free hH
                    have K1 := os_other (A := w1.heap.size + 1) (j := s) hXK (by omega) (.int .i64 nd)
                    have S1 := os_other (A := w1.heap.size + 1) (j := s) hSS (by omega) (.int .i64 nd)
                    have T1 := os_other (A := w1.heap.size + 1) (j := s) hX3 (by omega) (.int .i64 nd)
                    have X1 := os_other (A := w1.heap.size + 1) (j := s) hX1 (by omega) (.int .i64 nd)
                    have C1 := os_other (A := w1.heap.size + 1) (j := s) hBc (by omega) (.int .i64 nd)
                    have H1 := blk_set hH s nd
                    have b1 : Below w.heap.size w (Z.setCell ⟨w1.heap.size + 1, s, none⟩ (.int .i64 nd)) := hbc.setCell (show w.heap.size ≤ w1.heap.size + 1 by omega) _
                    have A1 := hA3.one (T := 41) (by decide) hH s (.int .i64 nd)
                    obtain ⟨y0, y1, y2, y3, y4⟩ := call_cells1 (k := ⟨_, _, _, _, _⟩) K1
                    have r1 := blk_cell S1 (j := s) (by rw [HI.out.ls]; omega)
                    rw [HU.out] at r1
                    have zS : ∀ j, (Z.setCell ⟨w1.heap.size + 1, s, none⟩ (.int .i64 nd)).frozen? ⟨w1.heap.size + 1 + 1, j, none⟩ = false := fun j => blk_free S1
                    have T2 := os_other (A := w1.heap.size + 1 + 1) (j := s) T1 (by omega) (.int .i64 t1)
                    have X2 := os_other (A := w1.heap.size + 1 + 1) (j := s) X1 (by omega) (.int .i64 t1)
                    have C2 := os_other (A := w1.heap.size + 1 + 1) (j := s) C1 (by omega) (.int .i64 t1)
                    have H2 := os_other (A := w1.heap.size + 1 + 1) (j := s) H1 (by omega) (.int .i64 t1)
                    have S2 := blk_set S1 s t1
                    have A2 := A1.one (T := 42) (by decide) S1 s (.int .i64 t1)
                    have b2 := b1.setCell (show w.heap.size ≤ (⟨w1.heap.size + 1 + 1, s, none⟩ : Addr).block from (by show w.heap.size ≤ w1.heap.size + 1 + 1; omega)) (.int .i64 t1)
                    obtain ⟨e0, e1⟩ := acc_cells T2
                    obtain ⟨g0, g1⟩ := acc_cells X2
                    have zX : ∀ j, ((Z.setCell ⟨w1.heap.size + 1, s, none⟩ (.int .i64 nd)).setCell ⟨w1.heap.size + 1 + 1, s, none⟩ (.int .i64 t1)).frozen? ⟨w1.heap.size, j, none⟩ = false := fun j => blk_free X2
                    have FX1 := Lib.hid (one_stay X2 (.int .i64 boot) (.slice a3 S c3))
                    have FH := Lib.hid (one_other (A := w1.heap.size) H2 (by omega) (.int .i64 boot) (.slice a3 S c3))
                    have FS := Lib.hid (one_other (A := w1.heap.size) S2 (by omega) (.int .i64 boot) (.slice a3 S c3))
                    have FB := Lib.hid (one_other (A := w1.heap.size) C2 (by omega) (.int .i64 boot) (.slice a3 S c3))
                    have FA := Lib.hid (A2.store X2 (.int .i64 boot) (.slice a3 S c3))
                    have Fb := Lib.hid (one_below (A := w1.heap.size) b2 (by omega) (.int .i64 boot) (.slice a3 S c3))
                    clear hXK hSS hX3 hX1 hBc hH K1 S1 T1 X1 C1 H1 T2 X2 C2 H2 S2 A1 A2 b1 b2 hA3 hbc
                    go_wp2_with fail
                    go_roundw
                    case rel => exact ⟨k + 1, t1, boot, a3, c3, (askG C boot S gs (s : Int) nd nc t1), hs.set s nd, ss.set s t1, by omega, by go_num, rfl, by omega, by omega, FX1.out, FH.out, FS.out, FA.out, HN, FB.out, Fb.out⟩
                    case measure => simp [intOf]; omega
              · have hy' : askB C boot S gs sl nd nc t1 = false := by simpa using hy
                have HY := Lib.hid hy'
                clear hy hy'
                go_wp2_with (first
                  | (with_reducible refine wpList_load_cfg rfl _ rfl w.heap.size rfl C hBc ?_)
                  | (go_at_call 15; with_reducible refine (ask_b C boot a1 S c1 gs gs sl nd nc t1 false _ HY.out (askG_no HY.out) (HG.out.below hbc) hA1 HWN.out HWC.out HT1.out).mono ?_; rintro e w3 ⟨a3, c3, rfl, hA3, hb3⟩; have hbc := bnew (bnext hbc hb3) (Obj.cells #[Value.int .i64 boot, Value.slice a3 S c3] 30); have hBc := ka (kb hBc hb3) (Obj.cells #[Value.int .i64 boot, Value.slice a3 S c3] 30); have hX1 := ka (kb hX1 hb3) (Obj.cells #[Value.int .i64 boot, Value.slice a3 S c3] 30); have hH := ka (kb hH hb3) (Obj.cells #[Value.int .i64 boot, Value.slice a3 S c3] 30); have hSS := ka (kb hSS hb3) (Obj.cells #[Value.int .i64 boot, Value.slice a3 S c3] 30); have hXK := ka (kb HXK.out hb3) (Obj.cells #[Value.int .i64 boot, Value.slice a3 S c3] 30); have hA1 := (hA1.below hb3).below (bnew (brefl w3) (Obj.cells #[Value.int .i64 boot, Value.slice a3 S c3] 30)); have hA3 := hA3.below (bnew (brefl w3) (Obj.cells #[Value.int .i64 boot, Value.slice a3 S c3] 30)); have hX3 := heap_alloc_new w3 (Obj.cells #[Value.int .i64 boot, Value.slice a3 S c3] 30); have hl3 := lt_of_block (kb HXK.out hb3); clear hb3))
                go_roundw
                case rel => exact ⟨k + 1, t1, boot, a1, c1, gs, hs, ss, by omega, by go_num, rfl, by omega, by omega, hX1, hH, hSS, hA1, HI, hBc, hbc⟩
                case measure => simp [intOf]; omega
            · by_cases h2 : kd = 2
              · subst h2
                have HFR := Lib.hid (Keeps.free (slot := sl) (node := nd) (nonce := nc) HI.out HS.out hS9 hA1.len)
                go_upto_region 31 with (first
                  | (with_reducible refine wpList_load_cfg rfl _ rfl w.heap.size rfl C hBc ?_)
                  | (go_at_call 17; with_reducible refine (gfree_any C boot a1 S c1 gs sl nd nc _ (HG.out.below hbc) hA1).mono ?_; rintro e w3 ⟨a3, c3, rfl, hA3, hb3⟩; have hbc := bnext hbc hb3; have hBc := kb hBc hb3; have hX1 := kb hX1 hb3; have hH := kb hH hb3; have hSS := kb hSS hb3; obtain ⟨p0, p1⟩ := acc_cells hX1; have z1 : ∀ j, w3.frozen? ⟨w1.heap.size, j, none⟩ = false := (fun j => blk_free hX1); have hXK := kb HXK.out hb3; have hXK := one_other (A := w1.heap.size) hXK (by omega) (.int .i64 boot) (.slice a3 S c3); have hA3 := hA3.store hX1 (.int .i64 boot) (.slice a3 S c3); have hH := one_other (A := w1.heap.size) hH (by omega) (.int .i64 boot) (.slice a3 S c3); have hSS := one_other (A := w1.heap.size) hSS (by omega) (.int .i64 boot) (.slice a3 S c3); have hBc := one_other (A := w1.heap.size) hBc (by omega) (.int .i64 boot) (.slice a3 S c3); have hX1 := one_stay hX1 (.int .i64 boot) (.slice a3 S c3); have hbc := one_below hbc (show w.heap.size ≤ w1.heap.size by omega) (.int .i64 boot) (.slice a3 S c3); clear hb3))
                generalize ((w3.setCell ⟨w1.heap.size, 0, none⟩ (.int .i64 boot)).setCell ⟨w1.heap.size, 1, none⟩ (.slice a3 S c3)) = Y at *
                clear x0 x1 x2 x3 x4 p0 p1 z1
                obtain ⟨_, m1, _⟩ := cfg_cells2 hBc
                obtain ⟨x0, x1, x2, x3, x4⟩ := call_cells1 (k := ⟨_, _, _, _, _⟩) hXK
                have HXK2 := Lib.hid hXK
                have HSS := Lib.hid hSS
                have HX1 := Lib.hid hX1
                have HBC := Lib.hid hBc
                have HHH := Lib.hid hH
                have HA3 := Lib.hid hA3
                have HBB := Lib.hid hbc
                by_cases hr0 : 0 ≤ sl
                · by_cases hr1 : sl < C.slots
                  · obtain ⟨s, hs0⟩ : ∃ s : Nat, sl = (s : Int) := ⟨sl.toNat, by omega⟩
                    have hsN : sl.toNat = s := by omega
                    have hsS : s < S := by have := HS.out; omega
                    have hr2 : (s : Int) < C.slots := by omega
                    simp only at x1
                    rw [hs0] at x1
                    have HSN := Lib.hid hsN
                    have q1 := blk_cell hH (j := s) (by rw [HI.out.lh]; omega)
                    obtain ⟨v, hv⟩ : ∃ v, hs.getD s 0 = v := ⟨_, rfl⟩
                    rw [hv] at q1
                    have HV := Lib.hid hv
                    have b0 : (0 : Int) ≤ (s : Int) := by omega
                    have b9 : (s : Int) < 9 := by omega
                    have d1 : decide ((0 : Int) ≤ (s : Int)) = true := decide_eq_true (by omega)
                    have d2 : decide ((s : Int) < C.slots) = true := decide_eq_true hr2
                    clear hXK hSS hX1 hBc hH hA1 hA3 hbc hv hs0 hsN
                    by_cases hvn : v = nd
                    · have d4 : (v == nd) = true := by simpa using hvn
                      have HN : Hid (Keeps S boot t1 (freeG C S gs sl nd nc) (hs.set s (-1)) ss) := by
                        have h9 := HFR.out.1 ⟨⟨hr0, hr1⟩, by rw [HSN.out, HV.out]; exact hvn⟩
                        rw [HSN.out] at h9
                        exact h9
                      clear hvn
                      first | (go_quiet (fail)) | fail
                      go_upto_region 32 with fail
                      have hXK := drewN_heap (n := nq) HXK2.out
                      have hSS := drewN_heap (n := nq) HSS.out
                      have hX1 := drewN_heap (n := nq) HX1.out
                      have hBc := drewN_heap (n := nq) HBC.out
                      have hH := drewN_heap (n := nq) HHH.out
                      have hA3 := HA3.out.drewN (m := nq)
                      have hbc := drewN_below HBB.out nq
                      clear HXK2 HSS HX1 HBC HHH HA3 HBB x0 x1 x2 x3 x4 m1 q1
                      generalize (Y.drewN nq) = Z at *
                      obtain ⟨x0, x1, x2, x3, x4⟩ := call_cells1 (k := ⟨_, _, _, _, _⟩) hXK
                      simp only at x1
                      rw [show sl = (s : Int) by have := HSN.out; omega] at x1
                      have q1 := blk_cell hH (j := s) (by rw [HI.out.lh]; omega)
                      rw [HV.out] at q1
                      have zH : ∀ j, Z.frozen? ⟨w1.heap.size + 1, j, none⟩ = false := fun j => blk_free hH
                      have hSS := os_other (A := w1.heap.size + 1) (j := s) hSS (by omega) (.int .i64 (-1))
                      have hX1 := os_other (A := w1.heap.size + 1) (j := s) hX1 (by omega) (.int .i64 (-1))
                      have hBc := os_other (A := w1.heap.size + 1) (j := s) hBc (by omega) (.int .i64 (-1))
                      have hbc := hbc.setCell (show w.heap.size ≤ (⟨w1.heap.size + 1, s, none⟩ : Addr).block from (by show w.heap.size ≤ w1.heap.size + 1; omega)) (.int .i64 (-1))
                      have hA3 := hA3.one (T := 41) (by decide) hH s (.int .i64 (-1))
                      have hH := blk_set hH s (-1)
                      go_wp2_with fail
                      go_roundw
                      case rel => exact ⟨k + 1, t1, boot, a3, c3, (freeG C S gs sl nd nc), hs.set s (-1), ss, by omega, by go_num, rfl, by omega, by omega, hX1, hH, hSS, hA3, HN, hBc, hbc⟩
                      case measure => simp [intOf]; omega
                    · have d4 : (v == nd) = false := by simpa using hvn
                      have HN := Lib.hid (HFR.out.2 (fun q => hvn (by rw [← HV.out, ← HSN.out]; exact q.2)))
                      clear hvn
                      first | (go_quiet (fail)) | fail
                      have hXK := drewN_heap (n := nq) HXK2.out
                      have hSS := drewN_heap (n := nq) HSS.out
                      have hX1 := drewN_heap (n := nq) HX1.out
                      have hBc := drewN_heap (n := nq) HBC.out
                      have hH := drewN_heap (n := nq) HHH.out
                      have hA3 := HA3.out.drewN (m := nq)
                      have hbc := drewN_below HBB.out nq
                      go_wp2_with fail
                      go_roundw
                      case rel => exact ⟨k + 1, t1, boot, a3, c3, (freeG C S gs sl nd nc), hs, ss, by omega, by go_num, rfl, by omega, by omega, hX1, hH, hSS, hA3, HN, hBc, hbc⟩
                      case measure => simp [intOf]; omega
                  · have d1 : decide ((0 : Int) ≤ sl) = true := decide_eq_true hr0
                    have d2 : decide (sl < C.slots) = false := decide_eq_false hr1
                    have HN := Lib.hid (HFR.out.2 (fun q => hr1 q.1.2))
                    clear hXK hSS hX1 hBc hH hA1 hA3 hbc
                    first | (go_quiet (fail)) | fail
                    have hXK := drewN_heap (n := nq) HXK2.out
                    have hSS := drewN_heap (n := nq) HSS.out
                    have hX1 := drewN_heap (n := nq) HX1.out
                    have hBc := drewN_heap (n := nq) HBC.out
                    have hH := drewN_heap (n := nq) HHH.out
                    have hA3 := HA3.out.drewN (m := nq)
                    have hbc := drewN_below HBB.out nq
                    go_wp2_with fail
                    go_roundw
                    case rel => exact ⟨k + 1, t1, boot, a3, c3, (freeG C S gs sl nd nc), hs, ss, by omega, by go_num, rfl, by omega, by omega, hX1, hH, hSS, hA3, HN, hBc, hbc⟩
                    case measure => simp [intOf]; omega
                · have d1 : decide ((0 : Int) ≤ sl) = false := decide_eq_false hr0
                  have HN := Lib.hid (HFR.out.2 (fun q => hr0 q.1.1))
                  clear hXK hSS hX1 hBc hH hA1 hA3 hbc
                  first | (go_quiet (fail)) | fail
                  have hXK := drewN_heap (n := nq) HXK2.out
                  have hSS := drewN_heap (n := nq) HSS.out
                  have hX1 := drewN_heap (n := nq) HX1.out
                  have hBc := drewN_heap (n := nq) HBC.out
                  have hH := drewN_heap (n := nq) HHH.out
                  have hA3 := HA3.out.drewN (m := nq)
                  have hbc := drewN_below HBB.out nq
                  go_wp2_with fail
                  go_roundw
                  case rel => exact ⟨k + 1, t1, boot, a3, c3, (freeG C S gs sl nd nc), hs, ss, by omega, by go_num, rfl, by omega, by omega, hX1, hH, hSS, hA3, HN, hBc, hbc⟩
                  case measure => simp [intOf]; omega
              · by_cases h3 : kd = 3
                · subst h3
                  go_wp2_with (first
                    | (with_reducible refine wpList_load_cfg rfl _ rfl w.heap.size rfl C hBc ?_)
                    | (go_at_call 13; with_reducible refine (p_new1 C S t1 HS.out _ HC.out (HG.out.below hbc)).mono ?_; rintro e w3 ⟨a3, c3, rfl, hA3, hb3⟩; have hbc := bnext hbc hb3; have hBc := kb hBc hb3; have hX1 := kb hX1 hb3; have hH := kb hH hb3; have hSS := kb hSS hb3; obtain ⟨p0, p1⟩ := acc_cells hX1; have z1 : ∀ j, w3.frozen? ⟨w1.heap.size, j, none⟩ = false := (fun j => blk_free hX1); have hA3 := hA3.store hX1 (.int .i64 t1) (.slice a3 S c3); have hH := one_other (A := w1.heap.size) hH (by omega) (.int .i64 t1) (.slice a3 S c3); have hSS := one_other (A := w1.heap.size) hSS (by omega) (.int .i64 t1) (.slice a3 S c3); have hBc := one_other (A := w1.heap.size) hBc (by omega) (.int .i64 t1) (.slice a3 S c3); have hX1 := one_stay hX1 (.int .i64 t1) (.slice a3 S c3); have hbc := one_below hbc (show w.heap.size ≤ w1.heap.size by omega) (.int .i64 t1) (.slice a3 S c3); clear hb3))
                  go_roundw
                  case rel => exact ⟨k + 1, t1, t1, a3, c3, List.replicate S gnone, hs, ss, by omega, by go_num, rfl, by omega, by omega, hX1, hH, hSS, hA3, HI.out.boot, hBc, hbc⟩
                  case measure => simp [intOf]; omega
                · go_wp2_with fail
                  go_roundw
                  case rel => exact ⟨k + 1, t1, boot, a1, c1, gs, hs, ss, by omega, by go_num, rfl, by omega, by omega, hX1, hH, hSS, hA1, HI, hBc, hbc⟩
                  case measure => simp [intOf]; omega
        · by_cases hks : k < sn
          · have hk60 : ¬ k < 60 := fun h => hin ⟨hks, h⟩
            go_wp2_with fail
            go_ret
            exact ⟨rfl, hbc⟩
          · go_wp2_with fail
            go_ret
            exact ⟨rfl, hbc⟩
    · have HK : Hid (chkI C = 90) := by show chkI C = 90; unfold chkI; rw [if_neg hc]
      clear hc
      go_enter Try.func4, Try.ntmps4
      go_wp2_with (first
        | (with_reducible refine wpList_load_cfg rfl _ rfl w.heap.size rfl C hBc ?_)
        | (go_at_call 11; refine (gawake_true _).mono ?_; rintro e wX ⟨rfl, hX⟩; have hbc := bnext hbc hX; have hBc := kb hBc hX)
        | (go_at_call 12; refine (few_any C _ (HG.out.below hbc)).mono ?_; rintro e wX ⟨rfl, hX⟩; have hbc := bnext hbc hX; have hBc := kb hBc hX; rw [HF.out])
        | (go_at_call 20; with_reducible refine (check_any C _ (HG.out.below hbc)).mono ?_; rintro e wX ⟨rfl, hX⟩; have hbc := bnext hbc hX; have hBc := kb hBc hX; rw [HK.out]))
      go_ret
      exact ⟨rfl, hbc⟩
  · have HF : Hid (fewB C = false) := by show _ = _; simpa using hf
    clear hf
    go_enter Try.func4, Try.ntmps4
    go_wp2_with (first
      | (with_reducible refine wpList_load_cfg rfl _ rfl w.heap.size rfl C hBc ?_)
      | (go_at_call 11; refine (gawake_true _).mono ?_; rintro e wX ⟨rfl, hX⟩; have hbc := bnext hbc hX; have hBc := kb hBc hX)
      | (go_at_call 12; refine (few_any C _ (HG.out.below hbc)).mono ?_; rintro e wX ⟨rfl, hX⟩; have hbc := bnext hbc hX; have hBc := kb hBc hX; rw [HF.out])
      | (go_at_call 20; with_reducible refine (check_any C _ (HG.out.below hbc)).mono ?_; rintro e wX ⟨rfl, hX⟩; have hbc := bnext hbc hX; have hBc := kb hBc hX; rw [HK.out]))
    go_ret
    exact ⟨rfl, hbc⟩
end Go.Proofs.Ytmhggpmhekeemaa
