/- The walk of LeaseMeets. -/
import Derived.Test.YtmhggpmhekeemaaMMem
import Derived.Deep.DeepCutAuto
import Derived.Deep.CutBlock
import Derived.Deep.RegionHeld3
import Derived.Deep.RegionWith
import Derived.LoopTactic
namespace Go.Proofs.Ytmhggpmhekeemaa
open Go.RowKit
theorem p_newM (C : Cv) (S : Nat) (hS : C.slots = (S : Int)) (w : World) (hc : chk C = true) (hG : Good w C) :
    Calls Try.prog 13 #[.agg C.cells, .int .i64 0] w fun e w' => ∃ ad cap, e = .returned (.agg #[.int .i64 0, .slice ad S cap]) ∧ Acc w' ad S cap (List.replicate S gnone) ∧ Below w.heap.size w w' := by
  have h := new_yes C 0 w hG hc
  rw [show C.slots.toNat = S by omega] at h
  exact h
theorem told_b (a : Option Addr) (len cap : Nat) (rs : Nat → RowV) (t n : Nat) (w : World) (h : ReadsR w a len cap rs) (ht : t < 60) (hn : n < 9) :
    Calls Try.prog 36 #[.slice a len cap, .int .i64 t, .int .i64 n] w fun e w' => (∃ x : Int, e = .returned (.int .i64 x)) ∧ w = w' := told_any a len cap rs t n w h ht hn
theorem gain_b (C : Cv) (x : Int) (w : World) (h : Good w C) (hc : chk C = true) : Calls Try.prog 35 #[.agg C.cells, .int .i64 x] w fun e w' => (∃ d : Int, e = .returned (.int .i64 d) ∧ (0 ≤ d ∧ 1000 - C.rho ≤ d ∧ d ≤ 1000 + C.rho ∧ d ≤ 1500)) ∧ Below w.heap.size w w' :=
  (gain_any C x w h).mono fun e w' ⟨he, hb⟩ => ⟨⟨gainI C x, he, by
    have := (chk_facts hc).2.2.1
    unfold gainI; rw [if_pos hc]; omega⟩, hb⟩
theorem wait9 (a : Option Addr) (len cap : Nat) (zs : List Int) (n : Nat) (w : World) (h : Reads .u8 w a len cap zs) (hn : n < 50) :
    Calls Try.prog 37 #[.slice a len cap, .int .i64 ((n : Int) + 9)] w fun e w' => e = .returned (.int .i64 (waitN zs (n + 9))) ∧ w = w' := by
  rw [show ((n : Int) + 9) = ((n + 9 : Nat) : Int) by omega]
  exact wait_any a len cap zs (n + 9) w h (by omega)
theorem new_drewM (w : World) (o : Obj) : (w.alloc o).drew.heap[w.heap.size]? = some o := heap_alloc_new w o
theorem if_same {gs : Nat → List G3} {n : Nat} {g : List G3} (h : g = gs n) : (fun j => if j = n then g else gs j) = gs := by
  funext j
  by_cases e : j = n
  · rw [if_pos e, h, e]
  · rw [if_neg e]
theorem pp0 {t m : Nat} : PP t 0 m = t := pp_ge (by omega)
theorem mi_pp1 {C : Cv} {N ta tb t : Nat} {wz : List Int} {G : Nat → Nat} {fa fb : Bool} {cs : List Int} {gs : Nat → List G3} {A B : Lv} (hN : 2 ≤ N) (h : MI C N ta tb wz (fun _ => t) (fun _ => t) G fa fb cs gs A B) : MI C N ta tb wz (PP t 0) (PP t 0) G fa fb cs gs A B :=
  h.congr hN (fun _ _ => pp0) (fun _ _ => pp0) (fun _ _ => rfl) rfl rfl
theorem mi_pp2 {C : Cv} {N ta tb t : Nat} {wz : List Int} {G : Nat → Nat} {fa fb : Bool} {cs : List Int} {gs : Nat → List G3} {A B : Lv} (hN : 2 ≤ N) (h : MI C N ta tb wz (PP t N) (PP t N) G fa fb cs gs A B) : MI C N ta tb wz (fun _ => t + 1) (fun _ => t + 1) G fa fb cs gs A B :=
  h.congr hN (fun _ q => (pp_lt q).symm) (fun _ q => (pp_lt q).symm) (fun _ _ => rfl) rfl rfl
theorem mi_pp0 {C : Cv} {N ta tb t : Nat} {wz : List Int} {pA pB : Nat → Nat} {fa fb : Bool} {cs : List Int} {gs : Nat → List G3} {A B : Lv} (hN : 2 ≤ N) (h : MI C N ta tb wz pA pB (fun _ => t) fa fb cs gs A B) : MI C N ta tb wz pA pB (PP t 0) fa fb cs gs A B :=
  h.congr hN (fun _ _ => rfl) (fun _ _ => rfl) (fun _ _ => pp0) rfl rfl
theorem mi_ppN {C : Cv} {N ta tb t : Nat} {wz : List Int} {pA pB : Nat → Nat} {fa fb : Bool} {cs : List Int} {gs : Nat → List G3} {A B : Lv} (hN : 2 ≤ N) (h : MI C N ta tb wz pA pB (PP t N) fa fb cs gs A B) : MI C N ta tb wz pA pB (fun _ => t + 1) fa fb cs gs A B :=
  h.congr hN (fun _ _ => rfl) (fun _ _ => rfl) (fun _ q => (pp_lt q).symm) rfl rfl
abbrev ZB : Obj := Obj.cells #[Value.int .i64 0, Value.slice none 0 0] 30
theorem st2_box {W : World} {b : Nat} {x y : Value} (h : W.heap[b]? = some (.cells #[x, y] 30 (0, 0))) (u v : Value) : ((W.setCell ⟨b, 0, none⟩ u).setCell ⟨b, 1, none⟩ v).heap[b]? = some (.cells #[u, v] 30 (0, 0)) :=
  (heap_setCell_same _ _ _ _ _ _ (heap_setCell_same _ _ _ _ _ _ h)).trans rfl
theorem st2_acc {W : World} {b S cap : Nat} {ad : Option Addr} {g : List G3} {x y : Value} (hA : Acc W ad S cap g) (h : W.heap[b]? = some (.cells #[x, y] 30 (0, 0))) (u v : Value) : Acc ((W.setCell ⟨b, 0, none⟩ u).setCell ⟨b, 1, none⟩ v) ad S cap g :=
  (hA.one' (T := 30) (by decide) h _ _).one' (T := 30) (by decide) (heap_setCell_same _ _ _ _ _ _ h) _ _
theorem ab_len {w : World} {b N S n : Nat} {gs : Nat → List G3} (h : AB w b N S N gs) (hn : n < N) (hS : 1 ≤ S) : 0 < (gs n).length := by
  obtain ⟨ad, cap, _, _, hA⟩ := h.cells hn
  rw [hA.len]; omega
theorem iset_len (l : List Int) (k : Nat) (x : Int) : (l.set k x).length = l.length := by simp
theorem wrapQ {x : Int} (h0 : 0 ≤ x) (h1 : x ≤ 4611686018427387904) : IntKind.i64.wrap x = x := by rw [IntKind.wrap_i64]; omega
set_option maxRecDepth 200000 in
set_option maxHeartbeats 40000000 in
theorem walk_LeaseMeets (C : Cv) (ga : Option Addr) (gn gc : Nat) (rs : Nat → RowV) (askA askB' : Int) (wa : Option Addr) (wn wc' : Nat) (wz : List Int) (w : World) (w0 : Good w C) (w1 : ReadsR w ga gn gc rs) (w2 : (Lit.int .u8 askA).wf = true) (w3 : (Lit.int .u8 askB').wf = true) (w4 : Reads .u8 w wa wn wc' wz) :
    Calls Try.prog 10 #[.agg C.cells, .slice ga gn gc, .int .u8 askA, .int .u8 askB', .slice wa wn wc'] w fun e w' => e = .returned (.bool true) ∧ Below w.heap.size w w' := by
  have HG := Lib.hid w0
  have HRS := Lib.hid w1
  have HWZ := Lib.hid w4
  have r1 : 0 ≤ askA ∧ askA ≤ 255 := by
    simp only [Lit.wf, Bool.and_eq_true, decide_eq_true_eq] at w2
    have h1 : IntKind.u8.min = 0 := rfl
    have h2 : IntKind.u8.max = 255 := rfl
    omega
  have r2 : 0 ≤ askB' ∧ askB' ≤ 255 := by
    simp only [Lit.wf, Bool.and_eq_true, decide_eq_true_eq] at w3
    have h1 : IntKind.u8.min = 0 := rfl
    have h2 : IntKind.u8.max = 255 := rfl
    omega
  obtain ⟨r1a, r1b⟩ := r1
  obtain ⟨r2a, r2b⟩ := r2
  clear w0 w1 w2 w3 w4
  obtain ⟨ta, hta⟩ : ∃ ta : Nat, askA % 60 = (ta : Int) := ⟨(askA % 60).toNat, by omega⟩
  obtain ⟨tb, htb⟩ : ∃ tb : Nat, askB' % 60 = (tb : Int) := ⟨(askB' % 60).toNat, by omega⟩
  have hta60 : ta < 60 := by omega
  have htb60 : tb < 60 := by omega
  have HTA := Lib.hid hta
  have HTB := Lib.hid htb
  clear hta htb
  have hbc := bnew (brefl w) (Obj.cells C.cells 24)
  have hBc := heap_alloc_new w (Obj.cells C.cells 24)
  by_cases hf : fewB C = true
  · have HF := Lib.hid hf
    clear hf
    by_cases hc : chk C = true
    · have HK : Hid (chkI C = 0) := by show chkI C = 0; unfold chkI; rw [hc]; rfl
      have hcf := chk_facts hc
      obtain ⟨S, hS⟩ : ∃ S : Nat, C.slots = (S : Int) := ⟨C.slots.toNat, by omega⟩
      obtain ⟨N, hN⟩ : ∃ N : Nat, C.nodes = (N : Int) := ⟨C.nodes.toNat, by omega⟩
      have HC := Lib.hid hc
      have HS := Lib.hid hS
      have HN := Lib.hid hN
      have hS1 : 1 ≤ S := by omega
      have hS9 : S ≤ 9 := by omega
      have hN9 : N ≤ 9 := by omega
      have hN1 : 1 ≤ N := by omega
      have hg1 : 1 ≤ C.grant := hcf.2.2.2.2.1.1
      have hg2 : C.grant ≤ 1073741824 := hcf.2.2.2.2.1.2
      have hrho := hcf.2.2.1
      clear hc hcf hS hN
      by_cases h2 : 2 ≤ N
      · have d2 : decide ((N : Int) < 2) = false := decide_eq_false (by omega)
        go_enter Try.func10, Try.ntmps10
        go_upto_region 7 with (first
          | (with_reducible refine wpList_load_cfg rfl _ rfl w.heap.size rfl C hBc ?_)
          | (go_at_call 22; refine (lawake_true _).mono ?_; rintro e wX ⟨rfl, hX⟩; have hbc := bnext hbc hX; have hBc := kb hBc hX)
          | (go_at_call 12; refine (few_any C _ (HG.out.below hbc)).mono ?_; rintro e wX ⟨rfl, hX⟩; have hbc := bnext hbc hX; have hBc := kb hBc hX; rw [HF.out])
          | (go_at_call 20; with_reducible refine (check_any C _ (HG.out.below hbc)).mono ?_; rintro e wX ⟨rfl, hX⟩; have hbc := bnext hbc hX; have hBc := kb hBc hX; rw [HK.out]; have hBcX := hBc; obtain ⟨m0, _⟩ := cfg_cells2 hBc; rw [HN.out] at m0; have ma0 := (fun o => cell_alloc (o := o) m0)))
        have hX7 : wX.heap.size < (wX.alloc (Obj.cells #[Value.int IntKind.i64 0, Value.int IntKind.i64 0, Value.int IntKind.i64 0, Value.int IntKind.i64 0, Value.int IntKind.i64 0, Value.int IntKind.i64 0, Value.int IntKind.i64 0, Value.int IntKind.i64 0, Value.int IntKind.i64 0] 42)).heap.size := by simp
        have hCl : (wX.alloc (Obj.cells #[Value.int IntKind.i64 0, Value.int IntKind.i64 0, Value.int IntKind.i64 0, Value.int IntKind.i64 0, Value.int IntKind.i64 0, Value.int IntKind.i64 0, Value.int IntKind.i64 0, Value.int IntKind.i64 0, Value.int IntKind.i64 0] 42)).heap[wX.heap.size]? = some (.cells (cellsOf .i64 (List.replicate 9 0)) 42 (0, 0)) := heap_alloc_new wX _
        have hBc := ka hBc (Obj.cells #[Value.int IntKind.i64 0, Value.int IntKind.i64 0, Value.int IntKind.i64 0, Value.int IntKind.i64 0, Value.int IntKind.i64 0, Value.int IntKind.i64 0, Value.int IntKind.i64 0, Value.int IntKind.i64 0, Value.int IntKind.i64 0] 42)
        have hbc := bnew hbc (Obj.cells #[Value.int IntKind.i64 0, Value.int IntKind.i64 0, Value.int IntKind.i64 0, Value.int IntKind.i64 0, Value.int IntKind.i64 0, Value.int IntKind.i64 0, Value.int IntKind.i64 0, Value.int IntKind.i64 0, Value.int IntKind.i64 0] 42)
        have hlw : w.heap.size < wX.heap.size := lt_of_block hBcX
        clear m0 ma0
        generalize (wX.alloc (Obj.cells #[Value.int IntKind.i64 0, Value.int IntKind.i64 0, Value.int IntKind.i64 0, Value.int IntKind.i64 0, Value.int IntKind.i64 0, Value.int IntKind.i64 0, Value.int IntKind.i64 0, Value.int IntKind.i64 0, Value.int IntKind.i64 0] 42)) = X7 at *
        generalize wX.heap.size = bC at *
        obtain ⟨m0, _⟩ := cfg_cells2 hBc
        rw [HN.out] at m0
        obtain ⟨cs0, hcs0, hmk⟩ := run_make2 N hN9 X7
        have HCS := Lib.hid hcs0
        have hAB : AB (X7.alloc (.cells cs0 30)) X7.heap.size N S 0 (fun _ => List.replicate S gnone) := ab_new X7 cs0 N S hcs0 _
        have hBc := ka hBc (.cells cs0 30)
        have hCl := ka hCl (.cells cs0 30)
        have hbc := bnew hbc (.cells cs0 30)
        have HBc := Lib.hid hBc
        have HCl := Lib.hid hCl
        have Hbc := Lib.hid hbc
        have HAB := Lib.hid hAB
        clear hBc hCl hbc hAB hcs0
        have hoA0 : bC < X7.heap.size := hX7
        have hoC : w.heap.size < bC := hlw
        go_upto_block 0 with fail
        generalize X7.heap.size = bA at *
        go_wp2_with fail
        go_loopw [14] (fun i wr => ∃ (k : Nat) (cs : List Int), k ≤ N ∧ i = .int .i64 k ∧ AB wr bA N S k (fun _ => List.replicate S gnone) ∧ wr.heap[bC]? = some (.cells (cellsOf .i64 cs) 42 (0, 0)) ∧ cs.length = 9 ∧ Hid (∀ m, m < k → cs.getD m 0 = C.grant) ∧ wr.heap[w.heap.size]? = some (.cells C.cells 24 (0, 0)) ∧ Below w.heap.size w wr) (fun i _ => N - (intOf i).toNat)
        case atStart => exact ⟨0, List.replicate 9 0, Nat.zero_le _, rfl, HAB.out, HCl.out, by simp, fun m q => absurd q (by omega), HBc.out, Hbc.out⟩
        case round =>
          obtain ⟨k, cs, hk, rfl, hAB, hCl, hlen, hgr, hBc, hbc⟩ := hrel
          obtain ⟨m0, _⟩ := cfg_cells2 hBc
          rw [HN.out] at m0
          by_cases hkN : k < N
          · have HLEN := Lib.hid hlen
            clear hlen
            go_upto_region 12 with (first
              | (with_reducible refine wpList_load_cfg rfl _ rfl w.heap.size rfl C hBc ?_)
              | (go_at_call 13; with_reducible refine (p_newM C S HS.out _ HC.out (HG.out.below hbc)).mono ?_; rintro e w3 ⟨a3, c3, rfl, hA3, hb3⟩; have hbc := bnext hbc hb3; have hBc := kb hBc hb3; have hCl := kb hCl hb3; have hAB := hAB.below hb3; obtain ⟨u0, u1, t0, t1⟩ := hAB.there hkN; have zA : ∀ j, w3.frozen? ⟨bA, j, none⟩ = false := (fun j => hAB.free j); have HAB := Lib.hid hAB; have HBc := Lib.hid hBc; have HCl := Lib.hid hCl; have Hbc := Lib.hid hbc; have HA3 := Lib.hid hA3; clear hAB hBc hCl hbc hA3))
            have hAB := HAB.out.store hkN HA3.out (k' := k + 1) (fun j q => by omega)
            have hBc := st2_other (A := bA) (i := k * 2) (j := k * 2 + 1) HBc.out (by omega) (.int .i64 0) (.slice a3 S c3)
            have hCl := st2_other (A := bA) (i := k * 2) (j := k * 2 + 1) HCl.out (by omega) (.int .i64 0) (.slice a3 S c3)
            have hbc := st2_below (A := bA) (i := k * 2) (j := k * 2 + 1) Hbc.out (by omega) (.int .i64 0) (.slice a3 S c3)
            clear HAB HBc HCl Hbc HA3 t0 t1 zA
            generalize ((w3.setCell ⟨bA, k * 2, none⟩ (.int .i64 0)).setCell ⟨bA, k * 2 + 1, none⟩ (.slice a3 S c3)) = Y at *
            obtain ⟨m0, m1, m2, m3, m4, _⟩ := cfg_cells2 hBc
            have q0 := blk_cell hCl (j := k) (by have := HLEN.out; omega)
            have zC : ∀ j, Y.frozen? ⟨bC, j, none⟩ = false := fun j => blk_free hCl
            have b9 : (k : Int) < 9 := by omega
            have hCl2 := Lib.hid (blk_set hCl k C.grant)
            have hAB2 := Lib.hid (hAB.other (T := 42) (by decide) hCl (by omega) k (.int .i64 C.grant))
            have hBc2 := Lib.hid (st1_other (A := bC) (j := k) hBc (by omega) (.int .i64 C.grant))
            have hbc2 := Lib.hid (st1_below (A := bC) (j := k) hbc (by omega) (.int .i64 C.grant))
            clear hAB hCl hBc hbc
            go_wp2_with fail
            go_roundw
            case rel =>
              refine ⟨k + 1, cs.set k C.grant, by omega, by go_num, ?_, hCl2.out, by rw [iset_len]; exact HLEN.out, ?_, hBc2.out, hbc2.out⟩
              · have e : (fun j => if j = k then List.replicate S gnone else List.replicate S gnone) = fun _ : Nat => List.replicate S gnone := by funext j; split <;> rfl
                have := hAB2.out
                rw [e] at this
                exact this
              · show ∀ m, _ → _
                intro m hm
                rw [getD_iset _ _ _ _ (by rw [HLEN.out]; omega)]
                by_cases e : m = k
                · rw [if_pos e]
                · rw [if_neg e]; exact hgr.out m (by omega)
            case measure => simp [intOf]; omega
          · obtain rfl : N = k := by omega
            have hoA := hAB.lt
            have HMI : Hid (MI C N ta tb wz (fun _ => 0) (fun _ => 0) (fun _ => 0) false false cs (fun _ => List.replicate S gnone) Z Z) := mi_start _ ⟨by omega, hg2⟩ hlen hgr.out
            have HMS := Lib.hid (MS.start (w := w) (S := S) hoC hoA0 hAB hCl hBc hbc)
            clear hAB hCl hBc hbc hgr hlen
            go_upto_block 2 with fail
            generalize ((wr.alloc (Obj.cells #[Value.int .i64 0, Value.int .i64 0, Value.int .i64 0, Value.slice none 0 0] 48)).alloc (Obj.cells #[Value.int .i64 0, Value.int .i64 0, Value.int .i64 0, Value.slice none 0 0] 48)) = X8 at *
            generalize wr.heap.size = bL at *
            clear m0
            go_wp2_with fail
            go_loopw [17, 18, 19] (fun s17 s18 s19 wr => ∃ (t : Nat) (cs : List Int) (gs : Nat → List G3) (A B : Lv), t ≤ 60 ∧ s19 = .int .i64 t ∧ s17 = .bool (decide (ta < t)) ∧ s18 = .bool (decide (tb < t)) ∧ MS w wr C N S bC bA bL cs gs A B ∧ Hid (MI C N ta tb wz (fun _ => t) (fun _ => t) (fun _ => t) (decide (ta < t)) (decide (tb < t)) cs gs A B)) (fun _ _ s19 _ => 60 - (intOf s19).toNat)
            case atStart => exact ⟨0, cs, _, Z, Z, by omega, rfl, by simp, by simp, HMS.out, by rw [show decide (ta < 0) = false from by simp, show decide (tb < 0) = false from by simp]; exact HMI⟩
            case round =>
              obtain ⟨t, cs, gs, A, B, ht, rfl, rfl, rfl, hM, hI⟩ := hrel
              by_cases ht60 : t < 60
              · obtain ⟨m0, _⟩ := cfg_cells2 hM.pc
                rw [HN.out] at m0
                have HM := Lib.hid hM
                clear hM
                go_upto_block 4 with fail
                obtain ⟨wo, rfl⟩ : ∃ wo : World, wo = wr := ⟨_, rfl⟩
                go_wp2_with fail
                go_loopw [20] (fun s20 wr => ∃ (n : Nat) (cs : List Int), n ≤ N ∧ s20 = .int .i64 n ∧ MS w wr C N S bC bA bL cs gs A B ∧ Hid (MI C N ta tb wz (fun _ => t) (fun _ => t) (PP t n) (decide (ta < t)) (decide (tb < t)) cs gs A B)) (fun s20 _ => N - (intOf s20).toNat)
                case atStart => exact ⟨0, cs, Nat.zero_le _, rfl, HM.out, mi_pp0 h2 hI.out⟩
                case round =>
                  obtain ⟨n, cs, hn, rfl, hM, hI⟩ := hrel
                  obtain ⟨m0, _⟩ := cfg_cells2 hM.pc
                  rw [HN.out] at m0
                  by_cases hnN : n < N
                  · obtain ⟨ck, hck⟩ : ∃ ck, cs.getD n 0 = ck := ⟨_, rfl⟩
                    have q0 := blk_cell hM.cl (j := n) (by rw [hI.out.len]; omega)
                    rw [hck] at q0
                    have hrg := hI.out.rng n hnN
                    rw [pp_ge (Nat.lt_irrefl n), hck] at hrg
                    obtain ⟨hr0, hr1⟩ := hrg
                    have HCK := Lib.hid hck
                    have zC : ∀ j, wr.frozen? ⟨bC, j, none⟩ = false := fun j => blk_free hM.cl
                    have HBc := Lib.hid hM.pc
                    have FG : Hid (∀ W, Below wr.heap.size wr W → Good W C) := fun W q => (HG.out.below hM.bb).below q
                    have FR : Hid (∀ W, Below wr.heap.size wr W → ReadsR W ga gn gc rs) := fun W q => (HRS.out.below hM.bb).below q
                    have HM := Lib.hid hM
                    have b9 : (n : Int) < 9 := by omega
                    clear hM hck
                    go_wp2_with fail
                    clear m0
                    obtain ⟨k0, k1, k2, k3, k4, k5, k6, k7, k8, k9, k10⟩ := cfg_cells2 HM.out.pc
                    go_region_with (first
                      | (go_at_call 36; with_reducible refine (told_b ga gn gc rs t n _ (FR.out _ (by repeat (first | exact Below.refl _ _ | apply Below.drew | assumption))) ht60 (by omega)).mono ?_; rintro e wY ⟨⟨x, rfl⟩, rfl⟩)
                      | (go_at_call 35; with_reducible refine (gain_b C x _ (FG.out _ (by repeat (first | exact Below.refl _ _ | apply Below.drew | assumption))) HC.out).mono ?_; rintro e wY ⟨⟨d, rfl, e0, e1, e2, e3⟩, hY⟩; have hbY := bnext (w := wr) (by repeat (first | exact Below.refl _ _ | apply Below.drew | assumption)) hY; have q0 := (hbY.cell (block_lt_of_cell q0)).trans q0; have zC : ∀ j, wY.frozen? ⟨bC, j, none⟩ = false := (fun j => blk_free (kb HM.out.cl hbY)); have hw : IntKind.i64.wrap (ck + d) = ck + d := wrapQ (by omega) (by omega)))
                    all_goals
                      have HMY := Lib.hid ((HM.out.below hbY).clk n (ck + d))
                      have HIY := Lib.hid (hI.out.gain (d := d) hnN hN9 e0 e1 e2 hrho.2)
                      rw [HCK.out] at HIY
                      clear q0 zC k0 k1 k2 k3 k4 k5 k6 k7 k8 k9 k10 hbY
                      go_wp2_with fail
                      go_roundw
                      case rel => exact ⟨n + 1, cs.set n (ck + d), by omega, by go_num, HMY.out, HIY⟩
                      case measure => simp [intOf]; omega
                  · obtain rfl : N = n := by omega
                    have HI := Lib.hid (mi_ppN h2 hI.out)
                    have HM := Lib.hid hM
                    clear hM hI
                    go_upto_if 87 with fail
                    go_cut [17] (fun s17 wc => ∃ A : Lv, s17 = .bool (decide (ta < t + 1)) ∧ MS w wc C N S bC bA bL cs gs A B ∧ Hid (MI C N ta tb wz (fun _ => t) (fun _ => t) (fun _ => t + 1) (decide (ta < t + 1)) (decide (tb < t)) cs gs A B))
                    case first =>
                      by_cases e : t = ta
                      · have d24 : ((t : Int) == askA % 60) = true := by rw [HTA.out, e]; simp
                        obtain ⟨ck, hck⟩ : ∃ ck, cs.getD 0 0 = ck := ⟨_, rfl⟩
                        have q0 := blk_cell HM.out.cl (j := 0) (by rw [HI.out.len]; omega)
                        rw [hck] at q0
                        have HCK := Lib.hid hck
                        have HE := Lib.hid e
                        have hrg := HI.out.rng 0 (by omega)
                        rw [hck] at hrg
                        clear hck e
                        go_wp2_with (go_at_call 26; with_reducible refine (lask_any 0 1 ck _).mono ?_; rintro e wY ⟨rfl, hY⟩; have HMY := Lib.hid (HM.out.below hY); obtain ⟨y0, y1, y2, y3⟩ := lv_cells HMY.out.la; have zY : ∀ j, wY.frozen? ⟨bL, j, none⟩ = false := (fun j => blk_free HMY.out.la))
                        go_meet
                        refine ⟨⟨0, 1, ck, none, 0, 0, []⟩, ?_, HMY.out.leA ⟨0, 1, ck, none, 0, 0, []⟩ (reads_none _ _ _) nofun, ?_⟩
                        · rw [show decide (ta < t + 1) = true from decide_eq_true (by have := HE.out; omega)]
                        · rw [show decide (ta < t + 1) = true from decide_eq_true (by have := HE.out; omega), ← HCK.out]
                          have h := HI.out
                          rw [← HE.out] at h ⊢
                          exact h.goA (by unfold inI; rw [HCK.out]; omega)
                      · have d24 : ((t : Int) == askA % 60) = false := by rw [HTA.out]; simpa using fun q => e (by omega)
                        have HE : Hid (decide (ta < t + 1) = decide (ta < t)) := by
                          show _ = _
                          by_cases q : ta < t
                          · rw [decide_eq_true q, decide_eq_true (by omega)]
                          · rw [decide_eq_false q, decide_eq_false (by omega)]
                        clear e
                        go_wp2_with fail
                        go_meet
                        exact ⟨A, by rw [HE.out], HM.out, by rw [HE.out]; exact HI.out⟩
                    case rest =>
                      obtain ⟨A, rfl, hM, hI⟩ := hcut
                      have HM := Lib.hid hM
                      clear hM
                      go_upto_if 95 with fail
                      go_cut [18] (fun s18 wc => ∃ B : Lv, s18 = .bool (decide (tb < t + 1)) ∧ MS w wc C N S bC bA bL cs gs A B ∧ Hid (MI C N ta tb wz (fun _ => t) (fun _ => t) (fun _ => t + 1) (decide (ta < t + 1)) (decide (tb < t + 1)) cs gs A B))
                      case first =>
                        by_cases e : t = tb
                        · have d27 : ((t : Int) == askB' % 60) = true := by rw [HTB.out, e]; simp
                          obtain ⟨ck, hck⟩ : ∃ ck, cs.getD 1 0 = ck := ⟨_, rfl⟩
                          have q0 := blk_cell HM.out.cl (j := 1) (by rw [hI.out.len]; omega)
                          rw [hck] at q0
                          have HCK := Lib.hid hck
                          have HE := Lib.hid e
                          have hrg := hI.out.rng 1 (by omega)
                          rw [hck] at hrg
                          clear hck e
                          go_wp2_with (go_at_call 26; with_reducible refine (lask_any 0 1 ck _).mono ?_; rintro e wY ⟨rfl, hY⟩; have HMY := Lib.hid (HM.out.below hY); obtain ⟨y0, y1, y2, y3⟩ := lv_cells HMY.out.lb; have zY : ∀ j, wY.frozen? ⟨bL + 1, j, none⟩ = false := (fun j => blk_free HMY.out.lb))
                          go_meet
                          refine ⟨⟨0, 1, ck, none, 0, 0, []⟩, ?_, HMY.out.leB ⟨0, 1, ck, none, 0, 0, []⟩ (reads_none _ _ _) nofun, ?_⟩
                          · rw [show decide (tb < t + 1) = true from decide_eq_true (by have := HE.out; omega)]
                          · rw [show decide (tb < t + 1) = true from decide_eq_true (by have := HE.out; omega), ← HCK.out]
                            have h := hI.out
                            rw [← HE.out] at h ⊢
                            exact h.goB (by unfold inI; rw [HCK.out]; omega)
                        · have d27 : ((t : Int) == askB' % 60) = false := by rw [HTB.out]; simpa using fun q => e (by omega)
                          have HE : Hid (decide (tb < t + 1) = decide (tb < t)) := by
                            show _ = _
                            by_cases q : tb < t
                            · rw [decide_eq_true q, decide_eq_true (by omega)]
                            · rw [decide_eq_false q, decide_eq_false (by omega)]
                          clear e
                          go_wp2_with fail
                          go_meet
                          exact ⟨B, by rw [HE.out], HM.out, by rw [HE.out]; exact hI.out⟩
                      case rest =>
                        obtain ⟨B, rfl, hM, hI⟩ := hcut
                        have HM := Lib.hid hM
                        clear hM
                        go_upto_block 7 with fail
                        obtain ⟨wp, rfl⟩ : ∃ wp : World, wp = wc := ⟨_, rfl⟩
                        go_loopw [21] (fun s21 wr => ∃ (n : Nat) (gs : Nat → List G3) (A B : Lv), n ≤ N ∧ s21 = .int .i64 n ∧ MS w wr C N S bC bA bL cs gs A B ∧ Hid (MI C N ta tb wz (PP t n) (PP t n) (fun _ => t + 1) (decide (ta < t + 1)) (decide (tb < t + 1)) cs gs A B)) (fun s21 _ => N - (intOf s21).toNat)
                        case atStart => exact ⟨0, gs, A, B, Nat.zero_le _, rfl, HM.out, mi_pp1 h2 hI.out⟩
                        case round =>
                          obtain ⟨n, gs, A, B, hn, rfl, hM, hI⟩ := hrel
                          obtain ⟨m0, _⟩ := cfg_cells2 hM.pc
                          rw [HN.out] at m0
                          have HM := Lib.hid hM
                          clear hM
                          by_cases hnN : n < N
                          · skip
                            obtain ⟨wv, hwv⟩ : ∃ wv, waitN wz n = wv := ⟨_, rfl⟩
                            have hw20 : wv < 20 := by rw [← hwv]; exact waitN_lt _ _
                            have HWV := Lib.hid hwv
                            clear hwv
                            go_upto_region 33 with fail
                            obtain ⟨wo, rfl⟩ : ∃ wo : World, wo = wr := ⟨_, rfl⟩
                            obtain ⟨dd, hdd⟩ : ∃ b, decide (t = ta + wv) = b := ⟨_, rfl⟩
                            have HDD := Lib.hid hdd
                            clear hdd
                            go_cut [17, 116] (fun sf s116 wc => sf = .bool (decide (ta < t + 1)) ∧ s116 = .bool dd ∧ wc = wo)
                            case first =>
                              by_cases hq : ta < t + 1
                              · have dq : decide (ta < t + 1) = true := decide_eq_true hq
                                have HT := HTA
                                have hmod : askA % 60 = (ta : Int) := HT.out
                                go_wp2_with (go_at_call 37; with_reducible refine (wait_any wa wn wc' wz n _ (HWZ.out.below HM.out.bb) (by omega)).mono ?_; rintro e wY ⟨rfl, rfl⟩; rw [HWV.out])
                                go_meet
                                refine ⟨by rw [dq], ?_, rfl⟩
                                rw [← HDD.out]
                                congr 1
                                rw [Bool.eq_iff_iff]; simp; try omega
                              · have dq : decide (ta < t + 1) = false := decide_eq_false hq
                                go_wp2_with fail
                                go_meet
                                refine ⟨by rw [dq], ?_, rfl⟩
                                rw [← HDD.out, show decide (t = ta + wv) = false from decide_eq_false (by omega)]
                            case rest =>
                              obtain ⟨rfl, rfl, rfl⟩ := hcut
                              obtain ⟨wqA, rfl⟩ : ∃ wq : World, wq = wc := ⟨_, rfl⟩
                              go_upto_if 116 with fail
                              go_cut [116, 22] (fun _ _ wc => ∃ (gs : Nat → List G3) (A : Lv), MS w wc C N S bC bA bL cs gs A B ∧ Hid (MI C N ta tb wz (PP t (n + 1)) (PP t n) (fun _ => t + 1) (decide (ta < t + 1)) (decide (tb < t + 1)) cs gs A B))
                              case first => as_aux_lemma =>
                                cases dd with
                                | true =>
                                  have HQ : Hid (t = ta + wv) := Lib.hid (of_decide_eq_true HDD.out)
                                  obtain ⟨ck, hck⟩ : ∃ ck, cs.getD n 0 = ck := ⟨_, rfl⟩
                                  obtain ⟨ad, cap, t0, t1, hA⟩ := HM.out.ab.cells hnN
                                  have q0 := blk_cell HM.out.cl (j := n) (by rw [hI.out.len]; omega)
                                  have hrg := hI.out.rng n hnN
                                  rw [hck] at q0 hrg
                                  have hick : inI ck := by unfold inI; omega
                                  have hpc := HM.out.pc
                                  have hL1 : ∀ W, Below wqA.heap.size wqA W → W.cell? ⟨w.heap.size, 0, none⟩ = some (.int .i64 C.nodes) ∧ W.cell? ⟨w.heap.size, 1, none⟩ = some (.int .i64 C.slots) ∧ W.cell? ⟨w.heap.size, 2, none⟩ = some (.int .i64 C.rho) ∧ W.cell? ⟨w.heap.size, 3, none⟩ = some (.int .i64 C.hold) ∧ W.cell? ⟨w.heap.size, 4, none⟩ = some (.int .i64 C.grant) ∧ W.cell? ⟨w.heap.size, 5, none⟩ = some (.int .i64 C.guard) ∧ W.cell? ⟨w.heap.size, 6, none⟩ = some (.int .i64 C.work) ∧ W.cell? ⟨w.heap.size, 7, none⟩ = some (.slice C.sa C.sn C.sc) ∧ W.cell? ⟨w.heap.size, 8, none⟩ = some (.slice C.na C.nn C.nc) ∧ W.cell? ⟨w.heap.size, 9, none⟩ = some (.int .i64 C.soak) ∧ W.cell? ⟨w.heap.size, 10, none⟩ = some (.int .i64 C.pass) := fun W q => cfg_cells2 ((q.block _ (lt_of_block hpc)).trans hpc)
                                  have hL2 : ∀ W, Below wqA.heap.size wqA W → W.cell? ⟨bA, n * 2, none⟩ = some (.int .i64 0) ∧ W.cell? ⟨bA, n * 2 + 1, none⟩ = some (.slice ad S cap) := fun W q => ⟨(q.cell (block_lt_of_cell t0)).trans t0, (q.cell (block_lt_of_cell t1)).trans t1⟩
                                  have hL3 : ∀ W, Below wqA.heap.size wqA W → W.cell? ⟨bC, n, none⟩ = some (.int .i64 ck) := fun W q => (q.cell (block_lt_of_cell q0)).trans q0
                                  have FG : Hid (∀ W, Below wqA.heap.size wqA W → Good W C) := fun W q => (HG.out.below HM.out.bb).below q
                                  have FA : Hid (∀ W, Below wqA.heap.size wqA W → Acc W ad S cap (gs n)) := fun W q => hA.below q
                                  obtain ⟨ba, hba⟩ : ∃ b, askB C 0 S (gs n) 0 0 1 ck = b := ⟨_, rfl⟩
                                  have HBA := Lib.hid hba
                                  have HCK := Lib.hid hck
                                  have hS : Below wqA.heap.size wqA wqA := Below.refl _ _
                                  have b9 : (n : Int) < 9 := by omega
                                  clear hrg q0 t0 t1 hA hpc hba hck m0
                                  go_upto_region 34 with fail
                                  go_cut [22, 23] (fun s22 s23 wc => ∃ (b22 : Nat) (a3 : Option Addr) (c3 : Nat), s22 = .pointer (some ⟨b22, 0, none⟩) ∧ s23 = .bool ba ∧ wc.heap[b22]? = some (.cells #[Value.int .i64 0, Value.slice a3 S c3] 30 (0, 0)) ∧ Acc wc a3 S c3 (askG C 0 S (gs n) 0 0 1 ck) ∧ Below wqA.heap.size wqA wc)
                                  case first =>
                                    go_region_held3 (fun W : World => Below wqA.heap.size wqA W) (first | assumption | exact hS.drew | exact Below.drew (by assumption) | exact bnext (by assumption) hY | exact bnew (by assumption) _ | exact st2_below (by assumption) (hSY.size) _ _ | exact st2_below (by assumption) (Nat.le_refl _) _ _) (first | (go_at_call 15; with_reducible refine (ask_any C 0 ad S cap (gs n) 0 0 1 ck _ (FG.out _ (by assumption)) (FA.out _ (by assumption)) inI0 inI1 hick).mono ?_; rintro e wY ⟨a3, c3, rfl, hA3, hY⟩; rw [HBA.out]; have HA3 := Lib.hid hA3; have hSY : Below wqA.heap.size wqA wY := bnext (by assumption) hY; (try (have hbx : wY.heap[wqA.heap.size]? = some ZB := kb (new_drewM wqA ZB) hY; obtain ⟨y0, y1⟩ := acc_cells hbx; have zY : ∀ j, wY.frozen? ⟨wqA.heap.size, j, none⟩ = false := (fun j => blk_free hbx)))))
                                    all_goals
                                      go_wp2_with fail
                                      go_meet
                                    · exact ⟨wY.heap.size, a3, c3, rfl, rfl, heap_alloc_new wY _, HA3.out.below (bnew (brefl wY) _), bnew hSY _⟩
                                    · exact ⟨wqA.heap.size, a3, c3, rfl, rfl, st2_box hbx _ _, st2_acc HA3.out hbx _ _, st2_below hSY (Nat.le_refl _) _ _⟩
                                  case rest =>
                                    obtain ⟨b22, a3, c3, rfl, rfl, hbx, hA3, hb3⟩ := hcut
                                    obtain ⟨x0, x1⟩ := acc_cells hbx
                                    have HM3 := Lib.hid (HM.out.below hb3)
                                    obtain ⟨u0, u1, t0, t1⟩ := HM3.out.ab.there hnN
                                    have zA : ∀ j, wc.frozen? ⟨bA, j, none⟩ = false := (fun j => HM3.out.ab.free j)
                                    have HM4 := Lib.hid (HM3.out.acc hnN hA3)
                                    clear hbx hA3 hb3 hL1 hL2 hL3 hS
                                    go_upto_if 133 with fail
                                    clear x0 x1 t0 t1 zA HM3
                                    generalize ((wc.setCell ⟨bA, n * 2, none⟩ (.int .i64 0)).setCell ⟨bA, n * 2 + 1, none⟩ (.slice a3 S c3)) = Y at *
                                    cases ba with
                                    | false =>
                                      go_wp2_with fail
                                      go_meet
                                      have h := HM4.out
                                      rw [if_same (askG_no HBA.out)] at h
                                      exact ⟨gs, A, h, hI.out.skipA⟩
                                    | true =>
                                      obtain ⟨y0, y1, y2, y3⟩ := lv_cells HM4.out.la
                                      have HY5 : Hid (MI C N ta tb wz (PP t n) (PP t n) (fun _ => t + 1) (decide (ta < t + 1)) (decide (tb < t + 1)) cs gs A B) := hI
                                      have HFL : Hid (decide (ta < t + 1) = true) := decide_eq_true (by have := HQ.out; omega)
                                      have hyes : ∀ (a : Option Addr) (cp : Nat), grN C A n 0 1 = A.fn + 1 ∧ grF C A n 0 1 = A.fs ++ [(n : Int)] ∧ MI C N ta tb wz (PP t (n + 1)) (PP t n) (fun _ => t + 1) (decide (ta < t + 1)) (decide (tb < t + 1)) cs (fun j => if j = n then askG C 0 S (gs n) 0 0 1 ck else gs j) ⟨A.slot, A.nonce, A.asked, a, A.fn + 1, cp, A.fs ++ [(n : Int)]⟩ B := by
                                        intro a cp
                                        have h := hI.out
                                        rw [HFL.out] at h ⊢
                                        rw [← HCK.out]
                                        exact h.yesA HC.out HN.out hnN (by rw [HWV.out]; exact HQ.out) (ab_len HM.out.ab hnN hS1) (by rw [HCK.out]; exact HBA.out) a cp
                                      have h99 : A.fn ≤ 99 := by
                                        have h1 := hI.out.la.cnt
                                        have h2 := cnt_le C.nodes (inB A.fs)
                                        omega
                                      have HR := Lib.hid hI.out.la
                                      have HYES := Lib.hid hyes
                                      have hin : inI (n : Int) := by unfold inI; omega
                                      clear hyes
                                      go_wp2_with (first
                                        | (with_reducible refine wpList_load_cfg rfl _ rfl w.heap.size rfl C HM4.out.pc ?_)
                                        | (go_at_call 24; with_reducible refine (lgrant_b C A.slot A.nonce A.asked A.fa A.fn A.fc A.fs n 0 1 (A.fn + 1) (A.fs ++ [(n : Int)]) _ (HG.out.below HM4.out.bb) HM4.out.ra h99 HR.out.r0 HR.out.r1 HR.out.r2 hin (HYES.out none 0).1 (HYES.out none 0).2.1).mono ?_; rintro e wZ ⟨a9, c9, rfl, hr9, hZ, hp9⟩; have HM5 := Lib.hid (HM4.out.below hZ); have HR9 := Lib.hid hr9; have HP9 := Lib.hid hp9; obtain ⟨y0, y1, y2, y3⟩ := lv_cells HM5.out.la; have zY : ∀ j, wZ.frozen? ⟨bL, j, none⟩ = false := (fun j => blk_free HM5.out.la)))
                                      go_meet
                                      exact ⟨_, ⟨A.slot, A.nonce, A.asked, a9, A.fn + 1, c9, A.fs ++ [(n : Int)]⟩, HM5.out.leA ⟨A.slot, A.nonce, A.asked, a9, A.fn + 1, c9, A.fs ++ [(n : Int)]⟩ HR9.out (fun p q => by have := HP9.out p q; have := HM4.out.size; omega), (HYES.out a9 c9).2.2⟩
                                | false =>
                                  go_wp2_with fail
                                  go_meet
                                  exact ⟨gs, A, HM.out, hI.out.skipA⟩
                              case rest =>
                                obtain ⟨gs, A, hM, hI⟩ := hcut
                                have HM := Lib.hid hM
                                clear hM
                                have HIA := hI
                                obtain ⟨wv, hwv⟩ : ∃ wv, waitN wz (n + 9) = wv := ⟨_, rfl⟩
                                have hw20 : wv < 20 := by rw [← hwv]; exact waitN_lt _ _
                                have HWV := Lib.hid hwv
                                clear hwv
                                go_upto_region 38 with fail
                                obtain ⟨wo, rfl⟩ : ∃ wo : World, wo = wc := ⟨_, rfl⟩
                                obtain ⟨dd, hdd⟩ : ∃ b, decide (t = tb + wv) = b := ⟨_, rfl⟩
                                have HDD := Lib.hid hdd
                                clear hdd
                                go_cut [18, 150] (fun sf s116 wc => sf = .bool (decide (tb < t + 1)) ∧ s116 = .bool dd ∧ wc = wo)
                                case first =>
                                  by_cases hq : tb < t + 1
                                  · have dq : decide (tb < t + 1) = true := decide_eq_true hq
                                    have HT := HTB
                                    have hmod : askB' % 60 = (tb : Int) := HT.out
                                    go_wp2_with (go_at_call 37; with_reducible refine (wait9 wa wn wc' wz n _ (HWZ.out.below HM.out.bb) (by omega)).mono ?_; rintro e wY ⟨rfl, rfl⟩; rw [HWV.out])
                                    go_meet
                                    refine ⟨by rw [dq], ?_, rfl⟩
                                    rw [← HDD.out]
                                    congr 1
                                    rw [Bool.eq_iff_iff]; simp; try omega
                                  · have dq : decide (tb < t + 1) = false := decide_eq_false hq
                                    go_wp2_with fail
                                    go_meet
                                    refine ⟨by rw [dq], ?_, rfl⟩
                                    rw [← HDD.out, show decide (t = tb + wv) = false from decide_eq_false (by omega)]
                                case rest =>
                                  obtain ⟨rfl, rfl, rfl⟩ := hcut
                                  obtain ⟨wqB, rfl⟩ : ∃ wq : World, wq = wc := ⟨_, rfl⟩
                                  go_upto_if 150 with fail
                                  as_aux_lemma =>
                                    cases dd with
                                    | true =>
                                      have HQ : Hid (t = tb + wv) := Lib.hid (of_decide_eq_true HDD.out)
                                      obtain ⟨ck, hck⟩ : ∃ ck, cs.getD n 0 = ck := ⟨_, rfl⟩
                                      obtain ⟨ad, cap, t0, t1, hA⟩ := HM.out.ab.cells hnN
                                      have q0 := blk_cell HM.out.cl (j := n) (by rw [hI.out.len]; omega)
                                      have hrg := hI.out.rng n hnN
                                      rw [hck] at q0 hrg
                                      have hick : inI ck := by unfold inI; omega
                                      have hpc := HM.out.pc
                                      have hL1 : ∀ W, Below wqB.heap.size wqB W → W.cell? ⟨w.heap.size, 0, none⟩ = some (.int .i64 C.nodes) ∧ W.cell? ⟨w.heap.size, 1, none⟩ = some (.int .i64 C.slots) ∧ W.cell? ⟨w.heap.size, 2, none⟩ = some (.int .i64 C.rho) ∧ W.cell? ⟨w.heap.size, 3, none⟩ = some (.int .i64 C.hold) ∧ W.cell? ⟨w.heap.size, 4, none⟩ = some (.int .i64 C.grant) ∧ W.cell? ⟨w.heap.size, 5, none⟩ = some (.int .i64 C.guard) ∧ W.cell? ⟨w.heap.size, 6, none⟩ = some (.int .i64 C.work) ∧ W.cell? ⟨w.heap.size, 7, none⟩ = some (.slice C.sa C.sn C.sc) ∧ W.cell? ⟨w.heap.size, 8, none⟩ = some (.slice C.na C.nn C.nc) ∧ W.cell? ⟨w.heap.size, 9, none⟩ = some (.int .i64 C.soak) ∧ W.cell? ⟨w.heap.size, 10, none⟩ = some (.int .i64 C.pass) := fun W q => cfg_cells2 ((q.block _ (lt_of_block hpc)).trans hpc)
                                      have hL2 : ∀ W, Below wqB.heap.size wqB W → W.cell? ⟨bA, n * 2, none⟩ = some (.int .i64 0) ∧ W.cell? ⟨bA, n * 2 + 1, none⟩ = some (.slice ad S cap) := fun W q => ⟨(q.cell (block_lt_of_cell t0)).trans t0, (q.cell (block_lt_of_cell t1)).trans t1⟩
                                      have hL3 : ∀ W, Below wqB.heap.size wqB W → W.cell? ⟨bC, n, none⟩ = some (.int .i64 ck) := fun W q => (q.cell (block_lt_of_cell q0)).trans q0
                                      have FG : Hid (∀ W, Below wqB.heap.size wqB W → Good W C) := fun W q => (HG.out.below HM.out.bb).below q
                                      have FA : Hid (∀ W, Below wqB.heap.size wqB W → Acc W ad S cap (gs n)) := fun W q => hA.below q
                                      obtain ⟨ba, hba⟩ : ∃ b, askB C 0 S (gs n) 0 1 1 ck = b := ⟨_, rfl⟩
                                      have HBA := Lib.hid hba
                                      have HCK := Lib.hid hck
                                      have hS : Below wqB.heap.size wqB wqB := Below.refl _ _
                                      have b9 : (n : Int) < 9 := by omega
                                      clear hrg q0 t0 t1 hA hpc hba hck m0
                                      go_upto_region 39 with fail
                                      go_cut [24, 25] (fun s22 s23 wc => ∃ (b22 : Nat) (a3 : Option Addr) (c3 : Nat), s22 = .pointer (some ⟨b22, 0, none⟩) ∧ s23 = .bool ba ∧ wc.heap[b22]? = some (.cells #[Value.int .i64 0, Value.slice a3 S c3] 30 (0, 0)) ∧ Acc wc a3 S c3 (askG C 0 S (gs n) 0 1 1 ck) ∧ Below wqB.heap.size wqB wc)
                                      case first =>
                                        go_region_held3 (fun W : World => Below wqB.heap.size wqB W) (first | assumption | exact hS.drew | exact Below.drew (by assumption) | exact bnext (by assumption) hY | exact bnew (by assumption) _ | exact st2_below (by assumption) (hSY.size) _ _ | exact st2_below (by assumption) (Nat.le_refl _) _ _) (first | (go_at_call 15; with_reducible refine (ask_any C 0 ad S cap (gs n) 0 1 1 ck _ (FG.out _ (by assumption)) (FA.out _ (by assumption)) inI1 inI1 hick).mono ?_; rintro e wY ⟨a3, c3, rfl, hA3, hY⟩; rw [HBA.out]; have HA3 := Lib.hid hA3; have hSY : Below wqB.heap.size wqB wY := bnext (by assumption) hY; (try (have hbx : wY.heap[wqB.heap.size]? = some ZB := kb (new_drewM wqB ZB) hY; obtain ⟨y0, y1⟩ := acc_cells hbx; have zY : ∀ j, wY.frozen? ⟨wqB.heap.size, j, none⟩ = false := (fun j => blk_free hbx)))))
                                        all_goals
                                          go_wp2_with fail
                                          go_meet
                                        · exact ⟨wY.heap.size, a3, c3, rfl, rfl, heap_alloc_new wY _, HA3.out.below (bnew (brefl wY) _), bnew hSY _⟩
                                        · exact ⟨wqB.heap.size, a3, c3, rfl, rfl, st2_box hbx _ _, st2_acc HA3.out hbx _ _, st2_below hSY (Nat.le_refl _) _ _⟩
                                      case rest =>
                                        obtain ⟨b22, a3, c3, rfl, rfl, hbx, hA3, hb3⟩ := hcut
                                        obtain ⟨x0, x1⟩ := acc_cells hbx
                                        have HM3 := Lib.hid (HM.out.below hb3)
                                        obtain ⟨u0, u1, t0, t1⟩ := HM3.out.ab.there hnN
                                        have zA : ∀ j, wc.frozen? ⟨bA, j, none⟩ = false := (fun j => HM3.out.ab.free j)
                                        have HM4 := Lib.hid (HM3.out.acc hnN hA3)
                                        clear hbx hA3 hb3 hL1 hL2 hL3 hS
                                        go_upto_if 167 with fail
                                        clear x0 x1 t0 t1 zA HM3
                                        generalize ((wc.setCell ⟨bA, n * 2, none⟩ (.int .i64 0)).setCell ⟨bA, n * 2 + 1, none⟩ (.slice a3 S c3)) = Y at *
                                        cases ba with
                                        | false =>
                                          go_wp2_with fail
                                          have h : Hid _ := Lib.hid HM4.out
                                          rw [if_same (askG_no HBA.out)] at h
                                          go_roundw
                                          case rel => exact ⟨n + 1, gs, A, B, by omega, by go_num, h.out, hI.out.skipB⟩
                                          case measure => simp [intOf]; omega
                                        | true =>
                                          obtain ⟨y0, y1, y2, y3⟩ := lv_cells HM4.out.lb
                                          have HY5 : Hid (MI C N ta tb wz (PP t (n + 1)) (PP t n) (fun _ => t + 1) (decide (ta < t + 1)) (decide (tb < t + 1)) cs gs A B) := hI
                                          have HFL : Hid (decide (tb < t + 1) = true) := decide_eq_true (by have := HQ.out; omega)
                                          have hyes : ∀ (a : Option Addr) (cp : Nat), grN C B n 0 1 = B.fn + 1 ∧ grF C B n 0 1 = B.fs ++ [(n : Int)] ∧ MI C N ta tb wz (PP t (n + 1)) (PP t (n + 1)) (fun _ => t + 1) (decide (ta < t + 1)) (decide (tb < t + 1)) cs (fun j => if j = n then askG C 0 S (gs n) 0 1 1 ck else gs j) A ⟨B.slot, B.nonce, B.asked, a, B.fn + 1, cp, B.fs ++ [(n : Int)]⟩ := by
                                            intro a cp
                                            have h := hI.out
                                            rw [HFL.out] at h ⊢
                                            rw [← HCK.out]
                                            exact h.yesB HC.out HN.out hnN (by rw [HWV.out]; exact HQ.out) (ab_len HM.out.ab hnN hS1) (by rw [HCK.out]; exact HBA.out) a cp
                                          have h99 : B.fn ≤ 99 := by
                                            have h1 := hI.out.lb.cnt
                                            have h2 := cnt_le C.nodes (inB B.fs)
                                            omega
                                          have HR := Lib.hid hI.out.lb
                                          have HYES := Lib.hid hyes
                                          have hin : inI (n : Int) := by unfold inI; omega
                                          clear hyes
                                          go_wp2_with (first
                                            | (with_reducible refine wpList_load_cfg rfl _ rfl w.heap.size rfl C HM4.out.pc ?_)
                                            | (go_at_call 24; with_reducible refine (lgrant_b C B.slot B.nonce B.asked B.fa B.fn B.fc B.fs n 0 1 (B.fn + 1) (B.fs ++ [(n : Int)]) _ (HG.out.below HM4.out.bb) HM4.out.rb h99 HR.out.r0 HR.out.r1 HR.out.r2 hin (HYES.out none 0).1 (HYES.out none 0).2.1).mono ?_; rintro e wZ ⟨a9, c9, rfl, hr9, hZ, hp9⟩; have HM5 := Lib.hid (HM4.out.below hZ); have HR9 := Lib.hid hr9; have HP9 := Lib.hid hp9; obtain ⟨y0, y1, y2, y3⟩ := lv_cells HM5.out.lb; have zY : ∀ j, wZ.frozen? ⟨bL + 1, j, none⟩ = false := (fun j => blk_free HM5.out.lb)))
                                          go_roundw
                                          case rel => exact ⟨n + 1, _, A, ⟨B.slot, B.nonce, B.asked, a9, B.fn + 1, c9, B.fs ++ [(n : Int)]⟩, by omega, by go_num, HM5.out.leB ⟨B.slot, B.nonce, B.asked, a9, B.fn + 1, c9, B.fs ++ [(n : Int)]⟩ HR9.out (fun p q => by have := HP9.out p q; have := HM4.out.size; omega), (HYES.out a9 c9).2.2⟩
                                          case measure => simp [intOf]; omega
                                    | false =>
                                      go_wp2_with fail
                                      go_roundw
                                      case rel => exact ⟨n + 1, gs, A, B, by omega, by go_num, HM.out, hI.out.skipB⟩
                                      case measure => simp [intOf]; omega
                          · skip
                            obtain rfl : N = n := by omega
                            go_upto_region 43 with fail
                            have HJ := Lib.hid (mi_pp2 h2 hI.out)
                            clear hI
                            obtain ⟨c0, hc0⟩ : ∃ c, cs.getD 0 0 = c := ⟨_, rfl⟩
                            obtain ⟨c1, hc1⟩ : ∃ c, cs.getD 1 0 = c := ⟨_, rfl⟩
                            have q0 := blk_cell HM.out.cl (j := 0) (by rw [HJ.out.len]; omega)
                            have q1 := blk_cell HM.out.cl (j := 1) (by rw [HJ.out.len]; omega)
                            rw [hc0] at q0
                            rw [hc1] at q1
                            have HC0 := Lib.hid hc0
                            have HC1 := Lib.hid hc1
                            have HLA := Lib.hid HJ.out.la
                            have HLB := Lib.hid HJ.out.lb
                            have h99a : A.fn ≤ 99 := by
                              have h1 := HLA.out.cnt
                              have h2 := cnt_le C.nodes (inB A.fs)
                              omega
                            have h99b : B.fn ≤ 99 := by
                              have h1 := HLB.out.cnt
                              have h2 := cnt_le C.nodes (inB B.fs)
                              omega
                            obtain ⟨y0, y1, y2, y3⟩ := lv_cells HM.out.la
                            obtain ⟨z0, z1, z2, z3⟩ := lv_cells HM.out.lb
                            obtain ⟨fa, hfa⟩ : ∃ b, decide (ta < t + 1) = b := ⟨_, rfl⟩
                            obtain ⟨fb, hfb⟩ : ∃ b, decide (tb < t + 1) = b := ⟨_, rfl⟩
                            obtain ⟨ha, hha⟩ : ∃ b, heldB C A c0 = b := ⟨_, rfl⟩
                            obtain ⟨hb, hhb⟩ : ∃ b, heldB C B c1 = b := ⟨_, rfl⟩
                            have hnot : ¬ (fa = true ∧ fb = true ∧ ha = true ∧ hb = true) := by
                              rintro ⟨r0, r1, r2, r3⟩
                              have h := HJ.out
                              rw [hfa, hfb, r0, r1] at h
                              exact h.never HC.out HN.out (by rw [hc0, hha, r2]) (by rw [hc1, hhb, r3])
                            have HFA := Lib.hid hfa
                            have HFB := Lib.hid hfb
                            have HHA := Lib.hid hha
                            have HHB := Lib.hid hhb
                            obtain ⟨k0, k1, k2, k3, k4, k5, k6, k7, k8, k9, k10⟩ := cfg_cells2 HM.out.pc
                            clear hc0 hc1 hha hhb m0
                            rw [hfa, hfb]
                            clear hfa hfb
                            have hcases : (fa = false ∧ True) ∨ (fa = true ∧ fb = false) ∨ (fa = true ∧ fb = true ∧ ha = false) ∨ (fa = true ∧ fb = true ∧ ha = true ∧ hb = false) := by
                              cases fa <;> cases fb <;> cases ha <;> cases hb <;> simp_all
                            clear hnot
                            rcases hcases with ⟨rfl, _⟩ | ⟨rfl, rfl⟩ | ⟨rfl, rfl, rfl⟩ | ⟨rfl, rfl, rfl, rfl⟩
                            · as_aux_lemma =>
                              go_wp2_with fail
                              go_roundw
                              case rel => exact ⟨t + 1, cs, gs, A, B, by omega, by go_num, by rw [HFA.out], by rw [HFB.out], HM.out, HJ⟩
                              case measure => simp [intOf]; omega
                            · as_aux_lemma =>
                              go_wp2_with fail
                              go_roundw
                              case rel => exact ⟨t + 1, cs, gs, A, B, by omega, by go_num, by rw [HFA.out], by rw [HFB.out], HM.out, HJ⟩
                              case measure => simp [intOf]; omega
                            · as_aux_lemma =>
                              go_wp2_with (first
                                | (go_at_call 27; with_reducible refine (lheld_b C A.slot A.nonce A.asked A.fa A.fn A.fc A.fs c0 false _ (HG.out.below HM.out.bb) HM.out.ra h99a HLA.out.r0 HLA.out.r1 HLA.out.r2 HHA.out).mono ?_; rintro e wY ⟨rfl, hY⟩; have HM := Lib.hid (HM.out.below hY); have q1 := (hY.cell (block_lt_of_cell q1)).trans q1; obtain ⟨k0, k1, k2, k3, k4, k5, k6, k7, k8, k9, k10⟩ := cfg_cells2 HM.out.pc; obtain ⟨z0, z1, z2, z3⟩ := lv_cells HM.out.lb))
                              go_roundw
                              case rel => exact ⟨t + 1, cs, gs, A, B, by omega, by go_num, by rw [HFA.out], by rw [HFB.out], HM.out, HJ⟩
                              case measure => simp [intOf]; omega
                            · as_aux_lemma =>
                              go_wp2_with (first
                                | (go_at_call 27; with_reducible refine (lheld_b C A.slot A.nonce A.asked A.fa A.fn A.fc A.fs c0 true _ (HG.out.below HM.out.bb) HM.out.ra h99a HLA.out.r0 HLA.out.r1 HLA.out.r2 HHA.out).mono ?_; rintro e wY ⟨rfl, hY⟩; have HM := Lib.hid (HM.out.below hY); have q1 := (hY.cell (block_lt_of_cell q1)).trans q1; obtain ⟨k0, k1, k2, k3, k4, k5, k6, k7, k8, k9, k10⟩ := cfg_cells2 HM.out.pc; obtain ⟨z0, z1, z2, z3⟩ := lv_cells HM.out.lb)
                                | (go_at_call 27; with_reducible refine (lheld_b C B.slot B.nonce B.asked B.fa B.fn B.fc B.fs c1 false _ (HG.out.below HM.out.bb) HM.out.rb h99b HLB.out.r0 HLB.out.r1 HLB.out.r2 HHB.out).mono ?_; rintro e wY2 ⟨rfl, hY2⟩; have HM := Lib.hid (HM.out.below hY2)))
                              go_roundw
                              case rel => exact ⟨t + 1, cs, gs, A, B, by omega, by go_num, by rw [HFA.out], by rw [HFB.out], HM.out, HJ⟩
                              case measure => simp [intOf]; omega
              · obtain ⟨m0, _⟩ := cfg_cells2 hM.pc
                have HB := Lib.hid hM.bb
                clear hM
                go_wp2_with fail
                go_ret
                exact ⟨rfl, HB.out⟩
      · have d2 : decide ((N : Int) < 2) = true := decide_eq_true (by omega)
        go_enter Try.func10, Try.ntmps10
        go_wp2_with (first
          | (with_reducible refine wpList_load_cfg rfl _ rfl w.heap.size rfl C hBc ?_)
          | (go_at_call 22; refine (lawake_true _).mono ?_; rintro e wX ⟨rfl, hX⟩; have hbc := bnext hbc hX; have hBc := kb hBc hX)
          | (go_at_call 12; refine (few_any C _ (HG.out.below hbc)).mono ?_; rintro e wX ⟨rfl, hX⟩; have hbc := bnext hbc hX; have hBc := kb hBc hX; rw [HF.out])
          | (go_at_call 20; with_reducible refine (check_any C _ (HG.out.below hbc)).mono ?_; rintro e wX ⟨rfl, hX⟩; have hbc := bnext hbc hX; have hBc := kb hBc hX; rw [HK.out]; have hBcX := hBc; obtain ⟨m0, _⟩ := cfg_cells2 hBc; rw [HN.out] at m0; have ma0 := (fun o => cell_alloc (o := o) m0)))
        go_ret
        exact ⟨rfl, hbc⟩
    · have HK : Hid (chkI C = 90) := by show chkI C = 90; unfold chkI; rw [if_neg hc]
      clear hc
      go_enter Try.func10, Try.ntmps10
      go_wp2_with (first
        | (with_reducible refine wpList_load_cfg rfl _ rfl w.heap.size rfl C hBc ?_)
        | (go_at_call 22; refine (lawake_true _).mono ?_; rintro e wX ⟨rfl, hX⟩; have hbc := bnext hbc hX; have hBc := kb hBc hX)
        | (go_at_call 12; refine (few_any C _ (HG.out.below hbc)).mono ?_; rintro e wX ⟨rfl, hX⟩; have hbc := bnext hbc hX; have hBc := kb hBc hX; rw [HF.out])
        | (go_at_call 20; with_reducible refine (check_any C _ (HG.out.below hbc)).mono ?_; rintro e wX ⟨rfl, hX⟩; have hbc := bnext hbc hX; have hBc := kb hBc hX; rw [HK.out]))
      go_ret
      exact ⟨rfl, hbc⟩
  · have HF : Hid (fewB C = false) := by show _ = _; simpa using hf
    clear hf
    go_enter Try.func10, Try.ntmps10
    go_wp2_with (first
      | (with_reducible refine wpList_load_cfg rfl _ rfl w.heap.size rfl C hBc ?_)
      | (go_at_call 22; refine (lawake_true _).mono ?_; rintro e wX ⟨rfl, hX⟩; have hbc := bnext hbc hX; have hBc := kb hBc hX)
      | (go_at_call 12; refine (few_any C _ (HG.out.below hbc)).mono ?_; rintro e wX ⟨rfl, hX⟩; have hbc := bnext hbc hX; have hBc := kb hBc hX; rw [HF.out])
      | (go_at_call 20; with_reducible refine (check_any C _ (HG.out.below hbc)).mono ?_; rintro e wX ⟨rfl, hX⟩; have hbc := bnext hbc hX; have hBc := kb hBc hX; rw [HK.out]))
    go_ret
    exact ⟨rfl, hbc⟩
end Go.Proofs.Ytmhggpmhekeemaa
