/- The walk of GrantBack: true, and nothing that was there has changed. -/
import Derived.Test.YtmhggpmhekeemaaBackLaw
namespace Go.Proofs.Ytmhggpmhekeemaa
open Go.RowKit
theorem wrap_small {x : Int} (h0 : 0 ≤ x) (h1 : x ≤ 4611686018427387904) : IntKind.i64.wrap x = x := by
  have e : IntKind.i64.bits = 64 := rfl
  unfold IntKind.wrap
  rw [e]
  have e2 : (2 : Int) ^ 64 = 18446744073709551616 := by decide
  have e3 : (2 : Int) ^ (64 - 1) = 9223372036854775808 := by decide
  rw [e2, e3, Int.emod_eq_of_lt h0 (by omega)]
  show (if (IntKind.i64.signed && decide (x ≥ 9223372036854775808)) = true then x - 18446744073709551616 else x) = x
  rw [decide_eq_false (show ¬ x ≥ 9223372036854775808 by omega), Bool.and_false]
  rfl
theorem p_new (C : Cv) (S : Nat) (hS : C.slots = (S : Int)) (w : World) (hc : chk C = true) (hG : Good w C) :
    Calls Try.prog 13 #[.agg C.cells, .int .i64 0] w fun e w' => ∃ ad cap, e = .returned (.agg #[.int .i64 0, .slice ad S cap]) ∧ Acc w' ad S cap (List.replicate S gnone) ∧ Below w.heap.size w w' := by
  have h := new_yes C 0 w hG hc
  rw [show C.slots.toNat = S by omega] at h
  exact h
set_option maxRecDepth 100000 in
set_option maxHeartbeats 8000000 in
theorem walk_GrantBack (C : Cv) (s a b n ah : Int) (w : World) (w0 : Good w C) (w1 : (Lit.int .u8 s).wf = true) (w2 : (Lit.int .u8 a).wf = true) (w3 : (Lit.int .u8 b).wf = true) (w4 : (Lit.int .u16 n).wf = true) (w5 : (Lit.int .u32 ah).wf = true) :
    Calls Try.prog 5 #[.agg C.cells, .int .u8 s, .int .u8 a, .int .u8 b, .int .u16 n, .int .u32 ah] w fun e w' => e = .returned (.bool true) ∧ Below w.heap.size w w' := by
  have HG := Lib.hid w0
  have r1 : 0 ≤ s ∧ s ≤ 255 := by
    simp only [Lit.wf, Bool.and_eq_true, decide_eq_true_eq] at w1
    have h1 : IntKind.u8.min = 0 := rfl
    have h2 : IntKind.u8.max = 255 := rfl
    omega
  have r2 : 0 ≤ a ∧ a ≤ 255 := by
    simp only [Lit.wf, Bool.and_eq_true, decide_eq_true_eq] at w2
    have h1 : IntKind.u8.min = 0 := rfl
    have h2 : IntKind.u8.max = 255 := rfl
    omega
  have r3 : 0 ≤ b ∧ b ≤ 255 := by
    simp only [Lit.wf, Bool.and_eq_true, decide_eq_true_eq] at w3
    have h1 : IntKind.u8.min = 0 := rfl
    have h2 : IntKind.u8.max = 255 := rfl
    omega
  have r4 : 0 ≤ n ∧ n ≤ 65535 := by
    simp only [Lit.wf, Bool.and_eq_true, decide_eq_true_eq] at w4
    have h1 : IntKind.u16.min = 0 := rfl
    have h2 : IntKind.u16.max = 65535 := rfl
    omega
  have r5 : 0 ≤ ah ∧ ah ≤ 4294967295 := by
    simp only [Lit.wf, Bool.and_eq_true, decide_eq_true_eq] at w5
    have h1 : IntKind.u32.min = 0 := rfl
    have h2 : IntKind.u32.max = 4294967295 := rfl
    omega
  clear w0 w1 w2 w3 w4 w5
  have hbc := bnew (brefl w) (Obj.cells C.cells 24)
  have hBc := heap_alloc_new w (Obj.cells C.cells 24)
  by_cases hf : fewB C = true
  · have HF := Lib.hid hf
    by_cases hk : chk C = true
    · have HK : Hid (chkI C = 0) := by show chkI C = 0; unfold chkI; rw [if_pos hk]
      have HC := Lib.hid hk
      have hcf := chk_facts hk
      obtain ⟨S, hS⟩ : ∃ S : Nat, C.slots = (S : Int) := ⟨C.slots.toNat, by omega⟩
      have HS := Lib.hid hS
      have g1 : 1 ≤ C.nodes := hcf.1.1
      have g2 : C.nodes ≤ 9 := hcf.1.2
      have g3 : 1 ≤ C.slots := hcf.2.1.1
      have g4 : C.slots ≤ 9 := by omega
      have g5 : 1 ≤ C.grant := hcf.2.2.2.2.1.1
      have g6 : C.grant ≤ 1073741824 := hcf.2.2.2.2.1.2
      clear hcf hS hk hf
      go_enter Try.func5, Try.ntmps5
      go_wp2_with (first
        | (with_reducible refine wpList_load_cfg rfl _ rfl w.heap.size rfl C hBc ?_)
        | (go_at_call 11; refine (gawake_true _).mono ?_; rintro e wX ⟨rfl, hX⟩; have hbc := bnext hbc hX; have hBc := (hX.block _ (lt_of_block hBc)).trans hBc)
        | (go_at_call 12; refine (few_any C _ (HG.out.below hbc)).mono ?_; rintro e wX ⟨rfl, hX⟩; have hbc := bnext hbc hX; have hBc := (hX.block _ (lt_of_block hBc)).trans hBc; rw [HF.out])
        | (go_at_call 20; refine (check_any C _ (HG.out.below hbc)).mono ?_; rintro e wX ⟨rfl, hX⟩; have hbc := bnext hbc hX; have hBc := (hX.block _ (lt_of_block hBc)).trans hBc; rw [HK.out]; obtain ⟨m0, m1, _, _, m4, _⟩ := cfg_cells2 hBc)
        | (go_at_call 13; with_reducible refine (p_new C S HS.out _ HC.out (HG.out.below hbc)).mono ?_; rintro e w1 ⟨ad1, cap1, rfl, hA1, hb1⟩; have hbc := bnew (bnext hbc hb1) (Obj.cells #[Value.int .i64 0, Value.slice ad1 S cap1] 30); have hBc := ka (kb hBc hb1) (Obj.cells #[Value.int .i64 0, Value.slice ad1 S cap1] 30); obtain ⟨m0, m1, _, _, m4, _⟩ := cfg_cells2 hBc; have hX1 := heap_alloc_new w1 (Obj.cells #[Value.int .i64 0, Value.slice ad1 S cap1] 30); have hA1 := hA1.below (bnew (brefl w1) (Obj.cells #[Value.int .i64 0, Value.slice ad1 S cap1] 30)); obtain ⟨x1, y1⟩ := acc_cells hX1; clear hb1))
      have hs0 : 0 ≤ s % C.slots := Int.emod_nonneg _ (by omega)
      have hs1 : s % C.slots < C.slots := Int.emod_lt_of_pos _ (by omega)
      have ho0 : 0 ≤ a % C.nodes := Int.emod_nonneg _ (by omega)
      have ho1 : a % C.nodes < C.nodes := Int.emod_lt_of_pos _ (by omega)
      have ht0 : 0 ≤ b % C.nodes := Int.emod_nonneg _ (by omega)
      have ht1 : b % C.nodes < C.nodes := Int.emod_lt_of_pos _ (by omega)
      have hw0 : C.grant ≤ C.grant + ah := by omega
      have hw1 : C.grant + ah < 6000000000 := by omega
      generalize s % C.slots = sl at *
      generalize a % C.nodes = one at *
      generalize b % C.nodes = two at *
      generalize C.grant + ah = now at *
      have I1 : inI one := by unfold inI; omega
      have I2 : inI two := by unfold inI; omega
      have IN : inI n := by unfold inI; omega
      have J0 : inI now := by unfold inI; omega
      have J1 : inI (now + 1) := by unfold inI; omega
      have J2 : inI (C.grant - 1) := by unfold inI; omega
      obtain ⟨f1, f2, f3, f4, f5, f6, f7, f8⟩ := backFacts HC.out HS.out ⟨hs0, hs1⟩ ⟨ho0, ho1⟩ ⟨ht0, ht1⟩ r4.1 (now := now) ⟨hw0, by omega⟩
      generalize hG0 : List.replicate S gnone = G0 at f1 f2 f3 f4 f5 f6 f7 f8 hA1
      generalize hG1 : G0.set sl.toNat ⟨one, n, now⟩ = G1 at f2 f3 f4 f5 f7 f8
      generalize hGF : G1.set sl.toNat gnone = GF at f3 f4 f7
      generalize hGW : GF.set sl.toNat ⟨two, n, now + 1⟩ = GW at f7
      have F1 := Lib.hid f1
      have F2 := Lib.hid f2
      have F3 := Lib.hid f3
      have F4 := Lib.hid f4
      have F5 := Lib.hid f5
      have F6 := Lib.hid f6
      have F7 := Lib.hid f7
      have F8 := Lib.hid f8
      have F1g := Lib.hid ((askG_yes f1).trans hG1)
      have F2g := Lib.hid (askG_no f2)
      have F4g := Lib.hid ((askG_yes f4).trans hGW)
      have F6g := Lib.hid (askG_no f6)
      clear f1 f2 f3 f4 f5 f6 f7 f8 hG0 hG1 hGF hGW
      go_wp2_with (first
        | (with_reducible refine wpList_load_cfg rfl _ rfl w.heap.size rfl C hBc ?_)
        | (go_at_call 15; with_reducible refine (ask_b C 0 _ S _ G0 G1 sl one n (now) true _ F1.out F1g.out (HG.out.below hbc) hA1 I1 IN (by exact J0)).mono ?_; rintro e w2 ⟨ad2, cap2, rfl, hA2, hb2⟩; have hbc := bnew (bnext hbc hb2) (Obj.cells #[Value.int .i64 0, Value.slice ad2 S cap2] 30); have hBc := ka (kb hBc hb2) (Obj.cells #[Value.int .i64 0, Value.slice ad2 S cap2] 30); obtain ⟨m0, m1, _, _, m4, _⟩ := cfg_cells2 hBc; have hX1 := ka (kb hX1 hb2) (Obj.cells #[Value.int .i64 0, Value.slice ad2 S cap2] 30); have hA1 := (hA1.below hb2).below (bnew (brefl w2) (Obj.cells #[Value.int .i64 0, Value.slice ad2 S cap2] 30)); obtain ⟨x1, y1⟩ := acc_cells hX1; have hX2 := heap_alloc_new w2 (Obj.cells #[Value.int .i64 0, Value.slice ad2 S cap2] 30); have hA2 := hA2.below (bnew (brefl w2) (Obj.cells #[Value.int .i64 0, Value.slice ad2 S cap2] 30)); obtain ⟨x2, y2⟩ := acc_cells hX2; clear hb2)
        | (go_at_call 15; with_reducible refine (ask_b C 0 _ S _ G1 G1 sl two n (now + 1) false _ F2.out F2g.out (HG.out.below hbc) hA2 I2 IN (by exact J1)).mono ?_; rintro e w3 ⟨ad3, cap3, rfl, hA3, hb3⟩; have hbc := bnew (bnext hbc hb3) (Obj.cells #[Value.int .i64 0, Value.slice ad3 S cap3] 30); have hBc := ka (kb hBc hb3) (Obj.cells #[Value.int .i64 0, Value.slice ad3 S cap3] 30); obtain ⟨m0, m1, _, _, m4, _⟩ := cfg_cells2 hBc; have hX1 := ka (kb hX1 hb3) (Obj.cells #[Value.int .i64 0, Value.slice ad3 S cap3] 30); have hA1 := (hA1.below hb3).below (bnew (brefl w3) (Obj.cells #[Value.int .i64 0, Value.slice ad3 S cap3] 30)); obtain ⟨x1, y1⟩ := acc_cells hX1; have hX2 := ka (kb hX2 hb3) (Obj.cells #[Value.int .i64 0, Value.slice ad3 S cap3] 30); have hA2 := (hA2.below hb3).below (bnew (brefl w3) (Obj.cells #[Value.int .i64 0, Value.slice ad3 S cap3] 30)); obtain ⟨x2, y2⟩ := acc_cells hX2; have hX3 := heap_alloc_new w3 (Obj.cells #[Value.int .i64 0, Value.slice ad3 S cap3] 30); have hA3 := hA3.below (bnew (brefl w3) (Obj.cells #[Value.int .i64 0, Value.slice ad3 S cap3] 30)); obtain ⟨x3, y3⟩ := acc_cells hX3; clear hb3)
        | (go_at_call 17; with_reducible refine (free_b C 0 _ S _ G1 GF sl one n _ F3.out (HG.out.below hbc) hA2).mono ?_; rintro e w4 ⟨ad4, cap4, rfl, hA4, hb4⟩; have hbc := bnew (bnext hbc hb4) (Obj.cells #[Value.int .i64 0, Value.slice ad4 S cap4] 30); have hBc := ka (kb hBc hb4) (Obj.cells #[Value.int .i64 0, Value.slice ad4 S cap4] 30); obtain ⟨m0, m1, _, _, m4, _⟩ := cfg_cells2 hBc; have hX1 := ka (kb hX1 hb4) (Obj.cells #[Value.int .i64 0, Value.slice ad4 S cap4] 30); have hA1 := (hA1.below hb4).below (bnew (brefl w4) (Obj.cells #[Value.int .i64 0, Value.slice ad4 S cap4] 30)); obtain ⟨x1, y1⟩ := acc_cells hX1; have hX2 := ka (kb hX2 hb4) (Obj.cells #[Value.int .i64 0, Value.slice ad4 S cap4] 30); have hA2 := (hA2.below hb4).below (bnew (brefl w4) (Obj.cells #[Value.int .i64 0, Value.slice ad4 S cap4] 30)); obtain ⟨x2, y2⟩ := acc_cells hX2; have hX3 := ka (kb hX3 hb4) (Obj.cells #[Value.int .i64 0, Value.slice ad4 S cap4] 30); have hA3 := (hA3.below hb4).below (bnew (brefl w4) (Obj.cells #[Value.int .i64 0, Value.slice ad4 S cap4] 30)); obtain ⟨x3, y3⟩ := acc_cells hX3; have hX4 := heap_alloc_new w4 (Obj.cells #[Value.int .i64 0, Value.slice ad4 S cap4] 30); have hA4 := hA4.below (bnew (brefl w4) (Obj.cells #[Value.int .i64 0, Value.slice ad4 S cap4] 30)); obtain ⟨x4, y4⟩ := acc_cells hX4; clear hb4)
        | (go_at_call 15; with_reducible refine (ask_b C 0 _ S _ GF GW sl two n (now + 1) true _ F4.out F4g.out (HG.out.below hbc) hA4 I2 IN (by exact J1)).mono ?_; rintro e w5 ⟨ad5, cap5, rfl, hA5, hb5⟩; have hbc := bnew (bnext hbc hb5) (Obj.cells #[Value.int .i64 0, Value.slice ad5 S cap5] 30); have hBc := ka (kb hBc hb5) (Obj.cells #[Value.int .i64 0, Value.slice ad5 S cap5] 30); obtain ⟨m0, m1, _, _, m4, _⟩ := cfg_cells2 hBc; have hX1 := ka (kb hX1 hb5) (Obj.cells #[Value.int .i64 0, Value.slice ad5 S cap5] 30); have hA1 := (hA1.below hb5).below (bnew (brefl w5) (Obj.cells #[Value.int .i64 0, Value.slice ad5 S cap5] 30)); obtain ⟨x1, y1⟩ := acc_cells hX1; have hX2 := ka (kb hX2 hb5) (Obj.cells #[Value.int .i64 0, Value.slice ad5 S cap5] 30); have hA2 := (hA2.below hb5).below (bnew (brefl w5) (Obj.cells #[Value.int .i64 0, Value.slice ad5 S cap5] 30)); obtain ⟨x2, y2⟩ := acc_cells hX2; have hX3 := ka (kb hX3 hb5) (Obj.cells #[Value.int .i64 0, Value.slice ad5 S cap5] 30); have hA3 := (hA3.below hb5).below (bnew (brefl w5) (Obj.cells #[Value.int .i64 0, Value.slice ad5 S cap5] 30)); obtain ⟨x3, y3⟩ := acc_cells hX3; have hX4 := ka (kb hX4 hb5) (Obj.cells #[Value.int .i64 0, Value.slice ad5 S cap5] 30); have hA4 := (hA4.below hb5).below (bnew (brefl w5) (Obj.cells #[Value.int .i64 0, Value.slice ad5 S cap5] 30)); obtain ⟨x4, y4⟩ := acc_cells hX4; have hX5 := heap_alloc_new w5 (Obj.cells #[Value.int .i64 0, Value.slice ad5 S cap5] 30); have hA5 := hA5.below (bnew (brefl w5) (Obj.cells #[Value.int .i64 0, Value.slice ad5 S cap5] 30)); obtain ⟨x5, y5⟩ := acc_cells hX5; clear hb5))
      generalize w5.alloc (Obj.cells #[Value.int .i64 0, Value.slice ad5 S cap5] 30) = X at *
      have HX1 := Lib.hid hX1
      have HX2 := Lib.hid hX2
      have HX5 := Lib.hid hX5
      have HA1 := Lib.hid hA1
      have HA2 := Lib.hid hA2
      have HA5 := Lib.hid hA5
      have HBC := Lib.hid hBc
      have HbC := Lib.hid hbc
      have hL : ∀ W, Below X.heap.size X W → W.cell? ⟨w.heap.size, 0, none⟩ = some (.int .i64 C.nodes) ∧ W.cell? ⟨w.heap.size, 1, none⟩ = some (.int .i64 C.slots) ∧ W.cell? ⟨w.heap.size, 2, none⟩ = some (.int .i64 C.rho) ∧ W.cell? ⟨w.heap.size, 3, none⟩ = some (.int .i64 C.hold) ∧ W.cell? ⟨w.heap.size, 4, none⟩ = some (.int .i64 C.grant) ∧ W.cell? ⟨w.heap.size, 5, none⟩ = some (.int .i64 C.guard) ∧ W.cell? ⟨w.heap.size, 6, none⟩ = some (.int .i64 C.work) ∧ W.cell? ⟨w.heap.size, 7, none⟩ = some (.slice C.sa C.sn C.sc) ∧ W.cell? ⟨w.heap.size, 8, none⟩ = some (.slice C.na C.nn C.nc) ∧ W.cell? ⟨w.heap.size, 9, none⟩ = some (.int .i64 C.soak) ∧ W.cell? ⟨w.heap.size, 10, none⟩ = some (.int .i64 C.pass) := fun W h => cfg_cells2 (kb HBC.out h)
      have hL2 : ∀ W, Below X.heap.size X W → W.cell? ⟨w2.heap.size, 0, none⟩ = some (.int .i64 0) ∧ W.cell? ⟨w2.heap.size, 1, none⟩ = some (.slice ad2 S cap2) := fun W h => acc_cells (kb HX2.out h)
      have hX3' := Lib.hid hX3
      have hL3 : ∀ W, Below X.heap.size X W → W.cell? ⟨w3.heap.size, 0, none⟩ = some (.int .i64 0) ∧ W.cell? ⟨w3.heap.size, 1, none⟩ = some (.slice ad3 S cap3) := fun W h => acc_cells (kb hX3'.out h)
      have FG : Hid (∀ W, Below X.heap.size X W → Good W C) := fun W h => (HG.out.below HbC.out).below h
      have FA2 : Hid (∀ W, Below X.heap.size X W → Acc W ad2 S cap2 G1) := fun W h => HA2.out.below h
      have FA3 : Hid (∀ W, Below X.heap.size X W → Acc W ad3 S cap3 G1) := by
        have h3 := hA3
        exact fun W h => h3.below h
      have hS : Below X.heap.size X X := Below.refl _ _
      have HW : Hid (IntKind.i64.wrap (n + 1) = n + 1) := by
        show IntKind.i64.wrap (n + 1) = n + 1
        exact wrap_small (by omega) (by omega)
      clear hX1 hX2 hX3 hX4 hX5 hA1 hA2 hA3 hA4 hA5 hBc hbc x1 x2 x3 x4 x5 y1 y2 y3 y4 y5 m0 m1 m4
      go_region_held3 (fun W : World => Below X.heap.size X W) (first | assumption | exact hS.drew | exact bnext (by assumption) hY) (first
        | (go_at_call 19; (with_reducible refine (same_yes 0 _ _ S _ _ G1 _ (FA3.out _ (by assumption)) (FA2.out _ (by assumption))).mono ?_); rintro e wY ⟨rfl, hY⟩)
        | (go_at_call 17; rw [HW.out]; (with_reducible refine (free_b C 0 _ S _ G1 G1 sl one (n + 1) _ F5.out (FG.out _ (by assumption)) (FA2.out _ (by assumption))).mono ?_); rintro e wY ⟨ad9, cap9, rfl, hA9, hY⟩)
        | (go_at_call 19; (with_reducible refine (same_yes 0 _ _ S _ _ G1 _ hA9 (FA2.out _ (by assumption))).mono ?_); rintro e wY ⟨rfl, hY⟩))
      all_goals
        have hXY : Below X.heap.size X wY := by first | assumption | exact bnext (by assumption) hY
        have hbc := bnext HbC.out hXY
        have hBc := kb HBC.out hXY
        have hX1 := kb HX1.out hXY
        have hX2 := kb HX2.out hXY
        have hX5 := kb HX5.out hXY
        have hA1 := HA1.out.below hXY
        have hA2 := HA2.out.below hXY
        have hA5 := HA5.out.below hXY
        obtain ⟨x1, y1⟩ := acc_cells hX1
        obtain ⟨x2, y2⟩ := acc_cells hX2
        obtain ⟨x5, y5⟩ := acc_cells hX5
        obtain ⟨m0, m1, _, _, m4, _⟩ := cfg_cells2 hBc
        clear hL hL2 hL3 hXY
        go_wp2_with (first
          | (with_reducible refine wpList_load_cfg rfl _ rfl w.heap.size rfl C hBc ?_)
          | (go_at_call 15; with_reducible refine (ask_b C 0 _ S _ G0 G0 sl one n (C.grant - 1) false _ F6.out F6g.out (HG.out.below hbc) hA1 I1 IN (by exact J2)).mono ?_; rintro e w6 ⟨ad6, cap6, rfl, hA6, hb6⟩; have hbc := bnew (bnext hbc hb6) (Obj.cells #[Value.int .i64 0, Value.slice ad6 S cap6] 30); have hBc := ka (kb hBc hb6) (Obj.cells #[Value.int .i64 0, Value.slice ad6 S cap6] 30); obtain ⟨m0, m1, _, _, m4, _⟩ := cfg_cells2 hBc; have hX1 := ka (kb hX1 hb6) (Obj.cells #[Value.int .i64 0, Value.slice ad6 S cap6] 30); have hA1 := (hA1.below hb6).below (bnew (brefl w6) (Obj.cells #[Value.int .i64 0, Value.slice ad6 S cap6] 30)); obtain ⟨x1, y1⟩ := acc_cells hX1; have hX2 := ka (kb hX2 hb6) (Obj.cells #[Value.int .i64 0, Value.slice ad6 S cap6] 30); have hA2 := (hA2.below hb6).below (bnew (brefl w6) (Obj.cells #[Value.int .i64 0, Value.slice ad6 S cap6] 30)); obtain ⟨x2, y2⟩ := acc_cells hX2; have hX5 := ka (kb hX5 hb6) (Obj.cells #[Value.int .i64 0, Value.slice ad6 S cap6] 30); have hA5 := (hA5.below hb6).below (bnew (brefl w6) (Obj.cells #[Value.int .i64 0, Value.slice ad6 S cap6] 30)); obtain ⟨x5, y5⟩ := acc_cells hX5; have hX6 := heap_alloc_new w6 (Obj.cells #[Value.int .i64 0, Value.slice ad6 S cap6] 30); have hA6 := hA6.below (bnew (brefl w6) (Obj.cells #[Value.int .i64 0, Value.slice ad6 S cap6] 30)); obtain ⟨x6, y6⟩ := acc_cells hX6; clear hb6)
          | (go_at_call 19; with_reducible refine (same_yes 0 _ _ S _ _ G0 _ hA6 hA1).mono ?_; rintro e w7 ⟨rfl, hb7⟩; have hbc := bnext hbc hb7; have hBc := kb hBc hb7; have hX5 := kb hX5 hb7; have hA5 := hA5.below hb7; have hX2 := kb hX2 hb7; have hA2 := hA2.below hb7; obtain ⟨x5, y5⟩ := acc_cells hX5; obtain ⟨x2, y2⟩ := acc_cells hX2; clear hb7)
          | (go_at_call 21; with_reducible refine (hold_b C 0 _ S _ GW sl (now + 1) two _ F7.out (HG.out.below hbc) hA5).mono ?_; rintro e w8 ⟨rfl, hb8⟩; have hbc := bnext hbc hb8; have hBc := kb hBc hb8; have hX2 := kb hX2 hb8; have hA2 := hA2.below hb8; obtain ⟨x2, y2⟩ := acc_cells hX2; clear hb8)
          | (go_at_call 21; with_reducible refine (hold_b C 0 _ S _ G1 sl (now) one _ F8.out (HG.out.below hbc) hA2).mono ?_; rintro e w9 ⟨rfl, hb9⟩; have hbc := bnext hbc hb9; have hBc := kb hBc hb9; clear hb9))
        go_ret
        exact ⟨rfl, hbc⟩
    · have HK : Hid (chkI C = 90) := by show chkI C = 90; unfold chkI; rw [if_neg hk]
      clear hk hf
      go_enter Try.func5, Try.ntmps5
      go_wp2_with (first
        | (with_reducible refine wpList_load_cfg rfl _ rfl w.heap.size rfl C hBc ?_)
        | (go_at_call 11; refine (gawake_true _).mono ?_; rintro e wX ⟨rfl, hX⟩; have hbc := bnext hbc hX; have hBc := (hX.block _ (lt_of_block hBc)).trans hBc)
        | (go_at_call 12; refine (few_any C _ (HG.out.below hbc)).mono ?_; rintro e wX ⟨rfl, hX⟩; have hbc := bnext hbc hX; have hBc := (hX.block _ (lt_of_block hBc)).trans hBc; rw [HF.out])
        | (go_at_call 20; refine (check_any C _ (HG.out.below hbc)).mono ?_; rintro e wX ⟨rfl, hX⟩; have hbc := bnext hbc hX; have hBc := (hX.block _ (lt_of_block hBc)).trans hBc; rw [HK.out]; obtain ⟨m0, m1, _, _, m4, _⟩ := cfg_cells2 hBc))
      go_ret
      exact ⟨rfl, hbc⟩
  · have HF : Hid (fewB C = false) := by show _ = _; simpa using hf
    clear hf
    go_enter Try.func5, Try.ntmps5
    go_wp2_with (first
      | (with_reducible refine wpList_load_cfg rfl _ rfl w.heap.size rfl C hBc ?_)
      | (go_at_call 11; refine (gawake_true _).mono ?_; rintro e wX ⟨rfl, hX⟩; have hbc := bnext hbc hX; have hBc := (hX.block _ (lt_of_block hBc)).trans hBc)
      | (go_at_call 12; refine (few_any C _ (HG.out.below hbc)).mono ?_; rintro e wX ⟨rfl, hX⟩; have hbc := bnext hbc hX; have hBc := (hX.block _ (lt_of_block hBc)).trans hBc; rw [HF.out]))
    go_ret
    exact ⟨rfl, hbc⟩
end Go.Proofs.Ytmhggpmhekeemaa
