/- The walk of DriftSafe: true, and nothing that was there has changed. -/
import Derived.Test.YtdllcnafcghcfaaAwake
import Derived.Deep.RegionHeld3
namespace Go.Proofs.Ytdllcnafcghcfaa
open Go.RowKit
theorem cfg_cells {w : World} {b : Nat} {C : Cv} (hb : w.heap[b]? = some (.cells C.cells 25 (0, 0))) : w.cell? ⟨b, 0, none⟩ = some (.int .i64 C.nodes) ∧ w.cell? ⟨b, 1, none⟩ = some (.int .i64 C.slots) ∧ w.cell? ⟨b, 2, none⟩ = some (.int .i64 C.rho) ∧ w.cell? ⟨b, 3, none⟩ = some (.int .i64 C.hold) ∧ w.cell? ⟨b, 4, none⟩ = some (.int .i64 C.grant) ∧ w.cell? ⟨b, 5, none⟩ = some (.int .i64 C.guard) ∧ w.cell? ⟨b, 6, none⟩ = some (.int .i64 C.work) ∧ w.cell? ⟨b, 7, none⟩ = some (.slice C.sa C.sn C.sc) ∧ w.cell? ⟨b, 8, none⟩ = some (.slice C.na C.nn C.nc) ∧ w.cell? ⟨b, 9, none⟩ = some (.int .i64 C.soak) ∧ w.cell? ⟨b, 10, none⟩ = some (.int .i64 C.pass) := by
  refine ⟨?_, ?_, ?_, ?_, ?_, ?_, ?_, ?_, ?_, ?_, ?_⟩ <;> (rw [cell_of_row _ _ _ _ _ _ hb]; rfl)

theorem safe_facts {C : Cv} {K a M g Z : Int} (hk : chk C = true) (h1 : K * (1000 - C.rho) ≤ M) (h2 : Z ≤ K * (1000 + C.rho)) (hh : holdsB C a (a + M) = true) : freeB C g (g + Z) = false := by
  have F := chk_facts hk
  obtain ⟨_, _, ⟨r0, r1⟩, ⟨q0, q1⟩, ⟨g0, g1⟩, _, _, hp, _⟩ := F
  have hM : M < C.hold := by
    unfold holdsB at hh
    simp only [Bool.and_eq_true, decide_eq_true_eq] at hh
    omega
  have hZ : ¬ C.grant ≤ Z := by
    intro hz
    have e1 : C.grant * (1000 - C.rho) ≤ (K * (1000 + C.rho)) * (1000 - C.rho) := Int.mul_le_mul_of_nonneg_right (by omega) (by omega)
    have e2 : (K * (1000 - C.rho)) * (1000 + C.rho) ≤ C.hold * (1000 + C.rho) := Int.mul_le_mul_of_nonneg_right (by omega) (by omega)
    have e3 : (K * (1000 + C.rho)) * (1000 - C.rho) = (K * (1000 - C.rho)) * (1000 + C.rho) := by
      rw [Int.mul_assoc, Int.mul_assoc, Int.mul_comm (1000 + C.rho)]
    omega
  unfold freeB
  rw [decide_eq_false (by omega)]
  simp
theorem gain_range {C : Cv} (hk : chk C = true) (t : Int) : 1000 - C.rho ≤ gainI C t ∧ gainI C t ≤ 1000 + C.rho := by
  have F := chk_facts hk
  unfold gainI
  rw [if_pos hk]
  omega
theorem next_mul (k : Nat) (x : Int) : ((k + 1 : Nat) : Int) * x = k * x + x := by
  rw [Int.natCast_succ, Int.add_mul]; omega

set_option maxRecDepth 100000 in
set_option maxHeartbeats 1000000 in
theorem walk_DriftSafe (C0 : Cv) (a1 : Option Addr) (n1 c1 : Nat) (z1 : List Int) (a2 : Option Addr) (n2 c2 : Nat) (z2 : List Int) (p q t : Int) (w : World) (w0 : Good w C0) (w1 : Reads .i64 w a1 n1 c1 z1) (w2 : Reads .i64 w a2 n2 c2 z2) (w3 : (Lit.int .i64 p).wf = true) (w4 : (Lit.int .i64 q).wf = true) (w5 : (Lit.int .u8 t).wf = true) :
    Calls Try.prog 5 #[.agg C0.cells, .slice a1 n1 c1, .slice a2 n2 c2, .int .i64 p, .int .i64 q, .int .u8 t] w fun e w' => e = .returned (.bool true) ∧ Below w.heap.size w w' := by
  have HG := Lib.hid w0
  have HR1 := Lib.hid w1
  have HR2 := Lib.hid w2
  have s1 := w1.small'
  have s2 := w2.small'
  clear w0 w1 w2
  obtain ⟨r1, r1'⟩ := i64_range w3
  obtain ⟨r2, r2'⟩ := i64_range w4
  have r3 : 0 ≤ t ∧ t ≤ 255 := by
    simp only [Lit.wf, Bool.and_eq_true, decide_eq_true_eq] at w5
    have h1 : IntKind.u8.min = 0 := rfl
    have h2 : IntKind.u8.max = 255 := rfl
    omega
  obtain ⟨r3, r3'⟩ := r3
  clear w3 w4 w5
  by_cases hf : fewB C0 = true
  · have HF := Lib.hid hf
    by_cases hk : chk C0 = true
    · have HK : Hid (chkI C0 = 0) := by show chkI C0 = 0; unfold chkI; rw [if_pos hk]
      by_cases hg : (0 ≤ p ∧ p ≤ 1152921504606846976) ∧ 0 ≤ q ∧ q ≤ 1152921504606846976
      · obtain ⟨⟨g1, g2⟩, g3, g4⟩ := hg
        clear r1 r1' r2 r2' hf
        have HKK := Lib.hid hk
        clear hk
        have r0 : 0 ≤ C0.rho := by have := chk_facts HKK.out; omega
        have r500 : C0.rho ≤ 500 := by have := chk_facts HKK.out; omega
        by_cases hn1 : n1 ≤ n2 ∧ n1 ≤ 100
        · obtain ⟨hn1, hn1'⟩ := hn1
          go_enter Try.func5, Try.ntmps5
          go_wp2_with (first
      | (go_at_call 10; refine (awake_true _).mono ?_; rintro e wA ⟨rfl, hA⟩; have hbc := bnext (bnew (brefl w) _) hA; have hBc := (hA.block w.heap.size (by simp)).trans (heap_alloc_new _ _))
      | (with_reducible refine wpList_load_cfg rfl _ rfl w.heap.size rfl C0 hBc ?_)
      | (go_at_call 11; refine (few_any C0 _ (HG.out.below hbc)).mono ?_; rintro e wX ⟨rfl, hX⟩; have hbc := bnext hbc hX; have hBc := (hX.block _ (lt_of_block hBc)).trans hBc; rw [HF.out])
      | (go_at_call 12; refine (check_any C0 _ (HG.out.below hbc)).mono ?_; rintro e wX ⟨rfl, hX⟩; have hbc := bnext hbc hX; have hBc := (hX.block _ (lt_of_block hBc)).trans hBc; rw [HK.out]))
          have HB0 := Lib.hid hBc
          clear hBc
          go_loopw [15, 16, 17, 19] (fun nw cl gr i wr => ∃ (k : Nat) (M Z D : Int), k ≤ 100 ∧ k ≤ n1 ∧ nw = .int .i64 (p + M) ∧ cl = .int .i64 (q + Z) ∧ gr = .int .i64 (q + D) ∧ i = .int .i64 k ∧ 0 ≤ D ∧ D ≤ Z ∧ M ≤ 1500 * k ∧ Z ≤ 1500 * k ∧ k * (1000 - C0.rho) ≤ M ∧ Z - D ≤ k * (1000 + C0.rho) ∧ wr.heap[w.heap.size]? = some (.cells C0.cells 25 (0, 0)) ∧ Below w.heap.size w wr) (fun _ _ _ i _ => 100 - (intOf i).toNat)
          case atStart => exact ⟨0, 0, 0, 0, by omega, by omega, by simp, by simp, by simp, rfl, by omega, by omega, by omega, by omega, by simp, by simp, HB0.out, hbc⟩
          case round =>
            clear hbc
            obtain ⟨k, M, Z, D, hk1, hk2, rfl, rfl, rfl, rfl, hd0, hdz, hm1500, hz1500, hm0, hz1, hBc, hbc⟩ := hrel
            clear HB0
            have hM0 : 0 ≤ M := by
              have : 0 ≤ (k : Int) * (1000 - C0.rho) := Int.mul_nonneg (by omega) (by omega)
              omega
            by_cases hlt : k < n1
            · obtain ⟨m1, hm1⟩ : ∃ m, m = z1.getD k 0 := ⟨_, rfl⟩
              obtain ⟨m2, hm2⟩ : ∃ m, m = z2.getD k 0 := ⟨_, rfl⟩
              rcases HR1.out.cells with h | ⟨b1, off1, rfl, hc1⟩
              · omega
              rcases HR2.out.cells with h | ⟨b2, off2, rfl, hc2⟩
              · omega
              have CZ1 : Hid (w.cell? ⟨b1, off1 + k, none⟩ = some (.int .i64 m1)) := by show _ = _; rw [hm1]; exact hc1 k (by omega)
              have CZ2 : Hid (w.cell? ⟨b2, off2 + k, none⟩ = some (.int .i64 m2)) := by show _ = _; rw [hm2]; exact hc2 k (by omega)
              clear hc1 hc2 hm1 hm2
              obtain ⟨x, hx⟩ : ∃ x, x = gainI C0 m1 := ⟨_, rfl⟩
              obtain ⟨y, hy⟩ : ∃ y, y = gainI C0 m2 := ⟨_, rfl⟩
              obtain ⟨x1, x2⟩ := gain_range HKK.out m1
              obtain ⟨y1, y2⟩ := gain_range HKK.out m2
              rw [← hx] at x1 x2
              rw [← hy] at y1 y2
              have HX := Lib.hid hx
              have HY := Lib.hid hy
              clear hx hy
              have FG : Hid (∀ W, Below wr.heap.size wr W → Good W C0) := fun W h => (HG.out.below hbc).below h
              have hL : ∀ W, Below wr.heap.size wr W → W.cell? ⟨w.heap.size, 0, none⟩ = some (.int .i64 C0.nodes) ∧ W.cell? ⟨w.heap.size, 1, none⟩ = some (.int .i64 C0.slots) ∧ W.cell? ⟨w.heap.size, 2, none⟩ = some (.int .i64 C0.rho) ∧ W.cell? ⟨w.heap.size, 3, none⟩ = some (.int .i64 C0.hold) ∧ W.cell? ⟨w.heap.size, 4, none⟩ = some (.int .i64 C0.grant) ∧ W.cell? ⟨w.heap.size, 5, none⟩ = some (.int .i64 C0.guard) ∧ W.cell? ⟨w.heap.size, 6, none⟩ = some (.int .i64 C0.work) ∧ W.cell? ⟨w.heap.size, 7, none⟩ = some (.slice C0.sa C0.sn C0.sc) ∧ W.cell? ⟨w.heap.size, 8, none⟩ = some (.slice C0.na C0.nn C0.nc) ∧ W.cell? ⟨w.heap.size, 9, none⟩ = some (.int .i64 C0.soak) ∧ W.cell? ⟨w.heap.size, 10, none⟩ = some (.int .i64 C0.pass) := fun W h => cfg_cells ((h.block _ (lt_of_block hBc)).trans hBc)
              have hC : ∀ W, Below wr.heap.size wr W → W.cell? ⟨b1, off1 + k, none⟩ = some (.int .i64 m1) ∧ W.cell? ⟨b2, off2 + k, none⟩ = some (.int .i64 m2) := fun W h => ⟨((bnext hbc h).cell (block_lt_of_cell CZ1.out)).trans CZ1.out, ((bnext hbc h).cell (block_lt_of_cell CZ2.out)).trans CZ2.out⟩
              have hk1 : k < n1 := by omega
              have hk2 : k < n2 := by omega
              have HBC := Lib.hid hbc
              have HB2 := Lib.hid hBc
              have hS : Below wr.heap.size wr wr := Below.refl _ _
              clear hbc hBc
              by_cases hle : (k : Int) ≤ t % 100
              · skip
                have hx0 : ((k + 1 : Nat) : Int) * (1000 - C0.rho) ≤ M + x := by rw [next_mul]; omega
                have hz0 : 0 + y ≤ ((k + 1 : Nat) : Int) * (1000 + C0.rho) := by rw [next_mul]; omega
                have hsafe := safe_facts (a := p) (g := q + Z) HKK.out hx0 hz0
                have e1 : p + (M + x) = p + M + x := by omega
                have e2 : q + Z + (0 + y) = q + Z + y := by omega
                rw [e1, e2] at hsafe
                clear e1 e2
                have HX0 := Lib.hid hx0
                have HZ0 := Lib.hid hz0
                have HSAFE := Lib.hid hsafe
                clear hx0 hz0 hm0 hz1 hsafe
                go_wp2_with fail
                go_region_held3 (fun W : World => Below wr.heap.size wr W) (first | assumption | exact hS.drew | exact Below.drew (by assumption) | exact bnext (by assumption) hY) (first | (go_at_call 16; with_reducible refine (gain_any C0 m1 _ (FG.out _ (by assumption))).mono ?_; rintro e wY ⟨rfl, hY⟩; rw [← HX.out]) | (go_at_call 16; with_reducible refine (gain_any C0 m2 _ (FG.out _ (by assumption))).mono ?_; rintro e wY ⟨rfl, hY⟩; rw [← HY.out]))
                go_wp2_with fail
                go_region_held3 (fun W : World => Below wr.heap.size wr W) (first | assumption | exact hS.drew | exact Below.drew (by assumption) | exact bnext (by assumption) hY) (first | (go_at_call 16; with_reducible refine (gain_any C0 m1 _ (FG.out _ (by assumption))).mono ?_; rintro e wY ⟨rfl, hY⟩; rw [← HX.out]) | (go_at_call 16; with_reducible refine (gain_any C0 m2 _ (FG.out _ (by assumption))).mono ?_; rintro e wY ⟨rfl, hY⟩; rw [← HY.out]))
                clear hL hC
                rename_i hwr
                have hBc := (hwr.block _ (lt_of_block HB2.out)).trans HB2.out
                have hbc := bnext HBC.out hwr
                clear hwr
                rcases Bool.eq_false_or_eq_true (holdsB C0 p (p + M + x)) with l1 | l1
                · have H1 := Lib.hid l1
                  have H2 := Lib.hid (HSAFE.out l1)
                  clear l1
                  go_wp2_with (first | (with_reducible refine wpList_load_cfg rfl _ rfl w.heap.size rfl C0 hBc ?_) | (go_at_call 18; with_reducible refine (holds_any C0 p (p + M + x) _ (HG.out.below hbc)).mono ?_; rintro e wX ⟨rfl, hX⟩; have hbc := bnext hbc hX; have hBc := (hX.block _ (lt_of_block hBc)).trans hBc; rw [H1.out]) | (go_at_call 22; with_reducible refine (free_any C0 (q + Z) (q + Z + y) _ (HG.out.below hbc)).mono ?_; rintro e wX ⟨rfl, hX⟩; have hbc := bnext hbc hX; have hBc := (hX.block _ (lt_of_block hBc)).trans hBc; rw [H2.out]))
                  go_roundw
                  case rel => exact ⟨k + 1, M + x, Z + y, Z, by omega, by omega, by go_num, by go_num, by go_num, by go_num, by omega, by omega, by omega, by omega, HX0.out, by have := HZ0.out; omega, hBc, hbc⟩
                  case measure => simp [intOf]; omega
                · have H1 := Lib.hid l1
                  clear l1
                  go_wp2_with (first | (with_reducible refine wpList_load_cfg rfl _ rfl w.heap.size rfl C0 hBc ?_) | (go_at_call 18; with_reducible refine (holds_any C0 p (p + M + x) _ (HG.out.below hbc)).mono ?_; rintro e wX ⟨rfl, hX⟩; have hbc := bnext hbc hX; have hBc := (hX.block _ (lt_of_block hBc)).trans hBc; rw [H1.out]) | (go_at_call 22; with_reducible refine (free_any C0 (q + Z) (q + Z + y) _ (HG.out.below hbc)).mono ?_; rintro e wX ⟨rfl, hX⟩; have hbc := bnext hbc hX; have hBc := (hX.block _ (lt_of_block hBc)).trans hBc; rw [H2.out]))
                  go_roundw
                  case rel => exact ⟨k + 1, M + x, Z + y, Z, by omega, by omega, by go_num, by go_num, by go_num, by go_num, by omega, by omega, by omega, by omega, HX0.out, by have := HZ0.out; omega, hBc, hbc⟩
                  case measure => simp [intOf]; omega
              · skip
                have hx0 : ((k + 1 : Nat) : Int) * (1000 - C0.rho) ≤ M + x := by rw [next_mul]; omega
                have hz0 : (Z - D) + y ≤ ((k + 1 : Nat) : Int) * (1000 + C0.rho) := by rw [next_mul]; omega
                have hsafe := safe_facts (a := p) (g := q + D) HKK.out hx0 hz0
                have e1 : p + (M + x) = p + M + x := by omega
                have e2 : q + D + ((Z - D) + y) = q + Z + y := by omega
                rw [e1, e2] at hsafe
                clear e1 e2
                have HX0 := Lib.hid hx0
                have HZ0 := Lib.hid hz0
                have HSAFE := Lib.hid hsafe
                clear hx0 hz0 hm0 hz1 hsafe
                go_wp2_with fail
                go_region_held3 (fun W : World => Below wr.heap.size wr W) (first | assumption | exact hS.drew | exact Below.drew (by assumption) | exact bnext (by assumption) hY) (first | (go_at_call 16; with_reducible refine (gain_any C0 m1 _ (FG.out _ (by assumption))).mono ?_; rintro e wY ⟨rfl, hY⟩; rw [← HX.out]) | (go_at_call 16; with_reducible refine (gain_any C0 m2 _ (FG.out _ (by assumption))).mono ?_; rintro e wY ⟨rfl, hY⟩; rw [← HY.out]))
                go_wp2_with fail
                go_region_held3 (fun W : World => Below wr.heap.size wr W) (first | assumption | exact hS.drew | exact Below.drew (by assumption) | exact bnext (by assumption) hY) (first | (go_at_call 16; with_reducible refine (gain_any C0 m1 _ (FG.out _ (by assumption))).mono ?_; rintro e wY ⟨rfl, hY⟩; rw [← HX.out]) | (go_at_call 16; with_reducible refine (gain_any C0 m2 _ (FG.out _ (by assumption))).mono ?_; rintro e wY ⟨rfl, hY⟩; rw [← HY.out]))
                clear hL hC
                rename_i hwr
                have hBc := (hwr.block _ (lt_of_block HB2.out)).trans HB2.out
                have hbc := bnext HBC.out hwr
                clear hwr
                rcases Bool.eq_false_or_eq_true (holdsB C0 p (p + M + x)) with l1 | l1
                · have H1 := Lib.hid l1
                  have H2 := Lib.hid (HSAFE.out l1)
                  clear l1
                  go_wp2_with (first | (with_reducible refine wpList_load_cfg rfl _ rfl w.heap.size rfl C0 hBc ?_) | (go_at_call 18; with_reducible refine (holds_any C0 p (p + M + x) _ (HG.out.below hbc)).mono ?_; rintro e wX ⟨rfl, hX⟩; have hbc := bnext hbc hX; have hBc := (hX.block _ (lt_of_block hBc)).trans hBc; rw [H1.out]) | (go_at_call 22; with_reducible refine (free_any C0 (q + D) (q + Z + y) _ (HG.out.below hbc)).mono ?_; rintro e wX ⟨rfl, hX⟩; have hbc := bnext hbc hX; have hBc := (hX.block _ (lt_of_block hBc)).trans hBc; rw [H2.out]))
                  go_roundw
                  case rel => exact ⟨k + 1, M + x, Z + y, D, by omega, by omega, by go_num, by go_num, by go_num, by go_num, by omega, by omega, by omega, by omega, HX0.out, by have := HZ0.out; omega, hBc, hbc⟩
                  case measure => simp [intOf]; omega
                · have H1 := Lib.hid l1
                  clear l1
                  go_wp2_with (first | (with_reducible refine wpList_load_cfg rfl _ rfl w.heap.size rfl C0 hBc ?_) | (go_at_call 18; with_reducible refine (holds_any C0 p (p + M + x) _ (HG.out.below hbc)).mono ?_; rintro e wX ⟨rfl, hX⟩; have hbc := bnext hbc hX; have hBc := (hX.block _ (lt_of_block hBc)).trans hBc; rw [H1.out]) | (go_at_call 22; with_reducible refine (free_any C0 (q + D) (q + Z + y) _ (HG.out.below hbc)).mono ?_; rintro e wX ⟨rfl, hX⟩; have hbc := bnext hbc hX; have hBc := (hX.block _ (lt_of_block hBc)).trans hBc; rw [H2.out]))
                  go_roundw
                  case rel => exact ⟨k + 1, M + x, Z + y, D, by omega, by omega, by go_num, by go_num, by go_num, by go_num, by omega, by omega, by omega, by omega, HX0.out, by have := HZ0.out; omega, hBc, hbc⟩
                  case measure => simp [intOf]; omega
            · go_wp2_with fail
              go_ret
              exact ⟨rfl, hbc⟩
        · by_cases hn2 : n2 ≤ 100
          · have hn3 : n2 < n1 := by omega
            clear hn1
            go_enter Try.func5, Try.ntmps5
            go_wp2_with (first
      | (go_at_call 10; refine (awake_true _).mono ?_; rintro e wA ⟨rfl, hA⟩; have hbc := bnext (bnew (brefl w) _) hA; have hBc := (hA.block w.heap.size (by simp)).trans (heap_alloc_new _ _))
      | (with_reducible refine wpList_load_cfg rfl _ rfl w.heap.size rfl C0 hBc ?_)
      | (go_at_call 11; refine (few_any C0 _ (HG.out.below hbc)).mono ?_; rintro e wX ⟨rfl, hX⟩; have hbc := bnext hbc hX; have hBc := (hX.block _ (lt_of_block hBc)).trans hBc; rw [HF.out])
      | (go_at_call 12; refine (check_any C0 _ (HG.out.below hbc)).mono ?_; rintro e wX ⟨rfl, hX⟩; have hbc := bnext hbc hX; have hBc := (hX.block _ (lt_of_block hBc)).trans hBc; rw [HK.out]))
            have HB0 := Lib.hid hBc
            clear hBc
            go_loopw [15, 16, 17, 19] (fun nw cl gr i wr => ∃ (k : Nat) (M Z D : Int), k ≤ 100 ∧ k ≤ n2 ∧ nw = .int .i64 (p + M) ∧ cl = .int .i64 (q + Z) ∧ gr = .int .i64 (q + D) ∧ i = .int .i64 k ∧ 0 ≤ D ∧ D ≤ Z ∧ M ≤ 1500 * k ∧ Z ≤ 1500 * k ∧ k * (1000 - C0.rho) ≤ M ∧ Z - D ≤ k * (1000 + C0.rho) ∧ wr.heap[w.heap.size]? = some (.cells C0.cells 25 (0, 0)) ∧ Below w.heap.size w wr) (fun _ _ _ i _ => 100 - (intOf i).toNat)
            case atStart => exact ⟨0, 0, 0, 0, by omega, by omega, by simp, by simp, by simp, rfl, by omega, by omega, by omega, by omega, by simp, by simp, HB0.out, hbc⟩
            case round =>
              clear hbc
              obtain ⟨k, M, Z, D, hk1, hk2, rfl, rfl, rfl, rfl, hd0, hdz, hm1500, hz1500, hm0, hz1, hBc, hbc⟩ := hrel
              clear HB0
              have hM0 : 0 ≤ M := by
                have : 0 ≤ (k : Int) * (1000 - C0.rho) := Int.mul_nonneg (by omega) (by omega)
                omega
              by_cases hlt : k < n2
              · obtain ⟨m1, hm1⟩ : ∃ m, m = z1.getD k 0 := ⟨_, rfl⟩
                obtain ⟨m2, hm2⟩ : ∃ m, m = z2.getD k 0 := ⟨_, rfl⟩
                rcases HR1.out.cells with h | ⟨b1, off1, rfl, hc1⟩
                · omega
                rcases HR2.out.cells with h | ⟨b2, off2, rfl, hc2⟩
                · omega
                have CZ1 : Hid (w.cell? ⟨b1, off1 + k, none⟩ = some (.int .i64 m1)) := by show _ = _; rw [hm1]; exact hc1 k (by omega)
                have CZ2 : Hid (w.cell? ⟨b2, off2 + k, none⟩ = some (.int .i64 m2)) := by show _ = _; rw [hm2]; exact hc2 k (by omega)
                clear hc1 hc2 hm1 hm2
                obtain ⟨x, hx⟩ : ∃ x, x = gainI C0 m1 := ⟨_, rfl⟩
                obtain ⟨y, hy⟩ : ∃ y, y = gainI C0 m2 := ⟨_, rfl⟩
                obtain ⟨x1, x2⟩ := gain_range HKK.out m1
                obtain ⟨y1, y2⟩ := gain_range HKK.out m2
                rw [← hx] at x1 x2
                rw [← hy] at y1 y2
                have HX := Lib.hid hx
                have HY := Lib.hid hy
                clear hx hy
                have FG : Hid (∀ W, Below wr.heap.size wr W → Good W C0) := fun W h => (HG.out.below hbc).below h
                have hL : ∀ W, Below wr.heap.size wr W → W.cell? ⟨w.heap.size, 0, none⟩ = some (.int .i64 C0.nodes) ∧ W.cell? ⟨w.heap.size, 1, none⟩ = some (.int .i64 C0.slots) ∧ W.cell? ⟨w.heap.size, 2, none⟩ = some (.int .i64 C0.rho) ∧ W.cell? ⟨w.heap.size, 3, none⟩ = some (.int .i64 C0.hold) ∧ W.cell? ⟨w.heap.size, 4, none⟩ = some (.int .i64 C0.grant) ∧ W.cell? ⟨w.heap.size, 5, none⟩ = some (.int .i64 C0.guard) ∧ W.cell? ⟨w.heap.size, 6, none⟩ = some (.int .i64 C0.work) ∧ W.cell? ⟨w.heap.size, 7, none⟩ = some (.slice C0.sa C0.sn C0.sc) ∧ W.cell? ⟨w.heap.size, 8, none⟩ = some (.slice C0.na C0.nn C0.nc) ∧ W.cell? ⟨w.heap.size, 9, none⟩ = some (.int .i64 C0.soak) ∧ W.cell? ⟨w.heap.size, 10, none⟩ = some (.int .i64 C0.pass) := fun W h => cfg_cells ((h.block _ (lt_of_block hBc)).trans hBc)
                have hC : ∀ W, Below wr.heap.size wr W → W.cell? ⟨b1, off1 + k, none⟩ = some (.int .i64 m1) ∧ W.cell? ⟨b2, off2 + k, none⟩ = some (.int .i64 m2) := fun W h => ⟨((bnext hbc h).cell (block_lt_of_cell CZ1.out)).trans CZ1.out, ((bnext hbc h).cell (block_lt_of_cell CZ2.out)).trans CZ2.out⟩
                have hk1 : k < n1 := by omega
                have hk2 : k < n2 := by omega
                have HBC := Lib.hid hbc
                have HB2 := Lib.hid hBc
                have hS : Below wr.heap.size wr wr := Below.refl _ _
                clear hbc hBc
                by_cases hle : (k : Int) ≤ t % 100
                · skip
                  have hx0 : ((k + 1 : Nat) : Int) * (1000 - C0.rho) ≤ M + x := by rw [next_mul]; omega
                  have hz0 : 0 + y ≤ ((k + 1 : Nat) : Int) * (1000 + C0.rho) := by rw [next_mul]; omega
                  have hsafe := safe_facts (a := p) (g := q + Z) HKK.out hx0 hz0
                  have e1 : p + (M + x) = p + M + x := by omega
                  have e2 : q + Z + (0 + y) = q + Z + y := by omega
                  rw [e1, e2] at hsafe
                  clear e1 e2
                  have HX0 := Lib.hid hx0
                  have HZ0 := Lib.hid hz0
                  have HSAFE := Lib.hid hsafe
                  clear hx0 hz0 hm0 hz1 hsafe
                  go_wp2_with fail
                  go_region_held3 (fun W : World => Below wr.heap.size wr W) (first | assumption | exact hS.drew | exact Below.drew (by assumption) | exact bnext (by assumption) hY) (first | (go_at_call 16; with_reducible refine (gain_any C0 m1 _ (FG.out _ (by assumption))).mono ?_; rintro e wY ⟨rfl, hY⟩; rw [← HX.out]) | (go_at_call 16; with_reducible refine (gain_any C0 m2 _ (FG.out _ (by assumption))).mono ?_; rintro e wY ⟨rfl, hY⟩; rw [← HY.out]))
                  go_wp2_with fail
                  go_region_held3 (fun W : World => Below wr.heap.size wr W) (first | assumption | exact hS.drew | exact Below.drew (by assumption) | exact bnext (by assumption) hY) (first | (go_at_call 16; with_reducible refine (gain_any C0 m1 _ (FG.out _ (by assumption))).mono ?_; rintro e wY ⟨rfl, hY⟩; rw [← HX.out]) | (go_at_call 16; with_reducible refine (gain_any C0 m2 _ (FG.out _ (by assumption))).mono ?_; rintro e wY ⟨rfl, hY⟩; rw [← HY.out]))
                  clear hL hC
                  rename_i hwr
                  have hBc := (hwr.block _ (lt_of_block HB2.out)).trans HB2.out
                  have hbc := bnext HBC.out hwr
                  clear hwr
                  rcases Bool.eq_false_or_eq_true (holdsB C0 p (p + M + x)) with l1 | l1
                  · have H1 := Lib.hid l1
                    have H2 := Lib.hid (HSAFE.out l1)
                    clear l1
                    go_wp2_with (first | (with_reducible refine wpList_load_cfg rfl _ rfl w.heap.size rfl C0 hBc ?_) | (go_at_call 18; with_reducible refine (holds_any C0 p (p + M + x) _ (HG.out.below hbc)).mono ?_; rintro e wX ⟨rfl, hX⟩; have hbc := bnext hbc hX; have hBc := (hX.block _ (lt_of_block hBc)).trans hBc; rw [H1.out]) | (go_at_call 22; with_reducible refine (free_any C0 (q + Z) (q + Z + y) _ (HG.out.below hbc)).mono ?_; rintro e wX ⟨rfl, hX⟩; have hbc := bnext hbc hX; have hBc := (hX.block _ (lt_of_block hBc)).trans hBc; rw [H2.out]))
                    go_roundw
                    case rel => exact ⟨k + 1, M + x, Z + y, Z, by omega, by omega, by go_num, by go_num, by go_num, by go_num, by omega, by omega, by omega, by omega, HX0.out, by have := HZ0.out; omega, hBc, hbc⟩
                    case measure => simp [intOf]; omega
                  · have H1 := Lib.hid l1
                    clear l1
                    go_wp2_with (first | (with_reducible refine wpList_load_cfg rfl _ rfl w.heap.size rfl C0 hBc ?_) | (go_at_call 18; with_reducible refine (holds_any C0 p (p + M + x) _ (HG.out.below hbc)).mono ?_; rintro e wX ⟨rfl, hX⟩; have hbc := bnext hbc hX; have hBc := (hX.block _ (lt_of_block hBc)).trans hBc; rw [H1.out]) | (go_at_call 22; with_reducible refine (free_any C0 (q + Z) (q + Z + y) _ (HG.out.below hbc)).mono ?_; rintro e wX ⟨rfl, hX⟩; have hbc := bnext hbc hX; have hBc := (hX.block _ (lt_of_block hBc)).trans hBc; rw [H2.out]))
                    go_roundw
                    case rel => exact ⟨k + 1, M + x, Z + y, Z, by omega, by omega, by go_num, by go_num, by go_num, by go_num, by omega, by omega, by omega, by omega, HX0.out, by have := HZ0.out; omega, hBc, hbc⟩
                    case measure => simp [intOf]; omega
                · skip
                  have hx0 : ((k + 1 : Nat) : Int) * (1000 - C0.rho) ≤ M + x := by rw [next_mul]; omega
                  have hz0 : (Z - D) + y ≤ ((k + 1 : Nat) : Int) * (1000 + C0.rho) := by rw [next_mul]; omega
                  have hsafe := safe_facts (a := p) (g := q + D) HKK.out hx0 hz0
                  have e1 : p + (M + x) = p + M + x := by omega
                  have e2 : q + D + ((Z - D) + y) = q + Z + y := by omega
                  rw [e1, e2] at hsafe
                  clear e1 e2
                  have HX0 := Lib.hid hx0
                  have HZ0 := Lib.hid hz0
                  have HSAFE := Lib.hid hsafe
                  clear hx0 hz0 hm0 hz1 hsafe
                  go_wp2_with fail
                  go_region_held3 (fun W : World => Below wr.heap.size wr W) (first | assumption | exact hS.drew | exact Below.drew (by assumption) | exact bnext (by assumption) hY) (first | (go_at_call 16; with_reducible refine (gain_any C0 m1 _ (FG.out _ (by assumption))).mono ?_; rintro e wY ⟨rfl, hY⟩; rw [← HX.out]) | (go_at_call 16; with_reducible refine (gain_any C0 m2 _ (FG.out _ (by assumption))).mono ?_; rintro e wY ⟨rfl, hY⟩; rw [← HY.out]))
                  go_wp2_with fail
                  go_region_held3 (fun W : World => Below wr.heap.size wr W) (first | assumption | exact hS.drew | exact Below.drew (by assumption) | exact bnext (by assumption) hY) (first | (go_at_call 16; with_reducible refine (gain_any C0 m1 _ (FG.out _ (by assumption))).mono ?_; rintro e wY ⟨rfl, hY⟩; rw [← HX.out]) | (go_at_call 16; with_reducible refine (gain_any C0 m2 _ (FG.out _ (by assumption))).mono ?_; rintro e wY ⟨rfl, hY⟩; rw [← HY.out]))
                  clear hL hC
                  rename_i hwr
                  have hBc := (hwr.block _ (lt_of_block HB2.out)).trans HB2.out
                  have hbc := bnext HBC.out hwr
                  clear hwr
                  rcases Bool.eq_false_or_eq_true (holdsB C0 p (p + M + x)) with l1 | l1
                  · have H1 := Lib.hid l1
                    have H2 := Lib.hid (HSAFE.out l1)
                    clear l1
                    go_wp2_with (first | (with_reducible refine wpList_load_cfg rfl _ rfl w.heap.size rfl C0 hBc ?_) | (go_at_call 18; with_reducible refine (holds_any C0 p (p + M + x) _ (HG.out.below hbc)).mono ?_; rintro e wX ⟨rfl, hX⟩; have hbc := bnext hbc hX; have hBc := (hX.block _ (lt_of_block hBc)).trans hBc; rw [H1.out]) | (go_at_call 22; with_reducible refine (free_any C0 (q + D) (q + Z + y) _ (HG.out.below hbc)).mono ?_; rintro e wX ⟨rfl, hX⟩; have hbc := bnext hbc hX; have hBc := (hX.block _ (lt_of_block hBc)).trans hBc; rw [H2.out]))
                    go_roundw
                    case rel => exact ⟨k + 1, M + x, Z + y, D, by omega, by omega, by go_num, by go_num, by go_num, by go_num, by omega, by omega, by omega, by omega, HX0.out, by have := HZ0.out; omega, hBc, hbc⟩
                    case measure => simp [intOf]; omega
                  · have H1 := Lib.hid l1
                    clear l1
                    go_wp2_with (first | (with_reducible refine wpList_load_cfg rfl _ rfl w.heap.size rfl C0 hBc ?_) | (go_at_call 18; with_reducible refine (holds_any C0 p (p + M + x) _ (HG.out.below hbc)).mono ?_; rintro e wX ⟨rfl, hX⟩; have hbc := bnext hbc hX; have hBc := (hX.block _ (lt_of_block hBc)).trans hBc; rw [H1.out]) | (go_at_call 22; with_reducible refine (free_any C0 (q + D) (q + Z + y) _ (HG.out.below hbc)).mono ?_; rintro e wX ⟨rfl, hX⟩; have hbc := bnext hbc hX; have hBc := (hX.block _ (lt_of_block hBc)).trans hBc; rw [H2.out]))
                    go_roundw
                    case rel => exact ⟨k + 1, M + x, Z + y, D, by omega, by omega, by go_num, by go_num, by go_num, by go_num, by omega, by omega, by omega, by omega, HX0.out, by have := HZ0.out; omega, hBc, hbc⟩
                    case measure => simp [intOf]; omega
              · go_wp2_with fail
                go_ret
                exact ⟨rfl, hbc⟩
          · have hn3 : 100 < n1 := by omega
            clear hn1
            go_enter Try.func5, Try.ntmps5
            go_wp2_with (first
      | (go_at_call 10; refine (awake_true _).mono ?_; rintro e wA ⟨rfl, hA⟩; have hbc := bnext (bnew (brefl w) _) hA; have hBc := (hA.block w.heap.size (by simp)).trans (heap_alloc_new _ _))
      | (with_reducible refine wpList_load_cfg rfl _ rfl w.heap.size rfl C0 hBc ?_)
      | (go_at_call 11; refine (few_any C0 _ (HG.out.below hbc)).mono ?_; rintro e wX ⟨rfl, hX⟩; have hbc := bnext hbc hX; have hBc := (hX.block _ (lt_of_block hBc)).trans hBc; rw [HF.out])
      | (go_at_call 12; refine (check_any C0 _ (HG.out.below hbc)).mono ?_; rintro e wX ⟨rfl, hX⟩; have hbc := bnext hbc hX; have hBc := (hX.block _ (lt_of_block hBc)).trans hBc; rw [HK.out]))
            have HB0 := Lib.hid hBc
            clear hBc
            go_loopw [15, 16, 17, 19] (fun nw cl gr i wr => ∃ (k : Nat) (M Z D : Int), k ≤ 100 ∧ k ≤ 100 ∧ nw = .int .i64 (p + M) ∧ cl = .int .i64 (q + Z) ∧ gr = .int .i64 (q + D) ∧ i = .int .i64 k ∧ 0 ≤ D ∧ D ≤ Z ∧ M ≤ 1500 * k ∧ Z ≤ 1500 * k ∧ k * (1000 - C0.rho) ≤ M ∧ Z - D ≤ k * (1000 + C0.rho) ∧ wr.heap[w.heap.size]? = some (.cells C0.cells 25 (0, 0)) ∧ Below w.heap.size w wr) (fun _ _ _ i _ => 100 - (intOf i).toNat)
            case atStart => exact ⟨0, 0, 0, 0, by omega, by omega, by simp, by simp, by simp, rfl, by omega, by omega, by omega, by omega, by simp, by simp, HB0.out, hbc⟩
            case round =>
              clear hbc
              obtain ⟨k, M, Z, D, hk1, hk2, rfl, rfl, rfl, rfl, hd0, hdz, hm1500, hz1500, hm0, hz1, hBc, hbc⟩ := hrel
              clear HB0
              have hM0 : 0 ≤ M := by
                have : 0 ≤ (k : Int) * (1000 - C0.rho) := Int.mul_nonneg (by omega) (by omega)
                omega
              by_cases hlt : k < 100
              · obtain ⟨m1, hm1⟩ : ∃ m, m = z1.getD k 0 := ⟨_, rfl⟩
                obtain ⟨m2, hm2⟩ : ∃ m, m = z2.getD k 0 := ⟨_, rfl⟩
                rcases HR1.out.cells with h | ⟨b1, off1, rfl, hc1⟩
                · omega
                rcases HR2.out.cells with h | ⟨b2, off2, rfl, hc2⟩
                · omega
                have CZ1 : Hid (w.cell? ⟨b1, off1 + k, none⟩ = some (.int .i64 m1)) := by show _ = _; rw [hm1]; exact hc1 k (by omega)
                have CZ2 : Hid (w.cell? ⟨b2, off2 + k, none⟩ = some (.int .i64 m2)) := by show _ = _; rw [hm2]; exact hc2 k (by omega)
                clear hc1 hc2 hm1 hm2
                obtain ⟨x, hx⟩ : ∃ x, x = gainI C0 m1 := ⟨_, rfl⟩
                obtain ⟨y, hy⟩ : ∃ y, y = gainI C0 m2 := ⟨_, rfl⟩
                obtain ⟨x1, x2⟩ := gain_range HKK.out m1
                obtain ⟨y1, y2⟩ := gain_range HKK.out m2
                rw [← hx] at x1 x2
                rw [← hy] at y1 y2
                have HX := Lib.hid hx
                have HY := Lib.hid hy
                clear hx hy
                have FG : Hid (∀ W, Below wr.heap.size wr W → Good W C0) := fun W h => (HG.out.below hbc).below h
                have hL : ∀ W, Below wr.heap.size wr W → W.cell? ⟨w.heap.size, 0, none⟩ = some (.int .i64 C0.nodes) ∧ W.cell? ⟨w.heap.size, 1, none⟩ = some (.int .i64 C0.slots) ∧ W.cell? ⟨w.heap.size, 2, none⟩ = some (.int .i64 C0.rho) ∧ W.cell? ⟨w.heap.size, 3, none⟩ = some (.int .i64 C0.hold) ∧ W.cell? ⟨w.heap.size, 4, none⟩ = some (.int .i64 C0.grant) ∧ W.cell? ⟨w.heap.size, 5, none⟩ = some (.int .i64 C0.guard) ∧ W.cell? ⟨w.heap.size, 6, none⟩ = some (.int .i64 C0.work) ∧ W.cell? ⟨w.heap.size, 7, none⟩ = some (.slice C0.sa C0.sn C0.sc) ∧ W.cell? ⟨w.heap.size, 8, none⟩ = some (.slice C0.na C0.nn C0.nc) ∧ W.cell? ⟨w.heap.size, 9, none⟩ = some (.int .i64 C0.soak) ∧ W.cell? ⟨w.heap.size, 10, none⟩ = some (.int .i64 C0.pass) := fun W h => cfg_cells ((h.block _ (lt_of_block hBc)).trans hBc)
                have hC : ∀ W, Below wr.heap.size wr W → W.cell? ⟨b1, off1 + k, none⟩ = some (.int .i64 m1) ∧ W.cell? ⟨b2, off2 + k, none⟩ = some (.int .i64 m2) := fun W h => ⟨((bnext hbc h).cell (block_lt_of_cell CZ1.out)).trans CZ1.out, ((bnext hbc h).cell (block_lt_of_cell CZ2.out)).trans CZ2.out⟩
                have hk1 : k < n1 := by omega
                have hk2 : k < n2 := by omega
                have HBC := Lib.hid hbc
                have HB2 := Lib.hid hBc
                have hS : Below wr.heap.size wr wr := Below.refl _ _
                clear hbc hBc
                by_cases hle : (k : Int) ≤ t % 100
                · skip
                  have hx0 : ((k + 1 : Nat) : Int) * (1000 - C0.rho) ≤ M + x := by rw [next_mul]; omega
                  have hz0 : 0 + y ≤ ((k + 1 : Nat) : Int) * (1000 + C0.rho) := by rw [next_mul]; omega
                  have hsafe := safe_facts (a := p) (g := q + Z) HKK.out hx0 hz0
                  have e1 : p + (M + x) = p + M + x := by omega
                  have e2 : q + Z + (0 + y) = q + Z + y := by omega
                  rw [e1, e2] at hsafe
                  clear e1 e2
                  have HX0 := Lib.hid hx0
                  have HZ0 := Lib.hid hz0
                  have HSAFE := Lib.hid hsafe
                  clear hx0 hz0 hm0 hz1 hsafe
                  go_wp2_with fail
                  go_region_held3 (fun W : World => Below wr.heap.size wr W) (first | assumption | exact hS.drew | exact Below.drew (by assumption) | exact bnext (by assumption) hY) (first | (go_at_call 16; with_reducible refine (gain_any C0 m1 _ (FG.out _ (by assumption))).mono ?_; rintro e wY ⟨rfl, hY⟩; rw [← HX.out]) | (go_at_call 16; with_reducible refine (gain_any C0 m2 _ (FG.out _ (by assumption))).mono ?_; rintro e wY ⟨rfl, hY⟩; rw [← HY.out]))
                  go_wp2_with fail
                  go_region_held3 (fun W : World => Below wr.heap.size wr W) (first | assumption | exact hS.drew | exact Below.drew (by assumption) | exact bnext (by assumption) hY) (first | (go_at_call 16; with_reducible refine (gain_any C0 m1 _ (FG.out _ (by assumption))).mono ?_; rintro e wY ⟨rfl, hY⟩; rw [← HX.out]) | (go_at_call 16; with_reducible refine (gain_any C0 m2 _ (FG.out _ (by assumption))).mono ?_; rintro e wY ⟨rfl, hY⟩; rw [← HY.out]))
                  clear hL hC
                  rename_i hwr
                  have hBc := (hwr.block _ (lt_of_block HB2.out)).trans HB2.out
                  have hbc := bnext HBC.out hwr
                  clear hwr
                  rcases Bool.eq_false_or_eq_true (holdsB C0 p (p + M + x)) with l1 | l1
                  · have H1 := Lib.hid l1
                    have H2 := Lib.hid (HSAFE.out l1)
                    clear l1
                    go_wp2_with (first | (with_reducible refine wpList_load_cfg rfl _ rfl w.heap.size rfl C0 hBc ?_) | (go_at_call 18; with_reducible refine (holds_any C0 p (p + M + x) _ (HG.out.below hbc)).mono ?_; rintro e wX ⟨rfl, hX⟩; have hbc := bnext hbc hX; have hBc := (hX.block _ (lt_of_block hBc)).trans hBc; rw [H1.out]) | (go_at_call 22; with_reducible refine (free_any C0 (q + Z) (q + Z + y) _ (HG.out.below hbc)).mono ?_; rintro e wX ⟨rfl, hX⟩; have hbc := bnext hbc hX; have hBc := (hX.block _ (lt_of_block hBc)).trans hBc; rw [H2.out]))
                    go_roundw
                    case rel => exact ⟨k + 1, M + x, Z + y, Z, by omega, by omega, by go_num, by go_num, by go_num, by go_num, by omega, by omega, by omega, by omega, HX0.out, by have := HZ0.out; omega, hBc, hbc⟩
                    case measure => simp [intOf]; omega
                  · have H1 := Lib.hid l1
                    clear l1
                    go_wp2_with (first | (with_reducible refine wpList_load_cfg rfl _ rfl w.heap.size rfl C0 hBc ?_) | (go_at_call 18; with_reducible refine (holds_any C0 p (p + M + x) _ (HG.out.below hbc)).mono ?_; rintro e wX ⟨rfl, hX⟩; have hbc := bnext hbc hX; have hBc := (hX.block _ (lt_of_block hBc)).trans hBc; rw [H1.out]) | (go_at_call 22; with_reducible refine (free_any C0 (q + Z) (q + Z + y) _ (HG.out.below hbc)).mono ?_; rintro e wX ⟨rfl, hX⟩; have hbc := bnext hbc hX; have hBc := (hX.block _ (lt_of_block hBc)).trans hBc; rw [H2.out]))
                    go_roundw
                    case rel => exact ⟨k + 1, M + x, Z + y, Z, by omega, by omega, by go_num, by go_num, by go_num, by go_num, by omega, by omega, by omega, by omega, HX0.out, by have := HZ0.out; omega, hBc, hbc⟩
                    case measure => simp [intOf]; omega
                · skip
                  have hx0 : ((k + 1 : Nat) : Int) * (1000 - C0.rho) ≤ M + x := by rw [next_mul]; omega
                  have hz0 : (Z - D) + y ≤ ((k + 1 : Nat) : Int) * (1000 + C0.rho) := by rw [next_mul]; omega
                  have hsafe := safe_facts (a := p) (g := q + D) HKK.out hx0 hz0
                  have e1 : p + (M + x) = p + M + x := by omega
                  have e2 : q + D + ((Z - D) + y) = q + Z + y := by omega
                  rw [e1, e2] at hsafe
                  clear e1 e2
                  have HX0 := Lib.hid hx0
                  have HZ0 := Lib.hid hz0
                  have HSAFE := Lib.hid hsafe
                  clear hx0 hz0 hm0 hz1 hsafe
                  go_wp2_with fail
                  go_region_held3 (fun W : World => Below wr.heap.size wr W) (first | assumption | exact hS.drew | exact Below.drew (by assumption) | exact bnext (by assumption) hY) (first | (go_at_call 16; with_reducible refine (gain_any C0 m1 _ (FG.out _ (by assumption))).mono ?_; rintro e wY ⟨rfl, hY⟩; rw [← HX.out]) | (go_at_call 16; with_reducible refine (gain_any C0 m2 _ (FG.out _ (by assumption))).mono ?_; rintro e wY ⟨rfl, hY⟩; rw [← HY.out]))
                  go_wp2_with fail
                  go_region_held3 (fun W : World => Below wr.heap.size wr W) (first | assumption | exact hS.drew | exact Below.drew (by assumption) | exact bnext (by assumption) hY) (first | (go_at_call 16; with_reducible refine (gain_any C0 m1 _ (FG.out _ (by assumption))).mono ?_; rintro e wY ⟨rfl, hY⟩; rw [← HX.out]) | (go_at_call 16; with_reducible refine (gain_any C0 m2 _ (FG.out _ (by assumption))).mono ?_; rintro e wY ⟨rfl, hY⟩; rw [← HY.out]))
                  clear hL hC
                  rename_i hwr
                  have hBc := (hwr.block _ (lt_of_block HB2.out)).trans HB2.out
                  have hbc := bnext HBC.out hwr
                  clear hwr
                  rcases Bool.eq_false_or_eq_true (holdsB C0 p (p + M + x)) with l1 | l1
                  · have H1 := Lib.hid l1
                    have H2 := Lib.hid (HSAFE.out l1)
                    clear l1
                    go_wp2_with (first | (with_reducible refine wpList_load_cfg rfl _ rfl w.heap.size rfl C0 hBc ?_) | (go_at_call 18; with_reducible refine (holds_any C0 p (p + M + x) _ (HG.out.below hbc)).mono ?_; rintro e wX ⟨rfl, hX⟩; have hbc := bnext hbc hX; have hBc := (hX.block _ (lt_of_block hBc)).trans hBc; rw [H1.out]) | (go_at_call 22; with_reducible refine (free_any C0 (q + D) (q + Z + y) _ (HG.out.below hbc)).mono ?_; rintro e wX ⟨rfl, hX⟩; have hbc := bnext hbc hX; have hBc := (hX.block _ (lt_of_block hBc)).trans hBc; rw [H2.out]))
                    go_roundw
                    case rel => exact ⟨k + 1, M + x, Z + y, D, by omega, by omega, by go_num, by go_num, by go_num, by go_num, by omega, by omega, by omega, by omega, HX0.out, by have := HZ0.out; omega, hBc, hbc⟩
                    case measure => simp [intOf]; omega
                  · have H1 := Lib.hid l1
                    clear l1
                    go_wp2_with (first | (with_reducible refine wpList_load_cfg rfl _ rfl w.heap.size rfl C0 hBc ?_) | (go_at_call 18; with_reducible refine (holds_any C0 p (p + M + x) _ (HG.out.below hbc)).mono ?_; rintro e wX ⟨rfl, hX⟩; have hbc := bnext hbc hX; have hBc := (hX.block _ (lt_of_block hBc)).trans hBc; rw [H1.out]) | (go_at_call 22; with_reducible refine (free_any C0 (q + D) (q + Z + y) _ (HG.out.below hbc)).mono ?_; rintro e wX ⟨rfl, hX⟩; have hbc := bnext hbc hX; have hBc := (hX.block _ (lt_of_block hBc)).trans hBc; rw [H2.out]))
                    go_roundw
                    case rel => exact ⟨k + 1, M + x, Z + y, D, by omega, by omega, by go_num, by go_num, by go_num, by go_num, by omega, by omega, by omega, by omega, HX0.out, by have := HZ0.out; omega, hBc, hbc⟩
                    case measure => simp [intOf]; omega
              · go_wp2_with fail
                go_ret
                exact ⟨rfl, hbc⟩
      · clear hk hf
        go_enter Try.func5, Try.ntmps5
        go_wp2_with (first
      | (go_at_call 10; refine (awake_true _).mono ?_; rintro e wA ⟨rfl, hA⟩; have hbc := bnext (bnew (brefl w) _) hA; have hBc := (hA.block w.heap.size (by simp)).trans (heap_alloc_new _ _))
      | (with_reducible refine wpList_load_cfg rfl _ rfl w.heap.size rfl C0 hBc ?_)
      | (go_at_call 11; refine (few_any C0 _ (HG.out.below hbc)).mono ?_; rintro e wX ⟨rfl, hX⟩; have hbc := bnext hbc hX; have hBc := (hX.block _ (lt_of_block hBc)).trans hBc; rw [HF.out])
      | (go_at_call 12; refine (check_any C0 _ (HG.out.below hbc)).mono ?_; rintro e wX ⟨rfl, hX⟩; have hbc := bnext hbc hX; have hBc := (hX.block _ (lt_of_block hBc)).trans hBc; rw [HK.out]))
        all_goals first
          | (exfalso; omega)
          | (go_ret; exact ⟨rfl, hbc⟩)
    · have HK : Hid (chkI C0 = 90) := by show chkI C0 = 90; unfold chkI; rw [if_neg hk]
      clear hk hf
      go_enter Try.func5, Try.ntmps5
      go_wp2_with (first
      | (go_at_call 10; refine (awake_true _).mono ?_; rintro e wA ⟨rfl, hA⟩; have hbc := bnext (bnew (brefl w) _) hA; have hBc := (hA.block w.heap.size (by simp)).trans (heap_alloc_new _ _))
      | (with_reducible refine wpList_load_cfg rfl _ rfl w.heap.size rfl C0 hBc ?_)
      | (go_at_call 11; refine (few_any C0 _ (HG.out.below hbc)).mono ?_; rintro e wX ⟨rfl, hX⟩; have hbc := bnext hbc hX; have hBc := (hX.block _ (lt_of_block hBc)).trans hBc; rw [HF.out])
      | (go_at_call 12; refine (check_any C0 _ (HG.out.below hbc)).mono ?_; rintro e wX ⟨rfl, hX⟩; have hbc := bnext hbc hX; have hBc := (hX.block _ (lt_of_block hBc)).trans hBc; rw [HK.out]))
      go_ret
      exact ⟨rfl, hbc⟩
  · have HF : Hid (fewB C0 = false) := by show fewB C0 = false; simpa using hf
    clear hf
    go_enter Try.func5, Try.ntmps5
    go_wp2_with (first
      | (go_at_call 10; refine (awake_true _).mono ?_; rintro e wA ⟨rfl, hA⟩; have hbc := bnext (bnew (brefl w) _) hA; have hBc := (hA.block w.heap.size (by simp)).trans (heap_alloc_new _ _))
      | (with_reducible refine wpList_load_cfg rfl _ rfl w.heap.size rfl C0 hBc ?_)
      | (go_at_call 11; refine (few_any C0 _ (HG.out.below hbc)).mono ?_; rintro e wX ⟨rfl, hX⟩; have hbc := bnext hbc hX; have hBc := (hX.block _ (lt_of_block hBc)).trans hBc; rw [HF.out])
      | (go_at_call 12; refine (check_any C0 _ (HG.out.below hbc)).mono ?_; rintro e wX ⟨rfl, hX⟩; have hbc := bnext hbc hX; have hBc := (hX.block _ (lt_of_block hBc)).trans hBc; rw [HK.out]))
    go_ret
    exact ⟨rfl, hbc⟩
end Go.Proofs.Ytdllcnafcghcfaa
