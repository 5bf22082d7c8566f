/- The walk of DriftMost: true, and nothing that was there has changed. -/
import Derived.Test.YtdllcnafcghcfaaAwake
namespace Go.Proofs.Ytdllcnafcghcfaa
open Go.RowKit
theorem cfg_cells {w : World} {b : Nat} {C : Cv} (hb : w.heap[b]? = some (.cells C.cells 25 (0, 0))) : w.cell? ⟨b, 0, none⟩ = some (.int .i64 C.nodes) ∧ w.cell? ⟨b, 1, none⟩ = some (.int .i64 C.slots) ∧ w.cell? ⟨b, 2, none⟩ = some (.int .i64 C.rho) ∧ w.cell? ⟨b, 3, none⟩ = some (.int .i64 C.hold) ∧ w.cell? ⟨b, 4, none⟩ = some (.int .i64 C.grant) ∧ w.cell? ⟨b, 5, none⟩ = some (.int .i64 C.guard) ∧ w.cell? ⟨b, 6, none⟩ = some (.int .i64 C.work) ∧ w.cell? ⟨b, 7, none⟩ = some (.slice C.sa C.sn C.sc) ∧ w.cell? ⟨b, 8, none⟩ = some (.slice C.na C.nn C.nc) ∧ w.cell? ⟨b, 9, none⟩ = some (.int .i64 C.soak) ∧ w.cell? ⟨b, 10, none⟩ = some (.int .i64 C.pass) := by
  refine ⟨?_, ?_, ?_, ?_, ?_, ?_, ?_, ?_, ?_, ?_, ?_⟩ <;> (rw [cell_of_row _ _ _ _ _ _ hb]; rfl)

set_option maxRecDepth 100000 in
set_option maxHeartbeats 1000000 in
theorem walk_DriftMost (C0 : Cv) (a b : Int) (w : World) (w0 : Good w C0) (_w1 : (Lit.int .i64 a).wf = true) (_w2 : (Lit.int .i64 b).wf = true) :
    Calls Try.prog 7 #[.agg C0.cells, .int .i64 a, .int .i64 b] w fun e w' => e = .returned (.bool true) ∧ Below w.heap.size w w' := by
  have HG := Lib.hid w0
  clear w0
  by_cases hf : fewB C0 = true
  · have HF := Lib.hid hf
    by_cases hk : chk C0 = true
    · have HK : Hid (chkI C0 = 0) := by show chkI C0 = 0; unfold chkI; rw [if_pos hk]
      have F := chk_facts hk
      obtain ⟨m, hm⟩ : ∃ m, m = majI C0 := ⟨_, rfl⟩
      obtain ⟨x, hx⟩ : ∃ x, x = gainI C0 a := ⟨_, rfl⟩
      obtain ⟨y, hy⟩ : ∃ y, y = gainI C0 b := ⟨_, rfl⟩
      have m1 : m = C0.nodes / 2 + 1 := by rw [hm]; unfold majI; rw [if_pos hk]
      have x1 : x = min (max a (1000 - C0.rho)) (1000 + C0.rho) := by rw [hx]; unfold gainI; rw [if_pos hk]
      have y1 : y = min (max b (1000 - C0.rho)) (1000 + C0.rho) := by rw [hy]; unfold gainI; rw [if_pos hk]
      have k1 : 1 ≤ m := by omega
      have k2 : m ≤ 9 := by omega
      have k3 : C0.nodes < 2 * m := by omega
      have k4 : 2 * (m - 1) ≤ C0.nodes := by omega
      have k5 : 1000 - C0.rho ≤ x := by omega
      have k6 : x ≤ 1000 + C0.rho := by omega
      have k7 : a ≤ b → x ≤ y := by omega
      have k8 : 0 ≤ C0.rho := by omega
      have k9 : C0.rho ≤ 500 := by omega
      have HM := Lib.hid hm
      have HX := Lib.hid hx
      have HY := Lib.hid hy
      clear F hk hf hm hx hy m1 x1 y1
      by_cases hab : b < a
      · clear k7
        go_enter Try.func7, Try.ntmps7
        go_wp2_with (first
      | (go_at_call 10; refine (awake_true _).mono ?_; rintro e wA ⟨rfl, hA⟩; have hbc := bnext (bnew (brefl w) _) hA; have hBc := (hA.block w.heap.size (by simp)).trans (heap_alloc_new _ _))
      | (with_reducible refine wpList_load_cfg rfl _ rfl w.heap.size rfl C0 hBc ?_)
      | (go_at_call 11; refine (few_any C0 _ (HG.out.below hbc)).mono ?_; rintro e wX ⟨rfl, hX⟩; have hbc := bnext hbc hX; have hBc := (hX.block _ (lt_of_block hBc)).trans hBc; rw [HF.out])
      | (go_at_call 12; refine (check_any C0 _ (HG.out.below hbc)).mono ?_; rintro e wX ⟨rfl, hX⟩; have hbc := bnext hbc hX; have hBc := (hX.block _ (lt_of_block hBc)).trans hBc; rw [HK.out]; obtain ⟨f0, f1, f2, f3, f4, f5, f6, f7, f8, f9, f10⟩ := cfg_cells hBc)
      | (go_at_call 14; refine (maj_any C0  _ (HG.out.below hbc)).mono ?_; rintro e wX ⟨rfl, hX⟩; have hbc := bnext hbc hX; have hBc := (hX.block _ (lt_of_block hBc)).trans hBc; rw [← HM.out])
      | (go_at_call 16; with_reducible refine (gain_any C0 a _ (HG.out.below hbc)).mono ?_; rintro e wX ⟨rfl, hX⟩; have hbc := bnext hbc hX; have hBc := (hX.block _ (lt_of_block hBc)).trans hBc; rw [← HX.out])
      | (go_at_call 16; with_reducible refine (gain_any C0 b _ (HG.out.below hbc)).mono ?_; rintro e wX ⟨rfl, hX⟩; have hbc := bnext hbc hX; have hBc := (hX.block _ (lt_of_block hBc)).trans hBc; rw [← HY.out]))
        go_ret
        exact ⟨rfl, hbc⟩
      · have k7' := k7 (by omega)
        clear k7
        go_enter Try.func7, Try.ntmps7
        go_wp2_with (first
      | (go_at_call 10; refine (awake_true _).mono ?_; rintro e wA ⟨rfl, hA⟩; have hbc := bnext (bnew (brefl w) _) hA; have hBc := (hA.block w.heap.size (by simp)).trans (heap_alloc_new _ _))
      | (with_reducible refine wpList_load_cfg rfl _ rfl w.heap.size rfl C0 hBc ?_)
      | (go_at_call 11; refine (few_any C0 _ (HG.out.below hbc)).mono ?_; rintro e wX ⟨rfl, hX⟩; have hbc := bnext hbc hX; have hBc := (hX.block _ (lt_of_block hBc)).trans hBc; rw [HF.out])
      | (go_at_call 12; refine (check_any C0 _ (HG.out.below hbc)).mono ?_; rintro e wX ⟨rfl, hX⟩; have hbc := bnext hbc hX; have hBc := (hX.block _ (lt_of_block hBc)).trans hBc; rw [HK.out]; obtain ⟨f0, f1, f2, f3, f4, f5, f6, f7, f8, f9, f10⟩ := cfg_cells hBc)
      | (go_at_call 14; refine (maj_any C0  _ (HG.out.below hbc)).mono ?_; rintro e wX ⟨rfl, hX⟩; have hbc := bnext hbc hX; have hBc := (hX.block _ (lt_of_block hBc)).trans hBc; rw [← HM.out])
      | (go_at_call 16; with_reducible refine (gain_any C0 a _ (HG.out.below hbc)).mono ?_; rintro e wX ⟨rfl, hX⟩; have hbc := bnext hbc hX; have hBc := (hX.block _ (lt_of_block hBc)).trans hBc; rw [← HX.out])
      | (go_at_call 16; with_reducible refine (gain_any C0 b _ (HG.out.below hbc)).mono ?_; rintro e wX ⟨rfl, hX⟩; have hbc := bnext hbc hX; have hBc := (hX.block _ (lt_of_block hBc)).trans hBc; rw [← HY.out]))
        go_ret
        exact ⟨rfl, hbc⟩
    · have HK : Hid (chkI C0 = 90) := by show chkI C0 = 90; unfold chkI; rw [if_neg hk]
      have HM : Hid (0 = majI C0) := by show 0 = majI C0; unfold majI; rw [if_neg hk]
      have HX : Hid (0 = gainI C0 a) := by show 0 = gainI C0 a; unfold gainI; rw [if_neg hk]
      have HY : Hid (0 = gainI C0 b) := by show 0 = gainI C0 b; unfold gainI; rw [if_neg hk]
      clear hk hf
      go_enter Try.func7, Try.ntmps7
      go_wp2_with (first
      | (go_at_call 10; refine (awake_true _).mono ?_; rintro e wA ⟨rfl, hA⟩; have hbc := bnext (bnew (brefl w) _) hA; have hBc := (hA.block w.heap.size (by simp)).trans (heap_alloc_new _ _))
      | (with_reducible refine wpList_load_cfg rfl _ rfl w.heap.size rfl C0 hBc ?_)
      | (go_at_call 11; refine (few_any C0 _ (HG.out.below hbc)).mono ?_; rintro e wX ⟨rfl, hX⟩; have hbc := bnext hbc hX; have hBc := (hX.block _ (lt_of_block hBc)).trans hBc; rw [HF.out])
      | (go_at_call 12; refine (check_any C0 _ (HG.out.below hbc)).mono ?_; rintro e wX ⟨rfl, hX⟩; have hbc := bnext hbc hX; have hBc := (hX.block _ (lt_of_block hBc)).trans hBc; rw [HK.out]; obtain ⟨f0, f1, f2, f3, f4, f5, f6, f7, f8, f9, f10⟩ := cfg_cells hBc)
      | (go_at_call 14; refine (maj_any C0  _ (HG.out.below hbc)).mono ?_; rintro e wX ⟨rfl, hX⟩; have hbc := bnext hbc hX; have hBc := (hX.block _ (lt_of_block hBc)).trans hBc; rw [← HM.out])
      | (go_at_call 16; with_reducible refine (gain_any C0 a _ (HG.out.below hbc)).mono ?_; rintro e wX ⟨rfl, hX⟩; have hbc := bnext hbc hX; have hBc := (hX.block _ (lt_of_block hBc)).trans hBc; rw [← HX.out])
      | (go_at_call 16; with_reducible refine (gain_any C0 b _ (HG.out.below hbc)).mono ?_; rintro e wX ⟨rfl, hX⟩; have hbc := bnext hbc hX; have hBc := (hX.block _ (lt_of_block hBc)).trans hBc; rw [← HY.out]))
      go_ret
      exact ⟨rfl, hbc⟩
  · have HF : Hid (fewB C0 = false) := by show fewB C0 = false; simpa using hf
    clear hf
    go_enter Try.func7, Try.ntmps7
    go_wp2_with (first
      | (go_at_call 10; refine (awake_true _).mono ?_; rintro e wA ⟨rfl, hA⟩; have hbc := bnext (bnew (brefl w) _) hA; have hBc := (hA.block w.heap.size (by simp)).trans (heap_alloc_new _ _))
      | (with_reducible refine wpList_load_cfg rfl _ rfl w.heap.size rfl C0 hBc ?_)
      | (go_at_call 11; refine (few_any C0 _ (HG.out.below hbc)).mono ?_; rintro e wX ⟨rfl, hX⟩; have hbc := bnext hbc hX; have hBc := (hX.block _ (lt_of_block hBc)).trans hBc; rw [HF.out])
      | (go_at_call 12; refine (check_any C0 _ (HG.out.below hbc)).mono ?_; rintro e wX ⟨rfl, hX⟩; have hbc := bnext hbc hX; have hBc := (hX.block _ (lt_of_block hBc)).trans hBc; rw [HK.out]))
    go_ret
    exact ⟨rfl, hbc⟩
end Go.Proofs.Ytdllcnafcghcfaa
