/- The walk of DriftTells: true, and nothing that was there has changed. -/
import Derived.Test.YtdllcnafcghcfaaAwake
import Derived.Test.YtdllcnafcghcfaaRef
import Derived.Deep.RegionHeld3
namespace Go.Proofs.Ytdllcnafcghcfaa
open Go.RowKit
theorem cfg_cells {w : World} {b : Nat} {C : Cv} (hb : w.heap[b]? = some (.cells C.cells 25 (0, 0))) : w.cell? ⟨b, 0, none⟩ = some (.int .i64 C.nodes) ∧ w.cell? ⟨b, 1, none⟩ = some (.int .i64 C.slots) ∧ w.cell? ⟨b, 2, none⟩ = some (.int .i64 C.rho) ∧ w.cell? ⟨b, 3, none⟩ = some (.int .i64 C.hold) ∧ w.cell? ⟨b, 4, none⟩ = some (.int .i64 C.grant) ∧ w.cell? ⟨b, 5, none⟩ = some (.int .i64 C.guard) ∧ w.cell? ⟨b, 6, none⟩ = some (.int .i64 C.work) ∧ w.cell? ⟨b, 7, none⟩ = some (.slice C.sa C.sn C.sc) ∧ w.cell? ⟨b, 8, none⟩ = some (.slice C.na C.nn C.nc) ∧ w.cell? ⟨b, 9, none⟩ = some (.int .i64 C.soak) ∧ w.cell? ⟨b, 10, none⟩ = some (.int .i64 C.pass) := by
  refine ⟨?_, ?_, ?_, ?_, ?_, ?_, ?_, ?_, ?_, ?_, ?_⟩ <;> (rw [cell_of_row _ _ _ _ _ _ hb]; rfl)

set_option maxRecDepth 100000 in
set_option maxHeartbeats 4000000 in
theorem walk_DriftTells (C0 : Cv) (t a b : Int) (w : World) (w0 : Good w C0) (_w1 : (Lit.int .i64 t).wf = true) (_w2 : (Lit.int .i64 a).wf = true) (_w3 : (Lit.int .i64 b).wf = true) :
    Calls Try.prog 4 #[.agg C0.cells, .int .i64 t, .int .i64 a, .int .i64 b] w fun e w' => e = .returned (.bool true) ∧ Below w.heap.size w w' := by
  have HG := Lib.hid w0
  clear w0
  by_cases hf : fewB C0 = true
  · have HF := Lib.hid hf
    obtain ⟨k, hk⟩ : ∃ k, chkI C0 = k := ⟨_, rfl⟩
    obtain ⟨m, hm⟩ : ∃ m, majI C0 = m := ⟨_, rfl⟩
    obtain ⟨g, hg⟩ : ∃ g, gainI C0 t = g := ⟨_, rfl⟩
    obtain ⟨x, hx⟩ : ∃ x, holdsB C0 a b = x := ⟨_, rfl⟩
    obtain ⟨y, hy⟩ : ∃ y, lateB C0 a b = y := ⟨_, rfl⟩
    obtain ⟨z, hz⟩ : ∃ z, freeB C0 a b = z := ⟨_, rfl⟩
    have HK := Lib.hid hk
    have HM := Lib.hid hm
    have HN := Lib.hid hg
    have HX := Lib.hid hx
    have HY := Lib.hid hy
    have HZ := Lib.hid hz
    clear hf hk hm hg hx hy hz
    go_enter Try.func4, Try.ntmps4
    go_wp2_with (first
      | (go_at_call 10; refine (awake_true _).mono ?_; rintro e wA ⟨rfl, hA⟩; have hbc := bnext (bnew (brefl w) _) hA; have hBc := (hA.block w.heap.size (by simp)).trans (heap_alloc_new _ _))
      | (with_reducible refine wpList_load_cfg rfl _ rfl w.heap.size rfl C0 hBc ?_)
      | (go_at_call 11; refine (few_any C0 _ (HG.out.below hbc)).mono ?_; rintro e wX ⟨rfl, hX⟩; have hbc := bnext hbc hX; have hBc := (hX.block _ (lt_of_block hBc)).trans hBc; rw [HF.out])
      | (go_at_call 12; refine (check_any C0 _ (HG.out.below hbc)).mono ?_; rintro e wX ⟨rfl, hX⟩; have hbc := bnext hbc hX; have hBc := (hX.block _ (lt_of_block hBc)).trans hBc; rw [HK.out]))
    have hL : ∀ W, Below wX.heap.size wX W → W.cell? ⟨w.heap.size, 0, none⟩ = some (.int .i64 C0.nodes) ∧ W.cell? ⟨w.heap.size, 1, none⟩ = some (.int .i64 C0.slots) ∧ W.cell? ⟨w.heap.size, 2, none⟩ = some (.int .i64 C0.rho) ∧ W.cell? ⟨w.heap.size, 3, none⟩ = some (.int .i64 C0.hold) ∧ W.cell? ⟨w.heap.size, 4, none⟩ = some (.int .i64 C0.grant) ∧ W.cell? ⟨w.heap.size, 5, none⟩ = some (.int .i64 C0.guard) ∧ W.cell? ⟨w.heap.size, 6, none⟩ = some (.int .i64 C0.work) ∧ W.cell? ⟨w.heap.size, 7, none⟩ = some (.slice C0.sa C0.sn C0.sc) ∧ W.cell? ⟨w.heap.size, 8, none⟩ = some (.slice C0.na C0.nn C0.nc) ∧ W.cell? ⟨w.heap.size, 9, none⟩ = some (.int .i64 C0.soak) ∧ W.cell? ⟨w.heap.size, 10, none⟩ = some (.int .i64 C0.pass) := fun W h => cfg_cells ((h.block _ (lt_of_block hBc)).trans hBc)
    have FG : Hid (∀ W, Below wX.heap.size wX W → Good W C0) := fun W h => (HG.out.below hbc).below h
    have HBC := Lib.hid hbc
    have hS : Below wX.heap.size wX wX := Below.refl _ _
    clear hbc hBc hA hX
    go_region_held3 (fun W : World => Below wX.heap.size wX W) (first | assumption | exact hS.drew | exact bnext (by assumption) hY) (first
      | (go_at_call 12; with_reducible refine (check_any C0  _ (FG.out _ (by assumption))).mono ?_; rintro e wY ⟨rfl, hY⟩; rw [HK.out])
      | (go_at_call 13; with_reducible refine (rcheck_any C0  _ (FG.out _ (by assumption))).mono ?_; rintro e wY ⟨rfl, hY⟩; rw [HK.out])
      | (go_at_call 14; with_reducible refine (maj_any C0  _ (FG.out _ (by assumption))).mono ?_; rintro e wY ⟨rfl, hY⟩; rw [HM.out])
      | (go_at_call 15; with_reducible refine (rmaj_any C0  _ (FG.out _ (by assumption))).mono ?_; rintro e wY ⟨rfl, hY⟩; rw [HM.out])
      | (go_at_call 16; with_reducible refine (gain_any C0 t _ (FG.out _ (by assumption))).mono ?_; rintro e wY ⟨rfl, hY⟩; rw [HN.out])
      | (go_at_call 17; with_reducible refine (rgain_any C0 t _ (FG.out _ (by assumption))).mono ?_; rintro e wY ⟨rfl, hY⟩; rw [HN.out])
      | (go_at_call 18; with_reducible refine (holds_any C0 a b _ (FG.out _ (by assumption))).mono ?_; rintro e wY ⟨rfl, hY⟩; rw [HX.out])
      | (go_at_call 19; with_reducible refine (rholds_any C0 a b _ (FG.out _ (by assumption))).mono ?_; rintro e wY ⟨rfl, hY⟩; rw [HX.out])
      | (go_at_call 20; with_reducible refine (late_any C0 a b _ (FG.out _ (by assumption))).mono ?_; rintro e wY ⟨rfl, hY⟩; rw [HY.out])
      | (go_at_call 21; with_reducible refine (rlate_any C0 a b _ (FG.out _ (by assumption))).mono ?_; rintro e wY ⟨rfl, hY⟩; rw [HY.out])
      | (go_at_call 22; with_reducible refine (free_any C0 a b _ (FG.out _ (by assumption))).mono ?_; rintro e wY ⟨rfl, hY⟩; rw [HZ.out])
      | (go_at_call 23; with_reducible refine (rfree_any C0 a b _ (FG.out _ (by assumption))).mono ?_; rintro e wY ⟨rfl, hY⟩; rw [HZ.out]))
    all_goals
      go_wp2_with fail
      go_region_held3 (fun W : World => Below wX.heap.size wX W) (first | assumption | exact hS.drew | exact Below.drew (by assumption) | exact bnext (by assumption) hY) (first
      | (go_at_call 12; with_reducible refine (check_any C0  _ (FG.out _ (by assumption))).mono ?_; rintro e wY ⟨rfl, hY⟩; rw [HK.out])
      | (go_at_call 13; with_reducible refine (rcheck_any C0  _ (FG.out _ (by assumption))).mono ?_; rintro e wY ⟨rfl, hY⟩; rw [HK.out])
      | (go_at_call 14; with_reducible refine (maj_any C0  _ (FG.out _ (by assumption))).mono ?_; rintro e wY ⟨rfl, hY⟩; rw [HM.out])
      | (go_at_call 15; with_reducible refine (rmaj_any C0  _ (FG.out _ (by assumption))).mono ?_; rintro e wY ⟨rfl, hY⟩; rw [HM.out])
      | (go_at_call 16; with_reducible refine (gain_any C0 t _ (FG.out _ (by assumption))).mono ?_; rintro e wY ⟨rfl, hY⟩; rw [HN.out])
      | (go_at_call 17; with_reducible refine (rgain_any C0 t _ (FG.out _ (by assumption))).mono ?_; rintro e wY ⟨rfl, hY⟩; rw [HN.out])
      | (go_at_call 18; with_reducible refine (holds_any C0 a b _ (FG.out _ (by assumption))).mono ?_; rintro e wY ⟨rfl, hY⟩; rw [HX.out])
      | (go_at_call 19; with_reducible refine (rholds_any C0 a b _ (FG.out _ (by assumption))).mono ?_; rintro e wY ⟨rfl, hY⟩; rw [HX.out])
      | (go_at_call 20; with_reducible refine (late_any C0 a b _ (FG.out _ (by assumption))).mono ?_; rintro e wY ⟨rfl, hY⟩; rw [HY.out])
      | (go_at_call 21; with_reducible refine (rlate_any C0 a b _ (FG.out _ (by assumption))).mono ?_; rintro e wY ⟨rfl, hY⟩; rw [HY.out])
      | (go_at_call 22; with_reducible refine (free_any C0 a b _ (FG.out _ (by assumption))).mono ?_; rintro e wY ⟨rfl, hY⟩; rw [HZ.out])
      | (go_at_call 23; with_reducible refine (rfree_any C0 a b _ (FG.out _ (by assumption))).mono ?_; rintro e wY ⟨rfl, hY⟩; rw [HZ.out]))
    all_goals
      go_wp2_with fail
      go_ret
      exact ⟨rfl, bnext HBC.out (by assumption)⟩
  · have HF : Hid (fewB C0 = false) := by show fewB C0 = false; simpa using hf
    clear hf
    go_enter Try.func4, Try.ntmps4
    go_wp2_with (first
      | (go_at_call 10; refine (awake_true _).mono ?_; rintro e wA ⟨rfl, hA⟩; have hbc := bnext (bnew (brefl w) _) hA; have hBc := (hA.block w.heap.size (by simp)).trans (heap_alloc_new _ _))
      | (with_reducible refine wpList_load_cfg rfl _ rfl w.heap.size rfl C0 hBc ?_)
      | (go_at_call 11; refine (few_any C0 _ (HG.out.below hbc)).mono ?_; rintro e wX ⟨rfl, hX⟩; have hbc := bnext hbc hX; have hBc := (hX.block _ (lt_of_block hBc)).trans hBc; rw [HF.out])
      | (go_at_call 12; refine (check_any C0 _ (HG.out.below hbc)).mono ?_; rintro e wX ⟨rfl, hX⟩; have hbc := bnext hbc hX; have hBc := (hX.block _ (lt_of_block hBc)).trans hBc; rw [HK.out]))
    go_ret
    exact ⟨rfl, hbc⟩
end Go.Proofs.Ytdllcnafcghcfaa
