/- The walk of DriftTimes: true, and nothing that was there has changed. -/
import Derived.Test.YtdllcnafcghcfaaAwake
namespace Go.Proofs.Ytdllcnafcghcfaa
open Go.RowKit
theorem cfg_cells {w : World} {b : Nat} {C : Cv} (hb : w.heap[b]? = some (.cells C.cells 25 (0, 0))) : w.cell? ⟨b, 0, none⟩ = some (.int .i64 C.nodes) ∧ w.cell? ⟨b, 1, none⟩ = some (.int .i64 C.slots) ∧ w.cell? ⟨b, 2, none⟩ = some (.int .i64 C.rho) ∧ w.cell? ⟨b, 3, none⟩ = some (.int .i64 C.hold) ∧ w.cell? ⟨b, 4, none⟩ = some (.int .i64 C.grant) ∧ w.cell? ⟨b, 5, none⟩ = some (.int .i64 C.guard) ∧ w.cell? ⟨b, 6, none⟩ = some (.int .i64 C.work) ∧ w.cell? ⟨b, 7, none⟩ = some (.slice C.sa C.sn C.sc) ∧ w.cell? ⟨b, 8, none⟩ = some (.slice C.na C.nn C.nc) ∧ w.cell? ⟨b, 9, none⟩ = some (.int .i64 C.soak) ∧ w.cell? ⟨b, 10, none⟩ = some (.int .i64 C.pass) := by
  refine ⟨?_, ?_, ?_, ?_, ?_, ?_, ?_, ?_, ?_, ?_, ?_⟩ <;> (rw [cell_of_row _ _ _ _ _ _ hb]; rfl)

theorem times_facts {C : Cv} {a b d : Int} (hk : chk C = true) (h0 : 0 ≤ a) (h1 : a ≤ b) (h2 : b ≤ 1152921504606846976) (h3 : b ≤ d) (h4 : d ≤ b + 4294967295) :
    (holdsB C a b && freeB C a b) = false ∧ (lateB C a b = true → lateB C a d = true) ∧ (freeB C a b = true → freeB C a d = true) ∧ holdsB C a a = true := by
  have F := chk_facts hk
  have T1 : timeB a b = true := by simp [timeB]; omega
  have T2 : timeB a d = true := by simp [timeB]; omega
  have T3 : timeB a a = true := by simp [timeB]; omega
  have hp : C.hold < C.grant := by
    have h8 := F.2.2.2.2.2.2.2.1
    have h5 : C.hold * 1000 ≤ C.hold * (1000 + C.rho) := Int.mul_le_mul_of_nonneg_left (by omega) (by omega)
    have h6 : C.grant * (1000 - C.rho) ≤ C.grant * 1000 := Int.mul_le_mul_of_nonneg_left (by omega) (by omega)
    omega
  unfold lateB holdsB freeB
  rw [hk, T1, T2, T3]
  simp
  omega
set_option maxRecDepth 100000 in
set_option maxHeartbeats 1000000 in
theorem walk_DriftTimes (C0 : Cv) (a b m : Int) (w : World) (w0 : Good w C0) (w1 : (Lit.int .i64 a).wf = true) (w2 : (Lit.int .i64 b).wf = true) (w3 : (Lit.int .u32 m).wf = true) :
    Calls Try.prog 8 #[.agg C0.cells, .int .i64 a, .int .i64 b, .int .u32 m] w fun e w' => e = .returned (.bool true) ∧ Below w.heap.size w w' := by
  have HG := Lib.hid w0
  clear w0
  have r1 := i64_range w1
  have r2 := i64_range w2
  have r3 : 0 ≤ m ∧ m ≤ 4294967295 := by
    simp only [Lit.wf, Bool.and_eq_true, decide_eq_true_eq] at w3
    have h1 : IntKind.u32.min = 0 := rfl
    have h2 : IntKind.u32.max = 4294967295 := rfl
    omega
  obtain ⟨r4, r5⟩ := r3
  clear w1 w2 w3
  by_cases hf : fewB C0 = true
  · have HF := Lib.hid hf
    by_cases hk : chk C0 = true
    · have HK : Hid (chkI C0 = 0) := by show chkI C0 = 0; unfold chkI; rw [if_pos hk]
      by_cases h0 : 0 ≤ a
      · by_cases h1 : a ≤ b
        · by_cases h2 : b ≤ 1152921504606846976
          · obtain ⟨g1, g2, g3, g4⟩ := times_facts hk h0 h1 h2 (d := b + m) (by omega) (by omega)
            have H4 := Lib.hid g4
            clear hk hf r1 r2 g4
            rcases Bool.eq_false_or_eq_true (lateB C0 a b) with l1 | l1 <;> rcases Bool.eq_false_or_eq_true (freeB C0 a b) with f1 | f1
            · have L2 := Lib.hid (g2 l1)
              have F2 := Lib.hid (g3 f1)
              have H1 : Hid (holdsB C0 a b = false) := by show holdsB C0 a b = false; simpa [f1] using g1
              have L1 := Lib.hid l1
              have F1 := Lib.hid f1
              clear l1 f1 g1 g2 g3
              go_enter Try.func8, Try.ntmps8
              go_wp2_with (first
      | (go_at_call 10; refine (awake_true _).mono ?_; rintro e wA ⟨rfl, hA⟩; have hbc := bnext (bnew (brefl w) _) hA; have hBc := (hA.block w.heap.size (by simp)).trans (heap_alloc_new _ _))
      | (with_reducible refine wpList_load_cfg rfl _ rfl w.heap.size rfl C0 hBc ?_)
      | (go_at_call 11; refine (few_any C0 _ (HG.out.below hbc)).mono ?_; rintro e wX ⟨rfl, hX⟩; have hbc := bnext hbc hX; have hBc := (hX.block _ (lt_of_block hBc)).trans hBc; rw [HF.out])
      | (go_at_call 12; refine (check_any C0 _ (HG.out.below hbc)).mono ?_; rintro e wX ⟨rfl, hX⟩; have hbc := bnext hbc hX; have hBc := (hX.block _ (lt_of_block hBc)).trans hBc; rw [HK.out]; obtain ⟨f0, f1, f2, f3, f4, f5, f6, f7, f8, f9, f10⟩ := cfg_cells hBc)
      | (go_at_call 20; with_reducible refine (late_any C0 a b _ (HG.out.below hbc)).mono ?_; rintro e wX ⟨rfl, hX⟩; have hbc := bnext hbc hX; have hBc := (hX.block _ (lt_of_block hBc)).trans hBc; rw [L1.out])
      | (go_at_call 20; with_reducible refine (late_any C0 a (b + m) _ (HG.out.below hbc)).mono ?_; rintro e wX ⟨rfl, hX⟩; have hbc := bnext hbc hX; have hBc := (hX.block _ (lt_of_block hBc)).trans hBc; rw [L2.out])
      | (go_at_call 22; with_reducible refine (free_any C0 a b _ (HG.out.below hbc)).mono ?_; rintro e wX ⟨rfl, hX⟩; have hbc := bnext hbc hX; have hBc := (hX.block _ (lt_of_block hBc)).trans hBc; rw [F1.out])
      | (go_at_call 22; with_reducible refine (free_any C0 a (b + m) _ (HG.out.below hbc)).mono ?_; rintro e wX ⟨rfl, hX⟩; have hbc := bnext hbc hX; have hBc := (hX.block _ (lt_of_block hBc)).trans hBc; rw [F2.out])
      | (go_at_call 18; with_reducible refine (holds_any C0 a b _ (HG.out.below hbc)).mono ?_; rintro e wX ⟨rfl, hX⟩; have hbc := bnext hbc hX; have hBc := (hX.block _ (lt_of_block hBc)).trans hBc; rw [H1.out])
      | (go_at_call 18; with_reducible refine (holds_any C0 a a _ (HG.out.below hbc)).mono ?_; rintro e wX ⟨rfl, hX⟩; have hbc := bnext hbc hX; have hBc := (hX.block _ (lt_of_block hBc)).trans hBc; rw [H4.out]))
              go_ret
              exact ⟨rfl, hbc⟩
            · have L2 := Lib.hid (g2 l1)
              obtain ⟨h, hh⟩ : ∃ h, holdsB C0 a b = h := ⟨_, rfl⟩
              have H1 := Lib.hid hh
              have L1 := Lib.hid l1
              have F1 := Lib.hid f1
              clear l1 f1 g1 g2 g3 hh
              cases h <;>
              (go_enter Try.func8, Try.ntmps8
               go_wp2_with (first
      | (go_at_call 10; refine (awake_true _).mono ?_; rintro e wA ⟨rfl, hA⟩; have hbc := bnext (bnew (brefl w) _) hA; have hBc := (hA.block w.heap.size (by simp)).trans (heap_alloc_new _ _))
      | (with_reducible refine wpList_load_cfg rfl _ rfl w.heap.size rfl C0 hBc ?_)
      | (go_at_call 11; refine (few_any C0 _ (HG.out.below hbc)).mono ?_; rintro e wX ⟨rfl, hX⟩; have hbc := bnext hbc hX; have hBc := (hX.block _ (lt_of_block hBc)).trans hBc; rw [HF.out])
      | (go_at_call 12; refine (check_any C0 _ (HG.out.below hbc)).mono ?_; rintro e wX ⟨rfl, hX⟩; have hbc := bnext hbc hX; have hBc := (hX.block _ (lt_of_block hBc)).trans hBc; rw [HK.out]; obtain ⟨f0, f1, f2, f3, f4, f5, f6, f7, f8, f9, f10⟩ := cfg_cells hBc)
      | (go_at_call 20; with_reducible refine (late_any C0 a b _ (HG.out.below hbc)).mono ?_; rintro e wX ⟨rfl, hX⟩; have hbc := bnext hbc hX; have hBc := (hX.block _ (lt_of_block hBc)).trans hBc; rw [L1.out])
      | (go_at_call 20; with_reducible refine (late_any C0 a (b + m) _ (HG.out.below hbc)).mono ?_; rintro e wX ⟨rfl, hX⟩; have hbc := bnext hbc hX; have hBc := (hX.block _ (lt_of_block hBc)).trans hBc; rw [L2.out])
      | (go_at_call 22; with_reducible refine (free_any C0 a b _ (HG.out.below hbc)).mono ?_; rintro e wX ⟨rfl, hX⟩; have hbc := bnext hbc hX; have hBc := (hX.block _ (lt_of_block hBc)).trans hBc; rw [F1.out])
      | (go_at_call 22; with_reducible refine (free_any C0 a (b + m) _ (HG.out.below hbc)).mono ?_; rintro e wX ⟨rfl, hX⟩; have hbc := bnext hbc hX; have hBc := (hX.block _ (lt_of_block hBc)).trans hBc; rw [F2.out])
      | (go_at_call 18; with_reducible refine (holds_any C0 a b _ (HG.out.below hbc)).mono ?_; rintro e wX ⟨rfl, hX⟩; have hbc := bnext hbc hX; have hBc := (hX.block _ (lt_of_block hBc)).trans hBc; rw [H1.out])
      | (go_at_call 18; with_reducible refine (holds_any C0 a a _ (HG.out.below hbc)).mono ?_; rintro e wX ⟨rfl, hX⟩; have hbc := bnext hbc hX; have hBc := (hX.block _ (lt_of_block hBc)).trans hBc; rw [H4.out]))
               go_ret
               exact ⟨rfl, hbc⟩)
            · have F2 := Lib.hid (g3 f1)
              have H1 : Hid (holdsB C0 a b = false) := by show holdsB C0 a b = false; simpa [f1] using g1
              have L1 := Lib.hid l1
              have F1 := Lib.hid f1
              clear l1 f1 g1 g2 g3
              go_enter Try.func8, Try.ntmps8
              go_wp2_with (first
      | (go_at_call 10; refine (awake_true _).mono ?_; rintro e wA ⟨rfl, hA⟩; have hbc := bnext (bnew (brefl w) _) hA; have hBc := (hA.block w.heap.size (by simp)).trans (heap_alloc_new _ _))
      | (with_reducible refine wpList_load_cfg rfl _ rfl w.heap.size rfl C0 hBc ?_)
      | (go_at_call 11; refine (few_any C0 _ (HG.out.below hbc)).mono ?_; rintro e wX ⟨rfl, hX⟩; have hbc := bnext hbc hX; have hBc := (hX.block _ (lt_of_block hBc)).trans hBc; rw [HF.out])
      | (go_at_call 12; refine (check_any C0 _ (HG.out.below hbc)).mono ?_; rintro e wX ⟨rfl, hX⟩; have hbc := bnext hbc hX; have hBc := (hX.block _ (lt_of_block hBc)).trans hBc; rw [HK.out]; obtain ⟨f0, f1, f2, f3, f4, f5, f6, f7, f8, f9, f10⟩ := cfg_cells hBc)
      | (go_at_call 20; with_reducible refine (late_any C0 a b _ (HG.out.below hbc)).mono ?_; rintro e wX ⟨rfl, hX⟩; have hbc := bnext hbc hX; have hBc := (hX.block _ (lt_of_block hBc)).trans hBc; rw [L1.out])
      | (go_at_call 20; with_reducible refine (late_any C0 a (b + m) _ (HG.out.below hbc)).mono ?_; rintro e wX ⟨rfl, hX⟩; have hbc := bnext hbc hX; have hBc := (hX.block _ (lt_of_block hBc)).trans hBc; rw [L2.out])
      | (go_at_call 22; with_reducible refine (free_any C0 a b _ (HG.out.below hbc)).mono ?_; rintro e wX ⟨rfl, hX⟩; have hbc := bnext hbc hX; have hBc := (hX.block _ (lt_of_block hBc)).trans hBc; rw [F1.out])
      | (go_at_call 22; with_reducible refine (free_any C0 a (b + m) _ (HG.out.below hbc)).mono ?_; rintro e wX ⟨rfl, hX⟩; have hbc := bnext hbc hX; have hBc := (hX.block _ (lt_of_block hBc)).trans hBc; rw [F2.out])
      | (go_at_call 18; with_reducible refine (holds_any C0 a b _ (HG.out.below hbc)).mono ?_; rintro e wX ⟨rfl, hX⟩; have hbc := bnext hbc hX; have hBc := (hX.block _ (lt_of_block hBc)).trans hBc; rw [H1.out])
      | (go_at_call 18; with_reducible refine (holds_any C0 a a _ (HG.out.below hbc)).mono ?_; rintro e wX ⟨rfl, hX⟩; have hbc := bnext hbc hX; have hBc := (hX.block _ (lt_of_block hBc)).trans hBc; rw [H4.out]))
              go_ret
              exact ⟨rfl, hbc⟩
            · obtain ⟨h, hh⟩ : ∃ h, holdsB C0 a b = h := ⟨_, rfl⟩
              have H1 := Lib.hid hh
              have L1 := Lib.hid l1
              have F1 := Lib.hid f1
              clear l1 f1 g1 g2 g3 hh
              cases h <;>
              (go_enter Try.func8, Try.ntmps8
               go_wp2_with (first
      | (go_at_call 10; refine (awake_true _).mono ?_; rintro e wA ⟨rfl, hA⟩; have hbc := bnext (bnew (brefl w) _) hA; have hBc := (hA.block w.heap.size (by simp)).trans (heap_alloc_new _ _))
      | (with_reducible refine wpList_load_cfg rfl _ rfl w.heap.size rfl C0 hBc ?_)
      | (go_at_call 11; refine (few_any C0 _ (HG.out.below hbc)).mono ?_; rintro e wX ⟨rfl, hX⟩; have hbc := bnext hbc hX; have hBc := (hX.block _ (lt_of_block hBc)).trans hBc; rw [HF.out])
      | (go_at_call 12; refine (check_any C0 _ (HG.out.below hbc)).mono ?_; rintro e wX ⟨rfl, hX⟩; have hbc := bnext hbc hX; have hBc := (hX.block _ (lt_of_block hBc)).trans hBc; rw [HK.out]; obtain ⟨f0, f1, f2, f3, f4, f5, f6, f7, f8, f9, f10⟩ := cfg_cells hBc)
      | (go_at_call 20; with_reducible refine (late_any C0 a b _ (HG.out.below hbc)).mono ?_; rintro e wX ⟨rfl, hX⟩; have hbc := bnext hbc hX; have hBc := (hX.block _ (lt_of_block hBc)).trans hBc; rw [L1.out])
      | (go_at_call 20; with_reducible refine (late_any C0 a (b + m) _ (HG.out.below hbc)).mono ?_; rintro e wX ⟨rfl, hX⟩; have hbc := bnext hbc hX; have hBc := (hX.block _ (lt_of_block hBc)).trans hBc; rw [L2.out])
      | (go_at_call 22; with_reducible refine (free_any C0 a b _ (HG.out.below hbc)).mono ?_; rintro e wX ⟨rfl, hX⟩; have hbc := bnext hbc hX; have hBc := (hX.block _ (lt_of_block hBc)).trans hBc; rw [F1.out])
      | (go_at_call 22; with_reducible refine (free_any C0 a (b + m) _ (HG.out.below hbc)).mono ?_; rintro e wX ⟨rfl, hX⟩; have hbc := bnext hbc hX; have hBc := (hX.block _ (lt_of_block hBc)).trans hBc; rw [F2.out])
      | (go_at_call 18; with_reducible refine (holds_any C0 a b _ (HG.out.below hbc)).mono ?_; rintro e wX ⟨rfl, hX⟩; have hbc := bnext hbc hX; have hBc := (hX.block _ (lt_of_block hBc)).trans hBc; rw [H1.out])
      | (go_at_call 18; with_reducible refine (holds_any C0 a a _ (HG.out.below hbc)).mono ?_; rintro e wX ⟨rfl, hX⟩; have hbc := bnext hbc hX; have hBc := (hX.block _ (lt_of_block hBc)).trans hBc; rw [H4.out]))
               go_ret
               exact ⟨rfl, hbc⟩)
          · clear hk hf
            go_enter Try.func8, Try.ntmps8
            go_wp2_with (first
      | (go_at_call 10; refine (awake_true _).mono ?_; rintro e wA ⟨rfl, hA⟩; have hbc := bnext (bnew (brefl w) _) hA; have hBc := (hA.block w.heap.size (by simp)).trans (heap_alloc_new _ _))
      | (with_reducible refine wpList_load_cfg rfl _ rfl w.heap.size rfl C0 hBc ?_)
      | (go_at_call 11; refine (few_any C0 _ (HG.out.below hbc)).mono ?_; rintro e wX ⟨rfl, hX⟩; have hbc := bnext hbc hX; have hBc := (hX.block _ (lt_of_block hBc)).trans hBc; rw [HF.out])
      | (go_at_call 12; refine (check_any C0 _ (HG.out.below hbc)).mono ?_; rintro e wX ⟨rfl, hX⟩; have hbc := bnext hbc hX; have hBc := (hX.block _ (lt_of_block hBc)).trans hBc; rw [HK.out]))
            go_ret
            exact ⟨rfl, hbc⟩
        · clear hk hf
          go_enter Try.func8, Try.ntmps8
          go_wp2_with (first
      | (go_at_call 10; refine (awake_true _).mono ?_; rintro e wA ⟨rfl, hA⟩; have hbc := bnext (bnew (brefl w) _) hA; have hBc := (hA.block w.heap.size (by simp)).trans (heap_alloc_new _ _))
      | (with_reducible refine wpList_load_cfg rfl _ rfl w.heap.size rfl C0 hBc ?_)
      | (go_at_call 11; refine (few_any C0 _ (HG.out.below hbc)).mono ?_; rintro e wX ⟨rfl, hX⟩; have hbc := bnext hbc hX; have hBc := (hX.block _ (lt_of_block hBc)).trans hBc; rw [HF.out])
      | (go_at_call 12; refine (check_any C0 _ (HG.out.below hbc)).mono ?_; rintro e wX ⟨rfl, hX⟩; have hbc := bnext hbc hX; have hBc := (hX.block _ (lt_of_block hBc)).trans hBc; rw [HK.out]))
          go_ret
          exact ⟨rfl, hbc⟩
      · clear hk hf
        go_enter Try.func8, Try.ntmps8
        go_wp2_with (first
      | (go_at_call 10; refine (awake_true _).mono ?_; rintro e wA ⟨rfl, hA⟩; have hbc := bnext (bnew (brefl w) _) hA; have hBc := (hA.block w.heap.size (by simp)).trans (heap_alloc_new _ _))
      | (with_reducible refine wpList_load_cfg rfl _ rfl w.heap.size rfl C0 hBc ?_)
      | (go_at_call 11; refine (few_any C0 _ (HG.out.below hbc)).mono ?_; rintro e wX ⟨rfl, hX⟩; have hbc := bnext hbc hX; have hBc := (hX.block _ (lt_of_block hBc)).trans hBc; rw [HF.out])
      | (go_at_call 12; refine (check_any C0 _ (HG.out.below hbc)).mono ?_; rintro e wX ⟨rfl, hX⟩; have hbc := bnext hbc hX; have hBc := (hX.block _ (lt_of_block hBc)).trans hBc; rw [HK.out]))
        go_ret
        exact ⟨rfl, hbc⟩
    · have HK : Hid (chkI C0 = 90) := by show chkI C0 = 90; unfold chkI; rw [if_neg hk]
      clear hk hf
      go_enter Try.func8, Try.ntmps8
      go_wp2_with (first
      | (go_at_call 10; refine (awake_true _).mono ?_; rintro e wA ⟨rfl, hA⟩; have hbc := bnext (bnew (brefl w) _) hA; have hBc := (hA.block w.heap.size (by simp)).trans (heap_alloc_new _ _))
      | (with_reducible refine wpList_load_cfg rfl _ rfl w.heap.size rfl C0 hBc ?_)
      | (go_at_call 11; refine (few_any C0 _ (HG.out.below hbc)).mono ?_; rintro e wX ⟨rfl, hX⟩; have hbc := bnext hbc hX; have hBc := (hX.block _ (lt_of_block hBc)).trans hBc; rw [HF.out])
      | (go_at_call 12; refine (check_any C0 _ (HG.out.below hbc)).mono ?_; rintro e wX ⟨rfl, hX⟩; have hbc := bnext hbc hX; have hBc := (hX.block _ (lt_of_block hBc)).trans hBc; rw [HK.out]))
      go_ret
      exact ⟨rfl, hbc⟩
  · have HF : Hid (fewB C0 = false) := by show fewB C0 = false; simpa using hf
    clear hf
    go_enter Try.func8, Try.ntmps8
    go_wp2_with (first
      | (go_at_call 10; refine (awake_true _).mono ?_; rintro e wA ⟨rfl, hA⟩; have hbc := bnext (bnew (brefl w) _) hA; have hBc := (hA.block w.heap.size (by simp)).trans (heap_alloc_new _ _))
      | (with_reducible refine wpList_load_cfg rfl _ rfl w.heap.size rfl C0 hBc ?_)
      | (go_at_call 11; refine (few_any C0 _ (HG.out.below hbc)).mono ?_; rintro e wX ⟨rfl, hX⟩; have hbc := bnext hbc hX; have hBc := (hX.block _ (lt_of_block hBc)).trans hBc; rw [HF.out])
      | (go_at_call 12; refine (check_any C0 _ (HG.out.below hbc)).mono ?_; rintro e wX ⟨rfl, hX⟩; have hbc := bnext hbc hX; have hBc := (hX.block _ (lt_of_block hBc)).trans hBc; rw [HK.out]))
    go_ret
    exact ⟨rfl, hbc⟩
end Go.Proofs.Ytdllcnafcghcfaa
