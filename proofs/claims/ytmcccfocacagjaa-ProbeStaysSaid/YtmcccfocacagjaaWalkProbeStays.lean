/- The walk of ProbeStays: true, and nothing that was there has changed. -/
import Derived.Test.YtmcccfocacagjaaPAwake
import Derived.Deep.RegionHeld3
namespace Go.Proofs.Ytmcccfocacagjaa
open Go.RowKit
theorem step_nil (C : Cv) (st sd : Int) : stepS C st sd [] = (st, sd, 0) := by
  unfold stepS; rw [if_neg (by simp)]
theorem step_said (C : Cv) (st sd : Int) (l : List Nat) (h : sd ≠ 0) : stepS C st sd l = (st, sd, 0) := by
  unfold stepS; rw [if_neg (by rintro ⟨_, _, g⟩; exact h g)]
set_option maxRecDepth 100000 in
set_option maxHeartbeats 4000000 in
theorem walk_ProbeStays (C : Cv) (st sd : Int) (a : Option Addr) (len cap : Nat) (zs : List Int) (w : World) (hG : Good w C) (hst : -9223372036854775808 ≤ st ∧ st ≤ 9223372036854775807) (hr : Reads .u64 w a len cap zs) :
    Calls Try.prog 4 #[.agg C.cells, .agg #[.int .i64 st, .int .i64 sd], .slice a len cap] w fun e w' => e = .returned (.bool true) ∧ Below w.heap.size w w' := by
  have HG := Lib.hid hG
  have HR := Lib.hid hr
  have hs := hr.small'
  clear hG hr
  have hbc : Below w.heap.size w ((w.alloc (Obj.cells C.cells 24)).alloc (Obj.cells #[.int .i64 st, .int .i64 sd] 37)) := bnew (bnew (brefl w) _) _
  have hBc : ((w.alloc (Obj.cells C.cells 24)).alloc (Obj.cells #[.int .i64 st, .int .i64 sd] 37)).heap[w.heap.size]? = some (.cells C.cells 24 (0, 0)) := heap_alloc2_old _ _ _
  have hSc : ((w.alloc (Obj.cells C.cells 24)).alloc (Obj.cells #[.int .i64 st, .int .i64 sd] 37)).heap[w.heap.size + 1]? = some (.cells #[.int .i64 st, .int .i64 sd] 37 (0, 0)) := heap_alloc2_new _ _ _
  by_cases hf : fewB C = true
  · have HF := Lib.hid hf
    clear hf
    by_cases h0 : sd = 0
    · subst h0
      go_enter Try.func4, Try.ntmps4
      go_wp2_with (first
        | (go_at_call 14; refine (pawake_true _).mono ?_; rintro e wA ⟨rfl, hA⟩; have hbc := bnext hbc hA; have hBc := (hA.block _ (lt_of_block hBc)).trans hBc; have hSc := (hA.block _ (lt_of_block hSc)).trans hSc)
        | (with_reducible refine wpList_load_cfg rfl _ rfl w.heap.size rfl C hBc ?_)
        | (go_at_call 15; refine (few_any C _ (HG.out.below hbc)).mono ?_; rintro e wX ⟨rfl, hX⟩; have hbc := bnext hbc hX; have hBc := (hX.block _ (lt_of_block hBc)).trans hBc; have hSc := (hX.block _ (lt_of_block hSc)).trans hSc; obtain ⟨s0, s1⟩ := soak_cells hSc; rw [HF.out])
        | (go_at_call 20; refine (step_any C st 0 none 0 0 [] _ (HG.out.below hbc) (readsF_none _ _) (by omega) hst).mono ?_; rintro e wY ⟨rfl, hY⟩; have hbc := bnext hbc hY; have hBc := (hY.block _ (lt_of_block hBc)).trans hBc; have hSc := (hY.block _ (lt_of_block hSc)).trans hSc; obtain ⟨y0, y1⟩ := soak_cells hSc; have x0 := (fun o => cell_alloc (o := o) y0); have x1 := (fun o => cell_alloc (o := o) y1); rw [step_nil]))
      go_ret
      exact ⟨rfl, bnew hbc _⟩
    · have h00 : (sd == 0) = false := by simpa using h0
      have HS0 := Lib.hid h0
      clear h0
      go_enter Try.func4, Try.ntmps4
      go_wp2_with (first
        | (go_at_call 14; refine (pawake_true _).mono ?_; rintro e wA ⟨rfl, hA⟩; have hbc := bnext hbc hA; have hBc := (hA.block _ (lt_of_block hBc)).trans hBc; have hSc := (hA.block _ (lt_of_block hSc)).trans hSc)
        | (with_reducible refine wpList_load_cfg rfl _ rfl w.heap.size rfl C hBc ?_)
        | (go_at_call 15; refine (few_any C _ (HG.out.below hbc)).mono ?_; rintro e wX ⟨rfl, hX⟩; have hbc := bnext hbc hX; have hBc := (hX.block _ (lt_of_block hBc)).trans hBc; have hSc := (hX.block _ (lt_of_block hSc)).trans hSc; obtain ⟨s0, s1⟩ := soak_cells hSc; rw [HF.out])
        | (go_at_call 20; refine (step_any C st sd none 0 0 [] _ (HG.out.below hbc) (readsF_none _ _) (by omega) hst).mono ?_; rintro e wY ⟨rfl, hY⟩; have hbc := bnext hbc hY; have hBc := (hY.block _ (lt_of_block hBc)).trans hBc; have hSc := (hY.block _ (lt_of_block hSc)).trans hSc; obtain ⟨y0, y1⟩ := soak_cells hSc; have x0 := (fun o => cell_alloc (o := o) y0); have x1 := (fun o => cell_alloc (o := o) y1); rw [step_nil]))
      have bX := bnew hbc (Obj.cells #[Value.int IntKind.i64 st, Value.int IntKind.i64 sd] 37)
      have HBX : Hid ((wY.alloc (Obj.cells #[Value.int IntKind.i64 st, Value.int IntKind.i64 sd] 37)).heap[w.heap.size]? = some (.cells C.cells 24 (0, 0))) := (Below.heap_alloc _ _ _ (lt_of_block hBc)).trans hBc
      have HSX : Hid ((wY.alloc (Obj.cells #[Value.int IntKind.i64 st, Value.int IntKind.i64 sd] 37)).heap[w.heap.size + 1]? = some (.cells #[.int .i64 st, .int .i64 sd] 37 (0, 0))) := (Below.heap_alloc _ _ _ (lt_of_block hSc)).trans hSc
      have HAX : Hid ((wY.alloc (Obj.cells #[Value.int IntKind.i64 st, Value.int IntKind.i64 sd] 37)).heap[wY.heap.size]? = some (.cells #[.int .i64 st, .int .i64 sd] 37 (0, 0))) := heap_alloc_new _ _
      clear hY x0 x1 y0 y1
      generalize wY.alloc (Obj.cells #[Value.int IntKind.i64 st, Value.int IntKind.i64 sd] 37) = X at *
      have hL : ∀ W, Below X.heap.size X W → W.cell? ⟨w.heap.size, 0, none⟩ = some (.int .i64 C.nodes) ∧ W.cell? ⟨w.heap.size, 1, none⟩ = some (.int .i64 C.slots) ∧ W.cell? ⟨w.heap.size, 2, none⟩ = some (.int .i64 C.rho) ∧ W.cell? ⟨w.heap.size, 3, none⟩ = some (.int .i64 C.hold) ∧ W.cell? ⟨w.heap.size, 4, none⟩ = some (.int .i64 C.grant) ∧ W.cell? ⟨w.heap.size, 5, none⟩ = some (.int .i64 C.guard) ∧ W.cell? ⟨w.heap.size, 6, none⟩ = some (.int .i64 C.work) ∧ W.cell? ⟨w.heap.size, 7, none⟩ = some (.slice C.sa C.sn C.sc) ∧ W.cell? ⟨w.heap.size, 8, none⟩ = some (.slice C.na C.nn C.nc) ∧ W.cell? ⟨w.heap.size, 9, none⟩ = some (.int .i64 C.soak) ∧ W.cell? ⟨w.heap.size, 10, none⟩ = some (.int .i64 C.pass) := fun W h => cfg_cells2 ((h.block _ (lt_of_block HBX.out)).trans HBX.out)
      have hL2 : ∀ W, Below X.heap.size X W → W.cell? ⟨w.heap.size + 1, 0, none⟩ = some (.int .i64 st) ∧ W.cell? ⟨w.heap.size + 1, 1, none⟩ = some (.int .i64 sd) := fun W h => soak_cells ((h.block _ (lt_of_block HSX.out)).trans HSX.out)
      have HbX := Lib.hid bX
      have FG : Hid (∀ W, Below X.heap.size X W → Good W C) := fun W h => (HG.out.below HbX.out).below h
      have FR : Hid (∀ W, Below X.heap.size X W → Reads .u64 W a len cap zs) := fun W h => (HR.out.below HbX.out).below h
      have hS : Below X.heap.size X X := Below.refl _ _
      clear bX hBc hSc hbc
      clear hbc
      go_region_held3 (fun W : World => Below X.heap.size X W) (first | assumption | exact hS.drew | exact bnew hXY _ | exact (hXY.setCell (Nat.le_refl _) _).setCell (Nat.le_refl _) _ | exact (hXY.setCell hXV.size _).setCell hXV.size _ | exact bnew (by assumption) _ | exact Below.drew (bnew hS _)) (first
        | (go_at_call 21; (with_reducible refine (scores_any a len cap zs _ (FR.out _ (by assumption))).mono ?_); rintro e wV ⟨ad, cap', rfl, hrv, hV⟩; have hXV : Below X.heap.size X wV := (bnext (by assumption) hV); have HRV := Lib.hid hrv; clear hrv; obtain ⟨hvc, hvf⟩ := bcell hV; have hvz := hV.size; (try simp at hvz))
        | (go_at_call 20; (first
          | with_reducible refine (step_any C st sd _ _ _ _ _ (FG.out _ (by assumption)) HRV.out (by omega) hst).mono ?_
          | with_reducible refine (step_any C st sd _ _ _ _ _ (FG.out _ (by assumption)) (HRV.out.below (brefl wV).drew) (by omega) hst).mono ?_
          | with_reducible refine (step_any C st sd _ _ _ _ _ (FG.out _ (by assumption)) (HRV.out.below (bnew (brefl wV) _)) (by omega) hst).mono ?_
          | with_reducible refine (step_any C st sd _ _ _ _ _ (FG.out _ (by assumption)) (HRV.out.below (bnew (brefl wV) _).drew) (by omega) hst).mono ?_); rintro e wZ ⟨rfl, hZ⟩; rw [step_said C st sd _ HS0.out]; have hXY : Below X.heap.size X wZ := (bnext (by assumption) hZ); obtain ⟨hyc, hyf⟩ := bcell hZ; have hyz := hZ.size; (try simp at hyz); (try (have hq : wZ.heap[X.heap.size]? = some (Obj.cells #[Value.int IntKind.i64 0, Value.int IntKind.i64 0] 37) := (hZ.block X.heap.size (by have hl := hV.size; simp at hl; omega)).trans ((hV.block X.heap.size (by simp)).trans (heap_alloc_new X _)); obtain ⟨q0, q1⟩ := soak_cells hq; have qf : ∀ j, wZ.frozen? ⟨X.heap.size, j, none⟩ = false := (fun j => blk_free hq); clear hyc hyf hvc hvf))))
      all_goals
        first
        | (have H8 : Hid ((wZ.alloc (Obj.cells #[Value.int IntKind.i64 st, Value.int IntKind.i64 sd] 37)).heap[wZ.heap.size]? = some (.cells #[.int .i64 st, .int .i64 sd] 37 (0, 0))) := heap_alloc_new _ _; have hX8 : Below X.heap.size X (wZ.alloc (Obj.cells #[Value.int IntKind.i64 st, Value.int IntKind.i64 sd] 37)) := (by assumption); generalize wZ.alloc (Obj.cells #[Value.int IntKind.i64 st, Value.int IntKind.i64 sd] 37) = W8 at *)
        | (have H8 : Hid (((wZ.setCell ⟨wV.heap.size, 0, none⟩ (.int .i64 st)).setCell ⟨wV.heap.size, 1, none⟩ (.int .i64 sd)).heap[wV.heap.size]? = some (.cells #[.int .i64 st, .int .i64 sd] 37 (0, 0))) := (heap_setCell_same _ _ _ _ _ _ (heap_setCell_same _ _ _ _ _ _ ((hZ.block wV.heap.size (by simp)).trans (heap_alloc_new wV _)))).trans rfl; have hX8 : Below X.heap.size X ((wZ.setCell ⟨wV.heap.size, 0, none⟩ (.int .i64 st)).setCell ⟨wV.heap.size, 1, none⟩ (.int .i64 sd)) := (by assumption); generalize (wZ.setCell ⟨wV.heap.size, 0, none⟩ (.int .i64 st)).setCell ⟨wV.heap.size, 1, none⟩ (.int .i64 sd) = W8 at *)
        | (have H8 : Hid (((wZ.setCell ⟨X.heap.size, 0, none⟩ (.int .i64 st)).setCell ⟨X.heap.size, 1, none⟩ (.int .i64 sd)).heap[X.heap.size]? = some (.cells #[.int .i64 st, .int .i64 sd] 37 (0, 0))) := (heap_setCell_same _ _ _ _ _ _ (heap_setCell_same _ _ _ _ _ _ (hq))).trans rfl; have hX8 : Below X.heap.size X ((wZ.setCell ⟨X.heap.size, 0, none⟩ (.int .i64 st)).setCell ⟨X.heap.size, 1, none⟩ (.int .i64 sd)) := (by assumption); generalize (wZ.setCell ⟨X.heap.size, 0, none⟩ (.int .i64 st)).setCell ⟨X.heap.size, 1, none⟩ (.int .i64 sd) = W8 at *)
        | fail
      all_goals
        have HA8 := Lib.hid ((hX8.block _ (lt_of_block HAX.out)).trans HAX.out)
        have HS8 := Lib.hid ((hX8.block _ (lt_of_block HSX.out)).trans HSX.out)
        have Hb8 := Lib.hid (bnext HbX.out hX8)
        clear hL hL2 hS hX8 hXY hZ hV hXV
        obtain ⟨ca0, ca1⟩ := soak_cells HA8.out
        obtain ⟨cs0, cs1⟩ := soak_cells HS8.out
        obtain ⟨cb0, cb1⟩ := soak_cells H8.out
        go_wp2_with fail
        go_ret
        exact ⟨rfl, Hb8.out⟩
  · have HF : Hid (fewB C = false) := by show _ = _; simpa using hf
    clear hf
    go_enter Try.func4, Try.ntmps4
    go_wp2_with (first
      | (go_at_call 14; refine (pawake_true _).mono ?_; rintro e wA ⟨rfl, hA⟩; have hbc := bnext hbc hA; have hBc := (hA.block _ (lt_of_block hBc)).trans hBc; have hSc := (hA.block _ (lt_of_block hSc)).trans hSc)
      | (with_reducible refine wpList_load_cfg rfl _ rfl w.heap.size rfl C hBc ?_)
      | (go_at_call 15; refine (few_any C _ (HG.out.below hbc)).mono ?_; rintro e wX ⟨rfl, hX⟩; have hbc := bnext hbc hX; have hBc := (hX.block _ (lt_of_block hBc)).trans hBc; have hSc := (hX.block _ (lt_of_block hSc)).trans hSc; rw [HF.out]))
    go_ret
    exact ⟨rfl, hbc⟩
end Go.Proofs.Ytmcccfocacagjaa
