/- The walk of ProbeTells: true, and nothing that was there has changed. -/
import Derived.Test.YtmcccfocacagjaaPAwake
import Derived.Deep.RegionHeld3
namespace Go.Proofs.Ytmcccfocacagjaa
open Go.RowKit
set_option maxRecDepth 100000 in
set_option maxHeartbeats 4000000 in
theorem walk_ProbeTells (C : Cv) (st sd : Int) (a : Option Addr) (len cap : Nat) (zs : List Int) (w : World) (hG : Good w C) (hst : -9223372036854775808 ≤ st ∧ st ≤ 9223372036854775807) (hr : Reads .u64 w a len cap zs) :
    Calls Try.prog 12 #[.agg C.cells, .agg #[.int .i64 st, .int .i64 sd], .slice a len cap] w fun e w' => e = .returned (.bool true) ∧ Below w.heap.size w w' := by
  have HG := Lib.hid hG
  have HR := Lib.hid hr
  have hs := hr.small'
  clear hG hr
  have hbc : Below w.heap.size w ((w.alloc (Obj.cells C.cells 24)).alloc (Obj.cells #[.int .i64 st, .int .i64 sd] 37)) := bnew (bnew (brefl w) _) _
  have hBc : ((w.alloc (Obj.cells C.cells 24)).alloc (Obj.cells #[.int .i64 st, .int .i64 sd] 37)).heap[w.heap.size]? = some (.cells C.cells 24 (0, 0)) := heap_alloc2_old _ _ _
  have hSc : ((w.alloc (Obj.cells C.cells 24)).alloc (Obj.cells #[.int .i64 st, .int .i64 sd] 37)).heap[w.heap.size + 1]? = some (.cells #[.int .i64 st, .int .i64 sd] 37 (0, 0)) := heap_alloc2_new _ _ _
  by_cases hf : fewB C = true
  · have HF := Lib.hid hf
    clear hf
    obtain ⟨x, hx⟩ : ∃ x, (stepS C st sd ((nats zs).take 50)).1 = x := ⟨_, rfl⟩
    obtain ⟨y, hy⟩ : ∃ y, (stepS C st sd ((nats zs).take 50)).2.1 = y := ⟨_, rfl⟩
    obtain ⟨z, hz⟩ : ∃ z, (stepS C st sd ((nats zs).take 50)).2.2 = z := ⟨_, rfl⟩
    obtain ⟨b, hb⟩ : ∃ b, passB C ((nats zs).take 50) = b := ⟨_, rfl⟩
    have HX := Lib.hid hx
    have HY := Lib.hid hy
    have HZ := Lib.hid hz
    have HB := Lib.hid hb
    clear hx hy hz hb
    go_enter Try.func12, Try.ntmps12
    go_wp2_with (first
        | (go_at_call 14; refine (pawake_true _).mono ?_; rintro e wA ⟨rfl, hA⟩; have hbc := bnext hbc hA; have hBc := (hA.block _ (lt_of_block hBc)).trans hBc; have hSc := (hA.block _ (lt_of_block hSc)).trans hSc)
        | (with_reducible refine wpList_load_cfg rfl _ rfl w.heap.size rfl C hBc ?_)
        | (go_at_call 15; refine (few_any C _ (HG.out.below hbc)).mono ?_; rintro e wX ⟨rfl, hX⟩; have hbc := bnext hbc hX; have hBc := (hX.block _ (lt_of_block hBc)).trans hBc; have hSc := (hX.block _ (lt_of_block hSc)).trans hSc; rw [HF.out])
        | (go_at_call 21; refine (scores_any a len cap zs _ (HR.out.below hbc)).mono ?_; rintro e wV ⟨ad, cap', rfl, hrv, hV⟩; have HRV := Lib.hid hrv; have hbc := bnext hbc hV; have hBc := (hV.block _ (lt_of_block hBc)).trans hBc; have hSc := (hV.block _ (lt_of_block hSc)).trans hSc; obtain ⟨v0, v1⟩ := soak_cells hSc; clear hrv))
    refine (step_any C st sd ad (min len 50) cap' _ _ (HG.out.below hbc) HRV.out (by omega) hst).mono ?_
    rintro e wS ⟨rfl, hS⟩
    rw [HX.out, HY.out, HZ.out]
    have HbS := Lib.hid (bnew (bnext hbc hS) (Obj.cells #[.int .i64 x, .int .i64 y] 37))
    have HRS := Lib.hid (HRV.out.below (bnew hS (Obj.cells #[.int .i64 x, .int .i64 y] 37)))
    have HBS : Hid ((wS.alloc (Obj.cells #[.int .i64 x, .int .i64 y] 37)).heap[w.heap.size]? = some (.cells C.cells 24 (0, 0))) := (Below.heap_alloc _ _ _ (lt_of_block ((hS.block _ (lt_of_block hBc)).trans hBc))).trans ((hS.block _ (lt_of_block hBc)).trans hBc)
    have HSS : Hid ((wS.alloc (Obj.cells #[.int .i64 x, .int .i64 y] 37)).heap[w.heap.size + 1]? = some (.cells #[.int .i64 st, .int .i64 sd] 37 (0, 0))) := (Below.heap_alloc _ _ _ (lt_of_block ((hS.block _ (lt_of_block hSc)).trans hSc))).trans ((hS.block _ (lt_of_block hSc)).trans hSc)
    have HAS : Hid ((wS.alloc (Obj.cells #[.int .i64 x, .int .i64 y] 37)).heap[wS.heap.size]? = some (.cells #[.int .i64 x, .int .i64 y] 37 (0, 0))) := heap_alloc_new _ _
    obtain ⟨s0, s1⟩ := soak_cells HSS.out
    clear hV v0 v1 hbc hBc hSc hS
    clear hbc hBc hSc
    go_wp2_with (with_reducible refine wpList_load_cfg rfl _ rfl w.heap.size rfl C HBS.out ?_)
    generalize wS.alloc (Obj.cells #[.int .i64 x, .int .i64 y] 37) = w1 at *
    refine (rstep_any C st sd ad (min len 50) cap' _ _ (HG.out.below HbS.out) HRS.out (by omega) hst).mono ?_
    rintro e wT ⟨rfl, hT⟩
    rw [HX.out, HY.out, HZ.out]
    have HbT := Lib.hid (bnew (bnext HbS.out hT) (Obj.cells #[.int .i64 x, .int .i64 y] 37))
    have HRT := Lib.hid (HRS.out.below (bnew hT (Obj.cells #[.int .i64 x, .int .i64 y] 37)))
    have HBT : Hid ((wT.alloc (Obj.cells #[.int .i64 x, .int .i64 y] 37)).heap[w.heap.size]? = some (.cells C.cells 24 (0, 0))) := (Below.heap_alloc _ _ _ (lt_of_block ((hT.block _ (lt_of_block HBS.out)).trans HBS.out))).trans ((hT.block _ (lt_of_block HBS.out)).trans HBS.out)
    have HAT : Hid ((wT.alloc (Obj.cells #[.int .i64 x, .int .i64 y] 37)).heap[wS.heap.size]? = some (.cells #[.int .i64 x, .int .i64 y] 37 (0, 0))) := (Below.heap_alloc _ _ _ (lt_of_block ((hT.block _ (lt_of_block HAS.out)).trans HAS.out))).trans ((hT.block _ (lt_of_block HAS.out)).trans HAS.out)
    have HDT : Hid ((wT.alloc (Obj.cells #[.int .i64 x, .int .i64 y] 37)).heap[wT.heap.size]? = some (.cells #[.int .i64 x, .int .i64 y] 37 (0, 0))) := heap_alloc_new _ _
    clear hT s0 s1
    go_wp2_with fail
    generalize wT.alloc (Obj.cells #[.int .i64 x, .int .i64 y] 37) = X at *
    have hL : ∀ W, Below X.heap.size X W → W.cell? ⟨w.heap.size, 0, none⟩ = some (.int .i64 C.nodes) ∧ W.cell? ⟨w.heap.size, 1, none⟩ = some (.int .i64 C.slots) ∧ W.cell? ⟨w.heap.size, 2, none⟩ = some (.int .i64 C.rho) ∧ W.cell? ⟨w.heap.size, 3, none⟩ = some (.int .i64 C.hold) ∧ W.cell? ⟨w.heap.size, 4, none⟩ = some (.int .i64 C.grant) ∧ W.cell? ⟨w.heap.size, 5, none⟩ = some (.int .i64 C.guard) ∧ W.cell? ⟨w.heap.size, 6, none⟩ = some (.int .i64 C.work) ∧ W.cell? ⟨w.heap.size, 7, none⟩ = some (.slice C.sa C.sn C.sc) ∧ W.cell? ⟨w.heap.size, 8, none⟩ = some (.slice C.na C.nn C.nc) ∧ W.cell? ⟨w.heap.size, 9, none⟩ = some (.int .i64 C.soak) ∧ W.cell? ⟨w.heap.size, 10, none⟩ = some (.int .i64 C.pass) := fun W h => cfg_cells2 ((h.block _ (lt_of_block HBT.out)).trans HBT.out)
    have hL1 : ∀ W, Below X.heap.size X W → W.cell? ⟨wS.heap.size, 0, none⟩ = some (.int .i64 x) ∧ W.cell? ⟨wS.heap.size, 1, none⟩ = some (.int .i64 y) := fun W h => soak_cells ((h.block _ (lt_of_block HAT.out)).trans HAT.out)
    have hL2 : ∀ W, Below X.heap.size X W → W.cell? ⟨wT.heap.size, 0, none⟩ = some (.int .i64 x) ∧ W.cell? ⟨wT.heap.size, 1, none⟩ = some (.int .i64 y) := fun W h => soak_cells ((h.block _ (lt_of_block HDT.out)).trans HDT.out)
    have FG : Hid (∀ W, Below X.heap.size X W → Good W C) := fun W h => (HG.out.below HbT.out).below h
    have FR : Hid (∀ W, Below X.heap.size X W → ReadsF W ad (min len 50) cap' ((nats zs).take 50)) := fun W h => HRT.out.below h
    have hS : Below X.heap.size X X := Below.refl _ _
    go_region_held3 (fun W : World => Below X.heap.size X W) (first | assumption | exact hS.drew | exact bnext (by assumption) hY) (first
      | (go_at_call 18; (with_reducible refine (passes_any C _ _ _ _ _ (FG.out _ (by assumption)) (FR.out _ (by assumption)) (by omega)).mono ?_); rintro e wY ⟨rfl, hY⟩; rw [HB.out])
      | (go_at_call 37; (with_reducible refine (rpasses_any C _ _ _ _ _ (FG.out _ (by assumption)) (FR.out _ (by assumption)) (by omega)).mono ?_); rintro e wY ⟨rfl, hY⟩; rw [HB.out]))
    all_goals
      go_wp2_with fail
      go_ret
      exact ⟨rfl, bnext HbT.out (by assumption)⟩
  · have HF : Hid (fewB C = false) := by show _ = _; simpa using hf
    clear hf
    go_enter Try.func12, Try.ntmps12
    go_wp2_with (first
      | (go_at_call 14; refine (pawake_true _).mono ?_; rintro e wA ⟨rfl, hA⟩; have hbc := bnext hbc hA; have hBc := (hA.block _ (lt_of_block hBc)).trans hBc; have hSc := (hA.block _ (lt_of_block hSc)).trans hSc)
      | (with_reducible refine wpList_load_cfg rfl _ rfl w.heap.size rfl C hBc ?_)
      | (go_at_call 15; refine (few_any C _ (HG.out.below hbc)).mono ?_; rintro e wX ⟨rfl, hX⟩; have hbc := bnext hbc hX; have hBc := (hX.block _ (lt_of_block hBc)).trans hBc; have hSc := (hX.block _ (lt_of_block hSc)).trans hSc; rw [HF.out]))
    go_ret
    exact ⟨rfl, hbc⟩
end Go.Proofs.Ytmcccfocacagjaa
