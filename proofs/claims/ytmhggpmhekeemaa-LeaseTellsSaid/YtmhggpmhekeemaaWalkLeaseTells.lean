/- The walk of LeaseTells. -/
import Derived.Test.YtmhggpmhekeemaaLAwake
import Derived.Deep.RegionHeld3
import Derived.Deep.DeepCutAuto
namespace Go.Proofs.Ytmhggpmhekeemaa
open Go.RowKit
theorem Reads.drew {k : IntKind} {w : World} {a : Option Addr} {n c : Nat} {zs : List Int} (h : Reads k w a n c zs) : Reads k w.drew a n c zs := ⟨h.length, h.le, h.small, h.wf, h.nil, h.cells⟩
theorem Reads.next {k : IntKind} {w w' : World} {a : Option Addr} {n c : Nat} {zs : List Int} (h : Reads k w a n c zs) (hb : Below w.drew.heap.size w.drew w') : Reads k w' a n c zs := h.drew.below hb
set_option maxRecDepth 100000 in
set_option maxHeartbeats 8000000 in
theorem walk_LeaseTells (C : Cv) (L : Lv) (node slot nonce now : Int) (w : World) (w0 : Good w C) (w1 : GoodL w L) (w2 : (Lit.int .i64 node).wf = true) (_w3 : (Lit.int .i64 slot).wf = true) (_w4 : (Lit.int .i64 nonce).wf = true) (_w5 : (Lit.int .i64 now).wf = true) :
    Calls Try.prog 6 #[.agg C.cells, .agg L.cells, .int .i64 node, .int .i64 slot, .int .i64 nonce, .int .i64 now] w fun e w' => e = .returned (.bool true) ∧ Below w.heap.size w w' := by
  have HG := Lib.hid w0
  have HL := Lib.hid w1
  have hfn := w1.fr.small'
  have HRN : Hid (inI node) := i64_range w2
  clear w0 w1 w2
  have hbc : Below w.heap.size w ((w.alloc (Obj.cells C.cells 24)).alloc (LB L)) := bnew (bnew (brefl w) _) _
  have hBc : ((w.alloc (Obj.cells C.cells 24)).alloc (LB L)).heap[w.heap.size]? = some (.cells C.cells 24 (0, 0)) := ka (heap_alloc_new w _) _
  have hLc : ((w.alloc (Obj.cells C.cells 24)).alloc (LB L)).heap[w.heap.size + 1]? = some (LB L) := heap_alloc2_new _ _ _
  by_cases hf : fewB C = true
  · have HF := Lib.hid hf
    clear hf
    by_cases h50 : L.fn ≤ 50
    · go_enter Try.func6, Try.ntmps6
      go_wp2_with (first
        | (with_reducible refine wpList_load_cfg rfl _ rfl w.heap.size rfl C hBc ?_)
        | (with_reducible refine wpList_load_lv rfl _ rfl (w.heap.size + 1) rfl L hLc ?_)
        | (go_at_call 22; refine (lawake_true _).mono ?_; rintro e wX ⟨rfl, hX⟩; have hbc := bnext hbc hX; have hBc := kb hBc hX; have hLc := kb hLc hX; obtain ⟨l0, l1, l2, l3⟩ := lv_cells hLc)
        | (go_at_call 12; with_reducible refine (few_any C _ (HG.out.below hbc)).mono ?_; rintro e wX ⟨rfl, hX⟩; have hbc := bnext hbc hX; have hBc := kb hBc hX; have hLc := kb hLc hX; obtain ⟨l0, l1, l2, l3⟩ := lv_cells hLc; rw [HF.out]))
      have HB := Lib.hid hbc
      have HBc := Lib.hid hBc
      have HLc := Lib.hid hLc
      have hL1 : ∀ W, Below wX.heap.size wX W → W.cell? ⟨w.heap.size, 0, none⟩ = some (.int .i64 C.nodes) ∧ W.cell? ⟨w.heap.size, 1, none⟩ = some (.int .i64 C.slots) ∧ W.cell? ⟨w.heap.size, 2, none⟩ = some (.int .i64 C.rho) ∧ W.cell? ⟨w.heap.size, 3, none⟩ = some (.int .i64 C.hold) ∧ W.cell? ⟨w.heap.size, 4, none⟩ = some (.int .i64 C.grant) ∧ W.cell? ⟨w.heap.size, 5, none⟩ = some (.int .i64 C.guard) ∧ W.cell? ⟨w.heap.size, 6, none⟩ = some (.int .i64 C.work) ∧ W.cell? ⟨w.heap.size, 7, none⟩ = some (.slice C.sa C.sn C.sc) ∧ W.cell? ⟨w.heap.size, 8, none⟩ = some (.slice C.na C.nn C.nc) ∧ W.cell? ⟨w.heap.size, 9, none⟩ = some (.int .i64 C.soak) ∧ W.cell? ⟨w.heap.size, 10, none⟩ = some (.int .i64 C.pass) := fun W q => cfg_cells2 ((q.block _ (lt_of_block HBc.out)).trans HBc.out)
      have hL2 : ∀ W, Below wX.heap.size wX W → W.cell? ⟨w.heap.size + 1, 0, none⟩ = some (.int .i64 L.slot) ∧ W.cell? ⟨w.heap.size + 1, 1, none⟩ = some (.int .i64 L.nonce) ∧ W.cell? ⟨w.heap.size + 1, 2, none⟩ = some (.int .i64 L.asked) ∧ W.cell? ⟨w.heap.size + 1, 3, none⟩ = some (.slice L.fa L.fn L.fc) := fun W q => lv_cells ((q.block _ (lt_of_block HLc.out)).trans HLc.out)
      have FG : Hid (∀ W, Below wX.heap.size wX W → Good W C) := fun W q => (HG.out.below HB.out).below q
      have FL : Hid (∀ W, Below wX.heap.size wX W → GoodL W L) := fun W q => (HL.out.below HB.out).below q
      have hS : Below wX.heap.size wX wX := Below.refl _ _
      clear hbc hBc hLc l0 l1 l2 l3
      go_cut [14] (fun s14 wc => s14 = .bool true ∧ Below wX.heap.size wX wc)
      case first =>
        go_region_held3 (fun W : World => Below wX.heap.size wX W) (first | assumption | exact hS.drew | exact Below.drew (by assumption) | exact bnext (by assumption) hY) (first
          | (go_at_call 24; with_reducible refine (lgrant_any C L node slot nonce _ (FG.out _ (by assumption)) (FL.out _ (by assumption)) (by omega) HRN.out).mono ?_; rintro e wY ⟨aA, cA, rfl, hrA, hY, _⟩; (first | (have HRB := Lib.hid (HRB.out.below hY)) | (have HRB := Lib.hid (HRB.out.next hY)) | skip); have HRA := Lib.hid hrA; clear hrA)
          | (go_at_call 25; with_reducible refine (rlgrant_any C L node slot nonce _ (FG.out _ (by assumption)) (FL.out _ (by assumption)) (by omega) HRN.out).mono ?_; rintro e wY ⟨aB, cB, rfl, hrB, hY⟩; (first | (have HRA := Lib.hid (HRA.out.below hY)) | (have HRA := Lib.hid (HRA.out.next hY)) | skip); have HRB := Lib.hid hrB; clear hrB)
          | (go_at_call 23; with_reducible refine (lsame_yes _ _ _ _ _ _ _ _ (grF C L node slot nonce) _ (by first | exact HRA.out | exact HRA.out.drew) (by first | exact HRB.out | exact HRB.out.drew)).mono ?_; rintro e wY ⟨rfl, hY⟩))
        all_goals
          go_wp2_with fail
          go_meet
          exact ⟨rfl, by assumption⟩
      case rest =>
        obtain ⟨rfl, hS2⟩ := hcut
        clear hS
        go_wp2_with (first
          | (go_at_call 26; with_reducible refine (lask_any slot nonce now _).mono ?_; rintro e wY ⟨rfl, hY⟩; have hS2 := bnext hS2 hY)
          | (go_at_call 23; with_reducible refine (lsame_yes slot nonce now none none 0 0 0 [] _ (reads_none _ _ _) (reads_none _ _ _)).mono ?_; rintro e wY ⟨rfl, hY⟩; have hS2 := bnext hS2 hY))
        go_cut [16] (fun s16 wc => s16 = .bool true ∧ Below wX.heap.size wX wc)
        case first =>
          go_region_held3 (fun W : World => Below wX.heap.size wX W) (first | assumption | exact hS2.drew | exact Below.drew (by assumption) | exact bnext (by assumption) hY) (first
            | (go_at_call 27; with_reducible refine (held_any C L now _ (FG.out _ (by assumption)) (FL.out _ (by assumption)) (by omega)).mono ?_; rintro e wY ⟨rfl, hY⟩)
            | (go_at_call 28; with_reducible refine (rheld_any C L now _ (FG.out _ (by assumption)) (FL.out _ (by assumption))).mono ?_; rintro e wY ⟨rfl, hY⟩)
            | (go_at_call 29; with_reducible refine (llate_any C L now _ (FG.out _ (by assumption)) (FL.out _ (by assumption)) (by omega)).mono ?_; rintro e wY ⟨rfl, hY⟩)
            | (go_at_call 30; with_reducible refine (rllate_any C L now _ (FG.out _ (by assumption)) (FL.out _ (by assumption))).mono ?_; rintro e wY ⟨rfl, hY⟩)
            | (go_at_call 31; with_reducible refine (lfits_any C L now _ (FG.out _ (by assumption)) (FL.out _ (by assumption)) (by omega)).mono ?_; rintro e wY ⟨rfl, hY⟩)
            | (go_at_call 32; with_reducible refine (rlfits_any C L now _ (FG.out _ (by assumption)) (FL.out _ (by assumption))).mono ?_; rintro e wY ⟨rfl, hY⟩))
          all_goals
            go_wp2_with fail
            go_meet
            exact ⟨rfl, by assumption⟩
        case rest =>
          obtain ⟨rfl, hS3⟩ := hcut
          clear hS2
          go_wp2_with fail
          go_region_held3 (fun W : World => Below wX.heap.size wX W) (first | assumption | exact hS3.drew | exact Below.drew (by assumption) | exact bnext (by assumption) hY) (first
            | (go_at_call 33; with_reducible refine (slot_any C node nonce _ (FG.out _ (by assumption))).mono ?_; rintro e wY ⟨rfl, hY⟩)
            | (go_at_call 34; with_reducible refine (rslot_any C node nonce _ (FG.out _ (by assumption))).mono ?_; rintro e wY ⟨rfl, hY⟩))
          all_goals
            go_wp2_with fail
            go_ret
            exact ⟨rfl, bnext HB.out (by assumption)⟩
    · go_enter Try.func6, Try.ntmps6
      go_wp2_with (first
        | (with_reducible refine wpList_load_cfg rfl _ rfl w.heap.size rfl C hBc ?_)
        | (with_reducible refine wpList_load_lv rfl _ rfl (w.heap.size + 1) rfl L hLc ?_)
        | (go_at_call 22; refine (lawake_true _).mono ?_; rintro e wX ⟨rfl, hX⟩; have hbc := bnext hbc hX; have hBc := kb hBc hX; have hLc := kb hLc hX; obtain ⟨l0, l1, l2, l3⟩ := lv_cells hLc)
        | (go_at_call 12; with_reducible refine (few_any C _ (HG.out.below hbc)).mono ?_; rintro e wX ⟨rfl, hX⟩; have hbc := bnext hbc hX; have hBc := kb hBc hX; have hLc := kb hLc hX; obtain ⟨l0, l1, l2, l3⟩ := lv_cells hLc; rw [HF.out]))
      go_ret
      exact ⟨rfl, hbc⟩
  · have HF : Hid (fewB C = false) := by show _ = _; simpa using hf
    clear hf
    go_enter Try.func6, Try.ntmps6
    go_wp2_with (first
      | (with_reducible refine wpList_load_cfg rfl _ rfl w.heap.size rfl C hBc ?_)
      | (with_reducible refine wpList_load_lv rfl _ rfl (w.heap.size + 1) rfl L hLc ?_)
      | (go_at_call 22; refine (lawake_true _).mono ?_; rintro e wX ⟨rfl, hX⟩; have hbc := bnext hbc hX; have hBc := kb hBc hX; have hLc := kb hLc hX; obtain ⟨l0, l1, l2, l3⟩ := lv_cells hLc)
      | (go_at_call 12; with_reducible refine (few_any C _ (HG.out.below hbc)).mono ?_; rintro e wX ⟨rfl, hX⟩; have hbc := bnext hbc hX; have hBc := kb hBc hX; have hLc := kb hLc hX; obtain ⟨l0, l1, l2, l3⟩ := lv_cells hLc; rw [HF.out]))
    go_ret
    exact ⟨rfl, hbc⟩
end Go.Proofs.Ytmhggpmhekeemaa
