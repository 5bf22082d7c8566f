/- Step, of the program and of the document. -/
import Derived.Test.YtmcccfocacagjaaPass
namespace Go.Proofs.Ytmcccfocacagjaa
open Go.RowKit
theorem soak_cells {w : World} {b : Nat} {x y : Int} (hb : w.heap[b]? = some (.cells #[.int .i64 x, .int .i64 y] 37 (0, 0))) : w.cell? ⟨b, 0, none⟩ = some (.int .i64 x) ∧ w.cell? ⟨b, 1, none⟩ = some (.int .i64 y) := by
  refine ⟨?_, ?_⟩ <;> (rw [cell_of_row _ _ _ _ _ _ hb]; rfl)
theorem soak_info : (Try.prog.info? 37).map (·.size) = some 2 := by kernel_rfl
theorem heap_alloc_at (w : World) (o : Obj) (k : Nat) (h : w.heap.size = k) : (w.alloc o).heap[k]? = some o := by subst h; exact heap_alloc_new w o
theorem results_cell_tmp {P : Program} {fn : Func} {p t : Tmp} {ty : TypeId} (h : fn.results = #[.cell p ty, .tmp t]) (tmps : Array Value) (w : World) (g : Nat) (v : Value) (hp : tmps.getD p undef = .pointer (some ⟨g, 0, none⟩))
    (hl : (loadVar ty ⟨g, 0, none⟩).run P w = .ok v w) : (results fn tmps).run P w = .ok (.tuple #[v, tmps.getD t undef]) w := by
  have hp' : tmps[p]?.getD undef = .pointer (some ⟨g, 0, none⟩) := by simpa using hp
  simp [results, h, hp', asAddr, hl]
theorem res_soak {w : World} {r : Nat} {p q : Value} (hr : w.heap[r]? = some (.cells #[p, q] 37 (0, 0))) (x y : Int) :
    (loadVar 37 ⟨r, 0, none⟩).run Try.prog ((w.setCell ⟨r, 0, none⟩ (.int .i64 x)).setCell ⟨r, 1, none⟩ (.int .i64 y)) = .ok (.agg #[.int .i64 x, .int .i64 y]) ((w.setCell ⟨r, 0, none⟩ (.int .i64 x)).setCell ⟨r, 1, none⟩ (.int .i64 y)) :=
  run_loadVar_row _ r 37 37 _ (0, 0) _ ((heap_setCell_same _ _ _ _ _ _ (heap_setCell_same _ _ _ _ _ _ hr)).trans rfl) Try.underlying37 rfl (soak_info.trans rfl)
theorem soak_kept {w : World} {b : Nat} {o : Obj} (hr : w.heap[b + 2]? = some o) (u v : Value) : ((w.setCell ⟨b + 1, 0, none⟩ u).setCell ⟨b + 1, 1, none⟩ v).heap[b + 2]? = some o :=
  (heap_setCell_other _ _ _ _ (by show b + 2 ≠ b + 1; omega)).trans ((heap_setCell_other _ _ _ _ (by show b + 2 ≠ b + 1; omega)).trans hr)
/-- What a probe leaves: a node's streak and what it said, and what it says now. -/
def stepN (st : Int) : Int := if 0 < st then (if st < 1099511627776 then st + 1 else st) else 1
def stepS (C : Cv) (st sd : Int) (l : List Nat) : Int × Int × Int :=
  if chk C = true ∧ l ≠ [] ∧ sd = 0 then
    (if passB C l = true then (if C.soak ≤ stepN st then (stepN st, 1, 1) else (stepN st, 0, 0)) else (0, 2, 2))
  else (st, sd, 0)

set_option maxRecDepth 100000 in
set_option maxHeartbeats 4000000 in
theorem step_any (C : Cv) (st sd : Int) (a : Option Addr) (len cap : Nat) (l : List Nat) (w : World) (h : Good w C) (hr : ReadsF w a len cap l) (hl : len ≤ 1000) (hst : -9223372036854775808 ≤ st ∧ st ≤ 9223372036854775807) :
    Calls Try.prog 20 #[.agg C.cells, .agg #[.int .i64 st, .int .i64 sd], .slice a len cap] w fun e w' =>
      e = .returned (.tuple #[.agg #[.int .i64 (stepS C st sd l).1, .int .i64 (stepS C st sd l).2.1], .int .i64 (stepS C st sd l).2.2]) ∧ Below w.heap.size w w' := by
  have HG := Lib.hid h
  have HR := Lib.hid hr
  have HLN : Hid (l.length = len) := hr.length
  have rs := h.r7
  clear h hr
  have hbc : Below w.heap.size w (((w.alloc (Obj.cells C.cells 24)).alloc (Obj.cells #[.int .i64 st, .int .i64 sd] 37)).alloc (Obj.cells #[.int .i64 0, .int .i64 0] 37)) := bnew (bnew (bnew (brefl w) _) _) _
  have hBc : (((w.alloc (Obj.cells C.cells 24)).alloc (Obj.cells #[.int .i64 st, .int .i64 sd] 37)).alloc (Obj.cells #[.int .i64 0, .int .i64 0] 37)).heap[w.heap.size]? = some (.cells C.cells 24 (0, 0)) := by
    rw [Below.heap_alloc _ _ _ (by simp; omega), heap_alloc2_old]
  have hSc : (((w.alloc (Obj.cells C.cells 24)).alloc (Obj.cells #[.int .i64 st, .int .i64 sd] 37)).alloc (Obj.cells #[.int .i64 0, .int .i64 0] 37)).heap[w.heap.size + 1]? = some (.cells #[.int .i64 st, .int .i64 sd] 37 (0, 0)) := by
    rw [Below.heap_alloc _ _ _ (by simp), heap_alloc2_new]
  have hRc : (((w.alloc (Obj.cells C.cells 24)).alloc (Obj.cells #[.int .i64 st, .int .i64 sd] 37)).alloc (Obj.cells #[.int .i64 0, .int .i64 0] 37)).heap[w.heap.size + 2]? = some (.cells #[.int .i64 0, .int .i64 0] 37 (0, 0)) := heap_alloc_at _ _ _ (by simp)
  obtain ⟨p, hp⟩ : ∃ p, passB C l = p := ⟨_, rfl⟩
  have HP := Lib.hid hp
  by_cases hc : chk C = true
  · have HK : Hid (chkI C = 0) := by show chkI C = 0; unfold chkI; rw [if_pos hc]
    by_cases h0 : len = 0
    · subst h0
      have hz : l = [] := List.eq_nil_of_length_eq_zero HLN.out
      have HS : Hid (stepS C st sd l = (st, sd, 0)) := by show _ = _; unfold stepS; rw [if_neg (by rintro ⟨_, h, _⟩; exact h hz)]
      clear hc hp hz
      go_enter Try.func20, Try.ntmps20
      go_wp2_with (first
        | (with_reducible refine wpList_load_cfg rfl _ rfl w.heap.size rfl C hBc ?_)
        | (go_at_call 16; with_reducible refine (check_any C _ (HG.out.below hbc)).mono ?_; rintro e wX ⟨rfl, hX⟩; have hbc := bnext hbc hX; have hBc := (hX.block _ (lt_of_block hBc)).trans hBc; have hSc := (hX.block _ (lt_of_block hSc)).trans hSc; have hRc := (hX.block _ (lt_of_block hRc)).trans hRc; obtain ⟨s0, s1⟩ := soak_cells hSc; obtain ⟨r0, r1⟩ := soak_cells hRc; obtain ⟨_, _, _, _, _, _, _, _, _, m9, _⟩ := cfg_cells2 hBc; have z1 : ∀ j, wX.frozen? ⟨w.heap.size + 1, j, none⟩ = false := (fun j => blk_free hSc); have z2 : ∀ j, wX.frozen? ⟨w.heap.size + 2, j, none⟩ = false := (fun j => blk_free hRc); rw [HK.out])
        | (go_at_call 18; with_reducible refine (passes_any C a len cap l _ (HG.out.below hbc) (HR.out.below hbc) hl).mono ?_; rintro e wX ⟨rfl, hX⟩; have hbc := bnext hbc hX; have hBc := (hX.block _ (lt_of_block hBc)).trans hBc; have hSc := (hX.block _ (lt_of_block hSc)).trans hSc; have hRc := (hX.block _ (lt_of_block hRc)).trans hRc; obtain ⟨s0, s1⟩ := soak_cells hSc; obtain ⟨r0, r1⟩ := soak_cells hRc; obtain ⟨_, _, _, _, _, _, _, _, _, m9, _⟩ := cfg_cells2 hBc; have z1 : ∀ j, wX.frozen? ⟨w.heap.size + 1, j, none⟩ = false := (fun j => blk_free hSc); have z2 : ∀ j, wX.frozen? ⟨w.heap.size + 2, j, none⟩ = false := (fun j => blk_free hRc); rw [HP.out]))
      rw [HS.out]
      refine bodyPost_ret (results_cell_tmp rfl _ _ (w.heap.size + 1 + 1) _ rfl (res_soak hRc _ _)) rfl ?_
      exact ⟨rfl, (hbc.setCell (Nat.le_add_right _ 2) _).setCell (Nat.le_add_right _ 2) _⟩
    · have h00 : ((len : Int) == 0) = false := by simp; omega
      have hz : l ≠ [] := by intro e; have := HLN.out; rw [e] at this; simp at this; omega
      by_cases hs : sd = 0
      · subst hs
        cases p
        · have HS : Hid (stepS C st 0 l = (0, 2, 2)) := by show _ = _; unfold stepS; rw [if_pos ⟨hc, hz, rfl⟩, if_neg (by rw [hp]; decide)]
          clear hc hp hz h0
          go_enter Try.func20, Try.ntmps20
          go_wp2_with (first
            | (with_reducible refine wpList_load_cfg rfl _ rfl w.heap.size rfl C hBc ?_)
            | (go_at_call 16; with_reducible refine (check_any C _ (HG.out.below hbc)).mono ?_; rintro e wX ⟨rfl, hX⟩; have hbc := bnext hbc hX; have hBc := (hX.block _ (lt_of_block hBc)).trans hBc; have hSc := (hX.block _ (lt_of_block hSc)).trans hSc; have hRc := (hX.block _ (lt_of_block hRc)).trans hRc; obtain ⟨s0, s1⟩ := soak_cells hSc; obtain ⟨r0, r1⟩ := soak_cells hRc; obtain ⟨_, _, _, _, _, _, _, _, _, m9, _⟩ := cfg_cells2 hBc; have z1 : ∀ j, wX.frozen? ⟨w.heap.size + 1, j, none⟩ = false := (fun j => blk_free hSc); have z2 : ∀ j, wX.frozen? ⟨w.heap.size + 2, j, none⟩ = false := (fun j => blk_free hRc); rw [HK.out])
            | (go_at_call 18; with_reducible refine (passes_any C a len cap l _ (HG.out.below hbc) (HR.out.below hbc) hl).mono ?_; rintro e wX ⟨rfl, hX⟩; have hbc := bnext hbc hX; have hBc := (hX.block _ (lt_of_block hBc)).trans hBc; have hSc := (hX.block _ (lt_of_block hSc)).trans hSc; have hRc := (hX.block _ (lt_of_block hRc)).trans hRc; obtain ⟨s0, s1⟩ := soak_cells hSc; obtain ⟨r0, r1⟩ := soak_cells hRc; obtain ⟨_, _, _, _, _, _, _, _, _, m9, _⟩ := cfg_cells2 hBc; have z1 : ∀ j, wX.frozen? ⟨w.heap.size + 1, j, none⟩ = false := (fun j => blk_free hSc); have z2 : ∀ j, wX.frozen? ⟨w.heap.size + 2, j, none⟩ = false := (fun j => blk_free hRc); rw [HP.out]))
          rw [HS.out]
          refine bodyPost_ret (results_cell_tmp rfl _ _ (w.heap.size + 1 + 1) _ rfl (res_soak (soak_kept hRc _ _) _ _)) rfl ?_
          exact ⟨rfl, (((hbc.setCell (Nat.le_succ _) _).setCell (Nat.le_succ _) _).setCell (Nat.le_add_right _ 2) _).setCell (Nat.le_add_right _ 2) _⟩
        · have HS : Hid (stepS C st 0 l = if C.soak ≤ stepN st then (stepN st, 1, 1) else (stepN st, 0, 0)) := by show _ = _; unfold stepS; rw [if_pos ⟨hc, hz, rfl⟩, if_pos hp]
          clear hc hp hz h0
          by_cases a1 : 0 < st
          · by_cases a2 : st < 1099511627776
            · have HN : Hid (stepN st = st + 1) := by show _ = _; unfold stepN; rw [if_pos a1, if_pos a2]
              by_cases a3 : C.soak ≤ st + 1
              · have HT : Hid (stepS C st 0 l = (st + 1, 1, 1)) := by show _ = _; rw [HS.out, HN.out, if_pos a3]
                go_enter Try.func20, Try.ntmps20
                go_wp2_with (first
                  | (with_reducible refine wpList_load_cfg rfl _ rfl w.heap.size rfl C hBc ?_)
                  | (go_at_call 16; with_reducible refine (check_any C _ (HG.out.below hbc)).mono ?_; rintro e wX ⟨rfl, hX⟩; have hbc := bnext hbc hX; have hBc := (hX.block _ (lt_of_block hBc)).trans hBc; have hSc := (hX.block _ (lt_of_block hSc)).trans hSc; have hRc := (hX.block _ (lt_of_block hRc)).trans hRc; obtain ⟨s0, s1⟩ := soak_cells hSc; obtain ⟨r0, r1⟩ := soak_cells hRc; obtain ⟨_, _, _, _, _, _, _, _, _, m9, _⟩ := cfg_cells2 hBc; have z1 : ∀ j, wX.frozen? ⟨w.heap.size + 1, j, none⟩ = false := (fun j => blk_free hSc); have z2 : ∀ j, wX.frozen? ⟨w.heap.size + 2, j, none⟩ = false := (fun j => blk_free hRc); rw [HK.out])
                  | (go_at_call 18; with_reducible refine (passes_any C a len cap l _ (HG.out.below hbc) (HR.out.below hbc) hl).mono ?_; rintro e wX ⟨rfl, hX⟩; have hbc := bnext hbc hX; have hBc := (hX.block _ (lt_of_block hBc)).trans hBc; have hSc := (hX.block _ (lt_of_block hSc)).trans hSc; have hRc := (hX.block _ (lt_of_block hRc)).trans hRc; obtain ⟨s0, s1⟩ := soak_cells hSc; obtain ⟨r0, r1⟩ := soak_cells hRc; obtain ⟨_, _, _, _, _, _, _, _, _, m9, _⟩ := cfg_cells2 hBc; have z1 : ∀ j, wX.frozen? ⟨w.heap.size + 1, j, none⟩ = false := (fun j => blk_free hSc); have z2 : ∀ j, wX.frozen? ⟨w.heap.size + 2, j, none⟩ = false := (fun j => blk_free hRc); rw [HP.out]))
                rw [HT.out]
                refine bodyPost_ret (results_cell_tmp rfl _ _ (w.heap.size + 1 + 1) _ rfl (res_soak (soak_kept hRc _ _) _ _)) rfl ?_
                exact ⟨by rw [show max st 0 = st by omega]; rfl, (((hbc.setCell (Nat.le_succ _) _).setCell (Nat.le_succ _) _).setCell (Nat.le_add_right _ 2) _).setCell (Nat.le_add_right _ 2) _⟩
              · have HT : Hid (stepS C st 0 l = (st + 1, 0, 0)) := by show _ = _; rw [HS.out, HN.out, if_neg a3]
                go_enter Try.func20, Try.ntmps20
                go_wp2_with (first
                  | (with_reducible refine wpList_load_cfg rfl _ rfl w.heap.size rfl C hBc ?_)
                  | (go_at_call 16; with_reducible refine (check_any C _ (HG.out.below hbc)).mono ?_; rintro e wX ⟨rfl, hX⟩; have hbc := bnext hbc hX; have hBc := (hX.block _ (lt_of_block hBc)).trans hBc; have hSc := (hX.block _ (lt_of_block hSc)).trans hSc; have hRc := (hX.block _ (lt_of_block hRc)).trans hRc; obtain ⟨s0, s1⟩ := soak_cells hSc; obtain ⟨r0, r1⟩ := soak_cells hRc; obtain ⟨_, _, _, _, _, _, _, _, _, m9, _⟩ := cfg_cells2 hBc; have z1 : ∀ j, wX.frozen? ⟨w.heap.size + 1, j, none⟩ = false := (fun j => blk_free hSc); have z2 : ∀ j, wX.frozen? ⟨w.heap.size + 2, j, none⟩ = false := (fun j => blk_free hRc); rw [HK.out])
                  | (go_at_call 18; with_reducible refine (passes_any C a len cap l _ (HG.out.below hbc) (HR.out.below hbc) hl).mono ?_; rintro e wX ⟨rfl, hX⟩; have hbc := bnext hbc hX; have hBc := (hX.block _ (lt_of_block hBc)).trans hBc; have hSc := (hX.block _ (lt_of_block hSc)).trans hSc; have hRc := (hX.block _ (lt_of_block hRc)).trans hRc; obtain ⟨s0, s1⟩ := soak_cells hSc; obtain ⟨r0, r1⟩ := soak_cells hRc; obtain ⟨_, _, _, _, _, _, _, _, _, m9, _⟩ := cfg_cells2 hBc; have z1 : ∀ j, wX.frozen? ⟨w.heap.size + 1, j, none⟩ = false := (fun j => blk_free hSc); have z2 : ∀ j, wX.frozen? ⟨w.heap.size + 2, j, none⟩ = false := (fun j => blk_free hRc); rw [HP.out]))
                rw [HT.out]
                refine bodyPost_ret (results_cell_tmp rfl _ _ (w.heap.size + 1 + 1) _ rfl (res_soak (soak_kept hRc _ _) _ _)) rfl ?_
                exact ⟨by rw [show max st 0 = st by omega]; rfl, (((hbc.setCell (Nat.le_succ _) _).setCell (Nat.le_succ _) _).setCell (Nat.le_add_right _ 2) _).setCell (Nat.le_add_right _ 2) _⟩
            · have HN : Hid (stepN st = st) := by show _ = _; unfold stepN; rw [if_pos a1, if_neg a2]
              by_cases a3 : C.soak ≤ st
              · have HT : Hid (stepS C st 0 l = (st, 1, 1)) := by show _ = _; rw [HS.out, HN.out, if_pos a3]
                go_enter Try.func20, Try.ntmps20
                go_wp2_with (first
                  | (with_reducible refine wpList_load_cfg rfl _ rfl w.heap.size rfl C hBc ?_)
                  | (go_at_call 16; with_reducible refine (check_any C _ (HG.out.below hbc)).mono ?_; rintro e wX ⟨rfl, hX⟩; have hbc := bnext hbc hX; have hBc := (hX.block _ (lt_of_block hBc)).trans hBc; have hSc := (hX.block _ (lt_of_block hSc)).trans hSc; have hRc := (hX.block _ (lt_of_block hRc)).trans hRc; obtain ⟨s0, s1⟩ := soak_cells hSc; obtain ⟨r0, r1⟩ := soak_cells hRc; obtain ⟨_, _, _, _, _, _, _, _, _, m9, _⟩ := cfg_cells2 hBc; have z1 : ∀ j, wX.frozen? ⟨w.heap.size + 1, j, none⟩ = false := (fun j => blk_free hSc); have z2 : ∀ j, wX.frozen? ⟨w.heap.size + 2, j, none⟩ = false := (fun j => blk_free hRc); rw [HK.out])
                  | (go_at_call 18; with_reducible refine (passes_any C a len cap l _ (HG.out.below hbc) (HR.out.below hbc) hl).mono ?_; rintro e wX ⟨rfl, hX⟩; have hbc := bnext hbc hX; have hBc := (hX.block _ (lt_of_block hBc)).trans hBc; have hSc := (hX.block _ (lt_of_block hSc)).trans hSc; have hRc := (hX.block _ (lt_of_block hRc)).trans hRc; obtain ⟨s0, s1⟩ := soak_cells hSc; obtain ⟨r0, r1⟩ := soak_cells hRc; obtain ⟨_, _, _, _, _, _, _, _, _, m9, _⟩ := cfg_cells2 hBc; have z1 : ∀ j, wX.frozen? ⟨w.heap.size + 1, j, none⟩ = false := (fun j => blk_free hSc); have z2 : ∀ j, wX.frozen? ⟨w.heap.size + 2, j, none⟩ = false := (fun j => blk_free hRc); rw [HP.out]))
                rw [HT.out]
                refine bodyPost_ret (results_cell_tmp rfl _ _ (w.heap.size + 1 + 1) _ rfl (res_soak (soak_kept hRc _ _) _ _)) rfl ?_
                exact ⟨by rw [show max st 0 = st by omega]; rfl, (((hbc.setCell (Nat.le_succ _) _).setCell (Nat.le_succ _) _).setCell (Nat.le_add_right _ 2) _).setCell (Nat.le_add_right _ 2) _⟩
              · have HT : Hid (stepS C st 0 l = (st, 0, 0)) := by show _ = _; rw [HS.out, HN.out, if_neg a3]
                go_enter Try.func20, Try.ntmps20
                go_wp2_with (first
                  | (with_reducible refine wpList_load_cfg rfl _ rfl w.heap.size rfl C hBc ?_)
                  | (go_at_call 16; with_reducible refine (check_any C _ (HG.out.below hbc)).mono ?_; rintro e wX ⟨rfl, hX⟩; have hbc := bnext hbc hX; have hBc := (hX.block _ (lt_of_block hBc)).trans hBc; have hSc := (hX.block _ (lt_of_block hSc)).trans hSc; have hRc := (hX.block _ (lt_of_block hRc)).trans hRc; obtain ⟨s0, s1⟩ := soak_cells hSc; obtain ⟨r0, r1⟩ := soak_cells hRc; obtain ⟨_, _, _, _, _, _, _, _, _, m9, _⟩ := cfg_cells2 hBc; have z1 : ∀ j, wX.frozen? ⟨w.heap.size + 1, j, none⟩ = false := (fun j => blk_free hSc); have z2 : ∀ j, wX.frozen? ⟨w.heap.size + 2, j, none⟩ = false := (fun j => blk_free hRc); rw [HK.out])
                  | (go_at_call 18; with_reducible refine (passes_any C a len cap l _ (HG.out.below hbc) (HR.out.below hbc) hl).mono ?_; rintro e wX ⟨rfl, hX⟩; have hbc := bnext hbc hX; have hBc := (hX.block _ (lt_of_block hBc)).trans hBc; have hSc := (hX.block _ (lt_of_block hSc)).trans hSc; have hRc := (hX.block _ (lt_of_block hRc)).trans hRc; obtain ⟨s0, s1⟩ := soak_cells hSc; obtain ⟨r0, r1⟩ := soak_cells hRc; obtain ⟨_, _, _, _, _, _, _, _, _, m9, _⟩ := cfg_cells2 hBc; have z1 : ∀ j, wX.frozen? ⟨w.heap.size + 1, j, none⟩ = false := (fun j => blk_free hSc); have z2 : ∀ j, wX.frozen? ⟨w.heap.size + 2, j, none⟩ = false := (fun j => blk_free hRc); rw [HP.out]))
                rw [HT.out]
                refine bodyPost_ret (results_cell_tmp rfl _ _ (w.heap.size + 1 + 1) _ rfl (res_soak (soak_kept hRc _ _) _ _)) rfl ?_
                exact ⟨by rw [show max st 0 = st by omega]; rfl, (((hbc.setCell (Nat.le_succ _) _).setCell (Nat.le_succ _) _).setCell (Nat.le_add_right _ 2) _).setCell (Nat.le_add_right _ 2) _⟩
          · have HN : Hid (stepN st = 1) := by show _ = _; unfold stepN; rw [if_neg a1]
            have HMX : Hid (max st 0 = 0) := by show _ = _; omega
            by_cases a3 : C.soak ≤ 1
            · have HT : Hid (stepS C st 0 l = (1, 1, 1)) := by show _ = _; rw [HS.out, HN.out, if_pos a3]
              go_enter Try.func20, Try.ntmps20
              go_wp2_with (first
                | (with_reducible refine wpList_load_cfg rfl _ rfl w.heap.size rfl C hBc ?_)
                | (go_at_call 16; with_reducible refine (check_any C _ (HG.out.below hbc)).mono ?_; rintro e wX ⟨rfl, hX⟩; have hbc := bnext hbc hX; have hBc := (hX.block _ (lt_of_block hBc)).trans hBc; have hSc := (hX.block _ (lt_of_block hSc)).trans hSc; have hRc := (hX.block _ (lt_of_block hRc)).trans hRc; obtain ⟨s0, s1⟩ := soak_cells hSc; obtain ⟨r0, r1⟩ := soak_cells hRc; obtain ⟨_, _, _, _, _, _, _, _, _, m9, _⟩ := cfg_cells2 hBc; have z1 : ∀ j, wX.frozen? ⟨w.heap.size + 1, j, none⟩ = false := (fun j => blk_free hSc); have z2 : ∀ j, wX.frozen? ⟨w.heap.size + 2, j, none⟩ = false := (fun j => blk_free hRc); rw [HK.out])
                | (go_at_call 18; with_reducible refine (passes_any C a len cap l _ (HG.out.below hbc) (HR.out.below hbc) hl).mono ?_; rintro e wX ⟨rfl, hX⟩; have hbc := bnext hbc hX; have hBc := (hX.block _ (lt_of_block hBc)).trans hBc; have hSc := (hX.block _ (lt_of_block hSc)).trans hSc; have hRc := (hX.block _ (lt_of_block hRc)).trans hRc; obtain ⟨s0, s1⟩ := soak_cells hSc; obtain ⟨r0, r1⟩ := soak_cells hRc; obtain ⟨_, _, _, _, _, _, _, _, _, m9, _⟩ := cfg_cells2 hBc; have z1 : ∀ j, wX.frozen? ⟨w.heap.size + 1, j, none⟩ = false := (fun j => blk_free hSc); have z2 : ∀ j, wX.frozen? ⟨w.heap.size + 2, j, none⟩ = false := (fun j => blk_free hRc); rw [HP.out]))
              rw [HT.out]
              refine bodyPost_ret (results_cell_tmp rfl _ _ (w.heap.size + 1 + 1) _ rfl (res_soak (soak_kept hRc _ _) _ _)) rfl ?_
              exact ⟨by rw [HMX.out]; rfl, (((hbc.setCell (Nat.le_succ _) _).setCell (Nat.le_succ _) _).setCell (Nat.le_add_right _ 2) _).setCell (Nat.le_add_right _ 2) _⟩
            · have HT : Hid (stepS C st 0 l = (1, 0, 0)) := by show _ = _; rw [HS.out, HN.out, if_neg a3]
              go_enter Try.func20, Try.ntmps20
              go_wp2_with (first
                | (with_reducible refine wpList_load_cfg rfl _ rfl w.heap.size rfl C hBc ?_)
                | (go_at_call 16; with_reducible refine (check_any C _ (HG.out.below hbc)).mono ?_; rintro e wX ⟨rfl, hX⟩; have hbc := bnext hbc hX; have hBc := (hX.block _ (lt_of_block hBc)).trans hBc; have hSc := (hX.block _ (lt_of_block hSc)).trans hSc; have hRc := (hX.block _ (lt_of_block hRc)).trans hRc; obtain ⟨s0, s1⟩ := soak_cells hSc; obtain ⟨r0, r1⟩ := soak_cells hRc; obtain ⟨_, _, _, _, _, _, _, _, _, m9, _⟩ := cfg_cells2 hBc; have z1 : ∀ j, wX.frozen? ⟨w.heap.size + 1, j, none⟩ = false := (fun j => blk_free hSc); have z2 : ∀ j, wX.frozen? ⟨w.heap.size + 2, j, none⟩ = false := (fun j => blk_free hRc); rw [HK.out])
                | (go_at_call 18; with_reducible refine (passes_any C a len cap l _ (HG.out.below hbc) (HR.out.below hbc) hl).mono ?_; rintro e wX ⟨rfl, hX⟩; have hbc := bnext hbc hX; have hBc := (hX.block _ (lt_of_block hBc)).trans hBc; have hSc := (hX.block _ (lt_of_block hSc)).trans hSc; have hRc := (hX.block _ (lt_of_block hRc)).trans hRc; obtain ⟨s0, s1⟩ := soak_cells hSc; obtain ⟨r0, r1⟩ := soak_cells hRc; obtain ⟨_, _, _, _, _, _, _, _, _, m9, _⟩ := cfg_cells2 hBc; have z1 : ∀ j, wX.frozen? ⟨w.heap.size + 1, j, none⟩ = false := (fun j => blk_free hSc); have z2 : ∀ j, wX.frozen? ⟨w.heap.size + 2, j, none⟩ = false := (fun j => blk_free hRc); rw [HP.out]))
              rw [HT.out]
              refine bodyPost_ret (results_cell_tmp rfl _ _ (w.heap.size + 1 + 1) _ rfl (res_soak (soak_kept hRc _ _) _ _)) rfl ?_
              exact ⟨by rw [HMX.out]; rfl, (((hbc.setCell (Nat.le_succ _) _).setCell (Nat.le_succ _) _).setCell (Nat.le_add_right _ 2) _).setCell (Nat.le_add_right _ 2) _⟩
      · have hs' : (sd == 0) = false := by simpa using hs
        have HS : Hid (stepS C st sd l = (st, sd, 0)) := by show _ = _; unfold stepS; rw [if_neg (by rintro ⟨_, _, h⟩; exact hs h)]
        clear hc hp hz h0 hs
        go_enter Try.func20, Try.ntmps20
        go_wp2_with (first
          | (with_reducible refine wpList_load_cfg rfl _ rfl w.heap.size rfl C hBc ?_)
          | (go_at_call 16; with_reducible refine (check_any C _ (HG.out.below hbc)).mono ?_; rintro e wX ⟨rfl, hX⟩; have hbc := bnext hbc hX; have hBc := (hX.block _ (lt_of_block hBc)).trans hBc; have hSc := (hX.block _ (lt_of_block hSc)).trans hSc; have hRc := (hX.block _ (lt_of_block hRc)).trans hRc; obtain ⟨s0, s1⟩ := soak_cells hSc; obtain ⟨r0, r1⟩ := soak_cells hRc; obtain ⟨_, _, _, _, _, _, _, _, _, m9, _⟩ := cfg_cells2 hBc; have z1 : ∀ j, wX.frozen? ⟨w.heap.size + 1, j, none⟩ = false := (fun j => blk_free hSc); have z2 : ∀ j, wX.frozen? ⟨w.heap.size + 2, j, none⟩ = false := (fun j => blk_free hRc); rw [HK.out])
          | (go_at_call 18; with_reducible refine (passes_any C a len cap l _ (HG.out.below hbc) (HR.out.below hbc) hl).mono ?_; rintro e wX ⟨rfl, hX⟩; have hbc := bnext hbc hX; have hBc := (hX.block _ (lt_of_block hBc)).trans hBc; have hSc := (hX.block _ (lt_of_block hSc)).trans hSc; have hRc := (hX.block _ (lt_of_block hRc)).trans hRc; obtain ⟨s0, s1⟩ := soak_cells hSc; obtain ⟨r0, r1⟩ := soak_cells hRc; obtain ⟨_, _, _, _, _, _, _, _, _, m9, _⟩ := cfg_cells2 hBc; have z1 : ∀ j, wX.frozen? ⟨w.heap.size + 1, j, none⟩ = false := (fun j => blk_free hSc); have z2 : ∀ j, wX.frozen? ⟨w.heap.size + 2, j, none⟩ = false := (fun j => blk_free hRc); rw [HP.out]))
        rw [HS.out]
        refine bodyPost_ret (results_cell_tmp rfl _ _ (w.heap.size + 1 + 1) _ rfl (res_soak hRc _ _)) rfl ?_
        exact ⟨rfl, (hbc.setCell (Nat.le_add_right _ 2) _).setCell (Nat.le_add_right _ 2) _⟩
  · have HK : Hid (chkI C = 90) := by show chkI C = 90; unfold chkI; rw [if_neg hc]
    have HS : Hid (stepS C st sd l = (st, sd, 0)) := by show _ = _; unfold stepS; rw [if_neg (by rintro ⟨h, _⟩; exact hc h)]
    clear hc hp
    go_enter Try.func20, Try.ntmps20
    go_wp2_with (first
      | (with_reducible refine wpList_load_cfg rfl _ rfl w.heap.size rfl C hBc ?_)
      | (go_at_call 16; with_reducible refine (check_any C _ (HG.out.below hbc)).mono ?_; rintro e wX ⟨rfl, hX⟩; have hbc := bnext hbc hX; have hBc := (hX.block _ (lt_of_block hBc)).trans hBc; have hSc := (hX.block _ (lt_of_block hSc)).trans hSc; have hRc := (hX.block _ (lt_of_block hRc)).trans hRc; obtain ⟨s0, s1⟩ := soak_cells hSc; obtain ⟨r0, r1⟩ := soak_cells hRc; obtain ⟨_, _, _, _, _, _, _, _, _, m9, _⟩ := cfg_cells2 hBc; have z1 : ∀ j, wX.frozen? ⟨w.heap.size + 1, j, none⟩ = false := (fun j => blk_free hSc); have z2 : ∀ j, wX.frozen? ⟨w.heap.size + 2, j, none⟩ = false := (fun j => blk_free hRc); rw [HK.out])
      | (go_at_call 18; with_reducible refine (passes_any C a len cap l _ (HG.out.below hbc) (HR.out.below hbc) hl).mono ?_; rintro e wX ⟨rfl, hX⟩; have hbc := bnext hbc hX; have hBc := (hX.block _ (lt_of_block hBc)).trans hBc; have hSc := (hX.block _ (lt_of_block hSc)).trans hSc; have hRc := (hX.block _ (lt_of_block hRc)).trans hRc; obtain ⟨s0, s1⟩ := soak_cells hSc; obtain ⟨r0, r1⟩ := soak_cells hRc; obtain ⟨_, _, _, _, _, _, _, _, _, m9, _⟩ := cfg_cells2 hBc; have z1 : ∀ j, wX.frozen? ⟨w.heap.size + 1, j, none⟩ = false := (fun j => blk_free hSc); have z2 : ∀ j, wX.frozen? ⟨w.heap.size + 2, j, none⟩ = false := (fun j => blk_free hRc); rw [HP.out]))
    rw [HS.out]
    refine bodyPost_ret (results_cell_tmp rfl _ _ (w.heap.size + 1 + 1) _ rfl (res_soak hRc _ _)) rfl ?_
    exact ⟨rfl, (hbc.setCell (Nat.le_add_right _ 2) _).setCell (Nat.le_add_right _ 2) _⟩

set_option maxRecDepth 100000 in
set_option maxHeartbeats 4000000 in
theorem rstep_any (C : Cv) (st sd : Int) (a : Option Addr) (len cap : Nat) (l : List Nat) (w : World) (h : Good w C) (hr : ReadsF w a len cap l) (hl : len ≤ 1000) (hst : -9223372036854775808 ≤ st ∧ st ≤ 9223372036854775807) :
    Calls Try.prog 36 #[.agg C.cells, .agg #[.int .i64 st, .int .i64 sd], .slice a len cap] w fun e w' =>
      e = .returned (.tuple #[.agg #[.int .i64 (stepS C st sd l).1, .int .i64 (stepS C st sd l).2.1], .int .i64 (stepS C st sd l).2.2]) ∧ Below w.heap.size w w' := by
  have HG := Lib.hid h
  have HR := Lib.hid hr
  have HLN : Hid (l.length = len) := hr.length
  have rs := h.r7
  clear h hr
  have hbc : Below w.heap.size w (((w.alloc (Obj.cells C.cells 24)).alloc (Obj.cells #[.int .i64 st, .int .i64 sd] 37)).alloc (Obj.cells #[.int .i64 0, .int .i64 0] 37)) := bnew (bnew (bnew (brefl w) _) _) _
  have hBc : (((w.alloc (Obj.cells C.cells 24)).alloc (Obj.cells #[.int .i64 st, .int .i64 sd] 37)).alloc (Obj.cells #[.int .i64 0, .int .i64 0] 37)).heap[w.heap.size]? = some (.cells C.cells 24 (0, 0)) := by
    rw [Below.heap_alloc _ _ _ (by simp; omega), heap_alloc2_old]
  have hSc : (((w.alloc (Obj.cells C.cells 24)).alloc (Obj.cells #[.int .i64 st, .int .i64 sd] 37)).alloc (Obj.cells #[.int .i64 0, .int .i64 0] 37)).heap[w.heap.size + 1]? = some (.cells #[.int .i64 st, .int .i64 sd] 37 (0, 0)) := by
    rw [Below.heap_alloc _ _ _ (by simp), heap_alloc2_new]
  have hRc : (((w.alloc (Obj.cells C.cells 24)).alloc (Obj.cells #[.int .i64 st, .int .i64 sd] 37)).alloc (Obj.cells #[.int .i64 0, .int .i64 0] 37)).heap[w.heap.size + 2]? = some (.cells #[.int .i64 0, .int .i64 0] 37 (0, 0)) := heap_alloc_at _ _ _ (by simp)
  obtain ⟨p, hp⟩ : ∃ p, passB C l = p := ⟨_, rfl⟩
  have HP := Lib.hid hp
  by_cases hc : chk C = true
  · have HK : Hid (chkI C = 0) := by show chkI C = 0; unfold chkI; rw [if_pos hc]
    by_cases h0 : len = 0
    · subst h0
      have hz : l = [] := List.eq_nil_of_length_eq_zero HLN.out
      have HS : Hid (stepS C st sd l = (st, sd, 0)) := by show _ = _; unfold stepS; rw [if_neg (by rintro ⟨_, h, _⟩; exact h hz)]
      clear hc hp hz
      go_enter Try.func36, Try.ntmps36
      go_wp2_with (first
        | (with_reducible refine wpList_load_cfg rfl _ rfl w.heap.size rfl C hBc ?_)
        | (go_at_call 53; with_reducible refine (rcheck_any C _ (HG.out.below hbc)).mono ?_; rintro e wX ⟨rfl, hX⟩; have hbc := bnext hbc hX; have hBc := (hX.block _ (lt_of_block hBc)).trans hBc; have hSc := (hX.block _ (lt_of_block hSc)).trans hSc; have hRc := (hX.block _ (lt_of_block hRc)).trans hRc; obtain ⟨s0, s1⟩ := soak_cells hSc; obtain ⟨r0, r1⟩ := soak_cells hRc; obtain ⟨_, _, _, _, _, _, _, _, _, m9, _⟩ := cfg_cells2 hBc; have z1 : ∀ j, wX.frozen? ⟨w.heap.size + 1, j, none⟩ = false := (fun j => blk_free hSc); have z2 : ∀ j, wX.frozen? ⟨w.heap.size + 2, j, none⟩ = false := (fun j => blk_free hRc); rw [HK.out])
        | (go_at_call 37; with_reducible refine (rpasses_any C a len cap l _ (HG.out.below hbc) (HR.out.below hbc) hl).mono ?_; rintro e wX ⟨rfl, hX⟩; have hbc := bnext hbc hX; have hBc := (hX.block _ (lt_of_block hBc)).trans hBc; have hSc := (hX.block _ (lt_of_block hSc)).trans hSc; have hRc := (hX.block _ (lt_of_block hRc)).trans hRc; obtain ⟨s0, s1⟩ := soak_cells hSc; obtain ⟨r0, r1⟩ := soak_cells hRc; obtain ⟨_, _, _, _, _, _, _, _, _, m9, _⟩ := cfg_cells2 hBc; have z1 : ∀ j, wX.frozen? ⟨w.heap.size + 1, j, none⟩ = false := (fun j => blk_free hSc); have z2 : ∀ j, wX.frozen? ⟨w.heap.size + 2, j, none⟩ = false := (fun j => blk_free hRc); rw [HP.out]))
      rw [HS.out]
      refine bodyPost_ret (results_cell_tmp rfl _ _ (w.heap.size + 1 + 1) _ rfl (res_soak hRc _ _)) rfl ?_
      exact ⟨rfl, (hbc.setCell (Nat.le_add_right _ 2) _).setCell (Nat.le_add_right _ 2) _⟩
    · have h00 : ((len : Int) == 0) = false := by simp; omega
      have hz : l ≠ [] := by intro e; have := HLN.out; rw [e] at this; simp at this; omega
      by_cases hs : sd = 0
      · subst hs
        cases p
        · have HS : Hid (stepS C st 0 l = (0, 2, 2)) := by show _ = _; unfold stepS; rw [if_pos ⟨hc, hz, rfl⟩, if_neg (by rw [hp]; decide)]
          clear hc hp hz h0
          go_enter Try.func36, Try.ntmps36
          go_wp2_with (first
            | (with_reducible refine wpList_load_cfg rfl _ rfl w.heap.size rfl C hBc ?_)
            | (go_at_call 53; with_reducible refine (rcheck_any C _ (HG.out.below hbc)).mono ?_; rintro e wX ⟨rfl, hX⟩; have hbc := bnext hbc hX; have hBc := (hX.block _ (lt_of_block hBc)).trans hBc; have hSc := (hX.block _ (lt_of_block hSc)).trans hSc; have hRc := (hX.block _ (lt_of_block hRc)).trans hRc; obtain ⟨s0, s1⟩ := soak_cells hSc; obtain ⟨r0, r1⟩ := soak_cells hRc; obtain ⟨_, _, _, _, _, _, _, _, _, m9, _⟩ := cfg_cells2 hBc; have z1 : ∀ j, wX.frozen? ⟨w.heap.size + 1, j, none⟩ = false := (fun j => blk_free hSc); have z2 : ∀ j, wX.frozen? ⟨w.heap.size + 2, j, none⟩ = false := (fun j => blk_free hRc); rw [HK.out])
            | (go_at_call 37; with_reducible refine (rpasses_any C a len cap l _ (HG.out.below hbc) (HR.out.below hbc) hl).mono ?_; rintro e wX ⟨rfl, hX⟩; have hbc := bnext hbc hX; have hBc := (hX.block _ (lt_of_block hBc)).trans hBc; have hSc := (hX.block _ (lt_of_block hSc)).trans hSc; have hRc := (hX.block _ (lt_of_block hRc)).trans hRc; obtain ⟨s0, s1⟩ := soak_cells hSc; obtain ⟨r0, r1⟩ := soak_cells hRc; obtain ⟨_, _, _, _, _, _, _, _, _, m9, _⟩ := cfg_cells2 hBc; have z1 : ∀ j, wX.frozen? ⟨w.heap.size + 1, j, none⟩ = false := (fun j => blk_free hSc); have z2 : ∀ j, wX.frozen? ⟨w.heap.size + 2, j, none⟩ = false := (fun j => blk_free hRc); rw [HP.out]))
          rw [HS.out]
          refine bodyPost_ret (results_cell_tmp rfl _ _ (w.heap.size + 1 + 1) _ rfl (res_soak hRc _ _)) rfl ?_
          exact ⟨rfl, (hbc.setCell (Nat.le_add_right _ 2) _).setCell (Nat.le_add_right _ 2) _⟩
        · have HS : Hid (stepS C st 0 l = if C.soak ≤ stepN st then (stepN st, 1, 1) else (stepN st, 0, 0)) := by show _ = _; unfold stepS; rw [if_pos ⟨hc, hz, rfl⟩, if_pos hp]
          clear hc hp hz h0
          by_cases a1 : 0 < st
          · by_cases a2 : st < 1099511627776
            · have HN : Hid (stepN st = st + 1) := by show _ = _; unfold stepN; rw [if_pos a1, if_pos a2]
              by_cases a3 : C.soak ≤ st + 1
              · have HT : Hid (stepS C st 0 l = (st + 1, 1, 1)) := by show _ = _; rw [HS.out, HN.out, if_pos a3]
                go_enter Try.func36, Try.ntmps36
                go_wp2_with (first
                  | (with_reducible refine wpList_load_cfg rfl _ rfl w.heap.size rfl C hBc ?_)
                  | (go_at_call 53; with_reducible refine (rcheck_any C _ (HG.out.below hbc)).mono ?_; rintro e wX ⟨rfl, hX⟩; have hbc := bnext hbc hX; have hBc := (hX.block _ (lt_of_block hBc)).trans hBc; have hSc := (hX.block _ (lt_of_block hSc)).trans hSc; have hRc := (hX.block _ (lt_of_block hRc)).trans hRc; obtain ⟨s0, s1⟩ := soak_cells hSc; obtain ⟨r0, r1⟩ := soak_cells hRc; obtain ⟨_, _, _, _, _, _, _, _, _, m9, _⟩ := cfg_cells2 hBc; have z1 : ∀ j, wX.frozen? ⟨w.heap.size + 1, j, none⟩ = false := (fun j => blk_free hSc); have z2 : ∀ j, wX.frozen? ⟨w.heap.size + 2, j, none⟩ = false := (fun j => blk_free hRc); rw [HK.out])
                  | (go_at_call 37; with_reducible refine (rpasses_any C a len cap l _ (HG.out.below hbc) (HR.out.below hbc) hl).mono ?_; rintro e wX ⟨rfl, hX⟩; have hbc := bnext hbc hX; have hBc := (hX.block _ (lt_of_block hBc)).trans hBc; have hSc := (hX.block _ (lt_of_block hSc)).trans hSc; have hRc := (hX.block _ (lt_of_block hRc)).trans hRc; obtain ⟨s0, s1⟩ := soak_cells hSc; obtain ⟨r0, r1⟩ := soak_cells hRc; obtain ⟨_, _, _, _, _, _, _, _, _, m9, _⟩ := cfg_cells2 hBc; have z1 : ∀ j, wX.frozen? ⟨w.heap.size + 1, j, none⟩ = false := (fun j => blk_free hSc); have z2 : ∀ j, wX.frozen? ⟨w.heap.size + 2, j, none⟩ = false := (fun j => blk_free hRc); rw [HP.out]))
                rw [HT.out]
                refine bodyPost_ret (results_cell_tmp rfl _ _ (w.heap.size + 1 + 1) _ rfl (res_soak hRc _ _)) rfl ?_
                exact ⟨rfl, (hbc.setCell (Nat.le_add_right _ 2) _).setCell (Nat.le_add_right _ 2) _⟩
              · have HT : Hid (stepS C st 0 l = (st + 1, 0, 0)) := by show _ = _; rw [HS.out, HN.out, if_neg a3]
                go_enter Try.func36, Try.ntmps36
                go_wp2_with (first
                  | (with_reducible refine wpList_load_cfg rfl _ rfl w.heap.size rfl C hBc ?_)
                  | (go_at_call 53; with_reducible refine (rcheck_any C _ (HG.out.below hbc)).mono ?_; rintro e wX ⟨rfl, hX⟩; have hbc := bnext hbc hX; have hBc := (hX.block _ (lt_of_block hBc)).trans hBc; have hSc := (hX.block _ (lt_of_block hSc)).trans hSc; have hRc := (hX.block _ (lt_of_block hRc)).trans hRc; obtain ⟨s0, s1⟩ := soak_cells hSc; obtain ⟨r0, r1⟩ := soak_cells hRc; obtain ⟨_, _, _, _, _, _, _, _, _, m9, _⟩ := cfg_cells2 hBc; have z1 : ∀ j, wX.frozen? ⟨w.heap.size + 1, j, none⟩ = false := (fun j => blk_free hSc); have z2 : ∀ j, wX.frozen? ⟨w.heap.size + 2, j, none⟩ = false := (fun j => blk_free hRc); rw [HK.out])
                  | (go_at_call 37; with_reducible refine (rpasses_any C a len cap l _ (HG.out.below hbc) (HR.out.below hbc) hl).mono ?_; rintro e wX ⟨rfl, hX⟩; have hbc := bnext hbc hX; have hBc := (hX.block _ (lt_of_block hBc)).trans hBc; have hSc := (hX.block _ (lt_of_block hSc)).trans hSc; have hRc := (hX.block _ (lt_of_block hRc)).trans hRc; obtain ⟨s0, s1⟩ := soak_cells hSc; obtain ⟨r0, r1⟩ := soak_cells hRc; obtain ⟨_, _, _, _, _, _, _, _, _, m9, _⟩ := cfg_cells2 hBc; have z1 : ∀ j, wX.frozen? ⟨w.heap.size + 1, j, none⟩ = false := (fun j => blk_free hSc); have z2 : ∀ j, wX.frozen? ⟨w.heap.size + 2, j, none⟩ = false := (fun j => blk_free hRc); rw [HP.out]))
                rw [HT.out]
                refine bodyPost_ret (results_cell_tmp rfl _ _ (w.heap.size + 1 + 1) _ rfl (res_soak hRc _ _)) rfl ?_
                exact ⟨rfl, (hbc.setCell (Nat.le_add_right _ 2) _).setCell (Nat.le_add_right _ 2) _⟩
            · have HN : Hid (stepN st = st) := by show _ = _; unfold stepN; rw [if_pos a1, if_neg a2]
              by_cases a3 : C.soak ≤ st
              · have HT : Hid (stepS C st 0 l = (st, 1, 1)) := by show _ = _; rw [HS.out, HN.out, if_pos a3]
                go_enter Try.func36, Try.ntmps36
                go_wp2_with (first
                  | (with_reducible refine wpList_load_cfg rfl _ rfl w.heap.size rfl C hBc ?_)
                  | (go_at_call 53; with_reducible refine (rcheck_any C _ (HG.out.below hbc)).mono ?_; rintro e wX ⟨rfl, hX⟩; have hbc := bnext hbc hX; have hBc := (hX.block _ (lt_of_block hBc)).trans hBc; have hSc := (hX.block _ (lt_of_block hSc)).trans hSc; have hRc := (hX.block _ (lt_of_block hRc)).trans hRc; obtain ⟨s0, s1⟩ := soak_cells hSc; obtain ⟨r0, r1⟩ := soak_cells hRc; obtain ⟨_, _, _, _, _, _, _, _, _, m9, _⟩ := cfg_cells2 hBc; have z1 : ∀ j, wX.frozen? ⟨w.heap.size + 1, j, none⟩ = false := (fun j => blk_free hSc); have z2 : ∀ j, wX.frozen? ⟨w.heap.size + 2, j, none⟩ = false := (fun j => blk_free hRc); rw [HK.out])
                  | (go_at_call 37; with_reducible refine (rpasses_any C a len cap l _ (HG.out.below hbc) (HR.out.below hbc) hl).mono ?_; rintro e wX ⟨rfl, hX⟩; have hbc := bnext hbc hX; have hBc := (hX.block _ (lt_of_block hBc)).trans hBc; have hSc := (hX.block _ (lt_of_block hSc)).trans hSc; have hRc := (hX.block _ (lt_of_block hRc)).trans hRc; obtain ⟨s0, s1⟩ := soak_cells hSc; obtain ⟨r0, r1⟩ := soak_cells hRc; obtain ⟨_, _, _, _, _, _, _, _, _, m9, _⟩ := cfg_cells2 hBc; have z1 : ∀ j, wX.frozen? ⟨w.heap.size + 1, j, none⟩ = false := (fun j => blk_free hSc); have z2 : ∀ j, wX.frozen? ⟨w.heap.size + 2, j, none⟩ = false := (fun j => blk_free hRc); rw [HP.out]))
                rw [HT.out]
                refine bodyPost_ret (results_cell_tmp rfl _ _ (w.heap.size + 1 + 1) _ rfl (res_soak hRc _ _)) rfl ?_
                exact ⟨rfl, (hbc.setCell (Nat.le_add_right _ 2) _).setCell (Nat.le_add_right _ 2) _⟩
              · have HT : Hid (stepS C st 0 l = (st, 0, 0)) := by show _ = _; rw [HS.out, HN.out, if_neg a3]
                go_enter Try.func36, Try.ntmps36
                go_wp2_with (first
                  | (with_reducible refine wpList_load_cfg rfl _ rfl w.heap.size rfl C hBc ?_)
                  | (go_at_call 53; with_reducible refine (rcheck_any C _ (HG.out.below hbc)).mono ?_; rintro e wX ⟨rfl, hX⟩; have hbc := bnext hbc hX; have hBc := (hX.block _ (lt_of_block hBc)).trans hBc; have hSc := (hX.block _ (lt_of_block hSc)).trans hSc; have hRc := (hX.block _ (lt_of_block hRc)).trans hRc; obtain ⟨s0, s1⟩ := soak_cells hSc; obtain ⟨r0, r1⟩ := soak_cells hRc; obtain ⟨_, _, _, _, _, _, _, _, _, m9, _⟩ := cfg_cells2 hBc; have z1 : ∀ j, wX.frozen? ⟨w.heap.size + 1, j, none⟩ = false := (fun j => blk_free hSc); have z2 : ∀ j, wX.frozen? ⟨w.heap.size + 2, j, none⟩ = false := (fun j => blk_free hRc); rw [HK.out])
                  | (go_at_call 37; with_reducible refine (rpasses_any C a len cap l _ (HG.out.below hbc) (HR.out.below hbc) hl).mono ?_; rintro e wX ⟨rfl, hX⟩; have hbc := bnext hbc hX; have hBc := (hX.block _ (lt_of_block hBc)).trans hBc; have hSc := (hX.block _ (lt_of_block hSc)).trans hSc; have hRc := (hX.block _ (lt_of_block hRc)).trans hRc; obtain ⟨s0, s1⟩ := soak_cells hSc; obtain ⟨r0, r1⟩ := soak_cells hRc; obtain ⟨_, _, _, _, _, _, _, _, _, m9, _⟩ := cfg_cells2 hBc; have z1 : ∀ j, wX.frozen? ⟨w.heap.size + 1, j, none⟩ = false := (fun j => blk_free hSc); have z2 : ∀ j, wX.frozen? ⟨w.heap.size + 2, j, none⟩ = false := (fun j => blk_free hRc); rw [HP.out]))
                rw [HT.out]
                refine bodyPost_ret (results_cell_tmp rfl _ _ (w.heap.size + 1 + 1) _ rfl (res_soak hRc _ _)) rfl ?_
                exact ⟨rfl, (hbc.setCell (Nat.le_add_right _ 2) _).setCell (Nat.le_add_right _ 2) _⟩
          · have HN : Hid (stepN st = 1) := by show _ = _; unfold stepN; rw [if_neg a1]
            by_cases a3 : C.soak ≤ 1
            · have HT : Hid (stepS C st 0 l = (1, 1, 1)) := by show _ = _; rw [HS.out, HN.out, if_pos a3]
              go_enter Try.func36, Try.ntmps36
              go_wp2_with (first
                | (with_reducible refine wpList_load_cfg rfl _ rfl w.heap.size rfl C hBc ?_)
                | (go_at_call 53; with_reducible refine (rcheck_any C _ (HG.out.below hbc)).mono ?_; rintro e wX ⟨rfl, hX⟩; have hbc := bnext hbc hX; have hBc := (hX.block _ (lt_of_block hBc)).trans hBc; have hSc := (hX.block _ (lt_of_block hSc)).trans hSc; have hRc := (hX.block _ (lt_of_block hRc)).trans hRc; obtain ⟨s0, s1⟩ := soak_cells hSc; obtain ⟨r0, r1⟩ := soak_cells hRc; obtain ⟨_, _, _, _, _, _, _, _, _, m9, _⟩ := cfg_cells2 hBc; have z1 : ∀ j, wX.frozen? ⟨w.heap.size + 1, j, none⟩ = false := (fun j => blk_free hSc); have z2 : ∀ j, wX.frozen? ⟨w.heap.size + 2, j, none⟩ = false := (fun j => blk_free hRc); rw [HK.out])
                | (go_at_call 37; with_reducible refine (rpasses_any C a len cap l _ (HG.out.below hbc) (HR.out.below hbc) hl).mono ?_; rintro e wX ⟨rfl, hX⟩; have hbc := bnext hbc hX; have hBc := (hX.block _ (lt_of_block hBc)).trans hBc; have hSc := (hX.block _ (lt_of_block hSc)).trans hSc; have hRc := (hX.block _ (lt_of_block hRc)).trans hRc; obtain ⟨s0, s1⟩ := soak_cells hSc; obtain ⟨r0, r1⟩ := soak_cells hRc; obtain ⟨_, _, _, _, _, _, _, _, _, m9, _⟩ := cfg_cells2 hBc; have z1 : ∀ j, wX.frozen? ⟨w.heap.size + 1, j, none⟩ = false := (fun j => blk_free hSc); have z2 : ∀ j, wX.frozen? ⟨w.heap.size + 2, j, none⟩ = false := (fun j => blk_free hRc); rw [HP.out]))
              rw [HT.out]
              refine bodyPost_ret (results_cell_tmp rfl _ _ (w.heap.size + 1 + 1) _ rfl (res_soak hRc _ _)) rfl ?_
              exact ⟨rfl, (hbc.setCell (Nat.le_add_right _ 2) _).setCell (Nat.le_add_right _ 2) _⟩
            · have HT : Hid (stepS C st 0 l = (1, 0, 0)) := by show _ = _; rw [HS.out, HN.out, if_neg a3]
              go_enter Try.func36, Try.ntmps36
              go_wp2_with (first
                | (with_reducible refine wpList_load_cfg rfl _ rfl w.heap.size rfl C hBc ?_)
                | (go_at_call 53; with_reducible refine (rcheck_any C _ (HG.out.below hbc)).mono ?_; rintro e wX ⟨rfl, hX⟩; have hbc := bnext hbc hX; have hBc := (hX.block _ (lt_of_block hBc)).trans hBc; have hSc := (hX.block _ (lt_of_block hSc)).trans hSc; have hRc := (hX.block _ (lt_of_block hRc)).trans hRc; obtain ⟨s0, s1⟩ := soak_cells hSc; obtain ⟨r0, r1⟩ := soak_cells hRc; obtain ⟨_, _, _, _, _, _, _, _, _, m9, _⟩ := cfg_cells2 hBc; have z1 : ∀ j, wX.frozen? ⟨w.heap.size + 1, j, none⟩ = false := (fun j => blk_free hSc); have z2 : ∀ j, wX.frozen? ⟨w.heap.size + 2, j, none⟩ = false := (fun j => blk_free hRc); rw [HK.out])
                | (go_at_call 37; with_reducible refine (rpasses_any C a len cap l _ (HG.out.below hbc) (HR.out.below hbc) hl).mono ?_; rintro e wX ⟨rfl, hX⟩; have hbc := bnext hbc hX; have hBc := (hX.block _ (lt_of_block hBc)).trans hBc; have hSc := (hX.block _ (lt_of_block hSc)).trans hSc; have hRc := (hX.block _ (lt_of_block hRc)).trans hRc; obtain ⟨s0, s1⟩ := soak_cells hSc; obtain ⟨r0, r1⟩ := soak_cells hRc; obtain ⟨_, _, _, _, _, _, _, _, _, m9, _⟩ := cfg_cells2 hBc; have z1 : ∀ j, wX.frozen? ⟨w.heap.size + 1, j, none⟩ = false := (fun j => blk_free hSc); have z2 : ∀ j, wX.frozen? ⟨w.heap.size + 2, j, none⟩ = false := (fun j => blk_free hRc); rw [HP.out]))
              rw [HT.out]
              refine bodyPost_ret (results_cell_tmp rfl _ _ (w.heap.size + 1 + 1) _ rfl (res_soak hRc _ _)) rfl ?_
              exact ⟨rfl, (hbc.setCell (Nat.le_add_right _ 2) _).setCell (Nat.le_add_right _ 2) _⟩
      · have hs' : (sd == 0) = false := by simpa using hs
        have HS : Hid (stepS C st sd l = (st, sd, 0)) := by show _ = _; unfold stepS; rw [if_neg (by rintro ⟨_, _, h⟩; exact hs h)]
        clear hc hp hz h0 hs
        go_enter Try.func36, Try.ntmps36
        go_wp2_with (first
          | (with_reducible refine wpList_load_cfg rfl _ rfl w.heap.size rfl C hBc ?_)
          | (go_at_call 53; with_reducible refine (rcheck_any C _ (HG.out.below hbc)).mono ?_; rintro e wX ⟨rfl, hX⟩; have hbc := bnext hbc hX; have hBc := (hX.block _ (lt_of_block hBc)).trans hBc; have hSc := (hX.block _ (lt_of_block hSc)).trans hSc; have hRc := (hX.block _ (lt_of_block hRc)).trans hRc; obtain ⟨s0, s1⟩ := soak_cells hSc; obtain ⟨r0, r1⟩ := soak_cells hRc; obtain ⟨_, _, _, _, _, _, _, _, _, m9, _⟩ := cfg_cells2 hBc; have z1 : ∀ j, wX.frozen? ⟨w.heap.size + 1, j, none⟩ = false := (fun j => blk_free hSc); have z2 : ∀ j, wX.frozen? ⟨w.heap.size + 2, j, none⟩ = false := (fun j => blk_free hRc); rw [HK.out])
          | (go_at_call 37; with_reducible refine (rpasses_any C a len cap l _ (HG.out.below hbc) (HR.out.below hbc) hl).mono ?_; rintro e wX ⟨rfl, hX⟩; have hbc := bnext hbc hX; have hBc := (hX.block _ (lt_of_block hBc)).trans hBc; have hSc := (hX.block _ (lt_of_block hSc)).trans hSc; have hRc := (hX.block _ (lt_of_block hRc)).trans hRc; obtain ⟨s0, s1⟩ := soak_cells hSc; obtain ⟨r0, r1⟩ := soak_cells hRc; obtain ⟨_, _, _, _, _, _, _, _, _, m9, _⟩ := cfg_cells2 hBc; have z1 : ∀ j, wX.frozen? ⟨w.heap.size + 1, j, none⟩ = false := (fun j => blk_free hSc); have z2 : ∀ j, wX.frozen? ⟨w.heap.size + 2, j, none⟩ = false := (fun j => blk_free hRc); rw [HP.out]))
        rw [HS.out]
        refine bodyPost_ret (results_cell_tmp rfl _ _ (w.heap.size + 1 + 1) _ rfl (res_soak hRc _ _)) rfl ?_
        exact ⟨rfl, (hbc.setCell (Nat.le_add_right _ 2) _).setCell (Nat.le_add_right _ 2) _⟩
  · have HK : Hid (chkI C = 90) := by show chkI C = 90; unfold chkI; rw [if_neg hc]
    have HS : Hid (stepS C st sd l = (st, sd, 0)) := by show _ = _; unfold stepS; rw [if_neg (by rintro ⟨h, _⟩; exact hc h)]
    clear hc hp
    go_enter Try.func36, Try.ntmps36
    go_wp2_with (first
      | (with_reducible refine wpList_load_cfg rfl _ rfl w.heap.size rfl C hBc ?_)
      | (go_at_call 53; with_reducible refine (rcheck_any C _ (HG.out.below hbc)).mono ?_; rintro e wX ⟨rfl, hX⟩; have hbc := bnext hbc hX; have hBc := (hX.block _ (lt_of_block hBc)).trans hBc; have hSc := (hX.block _ (lt_of_block hSc)).trans hSc; have hRc := (hX.block _ (lt_of_block hRc)).trans hRc; obtain ⟨s0, s1⟩ := soak_cells hSc; obtain ⟨r0, r1⟩ := soak_cells hRc; obtain ⟨_, _, _, _, _, _, _, _, _, m9, _⟩ := cfg_cells2 hBc; have z1 : ∀ j, wX.frozen? ⟨w.heap.size + 1, j, none⟩ = false := (fun j => blk_free hSc); have z2 : ∀ j, wX.frozen? ⟨w.heap.size + 2, j, none⟩ = false := (fun j => blk_free hRc); rw [HK.out])
      | (go_at_call 37; with_reducible refine (rpasses_any C a len cap l _ (HG.out.below hbc) (HR.out.below hbc) hl).mono ?_; rintro e wX ⟨rfl, hX⟩; have hbc := bnext hbc hX; have hBc := (hX.block _ (lt_of_block hBc)).trans hBc; have hSc := (hX.block _ (lt_of_block hSc)).trans hSc; have hRc := (hX.block _ (lt_of_block hRc)).trans hRc; obtain ⟨s0, s1⟩ := soak_cells hSc; obtain ⟨r0, r1⟩ := soak_cells hRc; obtain ⟨_, _, _, _, _, _, _, _, _, m9, _⟩ := cfg_cells2 hBc; have z1 : ∀ j, wX.frozen? ⟨w.heap.size + 1, j, none⟩ = false := (fun j => blk_free hSc); have z2 : ∀ j, wX.frozen? ⟨w.heap.size + 2, j, none⟩ = false := (fun j => blk_free hRc); rw [HP.out]))
    rw [HS.out]
    refine bodyPost_ret (results_cell_tmp rfl _ _ (w.heap.size + 1 + 1) _ rfl (res_soak hRc _ _)) rfl ?_
    exact ⟨rfl, (hbc.setCell (Nat.le_add_right _ 2) _).setCell (Nat.le_add_right _ 2) _⟩
end Go.Proofs.Ytmcccfocacagjaa
