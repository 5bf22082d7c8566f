/- The walk of ProbeOnce: true, and nothing that was there has changed. -/
import Derived.Test.YtmcccfocacagjaaPAwake
import Derived.Test.YtmcccfocacagjaaRowsU
import Derived.LoopTactic
import Derived.Outline
namespace Go.Proofs.Ytmcccfocacagjaa
open Go.RowKit
theorem step_nil (C : Cv) (st sd : Int) : stepS C st sd [] = (st, sd, 0) := by
  unfold stepS; rw [if_neg (by simp)]
theorem step_said (C : Cv) (st sd : Int) (l : List Nat) (h : sd ≠ 0) : stepS C st sd l = (st, sd, 0) := by
  unfold stepS; rw [if_neg (by rintro ⟨_, _, g⟩; exact h g)]
theorem step_fail {C : Cv} (hc : chk C = true) (st : Int) {l : List Nat} (hl : l ≠ []) (h : passB C l = false) : stepS C st 0 l = (0, 2, 2) := by
  unfold stepS; rw [if_pos ⟨hc, hl, rfl⟩, if_neg (by rw [h]; decide)]
theorem step_pass {C : Cv} (hc : chk C = true) (st : Int) {l : List Nat} (hl : l ≠ []) (h : passB C l = true) (h0 : 0 ≤ st) (h1 : st ≤ 1000) : stepS C st 0 l = if C.soak ≤ st + 1 then (st + 1, 1, 1) else (st + 1, 0, 0) := by
  have e : stepN st = st + 1 := by unfold stepN; split <;> (try split) <;> omega
  unfold stepS; rw [if_pos ⟨hc, hl, rfl⟩, if_pos h, e]
/-- Two stores into a block of two numbers leave a row of scores. -/
theorem ReadsF.store {w : World} {a : Option Addr} {len cap : Nat} {l : List Nat} (h : ReadsF w a len cap l) {g : Nat} {x y : Int} (hg : w.heap[g]? = some (.cells #[.int .i64 x, .int .i64 y] 37 (0, 0))) (u v : Value) :
    ReadsF ((w.setCell ⟨g, 0, none⟩ u).setCell ⟨g, 1, none⟩ v) a len cap l := by
  refine ⟨h.length, h.le, h.small, h.wf, h.nil, ?_⟩
  rcases h.cells with h0 | ⟨b, off, ha, hc⟩
  · exact .inl h0
  · by_cases h0 : len = 0
    · exact .inl h0
    · have hne : b ≠ g := by
        rintro rfl
        have := hc 0 (by omega)
        rw [cell_of_row _ _ _ _ _ _ hg] at this
        obtain ⟨c, rfl⟩ | h2 : (∃ c, off = c + 2) ∨ off < 2 := by
          by_cases h : off < 2
          · exact .inr h
          · exact .inl ⟨off - 2, by omega⟩
        · simp at this
        · have : off = 0 ∨ off = 1 := by omega
          rcases this with rfl | rfl <;> simp at *
      refine .inr ⟨b, off, ha, fun i hi => ?_⟩
      rw [World.cell?_of_block (w := w) ((heap_setCell_other _ _ _ _ hne).trans (heap_setCell_other _ _ _ _ hne)), hc i hi]
theorem heap_two {w : World} {g : Nat} {p q : Value} (h : w.heap[g]? = some (.cells #[p, q] 37 (0, 0))) (x y : Int) : ((w.setCell ⟨g, 0, none⟩ (.int .i64 x)).setCell ⟨g, 1, none⟩ (.int .i64 y)).heap[g]? = some (.cells #[.int .i64 x, .int .i64 y] 37 (0, 0)) :=
  (heap_setCell_same _ _ _ _ _ _ (heap_setCell_same _ _ _ _ _ _ h)).trans rfl
theorem heap_two_other {w : World} {b g : Nat} {o : Obj} (h : w.heap[b]? = some o) (hne : b ≠ g) (u v : Value) : ((w.setCell ⟨g, 0, none⟩ u).setCell ⟨g, 1, none⟩ v).heap[b]? = some o :=
  (heap_setCell_other _ _ _ _ hne).trans ((heap_setCell_other _ _ _ _ hne).trans h)
theorem take_ne {l : List Nat} {n : Nat} (h : l.length = n) (h0 : 0 < n) : l.take 50 ≠ [] := by
  intro e
  have h1 : (l.take 50).length = 0 := by rw [e]; rfl
  rw [List.length_take] at h1
  omega

set_option maxRecDepth 100000 in
set_option maxHeartbeats 4000000 in
theorem walk_ProbeOnce (C : Cv) (a : Option Addr) (len cap : Nat) (A : Nat → Option Addr) (L Cp : Nat → Nat) (Z : Nat → List Int) (w : World) (hG : Good w C) (hr : ReadsR w a len cap A L Cp Z) :
    Calls Try.prog 13 #[.agg C.cells, .slice a len cap] w fun e w' => e = .returned (.bool true) ∧ Below w.heap.size w w' := by
  have HG := Lib.hid hG
  have HR := Lib.hid hr
  have hs : len ≤ 9223372036854775807 := Nat.le_trans hr.le hr.small
  have hcells := hr.cells
  clear hG hr
  have hbc := bnew (brefl w) (Obj.cells C.cells 24)
  have hBc := heap_alloc_new w (Obj.cells C.cells 24)
  have hgo : Hid (fewB C = true ∧ chk C = true ∨ fewB C = false ∨ (fewB C = true ∧ chk C = false)) := by
    show _ ∨ _
    cases fewB C <;> cases chk C <;> simp
  rcases hgo.out with ⟨h1, h2⟩ | h1 | ⟨h1, h2⟩
  · have HF := Lib.hid h1
    have HK : Hid (chkI C = 0) := by show chkI C = 0; unfold chkI; rw [if_pos h2]
    have HCK := Lib.hid h2
    have hsk : 1 ≤ C.soak ∧ C.soak ≤ 20 := (chk_facts h2).2.2.2.2.2.2.2.2.2.1
    clear h1 h2 hgo
    rcases hcells with h0 | ⟨b, off, rfl, hc⟩
    · subst h0
      go_enter Try.func13, Try.ntmps13
      go_wp2_with (first
        | (go_at_call 14; refine (pawake_true _).mono ?_; rintro e wA ⟨rfl, hA⟩; have hbc := bnext hbc hA; have hBc := (hA.block _ (lt_of_block hBc)).trans hBc)
        | (with_reducible refine wpList_load_cfg rfl _ rfl w.heap.size rfl C hBc ?_)
        | (go_at_call 15; refine (few_any C _ (HG.out.below hbc)).mono ?_; rintro e wX ⟨rfl, hX⟩; have hbc := bnext hbc hX; have hBc := (hX.block _ (lt_of_block hBc)).trans hBc; rw [HF.out])
        | (go_at_call 16; refine (check_any C _ (HG.out.below hbc)).mono ?_; rintro e wK ⟨rfl, hY⟩; have hbc := bnext hbc hY; have hBc := (hY.block _ (lt_of_block hBc)).trans hBc; rw [HK.out]))
      go_loopw [7, 8, 9] (fun p s i wr => i = .int .i64 0 ∧ s = .int .i64 0 ∧ p = .int .i64 0 ∧ wr.heap[wK.heap.size]? = some (.cells #[.int .i64 0, .int .i64 0] 37 (0, 0)) ∧ Below w.heap.size w wr) (fun _ _ _ _ => 0)
      case atStart => exact ⟨rfl, rfl, rfl, heap_alloc_new _ _, bnew hbc _⟩
      case round =>
        obtain ⟨rfl, rfl, rfl, hSc, hb⟩ := hrel
        obtain ⟨c0, c1⟩ := soak_cells hSc
        go_wp2_with fail
        go_ret
        exact ⟨rfl, hb⟩
    have HC := Lib.hid hc
    clear hc
    go_enter Try.func13, Try.ntmps13
    go_wp2_with (first
        | (go_at_call 14; refine (pawake_true _).mono ?_; rintro e wA ⟨rfl, hA⟩; have hbc := bnext hbc hA; have hBc := (hA.block _ (lt_of_block hBc)).trans hBc)
        | (with_reducible refine wpList_load_cfg rfl _ rfl w.heap.size rfl C hBc ?_)
        | (go_at_call 15; refine (few_any C _ (HG.out.below hbc)).mono ?_; rintro e wX ⟨rfl, hX⟩; have hbc := bnext hbc hX; have hBc := (hX.block _ (lt_of_block hBc)).trans hBc; rw [HF.out])
        | (go_at_call 16; refine (check_any C _ (HG.out.below hbc)).mono ?_; rintro e wK ⟨rfl, hY⟩; have hbc := bnext hbc hY; have hBc := (hY.block _ (lt_of_block hBc)).trans hBc; rw [HK.out]))
    have HbK := Lib.hid (bnew hbc (Obj.cells #[Value.int IntKind.i64 0, Value.int IntKind.i64 0] 37))
    have HBK : Hid ((wK.alloc (Obj.cells #[Value.int IntKind.i64 0, Value.int IntKind.i64 0] 37)).heap[w.heap.size]? = some (.cells C.cells 24 (0, 0))) := (Below.heap_alloc _ _ _ (lt_of_block hBc)).trans hBc
    have HSK : Hid ((wK.alloc (Obj.cells #[Value.int IntKind.i64 0, Value.int IntKind.i64 0] 37)).heap[wK.heap.size]? = some (.cells #[.int .i64 0, .int .i64 0] 37 (0, 0))) := heap_alloc_new _ _
    have HBS : Hid (w.heap.size ≤ wK.heap.size) := hbc.size
    have HLT : Hid (w.heap.size < wK.heap.size) := lt_of_block hBc
    clear hY hbc hBc hX hA
    clear hbc hBc
    clear hbc hBc
    clear hbc hBc
    go_loopw [7, 8, 9] (fun p s i wr => ∃ (k : Nat) (st sd pa : Int), k ≤ len ∧ k ≤ 40 ∧ i = .int .i64 k ∧ p = .int .i64 pa ∧ s = .int .i64 sd ∧ wr.heap[wK.heap.size]? = some (.cells #[.int .i64 st, .int .i64 sd] 37 (0, 0)) ∧ wr.heap[w.heap.size]? = some (.cells C.cells 24 (0, 0)) ∧ Below w.heap.size w wr ∧ 0 ≤ pa ∧ pa ≤ k ∧ (sd = 0 → st = pa) ∧ -100 ≤ st ∧ st ≤ 100) (fun _ _ i _ => len - (intOf i).toNat)
    case atStart => exact ⟨0, 0, 0, 0, Nat.zero_le _, Nat.zero_le _, rfl, rfl, rfl, HSK.out, HBK.out, HbK.out, by omega, by omega, fun _ => rfl, by omega, by omega⟩
    case round =>
      obtain ⟨k, st, sd, pa, hk1, hk2, rfl, rfl, rfl, hSc, hBc, hbc, hp0, hp1, hsp, hst0, hst1⟩ := hrel
      have hSz := HBS.out
      by_cases hlt : k < len
      · by_cases hlt2 : k < 40
        · obtain ⟨hc1, hc2⟩ := HC.out k hlt
          have hcell : wr.cell? ⟨b, off + k, none⟩ = some (.slice (A k) (L k) (Cp k)) := by rw [hbc.cell (block_lt_of_cell hc1), hc1]
          have HRK := Lib.hid (hc2.below hbc)
          have HLL : Hid ((nats (Z k)).length = L k) := by show _ = _; rw [nats_len, hc2.length]
          have hLs := hc2.small'
          have fz : ∀ W : World, W.heap[wK.heap.size]? = some (.cells #[.int .i64 st, .int .i64 sd] 37 (0, 0)) → ∀ j, W.frozen? ⟨wK.heap.size, j, none⟩ = false := fun W h j => blk_free h
          have HFZ := Lib.hid fz
          clear hc1 hc2 fz
          have HSP := Lib.hid hsp
          clear hsp
          by_cases h0 : L k = 0
          · have HST : Hid (stepS C st sd ((nats (Z k)).take 50) = (st, sd, 0)) := by
              show _ = _
              rw [List.eq_nil_of_length_eq_zero (HLL.out.trans h0)]; exact step_nil C st sd
            have HN : Hid (min (L k) 50 = 0) := by show _ = _; omega
            clear h0
            go_wp2_with (first
            | (with_reducible refine wpList_load_cfg rfl _ rfl w.heap.size rfl C hBc ?_)
            | (go_at_call 21; refine (scores_any (A k) (L k) (Cp k) (Z k) _ HRK.out).mono ?_; rintro e wV ⟨ad, cap', rfl, hrv, hV⟩; rw [HN.out] at hrv ⊢; have HRV := Lib.hid hrv; have hbc := bnext hbc hV; have hBc := (hV.block _ (lt_of_block hBc)).trans hBc; have hSc := (hV.block _ (lt_of_block hSc)).trans hSc; obtain ⟨v0, v1⟩ := soak_cells hSc; clear hrv)
            | (go_at_call 20; refine (step_any C st sd ad 0 cap' _ _ (HG.out.below hbc) HRV.out (by omega) (by omega)).mono ?_; rintro e wS ⟨rfl, hS⟩; have hRS := HRV.out.below (bnew hS (Obj.cells #[.int .i64 (st), .int .i64 (sd)] 37)); have hbS := bnew (bnext hbc hS) (Obj.cells #[.int .i64 (st), .int .i64 (sd)] 37); have hSS := (Below.heap_alloc wS (Obj.cells #[.int .i64 (st), .int .i64 (sd)] 37) _ (lt_of_block ((hS.block _ (lt_of_block hSc)).trans hSc))).trans ((hS.block _ (lt_of_block hSc)).trans hSc); have hBS := (Below.heap_alloc wS (Obj.cells #[.int .i64 (st), .int .i64 (sd)] 37) _ (lt_of_block ((hS.block _ (lt_of_block hBc)).trans hBc))).trans ((hS.block _ (lt_of_block hBc)).trans hBc); have HWS := Lib.hid (heap_two hSS (st) (sd)); have HWB := Lib.hid (heap_two_other hBS (Nat.ne_of_lt HLT.out) (.int .i64 (st)) (.int .i64 (sd))); have HWb : Hid (Below w.heap.size w (((wS.alloc (Obj.cells #[.int .i64 (st), .int .i64 (sd)] 37)).setCell ⟨wK.heap.size, 0, none⟩ (.int .i64 (st))).setCell ⟨wK.heap.size, 1, none⟩ (.int .i64 (sd)))) := (hbS.setCell HBS.out _).setCell HBS.out _; have HWR := Lib.hid (hRS.store hSS (.int .i64 (st)) (.int .i64 (sd))); have xf : ∀ j, (wS.alloc (Obj.cells #[.int .i64 (st), .int .i64 (sd)] 37)).frozen? ⟨wK.heap.size, j, none⟩ = false := (fun j => blk_free hSS); obtain ⟨x0, x1⟩ := soak_cells hSS; rw [HST.out]; clear hRS hbS hSS hBS))
            go_roundw
            case rel => exact ⟨k + 1, st, sd, pa, by omega, by omega, by go_num, rfl, rfl, HWS.out, HWB.out, HWb.out, by omega, by omega, HSP.out, by omega, by omega⟩
            case measure => simp [intOf]; omega
          · have HNE : Hid ((nats (Z k)).take 50 ≠ []) := take_ne HLL.out (by omega)
            obtain ⟨n, hn, hn0, hn1⟩ : ∃ n, min (L k) 50 = n ∧ 0 < n ∧ n ≤ 50 := ⟨_, rfl, by omega, by omega⟩
            have HN := Lib.hid hn
            clear hn h0
            by_cases hsd : sd = 0
            · subst hsd
              have hsp := HSP.out rfl
              obtain rfl : st = pa := hsp
              obtain ⟨pb, hpb⟩ : ∃ pb, passB C ((nats (Z k)).take 50) = pb := ⟨_, rfl⟩
              have HPB := Lib.hid hpb
              cases pb
              · have HST : Hid (stepS C st 0 ((nats (Z k)).take 50) = (0, 2, 2)) := step_fail HCK.out st HNE.out hpb
                clear hpb
                go_wp2_with (first
            | (with_reducible refine wpList_load_cfg rfl _ rfl w.heap.size rfl C hBc ?_)
            | (go_at_call 21; refine (scores_any (A k) (L k) (Cp k) (Z k) _ HRK.out).mono ?_; rintro e wV ⟨ad, cap', rfl, hrv, hV⟩; rw [HN.out] at hrv ⊢; have HRV := Lib.hid hrv; have hbc := bnext hbc hV; have hBc := (hV.block _ (lt_of_block hBc)).trans hBc; have hSc := (hV.block _ (lt_of_block hSc)).trans hSc; obtain ⟨v0, v1⟩ := soak_cells hSc; clear hrv)
            | (go_at_call 20; refine (step_any C st 0 ad n cap' _ _ (HG.out.below hbc) HRV.out (by omega) (by omega)).mono ?_; rintro e wS ⟨rfl, hS⟩; have hRS := HRV.out.below (bnew hS (Obj.cells #[.int .i64 (0), .int .i64 (2)] 37)); have hbS := bnew (bnext hbc hS) (Obj.cells #[.int .i64 (0), .int .i64 (2)] 37); have hSS := (Below.heap_alloc wS (Obj.cells #[.int .i64 (0), .int .i64 (2)] 37) _ (lt_of_block ((hS.block _ (lt_of_block hSc)).trans hSc))).trans ((hS.block _ (lt_of_block hSc)).trans hSc); have hBS := (Below.heap_alloc wS (Obj.cells #[.int .i64 (0), .int .i64 (2)] 37) _ (lt_of_block ((hS.block _ (lt_of_block hBc)).trans hBc))).trans ((hS.block _ (lt_of_block hBc)).trans hBc); have HWS := Lib.hid (heap_two hSS (0) (2)); have HWB := Lib.hid (heap_two_other hBS (Nat.ne_of_lt HLT.out) (.int .i64 (0)) (.int .i64 (2))); have HWb : Hid (Below w.heap.size w (((wS.alloc (Obj.cells #[.int .i64 (0), .int .i64 (2)] 37)).setCell ⟨wK.heap.size, 0, none⟩ (.int .i64 (0))).setCell ⟨wK.heap.size, 1, none⟩ (.int .i64 (2)))) := (hbS.setCell HBS.out _).setCell HBS.out _; have HWR := Lib.hid (hRS.store hSS (.int .i64 (0)) (.int .i64 (2))); have xf : ∀ j, (wS.alloc (Obj.cells #[.int .i64 (0), .int .i64 (2)] 37)).frozen? ⟨wK.heap.size, j, none⟩ = false := (fun j => blk_free hSS); obtain ⟨x0, x1⟩ := soak_cells hSS; rw [HST.out]; clear hRS hbS hSS hBS)
            | (with_reducible refine wpList_load_cfg rfl _ rfl w.heap.size rfl C HWB.out ?_)
            | (go_at_call 18; refine (passes_any C ad n cap' _ _ (HG.out.below HWb.out) HWR.out (by omega)).mono ?_; rintro e wP ⟨rfl, hP⟩; rw [HPB.out]; have HPS := Lib.hid ((hP.block _ (lt_of_block HWS.out)).trans HWS.out); have HPBB := Lib.hid ((hP.block _ (lt_of_block HWB.out)).trans HWB.out); have HPb := Lib.hid (bnext HWb.out hP); obtain ⟨_, _, _, _, _, _, _, _, _, m9, _⟩ := cfg_cells2 HPBB.out; clear hP))
                go_roundw
                case rel => exact ⟨k + 1, 0, 2, st, by omega, by omega, by go_num, rfl, rfl, HPS.out, HPBB.out, HPb.out, by omega, by omega, (fun h => by omega), by omega, by omega⟩
                case measure => simp [intOf]; omega
              · have HS5 : Hid (stepS C st 0 ((nats (Z k)).take 50) = if C.soak ≤ st + 1 then (st + 1, 1, 1) else (st + 1, 0, 0)) := step_pass HCK.out st HNE.out hpb hp0 (by omega)
                clear hpb
                by_cases hk : C.soak ≤ st + 1
                · have HST : Hid (stepS C st 0 ((nats (Z k)).take 50) = (st + 1, 1, 1)) := by show _ = _; rw [HS5.out, if_pos hk]
                  go_wp2_with (first
            | (with_reducible refine wpList_load_cfg rfl _ rfl w.heap.size rfl C hBc ?_)
            | (go_at_call 21; refine (scores_any (A k) (L k) (Cp k) (Z k) _ HRK.out).mono ?_; rintro e wV ⟨ad, cap', rfl, hrv, hV⟩; rw [HN.out] at hrv ⊢; have HRV := Lib.hid hrv; have hbc := bnext hbc hV; have hBc := (hV.block _ (lt_of_block hBc)).trans hBc; have hSc := (hV.block _ (lt_of_block hSc)).trans hSc; obtain ⟨v0, v1⟩ := soak_cells hSc; clear hrv)
            | (go_at_call 20; refine (step_any C st 0 ad n cap' _ _ (HG.out.below hbc) HRV.out (by omega) (by omega)).mono ?_; rintro e wS ⟨rfl, hS⟩; have hRS := HRV.out.below (bnew hS (Obj.cells #[.int .i64 (st + 1), .int .i64 (1)] 37)); have hbS := bnew (bnext hbc hS) (Obj.cells #[.int .i64 (st + 1), .int .i64 (1)] 37); have hSS := (Below.heap_alloc wS (Obj.cells #[.int .i64 (st + 1), .int .i64 (1)] 37) _ (lt_of_block ((hS.block _ (lt_of_block hSc)).trans hSc))).trans ((hS.block _ (lt_of_block hSc)).trans hSc); have hBS := (Below.heap_alloc wS (Obj.cells #[.int .i64 (st + 1), .int .i64 (1)] 37) _ (lt_of_block ((hS.block _ (lt_of_block hBc)).trans hBc))).trans ((hS.block _ (lt_of_block hBc)).trans hBc); have HWS := Lib.hid (heap_two hSS (st + 1) (1)); have HWB := Lib.hid (heap_two_other hBS (Nat.ne_of_lt HLT.out) (.int .i64 (st + 1)) (.int .i64 (1))); have HWb : Hid (Below w.heap.size w (((wS.alloc (Obj.cells #[.int .i64 (st + 1), .int .i64 (1)] 37)).setCell ⟨wK.heap.size, 0, none⟩ (.int .i64 (st + 1))).setCell ⟨wK.heap.size, 1, none⟩ (.int .i64 (1)))) := (hbS.setCell HBS.out _).setCell HBS.out _; have HWR := Lib.hid (hRS.store hSS (.int .i64 (st + 1)) (.int .i64 (1))); have xf : ∀ j, (wS.alloc (Obj.cells #[.int .i64 (st + 1), .int .i64 (1)] 37)).frozen? ⟨wK.heap.size, j, none⟩ = false := (fun j => blk_free hSS); obtain ⟨x0, x1⟩ := soak_cells hSS; rw [HST.out]; clear hRS hbS hSS hBS)
            | (with_reducible refine wpList_load_cfg rfl _ rfl w.heap.size rfl C HWB.out ?_)
            | (go_at_call 18; refine (passes_any C ad n cap' _ _ (HG.out.below HWb.out) HWR.out (by omega)).mono ?_; rintro e wP ⟨rfl, hP⟩; rw [HPB.out]; have HPS := Lib.hid ((hP.block _ (lt_of_block HWS.out)).trans HWS.out); have HPBB := Lib.hid ((hP.block _ (lt_of_block HWB.out)).trans HWB.out); have HPb := Lib.hid (bnext HWb.out hP); obtain ⟨_, _, _, _, _, _, _, _, _, m9, _⟩ := cfg_cells2 HPBB.out; clear hP))
                  go_roundw
                  case rel => exact ⟨k + 1, st + 1, 1, st + 1, by omega, by omega, by go_num, rfl, rfl, HPS.out, HPBB.out, HPb.out, by omega, by omega, (fun h => by omega), by omega, by omega⟩
                  case measure => simp [intOf]; omega
                · have HST : Hid (stepS C st 0 ((nats (Z k)).take 50) = (st + 1, 0, 0)) := by show _ = _; rw [HS5.out, if_neg hk]
                  go_wp2_with (first
            | (with_reducible refine wpList_load_cfg rfl _ rfl w.heap.size rfl C hBc ?_)
            | (go_at_call 21; refine (scores_any (A k) (L k) (Cp k) (Z k) _ HRK.out).mono ?_; rintro e wV ⟨ad, cap', rfl, hrv, hV⟩; rw [HN.out] at hrv ⊢; have HRV := Lib.hid hrv; have hbc := bnext hbc hV; have hBc := (hV.block _ (lt_of_block hBc)).trans hBc; have hSc := (hV.block _ (lt_of_block hSc)).trans hSc; obtain ⟨v0, v1⟩ := soak_cells hSc; clear hrv)
            | (go_at_call 20; refine (step_any C st 0 ad n cap' _ _ (HG.out.below hbc) HRV.out (by omega) (by omega)).mono ?_; rintro e wS ⟨rfl, hS⟩; have hRS := HRV.out.below (bnew hS (Obj.cells #[.int .i64 (st + 1), .int .i64 (0)] 37)); have hbS := bnew (bnext hbc hS) (Obj.cells #[.int .i64 (st + 1), .int .i64 (0)] 37); have hSS := (Below.heap_alloc wS (Obj.cells #[.int .i64 (st + 1), .int .i64 (0)] 37) _ (lt_of_block ((hS.block _ (lt_of_block hSc)).trans hSc))).trans ((hS.block _ (lt_of_block hSc)).trans hSc); have hBS := (Below.heap_alloc wS (Obj.cells #[.int .i64 (st + 1), .int .i64 (0)] 37) _ (lt_of_block ((hS.block _ (lt_of_block hBc)).trans hBc))).trans ((hS.block _ (lt_of_block hBc)).trans hBc); have HWS := Lib.hid (heap_two hSS (st + 1) (0)); have HWB := Lib.hid (heap_two_other hBS (Nat.ne_of_lt HLT.out) (.int .i64 (st + 1)) (.int .i64 (0))); have HWb : Hid (Below w.heap.size w (((wS.alloc (Obj.cells #[.int .i64 (st + 1), .int .i64 (0)] 37)).setCell ⟨wK.heap.size, 0, none⟩ (.int .i64 (st + 1))).setCell ⟨wK.heap.size, 1, none⟩ (.int .i64 (0)))) := (hbS.setCell HBS.out _).setCell HBS.out _; have HWR := Lib.hid (hRS.store hSS (.int .i64 (st + 1)) (.int .i64 (0))); have xf : ∀ j, (wS.alloc (Obj.cells #[.int .i64 (st + 1), .int .i64 (0)] 37)).frozen? ⟨wK.heap.size, j, none⟩ = false := (fun j => blk_free hSS); obtain ⟨x0, x1⟩ := soak_cells hSS; rw [HST.out]; clear hRS hbS hSS hBS)
            | (with_reducible refine wpList_load_cfg rfl _ rfl w.heap.size rfl C HWB.out ?_)
            | (go_at_call 18; refine (passes_any C ad n cap' _ _ (HG.out.below HWb.out) HWR.out (by omega)).mono ?_; rintro e wP ⟨rfl, hP⟩; rw [HPB.out]; have HPS := Lib.hid ((hP.block _ (lt_of_block HWS.out)).trans HWS.out); have HPBB := Lib.hid ((hP.block _ (lt_of_block HWB.out)).trans HWB.out); have HPb := Lib.hid (bnext HWb.out hP); obtain ⟨_, _, _, _, _, _, _, _, _, m9, _⟩ := cfg_cells2 HPBB.out; clear hP))
                  go_roundw
                  case rel => exact ⟨k + 1, st + 1, 0, st + 1, by omega, by omega, by go_num, rfl, rfl, HPS.out, HPBB.out, HPb.out, by omega, by omega, (fun _ => rfl), by omega, by omega⟩
                  case measure => simp [intOf]; omega
            · have hsd' : (sd == 0) = false := by simpa using hsd
              have HSD := Lib.hid hsd
              have HST : Hid (stepS C st sd ((nats (Z k)).take 50) = (st, sd, 0)) := step_said C st sd _ hsd
              clear hsd
              go_wp2_with (first
            | (with_reducible refine wpList_load_cfg rfl _ rfl w.heap.size rfl C hBc ?_)
            | (go_at_call 21; refine (scores_any (A k) (L k) (Cp k) (Z k) _ HRK.out).mono ?_; rintro e wV ⟨ad, cap', rfl, hrv, hV⟩; rw [HN.out] at hrv ⊢; have HRV := Lib.hid hrv; have hbc := bnext hbc hV; have hBc := (hV.block _ (lt_of_block hBc)).trans hBc; have hSc := (hV.block _ (lt_of_block hSc)).trans hSc; obtain ⟨v0, v1⟩ := soak_cells hSc; clear hrv)
            | (go_at_call 20; refine (step_any C st sd ad n cap' _ _ (HG.out.below hbc) HRV.out (by omega) (by omega)).mono ?_; rintro e wS ⟨rfl, hS⟩; have hRS := HRV.out.below (bnew hS (Obj.cells #[.int .i64 (st), .int .i64 (sd)] 37)); have hbS := bnew (bnext hbc hS) (Obj.cells #[.int .i64 (st), .int .i64 (sd)] 37); have hSS := (Below.heap_alloc wS (Obj.cells #[.int .i64 (st), .int .i64 (sd)] 37) _ (lt_of_block ((hS.block _ (lt_of_block hSc)).trans hSc))).trans ((hS.block _ (lt_of_block hSc)).trans hSc); have hBS := (Below.heap_alloc wS (Obj.cells #[.int .i64 (st), .int .i64 (sd)] 37) _ (lt_of_block ((hS.block _ (lt_of_block hBc)).trans hBc))).trans ((hS.block _ (lt_of_block hBc)).trans hBc); have HWS := Lib.hid (heap_two hSS (st) (sd)); have HWB := Lib.hid (heap_two_other hBS (Nat.ne_of_lt HLT.out) (.int .i64 (st)) (.int .i64 (sd))); have HWb : Hid (Below w.heap.size w (((wS.alloc (Obj.cells #[.int .i64 (st), .int .i64 (sd)] 37)).setCell ⟨wK.heap.size, 0, none⟩ (.int .i64 (st))).setCell ⟨wK.heap.size, 1, none⟩ (.int .i64 (sd)))) := (hbS.setCell HBS.out _).setCell HBS.out _; have HWR := Lib.hid (hRS.store hSS (.int .i64 (st)) (.int .i64 (sd))); have xf : ∀ j, (wS.alloc (Obj.cells #[.int .i64 (st), .int .i64 (sd)] 37)).frozen? ⟨wK.heap.size, j, none⟩ = false := (fun j => blk_free hSS); obtain ⟨x0, x1⟩ := soak_cells hSS; rw [HST.out]; clear hRS hbS hSS hBS))
              go_roundw
              case rel => exact ⟨k + 1, st, sd, pa, by omega, by omega, by go_num, rfl, rfl, HWS.out, HWB.out, HWb.out, by omega, by omega, HSP.out, by omega, by omega⟩
              case measure => simp [intOf]; omega
        · obtain ⟨c0, c1⟩ := soak_cells hSc
          go_wp2_with fail
          go_ret
          exact ⟨ret_bool (by simp), hbc⟩
      · obtain ⟨c0, c1⟩ := soak_cells hSc
        go_wp2_with fail
        go_ret
        exact ⟨ret_bool (by simp), hbc⟩
  · have HF := Lib.hid h1
    clear h1 hgo
    go_enter Try.func13, Try.ntmps13
    go_wp2_with (first
        | (go_at_call 14; refine (pawake_true _).mono ?_; rintro e wA ⟨rfl, hA⟩; have hbc := bnext hbc hA; have hBc := (hA.block _ (lt_of_block hBc)).trans hBc)
        | (with_reducible refine wpList_load_cfg rfl _ rfl w.heap.size rfl C hBc ?_)
        | (go_at_call 15; refine (few_any C _ (HG.out.below hbc)).mono ?_; rintro e wX ⟨rfl, hX⟩; have hbc := bnext hbc hX; have hBc := (hX.block _ (lt_of_block hBc)).trans hBc; rw [HF.out])
        | (go_at_call 16; refine (check_any C _ (HG.out.below hbc)).mono ?_; rintro e wK ⟨rfl, hY⟩; have hbc := bnext hbc hY; have hBc := (hY.block _ (lt_of_block hBc)).trans hBc; rw [HK.out]))
    go_ret
    exact ⟨rfl, hbc⟩
  · have HF := Lib.hid h1
    have HK : Hid (chkI C = 90) := by show chkI C = 90; unfold chkI; rw [h2]; rfl
    clear h1 h2 hgo
    go_enter Try.func13, Try.ntmps13
    go_wp2_with (first
        | (go_at_call 14; refine (pawake_true _).mono ?_; rintro e wA ⟨rfl, hA⟩; have hbc := bnext hbc hA; have hBc := (hA.block _ (lt_of_block hBc)).trans hBc)
        | (with_reducible refine wpList_load_cfg rfl _ rfl w.heap.size rfl C hBc ?_)
        | (go_at_call 15; refine (few_any C _ (HG.out.below hbc)).mono ?_; rintro e wX ⟨rfl, hX⟩; have hbc := bnext hbc hX; have hBc := (hX.block _ (lt_of_block hBc)).trans hBc; rw [HF.out])
        | (go_at_call 16; refine (check_any C _ (HG.out.below hbc)).mono ?_; rintro e wK ⟨rfl, hY⟩; have hbc := bnext hbc hY; have hBc := (hY.block _ (lt_of_block hBc)).trans hBc; rw [HK.out]))
    go_ret
    exact ⟨rfl, hbc⟩
end Go.Proofs.Ytmcccfocacagjaa
