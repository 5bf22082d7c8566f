/- Whether a lease is late, or fits; two leases alike. -/
import Derived.Test.YtmhggpmhekeemaaLHeld
namespace Go.Proofs.Ytmhggpmhekeemaa
open Go.RowKit
def lateLB (C : Cv) (L : Lv) (now : Int) : Bool := chk C && (!heldB C L now || lateB C L.asked now)
def fitsB (C : Cv) (L : Lv) (now : Int) : Bool := heldB C L now && decide (C.guard + C.work < C.hold - (now - L.asked))
theorem held_facts {C : Cv} {L : Lv} {now : Int} (h : heldB C L now = true) : 0 ≤ L.asked ∧ now ≤ 4611686018427387904 ∧ L.asked ≤ now ∧ now - L.asked < C.hold ∧ C.hold ≤ 1073741824 ∧ (1 ≤ C.guard ∧ C.guard ≤ 1073741824) ∧ (1 ≤ C.work ∧ C.work ≤ 1073741824) ∧ 1 ≤ C.hold := by
  unfold heldB holdsB timeB at h
  simp only [Bool.and_eq_true, decide_eq_true_eq] at h
  obtain ⟨⟨hc, ⟨a, b, c⟩, d⟩, _⟩ := h
  have := chk_facts hc
  omega
set_option maxRecDepth 100000 in
set_option maxHeartbeats 4000000 in
theorem llate_any (C : Cv) (L : Lv) (now : Int) (w : World) (h : Good w C) (hl : GoodL w L) (hn : L.fn ≤ 100) :
    Calls Try.prog 29 #[.agg C.cells, .agg L.cells, .int .i64 now] w fun e w' => e = .returned (.bool (lateLB C L now)) ∧ Below w.heap.size w w' := by
  have HG := Lib.hid h
  have HL := Lib.hid hl
  have hra := hl.r2
  unfold inI at hra
  clear h hl
  have hbc : Below w.heap.size w ((w.alloc (Obj.cells C.cells 24)).alloc (LB L)) := bnew (bnew (brefl w) _) _
  have hBc : ((w.alloc (Obj.cells C.cells 24)).alloc (LB L)).heap[w.heap.size]? = some (.cells C.cells 24 (0, 0)) := ka (heap_alloc_new w _) _
  have hLc : ((w.alloc (Obj.cells C.cells 24)).alloc (LB L)).heap[w.heap.size + 1]? = some (LB L) := heap_alloc2_new _ _ _
  obtain ⟨l0, l1, l2, l3⟩ := lv_cells hLc
  by_cases hc : chk C = true
  · have HK : Hid (chkI C = 0) := by show chkI C = 0; unfold chkI; rw [hc]; rfl
    by_cases hh : heldB C L now = true
    · have HE : Hid (lateLB C L now = lateB C L.asked now) := by show _ = _; unfold lateLB; rw [hc, hh]; rfl
      have HH := Lib.hid hh
      clear hc hh
      go_enter Try.func29, Try.ntmps29
      go_wp2_with (first
        | (with_reducible refine wpList_load_cfg rfl _ rfl w.heap.size rfl C hBc ?_)
        | (with_reducible refine wpList_load_lv rfl _ rfl (w.heap.size + 1) rfl L hLc ?_)
        | (go_at_call 20; with_reducible refine (check_any C _ (HG.out.below hbc)).mono ?_; rintro e wX ⟨rfl, hX⟩; have hbc := bnext hbc hX; have hBc := kb hBc hX; have hLc := kb hLc hX; obtain ⟨m0, m1, m2, m3, m4, m5, m6, _⟩ := cfg_cells2 hBc; obtain ⟨l0, l1, l2, l3⟩ := lv_cells hLc; rw [HK.out])
        | (go_at_call 27; with_reducible refine (held_any C L now _ (HG.out.below hbc) (HL.out.below hbc) hn).mono ?_; rintro e wX ⟨rfl, hX⟩; have hbc := bnext hbc hX; have hBc := kb hBc hX; have hLc := kb hLc hX; obtain ⟨m0, m1, m2, m3, m4, m5, m6, _⟩ := cfg_cells2 hBc; obtain ⟨l0, l1, l2, l3⟩ := lv_cells hLc; rw [HH.out])
        | (go_at_call 66; with_reducible refine (late_any C L.asked now _ (HG.out.below hbc)).mono ?_; rintro e wX ⟨rfl, hX⟩; have hbc := bnext hbc hX; have hBc := kb hBc hX; have hLc := kb hLc hX; obtain ⟨m0, m1, m2, m3, m4, m5, m6, _⟩ := cfg_cells2 hBc; obtain ⟨l0, l1, l2, l3⟩ := lv_cells hLc))
      go_ret
      exact ⟨ret_bool (by rw [HE.out]), hbc⟩
    · have hh' : heldB C L now = false := by simpa using hh
      have HE : Hid (lateLB C L now = true) := by show _ = _; unfold lateLB; rw [hc, hh']; rfl
      have HH := Lib.hid hh'
      clear hc hh hh'
      go_enter Try.func29, Try.ntmps29
      go_wp2_with (first
        | (with_reducible refine wpList_load_cfg rfl _ rfl w.heap.size rfl C hBc ?_)
        | (with_reducible refine wpList_load_lv rfl _ rfl (w.heap.size + 1) rfl L hLc ?_)
        | (go_at_call 20; with_reducible refine (check_any C _ (HG.out.below hbc)).mono ?_; rintro e wX ⟨rfl, hX⟩; have hbc := bnext hbc hX; have hBc := kb hBc hX; have hLc := kb hLc hX; obtain ⟨m0, m1, m2, m3, m4, m5, m6, _⟩ := cfg_cells2 hBc; obtain ⟨l0, l1, l2, l3⟩ := lv_cells hLc; rw [HK.out])
        | (go_at_call 27; with_reducible refine (held_any C L now _ (HG.out.below hbc) (HL.out.below hbc) hn).mono ?_; rintro e wX ⟨rfl, hX⟩; have hbc := bnext hbc hX; have hBc := kb hBc hX; have hLc := kb hLc hX; obtain ⟨m0, m1, m2, m3, m4, m5, m6, _⟩ := cfg_cells2 hBc; obtain ⟨l0, l1, l2, l3⟩ := lv_cells hLc; rw [HH.out])
        | (go_at_call 66; with_reducible refine (late_any C L.asked now _ (HG.out.below hbc)).mono ?_; rintro e wX ⟨rfl, hX⟩; have hbc := bnext hbc hX; have hBc := kb hBc hX; have hLc := kb hLc hX; obtain ⟨m0, m1, m2, m3, m4, m5, m6, _⟩ := cfg_cells2 hBc; obtain ⟨l0, l1, l2, l3⟩ := lv_cells hLc))
      go_ret
      exact ⟨ret_bool (by rw [HE.out]), hbc⟩
  · have HK : Hid (chkI C = 90) := by show chkI C = 90; unfold chkI; rw [if_neg hc]
    have hc' : chk C = false := by simpa using hc
    have HE : Hid (lateLB C L now = false) := by show _ = _; unfold lateLB; rw [hc']; rfl
    have HH : Hid (heldB C L now = heldB C L now) := Lib.hid rfl
    clear hc hc'
    go_enter Try.func29, Try.ntmps29
    go_wp2_with (first
      | (with_reducible refine wpList_load_cfg rfl _ rfl w.heap.size rfl C hBc ?_)
      | (with_reducible refine wpList_load_lv rfl _ rfl (w.heap.size + 1) rfl L hLc ?_)
      | (go_at_call 20; with_reducible refine (check_any C _ (HG.out.below hbc)).mono ?_; rintro e wX ⟨rfl, hX⟩; have hbc := bnext hbc hX; have hBc := kb hBc hX; have hLc := kb hLc hX; obtain ⟨m0, m1, m2, m3, m4, m5, m6, _⟩ := cfg_cells2 hBc; obtain ⟨l0, l1, l2, l3⟩ := lv_cells hLc; rw [HK.out])
      | (go_at_call 27; with_reducible refine (held_any C L now _ (HG.out.below hbc) (HL.out.below hbc) hn).mono ?_; rintro e wX ⟨rfl, hX⟩; have hbc := bnext hbc hX; have hBc := kb hBc hX; have hLc := kb hLc hX; obtain ⟨m0, m1, m2, m3, m4, m5, m6, _⟩ := cfg_cells2 hBc; obtain ⟨l0, l1, l2, l3⟩ := lv_cells hLc; rw [HH.out])
      | (go_at_call 66; with_reducible refine (late_any C L.asked now _ (HG.out.below hbc)).mono ?_; rintro e wX ⟨rfl, hX⟩; have hbc := bnext hbc hX; have hBc := kb hBc hX; have hLc := kb hLc hX; obtain ⟨m0, m1, m2, m3, m4, m5, m6, _⟩ := cfg_cells2 hBc; obtain ⟨l0, l1, l2, l3⟩ := lv_cells hLc))
    go_ret
    exact ⟨ret_bool (by rw [HE.out]), hbc⟩
set_option maxRecDepth 100000 in
set_option maxHeartbeats 4000000 in
theorem rllate_any (C : Cv) (L : Lv) (now : Int) (w : World) (h : Good w C) (hl : GoodL w L) :
    Calls Try.prog 30 #[.agg C.cells, .agg L.cells, .int .i64 now] w fun e w' => e = .returned (.bool (lateLB C L now)) ∧ Below w.heap.size w w' := by
  have HG := Lib.hid h
  have HL := Lib.hid hl
  have hra := hl.r2
  unfold inI at hra
  clear h hl
  have hbc : Below w.heap.size w ((w.alloc (Obj.cells C.cells 24)).alloc (LB L)) := bnew (bnew (brefl w) _) _
  have hBc : ((w.alloc (Obj.cells C.cells 24)).alloc (LB L)).heap[w.heap.size]? = some (.cells C.cells 24 (0, 0)) := ka (heap_alloc_new w _) _
  have hLc : ((w.alloc (Obj.cells C.cells 24)).alloc (LB L)).heap[w.heap.size + 1]? = some (LB L) := heap_alloc2_new _ _ _
  obtain ⟨l0, l1, l2, l3⟩ := lv_cells hLc
  by_cases hc : chk C = true
  · have HK : Hid (chkI C = 0) := by show chkI C = 0; unfold chkI; rw [hc]; rfl
    by_cases hh : heldB C L now = true
    · have HE : Hid (lateLB C L now = lateB C L.asked now) := by show _ = _; unfold lateLB; rw [hc, hh]; rfl
      have HH := Lib.hid hh
      clear hc hh
      go_enter Try.func30, Try.ntmps30
      go_wp2_with (first
        | (with_reducible refine wpList_load_cfg rfl _ rfl w.heap.size rfl C hBc ?_)
        | (with_reducible refine wpList_load_lv rfl _ rfl (w.heap.size + 1) rfl L hLc ?_)
        | (go_at_call 40; with_reducible refine (rcheck_any C _ (HG.out.below hbc)).mono ?_; rintro e wX ⟨rfl, hX⟩; have hbc := bnext hbc hX; have hBc := kb hBc hX; have hLc := kb hLc hX; obtain ⟨m0, m1, m2, m3, m4, m5, m6, _⟩ := cfg_cells2 hBc; obtain ⟨l0, l1, l2, l3⟩ := lv_cells hLc; rw [HK.out])
        | (go_at_call 28; with_reducible refine (rheld_any C L now _ (HG.out.below hbc) (HL.out.below hbc)).mono ?_; rintro e wX ⟨rfl, hX⟩; have hbc := bnext hbc hX; have hBc := kb hBc hX; have hLc := kb hLc hX; obtain ⟨m0, m1, m2, m3, m4, m5, m6, _⟩ := cfg_cells2 hBc; obtain ⟨l0, l1, l2, l3⟩ := lv_cells hLc; rw [HH.out])
        | (go_at_call 67; with_reducible refine (rlate_any C L.asked now _ (HG.out.below hbc)).mono ?_; rintro e wX ⟨rfl, hX⟩; have hbc := bnext hbc hX; have hBc := kb hBc hX; have hLc := kb hLc hX; obtain ⟨m0, m1, m2, m3, m4, m5, m6, _⟩ := cfg_cells2 hBc; obtain ⟨l0, l1, l2, l3⟩ := lv_cells hLc))
      go_ret
      exact ⟨ret_bool (by rw [HE.out]), hbc⟩
    · have hh' : heldB C L now = false := by simpa using hh
      have HE : Hid (lateLB C L now = true) := by show _ = _; unfold lateLB; rw [hc, hh']; rfl
      have HH := Lib.hid hh'
      clear hc hh hh'
      go_enter Try.func30, Try.ntmps30
      go_wp2_with (first
        | (with_reducible refine wpList_load_cfg rfl _ rfl w.heap.size rfl C hBc ?_)
        | (with_reducible refine wpList_load_lv rfl _ rfl (w.heap.size + 1) rfl L hLc ?_)
        | (go_at_call 40; with_reducible refine (rcheck_any C _ (HG.out.below hbc)).mono ?_; rintro e wX ⟨rfl, hX⟩; have hbc := bnext hbc hX; have hBc := kb hBc hX; have hLc := kb hLc hX; obtain ⟨m0, m1, m2, m3, m4, m5, m6, _⟩ := cfg_cells2 hBc; obtain ⟨l0, l1, l2, l3⟩ := lv_cells hLc; rw [HK.out])
        | (go_at_call 28; with_reducible refine (rheld_any C L now _ (HG.out.below hbc) (HL.out.below hbc)).mono ?_; rintro e wX ⟨rfl, hX⟩; have hbc := bnext hbc hX; have hBc := kb hBc hX; have hLc := kb hLc hX; obtain ⟨m0, m1, m2, m3, m4, m5, m6, _⟩ := cfg_cells2 hBc; obtain ⟨l0, l1, l2, l3⟩ := lv_cells hLc; rw [HH.out])
        | (go_at_call 67; with_reducible refine (rlate_any C L.asked now _ (HG.out.below hbc)).mono ?_; rintro e wX ⟨rfl, hX⟩; have hbc := bnext hbc hX; have hBc := kb hBc hX; have hLc := kb hLc hX; obtain ⟨m0, m1, m2, m3, m4, m5, m6, _⟩ := cfg_cells2 hBc; obtain ⟨l0, l1, l2, l3⟩ := lv_cells hLc))
      go_ret
      exact ⟨ret_bool (by rw [HE.out]), hbc⟩
  · have HK : Hid (chkI C = 90) := by show chkI C = 90; unfold chkI; rw [if_neg hc]
    have hc' : chk C = false := by simpa using hc
    have HE : Hid (lateLB C L now = false) := by show _ = _; unfold lateLB; rw [hc']; rfl
    have HH : Hid (heldB C L now = heldB C L now) := Lib.hid rfl
    clear hc hc'
    go_enter Try.func30, Try.ntmps30
    go_wp2_with (first
      | (with_reducible refine wpList_load_cfg rfl _ rfl w.heap.size rfl C hBc ?_)
      | (with_reducible refine wpList_load_lv rfl _ rfl (w.heap.size + 1) rfl L hLc ?_)
      | (go_at_call 40; with_reducible refine (rcheck_any C _ (HG.out.below hbc)).mono ?_; rintro e wX ⟨rfl, hX⟩; have hbc := bnext hbc hX; have hBc := kb hBc hX; have hLc := kb hLc hX; obtain ⟨m0, m1, m2, m3, m4, m5, m6, _⟩ := cfg_cells2 hBc; obtain ⟨l0, l1, l2, l3⟩ := lv_cells hLc; rw [HK.out])
      | (go_at_call 28; with_reducible refine (rheld_any C L now _ (HG.out.below hbc) (HL.out.below hbc)).mono ?_; rintro e wX ⟨rfl, hX⟩; have hbc := bnext hbc hX; have hBc := kb hBc hX; have hLc := kb hLc hX; obtain ⟨m0, m1, m2, m3, m4, m5, m6, _⟩ := cfg_cells2 hBc; obtain ⟨l0, l1, l2, l3⟩ := lv_cells hLc; rw [HH.out])
      | (go_at_call 67; with_reducible refine (rlate_any C L.asked now _ (HG.out.below hbc)).mono ?_; rintro e wX ⟨rfl, hX⟩; have hbc := bnext hbc hX; have hBc := kb hBc hX; have hLc := kb hLc hX; obtain ⟨m0, m1, m2, m3, m4, m5, m6, _⟩ := cfg_cells2 hBc; obtain ⟨l0, l1, l2, l3⟩ := lv_cells hLc))
    go_ret
    exact ⟨ret_bool (by rw [HE.out]), hbc⟩
set_option maxRecDepth 100000 in
set_option maxHeartbeats 4000000 in
theorem lfits_any (C : Cv) (L : Lv) (now : Int) (w : World) (h : Good w C) (hl : GoodL w L) (hn : L.fn ≤ 100) :
    Calls Try.prog 31 #[.agg C.cells, .agg L.cells, .int .i64 now] w fun e w' => e = .returned (.bool (fitsB C L now)) ∧ Below w.heap.size w w' := by
  have HG := Lib.hid h
  have HL := Lib.hid hl
  have hra := hl.r2
  unfold inI at hra
  clear h hl
  have hbc : Below w.heap.size w ((w.alloc (Obj.cells C.cells 24)).alloc (LB L)) := bnew (bnew (brefl w) _) _
  have hBc : ((w.alloc (Obj.cells C.cells 24)).alloc (LB L)).heap[w.heap.size]? = some (.cells C.cells 24 (0, 0)) := ka (heap_alloc_new w _) _
  have hLc : ((w.alloc (Obj.cells C.cells 24)).alloc (LB L)).heap[w.heap.size + 1]? = some (LB L) := heap_alloc2_new _ _ _
  obtain ⟨l0, l1, l2, l3⟩ := lv_cells hLc
  by_cases hh : heldB C L now = true
  · obtain ⟨f0, f1, f2, f3, f4, f5, f6, f7⟩ := held_facts hh
    have HE : Hid (fitsB C L now = decide (C.guard + C.work < C.hold - (now - L.asked))) := by show _ = _; unfold fitsB; rw [hh]; rfl
    have HH := Lib.hid hh
    clear hh
    go_enter Try.func31, Try.ntmps31
    go_wp2_with (first
      | (with_reducible refine wpList_load_cfg rfl _ rfl w.heap.size rfl C hBc ?_)
      | (with_reducible refine wpList_load_lv rfl _ rfl (w.heap.size + 1) rfl L hLc ?_)
      | (go_at_call 27; with_reducible refine (held_any C L now _ (HG.out.below hbc) (HL.out.below hbc) hn).mono ?_; rintro e wX ⟨rfl, hX⟩; have hbc := bnext hbc hX; have hBc := kb hBc hX; have hLc := kb hLc hX; obtain ⟨m0, m1, m2, m3, m4, m5, m6, _⟩ := cfg_cells2 hBc; obtain ⟨l0, l1, l2, l3⟩ := lv_cells hLc; rw [HH.out]))
    go_ret
    exact ⟨ret_bool (by rw [HE.out]), hbc⟩
  · have hh' : heldB C L now = false := by simpa using hh
    have HE : Hid (fitsB C L now = false) := by show _ = _; unfold fitsB; rw [hh']; rfl
    have HH := Lib.hid hh'
    clear hh hh'
    go_enter Try.func31, Try.ntmps31
    go_wp2_with (first
      | (with_reducible refine wpList_load_cfg rfl _ rfl w.heap.size rfl C hBc ?_)
      | (with_reducible refine wpList_load_lv rfl _ rfl (w.heap.size + 1) rfl L hLc ?_)
      | (go_at_call 27; with_reducible refine (held_any C L now _ (HG.out.below hbc) (HL.out.below hbc) hn).mono ?_; rintro e wX ⟨rfl, hX⟩; have hbc := bnext hbc hX; have hBc := kb hBc hX; have hLc := kb hLc hX; obtain ⟨m0, m1, m2, m3, m4, m5, m6, _⟩ := cfg_cells2 hBc; obtain ⟨l0, l1, l2, l3⟩ := lv_cells hLc; rw [HH.out]))
    go_ret
    exact ⟨ret_bool (by rw [HE.out]), hbc⟩
set_option maxRecDepth 100000 in
set_option maxHeartbeats 4000000 in
theorem rlfits_any (C : Cv) (L : Lv) (now : Int) (w : World) (h : Good w C) (hl : GoodL w L) :
    Calls Try.prog 32 #[.agg C.cells, .agg L.cells, .int .i64 now] w fun e w' => e = .returned (.bool (fitsB C L now)) ∧ Below w.heap.size w w' := by
  have HG := Lib.hid h
  have HL := Lib.hid hl
  have hra := hl.r2
  unfold inI at hra
  clear h hl
  have hbc : Below w.heap.size w ((w.alloc (Obj.cells C.cells 24)).alloc (LB L)) := bnew (bnew (brefl w) _) _
  have hBc : ((w.alloc (Obj.cells C.cells 24)).alloc (LB L)).heap[w.heap.size]? = some (.cells C.cells 24 (0, 0)) := ka (heap_alloc_new w _) _
  have hLc : ((w.alloc (Obj.cells C.cells 24)).alloc (LB L)).heap[w.heap.size + 1]? = some (LB L) := heap_alloc2_new _ _ _
  obtain ⟨l0, l1, l2, l3⟩ := lv_cells hLc
  by_cases hh : heldB C L now = true
  · obtain ⟨f0, f1, f2, f3, f4, f5, f6, f7⟩ := held_facts hh
    have HE : Hid (fitsB C L now = decide (C.guard + C.work < C.hold - (now - L.asked))) := by show _ = _; unfold fitsB; rw [hh]; rfl
    have HH := Lib.hid hh
    clear hh
    go_enter Try.func32, Try.ntmps32
    go_wp2_with (first
      | (with_reducible refine wpList_load_cfg rfl _ rfl w.heap.size rfl C hBc ?_)
      | (with_reducible refine wpList_load_lv rfl _ rfl (w.heap.size + 1) rfl L hLc ?_)
      | (go_at_call 28; with_reducible refine (rheld_any C L now _ (HG.out.below hbc) (HL.out.below hbc)).mono ?_; rintro e wX ⟨rfl, hX⟩; have hbc := bnext hbc hX; have hBc := kb hBc hX; have hLc := kb hLc hX; obtain ⟨m0, m1, m2, m3, m4, m5, m6, _⟩ := cfg_cells2 hBc; obtain ⟨l0, l1, l2, l3⟩ := lv_cells hLc; rw [HH.out]))
    go_ret
    exact ⟨ret_bool (by rw [HE.out]), hbc⟩
  · have hh' : heldB C L now = false := by simpa using hh
    have HE : Hid (fitsB C L now = false) := by show _ = _; unfold fitsB; rw [hh']; rfl
    have HH := Lib.hid hh'
    clear hh hh'
    go_enter Try.func32, Try.ntmps32
    go_wp2_with (first
      | (with_reducible refine wpList_load_cfg rfl _ rfl w.heap.size rfl C hBc ?_)
      | (with_reducible refine wpList_load_lv rfl _ rfl (w.heap.size + 1) rfl L hLc ?_)
      | (go_at_call 28; with_reducible refine (rheld_any C L now _ (HG.out.below hbc) (HL.out.below hbc)).mono ?_; rintro e wX ⟨rfl, hX⟩; have hbc := bnext hbc hX; have hBc := kb hBc hX; have hLc := kb hLc hX; obtain ⟨m0, m1, m2, m3, m4, m5, m6, _⟩ := cfg_cells2 hBc; obtain ⟨l0, l1, l2, l3⟩ := lv_cells hLc; rw [HH.out]))
    go_ret
    exact ⟨ret_bool (by rw [HE.out]), hbc⟩
set_option maxRecDepth 100000 in
set_option maxHeartbeats 1000000 in
theorem lsame_yes (sl nc ak : Int) (a1 a2 : Option Addr) (n c1 c2 : Nat) (zs : List Int) (w : World) (h1 : Reads .i64 w a1 n c1 zs) (h2 : Reads .i64 w a2 n c2 zs) :
    Calls Try.prog 23 #[.agg #[.int .i64 sl, .int .i64 nc, .int .i64 ak, .slice a1 n c1], .agg #[.int .i64 sl, .int .i64 nc, .int .i64 ak, .slice a2 n c2]] w fun e w' => e = .returned (.bool true) ∧ Below w.heap.size w w' := by
  have H1 := Lib.hid h1
  have H2 := Lib.hid h2
  clear h1 h2
  have hbc : Below w.heap.size w ((w.alloc (Obj.cells #[.int .i64 sl, .int .i64 nc, .int .i64 ak, .slice a1 n c1] 48)).alloc (Obj.cells #[.int .i64 sl, .int .i64 nc, .int .i64 ak, .slice a2 n c2] 48)) := bnew (bnew (brefl w) _) _
  have hL1 : ((w.alloc (Obj.cells #[.int .i64 sl, .int .i64 nc, .int .i64 ak, .slice a1 n c1] 48)).alloc (Obj.cells #[.int .i64 sl, .int .i64 nc, .int .i64 ak, .slice a2 n c2] 48)).heap[w.heap.size]? = some (Obj.cells #[.int .i64 sl, .int .i64 nc, .int .i64 ak, .slice a1 n c1] 48) := ka (heap_alloc_new w _) _
  have hL2 : ((w.alloc (Obj.cells #[.int .i64 sl, .int .i64 nc, .int .i64 ak, .slice a1 n c1] 48)).alloc (Obj.cells #[.int .i64 sl, .int .i64 nc, .int .i64 ak, .slice a2 n c2] 48)).heap[w.heap.size + 1]? = some (Obj.cells #[.int .i64 sl, .int .i64 nc, .int .i64 ak, .slice a2 n c2] 48) := heap_alloc2_new _ _ _
  obtain ⟨k0, k1, k2, k3⟩ := lv_cells hL1
  obtain ⟨l0, l1, l2, l3⟩ := lv_cells hL2
  go_enter Try.func23, Try.ntmps23
  go_wp2_with (go_at_call 58; with_reducible refine (nsame_yes _ _ _ _ _ zs _ (H1.out.below hbc) (H2.out.below hbc)).mono ?_; rintro e wX ⟨rfl, hX⟩; have hbc := bnext hbc hX; have hL1 := kb hL1 hX; have hL2 := kb hL2 hX; obtain ⟨k0, k1, k2, k3⟩ := lv_cells hL1; obtain ⟨l0, l1, l2, l3⟩ := lv_cells hL2)
  go_ret
  exact ⟨rfl, hbc⟩
end Go.Proofs.Ytmhggpmhekeemaa
