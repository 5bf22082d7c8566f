/- The walk of LeaseSlots. -/
import Derived.Test.YtmhggpmhekeemaaLAwake
import Derived.Deep.RegionHeld3
namespace Go.Proofs.Ytmhggpmhekeemaa
open Go.RowKit
def bcells (l : List Bool) : Array Value := (l.map Value.bool).toArray
theorem bcell {wr : World} {g : Nat} {e : TypeId} {l : List Bool} {fr : Nat × Nat} (h : wr.heap[g]? = some (.cells (bcells l) e fr)) {j : Nat} (hj : j < l.length) : wr.cell? ⟨g, j, none⟩ = some (.bool (l.getD j false)) := by
  rw [cell_of_row _ _ _ _ _ _ h]; simp [bcells, hj]
theorem bset {wr : World} {g : Nat} {e : TypeId} {l : List Bool} (h : wr.heap[g]? = some (.cells (bcells l) e (0, 0))) (j : Nat) (x : Bool) : (wr.setCell ⟨g, j, none⟩ (.bool x)).heap[g]? = some (.cells (bcells (l.set j x)) e (0, 0)) := by
  rw [heap_setCell_same _ _ _ _ _ _ h]
  simp [bcells, List.map_set]
/-- Which slots the first k tries have met. -/
def seenL (l : List Bool) (m : Int) (S k : Nat) : Prop := l.length = 9 ∧ ∀ j : Nat, l.getD j false = true → ∃ i : Nat, i < k ∧ (m + i) % (S : Int) = j
theorem seen_none (m : Int) (S : Nat) : seenL (List.replicate 9 false) m S 0 := ⟨rfl, fun j h => by
  exfalso
  by_cases hj : j < 9
  · rw [List.getD, List.getElem?_replicate, if_pos hj] at h; simp at h
  · rw [List.getD, List.getElem?_replicate, if_neg hj] at h; simp at h⟩
theorem seen_new {l : List Bool} {m : Int} {S k s : Nat} (h : seenL l m S k) (hk : k < S) (hs : (m + k) % (S : Int) = s) : l.getD s false = false := by
  cases hb : l.getD s false
  · rfl
  · exfalso
    obtain ⟨i, hi, e⟩ := h.2 s hb
    have h1 : (m + i) % (S : Int) = (m + k) % (S : Int) := by rw [e, hs]
    have h2 : ((m + k) - (m + i)) % (S : Int) = 0 := by
      rw [Int.sub_emod, h1]; simp
    have h3 : (m + (k : Int)) - (m + i) = ((k - i : Nat) : Int) := by omega
    rw [h3] at h2
    have h4 : ((k - i : Nat) : Int) % (S : Int) = ((k - i : Nat) : Int) := Int.emod_eq_of_lt (by omega) (by omega)
    rw [h4] at h2
    omega
theorem seen_step {l : List Bool} {m : Int} {S k s : Nat} (h : seenL l m S k) (hs9 : s < 9) (hs : (m + k) % (S : Int) = s) : seenL (l.set s true) m S (k + 1) := by
  refine ⟨by simp [h.1], fun j hj => ?_⟩
  by_cases e : j = s
  · subst e; exact ⟨k, by omega, hs⟩
  · have : (l.set s true).getD j false = l.getD j false := by
      simp [List.getD, Ne.symm e]
    rw [this] at hj
    obtain ⟨i, hi, e⟩ := h.2 j hj
    exact ⟨i, by omega, e⟩
theorem wrapT {x : Int} (h0 : 0 ≤ x) (h1 : x ≤ 4611686018427387904) : IntKind.i64.wrap x = x := by
  rw [IntKind.wrap_i64]; omega
theorem slotI_eq {C : Cv} {S : Nat} (hc : chk C = true) (hS : C.slots = S) {node n : Int} (h1 : 0 ≤ node) (h2 : node ≤ 1000) (h3 : 0 ≤ n) (h4 : n ≤ 1099511627776) : slotI C node n = (node + n) % (S : Int) := by
  unfold slotI; rw [if_pos ⟨hc, h1, h2, h3, h4⟩, hS]
set_option maxRecDepth 100000 in
set_option maxHeartbeats 8000000 in
theorem walk_LeaseSlots (C : Cv) (node n : Int) (w : World) (w0 : Good w C) (w1 : (Lit.int .u8 node).wf = true) (w2 : (Lit.int .u16 n).wf = true) :
    Calls Try.prog 9 #[.agg C.cells, .int .u8 node, .int .u16 n] w fun e w' => e = .returned (.bool true) ∧ Below w.heap.size w w' := by
  have HG := Lib.hid w0
  have r1 : 0 ≤ node ∧ node ≤ 255 := by
    simp only [Lit.wf, Bool.and_eq_true, decide_eq_true_eq] at w1
    have h1 : IntKind.u8.min = 0 := rfl
    have h2 : IntKind.u8.max = 255 := rfl
    omega
  have r2 : 0 ≤ n ∧ n ≤ 65535 := by
    simp only [Lit.wf, Bool.and_eq_true, decide_eq_true_eq] at w2
    have h1 : IntKind.u16.min = 0 := rfl
    have h2 : IntKind.u16.max = 65535 := rfl
    omega
  clear w0 w1 w2
  obtain ⟨r1a, r1b⟩ := r1
  obtain ⟨r2a, r2b⟩ := r2
  have hbc := bnew (brefl w) (Obj.cells C.cells 24)
  have hBc := heap_alloc_new w (Obj.cells C.cells 24)
  by_cases hf : fewB C = true
  · have HF := Lib.hid hf
    clear hf
    by_cases hc : chk C = true
    · have HK : Hid (chkI C = 0) := by show chkI C = 0; unfold chkI; rw [hc]; rfl
      have hcf := chk_facts hc
      obtain ⟨S, hS⟩ : ∃ S : Nat, C.slots = (S : Int) := ⟨C.slots.toNat, by omega⟩
      have HC := Lib.hid hc
      have HS := Lib.hid hS
      have hS1 : 1 ≤ S := by omega
      have hS9 : S ≤ 9 := by omega
      clear hc hcf hS
      go_enter Try.func9, Try.ntmps9
      go_wp2_with (first
        | (with_reducible refine wpList_load_cfg rfl _ rfl w.heap.size rfl C hBc ?_)
        | (go_at_call 22; refine (lawake_true _).mono ?_; rintro e wX ⟨rfl, hX⟩; have hbc := bnext hbc hX; have hBc := kb hBc hX)
        | (go_at_call 12; with_reducible refine (few_any C _ (HG.out.below hbc)).mono ?_; rintro e wX ⟨rfl, hX⟩; have hbc := bnext hbc hX; have hBc := kb hBc hX; rw [HF.out])
        | (go_at_call 20; with_reducible refine (check_any C _ (HG.out.below hbc)).mono ?_; rintro e wX ⟨rfl, hX⟩; have hbc := bnext hbc hX; have hBc := kb hBc hX; rw [HK.out]))
      have HBX := Lib.hid (bnew hbc (Obj.cells (bcells (List.replicate 9 false)) 57))
      have HBB := Lib.hid (ka hBc (Obj.cells (bcells (List.replicate 9 false)) 57))
      have hlw : w.heap.size < wX.heap.size := lt_of_block hBc
      clear hbc hBc
      go_loopw [9] (fun i wr => ∃ (k : Nat) (l : List Bool), k ≤ S ∧ i = .int .i64 k ∧ Hid (seenL l (node + n) S k) ∧ wr.heap[wX.heap.size]? = some (.cells (bcells l) 57 (0, 0)) ∧ wr.heap[w.heap.size]? = some (.cells C.cells 24 (0, 0)) ∧ Below w.heap.size w wr) (fun i _ => S - (intOf i).toNat)
      case atStart => exact ⟨0, List.replicate 9 false, Nat.zero_le _, rfl, seen_none _ _, heap_alloc_new _ _, HBB.out, HBX.out⟩
      case round =>
        obtain ⟨k, l, hk, rfl, hl, hQ, hBc, hbc⟩ := hrel
        obtain ⟨_, m1, _⟩ := cfg_cells2 hBc
        rw [HS.out] at m1
        by_cases hlt : k < S
        · obtain ⟨s, hs⟩ : ∃ s : Nat, (node + n + (k : Int)) % (S : Int) = (s : Int) := ⟨((node + n + (k : Int)) % (S : Int)).toNat, by rw [Int.toNat_of_nonneg (Int.emod_nonneg _ (by omega))]⟩
          have hsS : s < S := by have := Int.emod_lt_of_pos (node + n + (k : Int)) (show (0 : Int) < S by omega); omega
          have hs9 : s < 9 := by omega
          have HV : Hid (slotI C node (n + k) = s) := by
            show _ = _
            rw [slotI_eq HC.out HS.out r1a (by omega) (by omega) (by omega), ← hs]
            congr 1; omega
          have hq := bcell hQ (j := s) (by rw [hl.out.1]; exact hs9)
          rw [seen_new hl.out hlt hs] at hq
          have HQ := Lib.hid hQ
          have HST := Lib.hid (seen_step hl.out hs9 hs)
          have d1 : decide ((s : Int) < 0) = false := decide_eq_false (by omega)
          have d2 : decide (S ≤ s) = false := decide_eq_false (by omega)
          have hz : ∀ j, wr.frozen? ⟨wX.heap.size, j, none⟩ = false := fun j => blk_free hQ
          have ra : 0 ≤ n + (k : Int) := by omega
          have rb : n + (k : Int) ≤ 100000 := by omega
          clear hs hQ
          go_wp2_with (first
            | (with_reducible refine wpList_load_cfg rfl _ rfl w.heap.size rfl C hBc ?_)
            | (go_at_call 33; with_reducible refine (slot_b C node (n + k) s _ (HG.out.below hbc) HV.out).mono ?_; rintro e wY ⟨rfl, hY⟩; have hbc := bnext hbc hY; have hBc := kb hBc hY; obtain ⟨_, m1, _⟩ := cfg_cells2 hBc; rw [HS.out] at m1; have HQ := Lib.hid (kb HQ.out hY); have hq := (hY.cell (block_lt_of_cell hq)).trans hq; have hz : ∀ j, wY.frozen? ⟨wX.heap.size, j, none⟩ = false := fun j => blk_free HQ.out))
          go_roundw
          case rel => exact ⟨k + 1, l.set s true, by omega, by go_num, HST.out, bset HQ.out s true, (heap_setCell_other _ _ _ _ (show w.heap.size ≠ wX.heap.size by omega)).trans hBc, hbc.setCell (show w.heap.size ≤ wX.heap.size by omega) _⟩
          case measure => simp [intOf]; omega
        · have hke : k = S := by omega
          subst hke
          obtain ⟨x1, hx1⟩ : ∃ x : Int, (node + n + 1) % (k : Int) = x := ⟨_, rfl⟩
          obtain ⟨x2, hx2⟩ : ∃ x : Int, (node + n) % (k : Int) = x := ⟨_, rfl⟩
          have HV1 : Hid (slotI C node (n + 1) = x1) := by
            show _ = _
            rw [slotI_eq HC.out HS.out r1a (by omega) (by omega) (by omega), ← hx1]; congr 1; omega
          have HV2 : Hid (slotI C (node + 1) n = x1) := by
            show _ = _
            rw [slotI_eq HC.out HS.out (by omega) (by omega) (by omega) (by omega), ← hx1]; congr 1; omega
          have HV3 : Hid (slotI C node (n + C.slots) = x2) := by
            show _ = _
            have e := HS.out
            rw [slotI_eq HC.out HS.out r1a (by omega) (by omega) (by omega), ← hx2, e, ← Int.add_assoc, Int.add_emod_right]
          have HV4 : Hid (slotI C node n = x2) := by
            show _ = _
            rw [slotI_eq HC.out HS.out r1a (by omega) (by omega) (by omega), ← hx2]
          have HB := Lib.hid hbc
          have HBc := Lib.hid hBc
          have FG : Hid (∀ W, Below wr.heap.size wr W → Good W C) := fun W q => (HG.out.below HB.out).below q
          have hL0 : ∀ W, Below wr.heap.size wr W → W.cell? ⟨w.heap.size, 0, none⟩ = some (.int .i64 C.nodes) ∧ W.cell? ⟨w.heap.size, 1, none⟩ = some (.int .i64 C.slots) ∧ W.cell? ⟨w.heap.size, 2, none⟩ = some (.int .i64 C.rho) ∧ W.cell? ⟨w.heap.size, 3, none⟩ = some (.int .i64 C.hold) ∧ W.cell? ⟨w.heap.size, 4, none⟩ = some (.int .i64 C.grant) ∧ W.cell? ⟨w.heap.size, 5, none⟩ = some (.int .i64 C.guard) ∧ W.cell? ⟨w.heap.size, 6, none⟩ = some (.int .i64 C.work) ∧ W.cell? ⟨w.heap.size, 7, none⟩ = some (.slice C.sa C.sn C.sc) ∧ W.cell? ⟨w.heap.size, 8, none⟩ = some (.slice C.na C.nn C.nc) ∧ W.cell? ⟨w.heap.size, 9, none⟩ = some (.int .i64 C.soak) ∧ W.cell? ⟨w.heap.size, 10, none⟩ = some (.int .i64 C.pass) := fun W q => cfg_cells2 ((q.block _ (lt_of_block HBc.out)).trans HBc.out)
          have hS : Below wr.heap.size wr wr := Below.refl _ _
          have hsl0 : 1 ≤ C.slots := by have := HS.out; omega
          have hsl1 : C.slots ≤ 9 := by have := HS.out; omega
          clear hx1 hx2 hl hQ hBc hbc
          go_wp2_with fail
          have hw1 : IntKind.i64.wrap node = node := wrapT (by omega) (by omega)
          have hw2 : IntKind.i64.wrap n = n := wrapT (by omega) (by omega)
          have hw3 : IntKind.i64.wrap (n + 1) = n + 1 := wrapT (by omega) (by omega)
          have hw4 : IntKind.i64.wrap (node + 1) = node + 1 := wrapT (by omega) (by omega)
          have hw5 : IntKind.i64.wrap (n + C.slots) = n + C.slots := wrapT (by omega) (by omega)
          go_region_held3 (fun W : World => Below wr.heap.size wr W) (first | assumption | exact hS.drew | exact Below.drew (by assumption) | exact bnext (by assumption) hY) (first
            | (go_at_call 33; with_reducible refine (slot_b C node (n + 1) x1 _ (FG.out _ (by assumption)) HV1.out).mono ?_; rintro e wY ⟨rfl, hY⟩)
            | (go_at_call 33; with_reducible refine (slot_b C (node + 1) n x1 _ (FG.out _ (by assumption)) HV2.out).mono ?_; rintro e wY ⟨rfl, hY⟩)
            | (go_at_call 33; with_reducible refine (slot_b C node (n + C.slots) x2 _ (FG.out _ (by assumption)) HV3.out).mono ?_; rintro e wY ⟨rfl, hY⟩)
            | (go_at_call 33; with_reducible refine (slot_b C node n x2 _ (FG.out _ (by assumption)) HV4.out).mono ?_; rintro e wY ⟨rfl, hY⟩))
          all_goals
            go_wp2_with fail
            go_ret
            exact ⟨rfl, bnext HB.out (by assumption)⟩
    · have HK : Hid (chkI C = 90) := by show chkI C = 90; unfold chkI; rw [if_neg hc]
      clear hc
      go_enter Try.func9, Try.ntmps9
      go_wp2_with (first
        | (with_reducible refine wpList_load_cfg rfl _ rfl w.heap.size rfl C hBc ?_)
        | (go_at_call 22; refine (lawake_true _).mono ?_; rintro e wX ⟨rfl, hX⟩; have hbc := bnext hbc hX; have hBc := kb hBc hX)
        | (go_at_call 12; with_reducible refine (few_any C _ (HG.out.below hbc)).mono ?_; rintro e wX ⟨rfl, hX⟩; have hbc := bnext hbc hX; have hBc := kb hBc hX; rw [HF.out])
        | (go_at_call 20; with_reducible refine (check_any C _ (HG.out.below hbc)).mono ?_; rintro e wX ⟨rfl, hX⟩; have hbc := bnext hbc hX; have hBc := kb hBc hX; rw [HK.out]))
      go_ret
      exact ⟨rfl, hbc⟩
  · have HF : Hid (fewB C = false) := by show _ = _; simpa using hf
    clear hf
    go_enter Try.func9, Try.ntmps9
    go_wp2_with (first
      | (with_reducible refine wpList_load_cfg rfl _ rfl w.heap.size rfl C hBc ?_)
      | (go_at_call 22; refine (lawake_true _).mono ?_; rintro e wX ⟨rfl, hX⟩; have hbc := bnext hbc hX; have hBc := kb hBc hX)
      | (go_at_call 12; with_reducible refine (few_any C _ (HG.out.below hbc)).mono ?_; rintro e wX ⟨rfl, hX⟩; have hbc := bnext hbc hX; have hBc := kb hBc hX; rw [HF.out])
      | (go_at_call 20; with_reducible refine (check_any C _ (HG.out.below hbc)).mono ?_; rintro e wX ⟨rfl, hX⟩; have hbc := bnext hbc hX; have hBc := kb hBc hX; rw [HK.out]))
    go_ret
    exact ⟨rfl, hbc⟩
end Go.Proofs.Ytmhggpmhekeemaa
