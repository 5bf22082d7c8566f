/- Whether a lease is held, by the program: who granted it, counted over a map. -/
import Derived.Test.YtmhggpmhekeemaaLGrant
import Derived.Maps.OwnOps
import Derived.Maps.RangeWalk
import Derived.LoopTactic
namespace Go.Proofs.Ytmhggpmhekeemaa
open Go.RowKit Go.Maps
/-- How many of the numbers from 0 on, below nodes and nine, are there. -/
def cntL (nodes : Int) (P : Int → Bool) : Nat := ((List.range 9).filter fun n : Nat => decide ((n : Int) < nodes) && P n).length
theorem filter_one {l : List Nat} {f g : Nat → Bool} {j : Nat} (hd : l.Nodup) (hj : j ∈ l) (hf : f j = false) (hg : g j = true) (h : ∀ n, n ≠ j → g n = f n) : (l.filter g).length = (l.filter f).length + 1 := by
  induction l with
  | nil => cases hj
  | cons a r ih =>
    rw [List.nodup_cons] at hd
    by_cases ha : a = j
    · subst ha
      have : r.filter g = r.filter f := List.filter_congr fun n hn => h n (fun e => hd.1 (e ▸ hn))
      simp [hf, hg, this]
    · have hjr : j ∈ r := by
        rcases List.mem_cons.1 hj with e | e
        · exact absurd e.symm ha
        · exact e
      have := ih hd.2 hjr
      have hga := h a ha
      cases hfa : f a
      · simp [hga, hfa, this]
      · simp [hga, hfa, this]
theorem cnt_in {nodes : Int} {P P' : Int → Bool} {x : Int} (hn : nodes ≤ 9) (h0 : 0 ≤ x) (h1 : x < nodes) (hP : P x = false) (hP' : P' x = true) (h : ∀ y, y ≠ x → P' y = P y) : (cntL nodes P' : Int) = cntL nodes P + 1 := by
  unfold cntL
  have key := filter_one (l := List.range 9) (f := fun n : Nat => decide ((n : Int) < nodes) && P n) (g := fun n : Nat => decide ((n : Int) < nodes) && P' n) (j := x.toNat) List.nodup_range (by simp; omega)
    (by have e : ((x.toNat : Nat) : Int) = x := by omega
        simp [e, hP]) (by have e : ((x.toNat : Nat) : Int) = x := by omega
                          simp [e, hP', h1]) (fun n hne => by rw [h n (by omega)])
  rw [key]; rfl
theorem cnt_out {nodes : Int} {P P' : Int → Bool} {x : Int} (hx : ¬ (0 ≤ x ∧ x < nodes)) (h : ∀ y, y ≠ x → P' y = P y) : cntL nodes P' = cntL nodes P := by
  unfold cntL
  congr 1
  refine List.filter_congr fun n _ => ?_
  by_cases hn : (n : Int) < nodes
  · rw [h n (fun e => hx ⟨by omega, by omega⟩)]
  · simp [hn]
theorem cnt_le (nodes : Int) (P : Int → Bool) : cntL nodes P ≤ 9 := by
  unfold cntL
  exact Nat.le_trans (List.length_filter_le _ _) (by simp)
theorem cnt_congr {nodes : Int} {P P' : Int → Bool} (h : ∀ y, P' y = P y) : cntL nodes P' = cntL nodes P := by
  have : P' = P := funext h
  rw [this]
theorem cnt_none {nodes : Int} {P : Int → Bool} (h : ∀ y, P y = false) : cntL nodes P = 0 := by
  unfold cntL; simp [h]
def heldB (C : Cv) (L : Lv) (now : Int) : Bool := holdsB C L.asked now && decide (majI C ≤ cntL C.nodes (inB L.fs))
theorem law3 : Keyed Try.prog 3 := int_keyed Try.underlying3
theorem zero3 (w : World) : (zeroValue 3).run Try.prog w = .ok (.int .i64 0) w := by kernel_rfl
theorem inB_wf {zs : List Int} (hw : ∀ n ∈ zs, (Lit.int .i64 n).wf = true) (k : Nat) : (Lit.int .i64 (zs.getD k 0)).wf = true := by
  by_cases hk : k < zs.length
  · rw [List.getD, List.getElem?_eq_getElem hk]; exact hw _ (List.getElem_mem hk)
  · rw [List.getD, List.getElem?_eq_none (by omega)]; decide
theorem sameKey_int (x y : Int) : (Lit.int .i64 x).sameKey (.int .i64 y) = decide (x = y) := by
  by_cases h : x = y
  · subst h; rw [WideAt.sameKey_self (a := Lit.int .i64 x) (by simp [WideAt.IsKeyLit])]; simp
  · rw [sameKey_ne (by intro e; cases e; exact h rfl)]; simp [h]
theorem has_step {D : DataW Unit} {zs : List Int} {k : Nat} (hk : k < zs.length) (hD : IsMap D) (d : DataW Unit) (h : ∀ x, has D (.int .i64 x) = inB (zs.take k) x) : ∀ x, has (D.put (.int .i64 (zs.getD k 0)) d) (.int .i64 x) = inB (zs.take (k + 1)) x := by
  intro x
  rw [take_snoc hk]
  by_cases hx : x = zs.getD k 0
  · subst hx
    rw [has_put_same hD (by simp [WideAt.IsKeyLit])]
    unfold inB; simp
  · rw [has_put_other (by intro e; cases e; exact hx rfl), h x]
    unfold inB
    have hx' : (x ∈ zs.take k ++ [zs.getD k 0]) = (x ∈ zs.take k) := by
      simp only [List.mem_append, List.mem_cons, List.not_mem_nil, or_false]
      exact propext ⟨fun q => q.elim id (fun e => absurd e hx), Or.inl⟩
    simp only [hx']
theorem own_isMap {w : World} {b n : Nat} {D : DataW Unit} {R : Value → Option (DataW Unit × List MemPlace)} (h : w.ownsMap Try.prog 3 R b n D) : IsMap D := by
  obtain ⟨es, rfl, _⟩ := h.entries law3
  exact ⟨es, rfl⟩
set_option maxRecDepth 100000 in
set_option maxHeartbeats 4000000 in
theorem held_yes (C : Cv) (L : Lv) (now : Int) (w : World) (h : Good w C) (hl : GoodL w L) (hn : L.fn ≤ 100) (hh : holdsB C L.asked now = true) :
    Calls Try.prog 27 #[.agg C.cells, .agg L.cells, .int .i64 now] w fun e w' => e = .returned (.bool (decide (majI C ≤ cntL C.nodes (inB L.fs)))) ∧ Below w.heap.size w w' := by
  have hc : chk C = true := by unfold holdsB at hh; simp only [Bool.and_eq_true] at hh; exact hh.1
  have hcf := chk_facts hc
  have hn9 : C.nodes ≤ 9 := by omega
  have hn1 : 1 ≤ C.nodes := by omega
  have HH := Lib.hid hh
  have HG := Lib.hid h
  have HL := Lib.hid hl
  clear h hl hh hc hcf
  have hmm := @run_makeMap Try.prog
  have hbc : Below w.heap.size w ((w.alloc (Obj.cells C.cells 24)).alloc (LB L)) := bnew (bnew (brefl w) _) _
  have hBc : ((w.alloc (Obj.cells C.cells 24)).alloc (LB L)).heap[w.heap.size]? = some (.cells C.cells 24 (0, 0)) := ka (heap_alloc_new w _) _
  have hLc : ((w.alloc (Obj.cells C.cells 24)).alloc (LB L)).heap[w.heap.size + 1]? = some (LB L) := heap_alloc2_new _ _ _
  obtain ⟨l0, l1, l2, l3⟩ := lv_cells hLc
  go_enter Try.func27, Try.ntmps27
  go_wp2_with (first
    | (with_reducible refine wpList_load_cfg rfl _ rfl w.heap.size rfl C hBc ?_)
    | (go_at_call 62; with_reducible refine (holds_any C L.asked now _ (HG.out.below hbc)).mono ?_; rintro e wX ⟨rfl, hX⟩; have hbc := bnext hbc hX; have hBc := kb hBc hX; have hLc := kb hLc hX; rw [HH.out]; obtain ⟨m0, _⟩ := cfg_cells2 hBc; obtain ⟨l0, l1, l2, l3⟩ := lv_cells hLc; have la3 := (fun o => cell_alloc (o := o) l3)))
  have HB := Lib.hid hbc
  have HBC := Lib.hid hBc
  have HR := Lib.hid (HL.out.below hbc).fr
  have hn' := HR.out.small'
  clear hbc hBc hLc m0 l0 l1 l2 l3 la3 hX hmm
  go_loopw [22] (fun i wr => ∃ (k : Nat) (D : DataW Unit), k ≤ L.fn ∧ i = .int .i64 k ∧ wr.ownsMap Try.prog 3 (plainElem (H := Unit) Try.prog 3) wX.heap.size k D ∧ Hid (∀ x, has D (.int .i64 x) = inB (L.fs.take k) x) ∧ Below wX.heap.size wX wr) (fun i _ => L.fn - (intOf i).toNat)
  case atStart => exact ⟨0, .map [], Nat.zero_le _, rfl, World.ownsMap_made _ _ _ _, by show ∀ x, _ = _; intro x; simp [has, inB], (brefl wX).alloc (Nat.le_refl _) _⟩
  case round =>
    obtain ⟨k, D, hk, rfl, hown, hD, hb⟩ := hrel
    by_cases hlt : k < L.fn
    · rcases HR.out.cells with h0 | ⟨b, off, ha, hcell⟩
      · exact absurd h0 (by omega)
      have hcx : wr.cell? ⟨b, off + k, none⟩ = some (.int .i64 (L.fs.getD k 0)) := by rw [hb.cell (block_lt_of_cell (hcell k hlt)), hcell k hlt]
      have hkey : keyOf Try.prog 3 (.int .i64 (L.fs.getD k 0)) = some (.int .i64 (L.fs.getD k 0)) := keyOf_int_mk Try.underlying3 (inB_wf HR.out.wf k)
      have HA := Lib.hid ha
      have HKE := Lib.hid hkey
      have HLN := Lib.hid HR.out.length
      obtain ⟨v, hv⟩ : ∃ v, L.fs.getD k 0 = v := ⟨_, rfl⟩
      rw [hv] at hcx HKE
      have HV := Lib.hid hv
      clear hcell ha hkey hv
      have hix := indexAt_slice (c := L.fc) HA.out hlt
      go_wp2_with (first
        | (at_lookup; refine wpList_lookup_own_int _ rfl _ _ 84 rfl 3 3 .i64 law3 Try.underlying84 Try.underlying3 (zero3 _) wX.heap.size k _ rfl hown _ _ rfl HKE.out ?_; intro c hat hwc; clear hat)
        | (at_mapUpdate; refine wpList_mapUpdate_own _ rfl _ _ _ 84 rfl 3 3 law3 Try.underlying84 _ wX.heap.size k _ rfl hown (by unfold maxLen; omega) _ _ _ rfl rfl HKE.out _ [] (plainElem_int Try.underlying3 (wrap64_wf _)) ?_; intro w1 hown1 hgrow1)
        | go_in)
      go_roundw
      case rel => exact ⟨k + 1, _, by omega, by go_num, hown1, (by rw [← HV.out]; exact has_step (by rw [HLN.out]; exact hlt) (own_isMap hown) _ hD.out), hb.grown hgrow1 hb.size (fun j hj => by cases hj; exact Nat.le_refl _)⟩
      case measure => simp [intOf]; omega
    · have hke : k = L.fn := by omega
      subst hke
      obtain ⟨wo, rfl⟩ : ∃ wo : World, wo = wr := ⟨_, rfl⟩
      have HD : Hid (∀ x, has D (.int .i64 x) = inB L.fs x) := by
        show ∀ x, _ = _
        intro x
        rw [hD.out x, List.take_of_length_le (by rw [HR.out.length]; omega)]
      have HBR := Lib.hid hb
      have hBc := (hb.block _ (lt_of_block HBC.out)).trans HBC.out
      clear hD hb
      go_wp2_with (first
        | (at_range; refine wpList_range_own _ rfl _ 84 rfl 3 3 law3 Try.underlying84 _ wX.heap.size L.fn _ rfl hown ?_; intro w0 hrg0 hg0 hs0)
        | go_in)
      go_frame
      have HB0 := Lib.hid (HBR.out.grown hg0 HBR.out.size (fun j hj => by cases hj))
      have HRX : Hid (wX.heap.size ≤ wo.heap.size) := Lib.hid HBR.out.size
      clear hg0 hs0 hBc
      go_loopw [10] (fun m w' => ∃ (left : Lit → Bool) (cnt : Nat), w'.ranges Try.prog 3 (plainElem (H := Unit) Try.prog 3) wX.heap.size wo.heap.size L.fn D left cnt ∧ m = .int .i64 (cntL C.nodes (fun x => inB L.fs x && !left (.int .i64 x))) ∧ Below wX.heap.size wX w')
        (fun _ w' => w'.rangeLeft wX.heap.size wo.heap.size)
      case atStart => exact ⟨_, _, hrg0, by rw [cnt_none (fun y => by rw [HD.out y]; simp)]; rfl, HB0.out⟩
      case round =>
        obtain ⟨left, cnt, hrg, rfl, hb⟩ := hrel
        have hc9 := cnt_le C.nodes (fun x => inB L.fs x && !left (.int .i64 x))
        obtain ⟨cv, hcv⟩ : ∃ cv, cntL C.nodes (fun x => inB L.fs x && !left (.int .i64 x)) = cv := ⟨_, rfl⟩
        have HCV := Lib.hid hcv
        rw [hcv] at hc9
        simp only [hcv]
        clear hcv
        go_wp2_with (first
          | (at_next; refine wpList_next_ranges_ii _ rfl _ rfl 3 3 .i64 .i64 law3 Try.underlying3 Try.underlying3 wX.heap.size wo.heap.size L.fn _ _ _ rfl hrg ?_ ?_)
          | go_in)
        · intro _ hl0
          have HM : Hid (cv = cntL C.nodes (inB L.fs)) := by
            show cv = _
            rw [← HCV.out]
            exact (cnt_congr (fun y => by simp [hl0]))
          have hBc := (hb.block _ (lt_of_block HBC.out)).trans HBC.out
          have hbc := bnext HB.out hb
          clear hl0 hrg
          go_wp2_with (first
            | (with_reducible refine wpList_load_cfg rfl _ rfl w.heap.size rfl C hBc ?_)
            | (go_at_call 63; with_reducible refine (maj_any C _ (HG.out.below hbc)).mono ?_; rintro e wY ⟨rfl, hY⟩; have hbc := bnext hbc hY))
          go_ret
          exact ⟨ret_bool (by rw [HM.out]), hbc⟩
        · intro x c w1 cnt1 hwx hwc hlx hat hrg1 hlt hg1 hs1 hen
          have hb1 := hb.grown hg1 hb.size (fun j hj => by cases hj; exact HRX.out)
          obtain ⟨m0, _⟩ := cfg_cells2 ((hb1.block _ (lt_of_block HBC.out)).trans HBC.out)
          have hin : inB L.fs x = true := by rw [← HD.out x]; exact has_true_of_atKey hat
          have HS : Hid (∀ y, y ≠ x → (fun y => inB L.fs y && !(left (.int .i64 y) && !(Lit.int .i64 y).sameKey (.int .i64 x))) y = (fun y => inB L.fs y && !left (.int .i64 y)) y) := by
            show ∀ y, _ → _ = _
            intro y hy
            have : (Lit.int .i64 y).sameKey (.int .i64 x) = false := by rw [sameKey_int]; simpa using hy
            simp [this]
          have HP0 : Hid ((fun y => inB L.fs y && !left (.int .i64 y)) x = false) := by show _ = _; simp [hlx]
          have HP1 : Hid ((fun y => inB L.fs y && !(left (.int .i64 y) && !(Lit.int .i64 y).sameKey (.int .i64 x))) x = true) := by
            show _ = _
            have : (Lit.int .i64 x).sameKey (.int .i64 x) = true := by rw [sameKey_int]; simp
            simp [this, hin]
          have HL1 := Lib.hid hlt
          clear hat hin hlx hlt
          by_cases hx0 : 0 ≤ x
          · by_cases hx1 : x < C.nodes
            · have HN := Lib.hid (cnt_in hn9 hx0 hx1 HP0.out HP1.out HS.out)
              go_wp2_with fail
              go_roundw
              case rel => exact ⟨_, cnt1, hrg1, by rw [HN.out, HCV.out], hb1⟩
              case measure => rw [hrg1.left_eq, hrg.left_eq]; exact HL1.out
            · have HN := Lib.hid (cnt_out (nodes := C.nodes) (fun q => hx1 q.2) HS.out)
              go_wp2_with fail
              go_roundw
              case rel => exact ⟨_, cnt1, hrg1, by rw [HN.out, HCV.out], hb1⟩
              case measure => rw [hrg1.left_eq, hrg.left_eq]; exact HL1.out
          · have HN := Lib.hid (cnt_out (nodes := C.nodes) (fun q => hx0 q.1) HS.out)
            go_wp2_with fail
            go_roundw
            case rel => exact ⟨_, cnt1, hrg1, by rw [HN.out, HCV.out], hb1⟩
            case measure => rw [hrg1.left_eq, hrg.left_eq]; exact HL1.out
set_option maxRecDepth 100000 in
set_option maxHeartbeats 1000000 in
theorem held_no (C : Cv) (L : Lv) (now : Int) (w : World) (h : Good w C) (hh : holdsB C L.asked now = false) :
    Calls Try.prog 27 #[.agg C.cells, .agg L.cells, .int .i64 now] w fun e w' => e = .returned (.bool false) ∧ Below w.heap.size w w' := by
  have HH := Lib.hid hh
  have HG := Lib.hid h
  clear h hh
  have hbc : Below w.heap.size w ((w.alloc (Obj.cells C.cells 24)).alloc (LB L)) := bnew (bnew (brefl w) _) _
  have hBc : ((w.alloc (Obj.cells C.cells 24)).alloc (LB L)).heap[w.heap.size]? = some (.cells C.cells 24 (0, 0)) := ka (heap_alloc_new w _) _
  have hLc : ((w.alloc (Obj.cells C.cells 24)).alloc (LB L)).heap[w.heap.size + 1]? = some (LB L) := heap_alloc2_new _ _ _
  obtain ⟨l0, l1, l2, l3⟩ := lv_cells hLc
  go_enter Try.func27, Try.ntmps27
  go_wp2_with (first
    | (with_reducible refine wpList_load_cfg rfl _ rfl w.heap.size rfl C hBc ?_)
    | (go_at_call 62; with_reducible refine (holds_any C L.asked now _ (HG.out.below hbc)).mono ?_; rintro e wX ⟨rfl, hX⟩; have hbc := bnext hbc hX; rw [HH.out]))
  go_ret
  exact ⟨rfl, hbc⟩
theorem held_any (C : Cv) (L : Lv) (now : Int) (w : World) (h : Good w C) (hl : GoodL w L) (hn : L.fn ≤ 100) :
    Calls Try.prog 27 #[.agg C.cells, .agg L.cells, .int .i64 now] w fun e w' => e = .returned (.bool (heldB C L now)) ∧ Below w.heap.size w w' := by
  by_cases hh : holdsB C L.asked now = true
  · have e : heldB C L now = decide (majI C ≤ cntL C.nodes (inB L.fs)) := by unfold heldB; rw [hh]; rfl
    rw [e]; exact held_yes C L now w h hl hn hh
  · have hh' : holdsB C L.asked now = false := by simpa using hh
    have e : heldB C L now = false := by unfold heldB; rw [hh']; rfl
    rw [e]; exact held_no C L now w h hh'
def cntK (nodes : Int) (k : Nat) (P : Int → Bool) : Nat := ((List.range k).filter fun n : Nat => decide ((n : Int) < nodes) && P n).length
theorem cntK_le (nodes : Int) (k : Nat) (P : Int → Bool) : cntK nodes k P ≤ k := by
  unfold cntK
  exact Nat.le_trans (List.length_filter_le _ _) (by simp)
theorem cntK_hit {nodes : Int} {k : Nat} {P : Int → Bool} (h : (k : Int) < nodes) (hP : P k = true) : cntK nodes (k + 1) P = cntK nodes k P + 1 := by
  unfold cntK; rw [List.range_succ, List.filter_append]; simp [h, hP]
theorem cntK_miss {nodes : Int} {k : Nat} {P : Int → Bool} (h : ¬ ((k : Int) < nodes ∧ P k = true)) : cntK nodes (k + 1) P = cntK nodes k P := by
  unfold cntK; rw [List.range_succ, List.filter_append]
  have : (decide ((k : Int) < nodes) && P k) = false := by
    cases hp : P k
    · simp
    · simp only [Bool.and_true, decide_eq_false_iff_not]; exact fun q => h ⟨q, hp⟩
  simp [this]
theorem cntK_end {nodes : Int} {k : Nat} {P : Int → Bool} (h : nodes ≤ k) : ∀ d, cntK nodes (k + d) P = cntK nodes k P
  | 0 => rfl
  | d + 1 => by rw [show k + (d + 1) = (k + d) + 1 by omega, cntK_miss (fun q => by omega), cntK_end h d]
theorem cntK_all {nodes : Int} {k : Nat} {P : Int → Bool} (hk : k ≤ 9) (h : nodes ≤ k ∨ k = 9) : cntK nodes k P = cntL nodes P := by
  have : cntL nodes P = cntK nodes 9 P := rfl
  rw [this]
  rcases h with h | rfl
  · rw [show 9 = k + (9 - k) by omega, cntK_end h]
  · rfl
set_option maxRecDepth 100000 in
set_option maxHeartbeats 4000000 in
theorem rheld_any (C : Cv) (L : Lv) (now : Int) (w : World) (h : Good w C) (hl : GoodL w L) :
    Calls Try.prog 28 #[.agg C.cells, .agg L.cells, .int .i64 now] w fun e w' => e = .returned (.bool (heldB C L now)) ∧ Below w.heap.size w w' := by
  have HG := Lib.hid h
  have HL := Lib.hid hl
  have hr0 := h.r0
  clear h hl
  have hbc : Hid (Below w.heap.size w ((w.alloc (Obj.cells C.cells 24)).alloc (LB L))) := bnew (bnew (brefl w) _) _
  have hBc : Hid (((w.alloc (Obj.cells C.cells 24)).alloc (LB L)).heap[w.heap.size]? = some (.cells C.cells 24 (0, 0))) := ka (heap_alloc_new w _) _
  have hLc : Hid (((w.alloc (Obj.cells C.cells 24)).alloc (LB L)).heap[w.heap.size + 1]? = some (LB L)) := heap_alloc2_new _ _ _
  go_enter Try.func28, Try.ntmps28
  go_wp2_with fail
  generalize (w.alloc (Obj.cells C.cells 24)).alloc (LB L) = X at *
  have hX0 : w.heap.size + 1 < X.heap.size := lt_of_block hLc.out
  go_loop [7, 8] (fun m i => ∃ k : Nat, k ≤ 9 ∧ i = .int .i64 k ∧ m = .int .i64 (cntK C.nodes k (inB L.fs))) (fun _ i => 9 - (intOf i).toNat)
  case atStart => exact ⟨0, by omega, rfl, rfl⟩
  case round =>
    obtain ⟨k, hk, rfl, rfl⟩ := hrel
    have hck := cntK_le C.nodes k (inB L.fs)
    obtain ⟨cv, hcv⟩ : ∃ cv, cntK C.nodes k (inB L.fs) = cv := ⟨_, rfl⟩
    have HCV := Lib.hid hcv
    rw [hcv] at hck
    simp only [hcv]
    clear hcv
    obtain ⟨m0, _⟩ := cfg_cells2 hBc.out
    obtain ⟨l0, l1, l2, l3⟩ := lv_cells hLc.out
    by_cases hlt : (k : Int) < C.nodes ∧ k < 9
    · obtain ⟨h1, h2⟩ := hlt
      obtain ⟨bi, hbi⟩ : ∃ b, inB L.fs k = b := ⟨_, rfl⟩
      have HBI := Lib.hid hbi
      clear hbi
      cases bi
      · go_wp2_with (go_at_call 61; with_reducible refine (in_any _ _ _ L.fs _ _ (HL.out.below hbc.out).fr).mono ?_; rintro e wX ⟨rfl, rfl⟩; rw [HBI.out])
        go_round
        case rel => exact ⟨k + 1, by omega, by go_num, by rw [cntK_miss (fun q => by rw [HBI.out] at q; cases q.2), HCV.out]⟩
        case measure => simp [intOf]; omega
      · go_wp2_with (go_at_call 61; with_reducible refine (in_any _ _ _ L.fs _ _ (HL.out.below hbc.out).fr).mono ?_; rintro e wX ⟨rfl, rfl⟩; rw [HBI.out])
        go_round
        case rel => exact ⟨k + 1, by omega, by go_num, by rw [cntK_hit h1 HBI.out, HCV.out]; go_num⟩
        case measure => simp [intOf]; omega
    · have HCA : Hid (cntL C.nodes (inB L.fs) = cv) := by
        show _ = _
        rw [← HCV.out, cntK_all hk (by omega)]
      have hBc := hBc.out
      have hbc := hbc.out
      by_cases hh : holdsB C L.asked now = true
      · have HE : Hid (heldB C L now = decide (majI C ≤ cv)) := by
          show _ = _
          unfold heldB; rw [hh, HCA.out]; rfl
        have HH := Lib.hid hh
        clear hh
        by_cases h1 : (k : Int) < C.nodes
        · have h2 : ¬ k < 9 := fun q => hlt ⟨h1, q⟩
          clear hlt
          go_wp2_with (first
            | (with_reducible refine wpList_load_cfg rfl _ rfl w.heap.size rfl C hBc ?_)
            | (go_at_call 64; with_reducible refine (rholds_any C L.asked now _ (HG.out.below hbc)).mono ?_; rintro e wX ⟨rfl, hX⟩; have hbc := bnext hbc hX; have hBc := kb hBc hX; rw [HH.out])
            | (go_at_call 65; with_reducible refine (rmaj_any C _ (HG.out.below hbc)).mono ?_; rintro e wY ⟨rfl, hY⟩; have hbc := bnext hbc hY))
          go_ret
          exact ⟨ret_bool (by rw [HE.out]), hbc⟩
        · clear hlt
          go_wp2_with (first
            | (with_reducible refine wpList_load_cfg rfl _ rfl w.heap.size rfl C hBc ?_)
            | (go_at_call 64; with_reducible refine (rholds_any C L.asked now _ (HG.out.below hbc)).mono ?_; rintro e wX ⟨rfl, hX⟩; have hbc := bnext hbc hX; have hBc := kb hBc hX; rw [HH.out])
            | (go_at_call 65; with_reducible refine (rmaj_any C _ (HG.out.below hbc)).mono ?_; rintro e wY ⟨rfl, hY⟩; have hbc := bnext hbc hY))
          go_ret
          exact ⟨ret_bool (by rw [HE.out]), hbc⟩
      · have hh' : holdsB C L.asked now = false := by simpa using hh
        have HE : Hid (heldB C L now = false) := by
          show _ = _
          unfold heldB; rw [hh']; rfl
        have HH := Lib.hid hh'
        clear hh hh'
        by_cases h1 : (k : Int) < C.nodes
        · have h2 : ¬ k < 9 := fun q => hlt ⟨h1, q⟩
          clear hlt
          go_wp2_with (first
            | (with_reducible refine wpList_load_cfg rfl _ rfl w.heap.size rfl C hBc ?_)
            | (go_at_call 64; with_reducible refine (rholds_any C L.asked now _ (HG.out.below hbc)).mono ?_; rintro e wX ⟨rfl, hX⟩; have hbc := bnext hbc hX; have hBc := kb hBc hX; rw [HH.out])
            | (go_at_call 65; with_reducible refine (rmaj_any C _ (HG.out.below hbc)).mono ?_; rintro e wY ⟨rfl, hY⟩; have hbc := bnext hbc hY))
          go_ret
          exact ⟨ret_bool (by rw [HE.out]), hbc⟩
        · clear hlt
          go_wp2_with (first
            | (with_reducible refine wpList_load_cfg rfl _ rfl w.heap.size rfl C hBc ?_)
            | (go_at_call 64; with_reducible refine (rholds_any C L.asked now _ (HG.out.below hbc)).mono ?_; rintro e wX ⟨rfl, hX⟩; have hbc := bnext hbc hX; have hBc := kb hBc hX; rw [HH.out])
            | (go_at_call 65; with_reducible refine (rmaj_any C _ (HG.out.below hbc)).mono ?_; rintro e wY ⟨rfl, hY⟩; have hbc := bnext hbc hY))
          go_ret
          exact ⟨ret_bool (by rw [HE.out]), hbc⟩
end Go.Proofs.Ytmhggpmhekeemaa
