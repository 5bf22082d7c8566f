/- The walk of LeaseMore. -/
import Derived.Test.YtmhggpmhekeemaaLAwake
import Derived.Deep.RegionHeld3
namespace Go.Proofs.Ytmhggpmhekeemaa
open Go.RowKit
theorem xor_ne (n : Int) : bits BinOp.xor IntKind.i64 n 1 ≠ n := by
  intro h
  have e : bits BinOp.xor IntKind.i64 n 1 = IntKind.i64.wrap ((BitVec.ofInt 64 n ^^^ BitVec.ofInt 64 1).toNat) := rfl
  rw [e] at h
  have h2 : BitVec.ofInt 64 (IntKind.i64.wrap ((BitVec.ofInt 64 n ^^^ BitVec.ofInt 64 1).toNat)) = BitVec.ofInt 64 n := by rw [h]
  have h3 : BitVec.ofInt 64 (IntKind.i64.wrap ((BitVec.ofInt 64 n ^^^ BitVec.ofInt 64 1).toNat)) = BitVec.ofInt 64 n ^^^ BitVec.ofInt 64 1 := by
    generalize BitVec.ofInt 64 n ^^^ BitVec.ofInt 64 1 = r
    rw [IntKind.wrap_i64]
    apply BitVec.eq_of_toInt_eq
    rw [BitVec.toInt_ofInt, BitVec.toInt_eq_toNat_bmod]
    have hr := r.isLt
    unfold Int.bmod
    have e64 : ((2 ^ 64 : Nat) : Int) = 18446744073709551616 := by decide
    simp only [e64]
    omega
  rw [h3] at h2
  have h4 : BitVec.ofInt 64 1 = 0#64 := by
    have := congrArg (fun x => BitVec.ofInt 64 n ^^^ x) h2
    simp [← BitVec.xor_assoc] at this
  exact absurd h4 (by decide)
theorem other_no (C : Cv) (L : Lv) (node : Int) : grB C L node L.slot (bits BinOp.xor IntKind.i64 L.nonce 1) = false := by
  unfold grB
  have : decide (L.slot = L.slot ∧ bits BinOp.xor IntKind.i64 L.nonce 1 = L.nonce ∧ 0 ≤ node ∧ node < C.nodes) = false := decide_eq_false fun q => xor_ne _ q.2.1
  rw [this]; simp
theorem filter_le (l : List Nat) (f g : Nat → Bool) (h : ∀ n, f n = true → g n = true) : (l.filter f).length ≤ (l.filter g).length := by
  induction l with
  | nil => exact Nat.le_refl _
  | cons a r ih =>
    cases hf : f a
    · cases hg : g a
      · simp [hf, hg, ih]
      · simp [hf, hg]; omega
    · simp [hf, h a hf, ih]
theorem cnt_mono {nodes : Int} {P P' : Int → Bool} (h : ∀ x, P x = true → P' x = true) : cntL nodes P ≤ cntL nodes P' := by
  unfold cntL
  refine filter_le _ _ _ fun n hn => ?_
  simp only [Bool.and_eq_true] at hn ⊢
  exact ⟨hn.1, h _ hn.2⟩
theorem held_more {C : Cv} {L : Lv} {node now : Int} {a : Option Addr} {N c : Nat} {F : List Int} (hF : grF C L node L.slot L.nonce = F) (h : heldB C L now = true) : heldB C ⟨L.slot, L.nonce, L.asked, a, N, c, F⟩ now = true := by
  unfold heldB at h ⊢
  simp only [Bool.and_eq_true, decide_eq_true_eq] at h ⊢
  refine ⟨h.1, ?_⟩
  have : cntL C.nodes (inB L.fs) ≤ cntL C.nodes (inB F) := by
    refine cnt_mono fun x hx => ?_
    subst hF
    unfold grF
    split
    · unfold inB at hx ⊢; simp at hx ⊢; exact .inl hx
    · exact hx
  have h2 := h.2
  show majI C ≤ (cntL C.nodes (inB F) : Nat)
  omega
theorem held_none (C : Cv) (sl nc ak now : Int) (a : Option Addr) (c : Nat) : heldB C ⟨sl, nc, ak, a, 0, c, []⟩ now = false := by
  unfold heldB
  by_cases hc : chk C = true
  · have hm : 1 ≤ majI C := by unfold majI; rw [if_pos hc]; have := (chk_facts hc).1; omega
    have : cntL C.nodes (inB []) = 0 := cnt_none fun y => by simp [inB]
    have hd : decide (majI C ≤ (cntL C.nodes (inB []) : Nat)) = false := decide_eq_false (by rw [this]; omega)
    show (_ && decide (majI C ≤ (cntL C.nodes (inB []) : Nat))) = false
    rw [hd]; simp
  · have hc' : chk C = false := by simpa using hc
    unfold holdsB; rw [hc']; rfl
theorem grN_le (C : Cv) (L : Lv) (a b c : Int) : grN C L a b c ≤ L.fn + 1 := by unfold grN; split <;> omega
theorem wrapM {x : Int} (h0 : 0 ≤ x) (h1 : x ≤ 4611686018427387904) : IntKind.i64.wrap x = x := by
  have e : IntKind.i64.bits = 64 := rfl
  unfold IntKind.wrap
  rw [e]
  have e2 : (2 : Int) ^ 64 = 18446744073709551616 := by decide
  have e3 : (2 : Int) ^ (64 - 1) = 9223372036854775808 := by decide
  rw [e2, e3, Int.emod_eq_of_lt h0 (by omega)]
  show (if (IntKind.i64.signed && decide (x ≥ 9223372036854775808)) = true then x - 18446744073709551616 else x) = x
  rw [decide_eq_false (show ¬ x ≥ 9223372036854775808 by omega), Bool.and_false]
  rfl
theorem Reads.drew {k : IntKind} {w : World} {a : Option Addr} {n c : Nat} {zs : List Int} (h : Reads k w a n c zs) : Reads k w.drew a n c zs := ⟨h.length, h.le, h.small, h.wf, h.nil, h.cells⟩
set_option maxRecDepth 100000 in
set_option maxHeartbeats 16000000 in
theorem walk_LeaseMore (C : Cv) (L : Lv) (node now : Int) (w : World) (w0 : Good w C) (w1 : GoodL w L) (w2 : (Lit.int .i64 node).wf = true) (w3 : (Lit.int .i64 now).wf = true) :
    Calls Try.prog 8 #[.agg C.cells, .agg L.cells, .int .i64 node, .int .i64 now] w fun e w' => e = .returned (.bool true) ∧ Below w.heap.size w w' := by
  have HG := Lib.hid w0
  have HL := Lib.hid w1
  have hfn := w1.fr.small'
  have HRN : Hid (inI node) := i64_range w2
  have rnc := w1.r1
  unfold inI at rnc
  have HNW : Hid (inI now) := i64_range w3
  have HNX := Lib.hid (other_no C L node)
  clear w0 w1 w2 w3
  obtain ⟨N, hN⟩ : ∃ N, grN C L node L.slot L.nonce = N := ⟨_, rfl⟩
  obtain ⟨F, hF⟩ : ∃ F, grF C L node L.slot L.nonce = F := ⟨_, rfl⟩
  have HN := Lib.hid hN
  have HFF := Lib.hid hF
  have hNle : N ≤ L.fn + 1 := by rw [← hN]; exact grN_le C L _ _ _
  clear hN hF
  have hbc : Below w.heap.size w ((w.alloc (Obj.cells C.cells 24)).alloc (LB L)) := bnew (bnew (brefl w) _) _
  have hBc : ((w.alloc (Obj.cells C.cells 24)).alloc (LB L)).heap[w.heap.size]? = some (.cells C.cells 24 (0, 0)) := ka (heap_alloc_new w _) _
  have hLc : ((w.alloc (Obj.cells C.cells 24)).alloc (LB L)).heap[w.heap.size + 1]? = some (LB L) := heap_alloc2_new _ _ _
  obtain ⟨l0, l1, l2, l3⟩ := lv_cells hLc
  by_cases hf : fewB C = true
  · have HF := Lib.hid hf
    clear hf
    by_cases h50 : L.fn ≤ 50
    · have d50 : decide ((50 : Int) < L.fn) = false := decide_eq_false (by omega)
      go_enter Try.func8, Try.ntmps8
      go_wp2_with (first
        | (with_reducible refine wpList_load_cfg rfl _ rfl w.heap.size rfl C hBc ?_)
        | (with_reducible refine wpList_load_lv rfl _ rfl (w.heap.size + 1) rfl L hLc ?_)
        | (go_at_call 22; refine (lawake_true _).mono ?_; rintro e wX ⟨rfl, hX⟩; have hbc := bnext hbc hX; have hBc := kb hBc hX; have hLc := kb hLc hX; obtain ⟨l0, l1, l2, l3⟩ := lv_cells hLc)
        | (go_at_call 12; with_reducible refine (few_any C _ (HG.out.below hbc)).mono ?_; rintro e wX ⟨rfl, hX⟩; have hbc := bnext hbc hX; have hBc := kb hBc hX; have hLc := kb hLc hX; obtain ⟨l0, l1, l2, l3⟩ := lv_cells hLc; rw [HF.out])
        | (go_at_call 24; with_reducible refine (lgrant_b C L.slot L.nonce L.asked L.fa L.fn L.fc L.fs node L.slot L.nonce N F _ (HG.out.below hbc) (HL.out.below hbc).fr (by omega) HL.out.r0 HL.out.r1 HL.out.r2 HRN.out HN.out HFF.out).mono ?_; rintro e w3 ⟨a3, c3, rfl, hr3, hb3, _⟩; have hbc := bnew (bnext hbc hb3) (Obj.cells #[Value.int .i64 L.slot, Value.int .i64 L.nonce, Value.int .i64 L.asked, Value.slice a3 N c3] 48); have hBc := ka (kb hBc hb3) (Obj.cells #[Value.int .i64 L.slot, Value.int .i64 L.nonce, Value.int .i64 L.asked, Value.slice a3 N c3] 48); have hLc := ka (kb hLc hb3) (Obj.cells #[Value.int .i64 L.slot, Value.int .i64 L.nonce, Value.int .i64 L.asked, Value.slice a3 N c3] 48); have hM := heap_alloc_new w3 (Obj.cells #[Value.int .i64 L.slot, Value.int .i64 L.nonce, Value.int .i64 L.asked, Value.slice a3 N c3] 48); have hRM := hr3.below (bnew (brefl w3) (Obj.cells #[Value.int .i64 L.slot, Value.int .i64 L.nonce, Value.int .i64 L.asked, Value.slice a3 N c3] 48)); obtain ⟨l0, l1, l2, l3⟩ := lv_cells hLc; obtain ⟨m0, m1, m2, m3⟩ := lv_cells hM; clear hr3)
        | (go_at_call 24; with_reducible refine (lgrant_no C L node L.slot _ _ (HG.out.below hbc) (HL.out.below hbc) (by omega) HRN.out HNX.out).mono ?_; rintro e w7 ⟨a7, c7, rfl, hr7, hb7, _⟩; have hbc := bnew (bnext hbc hb7) (Obj.cells #[Value.int .i64 L.slot, Value.int .i64 L.nonce, Value.int .i64 L.asked, Value.slice a7 L.fn c7] 48); have hBc := ka (kb hBc hb7) (Obj.cells #[Value.int .i64 L.slot, Value.int .i64 L.nonce, Value.int .i64 L.asked, Value.slice a7 L.fn c7] 48); have hLc := ka (kb hLc hb7) (Obj.cells #[Value.int .i64 L.slot, Value.int .i64 L.nonce, Value.int .i64 L.asked, Value.slice a7 L.fn c7] 48); have hM := ka (kb hM hb7) (Obj.cells #[Value.int .i64 L.slot, Value.int .i64 L.nonce, Value.int .i64 L.asked, Value.slice a7 L.fn c7] 48); have hRM := (hRM.below hb7).below (bnew (brefl w7) (Obj.cells #[Value.int .i64 L.slot, Value.int .i64 L.nonce, Value.int .i64 L.asked, Value.slice a7 L.fn c7] 48)); have hO := heap_alloc_new w7 (Obj.cells #[Value.int .i64 L.slot, Value.int .i64 L.nonce, Value.int .i64 L.asked, Value.slice a7 L.fn c7] 48); have hRO := hr7.below (bnew (brefl w7) (Obj.cells #[Value.int .i64 L.slot, Value.int .i64 L.nonce, Value.int .i64 L.asked, Value.slice a7 L.fn c7] 48)); obtain ⟨l0, l1, l2, l3⟩ := lv_cells hLc; obtain ⟨m0, m1, m2, m3⟩ := lv_cells hM; obtain ⟨o0, o1, o2, o3⟩ := lv_cells hO; clear hr7)
        | (go_at_call 23; with_reducible refine (lsame_yes L.slot L.nonce L.asked a7 L.fa L.fn c7 L.fc L.fs _ hRO (HL.out.below hbc).fr).mono ?_; rintro e wS ⟨rfl, hS8⟩; have hbc := bnext hbc hS8; have hBc := kb hBc hS8; have hLc := kb hLc hS8; have hM := kb hM hS8; have hRM := hRM.below hS8))
      have HB := Lib.hid hbc
      have HBc := Lib.hid hBc
      have HLc := Lib.hid hLc
      have HM := Lib.hid hM
      have HRM := Lib.hid hRM
      have hL1 : ∀ W, Below wS.heap.size wS W → W.cell? ⟨w.heap.size, 0, none⟩ = some (.int .i64 C.nodes) ∧ W.cell? ⟨w.heap.size, 1, none⟩ = some (.int .i64 C.slots) ∧ W.cell? ⟨w.heap.size, 2, none⟩ = some (.int .i64 C.rho) ∧ W.cell? ⟨w.heap.size, 3, none⟩ = some (.int .i64 C.hold) ∧ W.cell? ⟨w.heap.size, 4, none⟩ = some (.int .i64 C.grant) ∧ W.cell? ⟨w.heap.size, 5, none⟩ = some (.int .i64 C.guard) ∧ W.cell? ⟨w.heap.size, 6, none⟩ = some (.int .i64 C.work) ∧ W.cell? ⟨w.heap.size, 7, none⟩ = some (.slice C.sa C.sn C.sc) ∧ W.cell? ⟨w.heap.size, 8, none⟩ = some (.slice C.na C.nn C.nc) ∧ W.cell? ⟨w.heap.size, 9, none⟩ = some (.int .i64 C.soak) ∧ W.cell? ⟨w.heap.size, 10, none⟩ = some (.int .i64 C.pass) := fun W q => cfg_cells2 ((q.block _ (lt_of_block HBc.out)).trans HBc.out)
      have hL2 : ∀ W, Below wS.heap.size wS W → W.cell? ⟨w.heap.size + 1, 0, none⟩ = some (.int .i64 L.slot) ∧ W.cell? ⟨w.heap.size + 1, 1, none⟩ = some (.int .i64 L.nonce) ∧ W.cell? ⟨w.heap.size + 1, 2, none⟩ = some (.int .i64 L.asked) ∧ W.cell? ⟨w.heap.size + 1, 3, none⟩ = some (.slice L.fa L.fn L.fc) := fun W q => lv_cells ((q.block _ (lt_of_block HLc.out)).trans HLc.out)
      have hL3 : ∀ W, Below wS.heap.size wS W → W.cell? ⟨w3.heap.size, 0, none⟩ = some (.int .i64 L.slot) ∧ W.cell? ⟨w3.heap.size, 1, none⟩ = some (.int .i64 L.nonce) ∧ W.cell? ⟨w3.heap.size, 2, none⟩ = some (.int .i64 L.asked) ∧ W.cell? ⟨w3.heap.size, 3, none⟩ = some (.slice a3 N c3) := fun W q => lv_cells ((q.block _ (lt_of_block HM.out)).trans HM.out)
      have FG : Hid (∀ W, Below wS.heap.size wS W → Good W C) := fun W q => (HG.out.below HB.out).below q
      have FL : Hid (∀ W, Below wS.heap.size wS W → GoodL W L) := fun W q => (HL.out.below HB.out).below q
      have FM : Hid (∀ W, Below wS.heap.size wS W → Reads .i64 W a3 N c3 F) := fun W q => HRM.out.below q
      have hS : Below wS.heap.size wS wS := Below.refl _ _
      have hN51 : (N : Int) ≤ 51 := by omega
      have HFIN : Hid (decide ((N : Int) ≤ IntKind.i64.wrap ((L.fn : Int) + 1)) = true) := by
        show _ = _
        rw [wrapM (x := (L.fn : Int) + 1) (by omega) (by omega)]
        exact decide_eq_true (by omega)
      clear hbc hBc hLc hM hRM
      by_cases hh : heldB C L now = true
      · have HH := Lib.hid hh
        have HMH := Lib.hid (held_more (a := a3) (N := N) (c := c3) HFF.out hh)
        clear hh
        first | (go_region_held3 (fun W : World => Below wS.heap.size wS W) (first | assumption | exact hS.drew | exact Below.drew (by assumption) | exact bnext (by assumption) hY) (first
            | (go_at_call 27; with_reducible refine (held_any C L now _ (FG.out _ (by assumption)) (FL.out _ (by assumption)) (by omega)).mono ?_; rintro e wY ⟨rfl, hY⟩; rw [HH.out])
            | (go_at_call 27; with_reducible refine (lheld_b C L.slot L.nonce L.asked a3 N c3 F now true _ (FG.out _ (by assumption)) (FM.out _ (by assumption)) (by omega) HL.out.r0 HL.out.r1 HL.out.r2 HMH.out).mono ?_; rintro e wY ⟨rfl, hY⟩)
            | (go_at_call 26; with_reducible refine (lask_any L.slot L.nonce now _).mono ?_; rintro e wY ⟨rfl, hY⟩)
            | (go_at_call 27; with_reducible refine (lheld_b C L.slot L.nonce now none 0 0 [] now false _ (FG.out _ (by assumption)) (reads_none _ _ _) (by omega) HL.out.r0 HL.out.r1 HNW.out (held_none C _ _ _ _ _ _)).mono ?_; rintro e wY ⟨rfl, hY⟩))) | fail
        all_goals
            go_wp2_with fail
            go_ret
            exact ⟨ret_bool HFIN.out, bnext HB.out (by assumption)⟩
      · have HH : Hid (heldB C L now = false) := by show _ = _; simpa using hh
        have HMH : Hid (heldB C ⟨L.slot, L.nonce, L.asked, a3, N, c3, F⟩ now = heldB C ⟨L.slot, L.nonce, L.asked, a3, N, c3, F⟩ now) := Lib.hid rfl
        clear hh
        refine wp_region_noPanic ?_
        refine wp_region_held_drew (S := fun W : World => Below wS.heap.size wS W) (by kernel_rfl) ?_ (fun hHeld => ?_)
        · exact hS.drew
        refine wpAnyH_take (i := 0) (oi := { dst := some 44, op := Op.move (Operand.tmp 9), type := 4, pos := "law.go:132", after := #[], guard := none }) (v := ?_) rfl (by kernel_rfl) (by kernel_rfl) (by kernel_rfl) (fun _ _ _ h => h) (Or.inl ⟨by rfl, ?_⟩) (by assumption) ?_
        rotate_left
        · intro w hSw
          (try dsimp only at hSw)
          go_simp
          all_goals (with_reducible rfl)
        try simp only [Act.put, List.setIfInBounds_toArray, List.set_cons_zero, List.set_cons_succ]
        refine wpAnyH_take (i := 1) (oi := { dst := some 45, op := Op.move (Operand.tmp 44), type := 4, pos := "law.go:132", after := #[{ on := 0, ground := Ground.data }], guard := none }) (v := ?_) rfl (by kernel_rfl) (by kernel_rfl) (by kernel_rfl) (fun _ _ _ h => h) (Or.inl ⟨by rfl, ?_⟩) (by assumption) ?_
        rotate_left
        · intro w hSw
          (try dsimp only at hSw)
          go_simp
          all_goals (with_reducible rfl)
        try simp only [Act.put, List.setIfInBounds_toArray, List.set_cons_zero, List.set_cons_succ]
        refine wpAnyH_take (i := 2) (oi := { dst := some 46, op := Op.move (Operand.tmp 12), type := 4, pos := "law.go:132", after := #[{ on := 1, ground := Ground.guard }], guard := some (1, true) }) (v := ?_) rfl (by kernel_rfl) (by kernel_rfl) (by kernel_rfl) (fun _ _ _ h => h) (Or.inl ⟨by rfl, ?_⟩) (by assumption) ?_
        rotate_left
        · intro w hSw
          (try dsimp only at hSw)
          go_simp
          all_goals (with_reducible rfl)
        try simp only [Act.put, List.setIfInBounds_toArray, List.set_cons_zero, List.set_cons_succ]
        refine wpAnyH_take (i := 3) (oi := { dst := some 47, op := Op.pick (Operand.tmp 45) (Operand.tmp 46) (Operand.const (Value.bool false)), type := 4, pos := "law.go:132", after := #[{ on := 1, ground := Ground.data }, { on := 2, ground := Ground.data }], guard := none }) (v := ?_) rfl (by kernel_rfl) (by kernel_rfl) (by kernel_rfl) (fun _ _ _ h => h) (Or.inl ⟨by rfl, ?_⟩) (by assumption) ?_
        rotate_left
        · intro w hSw
          (try dsimp only at hSw)
          go_simp
          all_goals (with_reducible rfl)
        try simp only [Act.put, List.setIfInBounds_toArray, List.set_cons_zero, List.set_cons_succ]
        refine wpAnyH_take (i := 4) (oi := { dst := some 48, op := Op.move (Operand.tmp 47), type := 4, pos := "law.go:132", after := #[{ on := 3, ground := Ground.data }, { on := 1, ground := Ground.chain }], guard := none }) (v := ?_) rfl (by kernel_rfl) (by kernel_rfl) (by kernel_rfl) (fun _ _ _ h => h) (Or.inl ⟨by rfl, ?_⟩) (by assumption) ?_
        rotate_left
        · intro w hSw
          (try dsimp only at hSw)
          go_simp
          all_goals (with_reducible rfl)
        try simp only [Act.put, List.setIfInBounds_toArray, List.set_cons_zero, List.set_cons_succ]
        refine wpAnyH_take (i := 5) (oi := { dst := some 49, op := Op.load 24 (Operand.tmp 4), type := 24, pos := "law.go:132", after := #[{ on := 4, ground := Ground.guard }], guard := some (4, true) }) (v := ?_) rfl (by kernel_rfl) (by kernel_rfl) (by kernel_rfl) (fun _ _ _ h => h) (Or.inl ⟨by rfl, ?_⟩) (by assumption) ?_
        rotate_left
        · intro w hSw
          (try dsimp only at hSw)
          go_simp
          all_goals (with_reducible rfl)
        try simp only [Act.put, List.setIfInBounds_toArray, List.set_cons_zero, List.set_cons_succ]
        refine wpAnyH_take (i := 6) (oi := { dst := some 50, op := Op.load 48 (Operand.tmp 5), type := 48, pos := "law.go:132", after := #[{ on := 4, ground := Ground.guard }], guard := some (4, true) }) (v := ?_) rfl (by kernel_rfl) (by kernel_rfl) (by kernel_rfl) (fun _ _ _ h => h) (Or.inl ⟨by rfl, ?_⟩) (by assumption) ?_
        rotate_left
        · intro w hSw
          (try dsimp only at hSw)
          go_simp
          all_goals (with_reducible rfl)
        try simp only [Act.put, List.setIfInBounds_toArray, List.set_cons_zero, List.set_cons_succ]
        refine wpAnyH_take (i := 7) (oi := { dst := some 51, op := Op.move (Operand.tmp 3), type := 2, pos := "law.go:132", after := #[{ on := 4, ground := Ground.guard }], guard := some (4, true) }) (v := ?_) rfl (by kernel_rfl) (by kernel_rfl) (by kernel_rfl) (fun _ _ _ h => h) (Or.inl ⟨by rfl, ?_⟩) (by assumption) ?_
        rotate_left
        · intro w hSw
          (try dsimp only at hSw)
          go_simp
          all_goals (with_reducible rfl)
        try simp only [Act.put, List.setIfInBounds_toArray, List.set_cons_zero, List.set_cons_succ]
        refine wpAnyH_ready (rs := [8]) (by kernel_rfl) (by simp) ?_
        refine AllReadyH.cons (o := { dst := some 52, op := Op.call { callee := Callee.value (Operand.func 27), args := #[Operand.tmp 49, Operand.tmp 50, Operand.tmp 51], argTypes := #[24, 48, 2] }, type := 4, pos := "law.go:132", after := #[{ on := 5, ground := Ground.data }, { on := 6, ground := Ground.data }, { on := 7, ground := Ground.data }, { on := 4, ground := Ground.chain }, { on := 4, ground := Ground.guard }], guard := some (4, true) }) rfl (fun K hK => ?_) ?_
        rotate_left
        · exact AllReadyH.nil
        go_simp
        (go_at_call 27; with_reducible refine (held_any C L now _ (FG.out _ (by assumption)) (FL.out _ (by assumption)) (by omega)).mono ?_; rintro e wY ⟨rfl, hY⟩; rw [HH.out])
        go_wp2_with fail
        refine hK.out _ _ ?_ (fun hHeld => ?_)
        · (first | assumption | exact hS.drew | exact Below.drew (by assumption) | exact bnext (by assumption) hY)
        clear hK K
        try simp only [Act.put, List.setIfInBounds_toArray, List.set_cons_zero, List.set_cons_succ]
        refine wpAnyH_take (i := 9) (oi := { dst := some 53, op := Op.unOp UnOp.not 4 (Operand.tmp 52), type := 4, pos := "law.go:132", after := #[{ on := 8, ground := Ground.data }, { on := 4, ground := Ground.guard }], guard := some (4, true) }) (v := ?_) rfl (by kernel_rfl) (by kernel_rfl) (by kernel_rfl) (fun _ _ _ h => h) (Or.inl ⟨by rfl, ?_⟩) (by assumption) ?_
        rotate_left
        · intro w hSw
          (try dsimp only at hSw)
          go_simp
          all_goals (with_reducible rfl)
        try simp only [Act.put, List.setIfInBounds_toArray, List.set_cons_zero, List.set_cons_succ]
        refine wpAnyH_take (i := 10) (oi := { dst := some 54, op := Op.move (Operand.tmp 53), type := 4, pos := "law.go:132", after := #[{ on := 9, ground := Ground.data }, { on := 8, ground := Ground.chain }, { on := 4, ground := Ground.guard }], guard := some (4, true) }) (v := ?_) rfl (by kernel_rfl) (by kernel_rfl) (by kernel_rfl) (fun _ _ _ h => h) (Or.inl ⟨by rfl, ?_⟩) (by assumption) ?_
        rotate_left
        · intro w hSw
          (try dsimp only at hSw)
          go_simp
          all_goals (with_reducible rfl)
        try simp only [Act.put, List.setIfInBounds_toArray, List.set_cons_zero, List.set_cons_succ]
        refine wpAnyH_take (i := 11) (oi := { dst := some 55, op := Op.load 24 (Operand.tmp 4), type := 24, pos := "law.go:132", after := #[{ on := 10, ground := Ground.guard }], guard := some (10, false) }) (v := undef) rfl (by kernel_rfl) (by kernel_rfl) (by kernel_rfl) (fun _ _ _ h => h) (Or.inr ⟨by rfl, rfl⟩) (by assumption) ?_
        try simp only [Act.put, List.setIfInBounds_toArray, List.set_cons_zero, List.set_cons_succ]
        refine wpAnyH_take (i := 12) (oi := { dst := some 56, op := Op.load 48 (Operand.tmp 10), type := 48, pos := "law.go:132", after := #[{ on := 10, ground := Ground.guard }], guard := some (10, false) }) (v := undef) rfl (by kernel_rfl) (by kernel_rfl) (by kernel_rfl) (fun _ _ _ h => h) (Or.inr ⟨by rfl, rfl⟩) (by assumption) ?_
        try simp only [Act.put, List.setIfInBounds_toArray, List.set_cons_zero, List.set_cons_succ]
        refine wpAnyH_take (i := 13) (oi := { dst := some 57, op := Op.move (Operand.tmp 3), type := 2, pos := "law.go:132", after := #[{ on := 10, ground := Ground.guard }], guard := some (10, false) }) (v := undef) rfl (by kernel_rfl) (by kernel_rfl) (by kernel_rfl) (fun _ _ _ h => h) (Or.inr ⟨by rfl, rfl⟩) (by assumption) ?_
        try simp only [Act.put, List.setIfInBounds_toArray, List.set_cons_zero, List.set_cons_succ]
        refine wpAnyH_take (i := 14) (oi := { dst := some 58, op := Op.call { callee := Callee.value (Operand.func 27), args := #[Operand.tmp 55, Operand.tmp 56, Operand.tmp 57], argTypes := #[24, 48, 2] }, type := 4, pos := "law.go:132", after := #[{ on := 11, ground := Ground.data }, { on := 12, ground := Ground.data }, { on := 13, ground := Ground.data }, { on := 10, ground := Ground.chain }, { on := 10, ground := Ground.guard }], guard := some (10, false) }) (v := undef) rfl (by kernel_rfl) (by kernel_rfl) (by kernel_rfl) (fun _ _ _ h => h) (Or.inr ⟨by rfl, rfl⟩) (by assumption) ?_
        try simp only [Act.put, List.setIfInBounds_toArray, List.set_cons_zero, List.set_cons_succ]
        refine wpAnyH_take (i := 15) (oi := { dst := some 59, op := Op.pick (Operand.tmp 54) (Operand.const (Value.bool true)) (Operand.tmp 58), type := 4, pos := "law.go:132", after := #[{ on := 10, ground := Ground.data }, { on := 14, ground := Ground.data }, { on := 4, ground := Ground.guard }], guard := some (4, true) }) (v := ?_) rfl (by kernel_rfl) (by kernel_rfl) (by kernel_rfl) (fun _ _ _ h => h) (Or.inl ⟨by rfl, ?_⟩) (by assumption) ?_
        rotate_left
        · intro w hSw
          (try dsimp only at hSw)
          go_simp
          all_goals (with_reducible rfl)
        try simp only [Act.put, List.setIfInBounds_toArray, List.set_cons_zero, List.set_cons_succ]
        refine wpAnyH_take (i := 16) (oi := { dst := some 60, op := Op.pick (Operand.tmp 48) (Operand.tmp 59) (Operand.const (Value.bool false)), type := 4, pos := "law.go:132", after := #[{ on := 4, ground := Ground.data }, { on := 15, ground := Ground.data }], guard := none }) (v := ?_) rfl (by kernel_rfl) (by kernel_rfl) (by kernel_rfl) (fun _ _ _ h => h) (Or.inl ⟨by rfl, ?_⟩) (by assumption) ?_
        rotate_left
        · intro w hSw
          (try dsimp only at hSw)
          go_simp
          all_goals (with_reducible rfl)
        try simp only [Act.put, List.setIfInBounds_toArray, List.set_cons_zero, List.set_cons_succ]
        refine wpAnyH_take (i := 17) (oi := { dst := some 61, op := Op.move (Operand.tmp 60), type := 4, pos := "law.go:132", after := #[{ on := 16, ground := Ground.data }, { on := 14, ground := Ground.chain }], guard := none }) (v := ?_) rfl (by kernel_rfl) (by kernel_rfl) (by kernel_rfl) (fun _ _ _ h => h) (Or.inl ⟨by rfl, ?_⟩) (by assumption) ?_
        rotate_left
        · intro w hSw
          (try dsimp only at hSw)
          go_simp
          all_goals (with_reducible rfl)
        try simp only [Act.put, List.setIfInBounds_toArray, List.set_cons_zero, List.set_cons_succ]
        refine wpAnyH_take (i := 18) (oi := { dst := some 62, op := Op.load 24 (Operand.tmp 4), type := 24, pos := "law.go:132", after := #[{ on := 17, ground := Ground.guard }], guard := some (17, true) }) (v := ?_) rfl (by kernel_rfl) (by kernel_rfl) (by kernel_rfl) (fun _ _ _ h => h) (Or.inl ⟨by rfl, ?_⟩) (by assumption) ?_
        rotate_left
        · intro w hSw
          (try dsimp only at hSw)
          go_simp
          all_goals (with_reducible rfl)
        try simp only [Act.put, List.setIfInBounds_toArray, List.set_cons_zero, List.set_cons_succ]
        refine wpAnyH_take (i := 19) (oi := { dst := some 63, op := Op.fieldAddr 48 (Operand.tmp 5) 0, type := 0, pos := "law.go:132", after := #[{ on := 17, ground := Ground.guard }], guard := some (17, true) }) (v := ?_) rfl (by kernel_rfl) (by kernel_rfl) (by kernel_rfl) (fun _ _ _ h => h) (Or.inl ⟨by rfl, ?_⟩) (by assumption) ?_
        rotate_left
        · intro w hSw
          (try dsimp only at hSw)
          go_simp
          all_goals (with_reducible rfl)
        try simp only [Act.put, List.setIfInBounds_toArray, List.set_cons_zero, List.set_cons_succ]
        refine wpAnyH_take (i := 20) (oi := { dst := some 64, op := Op.load 3 (Operand.tmp 63), type := 3, pos := "law.go:132", after := #[{ on := 19, ground := Ground.data }, { on := 17, ground := Ground.guard }], guard := some (17, true) }) (v := ?_) rfl (by kernel_rfl) (by kernel_rfl) (by kernel_rfl) (fun _ _ _ h => h) (Or.inl ⟨by rfl, ?_⟩) (by assumption) ?_
        rotate_left
        · intro w hSw
          (try dsimp only at hSw)
          go_simp
          all_goals (with_reducible rfl)
        try simp only [Act.put, List.setIfInBounds_toArray, List.set_cons_zero, List.set_cons_succ]
        refine wpAnyH_take (i := 21) (oi := { dst := some 65, op := Op.fieldAddr 48 (Operand.tmp 5) 1, type := 0, pos := "law.go:132", after := #[{ on := 17, ground := Ground.guard }], guard := some (17, true) }) (v := ?_) rfl (by kernel_rfl) (by kernel_rfl) (by kernel_rfl) (fun _ _ _ h => h) (Or.inl ⟨by rfl, ?_⟩) (by assumption) ?_
        rotate_left
        · intro w hSw
          (try dsimp only at hSw)
          go_simp
          all_goals (with_reducible rfl)
        try simp only [Act.put, List.setIfInBounds_toArray, List.set_cons_zero, List.set_cons_succ]
        refine wpAnyH_take (i := 22) (oi := { dst := some 66, op := Op.load 2 (Operand.tmp 65), type := 2, pos := "law.go:132", after := #[{ on := 21, ground := Ground.data }, { on := 17, ground := Ground.guard }], guard := some (17, true) }) (v := ?_) rfl (by kernel_rfl) (by kernel_rfl) (by kernel_rfl) (fun _ _ _ h => h) (Or.inl ⟨by rfl, ?_⟩) (by assumption) ?_
        rotate_left
        · intro w hSw
          (try dsimp only at hSw)
          go_simp
          all_goals (with_reducible rfl)
        try simp only [Act.put, List.setIfInBounds_toArray, List.set_cons_zero, List.set_cons_succ]
        refine wpAnyH_take (i := 23) (oi := { dst := some 67, op := Op.move (Operand.tmp 3), type := 2, pos := "law.go:132", after := #[{ on := 17, ground := Ground.guard }], guard := some (17, true) }) (v := ?_) rfl (by kernel_rfl) (by kernel_rfl) (by kernel_rfl) (fun _ _ _ h => h) (Or.inl ⟨by rfl, ?_⟩) (by assumption) ?_
        rotate_left
        · intro w hSw
          (try dsimp only at hSw)
          go_simp
          all_goals (with_reducible rfl)
        try simp only [Act.put, List.setIfInBounds_toArray, List.set_cons_zero, List.set_cons_succ]
        refine wpAnyH_take (i := 25) (oi := { dst := some 69, op := Op.move (Operand.tmp 3), type := 2, pos := "law.go:132", after := #[{ on := 17, ground := Ground.guard }], guard := some (17, true) }) (v := ?_) rfl (by kernel_rfl) (by kernel_rfl) (by kernel_rfl) (fun _ _ _ h => h) (Or.inl ⟨by rfl, ?_⟩) (by assumption) ?_
        rotate_left
        · intro w hSw
          (try dsimp only at hSw)
          go_simp
          all_goals (with_reducible rfl)
        try simp only [Act.put, List.setIfInBounds_toArray, List.set_cons_zero, List.set_cons_succ]
        refine wpAnyH_ready (rs := [24]) (by kernel_rfl) (by simp) ?_
        refine AllReadyH.cons (o := { dst := some 68, op := Op.call { callee := Callee.value (Operand.func 26), args := #[Operand.tmp 64, Operand.tmp 66, Operand.tmp 67], argTypes := #[3, 2, 2] }, type := 48, pos := "law.go:132", after := #[{ on := 20, ground := Ground.data }, { on := 22, ground := Ground.data }, { on := 23, ground := Ground.data }, { on := 17, ground := Ground.chain }, { on := 17, ground := Ground.guard }], guard := some (17, true) }) rfl (fun K hK => ?_) ?_
        rotate_left
        · exact AllReadyH.nil
        go_simp
        (go_at_call 26; with_reducible refine (lask_any L.slot L.nonce now _).mono ?_; rintro e wY ⟨rfl, hY⟩)
        go_wp2_with fail
        refine hK.out _ _ ?_ (fun hHeld => ?_)
        · (first | assumption | exact hS.drew | exact Below.drew (by assumption) | exact bnext (by assumption) hY)
        clear hK K
        try simp only [Act.put, List.setIfInBounds_toArray, List.set_cons_zero, List.set_cons_succ]
        refine wpAnyH_ready (rs := [26]) (by kernel_rfl) (by simp) ?_
        refine AllReadyH.cons (o := { dst := some 70, op := Op.call { callee := Callee.value (Operand.func 27), args := #[Operand.tmp 62, Operand.tmp 68, Operand.tmp 69], argTypes := #[24, 48, 2] }, type := 4, pos := "law.go:132", after := #[{ on := 18, ground := Ground.data }, { on := 24, ground := Ground.data }, { on := 25, ground := Ground.data }, { on := 24, ground := Ground.chain }, { on := 17, ground := Ground.guard }], guard := some (17, true) }) rfl (fun K hK => ?_) ?_
        rotate_left
        · exact AllReadyH.nil
        go_simp
        (go_at_call 27; with_reducible refine (lheld_b C L.slot L.nonce now none 0 0 [] now false _ (FG.out _ (by assumption)) (reads_none _ _ _) (by omega) HL.out.r0 HL.out.r1 HNW.out (held_none C _ _ _ _ _ _)).mono ?_; rintro e wY ⟨rfl, hY⟩)
        go_wp2_with fail
        refine hK.out _ _ ?_ (fun hHeld => ?_)
        · (first | assumption | exact hS.drew | exact Below.drew (by assumption) | exact bnext (by assumption) hY)
        clear hK K
        try simp only [Act.put, List.setIfInBounds_toArray, List.set_cons_zero, List.set_cons_succ]
        refine wpAnyH_take (i := 27) (oi := { dst := some 71, op := Op.unOp UnOp.not 4 (Operand.tmp 70), type := 4, pos := "law.go:132", after := #[{ on := 26, ground := Ground.data }, { on := 17, ground := Ground.guard }], guard := some (17, true) }) (v := ?_) rfl (by kernel_rfl) (by kernel_rfl) (by kernel_rfl) (fun _ _ _ h => h) (Or.inl ⟨by rfl, ?_⟩) (by assumption) ?_
        rotate_left
        · intro w hSw
          (try dsimp only at hSw)
          go_simp
          all_goals (with_reducible rfl)
        try simp only [Act.put, List.setIfInBounds_toArray, List.set_cons_zero, List.set_cons_succ]
        refine wpAnyH_take (i := 28) (oi := { dst := some 72, op := Op.pick (Operand.tmp 61) (Operand.tmp 71) (Operand.const (Value.bool false)), type := 4, pos := "law.go:132", after := #[{ on := 17, ground := Ground.data }, { on := 27, ground := Ground.data }], guard := none }) (v := ?_) rfl (by kernel_rfl) (by kernel_rfl) (by kernel_rfl) (fun _ _ _ h => h) (Or.inl ⟨by rfl, ?_⟩) (by assumption) ?_
        rotate_left
        · intro w hSw
          (try dsimp only at hSw)
          go_simp
          all_goals (with_reducible rfl)
        try simp only [Act.put, List.setIfInBounds_toArray, List.set_cons_zero, List.set_cons_succ]
        refine wpAnyH_take (i := 29) (oi := { dst := some 73, op := Op.move (Operand.tmp 72), type := 4, pos := "law.go:132", after := #[{ on := 28, ground := Ground.data }, { on := 26, ground := Ground.chain }], guard := none }) (v := ?_) rfl (by kernel_rfl) (by kernel_rfl) (by kernel_rfl) (fun _ _ _ h => h) (Or.inl ⟨by rfl, ?_⟩) (by assumption) ?_
        rotate_left
        · intro w hSw
          (try dsimp only at hSw)
          go_simp
          all_goals (with_reducible rfl)
        try simp only [Act.put, List.setIfInBounds_toArray, List.set_cons_zero, List.set_cons_succ]
        refine wpAnyH_take (i := 30) (oi := { dst := some 74, op := Op.fieldAddr 48 (Operand.tmp 10) 3, type := 0, pos := "law.go:132", after := #[{ on := 29, ground := Ground.guard }], guard := some (29, true) }) (v := ?_) rfl (by kernel_rfl) (by kernel_rfl) (by kernel_rfl) (fun _ _ _ h => h) (Or.inl ⟨by rfl, ?_⟩) (by assumption) ?_
        rotate_left
        · intro w hSw
          (try dsimp only at hSw)
          go_simp
          all_goals (with_reducible rfl)
        try simp only [Act.put, List.setIfInBounds_toArray, List.set_cons_zero, List.set_cons_succ]
        refine wpAnyH_take (i := 31) (oi := { dst := some 75, op := Op.load 22 (Operand.tmp 74), type := 22, pos := "law.go:132", after := #[{ on := 30, ground := Ground.data }, { on := 29, ground := Ground.guard }], guard := some (29, true) }) (v := ?_) rfl (by kernel_rfl) (by kernel_rfl) (by kernel_rfl) (fun _ _ _ h => h) (Or.inl ⟨by rfl, ?_⟩) (by assumption) ?_
        rotate_left
        · intro w hSw
          (try dsimp only at hSw)
          go_simp
          all_goals (with_reducible rfl)
        try simp only [Act.put, List.setIfInBounds_toArray, List.set_cons_zero, List.set_cons_succ]
        refine wpAnyH_take (i := 32) (oi := { dst := some 76, op := Op.call { callee := Callee.builtin Builtin.len, args := #[Operand.tmp 75], argTypes := #[22] }, type := 3, pos := "law.go:132", after := #[{ on := 31, ground := Ground.data }, { on := 29, ground := Ground.guard }], guard := some (29, true) }) (v := ?_) rfl (by kernel_rfl) (by kernel_rfl) (by kernel_rfl) (fun _ _ _ h => h) (Or.inl ⟨by rfl, ?_⟩) (by assumption) ?_
        rotate_left
        · intro w hSw
          (try dsimp only at hSw)
          go_simp
          all_goals (with_reducible rfl)
        try simp only [Act.put, List.setIfInBounds_toArray, List.set_cons_zero, List.set_cons_succ]
        refine wpAnyH_take (i := 33) (oi := { dst := some 77, op := Op.fieldAddr 48 (Operand.tmp 5) 3, type := 0, pos := "law.go:132", after := #[{ on := 29, ground := Ground.guard }], guard := some (29, true) }) (v := ?_) rfl (by kernel_rfl) (by kernel_rfl) (by kernel_rfl) (fun _ _ _ h => h) (Or.inl ⟨by rfl, ?_⟩) (by assumption) ?_
        rotate_left
        · intro w hSw
          (try dsimp only at hSw)
          go_simp
          all_goals (with_reducible rfl)
        try simp only [Act.put, List.setIfInBounds_toArray, List.set_cons_zero, List.set_cons_succ]
        refine wpAnyH_take (i := 34) (oi := { dst := some 78, op := Op.load 22 (Operand.tmp 77), type := 22, pos := "law.go:132", after := #[{ on := 33, ground := Ground.data }, { on := 29, ground := Ground.guard }], guard := some (29, true) }) (v := ?_) rfl (by kernel_rfl) (by kernel_rfl) (by kernel_rfl) (fun _ _ _ h => h) (Or.inl ⟨by rfl, ?_⟩) (by assumption) ?_
        rotate_left
        · intro w hSw
          (try dsimp only at hSw)
          go_simp
          all_goals (with_reducible rfl)
        try simp only [Act.put, List.setIfInBounds_toArray, List.set_cons_zero, List.set_cons_succ]
        refine wpAnyH_take (i := 35) (oi := { dst := some 79, op := Op.call { callee := Callee.builtin Builtin.len, args := #[Operand.tmp 78], argTypes := #[22] }, type := 3, pos := "law.go:132", after := #[{ on := 34, ground := Ground.data }, { on := 29, ground := Ground.guard }], guard := some (29, true) }) (v := ?_) rfl (by kernel_rfl) (by kernel_rfl) (by kernel_rfl) (fun _ _ _ h => h) (Or.inl ⟨by rfl, ?_⟩) (by assumption) ?_
        rotate_left
        · intro w hSw
          (try dsimp only at hSw)
          go_simp
          all_goals (with_reducible rfl)
        try simp only [Act.put, List.setIfInBounds_toArray, List.set_cons_zero, List.set_cons_succ]
        refine wpAnyH_take (i := 36) (oi := { dst := some 80, op := Op.binOp BinOp.add 3 (Operand.tmp 79) (Operand.const (Value.int IntKind.i64 1)) 3, type := 3, pos := "law.go:132", after := #[{ on := 35, ground := Ground.data }, { on := 29, ground := Ground.guard }], guard := some (29, true) }) (v := ?_) rfl (by kernel_rfl) (by kernel_rfl) (by kernel_rfl) (fun _ _ _ h => h) (Or.inl ⟨by rfl, ?_⟩) (by assumption) ?_
        rotate_left
        · intro w hSw
          (try dsimp only at hSw)
          go_simp
          all_goals (with_reducible rfl)
        try simp only [Act.put, List.setIfInBounds_toArray, List.set_cons_zero, List.set_cons_succ]
        refine wpAnyH_take (i := 37) (oi := { dst := some 81, op := Op.binOp BinOp.leq 3 (Operand.tmp 76) (Operand.tmp 80) 3, type := 4, pos := "law.go:132", after := #[{ on := 32, ground := Ground.data }, { on := 36, ground := Ground.data }, { on := 29, ground := Ground.guard }], guard := some (29, true) }) (v := ?_) rfl (by kernel_rfl) (by kernel_rfl) (by kernel_rfl) (fun _ _ _ h => h) (Or.inl ⟨by rfl, ?_⟩) (by assumption) ?_
        rotate_left
        · intro w hSw
          (try dsimp only at hSw)
          go_simp
          all_goals (with_reducible rfl)
        try simp only [Act.put, List.setIfInBounds_toArray, List.set_cons_zero, List.set_cons_succ]
        refine wpAnyH_take (i := 38) (oi := { dst := some 82, op := Op.pick (Operand.tmp 73) (Operand.tmp 81) (Operand.const (Value.bool false)), type := 4, pos := "law.go:132", after := #[{ on := 29, ground := Ground.data }, { on := 37, ground := Ground.data }], guard := none }) (v := ?_) rfl (by kernel_rfl) (by kernel_rfl) (by kernel_rfl) (fun _ _ _ h => h) (Or.inl ⟨by rfl, ?_⟩) (by assumption) ?_
        rotate_left
        · intro w hSw
          (try dsimp only at hSw)
          go_simp
          all_goals (with_reducible rfl)
        try simp only [Act.put, List.setIfInBounds_toArray, List.set_cons_zero, List.set_cons_succ]
        refine wpAnyH_take (i := 39) (oi := { dst := some 8, op := Op.assign (Operand.tmp 82), type := 4, pos := "law.go:132", after := _, guard := none }) (v := ?_) rfl (by kernel_rfl) (by kernel_rfl) (by kernel_rfl) (fun _ _ _ h => h) (Or.inl ⟨by rfl, ?_⟩) (by assumption) ?_
        rotate_left
        · intro w hSw
          (try dsimp only at hSw)
          go_simp
          all_goals (with_reducible rfl)
        try simp only [Act.put, List.setIfInBounds_toArray, List.set_cons_zero, List.set_cons_succ]
        refine wpAnyH_done (by kernel_rfl) ?_ _
        refine NoPanic.normal ?_
        go_wp2_with fail
        go_ret
        exact ⟨ret_bool HFIN.out, bnext HB.out (by assumption)⟩
    · have d50 : decide ((50 : Int) < L.fn) = true := decide_eq_true (by omega)
      go_enter Try.func8, Try.ntmps8
      go_wp2_with (first
        | (with_reducible refine wpList_load_cfg rfl _ rfl w.heap.size rfl C hBc ?_)
        | (with_reducible refine wpList_load_lv rfl _ rfl (w.heap.size + 1) rfl L hLc ?_)
        | (go_at_call 22; refine (lawake_true _).mono ?_; rintro e wX ⟨rfl, hX⟩; have hbc := bnext hbc hX; have hBc := kb hBc hX; have hLc := kb hLc hX; obtain ⟨l0, l1, l2, l3⟩ := lv_cells hLc)
        | (go_at_call 12; with_reducible refine (few_any C _ (HG.out.below hbc)).mono ?_; rintro e wX ⟨rfl, hX⟩; have hbc := bnext hbc hX; have hBc := kb hBc hX; have hLc := kb hLc hX; obtain ⟨l0, l1, l2, l3⟩ := lv_cells hLc; rw [HF.out]))
      go_ret
      exact ⟨rfl, hbc⟩
  · have HF : Hid (fewB C = false) := by show _ = _; simpa using hf
    clear hf
    go_enter Try.func8, Try.ntmps8
    go_wp2_with (first
      | (with_reducible refine wpList_load_cfg rfl _ rfl w.heap.size rfl C hBc ?_)
      | (with_reducible refine wpList_load_lv rfl _ rfl (w.heap.size + 1) rfl L hLc ?_)
      | (go_at_call 22; refine (lawake_true _).mono ?_; rintro e wX ⟨rfl, hX⟩; have hbc := bnext hbc hX; have hBc := kb hBc hX; have hLc := kb hLc hX; obtain ⟨l0, l1, l2, l3⟩ := lv_cells hLc)
      | (go_at_call 12; with_reducible refine (few_any C _ (HG.out.below hbc)).mono ?_; rintro e wX ⟨rfl, hX⟩; have hbc := bnext hbc hX; have hBc := kb hBc hX; have hLc := kb hLc hX; obtain ⟨l0, l1, l2, l3⟩ := lv_cells hLc; rw [HF.out]))
    go_ret
    exact ⟨rfl, hbc⟩
end Go.Proofs.Ytmhggpmhekeemaa
