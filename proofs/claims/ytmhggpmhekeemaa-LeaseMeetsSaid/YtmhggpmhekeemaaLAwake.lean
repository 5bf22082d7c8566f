/- The head of the laws of leases. -/
import Derived.Test.YtmhggpmhekeemaaLLate
import Derived.Deep.Cut
namespace Go.Proofs.Ytmhggpmhekeemaa
open Go.RowKit
theorem lgrant_b (C : Cv) (sl nc ak : Int) (fa : Option Addr) (fn fc : Nat) (fs : List Int) (node slot nonce : Int) (N : Nat) (F : List Int) (w : World) (h : Good w C) (hr : Reads .i64 w fa fn fc fs) (hn : fn ≤ 99) (r0 : inI sl) (r1 : inI nc) (r2 : inI ak) (rn : inI node)
    (hN : grN C ⟨sl, nc, ak, fa, fn, fc, fs⟩ node slot nonce = N) (hF : grF C ⟨sl, nc, ak, fa, fn, fc, fs⟩ node slot nonce = F) :
    Calls Try.prog 24 #[.agg C.cells, .agg #[.int .i64 sl, .int .i64 nc, .int .i64 ak, .slice fa fn fc], .int .i64 node, .int .i64 slot, .int .i64 nonce] w fun e w' =>
      ∃ ad cap, e = .returned (.agg #[.int .i64 sl, .int .i64 nc, .int .i64 ak, .slice ad N cap]) ∧ Reads .i64 w' ad N cap F ∧ Below w.heap.size w w' ∧ (∀ p, ad = some p → w.heap.size ≤ p.block) := by
  subst hN hF
  exact lgrant_any C ⟨sl, nc, ak, fa, fn, fc, fs⟩ node slot nonce w h ⟨hr, r0, r1, r2⟩ hn rn
theorem lheld_b (C : Cv) (sl nc ak : Int) (fa : Option Addr) (fn fc : Nat) (fs : List Int) (now : Int) (b : Bool) (w : World) (h : Good w C) (hr : Reads .i64 w fa fn fc fs) (hn : fn ≤ 99) (r0 : inI sl) (r1 : inI nc) (r2 : inI ak) (hb : heldB C ⟨sl, nc, ak, fa, fn, fc, fs⟩ now = b) :
    Calls Try.prog 27 #[.agg C.cells, .agg #[.int .i64 sl, .int .i64 nc, .int .i64 ak, .slice fa fn fc], .int .i64 now] w fun e w' => e = .returned (.bool b) ∧ Below w.heap.size w w' := by
  subst hb
  exact held_any C ⟨sl, nc, ak, fa, fn, fc, fs⟩ now w h ⟨hr, r0, r1, r2⟩ (by show fn ≤ 100; omega)
theorem llate_b (C : Cv) (sl nc ak : Int) (fa : Option Addr) (fn fc : Nat) (fs : List Int) (now : Int) (b : Bool) (w : World) (h : Good w C) (hr : Reads .i64 w fa fn fc fs) (hn : fn ≤ 99) (r0 : inI sl) (r1 : inI nc) (r2 : inI ak) (hb : lateLB C ⟨sl, nc, ak, fa, fn, fc, fs⟩ now = b) :
    Calls Try.prog 29 #[.agg C.cells, .agg #[.int .i64 sl, .int .i64 nc, .int .i64 ak, .slice fa fn fc], .int .i64 now] w fun e w' => e = .returned (.bool b) ∧ Below w.heap.size w w' := by
  subst hb
  exact llate_any C ⟨sl, nc, ak, fa, fn, fc, fs⟩ now w h ⟨hr, r0, r1, r2⟩ (by show fn ≤ 100; omega)
theorem lfits_b (C : Cv) (sl nc ak : Int) (fa : Option Addr) (fn fc : Nat) (fs : List Int) (now : Int) (b : Bool) (w : World) (h : Good w C) (hr : Reads .i64 w fa fn fc fs) (hn : fn ≤ 99) (r0 : inI sl) (r1 : inI nc) (r2 : inI ak) (hb : fitsB C ⟨sl, nc, ak, fa, fn, fc, fs⟩ now = b) :
    Calls Try.prog 31 #[.agg C.cells, .agg #[.int .i64 sl, .int .i64 nc, .int .i64 ak, .slice fa fn fc], .int .i64 now] w fun e w' => e = .returned (.bool b) ∧ Below w.heap.size w w' := by
  subst hb
  exact lfits_any C ⟨sl, nc, ak, fa, fn, fc, fs⟩ now w h ⟨hr, r0, r1, r2⟩ (by show fn ≤ 100; omega)
theorem slot_b (C : Cv) (node n x : Int) (w : World) (h : Good w C) (hx : slotI C node n = x) :
    Calls Try.prog 33 #[.agg C.cells, .int .i64 node, .int .i64 n] w fun e w' => e = .returned (.int .i64 x) ∧ Below w.heap.size w w' := by
  subst hx; exact slot_any C node n w h
-- the heads' facts
theorem g1 (g h : Nat) : grB (P0 g h) ⟨0, 7, 5, none, 0, 0, []⟩ 1 0 7 = true := by unfold grB inB; rw [p0_chk]; simp [P0]
theorem g2 (g h : Nat) (a : Option Addr) (c : Nat) : grB (P0 g h) ⟨0, 7, 5, a, 1, c, [1]⟩ 1 0 7 = false := by unfold grB inB; rw [p0_chk]; simp [P0]
theorem g3 (g h : Nat) (a : Option Addr) (c : Nat) : grB (P0 g h) ⟨0, 7, 5, a, 1, c, [1]⟩ 2 0 7 = true := by unfold grB inB; rw [p0_chk]; simp [P0]
theorem g4 (g h : Nat) (a : Option Addr) (c : Nat) : grB (P0 g h) ⟨0, 7, 5, a, 1, c, [1]⟩ 2 0 8 = false := by unfold grB inB; rw [p0_chk]; simp [P0]
theorem grN_yes {C : Cv} {L : Lv} {a b c : Int} (h : grB C L a b c = true) : grN C L a b c = L.fn + 1 := if_pos h
theorem grF_yes {C : Cv} {L : Lv} {a b c : Int} (h : grB C L a b c = true) : grF C L a b c = L.fs ++ [a] := if_pos h
theorem grN_no {C : Cv} {L : Lv} {a b c : Int} (h : grB C L a b c = false) : grN C L a b c = L.fn := if_neg (by rw [h]; decide)
theorem grF_no {C : Cv} {L : Lv} {a b c : Int} (h : grB C L a b c = false) : grF C L a b c = L.fs := if_neg (by rw [h]; decide)
theorem n1 (g h : Nat) : grN (P0 g h) ⟨0, 7, 5, none, 0, 0, []⟩ 1 0 7 = 1 := grN_yes (g1 g h)
theorem m1 (g h : Nat) : grF (P0 g h) ⟨0, 7, 5, none, 0, 0, []⟩ 1 0 7 = [1] := grF_yes (g1 g h)
theorem n2 (g h : Nat) (a : Option Addr) (c : Nat) : grN (P0 g h) ⟨0, 7, 5, a, 1, c, [1]⟩ 1 0 7 = 1 := grN_no (g2 g h a c)
theorem m2 (g h : Nat) (a : Option Addr) (c : Nat) : grF (P0 g h) ⟨0, 7, 5, a, 1, c, [1]⟩ 1 0 7 = [1] := grF_no (g2 g h a c)
theorem n3 (g h : Nat) (a : Option Addr) (c : Nat) : grN (P0 g h) ⟨0, 7, 5, a, 1, c, [1]⟩ 2 0 7 = 2 := grN_yes (g3 g h a c)
theorem m3 (g h : Nat) (a : Option Addr) (c : Nat) : grF (P0 g h) ⟨0, 7, 5, a, 1, c, [1]⟩ 2 0 7 = [1, 2] := grF_yes (g3 g h a c)
theorem n4 (g h : Nat) (a : Option Addr) (c : Nat) : grN (P0 g h) ⟨0, 7, 5, a, 1, c, [1]⟩ 2 0 8 = 1 := grN_no (g4 g h a c)
theorem m4 (g h : Nat) (a : Option Addr) (c : Nat) : grF (P0 g h) ⟨0, 7, 5, a, 1, c, [1]⟩ 2 0 8 = [1] := grF_no (g4 g h a c)
theorem c1 : cntL 3 (inB [1]) = 1 := by decide
theorem c2 : cntL 3 (inB [1, 2]) = 2 := by decide
theorem maj0 (g h : Nat) : majI (P0 g h) = 2 := by unfold majI; rw [p0_chk]; simp [P0]
theorem hd0 (g h : Nat) (now : Int) : holdsB (P0 g h) 5 now = decide (5 ≤ now ∧ now < 10005) := by
  unfold holdsB timeB; rw [p0_chk]
  show (true && (decide ((0 : Int) ≤ 5 ∧ now ≤ 4611686018427387904 ∧ 5 ≤ now) && decide (now - 5 < 10000))) = _
  rw [Bool.eq_iff_iff]; simp only [Bool.true_and, Bool.and_eq_true, decide_eq_true_eq]; omega
theorem h1 (g h : Nat) (a : Option Addr) (c : Nat) : heldB (P0 g h) ⟨0, 7, 5, a, 1, c, [1]⟩ 6 = false := by
  unfold heldB; rw [maj0]; show (_ && decide ((2 : Int) ≤ (cntL 3 (inB [1]) : Nat))) = false; rw [c1]; simp
theorem h2 (g h : Nat) (a : Option Addr) (c : Nat) (now : Int) : heldB (P0 g h) ⟨0, 7, 5, a, 2, c, [1, 2]⟩ now = decide (5 ≤ now ∧ now < 10005) := by
  unfold heldB; rw [maj0]; show (holdsB (P0 g h) 5 now && decide ((2 : Int) ≤ (cntL 3 (inB [1, 2]) : Nat))) = _; rw [c2, hd0]; simp
theorem f1 (g h : Nat) (a : Option Addr) (c : Nat) (now : Int) : fitsB (P0 g h) ⟨0, 7, 5, a, 2, c, [1, 2]⟩ now = decide (5 ≤ now ∧ now < 7905) := by
  unfold fitsB; rw [h2]
  show (decide (5 ≤ now ∧ now < 10005) && decide ((1100 : Int) + 1000 < 10000 - (now - 5))) = _
  rw [Bool.eq_iff_iff]; simp only [Bool.and_eq_true, decide_eq_true_eq]; omega
theorem t1 (g h : Nat) (a : Option Addr) (c : Nat) (now : Int) : lateLB (P0 g h) ⟨0, 7, 5, a, 2, c, [1, 2]⟩ now = decide (¬ (5 ≤ now ∧ now < 8905)) := by
  unfold lateLB lateB; rw [h2, hd0, p0_chk]
  show (true && (!decide (5 ≤ now ∧ now < 10005) || (true && (!decide (5 ≤ now ∧ now < 10005) || decide ((10000 : Int) - (now - 5) ≤ 1100))))) = _
  rw [Bool.eq_iff_iff]; simp only [Bool.true_and, Bool.or_eq_true, Bool.not_eq_true', decide_eq_true_eq, decide_eq_false_iff_not]; omega
theorem s1 (g h : Nat) : slotI (P0 g h) 2 5 = 0 := by unfold slotI; rw [p0_chk]; simp [P0]
theorem hA1 (g h : Nat) (a : Option Addr) (c : Nat) : heldB (P0 g h) ⟨0, 7, 5, a, 2, c, [1, 2]⟩ 10004 = true := (h2 g h a c _).trans (by decide)
theorem hA2 (g h : Nat) (a : Option Addr) (c : Nat) : heldB (P0 g h) ⟨0, 7, 5, a, 2, c, [1, 2]⟩ 10005 = false := (h2 g h a c _).trans (by decide)
theorem hA3 (g h : Nat) (a : Option Addr) (c : Nat) : fitsB (P0 g h) ⟨0, 7, 5, a, 2, c, [1, 2]⟩ 7904 = true := (f1 g h a c _).trans (by decide)
theorem hA4 (g h : Nat) (a : Option Addr) (c : Nat) : fitsB (P0 g h) ⟨0, 7, 5, a, 2, c, [1, 2]⟩ 7905 = false := (f1 g h a c _).trans (by decide)
theorem hA5 (g h : Nat) (a : Option Addr) (c : Nat) : lateLB (P0 g h) ⟨0, 7, 5, a, 2, c, [1, 2]⟩ 8905 = true := (t1 g h a c _).trans (by decide)
theorem hA6 (g h : Nat) (a : Option Addr) (c : Nat) : lateLB (P0 g h) ⟨0, 7, 5, a, 2, c, [1, 2]⟩ 8904 = false := (t1 g h a c _).trans (by decide)
theorem new_drew (w : World) (o : Obj) : (w.alloc o).drew.heap[w.heap.size]? = some o := heap_alloc_new w o
theorem drew_new (w : World) (o : Obj) : (w.drew.alloc o).heap[w.heap.size]? = some o := heap_alloc_new w.drew o
theorem reads_box4 {k : IntKind} {W : World} {B n c : Nat} {a : Option Addr} {zs : List Int} (h : Reads k W a n c zs) (hp : ∀ p, a = some p → p.block ≠ B) (u0 u1 u2 u3 : Value) :
    Reads k ((((W.setCell ⟨B, 0, none⟩ u0).setCell ⟨B, 1, none⟩ u1).setCell ⟨B, 2, none⟩ u2).setCell ⟨B, 3, none⟩ u3) a n c zs :=
  (((h.store ⟨B, 0, none⟩ u0 hp).store ⟨B, 1, none⟩ u1 hp).store ⟨B, 2, none⟩ u2 hp).store ⟨B, 3, none⟩ u3 hp
theorem inI_s {x : Int} (h0 : 0 ≤ x) (h1 : x ≤ 1000000) : inI x := by unfold inI; omega
set_option maxRecDepth 100000 in
set_option maxHeartbeats 8000000 in
theorem lawake_true (w : World) : Calls Try.prog 22 #[] w fun e w' => e = .returned (.bool true) ∧ Below w.heap.size w w' := by
  have i0 : inI 0 := inI_s (by omega) (by omega)
  have i1 : inI 1 := inI_s (by omega) (by omega)
  have i2 : inI 2 := inI_s (by omega) (by omega)
  have i5 : inI 5 := inI_s (by omega) (by omega)
  have i7 : inI 7 := inI_s (by omega) (by omega)
  go_enter Try.func22, Try.ntmps22
  go_wp2_with (go_at_call 38; refine (plan_any _).mono ?_; rintro e wP ⟨g, h, rfl, hG, hP⟩)
  obtain ⟨C, hC⟩ : ∃ C, P0 g h = C := ⟨_, rfl⟩
  rw [hC] at hG
  simp only [hC]
  have HC := Lib.hid hC
  have HG := Lib.hid hG
  have HPB := Lib.hid hP
  have hBc := (heap_alloc_new wP (.cells C.cells 24))
  have hbc := bnew (brefl wP) (.cells C.cells 24)
  clear hG hP hC
  go_wp2_with (first
    | (with_reducible refine wpList_load_cfg rfl _ rfl wP.heap.size rfl C hBc ?_)
    | (go_at_call 26; with_reducible refine (lask_any 0 7 5 _).mono ?_; rintro e w1 ⟨rfl, hb1⟩; have hbc := bnew (bnext hbc hb1) (Obj.cells #[Value.int .i64 0, Value.int .i64 7, Value.int .i64 5, Value.slice none 0 0] 48); have hBc := ka (kb hBc hb1) (Obj.cells #[Value.int .i64 0, Value.int .i64 7, Value.int .i64 5, Value.slice none 0 0] 48); have hX1 := heap_alloc_new w1 (Obj.cells #[Value.int .i64 0, Value.int .i64 7, Value.int .i64 5, Value.slice none 0 0] 48); obtain ⟨x0, x1, x2, x3⟩ := lv_cells hX1; clear hb1)
    | (go_at_call 24; with_reducible refine (lgrant_b C 0 7 5 none 0 0 [] 1 0 7 1 [1] _ (HG.out.below hbc) (reads_none _ _ _) (by omega) i0 i7 i5 i1 (by rw [← HC.out]; exact n1 g h) (by rw [← HC.out]; exact m1 g h)).mono ?_; rintro e w3 ⟨a3, c3, rfl, hr3, hb3, _⟩; have hbc := bnew (bnext hbc hb3) (Obj.cells #[Value.int .i64 0, Value.int .i64 7, Value.int .i64 5, Value.slice a3 1 c3] 48); have hBc := ka (kb hBc hb3) (Obj.cells #[Value.int .i64 0, Value.int .i64 7, Value.int .i64 5, Value.slice a3 1 c3] 48); have hl13 := lt_of_block (kb hX1 hb3); have hX1 := ka (kb hX1 hb3) (Obj.cells #[Value.int .i64 0, Value.int .i64 7, Value.int .i64 5, Value.slice a3 1 c3] 48); have hX3 := heap_alloc_new w3 (Obj.cells #[Value.int .i64 0, Value.int .i64 7, Value.int .i64 5, Value.slice a3 1 c3] 48); have hR3 := hr3.below (bnew (brefl w3) (Obj.cells #[Value.int .i64 0, Value.int .i64 7, Value.int .i64 5, Value.slice a3 1 c3] 48)); clear hr3 hb3))
  obtain ⟨X4, hX4⟩ : ∃ X4, w3.alloc (Obj.cells #[Value.int .i64 0, Value.int .i64 7, Value.int .i64 5, Value.slice a3 1 c3] 48) = X4 := ⟨_, rfl⟩
  rw [hX4] at hbc hBc hX1 hX3 hR3
  simp only [hX4]
  clear hX4
  have HB := Lib.hid hbc
  have HBc := Lib.hid hBc
  have HX1 := Lib.hid hX1
  have HX3 := Lib.hid hX3
  have FG : Hid (∀ W, Below X4.heap.size X4 W → Good W C) := fun W q => (HG.out.below hbc).below q
  have FR : Hid (∀ W, Below X4.heap.size X4 W → Reads .i64 W a3 1 c3 [1]) := fun W q => hR3.below q
  have hL1 : ∀ W, Below X4.heap.size X4 W → W.cell? ⟨wP.heap.size, 0, none⟩ = some (.int .i64 C.nodes) ∧ W.cell? ⟨wP.heap.size, 1, none⟩ = some (.int .i64 C.slots) ∧ W.cell? ⟨wP.heap.size, 2, none⟩ = some (.int .i64 C.rho) ∧ W.cell? ⟨wP.heap.size, 3, none⟩ = some (.int .i64 C.hold) ∧ W.cell? ⟨wP.heap.size, 4, none⟩ = some (.int .i64 C.grant) ∧ W.cell? ⟨wP.heap.size, 5, none⟩ = some (.int .i64 C.guard) ∧ W.cell? ⟨wP.heap.size, 6, none⟩ = some (.int .i64 C.work) ∧ W.cell? ⟨wP.heap.size, 7, none⟩ = some (.slice C.sa C.sn C.sc) ∧ W.cell? ⟨wP.heap.size, 8, none⟩ = some (.slice C.na C.nn C.nc) ∧ W.cell? ⟨wP.heap.size, 9, none⟩ = some (.int .i64 C.soak) ∧ W.cell? ⟨wP.heap.size, 10, none⟩ = some (.int .i64 C.pass) := fun W q => cfg_cells2 ((q.block _ (lt_of_block hBc)).trans hBc)
  have hL2 : ∀ W, Below X4.heap.size X4 W → W.cell? ⟨w3.heap.size, 0, none⟩ = some (.int .i64 0) ∧ W.cell? ⟨w3.heap.size, 1, none⟩ = some (.int .i64 7) ∧ W.cell? ⟨w3.heap.size, 2, none⟩ = some (.int .i64 5) ∧ W.cell? ⟨w3.heap.size, 3, none⟩ = some (.slice a3 1 c3) := fun W q => lv_cells ((q.block _ (lt_of_block HX3.out)).trans HX3.out)
  have hS : Below X4.heap.size X4 X4 := Below.refl _ _
  clear hbc hBc hX1 hX3 hR3 x0 x1 x2 x3
  go_region_held3 (fun W : World => Below X4.heap.size X4 W) (first | assumption | exact hS.drew | exact Below.drew (by assumption) | exact bnext (by assumption) hY | exact bnew (by assumption) _ | exact st4_below (by assumption) (hSY.size) _ _ _ _ | exact st4_below (by assumption) (Nat.le_refl _) _ _ _ _) (first
    | (go_at_call 24; with_reducible refine (lgrant_b C 0 7 5 a3 1 c3 [1] 1 0 7 1 [1] _ (FG.out _ (by assumption)) (FR.out _ (by assumption)) (by omega) i0 i7 i5 i1 (by rw [← HC.out]; exact n2 g h a3 c3) (by rw [← HC.out]; exact m2 g h a3 c3)).mono ?_; rintro e wY ⟨a5, c5, rfl, hr5, hY, _⟩; have HR5 := Lib.hid hr5; have hSY : Below X4.heap.size X4 wY := bnext (by assumption) hY; (try (have hbx : wY.heap[X4.heap.size]? = some RB := kb (new_drew X4 RB) hY; obtain ⟨y0, y1, y2, y3⟩ := lv_cells hbx; have hlt := lt_of_block hbx; have zY : ∀ j, wY.frozen? ⟨X4.heap.size, j, none⟩ = false := (fun j => blk_free hbx))))
    | (go_at_call 24; with_reducible refine (lgrant_b C 0 7 5 a5 1 c5 [1] 2 0 7 2 [1, 2] _ (FG.out _ (by assumption)) (by first | exact HR5.out | exact HR5.out.alloc _ | exact HR5.out.below (by assumption)) (by omega) i0 i7 i5 i2 (by rw [← HC.out]; exact n3 g h a5 c5) (by rw [← HC.out]; exact m3 g h a5 c5)).mono ?_; rintro e wZ ⟨a6, c6, rfl, hr6, hY, hp6⟩; have HR6 := Lib.hid hr6; have HP6 := Lib.hid hp6; have hSZ : Below X4.heap.size X4 wZ := bnext (by assumption) hY; (try (have hbx : wZ.heap[X4.heap.size]? = some RB := kb hbx hY; obtain ⟨y0, y1, y2, y3⟩ := lv_cells hbx; have zY : ∀ j, wZ.frozen? ⟨X4.heap.size, j, none⟩ = false := (fun j => blk_free hbx))); (try (have hbx : wZ.heap[wY.heap.size]? = some RB := (by first | exact kb (new_drew wY RB) hY | exact kb (drew_new wY RB) hY | exact kb (heap_alloc_new wY RB) hY); obtain ⟨y0, y1, y2, y3⟩ := lv_cells hbx; have zY : ∀ j, wZ.frozen? ⟨wY.heap.size, j, none⟩ = false := (fun j => blk_free hbx)))))
  have hT : (wZ.alloc (Obj.cells #[Value.int .i64 0, Value.int .i64 7, Value.int .i64 5, Value.slice a6 2 c6] 48)).heap[wZ.heap.size]? = some (Obj.cells #[Value.int .i64 0, Value.int .i64 7, Value.int .i64 5, Value.slice a6 2 c6] 48) := heap_alloc_new wZ _
  have hRT : Reads .i64 (wZ.alloc (Obj.cells #[Value.int .i64 0, Value.int .i64 7, Value.int .i64 5, Value.slice a6 2 c6] 48)) a6 2 c6 [1, 2] := HR6.out.alloc _
  have hST : Below X4.heap.size X4 (wZ.alloc (Obj.cells #[Value.int .i64 0, Value.int .i64 7, Value.int .i64 5, Value.slice a6 2 c6] 48)) := bnew hSZ _
  clear hY
  generalize (wZ.alloc (Obj.cells #[Value.int .i64 0, Value.int .i64 7, Value.int .i64 5, Value.slice a6 2 c6] 48)) = X5 at *
  generalize (wZ.heap.size) = b5 at *
  rotate_left
  have hT : (((((wZ.setCell ⟨wY.heap.size, 0, none⟩ (.int .i64 0)).setCell ⟨wY.heap.size, 1, none⟩ (.int .i64 7)).setCell ⟨wY.heap.size, 2, none⟩ (.int .i64 5)).setCell ⟨wY.heap.size, 3, none⟩ (.slice a6 2 c6))).heap[wY.heap.size]? = some (Obj.cells #[Value.int .i64 0, Value.int .i64 7, Value.int .i64 5, Value.slice a6 2 c6] 48) := st4_same hbx _ _ _ _
  have hRT : Reads .i64 (((((wZ.setCell ⟨wY.heap.size, 0, none⟩ (.int .i64 0)).setCell ⟨wY.heap.size, 1, none⟩ (.int .i64 7)).setCell ⟨wY.heap.size, 2, none⟩ (.int .i64 5)).setCell ⟨wY.heap.size, 3, none⟩ (.slice a6 2 c6))) a6 2 c6 [1, 2] := reads_box4 HR6.out (fun p hp => by have := HP6.out p hp; simp at this; omega) _ _ _ _
  have hST : Below X4.heap.size X4 (((((wZ.setCell ⟨wY.heap.size, 0, none⟩ (.int .i64 0)).setCell ⟨wY.heap.size, 1, none⟩ (.int .i64 7)).setCell ⟨wY.heap.size, 2, none⟩ (.int .i64 5)).setCell ⟨wY.heap.size, 3, none⟩ (.slice a6 2 c6))) := st4_below hSZ hSY.size _ _ _ _
  clear hY
  generalize (((((wZ.setCell ⟨wY.heap.size, 0, none⟩ (.int .i64 0)).setCell ⟨wY.heap.size, 1, none⟩ (.int .i64 7)).setCell ⟨wY.heap.size, 2, none⟩ (.int .i64 5)).setCell ⟨wY.heap.size, 3, none⟩ (.slice a6 2 c6))) = X5 at *
  generalize (wY.heap.size) = b5 at *
  rotate_left
  have hT : (((((wZ.setCell ⟨X4.heap.size, 0, none⟩ (.int .i64 0)).setCell ⟨X4.heap.size, 1, none⟩ (.int .i64 7)).setCell ⟨X4.heap.size, 2, none⟩ (.int .i64 5)).setCell ⟨X4.heap.size, 3, none⟩ (.slice a6 2 c6))).heap[X4.heap.size]? = some (Obj.cells #[Value.int .i64 0, Value.int .i64 7, Value.int .i64 5, Value.slice a6 2 c6] 48) := st4_same hbx _ _ _ _
  have hRT : Reads .i64 (((((wZ.setCell ⟨X4.heap.size, 0, none⟩ (.int .i64 0)).setCell ⟨X4.heap.size, 1, none⟩ (.int .i64 7)).setCell ⟨X4.heap.size, 2, none⟩ (.int .i64 5)).setCell ⟨X4.heap.size, 3, none⟩ (.slice a6 2 c6))) a6 2 c6 [1, 2] := reads_box4 HR6.out (fun p hp => by have := HP6.out p hp; have := hlt; omega) _ _ _ _
  have hST : Below X4.heap.size X4 (((((wZ.setCell ⟨X4.heap.size, 0, none⟩ (.int .i64 0)).setCell ⟨X4.heap.size, 1, none⟩ (.int .i64 7)).setCell ⟨X4.heap.size, 2, none⟩ (.int .i64 5)).setCell ⟨X4.heap.size, 3, none⟩ (.slice a6 2 c6))) := st4_below hSZ (Nat.le_refl _) _ _ _ _
  clear hY
  generalize (((((wZ.setCell ⟨X4.heap.size, 0, none⟩ (.int .i64 0)).setCell ⟨X4.heap.size, 1, none⟩ (.int .i64 7)).setCell ⟨X4.heap.size, 2, none⟩ (.int .i64 5)).setCell ⟨X4.heap.size, 3, none⟩ (.slice a6 2 c6))) = X5 at *
  obtain ⟨b5, hb5⟩ : ∃ b, X4.heap.size = b := ⟨_, rfl⟩
  rw [hb5] at hT
  simp only [hb5]
  clear hb5
  rotate_left
  all_goals
    have hbc := bnext HB.out hST
    have hBc := (hST.block _ (lt_of_block HBc.out)).trans HBc.out
    have hX1 := (hST.block _ (lt_of_block HX1.out)).trans HX1.out
    have hX3 := (hST.block _ (lt_of_block HX3.out)).trans HX3.out
    have hR3 := FR.out _ hST
    obtain ⟨p0, p1, p2, p3⟩ := lv_cells hX1
    obtain ⟨q0, q1, q2, q3⟩ := lv_cells hX3
    obtain ⟨t0, t1, t2, t3⟩ := lv_cells hT
    clear hST hL1 hL2
    go_upto_region 6 with (first
      | (with_reducible refine wpList_load_cfg rfl _ rfl wP.heap.size rfl C hBc ?_)
      | (with_reducible refine wpList_load_cfg rfl _ rfl wP.heap.size rfl C hBc0 ?_)
      | (go_at_call 24; with_reducible refine (lgrant_b C 0 7 5 a3 1 c3 [1] 2 0 8 1 [1] _ (HG.out.below hbc) hR3 (by omega) i0 i7 i5 i2 (by rw [← HC.out]; exact n4 g h a3 c3) (by rw [← HC.out]; exact m4 g h a3 c3)).mono ?_; rintro e w7 ⟨a7, c7, rfl, hr7, hb7, _⟩; have hbc := bnext hbc hb7; have hBc := kb hBc hb7; have hX1 := kb hX1 hb7; have hX3 := kb hX3 hb7; have hT := kb hT hb7; have hR3 := hR3.below hb7; have hRT := hRT.below hb7; obtain ⟨p0, p1, p2, p3⟩ := lv_cells hX1; obtain ⟨q0, q1, q2, q3⟩ := lv_cells hX3; obtain ⟨t0, t1, t2, t3⟩ := lv_cells hT; have hBc0 := hBc; have hbc := bnew hbc (Obj.cells #[Value.int .i64 0, Value.int .i64 7, Value.int .i64 5, Value.slice a7 1 c7] 48); have hBc := ka hBc (Obj.cells #[Value.int .i64 0, Value.int .i64 7, Value.int .i64 5, Value.slice a7 1 c7] 48); have hX1 := ka hX1 (Obj.cells #[Value.int .i64 0, Value.int .i64 7, Value.int .i64 5, Value.slice a7 1 c7] 48); have hX3 := ka hX3 (Obj.cells #[Value.int .i64 0, Value.int .i64 7, Value.int .i64 5, Value.slice a7 1 c7] 48); have hT := ka hT (Obj.cells #[Value.int .i64 0, Value.int .i64 7, Value.int .i64 5, Value.slice a7 1 c7] 48); have hR3 := hR3.below (bnew (brefl w7) (Obj.cells #[Value.int .i64 0, Value.int .i64 7, Value.int .i64 5, Value.slice a7 1 c7] 48)); have hRT := hRT.below (bnew (brefl w7) (Obj.cells #[Value.int .i64 0, Value.int .i64 7, Value.int .i64 5, Value.slice a7 1 c7] 48)); have hO := heap_alloc_new w7 (Obj.cells #[Value.int .i64 0, Value.int .i64 7, Value.int .i64 5, Value.slice a7 1 c7] 48); have hRO := hr7.below (bnew (brefl w7) (Obj.cells #[Value.int .i64 0, Value.int .i64 7, Value.int .i64 5, Value.slice a7 1 c7] 48)); obtain ⟨p0, p1, p2, p3⟩ := lv_cells hX1; obtain ⟨q0, q1, q2, q3⟩ := lv_cells hX3; obtain ⟨t0, t1, t2, t3⟩ := lv_cells hT; obtain ⟨o0, o1, o2, o3⟩ := lv_cells hO; clear hb7))
    refine wp_region_lit ?_
    simp only [List.append]
    go_wp2_with (first
      | (with_reducible refine wpList_load_cfg rfl _ rfl wP.heap.size rfl C hBc ?_)
      | (with_reducible refine wpList_load_cfg rfl _ rfl wP.heap.size rfl C hBc0 ?_)
      | (go_at_call 24; with_reducible refine (lgrant_b C 0 7 5 a3 1 c3 [1] 2 0 8 1 [1] _ (HG.out.below hbc) hR3 (by omega) i0 i7 i5 i2 (by rw [← HC.out]; exact n4 g h a3 c3) (by rw [← HC.out]; exact m4 g h a3 c3)).mono ?_; rintro e w7 ⟨a7, c7, rfl, hr7, hb7, _⟩; have hbc := bnext hbc hb7; have hBc := kb hBc hb7; have hX1 := kb hX1 hb7; have hX3 := kb hX3 hb7; have hT := kb hT hb7; have hR3 := hR3.below hb7; have hRT := hRT.below hb7; obtain ⟨p0, p1, p2, p3⟩ := lv_cells hX1; obtain ⟨q0, q1, q2, q3⟩ := lv_cells hX3; obtain ⟨t0, t1, t2, t3⟩ := lv_cells hT; have hBc0 := hBc; have hbc := bnew hbc (Obj.cells #[Value.int .i64 0, Value.int .i64 7, Value.int .i64 5, Value.slice a7 1 c7] 48); have hBc := ka hBc (Obj.cells #[Value.int .i64 0, Value.int .i64 7, Value.int .i64 5, Value.slice a7 1 c7] 48); have hX1 := ka hX1 (Obj.cells #[Value.int .i64 0, Value.int .i64 7, Value.int .i64 5, Value.slice a7 1 c7] 48); have hX3 := ka hX3 (Obj.cells #[Value.int .i64 0, Value.int .i64 7, Value.int .i64 5, Value.slice a7 1 c7] 48); have hT := ka hT (Obj.cells #[Value.int .i64 0, Value.int .i64 7, Value.int .i64 5, Value.slice a7 1 c7] 48); have hR3 := hR3.below (bnew (brefl w7) (Obj.cells #[Value.int .i64 0, Value.int .i64 7, Value.int .i64 5, Value.slice a7 1 c7] 48)); have hRT := hRT.below (bnew (brefl w7) (Obj.cells #[Value.int .i64 0, Value.int .i64 7, Value.int .i64 5, Value.slice a7 1 c7] 48)); have hO := heap_alloc_new w7 (Obj.cells #[Value.int .i64 0, Value.int .i64 7, Value.int .i64 5, Value.slice a7 1 c7] 48); have hRO := hr7.below (bnew (brefl w7) (Obj.cells #[Value.int .i64 0, Value.int .i64 7, Value.int .i64 5, Value.slice a7 1 c7] 48)); obtain ⟨p0, p1, p2, p3⟩ := lv_cells hX1; obtain ⟨q0, q1, q2, q3⟩ := lv_cells hX3; obtain ⟨t0, t1, t2, t3⟩ := lv_cells hT; obtain ⟨o0, o1, o2, o3⟩ := lv_cells hO; clear hb7)
      | (go_at_call 27; with_reducible refine (lheld_b C 0 7 5 a3 1 c3 [1] 6 false _ (HG.out.below hbc) hR3 (by omega) i0 i7 i5 (by rw [← HC.out]; exact h1 g h a3 c3)).mono ?_; rintro e w8 ⟨rfl, hb8⟩; have hbc := bnext hbc hb8; have hBc := kb hBc hb8; have hX1 := kb hX1 hb8; have hX3 := kb hX3 hb8; have hT := kb hT hb8; have hR3 := hR3.below hb8; have hRT := hRT.below hb8; have hO := kb hO hb8; have hRO := hRO.below hb8; obtain ⟨p0, p1, p2, p3⟩ := lv_cells hX1; obtain ⟨q0, q1, q2, q3⟩ := lv_cells hX3; obtain ⟨t0, t1, t2, t3⟩ := lv_cells hT; obtain ⟨o0, o1, o2, o3⟩ := lv_cells hO; clear hb8)
      | (go_at_call 27; with_reducible refine (lheld_b C 0 7 5 a7 1 c7 [1] 6 false _ (HG.out.below hbc) hRO (by omega) i0 i7 i5 (by rw [← HC.out]; exact h1 g h a7 c7)).mono ?_; rintro e w8 ⟨rfl, hb8⟩; have hbc := bnext hbc hb8; have hBc := kb hBc hb8; have hX1 := kb hX1 hb8; have hX3 := kb hX3 hb8; have hT := kb hT hb8; have hR3 := hR3.below hb8; have hRT := hRT.below hb8; have hO := kb hO hb8; have hRO := hRO.below hb8; obtain ⟨p0, p1, p2, p3⟩ := lv_cells hX1; obtain ⟨q0, q1, q2, q3⟩ := lv_cells hX3; obtain ⟨t0, t1, t2, t3⟩ := lv_cells hT; obtain ⟨o0, o1, o2, o3⟩ := lv_cells hO; clear hb8)
      | (go_at_call 27; with_reducible refine (lheld_b C 0 7 5 a6 2 c6 [1, 2] 10004 true _ (HG.out.below hbc) hRT (by omega) i0 i7 i5 (by rw [← HC.out]; exact hA1 g h a6 c6)).mono ?_; rintro e w8 ⟨rfl, hb8⟩; have hbc := bnext hbc hb8; have hBc := kb hBc hb8; have hX1 := kb hX1 hb8; have hX3 := kb hX3 hb8; have hT := kb hT hb8; have hR3 := hR3.below hb8; have hRT := hRT.below hb8; have hO := kb hO hb8; have hRO := hRO.below hb8; obtain ⟨p0, p1, p2, p3⟩ := lv_cells hX1; obtain ⟨q0, q1, q2, q3⟩ := lv_cells hX3; obtain ⟨t0, t1, t2, t3⟩ := lv_cells hT; obtain ⟨o0, o1, o2, o3⟩ := lv_cells hO; clear hb8)
      | (go_at_call 27; with_reducible refine (lheld_b C 0 7 5 a6 2 c6 [1, 2] 10005 false _ (HG.out.below hbc) hRT (by omega) i0 i7 i5 (by rw [← HC.out]; exact hA2 g h a6 c6)).mono ?_; rintro e w8 ⟨rfl, hb8⟩; have hbc := bnext hbc hb8; have hBc := kb hBc hb8; have hX1 := kb hX1 hb8; have hX3 := kb hX3 hb8; have hT := kb hT hb8; have hR3 := hR3.below hb8; have hRT := hRT.below hb8; have hO := kb hO hb8; have hRO := hRO.below hb8; obtain ⟨p0, p1, p2, p3⟩ := lv_cells hX1; obtain ⟨q0, q1, q2, q3⟩ := lv_cells hX3; obtain ⟨t0, t1, t2, t3⟩ := lv_cells hT; obtain ⟨o0, o1, o2, o3⟩ := lv_cells hO; clear hb8)
      | (go_at_call 31; with_reducible refine (lfits_b C 0 7 5 a6 2 c6 [1, 2] 7904 true _ (HG.out.below hbc) hRT (by omega) i0 i7 i5 (by rw [← HC.out]; exact hA3 g h a6 c6)).mono ?_; rintro e w8 ⟨rfl, hb8⟩; have hbc := bnext hbc hb8; have hBc := kb hBc hb8; have hX1 := kb hX1 hb8; have hX3 := kb hX3 hb8; have hT := kb hT hb8; have hR3 := hR3.below hb8; have hRT := hRT.below hb8; have hO := kb hO hb8; have hRO := hRO.below hb8; obtain ⟨p0, p1, p2, p3⟩ := lv_cells hX1; obtain ⟨q0, q1, q2, q3⟩ := lv_cells hX3; obtain ⟨t0, t1, t2, t3⟩ := lv_cells hT; obtain ⟨o0, o1, o2, o3⟩ := lv_cells hO; clear hb8)
      | (go_at_call 31; with_reducible refine (lfits_b C 0 7 5 a6 2 c6 [1, 2] 7905 false _ (HG.out.below hbc) hRT (by omega) i0 i7 i5 (by rw [← HC.out]; exact hA4 g h a6 c6)).mono ?_; rintro e w8 ⟨rfl, hb8⟩; have hbc := bnext hbc hb8; have hBc := kb hBc hb8; have hX1 := kb hX1 hb8; have hX3 := kb hX3 hb8; have hT := kb hT hb8; have hR3 := hR3.below hb8; have hRT := hRT.below hb8; have hO := kb hO hb8; have hRO := hRO.below hb8; obtain ⟨p0, p1, p2, p3⟩ := lv_cells hX1; obtain ⟨q0, q1, q2, q3⟩ := lv_cells hX3; obtain ⟨t0, t1, t2, t3⟩ := lv_cells hT; obtain ⟨o0, o1, o2, o3⟩ := lv_cells hO; clear hb8)
      | (go_at_call 29; with_reducible refine (llate_b C 0 7 5 a6 2 c6 [1, 2] 8905 true _ (HG.out.below hbc) hRT (by omega) i0 i7 i5 (by rw [← HC.out]; exact hA5 g h a6 c6)).mono ?_; rintro e w8 ⟨rfl, hb8⟩; have hbc := bnext hbc hb8; have hBc := kb hBc hb8; have hX1 := kb hX1 hb8; have hX3 := kb hX3 hb8; have hT := kb hT hb8; have hR3 := hR3.below hb8; have hRT := hRT.below hb8; have hO := kb hO hb8; have hRO := hRO.below hb8; obtain ⟨p0, p1, p2, p3⟩ := lv_cells hX1; obtain ⟨q0, q1, q2, q3⟩ := lv_cells hX3; obtain ⟨t0, t1, t2, t3⟩ := lv_cells hT; obtain ⟨o0, o1, o2, o3⟩ := lv_cells hO; clear hb8)
      | (go_at_call 29; with_reducible refine (llate_b C 0 7 5 a6 2 c6 [1, 2] 8904 false _ (HG.out.below hbc) hRT (by omega) i0 i7 i5 (by rw [← HC.out]; exact hA6 g h a6 c6)).mono ?_; rintro e w8 ⟨rfl, hb8⟩; have hbc := bnext hbc hb8; have hBc := kb hBc hb8; have hX1 := kb hX1 hb8; have hX3 := kb hX3 hb8; have hT := kb hT hb8; have hR3 := hR3.below hb8; have hRT := hRT.below hb8; have hO := kb hO hb8; have hRO := hRO.below hb8; obtain ⟨p0, p1, p2, p3⟩ := lv_cells hX1; obtain ⟨q0, q1, q2, q3⟩ := lv_cells hX3; obtain ⟨t0, t1, t2, t3⟩ := lv_cells hT; obtain ⟨o0, o1, o2, o3⟩ := lv_cells hO; clear hb8)
      | (go_at_call 33; with_reducible refine (slot_b C 2 5 0 _ (HG.out.below hbc) (by rw [← HC.out]; exact s1 g h)).mono ?_; rintro e w8 ⟨rfl, hb8⟩; have hbc := bnext hbc hb8; have hBc := kb hBc hb8; have hX1 := kb hX1 hb8; have hX3 := kb hX3 hb8; have hT := kb hT hb8; have hR3 := hR3.below hb8; have hRT := hRT.below hb8; have hO := kb hO hb8; have hRO := hRO.below hb8; obtain ⟨p0, p1, p2, p3⟩ := lv_cells hX1; obtain ⟨q0, q1, q2, q3⟩ := lv_cells hX3; obtain ⟨t0, t1, t2, t3⟩ := lv_cells hT; obtain ⟨o0, o1, o2, o3⟩ := lv_cells hO; clear hb8))
    go_ret
    exact ⟨rfl, bnext HPB.out hbc⟩
end Go.Proofs.Ytmhggpmhekeemaa
