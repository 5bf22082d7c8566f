/- The head of the laws of probes. -/
import Derived.Test.YtmcccfocacagjaaScores
import Derived.Test.YtmcccfocacagjaaSAwake
import Derived.Deep.RegionHeld3
namespace Go.Proofs.Ytmcccfocacagjaa
open Go.RowKit
def P2 (g h : Nat) : Cv := { P0 g h with soak := 2 }
theorem goodP2 {w : World} {g h : Nat} (hG : Good w (P0 g h)) : Good w (P2 g h) := { hG with r7 := by simp [P2] }
theorem p2_chk (g h : Nat) : chk (P2 g h) = true := rfl
theorem pt1 : ptsF (meanF [4602678819172646912]) = 500 := by decide +kernel
theorem pt2 : ptsF (meanF [4604480259023595110]) = 700 := by decide +kernel
theorem pt3 : ptsF (meanF [0]) = 0 := by decide +kernel
theorem pt4 : ptsF (meanF [4600877379321698714, NANC]) = 200 := by decide +kernel
theorem pt5 : ptsF (meanF []) = 0 := by decide +kernel
theorem pass_of {g h : Nat} {l : List Nat} {p : Nat} (hp : ptsF (meanF l) = p) : passB (P2 g h) l = decide (500 ≤ p) := by
  unfold passB; rw [p2_chk, hp]; show (true && decide ((500 : Int) ≤ (p : Int))) = _
  rw [Bool.true_and, decide_eq_decide]; omega
theorem sp1 (g h : Nat) : stepS (P2 g h) 0 0 [4602678819172646912] = (1, 0, 0) := by
  unfold stepS; rw [if_pos ⟨p2_chk g h, by simp, rfl⟩, pass_of pt1]; rfl
theorem sp2 (g h : Nat) : stepS (P2 g h) 1 0 [4604480259023595110] = (2, 1, 1) := by
  unfold stepS; rw [if_pos ⟨p2_chk g h, by simp, rfl⟩, pass_of pt2]; rfl
theorem sp3 (g h : Nat) : stepS (P2 g h) 2 1 [0] = (2, 1, 0) := by
  unfold stepS; rw [if_neg (by simp)]
theorem sp4 (g h : Nat) : stepS (P2 g h) 1 0 [4600877379321698714, NANC] = (0, 2, 2) := by
  unfold stepS; rw [if_pos ⟨p2_chk g h, by simp, rfl⟩, pass_of pt4]; rfl
theorem sp5 (g h : Nat) : stepS (P2 g h) 1 0 [] = (1, 0, 0) := by
  unfold stepS; rw [if_neg (by simp)]
theorem bcell {W w1 : World} (hb : Below W.heap.size W w1) : (∀ b o, b < W.heap.size → w1.cell? ⟨b, o, none⟩ = W.cell? ⟨b, o, none⟩) ∧ (∀ b o, b < W.heap.size → w1.frozen? ⟨b, o, none⟩ = W.frozen? ⟨b, o, none⟩) :=
  ⟨fun b o h => hb.cell (p := ⟨b, o, none⟩) h, fun b o h => hb.frozen (p := ⟨b, o, none⟩) h⟩
theorem cell_alloc {w : World} {o : Obj} {p : Addr} {v : Value} (h : w.cell? p = some v) : (w.alloc o).cell? p = some v :=
  ((Below.refl w.heap.size w).alloc (Nat.le_refl _) o |>.cell (block_lt_of_cell h)).trans h
theorem readsF1 {w : World} {x : Nat} (hx : x < 18446744073709551616) {g : Nat} {e : TypeId} {fr : Nat × Nat} (h : w.heap[g]? = some (.cells #[.float .f64 x] e fr)) : ReadsF w (some ⟨g, 0, none⟩) 1 1 [x] := by
  refine ⟨rfl, Nat.le_refl _, by omega, by simpa using hx, (fun h => by cases h), .inr ⟨g, 0, rfl, ?_⟩⟩
  intro i hi
  rw [cell_of_row _ _ _ _ _ _ h]
  obtain rfl : i = 0 := by omega
  rfl
theorem readsF2 {w : World} {x y : Nat} (hx : x < 18446744073709551616) (hy : y < 18446744073709551616) {g : Nat} {e : TypeId} {fr : Nat × Nat} (h : w.heap[g]? = some (.cells #[.float .f64 x, .float .f64 y] e fr)) : ReadsF w (some ⟨g, 0, none⟩) 2 2 [x, y] := by
  refine ⟨rfl, Nat.le_refl _, by omega, ?_, (fun h => by cases h), .inr ⟨g, 0, rfl, ?_⟩⟩
  · intro n hn
    simp at hn
    rcases hn with rfl | rfl <;> assumption
  · intro i hi
    rw [cell_of_row _ _ _ _ _ _ h]
    have : i = 0 ∨ i = 1 := by omega
    rcases this with rfl | rfl <;> rfl
set_option maxRecDepth 100000 in
set_option maxHeartbeats 4000000 in
theorem pawake_true (w : World) : Calls Try.prog 14 #[] w fun e w' => e = .returned (.bool true) ∧ Below w.heap.size w w' := by
  go_enter Try.func14, Try.ntmps14
  go_wp2_with (go_at_call 38; refine (plan_any _).mono ?_; rintro e wP ⟨g, h, rfl, hG, hP⟩)
  have HG := Lib.hid (goodP2 hG)
  have HPB := Lib.hid hP
  have b1 := bnew (bnew (brefl wP) (.cells (P2 g h).cells 24)) (Obj.cells #[Value.float FloatKind.f64 4602678819172646912] 30)
  have HB0 : Hid (((wP.alloc (.cells (P2 g h).cells 24)).alloc (Obj.cells #[Value.float FloatKind.f64 4602678819172646912] 30)).heap[wP.heap.size]? = some (.cells (P2 g h).cells 24 (0, 0))) := heap_alloc2_old _ _ _
  clear hG hP
  refine (step_any (P2 g h) 0 0 (some ⟨wP.heap.size + 1, 0, none⟩) 1 1 [4602678819172646912] _ (HG.out.below b1) (readsF1 (by omega) (heap_alloc2_new _ _ _)) (by omega) (by omega)).mono ?_
  rintro e w1 ⟨rfl, hb1⟩
  rw [sp1]
  have W1 := Lib.hid (bnext b1 hb1)
  have HB1 := Lib.hid ((hb1.block _ (lt_of_block HB0.out)).trans HB0.out)
  clear b1 hb1
  go_wp2_with (with_reducible refine wpList_load_cfg rfl _ rfl wP.heap.size rfl (P2 g h) ((Below.heap_alloc _ _ _ (lt_of_block HB1.out)).trans HB1.out) ?_)
  refine (step_any (P2 g h) 1 0 (some ⟨w1.heap.size + 1, 0, none⟩) 1 1 [4604480259023595110] _ (HG.out.below (bnew (bnew W1.out _) _)) (readsF1 (by omega) (heap_alloc2_new _ _ _)) (by omega) (by omega)).mono ?_
  rintro e w2 ⟨rfl, hb2⟩
  rw [sp2]
  have HA2 : Hid (w2.heap[w1.heap.size]? = some (.cells #[.int .i64 1, .int .i64 0] 37 (0, 0))) := (hb2.block _ (by simp; omega)).trans (heap_alloc2_old _ _ _)
  have W2 := Lib.hid (bnext (bnew (bnew W1.out _) _) hb2)
  have HB2 : Hid (w2.heap[wP.heap.size]? = some (.cells (P2 g h).cells 24 (0, 0))) := (hb2.block _ (by have := lt_of_block HB1.out; simp; omega)).trans ((Below.heap_alloc _ _ _ (by have := lt_of_block HB1.out; simp; omega)).trans ((Below.heap_alloc _ _ _ (lt_of_block HB1.out)).trans HB1.out))
  clear hb2
  go_wp2_with (with_reducible refine wpList_load_cfg rfl _ rfl wP.heap.size rfl (P2 g h) ((Below.heap_alloc _ _ _ (lt_of_block HB2.out)).trans HB2.out) ?_)
  refine (step_any (P2 g h) 2 1 (some ⟨w2.heap.size + 1, 0, none⟩) 1 1 [0] _ (HG.out.below (bnew (bnew W2.out _) _)) (readsF1 (by omega) (heap_alloc2_new _ _ _)) (by omega) (by omega)).mono ?_
  rintro e w3 ⟨rfl, hb3⟩
  rw [sp3]
  have HA3 : Hid (w3.heap[w1.heap.size]? = some (.cells #[.int .i64 1, .int .i64 0] 37 (0, 0))) := (hb3.block _ (by have := lt_of_block HA2.out; simp; omega)).trans ((Below.heap_alloc _ _ _ (by have := lt_of_block HA2.out; simp; omega)).trans ((Below.heap_alloc _ _ _ (lt_of_block HA2.out)).trans HA2.out))
  have HD3 : Hid (w3.heap[w2.heap.size]? = some (.cells #[.int .i64 2, .int .i64 1] 37 (0, 0))) := (hb3.block _ (by simp; omega)).trans (heap_alloc2_old _ _ _)
  have W3 := Lib.hid (bnext (bnew (bnew W2.out _) _) hb3)
  have HB3 : Hid (w3.heap[wP.heap.size]? = some (.cells (P2 g h).cells 24 (0, 0))) := (hb3.block _ (by have := lt_of_block HB2.out; simp; omega)).trans ((Below.heap_alloc _ _ _ (by have := lt_of_block HB2.out; simp; omega)).trans ((Below.heap_alloc _ _ _ (lt_of_block HB2.out)).trans HB2.out))
  clear hb3
  go_wp2_with fail
  have bX := bnew W3.out (Obj.cells #[Value.int IntKind.i64 2, Value.int IntKind.i64 1] 37)
  have HBX : Hid ((w3.alloc (Obj.cells #[Value.int IntKind.i64 2, Value.int IntKind.i64 1] 37)).heap[wP.heap.size]? = some (.cells (P2 g h).cells 24 (0, 0))) := (Below.heap_alloc _ _ _ (lt_of_block HB3.out)).trans HB3.out
  have HAX : Hid ((w3.alloc (Obj.cells #[Value.int IntKind.i64 2, Value.int IntKind.i64 1] 37)).heap[w1.heap.size]? = some (.cells #[.int .i64 1, .int .i64 0] 37 (0, 0))) := (Below.heap_alloc _ _ _ (lt_of_block HA3.out)).trans HA3.out
  have HDX : Hid ((w3.alloc (Obj.cells #[Value.int IntKind.i64 2, Value.int IntKind.i64 1] 37)).heap[w2.heap.size]? = some (.cells #[.int .i64 2, .int .i64 1] 37 (0, 0))) := (Below.heap_alloc _ _ _ (lt_of_block HD3.out)).trans HD3.out
  have HEX : Hid ((w3.alloc (Obj.cells #[Value.int IntKind.i64 2, Value.int IntKind.i64 1] 37)).heap[w3.heap.size]? = some (.cells #[.int .i64 2, .int .i64 1] 37 (0, 0))) := heap_alloc_new _ _
  generalize w3.alloc (Obj.cells #[Value.int IntKind.i64 2, Value.int IntKind.i64 1] 37) = X at *
  have hL : ∀ W, Below X.heap.size X W → W.cell? ⟨wP.heap.size, 0, none⟩ = some (.int .i64 (P2 g h).nodes) ∧ W.cell? ⟨wP.heap.size, 1, none⟩ = some (.int .i64 (P2 g h).slots) ∧ W.cell? ⟨wP.heap.size, 2, none⟩ = some (.int .i64 (P2 g h).rho) ∧ W.cell? ⟨wP.heap.size, 3, none⟩ = some (.int .i64 (P2 g h).hold) ∧ W.cell? ⟨wP.heap.size, 4, none⟩ = some (.int .i64 (P2 g h).grant) ∧ W.cell? ⟨wP.heap.size, 5, none⟩ = some (.int .i64 (P2 g h).guard) ∧ W.cell? ⟨wP.heap.size, 6, none⟩ = some (.int .i64 (P2 g h).work) ∧ W.cell? ⟨wP.heap.size, 7, none⟩ = some (.slice (P2 g h).sa (P2 g h).sn (P2 g h).sc) ∧ W.cell? ⟨wP.heap.size, 8, none⟩ = some (.slice (P2 g h).na (P2 g h).nn (P2 g h).nc) ∧ W.cell? ⟨wP.heap.size, 9, none⟩ = some (.int .i64 (P2 g h).soak) ∧ W.cell? ⟨wP.heap.size, 10, none⟩ = some (.int .i64 (P2 g h).pass) := fun W h => cfg_cells2 ((h.block _ (lt_of_block HBX.out)).trans HBX.out)
  have hL2 : ∀ W, Below X.heap.size X W → W.cell? ⟨w1.heap.size, 0, none⟩ = some (.int .i64 1) ∧ W.cell? ⟨w1.heap.size, 1, none⟩ = some (.int .i64 0) := fun W h => soak_cells ((h.block _ (lt_of_block HAX.out)).trans HAX.out)
  have FG : Hid (∀ W, Below X.heap.size X W → Good W (P2 g h)) := fun W h => (HG.out.below bX).below h
  have hS : Below X.heap.size X X := Below.refl _ _
  have HBXX := Lib.hid bX
  have R1 : Hid (ReadsF ((X.alloc (Obj.cells #[Value.float FloatKind.f64 4600877379321698714, Value.float FloatKind.f64 NANC] 30)).drew) (some ⟨X.heap.size, 0, none⟩) 2 2 [4600877379321698714, NANC]) := readsF2 (by omega) (by decide) (heap_alloc_new X _)
  have R2 : Hid (ReadsF (((X.alloc (Obj.cells #[Value.int IntKind.i64 0, Value.int IntKind.i64 0] 37)).alloc (Obj.cells #[Value.float FloatKind.f64 4600877379321698714, Value.float FloatKind.f64 NANC] 30)).drew) (some ⟨X.heap.size + 1, 0, none⟩) 2 2 [4600877379321698714, NANC]) := readsF2 (by omega) (by decide) (heap_alloc2_new X _ _)
  have R3 : Hid (ReadsF (((X.alloc (Obj.cells #[Value.float FloatKind.f64 4600877379321698714, Value.float FloatKind.f64 NANC] 30)).alloc (Obj.cells #[Value.int IntKind.i64 0, Value.int IntKind.i64 0] 37)).drew) (some ⟨X.heap.size, 0, none⟩) 2 2 [4600877379321698714, NANC]) := readsF2 (by omega) (by decide) (heap_alloc2_old X _ _)
  clear bX
  go_region_held3 (fun W : World => Below X.heap.size X W) (first | assumption | exact hS.drew | exact bnext (by assumption) hY | exact bnew hXY _ | exact (hXY.setCell (Nat.le_refl _) _).setCell (Nat.le_refl _) _ | exact (hXY.setCell (Nat.le_succ _) _).setCell (Nat.le_succ _) _ | exact bnew (by assumption) _ | exact Below.drew (bnew hS _) | exact Below.drew (bnew (bnew hS _) _)) (first
    | (go_at_call 39; (refine (nanc_any _).mono ?_); rintro e wZ ⟨rfl, rfl⟩)
    | (go_at_call 20; (first
        | with_reducible refine (step_any (P2 g h) 1 0 _ 2 2 _ _ (FG.out _ (by assumption)) R1.out (by omega) (by omega)).mono ?_
        | with_reducible refine (step_any (P2 g h) 1 0 _ 2 2 _ _ (FG.out _ (by assumption)) R2.out (by omega) (by omega)).mono ?_
        | with_reducible refine (step_any (P2 g h) 1 0 _ 2 2 _ _ (FG.out _ (by assumption)) R3.out (by omega) (by omega)).mono ?_); rintro e wY ⟨rfl, hY⟩; rw [sp4]; have hXY : Below X.heap.size X wY := (bnext (by assumption) hY); obtain ⟨hyc, hyf⟩ := bcell hY; have hyz := hY.size; simp at hyz))
  all_goals
    first
    | (have H8 : Hid ((wY.alloc (Obj.cells #[Value.int IntKind.i64 0, Value.int IntKind.i64 2] 37)).heap[wY.heap.size]? = some (.cells #[.int .i64 0, .int .i64 2] 37 (0, 0))) := heap_alloc_new _ _; have hX8 : Below X.heap.size X (wY.alloc (Obj.cells #[Value.int IntKind.i64 0, Value.int IntKind.i64 2] 37)) := (by assumption); generalize wY.alloc (Obj.cells #[Value.int IntKind.i64 0, Value.int IntKind.i64 2] 37) = W8 at *)
    | (have H8 : Hid (((wY.setCell ⟨X.heap.size + 1, 0, none⟩ (.int .i64 0)).setCell ⟨X.heap.size + 1, 1, none⟩ (.int .i64 2)).heap[X.heap.size + 1]? = some (.cells #[.int .i64 0, .int .i64 2] 37 (0, 0))) := (heap_setCell_same _ _ _ _ _ _ (heap_setCell_same _ _ _ _ _ _ ((hY.block _ (by simp; try omega)).trans (heap_alloc2_new X _ _)))).trans rfl; have hX8 : Below X.heap.size X ((wY.setCell ⟨X.heap.size + 1, 0, none⟩ (.int .i64 0)).setCell ⟨X.heap.size + 1, 1, none⟩ (.int .i64 2)) := (by assumption); generalize (wY.setCell ⟨X.heap.size + 1, 0, none⟩ (.int .i64 0)).setCell ⟨X.heap.size + 1, 1, none⟩ (.int .i64 2) = W8 at *)
    | (have H8 : Hid (((wY.setCell ⟨X.heap.size, 0, none⟩ (.int .i64 0)).setCell ⟨X.heap.size, 1, none⟩ (.int .i64 2)).heap[X.heap.size]? = some (.cells #[.int .i64 0, .int .i64 2] 37 (0, 0))) := (heap_setCell_same _ _ _ _ _ _ (heap_setCell_same _ _ _ _ _ _ ((hY.block _ (by simp; try omega)).trans (heap_alloc2_old X _ _)))).trans rfl; have hX8 : Below X.heap.size X ((wY.setCell ⟨X.heap.size, 0, none⟩ (.int .i64 0)).setCell ⟨X.heap.size, 1, none⟩ (.int .i64 2)) := (by assumption); generalize (wY.setCell ⟨X.heap.size, 0, none⟩ (.int .i64 0)).setCell ⟨X.heap.size, 1, none⟩ (.int .i64 2) = W8 at *)
    | fail
  all_goals
    have W8B := Lib.hid (bnext HBXX.out hX8)
    have HB8 := Lib.hid ((hX8.block _ (lt_of_block HBX.out)).trans HBX.out)
    have HA8 := Lib.hid ((hX8.block _ (lt_of_block HAX.out)).trans HAX.out)
    have HD8 := Lib.hid ((hX8.block _ (lt_of_block HDX.out)).trans HDX.out)
    have HE8 := Lib.hid ((hX8.block _ (lt_of_block HEX.out)).trans HEX.out)
    clear hyc hyf hyz hL hL2 R1 R2 R3 hS
    obtain ⟨ca0, ca1⟩ := soak_cells HA8.out
    go_wp2_with (with_reducible refine wpList_load_cfg rfl _ rfl wP.heap.size rfl (P2 g h) HB8.out ?_)
    refine (step_any (P2 g h) 1 0 none 0 0 [] _ (FG.out _ hX8) (readsF_none _ _) (by omega) (by omega)).mono ?_
    rintro e w5 ⟨rfl, hb5⟩
    rw [sp5]
    have W5 := Lib.hid (bnext W8B.out hb5)
    have HX5 := Lib.hid (bnext hX8 hb5)
    have HB5 := Lib.hid ((hb5.block _ (lt_of_block HB8.out)).trans HB8.out)
    obtain ⟨da0, da1⟩ := soak_cells ((hb5.block _ (lt_of_block HA8.out)).trans HA8.out)
    obtain ⟨db0, db1⟩ := soak_cells ((hb5.block _ (lt_of_block HD8.out)).trans HD8.out)
    obtain ⟨dd0, dd1⟩ := soak_cells ((hb5.block _ (lt_of_block HE8.out)).trans HE8.out)
    obtain ⟨dh0, dh1⟩ := soak_cells ((hb5.block _ (lt_of_block H8.out)).trans H8.out)
    have xa0 := fun o => cell_alloc (o := o) da0
    have xb0 := fun o => cell_alloc (o := o) db0
    have xb1 := fun o => cell_alloc (o := o) db1
    have xd0 := fun o => cell_alloc (o := o) dd0
    have xd1 := fun o => cell_alloc (o := o) dd1
    have xh1 := fun o => cell_alloc (o := o) dh1
    clear hb5 hX8 ca0 ca1 da0 da1 db0 db1 dd0 dd1 dh0 dh1
    go_wp2_with (with_reducible refine wpList_load_cfg rfl _ rfl wP.heap.size rfl (P2 g h) ((Below.heap_alloc _ _ _ (lt_of_block HB5.out)).trans HB5.out) ?_)
    refine (passes_any (P2 g h) (some ⟨w5.heap.size + 1, 0, none⟩) 1 1 [4602678819172646912] _ (FG.out _ (bnew (bnew HX5.out _) _)) (readsF1 (by omega) (heap_alloc2_new _ _ _)) (by omega)).mono ?_
    rintro e w6 ⟨rfl, hb6⟩
    rw [pass_of pt1]
    have W6 := Lib.hid (bnext (bnew (bnew W5.out _) _) hb6)
    have HX6 := Lib.hid (bnext (bnew (bnew HX5.out _) _) hb6)
    have HB6 : Hid (w6.heap[wP.heap.size]? = some (.cells (P2 g h).cells 24 (0, 0))) := (hb6.block _ (by have := lt_of_block HB5.out; simp; omega)).trans ((Below.heap_alloc _ _ _ (by have := lt_of_block HB5.out; simp; omega)).trans ((Below.heap_alloc _ _ _ (lt_of_block HB5.out)).trans HB5.out))
    clear hb6 xa0 xb0 xb1 xd0 xd1 xh1
    go_wp2_with (with_reducible refine wpList_load_cfg rfl _ rfl wP.heap.size rfl (P2 g h) HB6.out ?_)
    refine (passes_any (P2 g h) none 0 0 [] _ (FG.out _ HX6.out) (readsF_none _ _) (by omega)).mono ?_
    rintro e w7 ⟨rfl, hb7⟩
    rw [pass_of pt5]
    go_wp2_with fail
    go_ret
    exact ⟨rfl, bnext HPB.out (bnext W6.out hb7)⟩
end Go.Proofs.Ytmcccfocacagjaa
