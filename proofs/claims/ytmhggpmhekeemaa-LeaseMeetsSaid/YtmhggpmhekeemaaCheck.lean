/- Check: 0 of a plan that may be, else 90. -/
import Derived.Test.YtmhggpmhekeemaaStages
namespace Go.Proofs.Ytmhggpmhekeemaa
open Go.RowKit
theorem cfg_info : (Try.prog.info? 24).map (·.size) = some 11 := by kernel_rfl
/-- A whole plan, loaded; guarded or not. -/
theorem wpList_load_cfg {w : World} {ops : Array Oper} {rest : List Oper} {o : Oper} {a : Act} {Q : Exit → Act → World → Prop} (hw : Region.wanted o (yielded ops a.tmps) = true) (x : Operand) (ho : o.op = .load 24 x)
    (g : Nat) (hx : a.eval x = .pointer (some ⟨g, 0, none⟩)) (C : Cv) (hg : w.heap[g]? = some (.cells C.cells 24 (0, 0)))
    (h : wpList Try.prog ops Q rest (a.put o.dst (.agg C.cells)) w) : wpList Try.prog ops Q (o :: rest) a w :=
  BigFrame.wpList_want hw fun _ hK => wp_load_row 24 x ho g hx 24 C.cells (0, 0) _ hg Try.underlying24 rfl (cfg_info.trans rfl) (hK _ _ h)

set_option maxRecDepth 100000 in
set_option maxHeartbeats 1000000 in
theorem q2_any (C : Cv) (b : Nat) (w : World) (hb : w.heap[b]? = some (.cells C.cells 24 (0, 0))) :
    Calls Try.prog 51 #[.pointer (some ⟨b, 0, none⟩)] w fun e w' => e = .returned (.bool (q2 C)) ∧ Below w.heap.size w w' := by
  have c0 : w.cell? ⟨b, 2, none⟩ = some (.int .i64 C.rho) := by rw [cell_of_row _ _ _ _ _ _ hb]; rfl
  have HB := Lib.hid hb
  clear hb
  by_cases hr : 0 ≤ C.rho ∧ C.rho ≤ 500
  · have hq : q2 C = tmB C := by unfold q2; rw [decide_eq_true hr]; rfl
    have HQ := Lib.hid hq
    obtain ⟨hr0, hr1⟩ := hr
    clear hq
    go_enter Try.func51, Try.ntmps51
    go_wp2_with (first
      | (with_reducible refine wpList_load_cfg rfl _ rfl b rfl C HB.out ?_)
      | (go_at_call 52; refine (times_any C _ (by omega) (by omega)).mono ?_; rintro e w1 ⟨rfl, hb1⟩))
    go_ret
    exact ⟨ret_bool (by rw [HQ.out]), hb1⟩
  · have hq : q2 C = false := by unfold q2; rw [decide_eq_false hr]; rfl
    have HQ := Lib.hid hq
    clear hq
    go_enter Try.func51, Try.ntmps51
    go_wp2_with fail
    all_goals
      first
      | (exfalso; omega)
      | (go_ret; exact ⟨ret_bool (by rw [HQ.out]), Below.refl _ _⟩)

set_option maxRecDepth 100000 in
theorem q3_any (C : Cv) (b : Nat) (w : World) (hb : w.heap[b]? = some (.cells C.cells 24 (0, 0))) (h : Good w C) :
    Calls Try.prog 53 #[.pointer (some ⟨b, 0, none⟩)] w fun e w' => e = .returned (.bool (stB C)) ∧ Below w.heap.size w w' := by
  have HB := Lib.hid hb
  have HG := Lib.hid h
  clear hb h
  go_enter Try.func53, Try.ntmps53
  go_wp2_with (first
    | (with_reducible refine wpList_load_cfg rfl _ rfl b rfl C HB.out ?_)
    | (go_at_call 54; refine (stages_any C _ HG.out).mono ?_; rintro e w1 ⟨rfl, hb1⟩))
  go_ret
  exact ⟨rfl, hb1⟩

set_option maxRecDepth 100000 in
theorem not1_any (C : Cv) (b : Nat) (w : World) (hb : w.heap[b]? = some (.cells C.cells 24 (0, 0))) :
    Calls Try.prog 57 #[.func (Fn.func 50) #[] #[.pointer (some ⟨b, 0, none⟩)]] w fun e w' => e = .returned (.bool (!q1 C)) ∧ Below w.heap.size w w' := by
  have H := Lib.hid (q1_any C b w hb)
  clear hb
  go_enter Try.func57, Try.ntmps57
  go_wp2_with (go_at_call 50; refine H.out.mono ?_; rintro e _ ⟨rfl, rfl⟩)
  go_ret
  exact ⟨rfl, Below.refl _ _⟩

set_option maxRecDepth 100000 in
theorem not2_any (C : Cv) (b : Nat) (w : World) (hb : w.heap[b]? = some (.cells C.cells 24 (0, 0))) :
    Calls Try.prog 57 #[.func (Fn.func 51) #[] #[.pointer (some ⟨b, 0, none⟩)]] w fun e w' => e = .returned (.bool (!q2 C)) ∧ Below w.heap.size w w' := by
  have H := Lib.hid (q2_any C b w hb)
  clear hb
  go_enter Try.func57, Try.ntmps57
  go_wp2_with (go_at_call 51; refine H.out.mono ?_; rintro e w1 ⟨rfl, hb1⟩)
  go_ret
  exact ⟨rfl, hb1⟩

set_option maxRecDepth 100000 in
theorem not3_any (C : Cv) (b : Nat) (w : World) (hb : w.heap[b]? = some (.cells C.cells 24 (0, 0))) (h : Good w C) :
    Calls Try.prog 57 #[.func (Fn.func 53) #[] #[.pointer (some ⟨b, 0, none⟩)]] w fun e w' => e = .returned (.bool (!stB C)) ∧ Below w.heap.size w w' := by
  have H := Lib.hid (q3_any C b w hb h)
  clear hb h
  go_enter Try.func57, Try.ntmps57
  go_wp2_with (go_at_call 53; refine H.out.mono ?_; rintro e w1 ⟨rfl, hb1⟩)
  go_ret
  exact ⟨rfl, hb1⟩

set_option maxRecDepth 100000 in
theorem not4_any (C : Cv) (b : Nat) (w : World) (hb : w.heap[b]? = some (.cells C.cells 24 (0, 0))) :
    Calls Try.prog 57 #[.func (Fn.func 55) #[] #[.pointer (some ⟨b, 0, none⟩)]] w fun e w' => e = .returned (.bool (!q4 C)) ∧ Below w.heap.size w w' := by
  have H := Lib.hid (q4_any C b w hb)
  clear hb
  go_enter Try.func57, Try.ntmps57
  go_wp2_with (go_at_call 55; refine H.out.mono ?_; rintro e _ ⟨rfl, rfl⟩)
  go_ret
  exact ⟨rfl, Below.refl _ _⟩

/-- The four things that a plan needs, in an array of functions. -/
def needs (b : Nat) : Array Value := #[.func (Fn.func 50) #[] #[.pointer (some ⟨b, 0, none⟩)], .func (Fn.func 51) #[] #[.pointer (some ⟨b, 0, none⟩)], .func (Fn.func 53) #[] #[.pointer (some ⟨b, 0, none⟩)], .func (Fn.func 55) #[] #[.pointer (some ⟨b, 0, none⟩)]]
theorem need_cell {w : World} {g b : Nat} (hg : w.heap[g]? = some (.cells (needs b) 77 (0, 0))) : w.cell? ⟨g, 0, none⟩ = some (.func (Fn.func 50) #[] #[.pointer (some ⟨b, 0, none⟩)]) ∧ w.cell? ⟨g, 1, none⟩ = some (.func (Fn.func 51) #[] #[.pointer (some ⟨b, 0, none⟩)]) ∧ w.cell? ⟨g, 2, none⟩ = some (.func (Fn.func 53) #[] #[.pointer (some ⟨b, 0, none⟩)]) ∧ w.cell? ⟨g, 3, none⟩ = some (.func (Fn.func 55) #[] #[.pointer (some ⟨b, 0, none⟩)]) := by
  refine ⟨?_, ?_, ?_, ?_⟩ <;> (rw [cell_of_row _ _ _ _ _ _ hg]; rfl)
/-- Which of them is the first that a plan lacks. -/
def lack (C : Cv) : Int := if q1 C = true then if q2 C = true then if stB C = true then if q4 C = true then -1 else 3 else 2 else 1 else 0

set_option maxRecDepth 100000 in
set_option maxHeartbeats 1000000 in
theorem index_any (C : Cv) (g b : Nat) (w : World) (hg : w.heap[g]? = some (.cells (needs b) 77 (0, 0))) (hb : w.heap[b]? = some (.cells C.cells 24 (0, 0))) (h : Good w C) :
    Calls Try.prog 73 #[.slice (some ⟨g, 0, none⟩) 4 4, .func (Fn.func 57) #[] #[]] w fun e w' => e = .returned (.int .i64 (lack C)) ∧ Below w.heap.size w w' := by
  have hgs := lt_of_block hg
  have hbs := lt_of_block hb
  have c0 := (need_cell hg).1
  have HG := Lib.hid hg
  have HB := Lib.hid hb
  have HH := Lib.hid h
  clear hg hb h
  go_enter Try.func73, Try.ntmps73
  go_wp2_with fail
  refine wp_loop_rounds 5 ?_
  rw [rounds_succ]
  go_wp2_with (go_at_call 57; refine (not1_any C b _ HB.out).mono ?_; rintro e w1 ⟨rfl, hb1⟩)
  · have h : (!q1 C) = true := by assumption
    go_ret
    exact ⟨ret_int (by unfold lack; simp at h; simp [h]), hb1⟩
  · have h : (!q1 C) = false := by assumption
    have T1 : Hid (q1 C = true) := by show q1 C = true; simpa using h
    have B1 : Below w.heap.size w w1 := hb1
    have c1 := (need_cell ((B1.block g hgs).trans HG.out)).2.1
    have HB1 := Lib.hid ((B1.block b hbs).trans HB.out)
    clear h hb1
    rw [rounds_succ]
    go_wp2_with (go_at_call 57; refine (not2_any C b _ HB1.out).mono ?_; rintro e w2 ⟨rfl, hb2⟩)
    · have h : (!q2 C) = true := by assumption
      go_ret
      exact ⟨ret_int (by unfold lack; simp at h; simp [T1.out, h]), bnext B1 hb2⟩
    · have h : (!q2 C) = false := by assumption
      have T2 : Hid (q2 C = true) := by show q2 C = true; simpa using h
      have B2 : Below w.heap.size w w2 := bnext B1 hb2
      have c2 := (need_cell ((B2.block g hgs).trans HG.out)).2.2.1
      have HB2 := Lib.hid ((B2.block b hbs).trans HB.out)
      clear h hb2
      rw [rounds_succ]
      go_wp2_with (go_at_call 57; refine (not3_any C b _ HB2.out (HH.out.below B2)).mono ?_; rintro e w3 ⟨rfl, hb3⟩)
      · have h : (!stB C) = true := by assumption
        go_ret
        exact ⟨ret_int (by unfold lack; simp at h; simp [T1.out, T2.out, h]), bnext B2 hb3⟩
      · have h : (!stB C) = false := by assumption
        have T3 : Hid (stB C = true) := by show stB C = true; simpa using h
        have B3 : Below w.heap.size w w3 := bnext B2 hb3
        have c3 := (need_cell ((B3.block g hgs).trans HG.out)).2.2.2
        have HB3 := Lib.hid ((B3.block b hbs).trans HB.out)
        clear h hb3
        rw [rounds_succ]
        go_wp2_with (go_at_call 57; refine (not4_any C b _ HB3.out).mono ?_; rintro e w4 ⟨rfl, hb4⟩)
        · have h : (!q4 C) = true := by assumption
          go_ret
          exact ⟨ret_int (by unfold lack; simp at h; simp [T1.out, T2.out, T3.out, h]), bnext B3 hb4⟩
        · have h : (!q4 C) = false := by assumption
          have T4 : Hid (q4 C = true) := by show q4 C = true; simpa using h
          have B4 : Below w.heap.size w w4 := bnext B3 hb4
          have c4 := (need_cell ((B4.block g hgs).trans HG.out)).1
          have HB4 := Lib.hid ((B4.block b hbs).trans HB.out)
          clear h hb4
          clear c4
          rw [rounds_succ]
          go_wp2_with fail
          go_ret
          exact ⟨ret_int (by unfold lack; simp [T1.out, T2.out, T3.out, T4.out]), B4⟩

set_option maxRecDepth 100000 in
set_option maxHeartbeats 1000000 in
theorem contains_any (C : Cv) (g b : Nat) (w : World) (hg : w.heap[g]? = some (.cells (needs b) 77 (0, 0))) (hb : w.heap[b]? = some (.cells C.cells 24 (0, 0))) (h : Good w C) :
    Calls Try.prog 56 #[.slice (some ⟨g, 0, none⟩) 4 4, .func (Fn.func 57) #[] #[]] w fun e w' => e = .returned (.bool (!chk C)) ∧ Below w.heap.size w w' := by
  have H := Lib.hid (index_any C g b w hg hb h)
  have HL : Hid (decide (lack C ≥ 0) = !chk C) := by
    show decide (lack C ≥ 0) = !chk C
    unfold lack chk
    cases q1 C <;> cases q2 C <;> cases stB C <;> cases q4 C <;> rfl
  clear hg hb h
  go_enter Try.func56, Try.ntmps56
  go_wp2_with (go_at_call 73; refine H.out.mono ?_; rintro e w1 ⟨rfl, hb1⟩)
  go_ret
  exact ⟨ret_bool HL.out, hb1⟩

theorem needs_info : (Try.prog.info? 77).map (·.size) = some 4 := by kernel_rfl
/-- Check: 0 of a plan that may be, else 90. -/
def chkI (C : Cv) : Int := if chk C = true then 0 else 90
set_option maxRecDepth 100000 in
set_option maxHeartbeats 1000000 in
theorem check_any (C : Cv) (w : World) (h : Good w C) :
    Calls Try.prog 20 #[.agg C.cells] w fun e w' => e = .returned (.int .i64 (chkI C)) ∧ Below w.heap.size w w' := by
  have HG := Lib.hid h
  clear h
  have hmf : ∀ (fn : Fn) (first cap : Array Value) (w : World), (Instr.makeFunc fn first cap).run Try.prog w = .ok (.func fn first cap) w := fun _ _ _ _ => rfl
  go_enter Try.func20, Try.ntmps20
  have hone : (needs w.heap.size).all (·.oneCell') = true := by simp [needs, Value.oneCell']
  by_cases hc : chk C = true
  · have HC : Hid ((!chk C) = false) := by show (!chk C) = false; rw [hc]; rfl
    have HI : Hid (chkI C = 0) := by show chkI C = 0; unfold chkI; rw [if_pos hc]
    clear hc
    go_wp2_with (first
      | (with_reducible refine wpList_store_row rfl 77 _ _ rfl (w.heap.size + 1) (needs w.heap.size) rfl rfl 77 _ (heap_alloc2_new _ _ _) (needs_info.trans rfl) rfl hone ?_)
      | (go_at_call 56; refine (contains_any C (w.heap.size + 1) w.heap.size _ (setRow_heap _ _ _ _ _ _ (heap_alloc2_new _ _ _)) ((setRow_other _ _ _ _ (by omega)).trans (heap_alloc2_old _ _ _)) (HG.out.below (below_setRow (bnew (bnew (brefl w) _) _) (by omega) _))).mono ?_; rintro e w1 ⟨rfl, hb1⟩; rw [HC.out]))
    go_ret
    exact ⟨ret_int (by rw [HI.out]), bnext (below_setRow (bnew (bnew (brefl w) _) _) (by omega) _) hb1⟩
  · have HC : Hid ((!chk C) = true) := by show (!chk C) = true; simpa using hc
    have HI : Hid (chkI C = 90) := by show chkI C = 90; unfold chkI; rw [if_neg hc]
    clear hc
    go_wp2_with (first
      | (with_reducible refine wpList_store_row rfl 77 _ _ rfl (w.heap.size + 1) (needs w.heap.size) rfl rfl 77 _ (heap_alloc2_new _ _ _) (needs_info.trans rfl) rfl hone ?_)
      | (go_at_call 56; refine (contains_any C (w.heap.size + 1) w.heap.size _ (setRow_heap _ _ _ _ _ _ (heap_alloc2_new _ _ _)) ((setRow_other _ _ _ _ (by omega)).trans (heap_alloc2_old _ _ _)) (HG.out.below (below_setRow (bnew (bnew (brefl w) _) _) (by omega) _))).mono ?_; rintro e w1 ⟨rfl, hb1⟩; rw [HC.out]))
    go_ret
    exact ⟨ret_int (by rw [HI.out]), bnext (below_setRow (bnew (bnew (brefl w) _) _) (by omega) _) hb1⟩
end Go.Proofs.Ytmhggpmhekeemaa
