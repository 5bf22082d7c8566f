/- Whether an acceptor may be, and there is a slot. -/
import Derived.Test.YtmhggpmhekeemaaOwn
import Derived.Test.YtmhggpmhekeemaaRef
namespace Go.Proofs.Ytmhggpmhekeemaa
open Go.RowKit
def mayB (C : Cv) (n : Nat) (slot : Int) : Bool := chk C && decide ((n : Int) = C.slots ∧ 0 ≤ slot ∧ slot < C.slots)
set_option maxRecDepth 100000 in
set_option maxHeartbeats 1000000 in
theorem amay_any (C : Cv) (boot : Int) (ad : Option Addr) (n cap : Nat) (slot : Int) (w : World) (h : Good w C) :
    Calls Try.prog 41 #[.agg C.cells, .agg #[.int .i64 boot, .slice ad n cap], .int .i64 slot] w fun e w' => e = .returned (.bool (mayB C n slot)) ∧ Below w.heap.size w w' := by
  have HG := Lib.hid h
  have r1 := h.r1
  clear h
  have hbc := bnew (bnew (brefl w) (Obj.cells C.cells 24)) (Obj.cells #[.int .i64 boot, .slice ad n cap] 30)
  have hBc : ((w.alloc (Obj.cells C.cells 24)).alloc (Obj.cells #[.int .i64 boot, .slice ad n cap] 30)).heap[w.heap.size]? = some (.cells C.cells 24 (0, 0)) := heap_alloc2_old _ _ _
  have hAc : ((w.alloc (Obj.cells C.cells 24)).alloc (Obj.cells #[.int .i64 boot, .slice ad n cap] 30)).heap[w.heap.size + 1]? = some (.cells #[.int .i64 boot, .slice ad n cap] 30 (0, 0)) := heap_alloc2_new _ _ _
  by_cases hk : chk C = true
  · have HM : Hid (mayB C n slot = decide ((n : Int) = C.slots ∧ 0 ≤ slot ∧ slot < C.slots)) := by show mayB C n slot = _; unfold mayB; rw [hk]; rfl
    have HK : Hid (chkI C = 0) := by show chkI C = 0; unfold chkI; rw [if_pos hk]
    clear hk
    go_enter Try.func41, Try.ntmps41
    go_wp2_with (first
      | (with_reducible refine wpList_load_cfg rfl _ rfl w.heap.size rfl C hBc ?_)
      | (go_at_call 20; with_reducible refine (check_any C _ (HG.out.below hbc)).mono ?_; rintro e wX ⟨rfl, hX⟩; have hbc := bnext hbc hX; have hBc := (hX.block _ (lt_of_block hBc)).trans hBc; have hAc := (hX.block _ (lt_of_block hAc)).trans hAc; rw [HK.out]; obtain ⟨f0, f1⟩ := acc_cells hAc; obtain ⟨_, g1, _⟩ := cfg_cells2 hBc))
    all_goals
      go_ret
      exact ⟨ret_bool (by rw [HM.out, Bool.eq_iff_iff]; simp; omega), hbc⟩
  · have HM : Hid (mayB C n slot = false) := by show mayB C n slot = _; unfold mayB; rw [Bool.not_eq_true] at hk; rw [hk]; rfl
    have HK : Hid (chkI C = 90) := by show chkI C = 90; unfold chkI; rw [if_neg hk]
    clear hk
    go_enter Try.func41, Try.ntmps41
    go_wp2_with (first
      | (with_reducible refine wpList_load_cfg rfl _ rfl w.heap.size rfl C hBc ?_)
      | (go_at_call 20; with_reducible refine (check_any C _ (HG.out.below hbc)).mono ?_; rintro e wX ⟨rfl, hX⟩; have hbc := bnext hbc hX; have hBc := (hX.block _ (lt_of_block hBc)).trans hBc; have hAc := (hX.block _ (lt_of_block hAc)).trans hAc; rw [HK.out]))
    go_ret
    exact ⟨ret_bool (by rw [HM.out]), hbc⟩
end Go.Proofs.Ytmhggpmhekeemaa
