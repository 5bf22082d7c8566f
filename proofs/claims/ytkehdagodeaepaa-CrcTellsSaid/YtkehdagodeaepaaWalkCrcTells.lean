/- The walk of CrcTells: true, and nothing that was there has changed. -/
import Derived.Test.YtkehdagodeaepaaOpen
namespace Go.Proofs.Ytkehdagodeaepaa
open Go.RowKit
set_option maxRecDepth 100000 in
set_option maxHeartbeats 1000000 in
theorem walk_CrcTells (a0 : Int) (a1 : Option Addr) (len1 cap1 : Nat) (z1 : List Int) (w : World) (w0 : (Lit.int .u32 a0).wf = true) (w1 : Reads .u8 w a1 len1 cap1 z1) :
    Calls Try.prog 3 #[.int .u32 a0, .slice a1 len1 cap1] w fun e w' => e = .returned (.bool true) ∧ Below w.heap.size w w' := by
  have h0 := u32_range w0
  have H0 := Lib.hid h0
  have hsm := w1.small'
  clear h0
  by_cases hb : len1 > 1000
  · go_enter Try.func3, Try.ntmps3
    go_wp2_with (go_at_call 9; refine (awake_true _).mono ?_; rintro e wA ⟨rfl, hbA⟩)
    go_ret
    exact ⟨rfl, hbA⟩
  · have hb' : (len1 : Int) ≤ 1000 := by omega
    go_enter Try.func3, Try.ntmps3
    go_wp2_with (go_at_call 9; refine (awake_true _).mono ?_; rintro e wA ⟨rfl, hbA⟩)
    refine (more_any a0 H0.out.1 H0.out.2 _ _ _ _ _ (w1.below hbA)).mono ?_
    rintro e wB ⟨rfl, hbB⟩
    go_wp2_with fail
    refine (ref_any a0 H0.out.1 H0.out.2 _ _ _ _ _ ((w1.below hbA).below hbB)).mono ?_
    rintro e _ ⟨rfl, rfl⟩
    go_wp2_with fail
    refine (sum_any _ _ _ _ _ ((w1.below hbA).below hbB)).mono ?_
    rintro e wC ⟨rfl, hbC⟩
    go_wp2_with fail
    refine (ref_any 0 (by omega) (by omega) _ _ _ _ _ (((w1.below hbA).below hbB).below hbC)).mono ?_
    rintro e _ ⟨rfl, rfl⟩
    go_wp2_with fail
    go_ret
    exact ⟨rfl, (hbA.trans (hbB.mono hbA.size)).trans (hbC.mono (Nat.le_trans hbA.size hbB.size))⟩
end Go.Proofs.Ytkehdagodeaepaa
