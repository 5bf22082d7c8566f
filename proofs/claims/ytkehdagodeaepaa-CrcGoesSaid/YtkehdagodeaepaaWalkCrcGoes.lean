/- The walk of CrcGoes: true, and nothing that was there has changed. -/
import Derived.Test.YtkehdagodeaepaaApp
namespace Go.Proofs.Ytkehdagodeaepaa
open Go.RowKit
theorem moreI_append (s : Int) (a b : List Int) : moreI (moreI s a) b = moreI s (a ++ b) := by
  unfold moreI
  rw [Int.toNat_natCast, Crc.more_append, List.map_append]

set_option maxRecDepth 100000 in
set_option maxHeartbeats 1000000 in
theorem walk_CrcGoes (a0 : Int) (a1 : Option Addr) (len1 cap1 : Nat) (z1 : List Int) (a2 : Option Addr) (len2 cap2 : Nat) (z2 : List Int) (w : World) (w0 : (Lit.int .u32 a0).wf = true) (w1 : Reads .u8 w a1 len1 cap1 z1) (w2 : Reads .u8 w a2 len2 cap2 z2) :
    Calls Try.prog 4 #[.int .u32 a0, .slice a1 len1 cap1, .slice a2 len2 cap2] w fun e w' => e = .returned (.bool true) ∧ Below w.heap.size w w' := by
  have h0 := u32_range w0
  have h3 := moreI_range h0.1 h0.2 (bytes_range w1.wf)
  have H0 := Lib.hid h0
  have H3 := Lib.hid h3
  have hs1 := w1.small'
  have hs2 := w2.small'
  clear h0 h3
  by_cases hb : len1 > 1000
  · go_enter Try.func4, Try.ntmps4
    go_wp2_with (go_at_call 9; refine (awake_true _).mono ?_; rintro e wA ⟨rfl, hbA⟩)
    go_ret
    exact ⟨rfl, hbA⟩
  · by_cases hb2 : len2 > 1000
    · go_enter Try.func4, Try.ntmps4
      go_wp2_with (go_at_call 9; refine (awake_true _).mono ?_; rintro e wA ⟨rfl, hbA⟩)
      go_ret
      exact ⟨rfl, hbA⟩
    · have hb' : (len1 : Int) ≤ 1000 := by omega
      have hb2' : (len2 : Int) ≤ 1000 := by omega
      obtain ⟨i0, hi, hz0, hz1, hz2⟩ := info_parts byte_info
      go_enter Try.func4, Try.ntmps4
      go_wp2_with (go_at_call 9; refine (awake_true _).mono ?_; rintro e wA ⟨rfl, hbA⟩)
      refine (more_any a0 H0.out.1 H0.out.2 _ _ _ _ _ (w1.below hbA)).mono ?_
      rintro e wB ⟨rfl, hbB⟩
      go_wp2_with fail
      have hbAB := bnext hbA hbB
      refine (more_any _ H3.out.1 H3.out.2 _ _ _ _ _ (w2.below hbAB)).mono ?_
      rintro e wC ⟨rfl, hbC⟩
      have hbAC := bnext hbAB hbC
      have hwf : ∀ n ∈ z1 ++ z2, (Lit.int .u8 n).wf = true := fun n hn => (List.mem_append.1 hn).elim (w1.wf n) (w2.wf n)
      have HWF := Lib.hid hwf
      have HM := Lib.hid (moreI_append a0 z1 z2)
      clear hwf
      go_wp2_with (first
        | (with_reducible refine wpList_append_reads rfl (.tmp 26) (.tmp 27) 23 rfl wC.heap.size 5 i0 (.int .u8 0) 1 Try.underlying23 hi hz0 hz1 hz2 rfl _ 0 [] rfl (World.ownsRow_lit wC #[] 0 (Nat.le_refl _) (by decide) rfl) .u8 _ _ _ _ rfl ((w1.below hbAC).alloc _) (by unfold maxLen; omega) (by omega) (by simp) ?_; intro v1 wD ho1 hg1; have hbD := bgrown_lit (bnew hbAC _) hg1 hbAC.size)
        | (with_reducible refine wpList_append_reads rfl (.tmp 28) (.tmp 29) 23 rfl wC.heap.size 5 i0 (.int .u8 0) 1 Try.underlying23 hi hz0 hz1 hz2 rfl v1 _ _ rfl ho1 .u8 _ _ _ _ rfl (w2.below hbD) (by unfold maxLen; omega) (by omega) (by have := hg1.size; simp at this; omega) ?_; intro v2 wE ho2 hg2; have hbE := bgrown hbD hg2 (fun k hk => Nat.le_trans hbAC.size (ho1.lt k hk).1); obtain ⟨a3, c3, hv3, hR3⟩ := reads_of_own (zs := z1 ++ z2) (by simpa using ho2) HWF.out; rw [hv3])
        | (go_at_call 10; refine (more_any a0 H0.out.1 H0.out.2 _ _ _ _ _ hR3).mono ?_; rintro e wF ⟨rfl, hbF⟩; rw [HM.out]))
      go_ret
      exact ⟨rfl, bnext hbE hbF⟩
end Go.Proofs.Ytkehdagodeaepaa
