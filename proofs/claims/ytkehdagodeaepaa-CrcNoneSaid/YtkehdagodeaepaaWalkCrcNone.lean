/- The walk of CrcNone: true, and nothing that was there has changed. -/
import Derived.Test.YtkehdagodeaepaaOpen
namespace Go.Proofs.Ytkehdagodeaepaa
open Go.RowKit
theorem moreI_nil (s : Int) (h : 0 ≤ s) : moreI s [] = s := by
  simp [moreI, Crc.more, Crc.run, Crc.cpl_cpl]; omega
theorem moreI_one {a b x : Int} (ha : 0 ≤ a ∧ a < 4294967296) (hb : 0 ≤ b ∧ b < 4294967296) (hx : 0 ≤ x ∧ x < 256) (h : moreI a [x] = moreI b [x]) : a = b := by
  unfold moreI at h
  have h' : Crc.more a.toNat [x.toNat] = Crc.more b.toNat [x.toNat] := Int.ofNat_inj.1 h
  have := Crc.more_inj (l := [x.toNat]) (by intro y hy; simp at hy; omega) (by omega) (by omega) h'
  omega

set_option maxRecDepth 100000 in
set_option maxHeartbeats 1000000 in
theorem walk_CrcNone (a0 a1 a2 : Int) (w : World) (w0 : (Lit.int .u32 a0).wf = true) (w1 : (Lit.int .u32 a1).wf = true) (w2 : (Lit.int .u8 a2).wf = true) :
    Calls Try.prog 8 #[.int .u32 a0, .int .u32 a1, .int .u8 a2] w fun e w' => e = .returned (.bool true) ∧ Below w.heap.size w w' := by
  have h0 := u32_range w0
  have h1 := u32_range w1
  have h2 := u8_range w2
  have heq : ((moreI a0 [a2] == moreI a1 [a2]) == (a0 == a1)) = true := by
    by_cases e : a0 = a1
    · subst e; simp
    · have : moreI a0 [a2] ≠ moreI a1 [a2] := fun h => e (moreI_one h0 h1 h2 h)
      rw [beq_eq_false_iff_ne.2 this, beq_eq_false_iff_ne.2 e]; rfl
  have hw2 : ∀ n ∈ [a2], (Lit.int .u8 n).wf = true := by intro n hn; simp at hn; subst hn; exact w2
  have H0 := Lib.hid h0
  have H1 := Lib.hid h1
  have HE := Lib.hid heq
  have HW := Lib.hid hw2
  clear h0 h1 h2 heq hw2 w0 w1 w2
  go_enter Try.func8, Try.ntmps8
  go_wp2_with (go_at_call 9; refine (awake_true _).mono ?_; rintro e wA ⟨rfl, hbA⟩)
  refine (more_any a0 H0.out.1 H0.out.2 _ _ _ _ _ (reads_none _ _ _)).mono ?_
  rintro e wB ⟨rfl, hbB⟩
  rw [moreI_nil _ H0.out.1]
  go_wp2_with fail
  refine (more_any a0 H0.out.1 H0.out.2 _ _ _ _ _ (reads_none _ _ _)).mono ?_
  rintro e wC ⟨rfl, hbC⟩
  rw [moreI_nil _ H0.out.1]
  go_wp2_with fail
  refine (more_any a0 H0.out.1 H0.out.2 _ _ _ [a2] _ (reads_new .u8 _ [a2] 5 _ (by simp) HW.out)).mono ?_
  rintro e wD ⟨rfl, hbD⟩
  go_wp2_with fail
  refine (more_any a1 H1.out.1 H1.out.2 _ _ _ [a2] _ (reads_new .u8 _ [a2] 5 _ (by simp) HW.out)).mono ?_
  rintro e wE ⟨rfl, hbE⟩
  have he := HE.out
  go_wp2_with fail
  go_ret
  exact ⟨rfl, bnext (bnew (bnext (bnew (bnext (bnew (bnext hbA hbB) _) hbC) _) hbD) _) hbE⟩
end Go.Proofs.Ytkehdagodeaepaa
