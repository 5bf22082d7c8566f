/- The reference's More, and that awake() answers true. -/
import Derived.Test.YtkehdagodeaepaaMore
import Derived.Lib.SlBytesConst
namespace Go.Proofs.Ytkehdagodeaepaa
open Go.RowKit
theorem known1 : moreI 0 [49, 50, 51, 52, 53, 54, 55, 56, 57] = 3808858755 := by decide +kernel
theorem known2 : moreI 0 [] = 0 := by decide +kernel
theorem known3 : moreI 5 [] = 5 := by decide +kernel
theorem reads_none (k : IntKind) (w : World) (a : Option Addr) : Reads k w a 0 0 [] := ⟨rfl, Nat.le_refl _, by omega, by simp, fun _ => rfl, .inl rfl⟩
/-- A block that was made just now. -/
theorem reads_new (k : IntKind) (w : World) (zs : List Int) (t : TypeId) (fr : Nat × Nat) (hs : zs.length ≤ 9223372036854775807) (hw : ∀ n ∈ zs, (Lit.int k n).wf = true) :
    Reads k (w.alloc (.cells (zs.map (Value.int k)).toArray t fr)) (some ⟨w.heap.size, 0, none⟩) zs.length zs.length zs :=
  ⟨rfl, Nat.le_refl _, hs, hw, (fun h => by cases h), .inr ⟨w.heap.size, 0, rfl, fun i hi => by rw [cell_of_row _ _ _ _ _ _ (heap_alloc_new _ _)]; simp [hi]⟩⟩
theorem digits_wf : ∀ n ∈ [49, 50, 51, 52, 53, 54, 55, 56, 57], (Lit.int .u8 n).wf = true := by decide +kernel
set_option maxRecDepth 100000 in
set_option maxHeartbeats 1000000 in
theorem awake_true (w : World) : Calls Try.prog 9 #[] w fun e w' => e = .returned (.bool true) ∧ Below w.heap.size w w' := by
  have kc := fun (w : World) (C : Array Value) (n c : Nat) => Lib.run_convert_bytes_const (P := Try.prog) w 23 5 C n c Try.underlying23 Try.underlying5
  go_enter Try.func9, Try.ntmps9
  go_wp2_with fail
  refine (sum_any _ _ _ _ _ (reads_new .u8 w [49, 50, 51, 52, 53, 54, 55, 56, 57] 5 _ (by decide) digits_wf)).mono ?_
  rintro e w1 ⟨rfl, hb1⟩
  rw [known1]
  go_wp2_with fail
  refine (sum_any _ _ _ _ _ (reads_none _ _ _)).mono ?_
  rintro e w2 ⟨rfl, hb2⟩
  rw [known2]
  go_wp2_with fail
  refine (more_any _ (by omega) (by omega) _ _ _ _ _ (reads_none _ _ _)).mono ?_
  rintro e w3 ⟨rfl, hb3⟩
  rw [known3]
  go_wp2_with fail
  go_ret
  refine ⟨rfl, ?_⟩
  exact ((((Below.refl _ _).alloc (Nat.le_refl _) _).trans (hb1.mono (by simp))).trans (hb2.mono (by have := hb1.size; simp at this; omega))).trans (hb3.mono (by have := hb1.size; have := hb2.size; simp at *; omega))

def sts : Nat → Nat → Nat
  | 0, n => n
  | q + 1, n => Crc.st (sts q n)
theorem sts_lt {n : Nat} (h : n < 4294967296) (q : Nat) : sts q n < 4294967296 := by
  induction q with
  | zero => exact h
  | succ q ih => exact Crc.st_lt ih
theorem sts8 (n : Nat) : sts 8 n = Crc.st8 n := rfl
theorem st_odd {N : Nat} (hN : N < 4294967296) (h : N % 2 = 1) : bits .xor .u32 ((N : Int) / 2) 2197175160 = ((Crc.st N : Nat) : Int) := by
  have e : ((N : Int) / 2) = ((N / 2 : Nat) : Int) := by simp
  have e2 := xorN (N / 2) 2197175160 (by omega) (by omega)
  rw [e]
  have e3 : Crc.st N = N / 2 ^^^ 2197175160 := by unfold Crc.st; rw [h, Nat.one_mul]
  rw [e3]
  exact e2
theorem st_even {N : Nat} (h : N % 2 = 0) : ((N : Int) / 2) = ((Crc.st N : Nat) : Int) := by
  have e3 : Crc.st N = N / 2 := by unfold Crc.st; rw [h, Nat.zero_mul, Nat.xor_zero]
  rw [e3]; simp

set_option maxRecDepth 100000 in
set_option maxHeartbeats 1000000 in
theorem ref_row (s : Int) (hs0 : 0 ≤ s) (hs1 : s < 4294967296) (b off len cap : Nat) (zs : List Int) (w : World) (hm : len ≤ 9223372036854775807) (hz : len ≤ zs.length) (hcell : ∀ i, i < len → w.cell? ⟨b, off + i, none⟩ = some (.int .u8 (zs.getD i 0))) (hwz : ∀ n ∈ zs, 0 ≤ n ∧ n < 256) :
    Calls Try.prog 11 #[.int .u32 s, .slice (some ⟨b, off, none⟩) len cap] w fun e w' => e = .returned (.int .u32 ((Crc.cpl (stN s.toNat zs len) : Nat) : Int)) ∧ w = w' := by
  obtain ⟨S, rfl⟩ := Int.eq_ofNat_of_zero_le hs0
  have hS : S < 4294967296 := by omega
  rw [Int.toNat_natCast]
  have hlt := stN_lt hS hwz
  have HL := Lib.hid hlt
  have HS := Lib.hid hS
  have HC := Lib.hid hcell
  have HWZ := Lib.hid hwz
  clear hlt hS hcell hwz hs0 hs1
  go_enter Try.func11, Try.ntmps11
  go_wp2_with fail
  have h0 : bits BinOp.xor IntKind.u32 IntKind.u32.max (S : Int) = ((stN S zs 0 : Nat) : Int) := xorN 4294967295 S (by omega) HS.out
  rw [h0]
  clear h0
  go_loop [5, 6] (fun n i => ∃ k : Nat, k ≤ len ∧ i = .int .i64 k ∧ n = .int .u32 ((stN S zs k : Nat) : Int)) (fun _ i => len - (intOf i).toNat)
  case atStart => exact ⟨0, Nat.zero_le _, rfl, rfl⟩
  case round =>
    obtain ⟨k, hk, rfl, rfl⟩ := hrel
    by_cases hlt : k < len
    · have hx : 0 ≤ zs.getD k 0 ∧ zs.getD k 0 < 256 := by
        have hkz : k < zs.length := by omega
        rw [List.getD, List.getElem?_eq_getElem hkz]
        exact HWZ.out _ (List.getElem_mem _)
      obtain ⟨X, hX⟩ := Int.eq_ofNat_of_zero_le hx.1
      have hX256 : X < 256 := by omega
      have hN := HL.out k
      have hs := stN_succ S (zs := zs) (k := k) (by omega)
      rw [hX, Int.toNat_natCast] at hs
      obtain ⟨N, hNe⟩ : ∃ N, N = stN S zs k := ⟨_, rfl⟩
      rw [← hNe] at hs hN ⊢
      obtain ⟨M, hMe⟩ : ∃ M, M = N ^^^ X := ⟨_, rfl⟩
      have hM : M < 4294967296 := by rw [hMe]; exact Crc.xor_lt hN (by omega)
      have e1 : bits .xor .u32 (N : Int) (X : Int) = ((sts 0 M : Nat) : Int) := by rw [hMe]; exact xorN N X hN (by omega)
      have hc := HC.out k hlt
      rw [hX] at hc
      have HEND : Hid (sts 8 M = stN S zs (k + 1)) := by
        show sts 8 M = stN S zs (k + 1)
        rw [hs, sts8, hMe]
      have HM := Lib.hid hM
      clear hMe hs hM hN hNe hX hx
      go_wp2_with fail
      go_loop [5, 7] (fun n j => ∃ q : Nat, q ≤ 8 ∧ j = .int .i64 q ∧ n = .int .u32 ((sts q M : Nat) : Int)) (fun _ j => 8 - (intOf j).toNat)
      case atStart => exact ⟨0, Nat.zero_le _, rfl, rfl⟩
      case round =>
        obtain ⟨q, hq, rfl, rfl⟩ := hrel
        by_cases hlt2 : q < 8
        · obtain ⟨Z, hZ⟩ : ∃ Z, Z = sts q M := ⟨_, rfl⟩
          have hZ1 : sts (q + 1) M = Crc.st Z := by rw [hZ]; rfl
          have hZlt : Z < 4294967296 := by rw [hZ]; exact sts_lt HM.out q
          rw [← hZ]
          have HZ1 := Lib.hid hZ1
          have hW : ((Z : Int) / 2) % 4294967296 = (Z : Int) / 2 := by omega
          have HW := Lib.hid hW
          clear hZ hZ1 hW
          rcases Nat.mod_two_eq_zero_or_one Z with h | h
          · have ht : (((Z : Int) % 2) == 1) = false := by rw [beq_eq_false_iff_ne]; omega
            have HE := Lib.hid (st_even h)
            clear h hZlt
            go_wp2_with fail
            go_round
            case rel => exact ⟨q + 1, by omega, by go_num, by rw [HZ1.out, HW.out, HE.out]⟩
            case measure => simp [intOf]; omega
          · have ht : (((Z : Int) % 2) == 1) = true := by rw [beq_iff_eq]; omega
            have HE := Lib.hid (st_odd hZlt h)
            clear h hZlt
            go_wp2_with fail
            go_round
            case rel => exact ⟨q + 1, by omega, by go_num, by rw [HZ1.out, HW.out, HE.out]⟩
            case measure => simp [intOf]; omega
        · have : q = 8 := by omega
          subst this
          go_wp2_with fail
          go_round
          case rel => exact ⟨k + 1, by omega, by go_num, by rw [HEND.out]⟩
          case measure => simp [intOf]; omega
    · have : k = len := by omega
      subst this
      go_wp2_with fail
      go_ret
      refine ⟨?_, rfl⟩
      have e := xorN 4294967295 (stN S zs k) (by omega) (HL.out k)
      exact congrArg (fun n => Ending.returned (.int .u32 n)) e

set_option maxRecDepth 100000 in
set_option maxHeartbeats 1000000 in
theorem ref_none (s : Int) (hs0 : 0 ≤ s) (hs1 : s < 4294967296) (a : Option Addr) (cap : Nat) (w : World) :
    Calls Try.prog 11 #[.int .u32 s, .slice a 0 cap] w fun e w' => e = .returned (.int .u32 (moreI s [])) ∧ w = w' := by
  obtain ⟨S, rfl⟩ := Int.eq_ofNat_of_zero_le hs0
  have hS : S < 4294967296 := by omega
  have HS := Lib.hid hS
  have h0 : bits BinOp.xor IntKind.u32 IntKind.u32.max (S : Int) = ((Crc.cpl S : Nat) : Int) := xorN 4294967295 S (by omega) hS
  have h1 : bits BinOp.xor IntKind.u32 IntKind.u32.max ((Crc.cpl S : Nat) : Int) = (S : Int) := by
    have := xorN 4294967295 (Crc.cpl S) (by omega) (Crc.cpl_lt hS)
    rw [← Crc.cpl_eq, Crc.cpl_cpl] at this
    exact this
  have H0 := Lib.hid h0
  have H1 := Lib.hid h1
  clear hS hs0 hs1 h0 h1
  go_enter Try.func11, Try.ntmps11
  go_wp2_with fail
  rw [H0.out]
  refine wp_loop_rounds 1 ?_
  rw [rounds_succ]
  go_wp2_with fail
  go_ret
  refine ⟨?_, rfl⟩
  rw [show moreI (S : Int) [] = (S : Int) by simp [moreI, Crc.more, Crc.run, Crc.cpl_cpl]]
  exact congrArg (fun n => Ending.returned (.int .u32 n)) H1.out

/-- The reference's More: whatever sum, whatever bytes. -/
theorem ref_any (s : Int) (hs0 : 0 ≤ s) (hs1 : s < 4294967296) (a : Option Addr) (len cap : Nat) (zs : List Int) (w : World) (h : Reads .u8 w a len cap zs) :
    Calls Try.prog 11 #[.int .u32 s, .slice a len cap] w fun e w' => e = .returned (.int .u32 (moreI s zs)) ∧ w = w' := by
  have hl := h.length
  rcases h.cells with h0 | ⟨b, off, rfl, hc⟩
  · subst h0
    have : zs = [] := List.eq_nil_of_length_eq_zero hl
    subst this
    exact ref_none s hs0 hs1 a cap w
  · have := ref_row s hs0 hs1 b off len cap zs w h.small' (by omega) hc (bytes_range h.wf)
    rw [← hl, moreI_eq] at this
    rw [← hl]
    exact this
end Go.Proofs.Ytkehdagodeaepaa
