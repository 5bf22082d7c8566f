/- More and Sum of package crc: what they hand back, at whatever sum and bytes: the sum by definition (Crc.more). -/
import Derived.Test.YtkehdagodeaepaaSteps
namespace Go.Proofs.Ytkehdagodeaepaa
open Go.RowKit

theorem xorN (a b : Nat) (ha : a < 4294967296) (hb : b < 4294967296) : bits .xor .u32 (a : Int) (b : Int) = ((a ^^^ b : Nat) : Int) := by
  have := u32_xor (a : Int) (b : Int) (by omega) (by omega) (by omega) (by omega)
  simpa using this
theorem and15 (a : Nat) (ha : a < 4294967296) : bits .and .u32 (a : Int) 15 = ((a % 16 : Nat) : Int) := by
  have := u32_and (a : Int) 15 (by omega) (by omega) (by omega) (by omega)
  rw [this]
  have h : a &&& 15 = a % 16 := Nat.and_two_pow_sub_one_eq_mod a 4
  simp [h]

/-- What the walk wants of half a byte. -/
theorem half_facts (M : Nat) (hM : M < 4294967296) : ∃ J T M' : Nat, J < 16 ∧ bits .and .u32 (M : Int) 15 = (J : Int) ∧ T = Crc.st4 J ∧ bits .xor .u32 ((M : Int) / 16) (T : Int) = (M' : Int) ∧ M' = Crc.st4 M ∧ M' < 4294967296 := by
  refine ⟨M % 16, Crc.st4 (M % 16), Crc.st4 M, by omega, and15 M hM, rfl, ?_, rfl, Crc.st4_lt hM⟩
  have e : ((M : Int) / 16) = ((M / 16 : Nat) : Int) := by simp
  rw [e, xorN _ _ (by omega) (Crc.st4_lt (by omega)), Crc.half]
/-- The numbers of bytes, up to place k. -/
def upto (zs : List Int) (k : Nat) : List Nat := (zs.take k).map Int.toNat
/-- The state behind the first k bytes. -/
def stN (s : Nat) (zs : List Int) (k : Nat) : Nat := Crc.run (Crc.cpl s) (upto zs k)
theorem upto_lt {zs : List Int} (h : ∀ n ∈ zs, 0 ≤ n ∧ n < 256) (k : Nat) : ∀ x ∈ upto zs k, x < 256 := by
  intro x hx
  simp only [upto, List.mem_map] at hx
  obtain ⟨n, hn, rfl⟩ := hx
  have := h n (List.mem_of_mem_take hn)
  omega
theorem stN_lt {s : Nat} (hs : s < 4294967296) {zs : List Int} (h : ∀ n ∈ zs, 0 ≤ n ∧ n < 256) (k : Nat) : stN s zs k < 4294967296 := Crc.run_lt (Crc.cpl_lt hs) (upto_lt h k)
theorem stN_succ (s : Nat) {zs : List Int} {k : Nat} (hk : k < zs.length) : stN s zs (k + 1) = Crc.st8 (stN s zs k ^^^ (zs.getD k 0).toNat) := by
  unfold stN upto
  rw [List.take_succ_eq_append_getElem hk, List.map_append, Crc.run_append]
  simp [Crc.run, List.getD, List.getElem?_eq_getElem hk]

set_option maxRecDepth 100000 in
set_option maxHeartbeats 1000000 in
theorem more_row_ (s : Int) (hs0 : 0 ≤ s) (hs1 : s < 4294967296) (b off len cap : Nat) (zs : List Int) (w : World) (hm : len ≤ 9223372036854775807) (hz : len ≤ zs.length) (hcell : ∀ i, i < len → w.cell? ⟨b, off + i, none⟩ = some (.int .u8 (zs.getD i 0))) (hwz : ∀ n ∈ zs, 0 ≤ n ∧ n < 256) :
    Calls Try.prog 10 #[.int .u32 s, .slice (some ⟨b, off, none⟩) len cap] w fun e w' => e = .returned (.int .u32 ((Crc.cpl (stN s.toNat zs len) : Nat) : Int)) ∧ Below w.heap.size w w' := by
  obtain ⟨S, rfl⟩ := Int.eq_ofNat_of_zero_le hs0
  have hS : S < 4294967296 := by omega
  rw [Int.toNat_natCast]
  have hlt := stN_lt hS hwz
  have HL := Lib.hid hlt
  have HS := Lib.hid hS
  have HC0 := Lib.hid hcell
  have HWZ := Lib.hid hwz
  clear hlt hS hcell hwz hs0 hs1
  go_enter Try.func10, Try.ntmps10
  go_wp2_with (first
    | (go_at_call 13; refine (steps_any _).mono ?_; rintro e w1 ⟨rfl, hb1⟩)
    | (with_reducible refine wpList_store_row rfl 35 _ _ rfl w1.heap.size _ rfl rfl 35 _ (heap_alloc_new _ _) (tab_info.trans (by rw [tabA_size])) (by simp [tabA_size]) (tabA_one 16) ?_))
  have h0 : bits BinOp.xor IntKind.u32 IntKind.u32.max (S : Int) = ((stN S zs 0 : Nat) : Int) := xorN 4294967295 S (by omega) HS.out
  rw [h0]
  generalize hW : World.setRow (World.alloc w1 _) w1.heap.size (tabA 16) = W
  have hg : W.heap[w1.heap.size]? = some (.cells (tabA 16) 35 (0, 0)) := by rw [← hW]; exact setRow_heap _ _ _ _ _ _ (heap_alloc_new _ _)
  have hbel : Below w.heap.size w W := by rw [← hW]; exact below_setRow (hb1.alloc hb1.size _) hb1.size _
  have hcW : ∀ i, i < len → W.cell? ⟨b, off + i, none⟩ = some (.int .u8 (zs.getD i 0)) := fun i hi => by
    have hc := HC0.out i hi
    have hlb : b < w.heap.size := block_lt_of_cell hc
    rw [hbel.cell hlb]; exact hc
  have HC := Lib.hid hcW
  have HG := Lib.hid hg
  clear hW h0 hcW hg
  generalize w1.heap.size = g at *
  go_loop [6, 14] (fun n i => ∃ k : Nat, k ≤ len ∧ i = .int .i64 k ∧ n = .int .u32 ((stN S zs k : Nat) : Int)) (fun _ i => len - (intOf i).toNat)
  case atStart => exact ⟨0, Nat.zero_le _, rfl, rfl⟩
  case round =>
    obtain ⟨k, hk, rfl, rfl⟩ := hrel
    by_cases hlt : k < len
    · have hx : 0 ≤ zs.getD k 0 ∧ zs.getD k 0 < 256 := by
        have hkz : k < zs.length := by omega
        rw [List.getD, List.getElem?_eq_getElem hkz]
        exact HWZ.out _ (List.getElem_mem _)
      obtain ⟨X, hX⟩ := Int.eq_ofNat_of_zero_le hx.1
      have hX256 : X < 256 := by omega
      have hN := HL.out k
      have hs := stN_succ S (zs := zs) (k := k) (by omega)
      rw [hX, Int.toNat_natCast] at hs
      obtain ⟨N, hNe⟩ : ∃ N, N = stN S zs k := ⟨_, rfl⟩
      rw [← hNe] at hs hN ⊢
      obtain ⟨M, hMe⟩ : ∃ M, M = N ^^^ X := ⟨_, rfl⟩
      have hM : M < 4294967296 := by rw [hMe]; exact Crc.xor_lt hN (by omega)
      have e1 : bits .xor .u32 (N : Int) (X : Int) = (M : Int) := by rw [hMe]; exact xorN N X hN (by omega)
      obtain ⟨J, T, M2, hJ, e2, hT, e3, hM2e, hM2⟩ := half_facts M hM
      obtain ⟨J2, T2, M3, hJ2, e4, hT2, e5, hM3e, hM3⟩ := half_facts M2 hM2
      have hc := HC.out k hlt
      rw [hX] at hc
      have c1 : W.cell? ⟨g, J, none⟩ = some (.int .u32 (T : Int)) := by rw [tab_cell HG.out hJ, if_pos hJ, hT]
      have c2 : W.cell? ⟨g, J2, none⟩ = some (.int .u32 (T2 : Int)) := by rw [tab_cell HG.out hJ2, if_pos hJ2, hT2]
      have HEND : Hid (M3 = stN S zs (k + 1)) := by
        show M3 = stN S zs (k + 1)
        rw [hs, hM3e, hM2e, hMe]; rfl
      clear hM3e hM2e hMe hs hM hM2 hM3 hN hNe hT hT2 hX hx
      go_wp2_with fail
      go_round
      case rel => exact ⟨k + 1, by omega, by go_num, by rw [HEND.out]⟩
      case measure => simp [intOf]; omega
    · have : k = len := by omega
      subst this
      go_wp2_with fail
      go_ret
      refine ⟨?_, hbel⟩
      have e := xorN 4294967295 (stN S zs k) (by omega) (HL.out k)
      exact congrArg (fun n => Ending.returned (.int .u32 n)) e

/-- A slice of numbers that can be read: its elements are zs, each fits. -/
structure Reads (k : IntKind) (w : World) (a : Option Addr) (len cap : Nat) (zs : List Int) : Prop where
  length : zs.length = len
  le : len ≤ cap
  small : cap ≤ 9223372036854775807
  wf : ∀ n ∈ zs, (Lit.int k n).wf = true
  nil : a = none → cap = 0
  cells : len = 0 ∨ ∃ b off, a = some ⟨b, off, none⟩ ∧ ∀ i, i < len → w.cell? ⟨b, off + i, none⟩ = some (.int k (zs.getD i 0))
theorem Reads.small' {k : IntKind} {w : World} {a : Option Addr} {len cap : Nat} {zs : List Int} (h : Reads k w a len cap zs) : len ≤ 9223372036854775807 := Nat.le_trans h.le h.small
theorem Reads.below {k : IntKind} {w w' : World} {a : Option Addr} {len cap : Nat} {zs : List Int} (h : Reads k w a len cap zs) (hb : Below w.heap.size w w') : Reads k w' a len cap zs :=
  ⟨h.length, h.le, h.small, h.wf, h.nil, h.cells.imp id fun ⟨b, off, ha, hc⟩ => ⟨b, off, ha, fun i hi => by rw [hb.cell (block_lt_of_cell (hc i hi)), hc i hi]⟩⟩
theorem bytes_range {zs : List Int} (h : ∀ n ∈ zs, (Lit.int .u8 n).wf = true) : ∀ n ∈ zs, 0 ≤ n ∧ n < 256 := by
  intro n hn
  have := h n hn
  simp only [Lit.wf, Bool.and_eq_true, decide_eq_true_eq] at this
  have h1 : IntKind.u8.min = 0 := rfl
  have h2 : IntKind.u8.max = 255 := rfl
  omega
/-- The sum, over Int. -/
def moreI (s : Int) (zs : List Int) : Int := ((Crc.more s.toNat (zs.map Int.toNat) : Nat) : Int)
theorem moreI_range {s : Int} (h0 : 0 ≤ s) (h1 : s < 4294967296) {zs : List Int} (h : ∀ n ∈ zs, 0 ≤ n ∧ n < 256) : 0 ≤ moreI s zs ∧ moreI s zs < 4294967296 := by
  have hl : ∀ x ∈ zs.map Int.toNat, x < 256 := by
    intro x hx
    simp only [List.mem_map] at hx
    obtain ⟨n, hn, rfl⟩ := hx
    have := h n hn
    omega
  have := Crc.more_lt (s := s.toNat) (by omega) hl
  unfold moreI
  omega
theorem moreI_eq (s : Int) (zs : List Int) : ((Crc.cpl (stN s.toNat zs zs.length) : Nat) : Int) = moreI s zs := by
  unfold moreI stN upto Crc.more
  rw [List.take_length]

set_option maxRecDepth 100000 in
set_option maxHeartbeats 1000000 in
theorem more_none (s : Int) (hs0 : 0 ≤ s) (hs1 : s < 4294967296) (a : Option Addr) (cap : Nat) (w : World) :
    Calls Try.prog 10 #[.int .u32 s, .slice a 0 cap] w fun e w' => e = .returned (.int .u32 (moreI s [])) ∧ Below w.heap.size w w' := by
  obtain ⟨S, rfl⟩ := Int.eq_ofNat_of_zero_le hs0
  have hS : S < 4294967296 := by omega
  have HS := Lib.hid hS
  have h0 : bits BinOp.xor IntKind.u32 IntKind.u32.max (S : Int) = ((Crc.cpl S : Nat) : Int) := xorN 4294967295 S (by omega) hS
  have h1 : bits BinOp.xor IntKind.u32 IntKind.u32.max ((Crc.cpl S : Nat) : Int) = (S : Int) := by
    have := xorN 4294967295 (Crc.cpl S) (by omega) (Crc.cpl_lt hS)
    rw [← Crc.cpl_eq, Crc.cpl_cpl] at this
    exact this
  have H0 := Lib.hid h0
  have H1 := Lib.hid h1
  clear hS hs0 hs1 h0 h1
  go_enter Try.func10, Try.ntmps10
  go_wp2_with (first
    | (go_at_call 13; refine (steps_any _).mono ?_; rintro e w1 ⟨rfl, hb1⟩)
    | (with_reducible refine wpList_store_row rfl 35 _ _ rfl w1.heap.size _ rfl rfl 35 _ (heap_alloc_new _ _) (tab_info.trans (by rw [tabA_size])) (by simp [tabA_size]) (tabA_one 16) ?_))
  rw [H0.out]
  refine wp_loop_rounds 1 ?_
  rw [rounds_succ]
  go_wp2_with fail
  go_ret
  refine ⟨?_, below_setRow (hb1.alloc hb1.size _) hb1.size _⟩
  rw [show moreI (S : Int) [] = (S : Int) by simp [moreI, Crc.more, Crc.run, Crc.cpl_cpl]]
  exact congrArg (fun n => Ending.returned (.int .u32 n)) H1.out

/-- More: whatever sum, whatever bytes. -/
theorem more_any (s : Int) (hs0 : 0 ≤ s) (hs1 : s < 4294967296) (a : Option Addr) (len cap : Nat) (zs : List Int) (w : World) (h : Reads .u8 w a len cap zs) :
    Calls Try.prog 10 #[.int .u32 s, .slice a len cap] w fun e w' => e = .returned (.int .u32 (moreI s zs)) ∧ Below w.heap.size w w' := by
  have hl := h.length
  rcases h.cells with h0 | ⟨b, off, rfl, hc⟩
  · subst h0
    have : zs = [] := List.eq_nil_of_length_eq_zero hl
    subst this
    exact more_none s hs0 hs1 a cap w
  · have := more_row_ s hs0 hs1 b off len cap zs w h.small' (by omega) hc (bytes_range h.wf)
    rw [← hl, moreI_eq] at this
    rw [← hl]
    exact this

/-- Sum: whatever bytes. -/
theorem sum_any (a : Option Addr) (len cap : Nat) (zs : List Int) (w : World) (h : Reads .u8 w a len cap zs) :
    Calls Try.prog 12 #[.slice a len cap] w fun e w' => e = .returned (.int .u32 (moreI 0 zs)) ∧ Below w.heap.size w w' := by
  go_enter Try.func12, Try.ntmps12
  go_wp2_with (go_at_call 10; refine (more_any 0 (by omega) (by omega) _ _ _ _ _ h).mono ?_; rintro e w1 ⟨rfl, hb1⟩)
  go_ret
  exact ⟨rfl, hb1⟩
end Go.Proofs.Ytkehdagodeaepaa
