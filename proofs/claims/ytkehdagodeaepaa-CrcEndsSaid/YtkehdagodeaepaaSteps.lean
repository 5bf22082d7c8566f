/- The table of sixteen steps: what steps() hands back, in whatever world. -/
import Derived.Test.YtkehdagodeaepaaProg
import Derived.Test.YtkehdagodeaepaaMath
import Derived.WalkKit
import Derived.WalkLawsBesides
import Derived.Lib.Hide
import Derived.Laws.CopyOwn
namespace Go.Proofs.Ytkehdagodeaepaa
open Go.RowKit

theorem and_one_st (n : Int) (h0 : 0 ≤ n) (h1 : n < 4294967296) : bits .xor .u32 (n / 2) (bits .and .u32 n 1 * 2197175160 % 4294967296) = ((Crc.st n.toNat : Nat) : Int) := by
  obtain ⟨N, rfl⟩ := Int.eq_ofNat_of_zero_le h0
  have hN : N < 4294967296 := by omega
  have e1 : bits .and .u32 (N : Int) 1 = ((N % 2 : Nat) : Int) := by
    have := u32_and (N : Int) 1 (by omega) (by omega) (by omega) (by omega)
    rw [this]
    simp [Nat.and_one_is_mod]
  rw [e1]
  have hm : N % 2 = 0 ∨ N % 2 = 1 := by omega
  have e2 : ((N % 2 : Nat) : Int) * 2197175160 % 4294967296 = ((N % 2 * 2197175160 : Nat) : Int) := by
    rcases hm with h | h <;> rw [h] <;> rfl
  rw [e2]
  have e3 : ((N : Int) / 2) = ((N / 2 : Nat) : Int) := by simp
  have e4 : ((N % 2 * 2197175160 : Nat) : Int) < 4294967296 := by rcases hm with h | h <;> rw [h] <;> decide
  rw [e3, u32_xor _ _ (by omega) (by omega) (by omega) e4, Int.toNat_natCast, Int.toNat_natCast, Int.toNat_natCast, Crc.st]

/-- One bit goes out, over Int. -/
def stI (n : Int) : Int := (Crc.st n.toNat : Nat)
theorem stI_range {n : Int} (h0 : 0 ≤ n) (h1 : n < 4294967296) : 0 ≤ stI n ∧ stI n < 4294967296 := by
  have := Crc.st_lt (n := n.toNat) (by omega)
  unfold stI
  omega

theorem step_any (n : Int) (h0 : 0 ≤ n) (h1 : n < 4294967296) (w : World) :
    Calls Try.prog 14 #[.int .u32 n] w fun e w' => e = .returned (.int .u32 (stI n)) ∧ w = w' ∧ 0 ≤ stI n ∧ stI n < 4294967296 := by
  go_enter Try.func14, Try.ntmps14
  go_wp2
  go_ret
  exact ⟨by unfold stI; rw [← and_one_st n h0 h1]; rfl, rfl, stI_range h0 h1⟩

/-- The table, filled up to place k. -/
def tabA (k : Nat) : Array Value := ((List.range 16).map fun j => Value.int .u32 (if j < k then ((Crc.st4 j : Nat) : Int) else 0)).toArray
theorem tabA_size (k : Nat) : (tabA k).size = 16 := by simp [tabA]
theorem tabA_get {k j : Nat} (hj : j < 16) : (tabA k)[j]? = some (Value.int .u32 (if j < k then ((Crc.st4 j : Nat) : Int) else 0)) := by
  simp [tabA, hj]
theorem tabA_set {k : Nat} (hk : k < 16) : (tabA k).setIfInBounds k (.int .u32 ((Crc.st4 k : Nat) : Int)) = tabA (k + 1) := by
  apply Array.ext_getElem?
  intro i
  rw [Array.getElem?_setIfInBounds]
  by_cases hi : i < 16
  · rw [tabA_get hi, tabA_get hi]
    by_cases e : k = i
    · subst e; simp [tabA_size, hk]
    · have : (i < k ↔ i < k + 1) := by omega
      simp [e, this]
  · have h1 : ∀ k, (tabA k)[i]? = none := fun k => by simp [tabA]; omega
    rw [h1, h1]
    split
    · split
      · omega
      · rfl
    · rfl
theorem tab_cell {wr : World} {B k j : Nat} (h : wr.heap[B]? = some (.cells (tabA k) 35 (0, 0))) (hj : j < 16) : wr.cell? ⟨B, j, none⟩ = some (.int .u32 (if j < k then ((Crc.st4 j : Nat) : Int) else 0)) := by
  simp [World.cell?, h, tabA_get hj]
theorem tab_free {wr : World} {B k j : Nat} (h : wr.heap[B]? = some (.cells (tabA k) 35 (0, 0))) : wr.frozen? ⟨B, j, none⟩ = false := by
  simp [World.frozen?, h]
theorem tab_store {wr : World} {B k : Nat} (h : wr.heap[B]? = some (.cells (tabA k) 35 (0, 0))) (hk : k < 16) : (wr.setCell ⟨B, k, none⟩ (.int .u32 ((Crc.st4 k : Nat) : Int))).heap[B]? = some (.cells (tabA (k + 1)) 35 (0, 0)) := by
  have hb : B < wr.heap.size := lt_of_block h
  simp [World.setCell, Array.getElem?_modify, h, tabA_set hk]

theorem tabA_one (k : Nat) : (tabA k).all (·.oneCell') = true := by
  rw [Array.all_eq_true_iff_forall_mem]
  intro v hv
  simp only [tabA, List.mem_toArray, List.mem_map] at hv
  obtain ⟨j, _, rfl⟩ := hv
  rfl
theorem tab_info : (Try.prog.info? 35).map (·.size) = some 16 := by kernel_rfl

set_option maxRecDepth 100000 in
set_option maxHeartbeats 1000000 in
theorem steps_any (w : World) :
    Calls Try.prog 13 #[] w fun e w' => e = .returned (.agg (tabA 16)) ∧ Below w.heap.size w w' := by
  go_enter Try.func13, Try.ntmps13
  go_wp2_with fail
  go_loopw [3] (fun i wr => ∃ k : Nat, k ≤ 16 ∧ i = .int .i64 k ∧ wr.heap[w.heap.size]? = some (.cells (tabA k) 35 (0, 0)) ∧ Below w.heap.size w wr) (fun i _ => 16 - (intOf i).toNat)
  case atStart =>
    exact ⟨0, by omega, rfl, by rw [heap_alloc_new]; rfl, (Below.refl _ _).alloc (Nat.le_refl _) _⟩
  case round =>
    obtain ⟨k, hk, rfl, hb, hbel⟩ := hrel
    by_cases hlt : k < 16
    · have hc := tab_cell hb hlt
      have hf := tab_free (j := k) hb
      have hs : (wr.setCell ⟨w.heap.size, k, none⟩ (.int .u32 (stI (stI (stI (stI (k : Int))))))).heap[w.heap.size]? = some (.cells (tabA (k + 1)) 35 (0, 0)) := tab_store hb hlt
      have HS := Lib.hid hs
      have HB := Lib.hid hb
      clear hb hs
      go_wp2_with (go_at_call 14; refine (step_any _ (by omega) (by omega) _).mono ?_; rintro e w' ⟨rfl, rfl, hA, hB⟩)
      go_roundw
      case rel => exact ⟨k + 1, by omega, by go_num, HS.out, hbel.setCell (Nat.le_refl _) _⟩
      case measure => simp [intOf]; omega
    · have hk16 : k = 16 := by omega
      subst hk16
      have HB := Lib.hid hb
      clear hb
      go_wp2_with (first
        | (with_reducible refine wpList_load_row rfl 35 _ rfl w.heap.size rfl 35 _ (0, 0) _ HB.out Try.underlying35 rfl (tab_info.trans (by rw [tabA_size])) ?_)
        | (with_reducible refine wpList_store_row rfl 35 _ _ rfl w.heap.size _ rfl rfl 35 _ HB.out (tab_info.trans (by rw [tabA_size])) rfl (tabA_one 16) ?_))
      have hset : (wr.setRow w.heap.size (tabA 16)).heap[w.heap.size]? = some (.cells (tabA 16) 35 (0, 0)) := setRow_heap wr _ _ _ _ _ HB.out
      refine bodyPost_ret (results_cell_row rfl _ _ w.heap.size 35 (tabA 16) (0, 0) _ rfl hset Try.underlying35 rfl (tab_info.trans (by rw [tabA_size]))) rfl ⟨rfl, ?_⟩
      exact below_setRow hbel (Nat.le_refl _) _
end Go.Proofs.Ytkehdagodeaepaa
