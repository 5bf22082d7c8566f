/- Two texts changed by one another: the lists and the sums, and blocks that read. -/
import Derived.Test.YtkehdagodeaepaaApp
import Derived.Deep.OwnRows
import Derived.Deep.RegionLaw
namespace Go.Proofs.Ytkehdagodeaepaa
open Go.RowKit

def cellsOf (k : IntKind) (zs : List Int) : Array Value := (zs.map (Value.int k)).toArray
theorem blk_cell {wr : World} {g : Nat} {e : TypeId} {k : IntKind} {zs : List Int} (h : wr.heap[g]? = some (.cells (cellsOf k zs) e (0, 0))) {j : Nat} (hj : j < zs.length) : wr.cell? ⟨g, j, none⟩ = some (.int k (zs.getD j 0)) := by
  rw [cell_of_row _ _ _ _ _ _ h]; simp [cellsOf, hj]
theorem blk_free {wr : World} {g : Nat} {e : TypeId} {cs : Array Value} {j : Nat} (h : wr.heap[g]? = some (.cells cs e (0, 0))) : wr.frozen? ⟨g, j, none⟩ = false := by
  simp [World.frozen?, h]
theorem blk_set {wr : World} {g : Nat} {e : TypeId} {k : IntKind} {zs : List Int} (h : wr.heap[g]? = some (.cells (cellsOf k zs) e (0, 0))) (j : Nat) (x : Int) : (wr.setCell ⟨g, j, none⟩ (.int k x)).heap[g]? = some (.cells (cellsOf k (zs.set j x)) e (0, 0)) := by
  rw [heap_setCell_same _ _ _ _ _ _ h]
  simp [cellsOf, List.map_set]
theorem blk_reads {wr : World} {g : Nat} {e : TypeId} {k : IntKind} {zs : List Int} {fr : Nat × Nat} (h : wr.heap[g]? = some (.cells (cellsOf k zs) e fr)) (hs : zs.length ≤ 9223372036854775807) (hw : ∀ n ∈ zs, (Lit.int k n).wf = true) : Reads k wr (some ⟨g, 0, none⟩) zs.length zs.length zs :=
  ⟨rfl, Nat.le_refl _, hs, hw, (fun h => by cases h), .inr ⟨g, 0, rfl, fun i hi => by rw [cell_of_row _ _ _ _ _ _ h]; simp [cellsOf, hi]⟩⟩
/-- The first n of what reads. -/
theorem Reads.take {k : IntKind} {w : World} {a : Option Addr} {len cap : Nat} {zs : List Int} (h : Reads k w a len cap zs) {n : Nat} (hn : n ≤ len) : Reads k w a n cap (zs.take n) := by
  have hl := h.length
  refine ⟨by simp; omega, Nat.le_trans hn h.le, h.small, fun x hx => h.wf x (List.mem_of_mem_take hx), h.nil, ?_⟩
  by_cases h0 : n = 0
  · exact .inl h0
  · rcases h.cells with h1 | ⟨b, off, ha, hc⟩
    · omega
    · exact .inr ⟨b, off, ha, fun i hi => by rw [hc i (by omega)]; simp [List.getD, hi]⟩

def xI (a b : Int) : Int := ((a.toNat ^^^ b.toNat : Nat) : Int)
theorem xI_range {a b : Int} (ha : 0 ≤ a ∧ a < 256) (hb : 0 ≤ b ∧ b < 256) : 0 ≤ xI a b ∧ xI a b < 256 := by
  have := Nat.xor_lt_two_pow (n := 8) (x := a.toNat) (y := b.toNat) (by omega) (by omega)
  unfold xI
  omega
theorem xI_bits {a b : Int} (ha : 0 ≤ a ∧ a < 256) (hb : 0 ≤ b ∧ b < 256) : bits .xor .u8 a b = xI a b := u8_xor a b ha.1 ha.2 hb.1 hb.2

/-- Both texts changed by one another, up to place k; zeros behind. -/
def both (n : Nat) (za zb : List Int) (k : Nat) : List Int := List.zipWith xI (za.take k) (zb.take k) ++ List.replicate (n - k) 0
theorem both_length {n : Nat} {za zb : List Int} {k : Nat} (ha : n ≤ za.length) (hb : n ≤ zb.length) (hk : k ≤ n) : (both n za zb k).length = n := by
  simp [both]; omega
theorem both_set {n : Nat} {za zb : List Int} {k : Nat} (ha : n ≤ za.length) (hb : n ≤ zb.length) (hk : k < n) : (both n za zb k).set k (xI (za.getD k 0) (zb.getD k 0)) = both n za zb (k + 1) := by
  have hl : (List.zipWith xI (za.take k) (zb.take k)).length = k := by simp; omega
  have h1 : za.take (k + 1) = za.take k ++ [za[k]'(by omega)] := List.take_succ_eq_append_getElem (by omega)
  have h2 : zb.take (k + 1) = zb.take k ++ [zb[k]'(by omega)] := List.take_succ_eq_append_getElem (by omega)
  have h3 : List.replicate (n - k) (0 : Int) = 0 :: List.replicate (n - (k + 1)) 0 := by rw [show n - k = (n - (k + 1)) + 1 by omega]; rfl
  unfold both
  rw [h1, h2, List.zipWith_append (by simp; omega), List.set_append_right _ _ (by omega), hl, h3]
  simp [List.getD, List.getElem?_eq_getElem (show k < za.length by omega), List.getElem?_eq_getElem (show k < zb.length by omega)]
theorem both_wf {n : Nat} {za zb : List Int} (ha : ∀ x ∈ za, 0 ≤ x ∧ x < 256) (hb : ∀ x ∈ zb, 0 ≤ x ∧ x < 256) (k : Nat) : ∀ x ∈ both n za zb k, (Lit.int .u8 x).wf = true := by
  intro x hx
  have hr : 0 ≤ x ∧ x < 256 := by
    rcases List.mem_append.1 hx with hx | hx
    · rw [List.zipWith_eq_zipWith_take_min] at hx
      obtain ⟨i, hi, rfl⟩ := List.mem_iff_getElem.1 hx
      rw [List.getElem_zipWith]
      exact xI_range (ha _ (by simp only [List.getElem_take]; exact List.getElem_mem _)) (hb _ (by simp only [List.getElem_take]; exact List.getElem_mem _))
    · simp at hx; omega
  have h1 : IntKind.u8.min = 0 := rfl
  have h2 : IntKind.u8.max = 255 := rfl
  simp only [Lit.wf, Bool.and_eq_true, decide_eq_true_eq]
  omega
theorem both_end {n : Nat} {za zb : List Int} : both n za zb n = List.zipWith xI (za.take n) (zb.take n) := by simp [both]
theorem adds_law {n : Nat} {za zb : List Int} (hla : n ≤ za.length) (hlb : n ≤ zb.length) (ha : ∀ x ∈ za, 0 ≤ x ∧ x < 256) (hb : ∀ x ∈ zb, 0 ≤ x ∧ x < 256) :
    moreI 0 (both n za zb n) = bits .xor .u32 (bits .xor .u32 (moreI 0 (za.take n)) (moreI 0 (zb.take n))) (moreI 0 (List.replicate n 0)) := by
  have hA : ∀ x ∈ (za.take n).map Int.toNat, x < 256 := by
    intro x hx
    simp only [List.mem_map] at hx
    obtain ⟨y, hy, rfl⟩ := hx
    have := ha y (List.mem_of_mem_take hy)
    omega
  have hB : ∀ x ∈ (zb.take n).map Int.toNat, x < 256 := by
    intro x hx
    simp only [List.mem_map] at hx
    obtain ⟨y, hy, rfl⟩ := hx
    have := hb y (List.mem_of_mem_take hy)
    omega
  have hZ : ∀ x ∈ (List.replicate n (0 : Int)).map Int.toNat, x < 256 := by
    intro x hx
    simp at hx
    omega
  have la := Crc.more_lt (s := 0) (by omega) hA
  have lb := Crc.more_lt (s := 0) (by omega) hB
  have lz := Crc.more_lt (s := 0) (by omega) hZ
  have h := Crc.more_adds ((za.take n).map Int.toNat) ((zb.take n).map Int.toNat) (by simp; omega)
  unfold moreI
  rw [Int.toNat_zero, xorN _ _ la lb, xorN _ _ (Crc.xor_lt la lb) lz, both_end]
  have e1 : (List.zipWith xI (za.take n) (zb.take n)).map Int.toNat = List.zipWith (· ^^^ ·) ((za.take n).map Int.toNat) ((zb.take n).map Int.toNat) := by
    rw [List.map_zipWith, List.zipWith_map]
    rfl
  have e2 : (List.replicate n (0 : Int)).map Int.toNat = List.replicate ((za.take n).map Int.toNat).length 0 := by
    simp [Nat.min_eq_left hla]
  rw [e1, e2, h]
end Go.Proofs.Ytkehdagodeaepaa
