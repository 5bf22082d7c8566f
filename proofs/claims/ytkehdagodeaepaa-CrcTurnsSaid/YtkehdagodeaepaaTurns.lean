/- Bytes of which up to four, side by side, are changed: the lists, and that the sum tells. -/
import Derived.Test.YtkehdagodeaepaaAdds
import Derived.Laws.BytesArg
import Derived.Lib.Strings
namespace Go.Proofs.Ytkehdagodeaepaa
open Go.RowKit

/-- Bytes, of which k from place A on are changed. -/
def turn (z by_ : List Int) (A : Nat) : Nat → List Int
  | 0 => z
  | k + 1 => (turn z by_ A k).set (A + k) (xI ((turn z by_ A k).getD (A + k) 0) (by_.getD k 0))
theorem turn_length (z by_ : List Int) (A k : Nat) : (turn z by_ A k).length = z.length := by
  induction k with
  | zero => rfl
  | succ k ih => simp [turn, ih]
theorem turn_take (z by_ : List Int) (A k : Nat) : (turn z by_ A k).take A = z.take A := by
  induction k with
  | zero => rfl
  | succ k ih =>
    rw [turn, List.take_set_of_le (by omega), ih]
theorem turn_drop (z by_ : List Int) (A k : Nat) : (turn z by_ A k).drop (A + k) = z.drop (A + k) := by
  induction k with
  | zero => rfl
  | succ k ih =>
    rw [turn, List.drop_set_of_lt (by omega), ← Nat.add_assoc, ← List.drop_drop, ih, List.drop_drop]
theorem turn_range {z by_ : List Int} (hz : ∀ x ∈ z, 0 ≤ x ∧ x < 256) (hb : ∀ x ∈ by_, 0 ≤ x ∧ x < 256) (A k : Nat) : ∀ x ∈ turn z by_ A k, 0 ≤ x ∧ x < 256 := by
  have hget : ∀ (l : List Int), (∀ x ∈ l, 0 ≤ x ∧ x < 256) → ∀ i, 0 ≤ l.getD i 0 ∧ l.getD i 0 < 256 := by
    intro l hl i
    by_cases hi : i < l.length
    · rw [List.getD, List.getElem?_eq_getElem hi]; exact hl _ (List.getElem_mem _)
    · rw [List.getD, List.getElem?_eq_none (by omega)]; simp
  induction k with
  | zero => exact hz
  | succ k ih =>
    intro x hx
    rw [turn] at hx
    rcases List.mem_or_eq_of_mem_set hx with hx | rfl
    · exact ih x hx
    · exact xI_range (hget _ ih _) (hget _ hb _)
theorem nat_range {l : List Int} (h : ∀ x ∈ l, 0 ≤ x ∧ x < 256) : ∀ x ∈ l.map Int.toNat, x < 256 := by
  intro x hx
  simp only [List.mem_map] at hx
  obtain ⟨y, hy, rfl⟩ := hx
  have := h y hy
  omega
theorem map_toNat_inj : ∀ {a b : List Int}, (∀ x ∈ a, 0 ≤ x ∧ x < 256) → (∀ x ∈ b, 0 ≤ x ∧ x < 256) → a.map Int.toNat = b.map Int.toNat → a = b
  | [], [], _, _, _ => rfl
  | [], _ :: _, _, _, h => by simp at h
  | _ :: _, [], _, _, h => by simp at h
  | x :: r, y :: s, ha, hb, h => by
    simp only [List.map_cons, List.cons.injEq] at h
    have h1 := ha x (by simp)
    have h2 := hb y (by simp)
    rw [show x = y by omega, map_toNat_inj (fun z hz => ha z (by simp [hz])) (fun z hz => hb z (by simp [hz])) h.2]
theorem turns_law {z c : List Int} {A k : Nat} (hk : k ≤ 4) (hl : c.length = z.length) (ht : c.take A = z.take A) (hd : c.drop (A + k) = z.drop (A + k)) (hz : ∀ x ∈ z, 0 ≤ x ∧ x < 256) (hc : ∀ x ∈ c, 0 ≤ x ∧ x < 256)
    (h : moreI 0 c = moreI 0 z) : c = z := by
  have split : ∀ l : List Int, l.map Int.toNat = (l.take A).map Int.toNat ++ (((l.drop A).take k).map Int.toNat ++ (l.drop (A + k)).map Int.toNat) := by
    intro l
    rw [← List.map_append, ← List.drop_drop, List.take_append_drop, ← List.map_append, List.take_append_drop]
  have h' : Crc.more 0 (c.map Int.toNat) = Crc.more 0 (z.map Int.toNat) := Int.ofNat_inj.1 h
  rw [split c, split z, ht, hd] at h'
  have hmid : ((c.drop A).take k).map Int.toNat = ((z.drop A).take k).map Int.toNat :=
    Crc.more_turns (by omega) (by simp [hl]) (by simp; omega) (nat_range fun x hx => hz x (List.mem_of_mem_take hx)) (nat_range fun x hx => hc x (List.mem_of_mem_drop (List.mem_of_mem_take hx))) (nat_range fun x hx => hz x (List.mem_of_mem_drop (List.mem_of_mem_take hx))) (nat_range fun x hx => hz x (List.mem_of_mem_drop hx)) h'
  have hall : c.map Int.toNat = z.map Int.toNat := by rw [split c, split z, ht, hd, hmid]
  exact map_toNat_inj hc hz hall
theorem strOfNums_inj {a b : List Int} (ha : ∀ x ∈ a, 0 ≤ x ∧ x < 256) (hb : ∀ x ∈ b, 0 ≤ x ∧ x < 256) (h : strOfNums a = strOfNums b) : a = b := by
  have h1 : (strOfNums a).data.toList = (strOfNums b).data.toList := by rw [h]
  rw [strOfNums_data, strOfNums_data] at h1
  apply map_toNat_inj ha hb
  have h2 : ∀ l : List Int, (∀ x ∈ l, 0 ≤ x ∧ x < 256) → l.map Int.toNat = (l.map fun n => UInt8.ofNat n.toNat).map UInt8.toNat := by
    intro l hl
    rw [List.map_map]
    apply List.map_congr_left
    intro x hx
    have := hl x hx
    simp
    omega
  rw [h2 a ha, h2 b hb, h1]
theorem turns_bool {z by_ : List Int} {A k : Nat} (hk : k ≤ 4) (hz : ∀ x ∈ z, 0 ≤ x ∧ x < 256) (hb : ∀ x ∈ by_, 0 ≤ x ∧ x < 256) :
    ((moreI 0 (turn z by_ A k) == moreI 0 z) == ((strOfNums (turn z by_ A k)).toList == (strOfNums z).toList)) = true := by
  have hc := turn_range hz hb A k
  by_cases e : turn z by_ A k = z
  · rw [e]; simp
  · have h1 : moreI 0 (turn z by_ A k) ≠ moreI 0 z := fun h => e (turns_law hk (turn_length z by_ A k) (turn_take z by_ A k) (turn_drop z by_ A k) hz hc h)
    have h2 : (strOfNums (turn z by_ A k)).toList ≠ (strOfNums z).toList := fun h => e (strOfNums_inj hc hz (by
      have h3 : (strOfNums (turn z by_ A k)).data.toList = (strOfNums z).data.toList := by rw [← Lib.toList_data, ← Lib.toList_data, h]
      rw [strOfNums, strOfNums] at h3 ⊢
      exact congrArg (fun l : List UInt8 => (⟨l.toArray⟩ : ByteArray)) h3))
    rw [beq_eq_false_iff_ne.2 h1, beq_eq_false_iff_ne.2 h2]
    rfl
end Go.Proofs.Ytkehdagodeaepaa
