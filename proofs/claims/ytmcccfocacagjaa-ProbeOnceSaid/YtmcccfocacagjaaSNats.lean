/- The bits of a slice of words; means are at most one. -/
import Derived.Test.YtmcccfocacagjaaSApp
import Derived.LoopTactic
namespace Go.Proofs.Ytmcccfocacagjaa
open Go.RowKit
/-- The bits of a slice of words. -/
def nats (zs : List Int) : List Nat := zs.map Int.toNat
theorem nats_lt {zs : List Int} (h : ∀ n ∈ zs, (Lit.int .u64 n).wf = true) : ∀ x ∈ nats zs, x < 18446744073709551616 := by
  intro x hx
  simp only [nats, List.mem_map] at hx
  obtain ⟨n, hn, rfl⟩ := hx
  obtain ⟨m, rfl, hm⟩ := u64_nat (h n hn)
  simpa using hm
theorem nats_get {zs : List Int} (h : ∀ n ∈ zs, (Lit.int .u64 n).wf = true) (k : Nat) (hk : k < zs.length) : zs.getD k 0 = ((nats zs).getD k 0 : Nat) := by
  obtain ⟨m, hm, _⟩ := u64_nat (h _ (List.getElem_mem hk))
  simp [nats, List.getD, hk, hm]
theorem nats_len (zs : List Int) : (nats zs).length = zs.length := by simp [nats]
theorem fi_mono {n m : Nat} (h : n ≤ m) : fi n ≤ fi m := nearest_mono _ h
theorem meanF_le (l : List Nat) (h : l.length ≤ 1000) : meanF l ≤ ONE := by
  unfold meanF
  exact divF_le (fi_pos (by omega) (by omega)) (Nat.le_trans (sumF_le l (by omega)) (fi_mono (by omega)))
theorem f_cell {w : World} {g : Nat} {x : Nat} {e : TypeId} {fr : Nat × Nat} (h : w.heap[g]? = some (.cells #[.float .f64 x] e fr)) : ∀ j u, [Value.float .f64 x][j]? = some u → w.cell? ((⟨g, 0, none⟩ : Addr).add j) = some u := by
  intro j u hu
  have hj : j = 0 := by
    rcases j with _ | j
    · rfl
    · simp at hu
  subst hj
  rw [show (⟨g, 0, none⟩ : Addr).add 0 = ⟨g, 0, none⟩ by simp [Addr.add], cell_of_row _ _ _ _ _ _ h]
  simpa using hu
theorem fls_one (l : List Nat) : ∀ u ∈ fls l, u.oneCell' = true := by
  intro u hu
  simp only [fls, List.mem_map] at hu
  obtain ⟨x, _, rfl⟩ := hu
  rfl
theorem take_mem {l : List Nat} (h : ∀ x ∈ l, x < 18446744073709551616) (k : Nat) : ∀ x ∈ l.take k, x < 18446744073709551616 := fun x hx => h x (List.mem_of_mem_take hx)
end Go.Proofs.Ytmcccfocacagjaa
