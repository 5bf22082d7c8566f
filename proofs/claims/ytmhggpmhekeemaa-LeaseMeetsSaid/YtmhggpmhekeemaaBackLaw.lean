/- What a node grants, takes back, and grants again: plain laws. -/
import Derived.Test.YtmhggpmhekeemaaGAwake
namespace Go.Proofs.Ytmhggpmhekeemaa
open Go.RowKit
theorem getD_set (l : List G3) (k : Nat) (x : G3) (h : k < l.length) : (l.set k x).getD k gnone = x := by
  rw [List.getD, List.getElem?_set_self h]; rfl
theorem getD_rep (n k : Nat) : (List.replicate n gnone).getD k gnone = gnone := by
  rw [List.getD, List.getElem?_replicate]; split <;> rfl
theorem grant_two {C : Cv} (hc : chk C = true) : 2 ≤ C.grant := by
  have h := chk_facts hc
  have h1 : 1 * (1000 + C.rho) ≤ C.hold * (1000 + C.rho) := Int.mul_le_mul_of_nonneg_right (by omega) (by omega)
  by_cases h2 : C.grant < 2
  · have : C.grant = 1 := by omega
    rw [this] at h; omega
  · omega
theorem free_yes {C : Cv} {a b : Int} (hc : chk C = true) (h0 : 0 ≤ a) (h1 : b ≤ 4611686018427387904) (h2 : a ≤ b) (h : C.grant ≤ b - a) : freeB C a b = true := by
  unfold freeB timeB; rw [hc]; simp only [Bool.true_and, Bool.and_eq_true, decide_eq_true_eq]; omega
theorem free_no {C : Cv} {a b : Int} (h : b - a < C.grant) : freeB C a b = false := by
  unfold freeB timeB; rw [show decide (C.grant ≤ b - a) = false from decide_eq_false (by omega)]; simp
theorem may_yes {C : Cv} {S : Nat} {s : Int} (hc : chk C = true) (hS : C.slots = (S : Int)) (h0 : 0 ≤ s) (h1 : s < C.slots) : mayB C S s = true := by
  unfold mayB; rw [hc]; simp only [Bool.true_and, decide_eq_true_eq]; omega
theorem ask_true {C : Cv} {boot : Int} {S : Nat} {gs : List G3} {s a n now : Int} (hm : mayB C S s = true) (ha : 0 ≤ a ∧ a < C.nodes ∧ 0 ≤ n ∧ 0 ≤ now) (hf : freeB C boot now = true) (hg : (gs.getD s.toNat gnone).node < 0) : askB C boot S gs s a n now = true := by
  unfold askB; rw [hm, hf, decide_eq_true ha, decide_eq_true (Or.inl hg)]; rfl
theorem ask_boot {C : Cv} {boot : Int} {S : Nat} {gs : List G3} {s a n now : Int} (hf : freeB C boot now = false) : askB C boot S gs s a n now = false := by
  unfold askB; rw [hf]; simp
theorem ask_held {C : Cv} {boot : Int} {S : Nat} {gs : List G3} {s a n now : Int} (h1 : ¬ (gs.getD s.toNat gnone).node < 0) (h2 : ¬ (gs.getD s.toNat gnone).nonce < n) (h3 : freeB C (gs.getD s.toNat gnone).since now = false) : askB C boot S gs s a n now = false := by
  have h4 : ¬ ((gs.getD s.toNat gnone).node < 0 ∨ (gs.getD s.toNat gnone).node = a ∧ (gs.getD s.toNat gnone).nonce < n) := fun h => h.elim h1 (fun k => h2 k.2)
  unfold askB; rw [h3, decide_eq_false h4]; simp
theorem free_it {C : Cv} {S : Nat} {gs : List G3} {s a n : Int} (hm : mayB C S s = true) (h1 : (gs.getD s.toNat gnone).node = a) (h2 : (gs.getD s.toNat gnone).nonce = n) : freeG C S gs s a n = gs.set s.toNat gnone := by
  unfold freeG; rw [if_pos ⟨hm, h1, h2⟩]
theorem free_not {C : Cv} {S : Nat} {gs : List G3} {s a n : Int} (h : ¬ (gs.getD s.toNat gnone).nonce = n) : freeG C S gs s a n = gs := by
  unfold freeG; rw [if_neg (fun k => h k.2.2)]
theorem hold_it {C : Cv} {S : Nat} {gs : List G3} {s now : Int} (hm : mayB C S s = true) (hf : freeB C (gs.getD s.toNat gnone).since now = false) : holdG C S gs s now = (gs.getD s.toNat gnone).node := by
  unfold holdG; rw [if_pos ⟨hm, hf⟩]
structure BackFacts (C : Cv) (S : Nat) (s one two n now : Int) : Prop where
  b1 : askB C 0 S (List.replicate S gnone) s one n now = true
  b2 : askB C 0 S ((List.replicate S gnone).set s.toNat ⟨one, n, now⟩) s two n (now + 1) = false
  b3 : freeG C S ((List.replicate S gnone).set s.toNat ⟨one, n, now⟩) s one n = ((List.replicate S gnone).set s.toNat ⟨one, n, now⟩).set s.toNat gnone
  b4 : askB C 0 S (((List.replicate S gnone).set s.toNat ⟨one, n, now⟩).set s.toNat gnone) s two n (now + 1) = true
  b5 : freeG C S ((List.replicate S gnone).set s.toNat ⟨one, n, now⟩) s one (n + 1) = (List.replicate S gnone).set s.toNat ⟨one, n, now⟩
  b6 : askB C 0 S (List.replicate S gnone) s one n (C.grant - 1) = false
  b7 : holdG C S ((((List.replicate S gnone).set s.toNat ⟨one, n, now⟩).set s.toNat gnone).set s.toNat ⟨two, n, now + 1⟩) s (now + 1) = two
  b8 : holdG C S ((List.replicate S gnone).set s.toNat ⟨one, n, now⟩) s now = one
theorem backFacts {C : Cv} {S : Nat} {s one two n now : Int} (hc : chk C = true) (hS : C.slots = (S : Int)) (hs : 0 ≤ s ∧ s < C.slots) (h1 : 0 ≤ one ∧ one < C.nodes) (h2 : 0 ≤ two ∧ two < C.nodes) (hn : 0 ≤ n) (hw : C.grant ≤ now ∧ now < 4611686018427387904) : BackFacts C S s one two n now := by
  have hg := grant_two hc
  have hm := may_yes hc hS hs.1 hs.2
  have hl : s.toNat < (List.replicate S gnone).length := by rw [List.length_replicate]; omega
  have hl1 : s.toNat < ((List.replicate S gnone).set s.toNat ⟨one, n, now⟩).length := by rw [List.length_set]; exact hl
  have hl2 : s.toNat < (((List.replicate S gnone).set s.toNat ⟨one, n, now⟩).set s.toNat gnone).length := by rw [List.length_set]; exact hl1
  have g1 := getD_set _ s.toNat ⟨one, n, now⟩ hl
  have g2 := getD_set _ s.toNat gnone hl1
  have g3 := getD_set _ s.toNat ⟨two, n, now + 1⟩ hl2
  have gn : gnone.node = -1 := rfl
  refine ⟨?_, ?_, ?_, ?_, ?_, ?_, ?_, ?_⟩
  · exact ask_true hm (by omega) (free_yes hc (by omega) (by omega) (by omega) (by omega)) (by rw [getD_rep, gn]; omega)
  · exact ask_held (by rw [g1]; show ¬ one < 0; omega) (by rw [g1]; show ¬ n < n; omega) (by rw [g1]; exact free_no (by show now + 1 - now < _; omega))
  · exact free_it hm (by rw [g1]) (by rw [g1])
  · exact ask_true hm (by omega) (free_yes hc (by omega) (by omega) (by omega) (by omega)) (by rw [g2, gn]; omega)
  · exact free_not (by rw [g1]; show ¬ n = n + 1; omega)
  · exact ask_boot (free_no (by omega))
  · rw [hold_it hm (by rw [g3]; exact free_no (by show now + 1 - (now + 1) < _; omega)), g3]
  · rw [hold_it hm (by rw [g1]; exact free_no (by show now - now < _; omega)), g1]
end Go.Proofs.Ytmhggpmhekeemaa
