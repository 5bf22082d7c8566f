/- What GrantOne keeps: who has a slot, and since when. -/
import Derived.Test.YtmhggpmhekeemaaBackLaw
namespace Go.Proofs.Ytmhggpmhekeemaa
open Go.RowKit
/-- For each slot: no one has it; or it is granted so; or that was ahead of the node's being up. -/
structure Keeps (S : Nat) (boot t : Int) (gs : List G3) (hs ss : List Int) : Prop where
  lh : hs.length = 9
  ls : ss.length = 9
  b0 : 0 ≤ boot
  b1 : boot ≤ t
  all : ∀ s, s < S → hs.getD s 0 < 0 ∨ ((0 ≤ ss.getD s 0 ∧ ss.getD s 0 ≤ t) ∧ (((gs.getD s gnone).node = hs.getD s 0 ∧ (gs.getD s gnone).since = ss.getD s 0) ∨ ss.getD s 0 ≤ boot))
theorem Keeps.later {S : Nat} {boot t t' : Int} {gs : List G3} {hs ss : List Int} (h : Keeps S boot t gs hs ss) (ht : t ≤ t') : Keeps S boot t' gs hs ss :=
  ⟨h.lh, h.ls, h.b0, Int.le_trans h.b1 ht, fun s hs => (h.all s hs).imp id fun ⟨⟨a, b⟩, c⟩ => ⟨⟨a, Int.le_trans b ht⟩, c⟩⟩
theorem getD_iset (l : List Int) (k j : Nat) (x : Int) (h : k < l.length) : (l.set k x).getD j 0 = if j = k then x else l.getD j 0 := by
  by_cases e : j = k
  · subst e; simp [List.getD, h]
  · rw [if_neg e]; simp [List.getD, Ne.symm e]
theorem getD_gset (l : List G3) (k j : Nat) (x : G3) (h : k < l.length) : (l.set k x).getD j gnone = if j = k then x else l.getD j gnone := by
  by_cases e : j = k
  · subst e; simp [List.getD, h]
  · rw [if_neg e]; simp [List.getD, Ne.symm e]
theorem keeps_new {S : Nat} {t : Int} (ht : 0 ≤ t) (ss : List Int) (hss : ss.length = 9) (gs : List G3) : Keeps S t t gs (List.replicate 9 (-1)) ss :=
  ⟨by simp, hss, ht, Int.le_refl _, fun s _ => by
    by_cases h9 : s < 9
    · left; rw [List.getD, List.getElem?_replicate, if_pos h9]; decide
    · right
      have e : ss.getD s 0 = 0 := by rw [List.getD, List.getElem?_eq_none (by omega)]; rfl
      rw [e]; exact ⟨⟨Int.le_refl _, ht⟩, .inr ht⟩⟩
theorem Keeps.boot {S : Nat} {boot t : Int} {gs : List G3} {hs ss : List Int} (h : Keeps S boot t gs hs ss) : Keeps S t t (List.replicate S gnone) hs ss :=
  ⟨h.lh, h.ls, Int.le_trans h.b0 h.b1, Int.le_refl _, fun s q => (h.all s q).imp id fun ⟨a, _⟩ => ⟨a, .inr a.2⟩⟩
theorem ask_facts {C : Cv} {boot : Int} {n : Nat} {gs : List G3} {slot node nonce now : Int} (h : askB C boot n gs slot node nonce now = true) :
    (0 ≤ slot ∧ slot < C.slots) ∧ (0 ≤ node ∧ node < C.nodes) ∧ C.grant ≤ now - boot ∧
    ((gs.getD slot.toNat gnone).node < 0 ∨ (gs.getD slot.toNat gnone).node = node ∨ C.grant ≤ now - (gs.getD slot.toNat gnone).since) := by
  unfold askB mayB freeB timeB at h
  simp only [Bool.and_eq_true, Bool.or_eq_true, decide_eq_true_eq] at h
  obtain ⟨⟨_, _, a, b⟩, ⟨c, d, _, _⟩, ⟨_, _, e⟩, f⟩ := h
  refine ⟨⟨a, b⟩, ⟨c, d⟩, e, ?_⟩
  rcases f with (f | f) | f
  · exact .inl f
  · exact .inr (.inl f.1)
  · exact .inr (.inr f.2.2)
/-- Who is granted a slot does so rightly, and what is kept stays. -/
theorem Keeps.ask {C : Cv} {S : Nat} {boot t : Int} {gs : List G3} {hs ss : List Int} {slot node nonce : Int} (h : Keeps S boot t gs hs ss) (hS : C.slots = (S : Int)) (h9 : S ≤ 9) (hl : gs.length = S) (hy : askB C boot S gs slot node nonce t = true) :
    (hs.getD slot.toNat 0 < 0 ∨ hs.getD slot.toNat 0 = node ∨ ((0 ≤ ss.getD slot.toNat 0 ∧ ss.getD slot.toNat 0 ≤ t) ∧ C.grant ≤ t - ss.getD slot.toNat 0)) ∧
    Keeps S boot t (askG C boot S gs slot node nonce t) (hs.set slot.toNat node) (ss.set slot.toNat t) := by
  obtain ⟨⟨a, b⟩, ⟨c, d⟩, e, f⟩ := ask_facts hy
  have hk : slot.toNat < S := by omega
  refine ⟨?_, by simp [h.lh], by simp [h.ls], h.b0, h.b1, fun s q => ?_⟩
  · rcases h.all _ hk with g | ⟨g0, g | g⟩
    · exact .inl g
    · rcases f with f | f | f
      · exact .inl (by rw [← g.1]; exact f)
      · exact .inr (.inl (by rw [← g.1]; exact f))
      · exact .inr (.inr ⟨g0, by rw [← g.2]; exact f⟩)
    · exact .inr (.inr ⟨g0, by omega⟩)
  · rw [askG_yes hy, getD_iset _ _ _ _ (by rw [h.lh]; omega), getD_iset _ _ _ _ (by rw [h.ls]; omega), getD_gset _ _ _ _ (by omega)]
    by_cases q2 : s = slot.toNat
    · rw [if_pos q2, if_pos q2, if_pos q2]
      have := h.b0
      have := h.b1
      exact .inr ⟨⟨by omega, Int.le_refl _⟩, .inl ⟨rfl, rfl⟩⟩
    · rw [if_neg q2, if_neg q2, if_neg q2]
      exact h.all s q
/-- Told that a slot is not used any more: who has it has it no more. -/
theorem Keeps.free {C : Cv} {S : Nat} {boot t : Int} {gs : List G3} {hs ss : List Int} {slot node nonce : Int} (h : Keeps S boot t gs hs ss) (hS : C.slots = (S : Int)) (h9 : S ≤ 9) (hl : gs.length = S) :
    ((0 ≤ slot ∧ slot < C.slots) ∧ hs.getD slot.toNat 0 = node → Keeps S boot t (freeG C S gs slot node nonce) (hs.set slot.toNat (-1)) ss) ∧
    (¬ ((0 ≤ slot ∧ slot < C.slots) ∧ hs.getD slot.toNat 0 = node) → Keeps S boot t (freeG C S gs slot node nonce) hs ss) := by
  refine ⟨fun ⟨⟨a, b⟩, e⟩ => ⟨by simp [h.lh], h.ls, h.b0, h.b1, fun s q => ?_⟩, fun hn => ⟨h.lh, h.ls, h.b0, h.b1, fun s q => ?_⟩⟩
  · rw [getD_iset _ _ _ _ (by rw [h.lh]; omega)]
    by_cases q2 : s = slot.toNat
    · rw [if_pos q2]; exact .inl (by decide)
    · rw [if_neg q2]
      unfold freeG
      split
      · rw [getD_gset _ _ _ _ (by omega), if_neg q2]; exact h.all s q
      · exact h.all s q
  · unfold freeG
    split
    · rename_i hc
      obtain ⟨hm, h1, _⟩ := hc
      unfold mayB at hm
      simp only [Bool.and_eq_true, decide_eq_true_eq] at hm
      obtain ⟨_, _, a, b⟩ := hm
      rw [getD_gset _ _ _ _ (by omega)]
      by_cases q2 : s = slot.toNat
      · subst q2
        rw [if_pos rfl]
        rcases h.all _ q with g | ⟨g0, g | g⟩
        · exact .inl g
        · exact absurd ⟨⟨a, b⟩, by rw [← g.1, h1]⟩ hn
        · exact .inr ⟨g0, .inr g⟩
      · rw [if_neg q2]; exact h.all s q
    · exact h.all s q
end Go.Proofs.Ytmhggpmhekeemaa
