/- Two nodes never hold one slot at the same tick: the plain law. -/
import Derived.Test.YtmhggpmhekeemaaLAwake
import Derived.Test.YtmhggpmhekeemaaOneLaw
namespace Go.Proofs.Ytmhggpmhekeemaa
open Go.RowKit
/-- What is known of a node that A asks at tick tA, and B at tB: A's ask is done if tA < pA, B's if tB < pB; its clock has gone G times. -/
structure NI (p gr : Int) (tA tB pA pB G : Nat) (ck : Int) (g : G3) (a b : Bool) : Prop where
  ha : a = true → tA < pA ∧ tA < G ∧ (pB ≤ tB → g.node = 0 ∧ ck - g.since ≤ ((G : Int) - 1 - tA) * p)
  hb : b = true → tB < pB ∧ tB < G ∧ (pA ≤ tA → g.node = 1 ∧ ck - g.since ≤ ((G : Int) - 1 - tB) * p)
  hab : a = true → b = true → (tA ≤ tB → gr ≤ ((tB : Int) - tA) * p) ∧ (tB < tA → gr ≤ ((tA : Int) - tB) * p)
theorem ni_start (p gr : Int) (tA tB : Nat) (ck : Int) (g : G3) : NI p gr tA tB 0 0 0 ck g false false := ⟨nofun, nofun, nofun⟩
theorem mul_next {p d : Int} {G t : Nat} (h : d ≤ p) : ((G : Int) - 1 - t) * p + d ≤ (((G + 1 : Nat) : Int) - 1 - t) * p := by
  have e : ((G + 1 : Nat) : Int) - 1 - t = ((G : Int) - 1 - t) + 1 := by omega
  rw [e, Int.add_mul, Int.one_mul]
  omega
theorem NI.gain {p gr d : Int} {tA tB pA pB G : Nat} {ck : Int} {g : G3} {a b : Bool} (h : NI p gr tA tB pA pB G ck g a b) (hd : d ≤ p) : NI p gr tA tB pA pB (G + 1) (ck + d) g a b := by
  refine ⟨fun ea => ?_, fun eb => ?_, h.hab⟩
  · obtain ⟨h1, h2, h3⟩ := h.ha ea
    refine ⟨h1, by omega, fun q => ?_⟩
    obtain ⟨h4, h5⟩ := h3 q
    have := mul_next (G := G) (t := tA) hd
    exact ⟨h4, by omega⟩
  · obtain ⟨h1, h2, h3⟩ := h.hb eb
    refine ⟨h1, by omega, fun q => ?_⟩
    obtain ⟨h4, h5⟩ := h3 q
    have := mul_next (G := G) (t := tB) hd
    exact ⟨h4, by omega⟩
/-- A's turn at tick t goes by: it did not ask, or was refused. -/
theorem NI.skipA {p gr : Int} {tA tB t pB G : Nat} {ck : Int} {g : G3} {a b : Bool} (h : NI p gr tA tB t pB G ck g a b) : NI p gr tA tB (t + 1) pB G ck g a b := by
  refine ⟨fun ea => ?_, fun eb => ?_, h.hab⟩
  · obtain ⟨h1, h2, h3⟩ := h.ha ea; exact ⟨by omega, h2, h3⟩
  · obtain ⟨h1, h2, h3⟩ := h.hb eb; exact ⟨h1, h2, fun q => h3 (by omega)⟩
theorem NI.skipB {p gr : Int} {tA tB t pA G : Nat} {ck : Int} {g : G3} {a b : Bool} (h : NI p gr tA tB pA t G ck g a b) : NI p gr tA tB pA (t + 1) G ck g a b := by
  refine ⟨fun ea => ?_, fun eb => ?_, h.hab⟩
  · obtain ⟨h1, h2, h3⟩ := h.ha ea; exact ⟨h1, h2, fun q => h3 (by omega)⟩
  · obtain ⟨h1, h2, h3⟩ := h.hb eb; exact ⟨by omega, h2, h3⟩
theorem zero_le (t : Nat) (ck p : Int) : ck - ck ≤ (((t + 1 : Nat) : Int) - 1 - t) * p := by
  have e : ((t + 1 : Nat) : Int) - 1 - t = 0 := by omega
  rw [e]; omega
/-- A is granted the slot, at tick t. -/
theorem NI.yesA {p gr : Int} {tB t : Nat} {ck : Int} {g g' : G3} {b : Bool} (h : NI p gr t tB t t (t + 1) ck g false b) (hn : g'.node = 0) (hs : g'.since = ck)
    (hy : g.node < 0 ∨ g.node = 0 ∨ gr ≤ ck - g.since) : NI p gr t tB (t + 1) t (t + 1) ck g' true b := by
  refine ⟨fun _ => ⟨by omega, by omega, fun _ => ⟨hn, by rw [hs]; exact zero_le t ck p⟩⟩, fun eb => ?_, fun _ eb => ?_⟩
  · obtain ⟨h1, h2, h3⟩ := h.hb eb; exact ⟨h1, h2, fun q => by omega⟩
  · obtain ⟨h1, h2, h3⟩ := h.hb eb
    obtain ⟨h4, h5⟩ := h3 (Nat.le_refl _)
    refine ⟨fun q => by omega, fun _ => ?_⟩
    have e : ((t + 1 : Nat) : Int) - 1 - tB = (t : Int) - tB := by omega
    rw [e] at h5
    rcases hy with y | y | y <;> omega
/-- B is granted the slot, at tick t. -/
theorem NI.yesB {p gr : Int} {tA t : Nat} {ck : Int} {g g' : G3} {a : Bool} (h : NI p gr tA t (t + 1) t (t + 1) ck g a false) (hn : g'.node = 1) (hs : g'.since = ck)
    (hy : g.node < 0 ∨ g.node = 1 ∨ gr ≤ ck - g.since) : NI p gr tA t (t + 1) (t + 1) (t + 1) ck g' a true := by
  refine ⟨fun ea => ?_, fun _ => ⟨by omega, by omega, fun _ => ⟨hn, by rw [hs]; exact zero_le t ck p⟩⟩, fun ea _ => ?_⟩
  · obtain ⟨h1, h2, h3⟩ := h.ha ea; exact ⟨h1, h2, fun q => by omega⟩
  · obtain ⟨h1, h2, h3⟩ := h.ha ea
    obtain ⟨h4, h5⟩ := h3 (Nat.le_refl _)
    refine ⟨fun _ => ?_, fun q => by omega⟩
    have e : ((t + 1 : Nat) : Int) - 1 - tA = (t : Int) - tA := by omega
    rw [e] at h5
    rcases hy with y | y | y <;> omega
/-- A lease that was asked for at tick ta: its clock has gone on since. -/
def AI (q : Int) (ta G : Nat) (c : Int) (asked : Int) : Prop := ta < G → ((G : Int) - 1 - ta) * q ≤ c - asked
theorem AI.gain {q d : Int} {ta G : Nat} {c asked : Int} (h : AI q ta G c asked) (hd : q ≤ d) (hG : ta < G) : AI q ta (G + 1) (c + d) asked := by
  intro _
  have h1 := h hG
  have e : ((G + 1 : Nat) : Int) - 1 - ta = ((G : Int) - 1 - ta) + 1 := by omega
  rw [e, Int.add_mul, Int.one_mul]
  omega
theorem ai_now (q : Int) (t : Nat) (c : Int) : AI q t (t + 1) c c := by
  intro _
  have e : ((t + 1 : Nat) : Int) - 1 - t = 0 := by omega
  rw [e]; omega
/-- Two majorities have a node in both. -/
theorem count_meet (l : List Nat) (f g : Nat → Bool) (h : ∀ n, n ∈ l → ¬ (f n = true ∧ g n = true)) : (l.filter f).length + (l.filter g).length ≤ l.length := by
  induction l with
  | nil => simp
  | cons a r ih =>
    have := ih fun n hn => h n (List.mem_cons_of_mem _ hn)
    have ha := h a List.mem_cons_self
    cases hf : f a <;> cases hg : g a
    · simp [hf, hg]; omega
    · simp [hf, hg]; omega
    · simp [hf, hg]; omega
    · exact absurd ⟨hf, hg⟩ ha
theorem cnt_nodes {nodes : Int} (h0 : 0 ≤ nodes) (h9 : nodes ≤ 9) (P : Int → Bool) : cntL nodes P = ((List.range nodes.toNat).filter fun n : Nat => P n).length := by
  have e := cntK_all (nodes := nodes) (k := nodes.toNat) (P := P) (by omega) (.inl (by omega))
  rw [← e]
  unfold cntK
  congr 1
  refine List.filter_congr fun n hn => ?_
  have : n < nodes.toNat := by simpa using hn
  have h1 : decide ((n : Int) < nodes) = true := decide_eq_true (by omega)
  rw [h1]; simp
theorem meet {nodes : Int} (h0 : 0 ≤ nodes) (h9 : nodes ≤ 9) {P Q : Int → Bool} (hP : nodes / 2 + 1 ≤ cntL nodes P) (hQ : nodes / 2 + 1 ≤ cntL nodes Q) : ∃ n : Nat, (n : Int) < nodes ∧ P n = true ∧ Q n = true := by
  apply Classical.byContradiction
  intro hno
  have hl : ∀ n : Nat, n ∈ List.range nodes.toNat → (n : Int) < nodes := by
    intro n hn
    have : n < nodes.toNat := by simpa using hn
    omega
  have := count_meet (List.range nodes.toNat) (fun n => P n) (fun n => Q n) (fun n hn hab => hno ⟨n, hl n hn, hab.1, hab.2⟩)
  rw [← cnt_nodes h0 h9, ← cnt_nodes h0 h9, List.length_range] at this
  omega
/-- The clocks' law: no time is long enough. -/
theorem no_time {gr hold p q D : Int} (hp : 0 < p) (hq : 0 ≤ q) (h1 : gr ≤ D * p) (h2 : D * q < hold) (h : hold * p < gr * q) : False := by
  have a : gr * q ≤ D * p * q := Int.mul_le_mul_of_nonneg_right h1 hq
  have b : D * q * p ≤ (hold - 1) * p := Int.mul_le_mul_of_nonneg_right (by omega) (by omega)
  have c : D * p * q = D * q * p := by rw [Int.mul_assoc, Int.mul_comm p q, ← Int.mul_assoc]
  have d : (hold - 1) * p = hold * p - p := by rw [Int.sub_mul, Int.one_mul]
  omega
theorem held_parts {C : Cv} {L : Lv} {now : Int} (h : heldB C L now = true) : C.nodes / 2 + 1 ≤ cntL C.nodes (inB L.fs) ∧ now - L.asked < C.hold := by
  have hc : chk C = true := by unfold heldB holdsB at h; simp only [Bool.and_eq_true] at h; exact h.1.1
  have f := held_facts h
  unfold heldB majI at h
  rw [if_pos hc] at h
  simp only [Bool.and_eq_true, decide_eq_true_eq] at h
  exact ⟨h.2, f.2.2.2.1⟩
/-- Never both at once. -/
theorem never {C : Cv} {A B : Lv} {c0 c1 : Int} {t ta tb : Nat} {tA tB : Nat → Nat} {ck : Nat → Int} {g : Nat → G3} (hc : chk C = true)
    (hta : ∀ n, ta ≤ tA n) (htb : ∀ n, tb ≤ tB n) (ht1 : ta ≤ t) (ht2 : tb ≤ t)
    (h : ∀ n : Nat, (n : Int) < C.nodes → NI (1000 + C.rho) C.grant (tA n) (tB n) (t + 1) (t + 1) (t + 1) (ck n) (g n) (inB A.fs n) (inB B.fs n))
    (hA : AI (1000 - C.rho) ta (t + 1) c0 A.asked) (hB : AI (1000 - C.rho) tb (t + 1) c1 B.asked) (h1 : heldB C A c0 = true) (h2 : heldB C B c1 = true) : False := by
  have cf := chk_facts hc
  obtain ⟨a1, a2⟩ := held_parts h1
  obtain ⟨b1, b2⟩ := held_parts h2
  obtain ⟨n, hn, ia, ib⟩ := meet (by omega) (by omega) a1 b1
  have hN := h n hn
  have hq : (0 : Int) ≤ 1000 - C.rho := by omega
  have e1 := hA (by omega)
  have e2 := hB (by omega)
  obtain ⟨x1, x2⟩ := hN.hab ia ib
  obtain ⟨y1, _, _⟩ := hN.ha ia
  obtain ⟨z1, _, _⟩ := hN.hb ib
  have u1 := hta n
  have u2 := htb n
  have eG : ∀ k : Nat, (((t + 1 : Nat) : Int) - 1 - k) = (t : Int) - k := fun k => by omega
  rw [eG] at e1 e2
  by_cases hle : tA n ≤ tB n
  · have hD : ((tB n : Int) - tA n) * (1000 - C.rho) ≤ ((t : Int) - ta) * (1000 - C.rho) := Int.mul_le_mul_of_nonneg_right (by omega) hq
    exact no_time (p := 1000 + C.rho) (q := 1000 - C.rho) (by omega) hq (x1 hle) (by omega) cf.2.2.2.2.2.2.2.1
  · have hD : ((tA n : Int) - tB n) * (1000 - C.rho) ≤ ((t : Int) - tb) * (1000 - C.rho) := Int.mul_le_mul_of_nonneg_right (by omega) hq
    exact no_time (p := 1000 + C.rho) (q := 1000 - C.rho) (by omega) hq (x2 (by omega)) (by omega) cf.2.2.2.2.2.2.2.1
end Go.Proofs.Ytmhggpmhekeemaa
