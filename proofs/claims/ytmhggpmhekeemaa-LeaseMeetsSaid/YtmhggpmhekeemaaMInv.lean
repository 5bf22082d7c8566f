/- What LeaseMeets keeps from tick to tick. -/
import Derived.Test.YtmhggpmhekeemaaMLaw
import Derived.Test.YtmhggpmhekeemaaMTold
namespace Go.Proofs.Ytmhggpmhekeemaa
open Go.RowKit
/-- A lease that was asked for (fl), by the clock c. -/
structure LI (C : Cv) (fl : Bool) (ta G : Nat) (c : Int) (L : Lv) : Prop where
  on : fl = true → (ta < G ∧ ((G : Int) - 1 - ta) * (1000 - C.rho) ≤ c - L.asked) ∧ L.slot = 0 ∧ L.nonce = 1
  cnt : L.fn = cntL C.nodes (inB L.fs)
  r0 : inI L.slot
  r1 : inI L.nonce
  r2 : inI L.asked
/-- What is known of all nodes: pA, pB tell how far each one's asks are done, G how often its clock has gone. -/
structure MI (C : Cv) (N ta tb : Nat) (wz : List Int) (pA pB G : Nat → Nat) (fa fb : Bool) (cs : List Int) (gs : Nat → List G3) (A B : Lv) : Prop where
  len : cs.length = 9
  rng : ∀ m, m < N → 0 ≤ cs.getD m 0 ∧ cs.getD m 0 ≤ 1073741824 + 2000 * (G m : Int)
  ni : ∀ m, m < N → NI (1000 + C.rho) C.grant (ta + waitN wz m) (tb + waitN wz (m + 9)) (pA m) (pB m) (G m) (cs.getD m 0) ((gs m).getD 0 gnone) (inB A.fs m) (inB B.fs m)
  la : LI C fa ta (G 0) (cs.getD 0 0) A
  lb : LI C fb tb (G 1) (cs.getD 1 0) B
def PP (t n m : Nat) : Nat := if m < n then t + 1 else t
theorem pp_lt {t n m : Nat} (h : m < n) : PP t n m = t + 1 := if_pos h
theorem pp_ge {t n m : Nat} (h : ¬ m < n) : PP t n m = t := if_neg h
def Z : Lv := ⟨0, 0, 0, none, 0, 0, []⟩
theorem inI0 : inI 0 := by unfold inI; omega
theorem inI1 : inI 1 := by unfold inI; omega
theorem cnt_empty (n : Int) : cntL n (inB []) = 0 := cnt_none fun y => by simp [inB]
theorem li_zero (C : Cv) (ta G : Nat) (c : Int) : LI C false ta G c Z := ⟨nofun, by show 0 = _; rw [show Z.fs = [] from rfl, cnt_empty], inI0, inI0, inI0⟩
theorem mi_start {C : Cv} {N ta tb : Nat} {wz : List Int} {cs : List Int} (gs : Nat → List G3) (hg : 0 ≤ C.grant ∧ C.grant ≤ 1073741824) (hl : cs.length = 9) (h : ∀ m, m < N → cs.getD m 0 = C.grant) :
    MI C N ta tb wz (fun _ => 0) (fun _ => 0) (fun _ => 0) false false cs gs Z Z :=
  ⟨hl, fun m q => by rw [h m q]; omega, fun m _ => by rw [show Z.fs = [] from rfl]; exact ni_start _ _ _ _ _ _, li_zero _ _ _ _, li_zero _ _ _ _⟩
theorem LI.gain {C : Cv} {fl : Bool} {ta G : Nat} {c d : Int} {L : Lv} (h : LI C fl ta G c L) (hd : 1000 - C.rho ≤ d) : LI C fl ta (G + 1) (c + d) L :=
  ⟨fun e => by
    obtain ⟨⟨a, b⟩, r⟩ := h.on e
    refine ⟨⟨by omega, ?_⟩, r⟩
    have e1 : ((G + 1 : Nat) : Int) - 1 - ta = ((G : Int) - 1 - ta) + 1 := by omega
    rw [e1, Int.add_mul, Int.one_mul]
    omega, h.cnt, h.r0, h.r1, h.r2⟩
/-- The clock of node n goes. -/
theorem MI.gain {C : Cv} {N ta tb t n : Nat} {wz : List Int} {pA pB : Nat → Nat} {fa fb : Bool} {cs : List Int} {gs : Nat → List G3} {A B : Lv} {d : Int}
    (h : MI C N ta tb wz pA pB (PP t n) fa fb cs gs A B) (hn : n < N) (hN : N ≤ 9) (h0 : 0 ≤ d) (h1 : 1000 - C.rho ≤ d) (h2 : d ≤ 1000 + C.rho) (hr : C.rho ≤ 500) :
    MI C N ta tb wz pA pB (PP t (n + 1)) fa fb (cs.set n (cs.getD n 0 + d)) gs A B := by
  have e : PP t n n = t := pp_ge (by omega)
  have get : ∀ m, (cs.set n (cs.getD n 0 + d)).getD m 0 = if m = n then cs.getD n 0 + d else cs.getD m 0 := fun m => getD_iset _ _ _ _ (by rw [h.len]; omega)
  have pk : ∀ m, m ≠ n → PP t (n + 1) m = PP t n m := fun m q => by unfold PP; by_cases a : m < n <;> by_cases b : m < n + 1 <;> simp [a, b] <;> omega
  have pn : PP t (n + 1) n = t + 1 := pp_lt (by omega)
  refine ⟨by simp [h.len], fun m q => ?_, fun m q => ?_, ?_, ?_⟩
  · rw [get]
    by_cases a : m = n
    · subst a
      rw [if_pos rfl, pn]
      have := h.rng m q
      rw [e] at this
      omega
    · rw [if_neg a, pk m a]; exact h.rng m q
  · rw [get]
    by_cases a : m = n
    · subst a
      rw [if_pos rfl, pn]
      have := h.ni m q
      rw [e] at this
      exact this.gain h2
    · rw [if_neg a, pk m a]; exact h.ni m q
  · rw [get]
    by_cases a : 0 = n
    · subst a
      rw [if_pos rfl, pn]
      have := h.la
      rw [e] at this
      exact this.gain h1
    · rw [if_neg a, pk 0 a]; exact h.la
  · rw [get]
    by_cases a : 1 = n
    · subst a
      rw [if_pos rfl, pn]
      have := h.lb
      rw [e] at this
      exact this.gain h1
    · rw [if_neg a, pk 1 a]; exact h.lb
theorem MI.congr {C : Cv} {N ta tb : Nat} {wz : List Int} {pA pB G pA' pB' G' : Nat → Nat} {fa fb fa' fb' : Bool} {cs : List Int} {gs : Nat → List G3} {A B : Lv} (h : MI C N ta tb wz pA pB G fa fb cs gs A B) (hN : 2 ≤ N)
    (h1 : ∀ m, m < N → pA' m = pA m) (h2 : ∀ m, m < N → pB' m = pB m) (h3 : ∀ m, m < N → G' m = G m) (h4 : fa' = fa) (h5 : fb' = fb) : MI C N ta tb wz pA' pB' G' fa' fb' cs gs A B :=
  ⟨h.len, fun m q => by rw [h3 m q]; exact h.rng m q, fun m q => by rw [h1 m q, h2 m q, h3 m q]; exact h.ni m q, by rw [h4, h3 0 (by omega)]; exact h.la, by rw [h5, h3 1 (by omega)]; exact h.lb⟩
theorem NI.offA {p gr : Int} {tA tB pA pB G : Nat} {ck : Int} {g : G3} {a b : Bool} (h : NI p gr tA tB pA pB G ck g a b) : NI p gr tA tB pA pB G ck g false b := ⟨nofun, h.hb, nofun⟩
theorem NI.offB {p gr : Int} {tA tB pA pB G : Nat} {ck : Int} {g : G3} {a b : Bool} (h : NI p gr tA tB pA pB G ck g a b) : NI p gr tA tB pA pB G ck g a false := ⟨h.ha, nofun, nofun⟩
theorem inB_nil (x : Int) : inB [] x = false := by simp [inB]
/-- A asks for the lease, at its tick. -/
theorem MI.goA {C : Cv} {N tb t : Nat} {wz : List Int} {pA pB : Nat → Nat} {fa fb : Bool} {cs : List Int} {gs : Nat → List G3} {A B : Lv} (h : MI C N t tb wz pA pB (fun _ => t + 1) fa fb cs gs A B) (hi : inI (cs.getD 0 0)) :
    MI C N t tb wz pA pB (fun _ => t + 1) true fb cs gs ⟨0, 1, cs.getD 0 0, none, 0, 0, []⟩ B :=
  ⟨h.len, h.rng, fun m q => by show NI _ _ _ _ _ _ _ _ _ (inB [] m) _; rw [inB_nil]; exact (h.ni m q).offA,
   ⟨fun _ => ⟨⟨by omega, ai_now _ _ _ (by omega)⟩, rfl, rfl⟩, (cnt_empty _).symm, inI0, inI1, hi⟩, h.lb⟩
theorem MI.goB {C : Cv} {N ta t : Nat} {wz : List Int} {pA pB : Nat → Nat} {fa fb : Bool} {cs : List Int} {gs : Nat → List G3} {A B : Lv} (h : MI C N ta t wz pA pB (fun _ => t + 1) fa fb cs gs A B) (hi : inI (cs.getD 1 0)) :
    MI C N ta t wz pA pB (fun _ => t + 1) fa true cs gs A ⟨0, 1, cs.getD 1 0, none, 0, 0, []⟩ :=
  ⟨h.len, h.rng, fun m q => by show NI _ _ _ _ _ _ _ _ _ _ (inB [] m); rw [inB_nil]; exact (h.ni m q).offB, h.la,
   ⟨fun _ => ⟨⟨by omega, ai_now _ _ _ (by omega)⟩, rfl, rfl⟩, (cnt_empty _).symm, inI0, inI1, hi⟩⟩
theorem pp_next {t n m : Nat} (h : m ≠ n) : PP t (n + 1) m = PP t n m := by unfold PP; by_cases a : m < n <;> by_cases b : m < n + 1 <;> simp [a, b] <;> omega
/-- A's turn at node n goes by. -/
theorem MI.skipA {C : Cv} {N ta tb t n : Nat} {wz : List Int} {pB G : Nat → Nat} {fa fb : Bool} {cs : List Int} {gs : Nat → List G3} {A B : Lv} (h : MI C N ta tb wz (PP t n) pB G fa fb cs gs A B) : MI C N ta tb wz (PP t (n + 1)) pB G fa fb cs gs A B :=
  ⟨h.len, h.rng, fun m q => by
    by_cases a : m = n
    · subst a
      have := h.ni m q
      rw [pp_ge (Nat.lt_irrefl _)] at this
      rw [pp_lt (Nat.lt_succ_self _)]
      exact this.skipA
    · rw [pp_next a]; exact h.ni m q, h.la, h.lb⟩
theorem MI.skipB {C : Cv} {N ta tb t n : Nat} {wz : List Int} {pA G : Nat → Nat} {fa fb : Bool} {cs : List Int} {gs : Nat → List G3} {A B : Lv} (h : MI C N ta tb wz pA (PP t n) G fa fb cs gs A B) : MI C N ta tb wz pA (PP t (n + 1)) G fa fb cs gs A B :=
  ⟨h.len, h.rng, fun m q => by
    by_cases a : m = n
    · subst a
      have := h.ni m q
      rw [pp_ge (Nat.lt_irrefl _)] at this
      rw [pp_lt (Nat.lt_succ_self _)]
      exact this.skipB
    · rw [pp_next a]; exact h.ni m q, h.la, h.lb⟩
theorem inB_add (fs : List Int) (n x : Int) : inB (fs ++ [n]) x = (inB fs x || decide (x = n)) := by
  unfold inB
  by_cases h1 : x ∈ fs <;> by_cases h2 : x = n <;> simp [h1, h2]
theorem getD_zero {gs : List G3} {x : G3} (h : 0 < gs.length) : (gs.set 0 x).getD 0 gnone = x := getD_set gs 0 x h
theorem LI.more {C : Cv} {fl : Bool} {ta G n : Nat} {c : Int} {L : Lv} (h : LI C fl ta G c L) (h9 : C.nodes ≤ 9) (hn : (n : Int) < C.nodes) (hno : inB L.fs n = false) (a : Option Addr) (cp : Nat) : LI C fl ta G c ⟨L.slot, L.nonce, L.asked, a, L.fn + 1, cp, L.fs ++ [(n : Int)]⟩ :=
  ⟨h.on, by
    show L.fn + 1 = cntL C.nodes (inB (L.fs ++ [(n : Int)]))
    have := cnt_in (nodes := C.nodes) (P := inB L.fs) (P' := inB (L.fs ++ [(n : Int)])) (x := n) h9 (by omega) hn hno (by rw [inB_add]; simp) (fun y hy => by rw [inB_add]; simp [hy])
    have := h.cnt
    omega, h.r0, h.r1, h.r2⟩
theorem grants {C : Cv} {L : Lv} {n : Nat} (hc : chk C = true) (hn : (n : Int) < C.nodes) (hs : L.slot = 0) (hk : L.nonce = 1) (hno : inB L.fs n = false) : grB C L n 0 1 = true := by
  unfold grB; rw [hc, hs, hk, hno]; simp; omega
theorem ask_or {C : Cv} {n : Nat} {gs : List G3} {node now : Int} (h : askB C 0 n gs 0 node 1 now = true) : (gs.getD 0 gnone).node < 0 ∨ (gs.getD 0 gnone).node = node ∨ C.grant ≤ now - (gs.getD 0 gnone).since := (ask_facts h).2.2.2
/-- A is granted the slot by node n. -/
theorem MI.yesA {C : Cv} {N S ta tb t n : Nat} {wz : List Int} {fb : Bool} {cs : List Int} {gs : Nat → List G3} {A B : Lv} (h : MI C N ta tb wz (PP t n) (PP t n) (fun _ => t + 1) true fb cs gs A B)
    (hc : chk C = true) (hN : C.nodes = (N : Int)) (hn : n < N) (ht : t = ta + waitN wz n) (hl : 0 < (gs n).length) (hy : askB C 0 S (gs n) 0 0 1 (cs.getD n 0) = true) (a : Option Addr) (cp : Nat) :
    grN C A n 0 1 = A.fn + 1 ∧ grF C A n 0 1 = A.fs ++ [(n : Int)] ∧
    MI C N ta tb wz (PP t (n + 1)) (PP t n) (fun _ => t + 1) true fb cs (fun j => if j = n then askG C 0 S (gs n) 0 0 1 (cs.getD n 0) else gs j) ⟨A.slot, A.nonce, A.asked, a, A.fn + 1, cp, A.fs ++ [(n : Int)]⟩ B := by
  have cf := chk_facts hc
  have hni := h.ni n hn
  rw [pp_ge (Nat.lt_irrefl _)] at hni
  have hno : inB A.fs n = false := by
    cases e : inB A.fs n
    · rfl
    · exact absurd (hni.ha e).1 (by omega)
  obtain ⟨_, hs, hk⟩ := h.la.on rfl
  have hg := grants hc (by omega) hs hk hno
  refine ⟨grN_yes hg, grF_yes hg, h.len, h.rng, fun m q => ?_, h.la.more (by omega) (by omega) hno a cp, h.lb⟩
  show NI _ _ _ _ _ _ _ _ ((if m = n then askG C 0 S (gs n) 0 0 1 (cs.getD n 0) else gs m).getD 0 gnone) (inB (A.fs ++ [(n : Int)]) m) _
  rw [inB_add]
  by_cases e : m = n
  · subst e
    rw [if_pos rfl, pp_lt (Nat.lt_succ_self _), pp_ge (Nat.lt_irrefl _), askG_yes hy]
    rw [hno] at hni
    have := ask_or hy
    have e0 : (0 : Int).toNat = 0 := rfl
    rw [e0, getD_zero hl]
    simp only [hno, Bool.false_or, decide_true]
    subst ht
    exact hni.yesA rfl rfl this
  · rw [if_neg e, pp_next e]
    have : decide ((m : Int) = (n : Int)) = false := decide_eq_false (by omega)
    rw [this, Bool.or_false]
    exact h.ni m q
/-- B is granted the slot by node n. -/
theorem MI.yesB {C : Cv} {N S ta tb t n : Nat} {wz : List Int} {fa : Bool} {cs : List Int} {gs : Nat → List G3} {A B : Lv} (h : MI C N ta tb wz (PP t (n + 1)) (PP t n) (fun _ => t + 1) fa true cs gs A B)
    (hc : chk C = true) (hN : C.nodes = (N : Int)) (hn : n < N) (ht : t = tb + waitN wz (n + 9)) (hl : 0 < (gs n).length) (hy : askB C 0 S (gs n) 0 1 1 (cs.getD n 0) = true) (a : Option Addr) (cp : Nat) :
    grN C B n 0 1 = B.fn + 1 ∧ grF C B n 0 1 = B.fs ++ [(n : Int)] ∧
    MI C N ta tb wz (PP t (n + 1)) (PP t (n + 1)) (fun _ => t + 1) fa true cs (fun j => if j = n then askG C 0 S (gs n) 0 1 1 (cs.getD n 0) else gs j) A ⟨B.slot, B.nonce, B.asked, a, B.fn + 1, cp, B.fs ++ [(n : Int)]⟩ := by
  have cf := chk_facts hc
  have hni := h.ni n hn
  rw [pp_ge (Nat.lt_irrefl _), pp_lt (Nat.lt_succ_self _)] at hni
  have hno : inB B.fs n = false := by
    cases e : inB B.fs n
    · rfl
    · exact absurd (hni.hb e).1 (by omega)
  obtain ⟨_, hs, hk⟩ := h.lb.on rfl
  have hg := grants hc (by omega) hs hk hno
  refine ⟨grN_yes hg, grF_yes hg, h.len, h.rng, fun m q => ?_, h.la, h.lb.more (by omega) (by omega) hno a cp⟩
  show NI _ _ _ _ _ _ _ _ ((if m = n then askG C 0 S (gs n) 0 1 1 (cs.getD n 0) else gs m).getD 0 gnone) _ (inB (B.fs ++ [(n : Int)]) m)
  rw [inB_add]
  by_cases e : m = n
  · subst e
    rw [if_pos rfl, pp_lt (Nat.lt_succ_self _), askG_yes hy]
    rw [hno] at hni
    have := ask_or hy
    have e0 : (0 : Int).toNat = 0 := rfl
    rw [e0, getD_zero hl]
    simp only [hno, Bool.false_or, decide_true]
    subst ht
    exact hni.yesB rfl rfl this
  · have hh := h.ni m q
    rw [pp_next e] at hh
    rw [if_neg e, pp_next e]
    have : decide ((m : Int) = (n : Int)) = false := decide_eq_false (by omega)
    rw [this, Bool.or_false]
    exact hh
/-- Never both. -/
theorem MI.never {C : Cv} {N ta tb t : Nat} {wz : List Int} {cs : List Int} {gs : Nat → List G3} {A B : Lv} (h : MI C N ta tb wz (fun _ => t + 1) (fun _ => t + 1) (fun _ => t + 1) true true cs gs A B) (hc : chk C = true) (hN : C.nodes = (N : Int))
    (h1 : heldB C A (cs.getD 0 0) = true) (h2 : heldB C B (cs.getD 1 0) = true) : False := by
  obtain ⟨⟨a1, a2⟩, _⟩ := h.la.on rfl
  obtain ⟨⟨b1, b2⟩, _⟩ := h.lb.on rfl
  exact Go.Proofs.Ytmhggpmhekeemaa.never hc (tA := fun n => ta + waitN wz n) (tB := fun n => tb + waitN wz (n + 9)) (fun n => Nat.le_add_right _ _) (fun n => Nat.le_add_right _ _) (by omega) (by omega)
    (fun n q => h.ni n (by omega)) (fun _ => a2) (fun _ => b2) h1 h2
end Go.Proofs.Ytmhggpmhekeemaa
