/- Floats: what is nearest, sums, products, quotients and orders of those from 0 on; plain Lean. -/
import Derived.Laws.FloatArith
namespace Go.Proofs.Ytmcccfocacagjaa
open Ieee
/-- n / 2^d, to the nearest, and between two the even one. -/
def RE (n d : Nat) : Nat := n / 2 ^ d + (if 2 ^ d < 2 * (n % 2 ^ d) ∨ (2 ^ d = 2 * (n % 2 ^ d) ∧ n / 2 ^ d % 2 = 1) then 1 else 0)
theorem two_pos (d : Nat) : 0 < 2 ^ d := Nat.two_pow_pos d
theorem cut_even (n d : Nat) : Toward.even.cut false n d = RE n d := by
  unfold Toward.cut RE
  dsimp only
  rw [Nat.one_shiftLeft]
  by_cases h : d ≤ n.log2 + 2
  · rw [Nat.min_eq_left h]
    congr 1
    by_cases a : 2 ^ d < 2 * (n % 2 ^ d)
    · simp [a]
    · by_cases b : 2 ^ d = 2 * (n % 2 ^ d)
      · by_cases c : n / 2 ^ d % 2 = 1
        · simp [← b, c]
        · simp [← b, c]
      · simp [a, b]
  · rw [Nat.min_eq_right (by omega)]
    have h1 : n < 2 ^ (n.log2 + 1) := Nat.lt_log2_self
    have h2 : 2 ^ (n.log2 + 1) ≤ 2 ^ (n.log2 + 2) := Nat.pow_le_pow_right (by omega) (by omega)
    have h3 : 2 ^ (n.log2 + 2) = 2 * 2 ^ (n.log2 + 1) := by rw [Nat.pow_succ 2 (n.log2 + 1)]; omega
    have h4 : 2 ^ (n.log2 + 2) ≤ 2 ^ d := Nat.pow_le_pow_right (by omega) (by omega)
    have b1 : n / 2 ^ (n.log2 + 2) = 0 := Nat.div_eq_of_lt (by omega)
    have b2 : n % 2 ^ (n.log2 + 2) = n := Nat.mod_eq_of_lt (by omega)
    have b3 : n / 2 ^ d = 0 := Nat.div_eq_of_lt (by omega)
    have b4 : n % 2 ^ d = n := Nat.mod_eq_of_lt (by omega)
    rw [b1, b2, b3, b4]
    have a : ¬ 2 ^ (n.log2 + 2) < 2 * n := by omega
    have a' : ¬ 2 ^ d < 2 * n := by omega
    simp [a, a']
theorem RE_mono {n m : Nat} (d : Nat) (h : n ≤ m) : RE n d ≤ RE m d := by
  have hq : n / 2 ^ d ≤ m / 2 ^ d := Nat.div_le_div_right h
  unfold RE
  rcases Nat.lt_or_ge (n / 2 ^ d) (m / 2 ^ d) with hlt | hge
  · split <;> omega
  · have e : n / 2 ^ d = m / 2 ^ d := by omega
    have e1 := Nat.div_add_mod n (2 ^ d)
    have e2 := Nat.div_add_mod m (2 ^ d)
    rw [e] at e1 ⊢
    have : n % 2 ^ d ≤ m % 2 ^ d := by omega
    split
    · rename_i h1
      rw [if_pos (by omega)]; omega
    · omega
theorem RE_up {n : Nat} (d k : Nat) (h : n < 2 ^ (k + d)) : RE n d ≤ 2 ^ k := by
  have : n / 2 ^ d < 2 ^ k := by rw [Nat.div_lt_iff_lt_mul (two_pos d), ← Nat.pow_add]; exact h
  unfold RE
  split <;> omega
theorem RE_lo {n : Nat} (d k : Nat) (h : 2 ^ (k + d) ≤ n) : 2 ^ k ≤ RE n d := by
  have : 2 ^ k ≤ n / 2 ^ d := by rw [Nat.le_div_iff_mul_le (two_pos d), ← Nat.pow_add]; exact h
  unfold RE
  omega
theorem RE_zero (n : Nat) : RE n 0 = n := by
  unfold RE
  simp [Nat.mod_one]
theorem RE_shift (n d j : Nat) : RE (n * 2 ^ j) (d + j) = RE n d := by
  unfold RE
  have hp := two_pos j
  rw [Nat.pow_add, Nat.mul_div_mul_right _ _ hp, Nat.mul_mod_mul_right]
  congr 1
  have e1 : (2 ^ d * 2 ^ j < 2 * (n % 2 ^ d * 2 ^ j)) ↔ 2 ^ d < 2 * (n % 2 ^ d) := by
    rw [← Nat.mul_assoc]
    exact ⟨fun h => Nat.lt_of_mul_lt_mul_right h, fun h => Nat.mul_lt_mul_of_pos_right h hp⟩
  have e2 : (2 ^ d * 2 ^ j = 2 * (n % 2 ^ d * 2 ^ j)) ↔ 2 ^ d = 2 * (n % 2 ^ d) := by
    rw [← Nat.mul_assoc]
    exact ⟨fun h => Nat.eq_of_mul_eq_mul_right hp h, fun h => congrArg (· * 2 ^ j) h⟩
  simp only [e1, e2]
/-- What is kept of a number, and at which place. -/
def lastP (L : Nat) (P : Int) : Int := max (P + L - 52) (-1074)
def keptN (m : Nat) (P last : Int) : Nat := RE (m * 2 ^ (P - last).toNat) (last - P).toNat
def rungN (m : Nat) (P : Int) : Nat := (lastP m.log2 P + 1074).toNat * 4503599627370496 + keptN m P (lastP m.log2 P)
theorem nearest_eq (m : Nat) (P : Int) (h : m ≠ 0) : double.nearest false m P = min (rungN m P) 9218868437227405312 := by
  unfold Format.nearest
  rw [if_neg h]
  dsimp only
  have e1 : double.leastPlace = -1074 := by decide
  have e2 : double.binade = 4503599627370496 := by decide
  have e3 : double.infRung = 9218868437227405312 := by decide
  have e4 : (double.fractionBits : Int) = 52 := by decide
  rw [e1, e2, e3, e4]
  unfold rungN keptN lastP Format.word
  rw [cut_even, Nat.shiftLeft_eq]
  simp
theorem nearest_zero (P : Int) : double.nearest false 0 P = 0 := by
  unfold Format.nearest Format.word; simp
theorem keptN_up (m : Nat) (P : Int) : keptN m P (lastP m.log2 P) ≤ 2 ^ 53 := by
  have h1 : m < 2 ^ (m.log2 + 1) := Nat.lt_log2_self
  have hl : P + m.log2 - 52 ≤ lastP m.log2 P := by unfold lastP; omega
  unfold keptN
  generalize lastP m.log2 P = last at *
  refine RE_up _ 53 ?_
  rcases Int.le_total P last with h | h
  · have : (P - last).toNat = 0 := by omega
    rw [this, Nat.pow_zero, Nat.mul_one]
    exact Nat.lt_of_lt_of_le h1 (Nat.pow_le_pow_right (by omega) (by omega))
  · have : (last - P).toNat = 0 := by omega
    rw [this, Nat.add_zero]
    have h2 : m * 2 ^ (P - last).toNat < 2 ^ (m.log2 + 1) * 2 ^ (P - last).toNat := Nat.mul_lt_mul_of_pos_right h1 (two_pos _)
    rw [← Nat.pow_add] at h2
    exact Nat.lt_of_lt_of_le h2 (Nat.pow_le_pow_right (by omega) (by omega))
theorem keptN_lo (m : Nat) (P : Int) (h0 : m ≠ 0) (hl : lastP m.log2 P = P + m.log2 - 52) : 2 ^ 52 ≤ keptN m P (lastP m.log2 P) := by
  have h1 : 2 ^ m.log2 ≤ m := Nat.log2_self_le h0
  unfold keptN
  generalize lastP m.log2 P = last at *
  refine RE_lo _ 52 ?_
  rcases Int.le_total P last with h | h
  · have : (P - last).toNat = 0 := by omega
    rw [this, Nat.pow_zero, Nat.mul_one]
    exact Nat.le_trans (Nat.pow_le_pow_right (by omega) (by omega)) h1
  · have : (last - P).toNat = 0 := by omega
    rw [this, Nat.add_zero]
    have h2 : 2 ^ m.log2 * 2 ^ (P - last).toNat ≤ m * 2 ^ (P - last).toNat := Nat.mul_le_mul_right _ h1
    rw [← Nat.pow_add] at h2
    exact Nat.le_trans (Nat.pow_le_pow_right (by omega) (by omega)) h2
theorem log2_mono {n m : Nat} (h0 : n ≠ 0) (h : n ≤ m) : n.log2 ≤ m.log2 := by
  rw [Nat.le_log2 (by omega)]
  exact Nat.le_trans (Nat.log2_self_le h0) h
theorem rungN_mono {n m : Nat} (P : Int) (h0 : n ≠ 0) (h : n ≤ m) : rungN n P ≤ rungN m P := by
  have hL := log2_mono h0 h
  have hl : lastP n.log2 P ≤ lastP m.log2 P := by unfold lastP; omega
  rcases Int.lt_or_eq_of_le hl with hlt | he
  · have a := keptN_up n P
    have hm : lastP m.log2 P = P + m.log2 - 52 := by unfold lastP at hlt ⊢; omega
    have b := keptN_lo m P (by omega) hm
    have c : -1074 ≤ lastP n.log2 P := by unfold lastP; omega
    unfold rungN
    generalize keptN n P (lastP n.log2 P) = k1 at *
    generalize keptN m P (lastP m.log2 P) = k2 at *
    have : (lastP n.log2 P + 1074).toNat + 1 ≤ (lastP m.log2 P + 1074).toNat := by omega
    have e : (2:Nat) ^ 53 = 2 * 4503599627370496 := by decide
    have e' : (2:Nat) ^ 52 = 4503599627370496 := by decide
    omega
  · unfold rungN keptN
    rw [he]
    have := RE_mono (lastP m.log2 P - P).toNat (Nat.mul_le_mul_right (2 ^ (P - lastP m.log2 P).toNat) h)
    omega
theorem nearest_mono {n m : Nat} (P : Int) (h : n ≤ m) : double.nearest false n P ≤ double.nearest false m P := by
  by_cases h0 : n = 0
  · subst h0; rw [nearest_zero]; exact Nat.zero_le _
  · rw [nearest_eq n P h0, nearest_eq m P (by omega)]
    have := rungN_mono P h0 h
    omega
theorem log2_shift (m k : Nat) (h : m ≠ 0) : (m * 2 ^ k).log2 = m.log2 + k := by
  have hp := two_pos k
  have hne : m * 2 ^ k ≠ 0 := Nat.mul_ne_zero h (by omega)
  have h1 := Nat.log2_self_le h
  have h2 : m < 2 ^ (m.log2 + 1) := Nat.lt_log2_self
  apply Nat.le_antisymm
  · have : (m * 2 ^ k).log2 < m.log2 + k + 1 := by
      rw [Nat.log2_lt hne]
      have := Nat.mul_lt_mul_of_pos_right h2 hp
      rw [← Nat.pow_add] at this
      rw [show m.log2 + k + 1 = m.log2 + 1 + k by omega]; exact this
    omega
  · rw [Nat.le_log2 hne, Nat.pow_add]
    exact Nat.mul_le_mul_right _ h1
theorem nearest_shift (m k : Nat) (P : Int) : double.nearest false (m * 2 ^ k) (P - k) = double.nearest false m P := by
  by_cases h0 : m = 0
  · subst h0; rw [Nat.zero_mul, nearest_zero, nearest_zero]
  · have hp := two_pos k
    rw [nearest_eq _ _ (Nat.mul_ne_zero h0 (by omega)), nearest_eq m P h0]
    refine congrArg (fun x => min x 9218868437227405312) ?_
    unfold rungN
    rw [log2_shift m k h0]
    have e : lastP (m.log2 + k : Nat) (P - k) = lastP m.log2 P := by unfold lastP; omega
    rw [e]
    refine congrArg (fun x : Nat => (lastP m.log2 P + 1074).toNat * 4503599627370496 + x) ?_
    unfold keptN
    generalize lastP m.log2 P = last
    rcases Int.le_total P last with h | h
    · have a : (P - last).toNat = 0 := by omega
      have b : (P - k - last).toNat = 0 := by omega
      have c : (last - (P - k)).toNat = (last - P).toNat + k := by omega
      rw [a, b, c, Nat.pow_zero, Nat.mul_one, Nat.mul_one, RE_shift]
    · have a : (last - P).toNat = 0 := by omega
      rw [a, RE_zero]
      rcases Int.le_total last (P - k) with h' | h'
      · have b : (last - (P - k)).toNat = 0 := by omega
        rw [b, RE_zero, Nat.mul_assoc, ← Nat.pow_add]
        congr 2; omega
      · have b : (P - k - last).toNat = 0 := by omega
        rw [b, Nat.pow_zero, Nat.mul_one]
        have c : m * 2 ^ k = m * 2 ^ (P - last).toNat * 2 ^ (last - (P - k)).toNat := by
          rw [Nat.mul_assoc, ← Nat.pow_add]; congr 2; omega
        have d := RE_shift (m * 2 ^ (P - last).toNat) 0 (last - (P - k)).toNat
        rw [Nat.zero_add, RE_zero] at d
        rw [c, d]

/-- The digits of a magnitude, and their place above the least one. -/
def mg (r : Nat) : Nat := if r < 4503599627370496 then r else 4503599627370496 + r % 4503599627370496
def pl (r : Nat) : Nat := r / 4503599627370496 - 1
def V (r : Nat) : Nat := mg r * 2 ^ pl r
def Fine (r : Nat) : Prop := r < 9218868437227405312
theorem read_fin {r : Nat} (h : Fine r) : double.read r = .number false (mg r) (-1074 + pl r) := by
  unfold Fine at h
  unfold Format.read mg pl
  have e1 : double.leastPlace = -1074 := by decide
  have e2 : double.binade = 4503599627370496 := by decide
  have e3 : double.infRung = 9218868437227405312 := by decide
  have e4 : double.signWeight = 9223372036854775808 := by decide
  dsimp only
  rw [e1, e2, e3, e4, Nat.mod_eq_of_lt (by omega), Nat.div_eq_of_lt (by omega)]
  by_cases h1 : r < 4503599627370496
  · rw [if_pos h1, if_pos h1, Nat.div_eq_of_lt h1]; rfl
  · rw [if_neg h1, if_pos h, if_neg h1]; rfl
theorem V_small {r : Nat} (h : r < 4503599627370496) : V r = r := by
  unfold V mg pl
  rw [if_pos h, Nat.div_eq_of_lt h]; simp
theorem V_big {r : Nat} (h : 4503599627370496 ≤ r) : V r = (4503599627370496 + r % 4503599627370496) * 2 ^ (r / 4503599627370496 - 1) := by
  unfold V mg pl
  rw [if_neg (by omega)]
theorem V_step (r : Nat) : V r < V (r + 1) := by
  rcases Nat.lt_or_ge (r + 1) 4503599627370496 with h | h
  · rw [V_small h, V_small (by omega)]; omega
  · rcases Nat.lt_or_ge r 4503599627370496 with h' | h'
    · have : r = 4503599627370495 := by omega
      subst this; decide
    · rw [V_big h, V_big h']
      by_cases hm : r % 4503599627370496 = 4503599627370495
      · have e1 : (r + 1) % 4503599627370496 = 0 := by omega
        have e2 : (r + 1) / 4503599627370496 - 1 = (r / 4503599627370496 - 1) + 1 := by omega
        rw [e1, e2, hm, Nat.pow_succ]
        have := two_pos (r / 4503599627370496 - 1)
        generalize 2 ^ (r / 4503599627370496 - 1) = k at *
        omega
      · have e1 : (r + 1) % 4503599627370496 = r % 4503599627370496 + 1 := by omega
        have e2 : (r + 1) / 4503599627370496 = r / 4503599627370496 := by omega
        rw [e1, e2]
        exact Nat.mul_lt_mul_of_pos_right (by omega) (two_pos _)
theorem V_lt {r s : Nat} (h : r < s) : V r < V s := by
  induction s with
  | zero => omega
  | succ s ih =>
    rcases Nat.lt_or_ge r s with h' | h'
    · exact Nat.lt_trans (ih h') (V_step s)
    · have : r = s := by omega
      subst this; exact V_step r
theorem V_le {r s : Nat} : V r ≤ V s ↔ r ≤ s := by
  constructor
  · intro h
    rcases Nat.lt_or_ge s r with h' | h'
    · have := V_lt h'; omega
    · exact h'
  · intro h
    rcases Nat.lt_or_eq_of_le h with h' | rfl
    · exact Nat.le_of_lt (V_lt h')
    · exact Nat.le_refl _
theorem V_lt_iff {r s : Nat} : V r < V s ↔ r < s := by
  have := @V_le s r; omega
theorem V_inj {r s : Nat} : V r = V s ↔ r = s := by
  have := @V_le s r; have := @V_le r s; omega
/-- The magnitude nearest to a number, in units of the least place. -/
def N (m : Nat) : Nat := double.nearest false m (-1074)
theorem N_mono {a b : Nat} (h : a ≤ b) : N a ≤ N b := nearest_mono _ h
theorem log2_eq {m k : Nat} (h1 : 2 ^ k ≤ m) (h2 : m < 2 ^ (k + 1)) : m.log2 = k := by
  have h0 : m ≠ 0 := by have := two_pos k; omega
  apply Nat.le_antisymm
  · have := (Nat.log2_lt h0).2 h2; omega
  · exact (Nat.le_log2 h0).2 h1
theorem nearest_mg {r : Nat} (h : Fine r) : double.nearest false (mg r) (-1074 + pl r) = r := by
  unfold Fine at h
  rcases Nat.lt_or_ge r 4503599627370496 with hr | hr
  · have e1 : mg r = r := by unfold mg; rw [if_pos hr]
    have e2 : pl r = 0 := by unfold pl; rw [Nat.div_eq_of_lt hr]
    rw [e1, e2]
    by_cases h0 : r = 0
    · subst h0; rw [nearest_zero]
    · rw [nearest_eq _ _ h0]
      have hL : r.log2 < 52 := (Nat.log2_lt h0).2 (by have e : (2:Nat) ^ 52 = 4503599627370496 := by decide
                                                      omega)
      unfold rungN keptN
      have e3 : lastP r.log2 (-1074 + (0 : Nat)) = -1074 := by unfold lastP; omega
      rw [e3]
      have a : ((-1074 : Int) + (0 : Nat) - -1074).toNat = 0 := by decide
      have b : ((-1074 : Int) - (-1074 + (0 : Nat))).toNat = 0 := by decide
      have c : ((-1074 : Int) + 1074).toNat = 0 := by decide
      rw [a, b, c, RE_zero]; simp; omega
  · have e1 : mg r = 4503599627370496 + r % 4503599627370496 := by unfold mg; rw [if_neg (by omega)]
    have hL : (mg r).log2 = 52 := by
      have e : (2:Nat) ^ 52 = 4503599627370496 := by decide
      have e' : (2:Nat) ^ (52 + 1) = 9007199254740992 := by decide
      exact log2_eq (by rw [e, e1]; omega) (by rw [e', e1]; omega)
    rw [nearest_eq _ _ (by omega)]
    unfold rungN keptN
    rw [hL]
    have e3 : lastP ((52 : Nat) : Int).toNat (-1074 + pl r) = -1074 + pl r := by unfold lastP; omega
    rw [show lastP (52 : Nat) (-1074 + pl r) = -1074 + pl r from e3]
    have a : ((-1074 : Int) + pl r - (-1074 + pl r)).toNat = 0 := by omega
    have c : ((-1074 : Int) + pl r + 1074).toNat = pl r := by omega
    rw [a, c, RE_zero, e1]
    unfold pl; omega
theorem N_V {r : Nat} (h : Fine r) : N (V r) = r := by
  unfold N V
  have := nearest_shift (mg r) (pl r) (-1074 + pl r)
  rw [show (-1074 + (pl r : Int) - pl r) = -1074 by omega] at this
  rw [this, nearest_mg h]
theorem N_le {m r : Nat} (h : Fine r) (hm : m ≤ V r) : N m ≤ r := by
  have := N_mono hm; rwa [N_V h] at this
theorem N_ge {m r : Nat} (h : Fine r) (hm : V r ≤ m) : r ≤ N m := by
  have := N_mono hm; rwa [N_V h] at this
theorem shl_V {r : Nat} (base : Int) (hb : base ≤ -1074 + pl r) (hb' : -1074 ≤ base) : mg r <<< (-1074 + (pl r : Int) - base).toNat * 2 ^ (base + 1074).toNat = V r := by
  unfold V
  rw [Nat.shiftLeft_eq, Nat.mul_assoc, ← Nat.pow_add]
  congr 2; omega
theorem add_fin {x y : Nat} (hx : Fine x) (hy : Fine y) : double.add x y = some (N (V x + V y)) := by
  unfold Format.add
  rw [read_fin hx, read_fin hy]
  unfold Datum.sum
  simp only [Option.map, signed]
  obtain ⟨base, hbase⟩ : ∃ base : Int, min (-1074 + (pl x : Int)) (-1074 + (pl y : Int)) = base := ⟨_, rfl⟩
  rw [hbase]
  have b1 : base ≤ -1074 + pl x := by omega
  have b2 : base ≤ -1074 + pl y := by omega
  have b3 : -1074 ≤ base := by omega
  have s1 := shl_V (r := x) base b1 b3
  have s2 := shl_V (r := y) base b2 b3
  simp only [Bool.false_eq_true, ↓reduceIte]
  generalize mg x <<< (-1074 + (pl x : Int) - base).toNat = A at *
  generalize mg y <<< (-1074 + (pl y : Int) - base).toNat = B at *
  have hn : ((A : Int) + (B : Int)).natAbs = A + B := by omega
  rw [hn]
  unfold Format.write
  have hs : (if (A : Int) + (B : Int) = 0 then false && false else decide ((A : Int) + (B : Int) < 0)) = false := by
    split
    · rfl
    · simp; omega
  simp only [hs]
  unfold N
  have := nearest_shift (A + B) (base + 1074).toNat base
  rw [show base - ((base + 1074).toNat : Int) = -1074 by omega] at this
  rw [← this, Nat.add_mul, s1, s2]
theorem mul_fin {x y : Nat} (hx : Fine x) (hy : Fine y) : double.mul x y = some (double.nearest false (V x * V y) (-2148)) := by
  unfold Format.mul
  rw [read_fin hx, read_fin hy]
  unfold Datum.product
  simp only [Option.map, Format.write, Bool.bne_false]
  have := nearest_shift (mg x * mg y) (pl x + pl y) (-1074 + (pl x : Int) + (-1074 + (pl y : Int)))
  rw [show -1074 + (pl x : Int) + (-1074 + (pl y : Int)) - ((pl x + pl y : Nat) : Int) = -2148 by omega] at this
  rw [← this]
  have e : mg x * mg y * 2 ^ (pl x + pl y) = V x * V y := by
    unfold V; rw [Nat.pow_add]; simp [Nat.mul_assoc, Nat.mul_left_comm]
  rw [e]

/-- A word's number as an integer that rises with it. -/
def isN (x : Nat) : Bool := decide (9218868437227405312 < x % 9223372036854775808)
def key (x : Nat) : Int := if x < 9223372036854775808 then (x : Int) else -((x % 9223372036854775808 : Nat) : Int)
theorem read_any {x : Nat} (h : x < 18446744073709551616) : double.read x =
    if x % 9223372036854775808 < 9218868437227405312 then .number (decide (9223372036854775808 ≤ x)) (mg (x % 9223372036854775808)) (-1074 + pl (x % 9223372036854775808))
    else if x % 9223372036854775808 = 9218868437227405312 then .infinity (decide (9223372036854775808 ≤ x)) else .nan (decide (9223372036854775808 ≤ x)) (x % 9223372036854775808 - 9218868437227405312) := by
  unfold Format.read
  have e1 : double.leastPlace = -1074 := by decide
  have e2 : double.binade = 4503599627370496 := by decide
  have e3 : double.infRung = 9218868437227405312 := by decide
  have e4 : double.signWeight = 9223372036854775808 := by decide
  dsimp only
  rw [e1, e2, e3, e4]
  have e5 : (x / 9223372036854775808 % 2 == 1) = decide (9223372036854775808 ≤ x) := by
    rw [Bool.eq_iff_iff]; simp; omega
  rw [e5]
  unfold mg pl
  by_cases h1 : x % 9223372036854775808 < 4503599627370496
  · rw [if_pos h1, if_pos (by omega), if_pos h1, Nat.div_eq_of_lt h1]; rfl
  · rw [if_neg h1, if_neg h1]
theorem compare_of {a b c d : Int} (h1 : a < b ↔ c < d) (h2 : b < a ↔ d < c) : compare a b = compare c d := by
  simp only [compare, compareOfLessAndEq]
  by_cases x : a < b
  · rw [if_pos x, if_pos (h1.1 x)]
  · rw [if_neg x, if_neg (fun h => x (h1.2 h))]
    by_cases y : b < a
    · rw [if_neg (by omega), if_neg (by have := h2.1 y; omega)]
    · rw [if_pos (by omega), if_pos (by have := mt h2.2 y; have := mt h1.2 x; omega)]
theorem compare_nat (a b : Nat) : compare a b = compare (a : Int) (b : Int) := by
  simp only [compare, compareOfLessAndEq, Int.ofNat_lt, Int.ofNat_inj]
theorem order_key {x y : Nat} (hx : x < 18446744073709551616) (hy : y < 18446744073709551616) (nx : isN x = false) (ny : isN y = false) : double.order x y = some (compare (key x) (key y)) := by
  unfold Format.order
  rw [read_any hx, read_any hy]
  simp only [isN, decide_eq_false_iff_not] at nx ny
  unfold key
  by_cases fx : x % 9223372036854775808 < 9218868437227405312
  · rw [if_pos fx]
    by_cases fy : y % 9223372036854775808 < 9218868437227405312
    · rw [if_pos fy]
      unfold Datum.order
      dsimp only
      obtain ⟨base, hbase⟩ : ∃ base : Int, min (-1074 + (pl (x % 9223372036854775808) : Int)) (-1074 + (pl (y % 9223372036854775808) : Int)) = base := ⟨_, rfl⟩
      rw [hbase]
      have b1 : base ≤ -1074 + pl (x % 9223372036854775808) := by omega
      have b2 : base ≤ -1074 + pl (y % 9223372036854775808) := by omega
      have b3 : -1074 ≤ base := by omega
      have s1 := shl_V (r := x % 9223372036854775808) base b1 b3
      have s2 := shl_V (r := y % 9223372036854775808) base b2 b3
      have hp := two_pos (base + 1074).toNat
      unfold signed
      generalize mg (x % 9223372036854775808) <<< (-1074 + (pl (x % 9223372036854775808) : Int) - base).toNat = A at *
      generalize mg (y % 9223372036854775808) <<< (-1074 + (pl (y % 9223372036854775808) : Int) - base).toNat = B at *
      generalize 2 ^ (base + 1074).toNat = k at *
      have l1 : A < B ↔ x % 9223372036854775808 < y % 9223372036854775808 := by
        refine Iff.trans ?_ (@V_lt_iff (x % 9223372036854775808) (y % 9223372036854775808)); rw [← s1, ← s2]; exact ⟨fun h => Nat.mul_lt_mul_of_pos_right h hp, fun h => Nat.lt_of_mul_lt_mul_right h⟩
      have l2 : B < A ↔ y % 9223372036854775808 < x % 9223372036854775808 := by
        refine Iff.trans ?_ (@V_lt_iff (y % 9223372036854775808) (x % 9223372036854775808)); rw [← s1, ← s2]; exact ⟨fun h => Nat.mul_lt_mul_of_pos_right h hp, fun h => Nat.lt_of_mul_lt_mul_right h⟩
      have z1 : A = 0 ↔ x % 9223372036854775808 = 0 := by
        refine Iff.trans ?_ (@V_inj (x % 9223372036854775808) 0); rw [V_small (r := 0) (by omega), ← s1]
        exact ⟨fun h => by rw [h, Nat.zero_mul], fun h => by rcases Nat.mul_eq_zero.1 h with h | h <;> omega⟩
      have z2 : B = 0 ↔ y % 9223372036854775808 = 0 := by
        refine Iff.trans ?_ (@V_inj (y % 9223372036854775808) 0); rw [V_small (r := 0) (by omega), ← s2]
        exact ⟨fun h => by rw [h, Nat.zero_mul], fun h => by rcases Nat.mul_eq_zero.1 h with h | h <;> omega⟩
      clear s1 s2 b1 b2 b3 hbase
      refine congrArg some (compare_of ?_ ?_)
      all_goals
        by_cases gx : x < 9223372036854775808 <;> by_cases gy : y < 9223372036854775808
        all_goals
          simp only [gx, gy, ↓reduceIte, decide_eq_true_eq, show (9223372036854775808 ≤ x) ↔ ¬ (x < 9223372036854775808) by omega, show (9223372036854775808 ≤ y) ↔ ¬ (y < 9223372036854775808) by omega, not_true, not_false_eq_true]
          omega
    · rw [if_neg fy, if_pos (by omega)]
      unfold Datum.order
      dsimp only
      refine congrArg some ?_
      simp only [compare, compareOfLessAndEq]
      by_cases gy : y < 9223372036854775808
      · rw [if_pos gy, if_neg (by simp; omega), if_pos (by split <;> omega)]
      · rw [if_neg gy, if_pos (by simp; omega), if_neg (by split <;> omega), if_neg (by split <;> omega)]
  · rw [if_neg fx, if_pos (by omega)]
    by_cases fy : y % 9223372036854775808 < 9218868437227405312
    · rw [if_pos fy]
      unfold Datum.order
      dsimp only
      refine congrArg some ?_
      simp only [compare, compareOfLessAndEq]
      by_cases gx : x < 9223372036854775808
      · rw [if_pos gx, if_neg (by simp; omega), if_neg (by split <;> omega), if_neg (by split <;> omega)]
      · rw [if_neg gx, if_pos (by simp; omega), if_pos (by split <;> omega)]
    · rw [if_neg fy, if_pos (by omega)]
      unfold Datum.order
      dsimp only
      refine congrArg some ?_
      have t1 : ∀ b : Bool, ((b.toNat : Nat) : Int) = if b = true then 1 else 0 := fun b => by cases b <;> rfl
      rw [compare_nat]
      refine compare_of ?_ ?_ <;> (rw [t1, t1]; simp only [decide_eq_true_eq]; split <;> split <;> split <;> split <;> omega)
theorem order_nan {x y : Nat} (hx : x < 18446744073709551616) (hy : y < 18446744073709551616) (h : isN x = true ∨ isN y = true) : double.order x y = none := by
  unfold Format.order
  rw [read_any hx, read_any hy]
  simp only [isN, decide_eq_true_eq] at h
  rcases h with h | h
  · rw [if_neg (by omega), if_neg (by omega)]; rfl
  · rw [if_neg (c := y % 9223372036854775808 < 9218868437227405312) (by omega), if_neg (c := y % 9223372036854775808 = 9218868437227405312) (by omega)]
    split
    · rfl
    · split <;> rfl

/-- Whole numbers. -/
def fi (n : Nat) : Nat := double.nearest false n 0
/-- How many least places are one. -/
def E74 : Nat := 1074
theorem e74 : E74 = 1074 := rfl
def flo (x : Nat) : Nat := V x / 2 ^ E74
theorem pow53 : (2:Nat) ^ 53 = 9007199254740992 := by decide
theorem fi_eq {n : Nat} (h0 : n ≠ 0) (h : n < 9007199254740992) : fi n = (n.log2 + 1022) * 4503599627370496 + n * 2 ^ (52 - n.log2) ∧ 4503599627370496 ≤ n * 2 ^ (52 - n.log2) ∧ n * 2 ^ (52 - n.log2) < 9007199254740992 ∧ n.log2 ≤ 52 := by
  have hL : n.log2 < 53 := (Nat.log2_lt h0).2 (by rw [pow53]; omega)
  have hlo : 2 ^ n.log2 * 2 ^ (52 - n.log2) ≤ n * 2 ^ (52 - n.log2) := Nat.mul_le_mul_right _ (Nat.log2_self_le h0)
  have hhi : n * 2 ^ (52 - n.log2) < 2 ^ (n.log2 + 1) * 2 ^ (52 - n.log2) := Nat.mul_lt_mul_of_pos_right Nat.lt_log2_self (two_pos _)
  rw [← Nat.pow_add, show n.log2 + (52 - n.log2) = 52 by omega, show (2:Nat) ^ 52 = 4503599627370496 by decide] at hlo
  rw [← Nat.pow_add, show n.log2 + 1 + (52 - n.log2) = 53 by omega, show (2:Nat) ^ 53 = 9007199254740992 by decide] at hhi
  refine ⟨?_, hlo, hhi, by omega⟩
  unfold fi
  rw [nearest_eq _ _ h0]
  unfold rungN keptN
  have e : lastP n.log2 0 = (n.log2 : Int) - 52 := by unfold lastP; omega
  rw [e, show ((0:Int) - ((n.log2 : Int) - 52)).toNat = 52 - n.log2 by omega, show ((n.log2 : Int) - 52 - 0).toNat = 0 by omega, show ((n.log2 : Int) - 52 + 1074).toNat = n.log2 + 1022 by omega, RE_zero]
  generalize n * 2 ^ (52 - n.log2) = k at *
  omega
theorem fi_fin {n : Nat} (h : n < 9007199254740992) : Fine (fi n) := by
  by_cases h0 : n = 0
  · subst h0; unfold fi Fine; rw [nearest_zero]; decide
  · obtain ⟨e, h1, h2, h3⟩ := fi_eq h0 h
    unfold Fine; rw [e]
    generalize n * 2 ^ (52 - n.log2) = k at *
    omega
theorem V_fi {n : Nat} (h : n < 9007199254740992) : V (fi n) = n * 2 ^ E74 := by
  by_cases h0 : n = 0
  · subst h0; unfold fi; rw [nearest_zero, V_small (by omega), Nat.zero_mul]
  · obtain ⟨e, h1, h2, h3⟩ := fi_eq h0 h
    have a : fi n % 4503599627370496 = n * 2 ^ (52 - n.log2) - 4503599627370496 := by
      rw [e]; generalize n * 2 ^ (52 - n.log2) = k at *; omega
    have b : fi n / 4503599627370496 - 1 = n.log2 + 1022 := by
      rw [e]; generalize n * 2 ^ (52 - n.log2) = k at *; omega
    rw [V_big (by omega), a, b, show 4503599627370496 + (n * 2 ^ (52 - n.log2) - 4503599627370496) = n * 2 ^ (52 - n.log2) by omega, Nat.mul_assoc, ← Nat.pow_add]
    rw [show 52 - n.log2 + (n.log2 + 1022) = E74 by rw [e74]; omega]
theorem flo_fi {n : Nat} (h : n < 9007199254740992) : flo (fi n) = n := by
  unfold flo; rw [V_fi h, Nat.mul_div_cancel _ (two_pos _)]
theorem fi_le {n x : Nat} (h : n < 9007199254740992) : fi n ≤ x ↔ n ≤ flo x := by
  rw [← V_le, V_fi h]
  unfold flo
  rw [Nat.le_div_iff_mul_le (two_pos _)]
theorem flo_mono {x y : Nat} (h : x ≤ y) : flo x ≤ flo y := Nat.div_le_div_right (V_le.2 h)
theorem cut_down (n d : Nat) (way : Toward) (hw : way = .down ∨ way = .zero) : way.cut false n d = n / 2 ^ d := by
  have e : way.cut false n d = n / (1 <<< min d (n.log2 + 2)) := by
    rcases hw with rfl | rfl <;> (unfold Toward.cut; simp)
  rw [e, Nat.one_shiftLeft]
  by_cases h : d ≤ n.log2 + 2
  · rw [Nat.min_eq_left h]
  · rw [Nat.min_eq_right (by omega)]
    have h1 : n < 2 ^ (n.log2 + 1) := Nat.lt_log2_self
    have h2 : 2 ^ (n.log2 + 1) ≤ 2 ^ (n.log2 + 2) := Nat.pow_le_pow_right (by omega) (by omega)
    have h4 : 2 ^ (n.log2 + 2) ≤ 2 ^ d := Nat.pow_le_pow_right (by omega) (by omega)
    rw [Nat.div_eq_of_lt (by omega), Nat.div_eq_of_lt (by omega)]
theorem integral_fin {x : Nat} (h : Fine x) (way : Toward) (hw : way = .down ∨ way = .zero) : (double.read x).integral way = .number false (flo x) 0 := by
  rw [read_fin h]
  unfold Datum.integral
  dsimp only
  rw [cut_down _ _ _ hw, Nat.shiftLeft_eq]
  refine congrArg (fun k => Datum.number false k 0) ?_
  unfold flo V
  rcases Nat.le_total (pl x) 1074 with h' | h'
  · rw [show ((-1074 : Int) + pl x).toNat = 0 by omega, Nat.pow_zero, Nat.mul_one]
    rw [show (-((-1074 : Int) + pl x)).toNat = 1074 - pl x by omega]
    have : 2 ^ E74 = 2 ^ (1074 - pl x) * 2 ^ pl x := by rw [← Nat.pow_add, show 1074 - pl x + pl x = E74 by rw [e74]; omega]
    rw [this, Nat.mul_div_mul_right _ _ (two_pos _)]
  · rw [show (-((-1074 : Int) + pl x)).toNat = 0 by omega, Nat.pow_zero, Nat.div_one, show ((-1074 : Int) + pl x).toNat = pl x - 1074 by omega]
    have : 2 ^ pl x = 2 ^ (pl x - 1074) * 2 ^ E74 := by rw [← Nat.pow_add, show pl x - 1074 + E74 = pl x by rw [e74]; omega]
    rw [this, ← Nat.mul_assoc, Nat.mul_div_cancel _ (two_pos _)]
/-- The product. -/
def mulF (x y : Nat) : Nat := double.nearest false (V x * V y) (-2148)
theorem mulF_mono {x x' y : Nat} (h : x ≤ x') : mulF x y ≤ mulF x' y := nearest_mono _ (Nat.mul_le_mul_right _ (V_le.2 h))
def ONE : Nat := 4607182418800017408
def K1000 : Nat := 4652007308841189376
theorem one_fi : fi 1 = ONE := by decide +kernel
theorem k_fi : fi 1000 = K1000 := by decide +kernel
theorem mul_one_k : mulF ONE K1000 = K1000 := by decide +kernel
theorem mul_below : flo (mulF 4607182418800017407 K1000) = 999 := by decide +kernel
def ptsN (c : Nat) : Nat := flo (mulF c K1000)
theorem mulF_le {c : Nat} (h : c ≤ ONE) : mulF c K1000 ≤ K1000 := by
  have := mulF_mono (y := K1000) h
  rwa [mul_one_k] at this
theorem ptsN_le {c : Nat} (h : c ≤ ONE) : ptsN c ≤ 1000 := by
  have := flo_mono (mulF_le h)
  rw [← k_fi, flo_fi (by omega)] at this
  exact this
theorem ptsN_mono {c d : Nat} (h : c ≤ d) : ptsN c ≤ ptsN d := flo_mono (mulF_mono h)
theorem ptsN_one : ptsN ONE = 1000 := by
  unfold ptsN; rw [mul_one_k, ← k_fi, flo_fi (by omega)]
theorem ptsN_below {c : Nat} (h : c < ONE) : ptsN c ≤ 999 := by
  unfold ONE at h
  have := flo_mono (mulF_mono (y := K1000) (show c ≤ 4607182418800017407 by omega))
  rw [mul_below] at this
  exact this
theorem fin_one {c : Nat} (h : c ≤ ONE) : Fine c := by unfold Fine; unfold ONE at h; omega
theorem fin_k {c : Nat} (h : c ≤ K1000) : Fine c := by unfold Fine; unfold K1000 at h; omega
/-- The sum. -/
def addF (x y : Nat) : Nat := N (V x + V y)
theorem addF_le {x c n : Nat} (hn : n + 1 < 9007199254740992) (hx : x ≤ fi n) (hc : c ≤ ONE) : addF x c ≤ fi (n + 1) := by
  refine N_le (fi_fin hn) ?_
  have a := V_le.2 hx
  have b := V_le.2 hc
  rw [V_fi (by omega)] at a
  rw [← one_fi, V_fi (by omega)] at b
  rw [V_fi hn, Nat.add_mul]
  omega
theorem addF_zero {c : Nat} (h : Fine c) : addF 0 c = c := by
  unfold addF
  rw [V_small (r := 0) (by omega), Nat.zero_add, N_V h]
theorem fin_le {x n : Nat} (hn : n < 9007199254740992) (h : x ≤ fi n) : Fine x := by
  have := fi_fin hn
  unfold Fine at *
  omega
/-- The quotient. -/
def quoN (x y : Nat) : Nat := 2 * ((mg x <<< (54 + (mg y).log2 - (mg x).log2)) / mg y) + ((mg x <<< (54 + (mg y).log2 - (mg x).log2)) % mg y != 0).toNat
def quoP (x y : Nat) : Int := (-1074 + (pl x : Int)) - (-1074 + (pl y : Int)) - ((54 + (mg y).log2 - (mg x).log2 : Nat) : Int) - 1
def divF (x y : Nat) : Nat := double.nearest false (quoN x y) (quoP x y)
theorem mg_zero {y : Nat} : mg y = 0 ↔ y = 0 := by unfold mg; split <;> omega
theorem div_fin {x y : Nat} (hx : Fine x) (hy : Fine y) (h0 : y ≠ 0) : double.div x y = some (divF x y) := by
  unfold Format.div
  rw [read_fin hx, read_fin hy]
  unfold Datum.quotient
  dsimp only
  rw [if_neg (mt mg_zero.1 h0)]
  rfl
theorem mg_log (x : Nat) : (mg x).log2 ≤ 52 := by
  by_cases h0 : mg x = 0
  · rw [h0]; decide
  · have : mg x < 9007199254740992 := by unfold mg; split <;> omega
    have := (Nat.log2_lt h0).2 (show mg x < 2 ^ 53 by rw [pow53]; omega)
    omega
theorem divF_le {x y : Nat} (h0 : y ≠ 0) (h : x ≤ y) : divF x y ≤ ONE := by
  unfold divF
  by_cases hx : x = 0
  · subst hx
    have : quoN 0 y = 0 := by
      unfold quoN
      have e : mg 0 = 0 := by decide
      rw [e, Nat.zero_shiftLeft]; simp
    rw [this, nearest_zero]; exact Nat.zero_le _
  · have hm : mg x ≠ 0 := mt mg_zero.1 hx
    have hn : mg y ≠ 0 := mt mg_zero.1 h0
    have hv := V_le.2 h
    have lx := mg_log x
    have hlog : (mg x).log2 + pl x ≤ (mg y).log2 + pl y := by
      rw [← log2_shift _ _ hm, ← log2_shift _ _ hn]
      exact log2_mono (Nat.mul_ne_zero hm (by have := two_pos (pl x); omega)) hv
    unfold V at hv
    obtain ⟨more, hmore⟩ : ∃ more, 54 + (mg y).log2 - (mg x).log2 = more := ⟨_, rfl⟩
    obtain ⟨D, hD⟩ : ∃ D, pl y + more - pl x = D := ⟨_, rfl⟩
    have hP : quoP x y = 0 - ((D + 1 : Nat) : Int) := by unfold quoP; rw [hmore]; omega
    have hQ : quoN x y ≤ 1 * 2 ^ (D + 1) := by
      unfold quoN
      rw [hmore, Nat.shiftLeft_eq]
      have hle : mg x * 2 ^ more ≤ mg y * 2 ^ D := by
        have h1 : mg x * 2 ^ pl x * 2 ^ more ≤ mg y * 2 ^ pl y * 2 ^ more := Nat.mul_le_mul_right _ hv
        have h2 : mg x * 2 ^ pl x * 2 ^ more = mg x * 2 ^ more * 2 ^ pl x := by
          rw [Nat.mul_assoc, Nat.mul_assoc, Nat.mul_comm (2 ^ pl x)]
        have h3 : mg y * 2 ^ pl y * 2 ^ more = mg y * 2 ^ D * 2 ^ pl x := by
          rw [Nat.mul_assoc, Nat.mul_assoc, ← Nat.pow_add, ← Nat.pow_add]; congr 2; omega
        rw [h2, h3] at h1
        exact Nat.le_of_mul_le_mul_right h1 (two_pos _)
      have hdiv : mg x * 2 ^ more / mg y ≤ 2 ^ D := by
        rw [← Nat.mul_div_cancel_left (2 ^ D) (Nat.pos_of_ne_zero hn)]
        exact Nat.div_le_div_right hle
      have hb : ∀ b : Bool, b.toNat ≤ 1 := fun b => by cases b <;> decide
      have hb1 := hb (mg x * 2 ^ more % mg y != 0)
      rw [Nat.pow_succ]
      rcases Nat.lt_or_eq_of_le hdiv with h1 | h1
      · generalize mg x * 2 ^ more / mg y = q at *
        omega
      · have hmod : mg x * 2 ^ more % mg y = 0 := by
          have e1 := Nat.div_add_mod (mg x * 2 ^ more) (mg y)
          rw [h1] at e1
          omega
        rw [hmod, h1]; simp; omega
    have e2 := nearest_shift 1 (D + 1) 0
    rw [hP]
    refine Nat.le_trans (nearest_mono _ hQ) ?_
    rw [e2]
    exact Nat.le_of_eq one_fi
theorem divF_one {x : Nat} (h : Fine x) : divF x ONE = x := by
  unfold divF
  have e1 : mg ONE = 4503599627370496 := by decide
  have e2 : pl ONE = 1022 := by decide
  have e3 : (4503599627370496 : Nat).log2 = 52 := by decide +kernel
  have lx := mg_log x
  unfold quoN quoP
  rw [e1, e2, e3]
  obtain ⟨k, hk⟩ : ∃ k, 54 + 52 - (mg x).log2 = k + 52 := ⟨54 - (mg x).log2, by omega⟩
  rw [hk, Nat.shiftLeft_eq]
  have a : mg x * 2 ^ (k + 52) = mg x * 2 ^ k * 4503599627370496 := by
    rw [Nat.pow_add, Nat.mul_assoc]
  rw [a, Nat.mul_div_cancel _ (by omega), Nat.mul_mod_left]
  have b : 2 * (mg x * 2 ^ k) + ((0 : Nat) != 0).toNat = mg x * 2 ^ (k + 1) := by
    rw [Nat.pow_succ, ← Nat.mul_assoc (mg x)]
    exact Nat.mul_comm _ _
  rw [b]
  have c : (-1074 + (pl x : Int)) - (-1074 + ((1022 : Nat) : Int)) - ((k + 52 : Nat) : Int) - 1 = (-1074 + (pl x : Int)) - ((k + 1 : Nat) : Int) := by omega
  rw [c, nearest_shift, nearest_mg h]

theorem order_all {x y : Nat} (hx : x < 18446744073709551616) (hy : y < 18446744073709551616) : double.order x y = if (isN x || isN y) = true then none else some (compare (key x) (key y)) := by
  by_cases h : (isN x || isN y) = true
  · rw [if_pos h, order_nan hx hy (by simpa using h)]
  · rw [if_neg h]
    simp at h
    exact order_key hx hy h.1 h.2
theorem cmp_lt (a b : Int) : (some (compare a b) == some Ordering.lt) = decide (a < b) := by
  simp only [compare, compareOfLessAndEq]
  by_cases h : a < b
  · simp [h]
  · by_cases h' : a = b <;> simp [h, h']
theorem cmp_gt (a b : Int) : (some (compare a b) == some Ordering.gt) = decide (b < a) := by
  simp only [compare, compareOfLessAndEq]
  by_cases h : a < b
  · simp [h]; omega
  · by_cases h' : a = b
    · simp [h']
    · simp [h, h']; omega
theorem cmp_eq (a b : Int) : (some (compare a b) == some Ordering.eq) = decide (a = b) := by
  simp only [compare, compareOfLessAndEq]
  by_cases h : a < b
  · simp [h]; omega
  · by_cases h' : a = b <;> simp [h, h']
def bothN (x y : Nat) : Bool := !(isN x || isN y)
theorem ord_lt {x y : Nat} (hx : x < 18446744073709551616) (hy : y < 18446744073709551616) : (double.order x y == some .lt) = (bothN x y && decide (key x < key y)) := by
  rw [order_all hx hy, ← cmp_lt]; unfold bothN; cases isN x || isN y <;> simp
theorem ord_gt {x y : Nat} (hx : x < 18446744073709551616) (hy : y < 18446744073709551616) : (double.order x y == some .gt) = (bothN x y && decide (key y < key x)) := by
  rw [order_all hx hy, ← cmp_gt]; unfold bothN; cases isN x || isN y <;> simp
theorem ord_eq {x y : Nat} (hx : x < 18446744073709551616) (hy : y < 18446744073709551616) : (double.order x y == some .eq) = (bothN x y && decide (key x = key y)) := by
  rw [order_all hx hy, ← cmp_eq]; unfold bothN; cases isN x || isN y <;> simp
end Go.Proofs.Ytmcccfocacagjaa
