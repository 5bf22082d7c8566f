/- CRC-32C over natural numbers: the table's step, the sum of bytes, that it is linear, one to one, and goes on; plain numbers, without a program. -/
namespace Go.Proofs.Ytkehdagodeaepaa.Crc

/-- One bit goes out. -/
def st (n : Nat) : Nat := n / 2 ^^^ n % 2 * 2197175160
def st4 (n : Nat) : Nat := st (st (st (st n)))
def st8 (n : Nat) : Nat := st4 (st4 n)
/-- The state behind bytes. -/
def run (n : Nat) (l : List Nat) : Nat := l.foldl (fun n x => st8 (n ^^^ x)) n
def cpl (n : Nat) : Nat := 4294967295 ^^^ n
def more (s : Nat) (l : List Nat) : Nat := cpl (run (cpl s) l)

theorem st_xor (a b : Nat) : st (a ^^^ b) = st a ^^^ st b := by
  unfold st
  rw [Nat.xor_div_two]
  have ha : a % 2 = 0 ∨ a % 2 = 1 := by omega
  have hb : b % 2 = 0 ∨ b % 2 = 1 := by omega
  have hx : (a ^^^ b) % 2 = (a % 2 + b % 2) % 2 := by
    have := Nat.xor_mod_two_pow (a := a) (b := b) (n := 1)
    simp only [Nat.pow_one] at this
    rw [this]
    rcases ha with ha | ha <;> rcases hb with hb | hb <;> rw [ha, hb] <;> rfl
  rw [hx]
  rcases ha with ha | ha <;> rcases hb with hb | hb <;> rw [ha, hb]
  · simp
  · simp [Nat.xor_assoc]
  · simp only [Nat.reduceAdd, Nat.reduceMod, Nat.one_mul, Nat.zero_mul, Nat.xor_zero]
    rw [Nat.xor_assoc, Nat.xor_comm (b / 2), Nat.xor_assoc]
  · simp only [Nat.reduceAdd, Nat.reduceMod, Nat.one_mul, Nat.zero_mul, Nat.xor_zero]
    rw [Nat.xor_assoc (a / 2), Nat.xor_comm (b / 2), ← Nat.xor_assoc 2197175160, Nat.xor_self, Nat.zero_xor]

theorem st_two_mul (m : Nat) : st (2 * m) = m := by
  unfold st
  have h1 : 2 * m / 2 = m := by omega
  have h2 : 2 * m % 2 = 0 := by omega
  rw [h1, h2]; simp

theorem st4_xor (a b : Nat) : st4 (a ^^^ b) = st4 a ^^^ st4 b := by unfold st4; simp only [st_xor]
theorem st8_xor (a b : Nat) : st8 (a ^^^ b) = st8 a ^^^ st8 b := by unfold st8; simp only [st4_xor]

theorem st4_mul (m : Nat) : st4 (16 * m) = m := by
  unfold st4
  rw [show 16 * m = 2 * (2 * (2 * (2 * m))) by omega]
  simp only [st_two_mul]

theorem st8_mul (m : Nat) : st8 (256 * m) = m := by
  unfold st8
  rw [show 256 * m = 16 * (16 * m) by omega, st4_mul, st4_mul]

theorem split_pow (i q r : Nat) (h : r < 2 ^ i) : 2 ^ i * q + r = 2 ^ i * q ^^^ r := by
  apply Nat.eq_of_testBit_eq
  intro j
  rw [Nat.testBit_xor, Nat.testBit_two_pow_mul_add _ h, Nat.testBit_two_pow_mul]
  by_cases hj : j < i
  · have hn : ¬ i ≤ j := by omega
    simp [hj, hn]
  · have : r.testBit j = false := Nat.testBit_lt_two_pow (Nat.lt_of_lt_of_le h (Nat.pow_le_pow_right (by decide) (by omega)))
    simp [hj, this]; omega

theorem split16 (n : Nat) : n = 16 * (n / 16) ^^^ n % 16 := by
  have := split_pow 4 (n / 16) (n % 16) (by omega)
  simp only [Nat.reducePow] at this
  omega

/-- The table's half of a byte. -/
theorem half (n : Nat) : n / 16 ^^^ st4 (n % 16) = st4 n := by
  conv => rhs; rw [split16 n, st4_xor, st4_mul]

theorem st_lt {n : Nat} (h : n < 4294967296) : st n < 4294967296 := by
  unfold st
  have h2 : n % 2 = 0 ∨ n % 2 = 1 := by omega
  have := Nat.xor_lt_two_pow (n := 32) (x := n / 2) (y := n % 2 * 2197175160) (by omega) (by rcases h2 with h2 | h2 <;> rw [h2] <;> decide)
  simpa using this
theorem st4_lt {n : Nat} (h : n < 4294967296) : st4 n < 4294967296 := st_lt (st_lt (st_lt (st_lt h)))
theorem st8_lt {n : Nat} (h : n < 4294967296) : st8 n < 4294967296 := st4_lt (st4_lt h)
theorem xor_lt {a b : Nat} (ha : a < 4294967296) (hb : b < 4294967296) : a ^^^ b < 4294967296 := by
  simpa using Nat.xor_lt_two_pow (n := 32) (x := a) (y := b) (by simpa using ha) (by simpa using hb)
theorem cpl_lt {n : Nat} (h : n < 4294967296) : cpl n < 4294967296 := xor_lt (by omega) h
theorem xor_back (a n : Nat) : a ^^^ (a ^^^ n) = n := by rw [← Nat.xor_assoc, Nat.xor_self, Nat.zero_xor]
theorem cpl_eq (n : Nat) : cpl n = 4294967295 ^^^ n := rfl
theorem cpl_cpl (n : Nat) : cpl (cpl n) = n := by rw [cpl_eq, cpl_eq]; exact xor_back _ _
theorem run_lt {n : Nat} (h : n < 4294967296) {l : List Nat} (hl : ∀ x ∈ l, x < 256) : run n l < 4294967296 := by
  induction l generalizing n with
  | nil => exact h
  | cons x r ih => exact ih (st8_lt (xor_lt h (by have := hl x (by simp); omega))) (fun y hy => hl y (by simp [hy]))
theorem more_lt {s : Nat} (h : s < 4294967296) {l : List Nat} (hl : ∀ x ∈ l, x < 256) : more s l < 4294967296 := cpl_lt (run_lt (cpl_lt h) hl)

theorem st_zero {d : Nat} (hd : d < 4294967296) (h : st d = 0) : d = 0 := by
  unfold st at h
  have h2 : d % 2 = 0 ∨ d % 2 = 1 := by omega
  rcases h2 with h2 | h2
  · rw [h2] at h; simp at h; omega
  · rw [h2, Nat.one_mul] at h
    have : d / 2 = 2197175160 := by
      have e : (d / 2 ^^^ 2197175160) ^^^ 2197175160 = 0 ^^^ 2197175160 := by rw [h]
      rwa [Nat.xor_assoc, Nat.xor_self, Nat.xor_zero, Nat.zero_xor] at e
    omega

theorem xor_eq_zero {a b : Nat} (h : a ^^^ b = 0) : a = b := by
  have e : (a ^^^ b) ^^^ b = 0 ^^^ b := by rw [h]
  rwa [Nat.xor_assoc, Nat.xor_self, Nat.xor_zero, Nat.zero_xor] at e
theorem xor_left_inj {a b c : Nat} (h : a ^^^ b = a ^^^ c) : b = c := by
  have e : a ^^^ (a ^^^ b) = a ^^^ (a ^^^ c) := by rw [h]
  simpa only [← Nat.xor_assoc, Nat.xor_self, Nat.zero_xor] using e
theorem xor_right_inj {a b c : Nat} (h : a ^^^ c = b ^^^ c) : a = b := by
  rw [Nat.xor_comm a, Nat.xor_comm b] at h; exact xor_left_inj h

theorem st_inj {a b : Nat} (ha : a < 4294967296) (hb : b < 4294967296) (h : st a = st b) : a = b :=
  xor_eq_zero (st_zero (xor_lt ha hb) (by rw [st_xor, h, Nat.xor_self]))
theorem st4_inj {a b : Nat} (ha : a < 4294967296) (hb : b < 4294967296) (h : st4 a = st4 b) : a = b :=
  st_inj ha hb (st_inj (st_lt ha) (st_lt hb) (st_inj (st_lt (st_lt ha)) (st_lt (st_lt hb)) (st_inj (st_lt (st_lt (st_lt ha))) (st_lt (st_lt (st_lt hb))) h)))
theorem st8_inj {a b : Nat} (ha : a < 4294967296) (hb : b < 4294967296) (h : st8 a = st8 b) : a = b :=
  st4_inj ha hb (st4_inj (st4_lt ha) (st4_lt hb) h)
theorem cpl_inj {a b : Nat} (h : cpl a = cpl b) : a = b := xor_left_inj h

theorem run_append (n : Nat) (a b : List Nat) : run n (a ++ b) = run (run n a) b := by simp [run]
theorem run_inj {l : List Nat} (hl : ∀ x ∈ l, x < 256) : ∀ {a b : Nat}, a < 4294967296 → b < 4294967296 → run a l = run b l → a = b := by
  induction l with
  | nil => intro a b _ _ h; exact h
  | cons x r ih =>
    intro a b ha hb h
    have hx : x < 4294967296 := by have := hl x (by simp); omega
    exact xor_right_inj (st8_inj (xor_lt ha hx) (xor_lt hb hx) (ih (fun y hy => hl y (by simp [hy])) (st8_lt (xor_lt ha hx)) (st8_lt (xor_lt hb hx)) h))

theorem more_append (s : Nat) (a b : List Nat) : more (more s a) b = more s (a ++ b) := by
  unfold more; rw [cpl_cpl, run_append]
theorem more_inj {l : List Nat} (hl : ∀ x ∈ l, x < 256) {a b : Nat} (ha : a < 4294967296) (hb : b < 4294967296) (h : more a l = more b l) : a = b :=
  cpl_inj (run_inj hl (cpl_lt ha) (cpl_lt hb) (cpl_inj h))

/-! Bytes as one number, the lowest first. -/
def pack : List Nat → Nat
  | [] => 0
  | x :: r => x ^^^ 256 * pack r
def stn : Nat → Nat → Nat
  | 0, n => n
  | k + 1, n => stn k (st8 n)
theorem stn_lt (k : Nat) : ∀ {n : Nat}, n < 4294967296 → stn k n < 4294967296 := by
  induction k with
  | zero => intro n h; exact h
  | succ k ih => intro n h; exact ih (st8_lt h)
theorem stn_inj (k : Nat) : ∀ {a b : Nat}, a < 4294967296 → b < 4294967296 → stn k a = stn k b → a = b := by
  induction k with
  | zero => intro a b _ _ h; exact h
  | succ k ih => intro a b ha hb h; exact st8_inj ha hb (ih (st8_lt ha) (st8_lt hb) h)
theorem run_pack (l : List Nat) : ∀ n, run n l = stn l.length (n ^^^ pack l) := by
  induction l with
  | nil => intro n; simp [run, stn, pack]
  | cons x r ih =>
    intro n
    show run (st8 (n ^^^ x)) r = stn r.length (st8 (n ^^^ (x ^^^ 256 * pack r)))
    rw [ih, ← Nat.xor_assoc, st8_xor (n ^^^ x), st8_mul]
theorem pack_lt (l : List Nat) (hl : ∀ x ∈ l, x < 256) : pack l < 256 ^ l.length := by
  induction l with
  | nil => simp [pack]
  | cons x r ih =>
    have hx := hl x (by simp)
    have h := ih (fun y hy => hl y (by simp [hy]))
    have e : x ^^^ 256 * pack r = 256 * pack r + x := by
      have := split_pow 8 (pack r) x (by simpa using hx)
      simp only [Nat.reducePow] at this
      rw [Nat.xor_comm, this]
    show x ^^^ 256 * pack r < 256 ^ (r.length + 1)
    rw [e, Nat.pow_succ]
    omega
theorem pack_inj (a : List Nat) : ∀ b : List Nat, a.length = b.length → (∀ x ∈ a, x < 256) → (∀ x ∈ b, x < 256) → pack a = pack b → a = b := by
  induction a with
  | nil => intro b hl _ _ _; cases b with
    | nil => rfl
    | cons _ _ => simp at hl
  | cons x r ih =>
    intro b hl ha hb h
    cases b with
    | nil => simp at hl
    | cons y s =>
      have hx := ha x (by simp)
      have hy := hb y (by simp)
      have e : ∀ u v, u < 256 → u ^^^ 256 * v = 256 * v + u := fun u v hu => by
        have := split_pow 8 v u (by simpa using hu)
        simp only [Nat.reducePow] at this
        rw [Nat.xor_comm, this]
      have h' : 256 * pack r + x = 256 * pack s + y := by rw [← e x _ hx, ← e y _ hy]; exact h
      have h1 : x = y := by omega
      have h2 : pack r = pack s := by omega
      rw [h1, ih s (by simpa using hl) (fun z hz => ha z (by simp [hz])) (fun z hz => hb z (by simp [hz])) h2]

theorem pack_lt4 {l : List Nat} (hn : l.length ≤ 4) (hl : ∀ x ∈ l, x < 256) : pack l < 4294967296 := by
  have h := pack_lt l hl
  have : 256 ^ l.length ≤ 256 ^ 4 := Nat.pow_le_pow_right (by decide) hn
  have e : (256 : Nat) ^ 4 = 4294967296 := by decide
  omega

/-- Up to four bytes side by side: other bytes, another state. -/
theorem run_four {n : Nat} (hn : n < 4294967296) {a b : List Nat} (hl : a.length = b.length) (h4 : a.length ≤ 4) (ha : ∀ x ∈ a, x < 256) (hb : ∀ x ∈ b, x < 256) (h : run n a = run n b) : a = b := by
  rw [run_pack, run_pack, ← hl] at h
  have h' := stn_inj _ (xor_lt hn (pack_lt4 h4 ha)) (xor_lt hn (pack_lt4 (by omega) hb)) h
  exact pack_inj a b hl ha hb (xor_left_inj h')

theorem more_turns {s : Nat} (hs : s < 4294967296) {p a b r : List Nat} (hl : a.length = b.length) (h4 : a.length ≤ 4) (hp : ∀ x ∈ p, x < 256) (ha : ∀ x ∈ a, x < 256) (hb : ∀ x ∈ b, x < 256) (hr : ∀ x ∈ r, x < 256)
    (h : more s (p ++ (a ++ r)) = more s (p ++ (b ++ r))) : a = b := by
  have h1 := cpl_inj h
  rw [run_append, run_append, run_append, run_append] at h1
  have hn := run_lt (cpl_lt hs) hp
  exact run_four hn hl h4 ha hb (run_inj hr (run_lt hn ha) (run_lt hn hb) h1)

theorem run_xor (a : List Nat) : ∀ (b : List Nat) (n m : Nat), a.length = b.length → run (n ^^^ m) (List.zipWith (· ^^^ ·) a b) = run n a ^^^ run m b := by
  induction a with
  | nil => intro b n m hl; cases b with
    | nil => rfl
    | cons _ _ => simp at hl
  | cons x r ih =>
    intro b n m hl
    cases b with
    | nil => simp at hl
    | cons y s =>
      show run (st8 ((n ^^^ m) ^^^ (x ^^^ y))) (List.zipWith (· ^^^ ·) r s) = run (st8 (n ^^^ x)) r ^^^ run (st8 (m ^^^ y)) s
      rw [← ih s _ _ (by simpa using hl), ← st8_xor]
      have e : (n ^^^ m) ^^^ (x ^^^ y) = (n ^^^ x) ^^^ (m ^^^ y) := by
        rw [Nat.xor_assoc, Nat.xor_assoc, ← Nat.xor_assoc m, Nat.xor_comm m x, Nat.xor_assoc]
      rw [e]

theorem zip_zero (a : List Nat) : List.zipWith (· ^^^ ·) a (List.replicate a.length 0) = a := by
  induction a with
  | nil => rfl
  | cons x r ih => simp [List.replicate_succ, ih]

theorem more_adds (a b : List Nat) (hl : a.length = b.length) : more 0 (List.zipWith (· ^^^ ·) a b) = (more 0 a ^^^ more 0 b) ^^^ more 0 (List.replicate a.length 0) := by
  have hz : (List.zipWith (· ^^^ ·) a b).length = a.length := by simp; omega
  have h1 := run_xor (List.zipWith (· ^^^ ·) a b) (List.replicate a.length 0) (cpl 0 ^^^ cpl 0) (cpl 0) (by simp [hz])
  have h2 := run_xor a b (cpl 0) (cpl 0) hl
  have e0 : List.zipWith (· ^^^ ·) (List.zipWith (· ^^^ ·) a b) (List.replicate a.length 0) = List.zipWith (· ^^^ ·) a b := by
    have := zip_zero (List.zipWith (· ^^^ ·) a b)
    rwa [hz] at this
  rw [e0, h2] at h1
  have e1 : (cpl 0 ^^^ cpl 0) ^^^ cpl 0 = cpl 0 := by rw [Nat.xor_self, Nat.zero_xor]
  rw [e1] at h1
  unfold more
  rw [h1]
  generalize run (cpl 0) a = u
  generalize run (cpl 0) b = v
  generalize run (cpl 0) (List.replicate a.length 0) = w
  unfold cpl
  have e : (4294967295 ^^^ u) ^^^ (4294967295 ^^^ v) = u ^^^ v := by
    rw [Nat.xor_comm 4294967295 u, Nat.xor_assoc, ← Nat.xor_assoc 4294967295, Nat.xor_self, Nat.zero_xor]
  rw [e]
  rw [Nat.xor_comm 4294967295 w, ← Nat.xor_assoc (u ^^^ v), Nat.xor_comm (u ^^^ v ^^^ w)]

/-- A sum's own bytes behind. -/
def bytesOf (s : Nat) : List Nat := [s % 256, s / 256 % 256, s / 65536 % 256, s / 16777216 % 256]
theorem pack_bytesOf {s : Nat} (h : s < 4294967296) : pack (bytesOf s) = s := by
  have e : ∀ u v, u < 256 → u ^^^ 256 * v = 256 * v + u := fun u v hu => by
    have := split_pow 8 v u (by simpa using hu)
    simp only [Nat.reducePow] at this
    rw [Nat.xor_comm, this]
  unfold bytesOf
  simp only [pack]
  rw [e _ _ (by omega), e _ _ (by omega), e _ _ (by omega), e _ _ (by omega)]
  omega
theorem more_ends {l : List Nat} (hl : ∀ x ∈ l, x < 256) : more 0 (l ++ bytesOf (more 0 l)) = more 0 [0, 0, 0, 0] := by
  have h := more_lt (s := 0) (by decide) hl
  show cpl (run (cpl 0) (l ++ bytesOf (more 0 l))) = cpl (run (cpl 0) [0, 0, 0, 0])
  rw [run_append, run_pack (bytesOf _), run_pack [0, 0, 0, 0], pack_bytesOf h]
  have e1 : run (cpl 0) l ^^^ more 0 l = 4294967295 := by
    show run (cpl 0) l ^^^ (4294967295 ^^^ run (cpl 0) l) = 4294967295
    rw [Nat.xor_comm 4294967295, ← Nat.xor_assoc, Nat.xor_self, Nat.zero_xor]
  rw [e1]
  rfl
end Go.Proofs.Ytkehdagodeaepaa.Crc
