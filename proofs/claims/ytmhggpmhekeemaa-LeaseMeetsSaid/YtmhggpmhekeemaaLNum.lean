/- Numbers in a list: whether one is there, two lists alike, one list behind another. -/
import Derived.Test.YtmhggpmhekeemaaGAwake
import Derived.Lib.AppendZeros
namespace Go.Proofs.Ytmhggpmhekeemaa
open Go.RowKit
def inB (zs : List Int) (x : Int) : Bool := decide (x ∈ zs)
theorem inB_snoc (zs : List Int) (k : Nat) (x : Int) (hk : k < zs.length) (h : inB (zs.take k) x = false) (hne : zs.getD k 0 ≠ x) : inB (zs.take (k + 1)) x = false := by
  unfold inB at h ⊢
  rw [take_snoc hk]
  simp at h ⊢
  exact ⟨h, fun e => hne (by simpa using e.symm)⟩
theorem inB_hit (zs : List Int) (k : Nat) (x : Int) (hk : k < zs.length) (he : zs.getD k 0 = x) : inB zs x = true := by
  unfold inB
  rw [decide_eq_true_eq, ← he, List.getD, List.getElem?_eq_getElem hk]
  exact List.getElem_mem hk
theorem inB_all (zs : List Int) (k : Nat) (x : Int) (hk : zs.length ≤ k) (h : inB (zs.take k) x = false) : inB zs x = false := by
  rwa [List.take_of_length_le hk] at h
set_option maxRecDepth 100000 in
set_option maxHeartbeats 1000000 in
theorem in_any (a : Option Addr) (n c : Nat) (zs : List Int) (x : Int) (w : World) (h : Reads .i64 w a n c zs) :
    Calls Try.prog 61 #[.slice a n c, .int .i64 x] w fun e w' => e = .returned (.bool (inB zs x)) ∧ w = w' := by
  have hn := h.small'
  have HL := Lib.hid h.length
  have HC := Lib.hid h.cells
  clear h
  go_enter Try.func61, Try.ntmps61
  go_wp2_with fail
  go_loop [5] (fun i => ∃ k : Nat, k ≤ n ∧ i = .int .i64 k ∧ Hid (inB (zs.take k) x = false)) (fun i => n - (intOf i).toNat)
  case atStart => exact ⟨0, Nat.zero_le _, rfl, by show inB [] x = false; simp [inB]⟩
  case round =>
    obtain ⟨k, hk, rfl, HI⟩ := hrel
    by_cases hlt : k < n
    · rcases HC.out with h0 | ⟨b, off, ha, hcell⟩
      · exact absurd h0 (by omega)
      subst ha
      have hc := hcell k hlt
      clear hcell
      obtain ⟨v, hv⟩ : ∃ v, zs.getD k 0 = v := ⟨_, rfl⟩
      rw [hv] at hc
      have HV := Lib.hid hv
      clear hv
      by_cases he : v = x
      · subst he
        go_wp2_with fail
        go_ret
        exact ⟨ret_bool (inB_hit zs k v (by rw [HL.out]; exact hlt) HV.out).symm, rfl⟩
      · have he' : (v == x) = false := by simpa using he
        have HE := Lib.hid he
        clear he
        go_wp2_with fail
        go_round
        case rel => exact ⟨k + 1, by omega, by go_num, inB_snoc zs k x (by rw [HL.out]; exact hlt) HI.out (by rw [HV.out]; exact HE.out)⟩
        case measure => simp [intOf]; omega
    · go_wp2_with fail
      go_ret
      exact ⟨ret_bool (inB_all zs k x (by rw [HL.out]; omega) HI.out).symm, rfl⟩
set_option maxRecDepth 100000 in
set_option maxHeartbeats 1000000 in
theorem idx_any (a : Option Addr) (n c : Nat) (zs : List Int) (x : Int) (w : World) (h : Reads .i64 w a n c zs) :
    Calls Try.prog 74 #[.slice a n c, .int .i64 x] w fun e w' => (∃ i : Int, e = .returned (.int .i64 i) ∧ Hid (decide (0 ≤ i) = inB zs x)) ∧ w = w' := by
  have hn := h.small'
  have HL := Lib.hid h.length
  have HC := Lib.hid h.cells
  clear h
  go_enter Try.func74, Try.ntmps74
  go_wp2_with fail
  go_loop [5, 8] (fun _ i => ∃ k : Nat, k ≤ n ∧ i = .int .i64 k ∧ Hid (inB (zs.take k) x = false)) (fun _ i => n - (intOf i).toNat)
  case atStart => exact ⟨0, Nat.zero_le _, rfl, by show inB [] x = false; simp [inB]⟩
  case round =>
    obtain ⟨k, hk, rfl, HI⟩ := hrel
    by_cases hlt : k < n
    · rcases HC.out with h0 | ⟨b, off, ha, hcell⟩
      · exact absurd h0 (by omega)
      subst ha
      have hc := hcell k hlt
      clear hcell
      obtain ⟨v, hv⟩ : ∃ v, zs.getD k 0 = v := ⟨_, rfl⟩
      rw [hv] at hc
      have HV := Lib.hid hv
      clear hv
      by_cases he : v = x
      · subst he
        go_wp2_with fail
        go_ret
        exact ⟨⟨k, rfl, by show _ = _; rw [inB_hit zs k v (by rw [HL.out]; exact hlt) HV.out]; simp⟩, rfl⟩
      · have he' : (x == v) = false := by simpa using fun e => he (Eq.symm e)
        have HE := Lib.hid he
        clear he
        go_wp2_with fail
        go_round
        case rel => exact ⟨k + 1, by omega, by go_num, inB_snoc zs k x (by rw [HL.out]; exact hlt) HI.out (by rw [HV.out]; exact HE.out)⟩
        case measure => simp [intOf]; omega
    · go_wp2_with fail
      go_ret
      exact ⟨⟨-1, rfl, by show _ = _; rw [inB_all zs k x (by rw [HL.out]; omega) HI.out]; rfl⟩, rfl⟩
set_option maxRecDepth 100000 in
theorem has_any (a : Option Addr) (n c : Nat) (zs : List Int) (x : Int) (w : World) (h : Reads .i64 w a n c zs) :
    Calls Try.prog 59 #[.slice a n c, .int .i64 x] w fun e w' => e = .returned (.bool (inB zs x)) ∧ w = w' := by
  have H := Lib.hid h
  clear h
  go_enter Try.func59, Try.ntmps59
  go_wp2_with (go_at_call 74; refine (idx_any _ _ _ zs x _ H.out).mono ?_; rintro e w1 ⟨⟨i, rfl, HI⟩, rfl⟩)
  go_ret
  exact ⟨ret_bool HI.out, rfl⟩
set_option maxRecDepth 100000 in
set_option maxHeartbeats 1000000 in
theorem nsame_yes (a1 a2 : Option Addr) (n c1 c2 : Nat) (zs : List Int) (w : World) (h1 : Reads .i64 w a1 n c1 zs) (h2 : Reads .i64 w a2 n c2 zs) :
    Calls Try.prog 58 #[.slice a1 n c1, .slice a2 n c2] w fun e w' => e = .returned (.bool true) ∧ Below w.heap.size w w' := by
  have hn := h1.small'
  have H1 := Lib.hid h1
  have H2 := Lib.hid h2
  have HC1 := Lib.hid h1.cells
  have HC2 := Lib.hid h2.cells
  clear h1 h2
  go_enter Try.func58, Try.ntmps58
  go_wp2_with fail
  go_loopw [5] (fun i wr => ∃ k : Nat, k ≤ n ∧ i = .int .i64 k ∧ Below w.heap.size w wr) (fun i _ => n - (intOf i).toNat)
  case atStart => exact ⟨0, Nat.zero_le _, rfl, brefl w⟩
  case round =>
    obtain ⟨k, hk, rfl, hb⟩ := hrel
    by_cases hlt : k < n
    · rcases (H1.out).cells with h0 | ⟨b1, o1, ha, hcell1⟩
      · exact absurd h0 (by omega)
      subst ha
      rcases (H2.out).cells with h0 | ⟨b2, o2, ha, hcell2⟩
      · exact absurd h0 (by omega)
      subst ha
      obtain ⟨v, hv⟩ : ∃ v, zs.getD k 0 = v := ⟨_, rfl⟩
      have g1 := hcell1 k hlt
      have g2 := hcell2 k hlt
      rw [hv] at g1 g2
      have G1 := Lib.hid g1
      have G2 := Lib.hid g2
      have HB := Lib.hid hb
      clear hcell1 hcell2 hv g1 g2
      have hL1 : ∀ W, Below w.heap.size w W → W.cell? ⟨b1, o1 + k, none⟩ = some (.int .i64 v) := fun W h => by rw [h.cell (block_lt_of_cell G1.out), G1.out]
      have hL2 : ∀ W, Below w.heap.size w W → W.cell? ⟨b2, o2 + k, none⟩ = some (.int .i64 v) := fun W h => by rw [h.cell (block_lt_of_cell G2.out), G2.out]
      have hlen : (k : Int) < n := by omega
      go_wp2_with fail
      go_region_held3 (fun W : World => Below w.heap.size w W) (first | assumption | exact hb.drew) (fail)
      all_goals
        go_wp2_with fail
        go_roundw
        case rel => exact ⟨k + 1, by omega, by go_num, by assumption⟩
        case measure => simp [intOf]; omega
    · go_wp2_with fail
      go_ret
      exact ⟨rfl, hb⟩
theorem num_i : ∃ i, Try.prog.info? 3 = some i ∧ i.zero = some (.int .i64 0) ∧ i.size = 1 ∧ i.bytes = 8 := by
  have := num_info
  cases h : Try.prog.info? 3 with
  | none => rw [h] at this; cases this
  | some i => rw [h] at this; simp at this; exact ⟨i, rfl, this.1, this.2.1, this.2.2⟩
theorem grow_own {w : World} (n : Nat) (hn : n ≤ 1000) : ((w.drew.alloc (.cells (Builtin.zeroCells (Value.int .i64 0).cells n ++ Builtin.zeroCells (Value.int .i64 0).cells (grownCap w n 0 3 - n)) 3))).ownsRow w.heap.size 3 1 (.slice (some ⟨w.heap.size, 0, none⟩) 0 (grownCap w n 0 3)) 0 [] := by
  have hge := grownCap_ge w n 0 3
  refine ⟨rfl, .inr ⟨w.heap.size, grownCap w n 0 3, _, rfl, Nat.le_refl _, heap_alloc_new _ _, Nat.zero_le _, grownCap_le_maxLen w n 0 3 (by unfold maxLen; omega), ?_, by simp⟩⟩
  simp only [Array.size_append, size_zeroCells]
  have : (Value.int IntKind.i64 0).cells.size = 1 := rfl
  rw [this]; omega
set_option maxRecDepth 100000 in
set_option maxHeartbeats 1000000 in
theorem grow_any (n : Nat) (w : World) (hn : n ≤ 1000) :
    Calls Try.prog 76 #[.slice none 0 0, .int .i64 n] w fun e w' => (∃ ad cap, e = .returned (.slice ad 0 cap) ∧ w'.ownsRow w.heap.size 3 1 (.slice ad 0 cap) 0 []) ∧ Below w.heap.size w w' := by
  by_cases h0 : n = 0
  · subst h0
    go_enter Try.func76, Try.ntmps76
    go_wp2_with fail
    go_ret
    exact ⟨⟨none, 0, rfl, World.ownsRow_nil _ _ _ _⟩, brefl w⟩
  · have hpos : 0 < n := by omega
    have HN := Lib.hid hn
    have HP := Lib.hid hpos
    obtain ⟨i0, hi, hz0, hz1, hz2⟩ := num_i
    have hr : ∀ (W : World) ty, (Builtin.append_ #[22, 3] ty #[.slice none 0 0, .int .i64 n]).run Try.prog W = .ok (.slice (some ⟨W.heap.size, 0, none⟩) n (grownCap W n 0 3)) (W.drew.alloc (.cells (Builtin.zeroCells (Value.int .i64 0).cells n ++ Builtin.zeroCells (Value.int .i64 0).cells (grownCap W n 0 3 - n)) 3)) := fun W ty =>
      Lib.run_append_nil_zeros W 22 3 ty 3 i0 _ .i64 .i64 Try.underlying22 Try.underlying3 hi hz0 n HP.out (by omega) (by omega) (by rw [hz2]; omega)
    have HRR := Lib.hid hr
    have hge := grownCap_ge w n 0 3
    have hle := grownCap_le_maxLen w n 0 3 (by unfold maxLen; omega)
    unfold maxLen at hle
    have HO := Lib.hid (grow_own (w := w) n hn)
    obtain ⟨G, hG⟩ : ∃ G, grownCap w n 0 3 = G := ⟨_, rfl⟩
    have hr1 := hr w
    rw [hG] at hge hle HO hr1
    clear hG hr hi hz0 hz1 hz2 h0
    have HR1 := Lib.hid hr1
    clear hr1
    go_enter Try.func76, Try.ntmps76
    go_wp2_with (at_builtin; refine Lib.wpList_append_run _ rfl _ _ _ _ rfl _ _ rfl rfl _ _ (HR1.out _) ?_)
    go_ret
    exact ⟨⟨_, _, rfl, HO.out⟩, (brefl w).drew.alloc (by simp) _⟩
end Go.Proofs.Ytmhggpmhekeemaa
