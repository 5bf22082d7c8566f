/- The walk of ScoreOrders: true, and nothing that was there has changed. -/
import Derived.Test.YtmcccfocacagjaaSOrd
namespace Go.Proofs.Ytmcccfocacagjaa
open Go.RowKit
theorem order_cases {x y z : Nat} (hx : x < 18446744073709551616) (hy : y < 18446744073709551616) (hz : z < 18446744073709551616) :
    ordF y x = - ordF x y ∧ (ordF x y = 0 ↔ bitsF x = bitsF y) ∧ ((ordF x y = -1 ∧ (ordF y z ≤ 0 → ordF x z ≤ 0)) ∨ (ordF x y = 0 ∧ ordF x z = ordF y z) ∨ ordF x y = 1) := by
  rw [ordF_rank hx hy, ordF_rank hy hx, ordF_rank hy hz, ordF_rank hx hz, ← rank_bits hx hy]
  have c1 := cmpI_cases (rank x) (rank y)
  have c2 := cmpI_cases (rank y) (rank z)
  have c3 := cmpI_cases (rank x) (rank z)
  have c4 := cmpI_cases (rank y) (rank x)
  omega
set_option maxRecDepth 100000 in
set_option maxHeartbeats 4000000 in
theorem walk_ScoreOrders (a b c : Int) (w : World) (ha : (Lit.int .u64 a).wf = true) (hb : (Lit.int .u64 b).wf = true) (hc : (Lit.int .u64 c).wf = true) :
    Calls Try.prog 8 #[.int .u64 a, .int .u64 b, .int .u64 c] w fun e w' => e = .returned (.bool true) ∧ Below w.heap.size w w' := by
  obtain ⟨x, rfl, hx⟩ := u64_nat ha
  obtain ⟨y, rfl, hy⟩ := u64_nat hb
  obtain ⟨z, rfl, hz⟩ := u64_nat hc
  clear ha hb hc
  have HX := Lib.hid hx
  have HY := Lib.hid hy
  have HZ := Lib.hid hz
  obtain ⟨hp, hq, hr⟩ := order_cases hx hy hz
  obtain ⟨m, hm⟩ : ∃ m, ordF x y = m := ⟨_, rfl⟩
  obtain ⟨n, hn⟩ : ∃ n, ordF y z = n := ⟨_, rfl⟩
  obtain ⟨o, ho⟩ : ∃ o, ordF x z = o := ⟨_, rfl⟩
  obtain ⟨p, hpp⟩ : ∃ p, ordF y x = p := ⟨_, rfl⟩
  obtain ⟨bx, hbx⟩ : ∃ bx, bitsF x = bx := ⟨_, rfl⟩
  obtain ⟨by', hby⟩ : ∃ by', bitsF y = by' := ⟨_, rfl⟩
  rw [hm, hpp] at hp
  rw [hm, hbx, hby] at hq
  rw [hm, hn, ho] at hr
  have HM := Lib.hid hm
  have HN := Lib.hid hn
  have HO := Lib.hid ho
  have HP := Lib.hid hpp
  have HBX := Lib.hid hbx
  have HBY := Lib.hid hby
  clear hm hn ho hpp hbx hby hx hy hz
  have fin : (m = -1 ∧ p = 1 ∧ ((bx : Int) == by') = false ∧ (0 < n ∨ ¬ 0 < n ∧ o ≤ 0)) ∨ (m = 0 ∧ p = 0 ∧ bx = by' ∧ o = n ∧ (0 < n ∨ ¬ 0 < n)) ∨ (m = 1 ∧ p = -1 ∧ ((bx : Int) == by') = false ∧ (n = n ∨ n = n)) := by
    have e : bx ≠ by' → ((bx : Int) == by') = false := fun h => by simp; omega
    rcases hr with ⟨h, g⟩ | ⟨h, g⟩ | h
    · exact .inl ⟨h, by omega, e (fun k => by have := hq.2 k; omega), by omega⟩
    · exact .inr (.inl ⟨h, by omega, hq.1 h, g, by omega⟩)
    · exact .inr (.inr ⟨h, by omega, e (fun k => by have := hq.2 k; omega), .inl rfl⟩)
  clear hp hq hr
  rcases fin with ⟨rfl, rfl, hbb, h | ⟨h, h'⟩⟩ | ⟨rfl, rfl, rfl, rfl, h | h⟩ | ⟨rfl, rfl, hbb, h | h⟩
  all_goals
    try (have := h; clear h)
  all_goals
    go_enter Try.func8, Try.ntmps8
    go_wp2_with (first
      | (go_at_call 22; (refine (awake_true _).mono ?_); rintro e wX ⟨rfl, hX⟩)
      | (go_at_call 33; (refine (of_any _ _).mono ?_); rintro e w' ⟨rfl, rfl⟩)
      | (go_at_call 25; (with_reducible refine (order_any x y _ HX.out HY.out).mono ?_); rintro e w' ⟨rfl, rfl⟩; rw [HM.out])
      | (go_at_call 25; (with_reducible refine (order_any y z _ HY.out HZ.out).mono ?_); rintro e w' ⟨rfl, rfl⟩; rw [HN.out])
      | (go_at_call 25; (with_reducible refine (order_any x z _ HX.out HZ.out).mono ?_); rintro e w' ⟨rfl, rfl⟩; rw [HO.out])
      | (go_at_call 25; (with_reducible refine (order_any y x _ HY.out HX.out).mono ?_); rintro e w' ⟨rfl, rfl⟩; rw [HP.out])
      | (go_at_call 28; (with_reducible refine (bits_any x _ HX.out).mono ?_); rintro e w' ⟨rfl, rfl⟩; rw [HBX.out])
      | (go_at_call 28; (with_reducible refine (bits_any y _ HY.out).mono ?_); rintro e w' ⟨rfl, rfl⟩; rw [HBY.out]))
    go_ret
    exact ⟨rfl, hX⟩
end Go.Proofs.Ytmcccfocacagjaa
