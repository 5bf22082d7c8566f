/- The walk of ScoreCleans: true, and nothing that was there has changed. -/
import Derived.Test.YtmcccfocacagjaaSCmp
namespace Go.Proofs.Ytmcccfocacagjaa
open Go.RowKit
set_option maxRecDepth 100000 in
set_option maxHeartbeats 4000000 in
theorem walk_ScoreCleans (a b : Int) (w : World) (ha : (Lit.int .u64 a).wf = true) (hb : (Lit.int .u64 b).wf = true) :
    Calls Try.prog 9 #[.int .u64 a, .int .u64 b] w fun e w' => e = .returned (.bool true) ∧ Below w.heap.size w w' := by
  obtain ⟨x, rfl, hx⟩ := u64_nat ha
  obtain ⟨y, rfl, hy⟩ := u64_nat hb
  clear ha hb
  have HX := Lib.hid hx
  have HY := Lib.hid hy
  obtain ⟨o, ho⟩ : ∃ o, ordF x y = o := ⟨_, rfl⟩
  have mono : o ≤ 0 → cleanF x ≤ cleanF y := by rw [← ho]; exact clean_mono hx hy
  have hcx := cleanF_le x
  have hcy := cleanF_le y
  have f1 := leq_small hcx hcy
  have f2 := geq_small hcx (d := 0) (Nat.zero_le _)
  have f3 := leq_small hcx (d := 4607182418800017408) (Nat.le_refl _)
  rw [decide_eq_true (Nat.zero_le _)] at f2
  rw [decide_eq_true (show cleanF x ≤ 4607182418800017408 from hcx)] at f3
  have hp : ptsF x ≤ 1000 := ptsF_le x
  have hpp : cleanF x ≤ cleanF y → ptsF x ≤ ptsF y := ptsN_mono
  have HB := Lib.hid (bits_small hcx)
  have HCC := Lib.hid (clean_clean x)
  have HPC : Hid (ptsF (cleanF x) = ptsF x) := by show _ = _; unfold ptsF; rw [HCC.out]
  have HLT := Lib.hid (clean_lt x)
  have hk := kind_small hcx
  have HO := Lib.hid ho
  clear ho
  obtain ⟨c, hc⟩ : ∃ c, cleanF x = c := ⟨_, rfl⟩
  obtain ⟨d, hd⟩ : ∃ d, cleanF y = d := ⟨_, rfl⟩
  obtain ⟨p, hpx⟩ : ∃ p, ptsF x = p := ⟨_, rfl⟩
  obtain ⟨q, hqy⟩ : ∃ q, ptsF y = q := ⟨_, rfl⟩
  rw [hc, hd] at mono f1 hpp
  rw [hc] at f2 f3 HB HCC HPC HLT hk
  rw [hpx] at hp hpp HPC
  rw [hqy] at hpp
  have HC := Lib.hid hc
  have HD := Lib.hid hd
  have HP := Lib.hid hpx
  have HQ := Lib.hid hqy
  clear hc hd hpx hqy hcx hcy hx hy
  have hcase : (kindF c = 4 ∨ kindF c = 5) ∧ (0 < o ∨ (o ≤ 0 ∧ (FloatKind.f64.format.order c d == some .lt || FloatKind.f64.format.order c d == some .eq) = true ∧ p ≤ q)) := by
    refine ⟨by rw [hk]; split <;> simp, ?_⟩
    by_cases h : 0 < o
    · exact .inl h
    · have m := mono (by omega)
      exact .inr ⟨by omega, by rw [f1, decide_eq_true m], hpp m⟩
  clear mono f1 hpp hk
  obtain ⟨hk, hcase⟩ := hcase
  obtain ⟨k, hkk⟩ : ∃ k, kindF c = k := ⟨_, rfl⟩
  rw [hkk] at hk
  have HK := Lib.hid hkk
  clear hkk
  rcases hk with rfl | rfl <;> rcases hcase with h1 | ⟨h1, h2, h3⟩
  all_goals
    go_enter Try.func9, Try.ntmps9
    go_wp2_with (first
      | (go_at_call 22; (refine (awake_true _).mono ?_); rintro e wX ⟨rfl, hX⟩)
      | (go_at_call 33; (refine (of_any _ _).mono ?_); rintro e w' ⟨rfl, rfl⟩)
      | (go_at_call 29; (with_reducible refine (clean_any x _ HX.out).mono ?_); rintro e w' ⟨rfl, rfl⟩; rw [HC.out])
      | (go_at_call 29; (with_reducible refine (clean_any y _ HY.out).mono ?_); rintro e w' ⟨rfl, rfl⟩; rw [HD.out])
      | (go_at_call 29; (with_reducible refine (clean_any c _ HLT.out).mono ?_); rintro e w' ⟨rfl, rfl⟩; rw [HCC.out])
      | (go_at_call 23; (with_reducible refine (kind_any c _ HLT.out).mono ?_); rintro e w' ⟨rfl, rfl⟩; rw [HK.out])
      | (go_at_call 25; (with_reducible refine (order_any x y _ HX.out HY.out).mono ?_); rintro e w' ⟨rfl, rfl⟩; rw [HO.out])
      | (go_at_call 19; (with_reducible refine (points_any x _ HX.out).mono ?_); rintro e w' ⟨rfl, rfl⟩; rw [HP.out])
      | (go_at_call 19; (with_reducible refine (points_any y _ HY.out).mono ?_); rintro e w' ⟨rfl, rfl⟩; rw [HQ.out])
      | (go_at_call 19; (with_reducible refine (points_any c _ HLT.out).mono ?_); rintro e w' ⟨rfl, rfl⟩; rw [HPC.out])
      | (go_at_call 28; (with_reducible refine (bits_any c _ HLT.out).mono ?_); rintro e w' ⟨rfl, rfl⟩; rw [HB.out]))
    go_ret
    exact ⟨rfl, hX⟩
end Go.Proofs.Ytmcccfocacagjaa
