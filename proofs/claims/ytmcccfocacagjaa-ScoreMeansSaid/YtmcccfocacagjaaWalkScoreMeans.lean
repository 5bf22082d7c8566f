/- The walk of ScoreMeans: true, and nothing that was there has changed. -/
import Derived.Test.YtmcccfocacagjaaSNats
namespace Go.Proofs.Ytmcccfocacagjaa
open Go.RowKit
set_option maxRecDepth 100000 in
set_option maxHeartbeats 4000000 in
theorem walk_ScoreMeans (a : Option Addr) (len cap : Nat) (zs : List Int) (w : World) (h : Reads .u64 w a len cap zs) :
    Calls Try.prog 7 #[.slice a len cap] w fun e w' => e = .returned (.bool true) ∧ Below w.heap.size w w' := by
  have hs := h.small'
  by_cases hl : len ≤ 100
  · have HR := Lib.hid h
    have hf := run_from
    obtain ⟨i0, hi, hz0, hz1, hz2⟩ := flt_i
    have HI := Lib.hid hi
    have HZ := Lib.hid hz0
    have HW := Lib.hid (nats_lt h.wf)
    have HL : Hid ((nats zs).length = len) := by show _ = _; rw [nats_len, h.length]
    have HM : Hid (meanF (nats zs) ≤ ONE) := meanF_le _ (by have := HL.out; omega)
    have hge := geq_small HM.out (d := 0) (Nat.zero_le _)
    have hle := leq_small HM.out (d := 4607182418800017408) (Nat.le_refl _)
    rw [decide_eq_true (Nat.zero_le _)] at hge
    rw [decide_eq_true (show meanF (nats zs) ≤ 4607182418800017408 from HM.out)] at hle
    have HF : Hid (meanF (nats zs) < 18446744073709551616) := by show _ < _; have := HM.out; unfold ONE at this; omega
    have HB := Lib.hid (bits_small HM.out)
    have hbits := run_bits (meanF (nats zs))
    obtain ⟨mz, hmz⟩ : ∃ mz, meanF (nats zs) = mz := ⟨_, rfl⟩
    have HMZ := Lib.hid hmz
    rw [hmz] at hge hle HF HB hbits HM
    clear hmz
    have hcells := h.cells
    clear h hi hz0
    have key : ∀ (ad : Option Addr), ad = a → Calls Try.prog 7 #[.slice ad len cap] w fun e w' => e = .returned (.bool true) ∧ Below w.heap.size w w' := by
      intro ad had
      subst had
      rcases hcells with h0 | ⟨b, off, rfl, hc⟩
      · subst h0
        go_enter Try.func7, Try.ntmps7
        go_wp2_with (go_at_call 22; (refine (awake_true _).mono ?_); rintro e wX ⟨rfl, hX⟩)
        go_loopw [4, 5] (fun v i wr => i = .int .i64 0 ∧ v = .slice none 0 0 ∧ Below w.heap.size w wr) (fun _ _ _ => 0)
        case atStart => exact ⟨rfl, rfl, hX⟩
        case round =>
          obtain ⟨rfl, rfl, hbel⟩ := hrel
          have hz : nats zs = [] := List.eq_nil_of_length_eq_zero HL.out
          have HZZ : Hid (meanF [] = mz) := by show _ = _; rw [← hz]; exact HMZ.out
          clear hz
          go_wp2_with (first
            | (go_at_call 34; (refine (mean_any _ 0 0 [] _ (readsF_none _ _) (by omega)).mono ?_); rintro e w' ⟨rfl, rfl⟩; rw [HZZ.out])
            | (go_at_call 35; (refine (rmean_any _ 0 0 [] _ (readsF_none _ _) (by omega)).mono ?_); rintro e w' ⟨rfl, rfl⟩; rw [HZZ.out])
            | (go_at_call 28; (with_reducible refine (bits_any mz _ HF.out).mono ?_); rintro e w' ⟨rfl, rfl⟩; rw [HB.out]))
          go_ret
          exact ⟨rfl, hbel⟩
      · have HC := Lib.hid hc
        clear hc
        go_enter Try.func7, Try.ntmps7
        go_wp2_with (go_at_call 22; (refine (awake_true _).mono ?_); rintro e wX ⟨rfl, hX⟩)
        go_loopw [4, 5] (fun v i wr => ∃ k : Nat, k ≤ len ∧ i = .int .i64 k ∧ wr.ownsRow w.heap.size 30 1 v k (fls ((nats zs).take k)) ∧ Below w.heap.size w wr) (fun _ i _ => len - (intOf i).toNat)
        case atStart => exact ⟨0, Nat.zero_le _, rfl, World.ownsRow_nil _ _ _ _, hX⟩
        case round =>
          obtain ⟨k, hk, rfl, hown, hbel⟩ := hrel
          by_cases hlt : k < len
          · have hcell : wr.cell? ⟨b, off + k, none⟩ = some (.int .u64 ((nats zs).getD k 0 : Nat)) := by
              rw [hbel.cell (block_lt_of_cell (HC.out k hlt)), HC.out k hlt, nats_get HR.out.wf k (by rw [HR.out.length]; exact hlt)]
            have HT := Lib.hid (take_snocF (nats zs) k (by rw [HL.out]; exact hlt))
            generalize (nats zs).getD k 0 = x at *
            have HO := Lib.hid hown
            have HBL := Lib.hid hbel
            clear hown
            go_wp2_with (at_builtin; refine wpList_append_row (by rfl) _ _ 33 rfl w.heap.size 30 i0 _ 1 8 Try.underlying33 HI.out HZ.out hz1 hz2 rfl (by decide) _ k (fls ((nats zs).take k)) rfl (HO.out.alloc _) (some ⟨wr.heap.size, 0, none⟩) 1 1 [.float .f64 x] rfl (fun h => by cases h) rfl (fun p hp => by cases hp; exact f_cell (heap_alloc_new _ _)) (fls_one [x]) (by unfold maxLen; omega) (by omega) (by have := HBL.out.size; simp; omega) ?_; intro v' w1 hown1 hg1; have hb1 := bgrown (bnew HBL.out _) hg1 (own_block HO.out); have HO1 := Lib.hid (own_snoc hown1 rfl); have HB1 := Lib.hid hb1; clear hown1 hg1 hb1)
            go_roundw
            case rel => exact ⟨k + 1, by omega, by go_num, by rw [HT.out]; exact HO1.out, HB1.out⟩
            case measure => simp [intOf]; omega
          · obtain rfl : k = len := by omega
            rw [List.take_of_length_le (by rw [HL.out]; exact Nat.le_refl _)] at hown
            obtain ⟨ad', cap', rfl, hrf⟩ := own_reads hown HW.out
            have HRF := Lib.hid hrf
            clear hrf hown
            go_wp2_with (first
              | (go_at_call 34; (refine (mean_any _ _ _ _ _ HRF.out (by omega)).mono ?_); rintro e w' ⟨rfl, rfl⟩; rw [HMZ.out])
              | (go_at_call 35; (refine (rmean_any _ _ _ _ _ HRF.out (by omega)).mono ?_); rintro e w' ⟨rfl, rfl⟩; rw [HMZ.out])
              | (go_at_call 28; (with_reducible refine (bits_any mz _ HF.out).mono ?_); rintro e w' ⟨rfl, rfl⟩; rw [HB.out]))
            go_ret
            exact ⟨rfl, hbel⟩
    exact key a rfl
  · clear h
    go_enter Try.func7, Try.ntmps7
    go_wp2_with (go_at_call 22; (refine (awake_true _).mono ?_); rintro e wX ⟨rfl, hX⟩)
    go_ret
    exact ⟨rfl, hX⟩
end Go.Proofs.Ytmcccfocacagjaa
