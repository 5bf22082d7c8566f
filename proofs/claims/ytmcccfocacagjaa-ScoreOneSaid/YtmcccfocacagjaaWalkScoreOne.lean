/- The walk of ScoreOne: true, and nothing that was there has changed. -/
import Derived.Test.YtmcccfocacagjaaSApp2
namespace Go.Proofs.Ytmcccfocacagjaa
open Go.RowKit
theorem mean_one (x : Nat) : meanF [x] = cleanF x := by
  have h := cleanF_le x
  unfold meanF
  have e : sumF [x] = cleanF x := by
    show addF 0 (cleanF x) = cleanF x
    exact addF_zero (fin_one h)
  rw [e]
  exact (congrArg (divF (cleanF x)) one_fi).trans (divF_one (fin_one h))
theorem mean_map (l : List Nat) : meanF (l.map cleanF) = meanF l := by
  unfold meanF
  have e : sumF (l.map cleanF) = sumF l := by
    unfold sumF
    rw [List.foldl_map]
    simp only [clean_clean]
  rw [e, List.length_map]
theorem bits_bits (b : Nat) : bitsF (bitsF b) = bitsF b := by
  unfold bitsF
  by_cases h : kindF b = 0
  · rw [if_pos h]; split <;> rfl
  · rw [if_neg h, if_neg h]
theorem kind_bits (b : Nat) : kindF (bitsF b) = kindF b := by
  unfold bitsF
  by_cases h : kindF b = 0
  · rw [if_pos h, h]; decide
  · rw [if_neg h]
theorem bits_lt {b : Nat} (h : b < 18446744073709551616) : bitsF b < 18446744073709551616 := by
  unfold bitsF NANC; split <;> omega
theorem readsF1 {w : World} {x : Nat} (hx : x < 18446744073709551616) {g : Nat} {e : TypeId} {fr : Nat × Nat} (h : w.heap[g]? = some (.cells #[.float .f64 x] e fr)) : ReadsF w (some ⟨g, 0, none⟩) 1 1 [x] := by
  refine ⟨rfl, Nat.le_refl _, by omega, by simpa using hx, (fun h => by cases h), .inr ⟨g, 0, rfl, ?_⟩⟩
  intro i hi
  rw [cell_of_row _ _ _ _ _ _ h]
  obtain rfl : i = 0 := by omega
  rfl
theorem map_take_snoc (l : List Nat) (k : Nat) (h : k < l.length) : (l.take (k + 1)).map cleanF = (l.take k).map cleanF ++ [cleanF (l.getD k 0)] := by
  rw [take_snocF l k h, List.map_append]; rfl
theorem clean_mem (l : List Nat) : ∀ x ∈ l.map cleanF, x < 18446744073709551616 := by
  intro x hx
  simp only [List.mem_map] at hx
  obtain ⟨y, _, rfl⟩ := hx
  exact clean_lt y
/-- Two rows that lie apart. -/
def Apart (u v : Value) : Prop := u.ownBlock = none ∨ u.ownBlock ≠ v.ownBlock
theorem apart_ne {u v : Value} (h : Apart u v) : v.ownBlock = none ∨ v.ownBlock ≠ u.ownBlock := by
  rcases h with h | h
  · by_cases g : v.ownBlock = none
    · exact .inl g
    · exact .inr (by rw [h]; exact g)
  · exact .inr (fun e => h e.symm)
theorem apart_ne' {u v : Value} (h : Apart u v) : u.ownBlock = none ∨ u.ownBlock ≠ v.ownBlock := h
theorem apart_l {w : World} {o : Obj} {base n : Nat} {e : TypeId} {size : Nat} {xs : List Value} {u u' v : Value} (h : Apart u v) (hv : w.ownsRow base e size v n xs) (hu : u'.ownBlock = u.ownBlock ∨ u'.ownBlock = some (w.alloc o).heap.size) : Apart u' v := by
  rcases hu with hu | hu
  · unfold Apart; rw [hu]; exact h
  · refine .inr ?_
    rw [hu]
    intro e
    have := (hv.lt _ e.symm).2
    simp at this
    omega
theorem apart_r {w : World} {o : Obj} {base n : Nat} {e : TypeId} {size : Nat} {xs : List Value} {u v v' : Value} (h : Apart u v) (hu : w.ownsRow base e size u n xs) (hv : v'.ownBlock = v.ownBlock ∨ v'.ownBlock = some (w.alloc o).heap.size) : Apart u v' := by
  rcases hv with hv | hv
  · unfold Apart; rw [hv]; exact h
  · refine .inr ?_
    rw [hv]
    intro e
    have := (hu.lt _ e).2
    simp at this
    omega
set_option maxRecDepth 100000 in
set_option maxHeartbeats 8000000 in
theorem walk_ScoreOne (c : Int) (a : Option Addr) (len cap : Nat) (zs : List Int) (w : World) (hc : (Lit.int .u64 c).wf = true) (h : Reads .u64 w a len cap zs) :
    Calls Try.prog 10 #[.int .u64 c, .slice a len cap] w fun e w' => e = .returned (.bool true) ∧ Below w.heap.size w w' := by
  have hs := h.small'
  obtain ⟨x, rfl, hx⟩ := u64_nat hc
  clear hc
  by_cases hl : len ≤ 50
  · have HR := Lib.hid h
    obtain ⟨i0, hi, hz0, hz1, hz2⟩ := flt_i
    have HI := Lib.hid hi
    have HZ := Lib.hid hz0
    have HW := Lib.hid (nats_lt h.wf)
    have HL : Hid ((nats zs).length = len) := by show _ = _; rw [nats_len, h.length]
    have HX := Lib.hid hx
    have HM1 := Lib.hid (mean_one x)
    have HC1 := Lib.hid (clean_lt x)
    have HBB := Lib.hid (bits_bits x)
    have HKB := Lib.hid (kind_bits x)
    have HBL := Lib.hid (bits_lt hx)
    obtain ⟨mz, hmz⟩ : ∃ mz, meanF (nats zs) = mz := ⟨_, rfl⟩
    have HMZ := Lib.hid hmz
    have HMM : Hid (meanF ((nats zs).map cleanF) = mz) := by show _ = _; rw [mean_map, hmz]
    have HF : Hid (mz < 18446744073709551616) := by
      show _ < _
      have := meanF_le (nats zs) (by have := HL.out; omega)
      rw [hmz] at this
      unfold ONE at this; omega
    clear hmz
    have hcells := h.cells
    clear h hi hz0 hx
    have key : ∀ (ad : Option Addr), ad = a → Calls Try.prog 10 #[.int .u64 (x : Int), .slice ad len cap] w fun e w' => e = .returned (.bool true) ∧ Below w.heap.size w w' := by
      intro ad had
      subst had
      rcases hcells with h0 | ⟨b, off, rfl, hc⟩
      · subst h0
        go_enter Try.func10, Try.ntmps10
        go_wp2_with (first | (go_at_call 22; (refine (awake_true _).mono ?_); rintro e wX ⟨rfl, hX⟩) | (go_at_call 33; (refine (of_any _ _).mono ?_); rintro e w' ⟨rfl, rfl⟩))
        go_loopw [7, 8, 9] (fun u v i wr => i = .int .i64 0 ∧ u = .slice none 0 0 ∧ v = .slice none 0 0 ∧ Below w.heap.size w wr) (fun _ _ _ _ => 0)
        case atStart => exact ⟨rfl, rfl, rfl, hX⟩
        case round =>
          obtain ⟨rfl, rfl, rfl, hbel⟩ := hrel
          have hz : nats zs = [] := List.eq_nil_of_length_eq_zero HL.out
          have HZZ : Hid (meanF [] = mz) := by show _ = _; rw [← hz]; exact HMZ.out
          clear hz
          go_wp2_with (first
            | (go_at_call 33; (refine (of_any _ _).mono ?_); rintro e w' ⟨rfl, rfl⟩)
            | (go_at_call 34; (with_reducible refine (mean_any none 0 0 [] _ (readsF_none _ _) (by omega)).mono ?_); rintro e w' ⟨rfl, rfl⟩; rw [HZZ.out])
            | (go_at_call 34; (with_reducible refine (mean_any (some ⟨wr.heap.size, 0, none⟩) 1 1 [x] _ (readsF1 HX.out (heap_alloc_new _ _)) (by omega)).mono ?_); rintro e w' ⟨rfl, rfl⟩; rw [HM1.out])
            | (go_at_call 29; (with_reducible refine (clean_any x _ HX.out).mono ?_); rintro e w' ⟨rfl, rfl⟩)
            | (go_at_call 28; (with_reducible refine (bits_any x _ HX.out).mono ?_); rintro e w' ⟨rfl, rfl⟩)
            | (go_at_call 28; (with_reducible refine (bits_any mz _ HF.out).mono ?_); rintro e w' ⟨rfl, rfl⟩)
            | (go_at_call 28; (with_reducible refine (bits_any (cleanF x) _ HC1.out).mono ?_); rintro e w' ⟨rfl, rfl⟩)
            | (go_at_call 28; (with_reducible refine (bits_any (bitsF x) _ HBL.out).mono ?_); rintro e w' ⟨rfl, rfl⟩; rw [HBB.out])
            | (go_at_call 23; (with_reducible refine (kind_any x _ HX.out).mono ?_); rintro e w' ⟨rfl, rfl⟩)
            | (go_at_call 23; (with_reducible refine (kind_any (bitsF x) _ HBL.out).mono ?_); rintro e w' ⟨rfl, rfl⟩; rw [HKB.out]))
          go_ret
          exact ⟨rfl, bnew hbel _⟩
      · have HC := Lib.hid hc
        clear hc
        go_enter Try.func10, Try.ntmps10
        go_wp2_with (first | (go_at_call 22; (refine (awake_true _).mono ?_); rintro e wX ⟨rfl, hX⟩) | (go_at_call 33; (refine (of_any _ _).mono ?_); rintro e w' ⟨rfl, rfl⟩))
        go_loopw [7, 8, 9] (fun u v i wr => ∃ k : Nat, k ≤ len ∧ i = .int .i64 k ∧ wr.ownsRow w.heap.size 30 1 u k (fls ((nats zs).take k)) ∧ wr.ownsRow w.heap.size 30 1 v k (fls (((nats zs).take k).map cleanF)) ∧ Apart u v ∧ Below w.heap.size w wr) (fun _ _ i _ => len - (intOf i).toNat)
        case atStart => exact ⟨0, Nat.zero_le _, rfl, World.ownsRow_nil _ _ _ _, World.ownsRow_nil _ _ _ _, .inl rfl, hX⟩
        case round =>
          obtain ⟨k, hk, rfl, hown, hown2, hap, hbel⟩ := hrel
          have HAP := Lib.hid hap
          by_cases hlt : k < len
          · have HCE : Hid (∀ W, Below w.heap.size w W → W.cell? ⟨b, off + k, none⟩ = some (.int .u64 ((nats zs).getD k 0 : Nat))) := by
              show ∀ W, _
              intro W hW
              rw [hW.cell (block_lt_of_cell (HC.out k hlt)), HC.out k hlt, nats_get HR.out.wf k (by rw [HR.out.length]; exact hlt)]
            have hcell := HCE.out wr hbel
            have HT := Lib.hid (take_snocF (nats zs) k (by rw [HL.out]; exact hlt))
            have HT2 := Lib.hid (map_take_snoc (nats zs) k (by rw [HL.out]; exact hlt))
            have HXK : Hid ((nats zs).getD k 0 < 18446744073709551616) := by
              have hk' : k < (nats zs).length := by rw [HL.out]; exact hlt
              show _ < _
              rw [List.getD, List.getElem?_eq_getElem hk']
              exact HW.out _ (List.getElem_mem _)
            generalize (nats zs).getD k 0 = y at *
            have HO := Lib.hid hown
            have HO2 := Lib.hid hown2
            have HBL2 := Lib.hid hbel
            clear hown hown2 hap
            go_wp2_with (first
              | (go_at_call 33; (refine (of_any _ _).mono ?_); rintro e w' ⟨rfl, rfl⟩)
              | (go_at_call 29; (with_reducible refine (clean_any y _ HXK.out).mono ?_); rintro e w' ⟨rfl, rfl⟩)
              | (at_builtin; (refine wpList_append_at (by rfl) (.tmp 25) (.tmp 31) 33 rfl w.heap.size 30 i0 _ 1 8 Try.underlying33 HI.out HZ.out hz1 hz2 rfl (by decide) _ k (fls ((nats zs).take k)) rfl (HO.out.alloc _) ⟨wr.heap.size, 0, none⟩ 1 1 [.float .f64 y] rfl rfl (f_cell (heap_alloc_new _ _)) (fls_one [y]) (by unfold maxLen; omega) (by omega) (by have := HBL2.out.size; simp; omega) (by omega) ?_); intro v1 w1 hown1 hg1 hat1; have HAP1 := Lib.hid (apart_l HAP.out HO2.out hat1); have HO1 := Lib.hid (own_snoc hown1 rfl); have HOV := Lib.hid ((HO2.out.alloc _).kept hg1 (apart_ne HAP.out)); have HB1 := Lib.hid (bgrown (bnew HBL2.out _) hg1 (own_block HO.out)); have hc1 := HCE.out w1 HB1.out; clear hown1 hg1 hat1)
              | (at_builtin; (refine wpList_append_at (by rfl) (.tmp 33) (.tmp 40) 33 rfl w.heap.size 30 i0 _ 1 8 Try.underlying33 HI.out HZ.out hz1 hz2 rfl (by decide) _ k (fls (((nats zs).take k).map cleanF)) rfl (HOV.out.alloc _) ⟨w1.heap.size, 0, none⟩ 1 1 [.float .f64 (cleanF y)] rfl rfl (f_cell (heap_alloc_new _ _)) (fls_one [cleanF y]) (by unfold maxLen; omega) (by omega) (by have := HB1.out.size; simp; omega) (by omega) ?_); intro v2 w2 hown3 hg2 hat2; have HAP2 := Lib.hid (apart_r HAP1.out HO1.out hat2); have HO3 := Lib.hid (own_snoc hown3 rfl); have HO4 := Lib.hid ((HO1.out.alloc _).kept hg2 (apart_ne' HAP1.out)); have HB2 := Lib.hid (bgrown (bnew HB1.out _) hg2 (own_block HOV.out)); clear hown3 hg2 hat2))
            go_roundw
            case rel => exact ⟨k + 1, by omega, by go_num, by rw [HT.out]; exact HO4.out, by rw [HT2.out]; exact HO3.out, HAP2.out, HB2.out⟩
            case measure => simp [intOf]; omega
          · obtain rfl : k = len := by omega
            rw [List.take_of_length_le (by rw [HL.out]; exact Nat.le_refl _)] at hown hown2
            obtain ⟨ad1, cap1, rfl, hr1⟩ := own_reads hown HW.out
            obtain ⟨ad2, cap2, rfl, hr2⟩ := own_reads hown2 (clean_mem _)
            have HR1 := Lib.hid (fun o => hr1.below (bnew (brefl wr) o))
            have HR2 := Lib.hid (fun o => hr2.below (bnew (brefl wr) o))
            clear hr1 hr2 hown hown2 hap
            go_wp2_with (first
              | (go_at_call 33; (refine (of_any _ _).mono ?_); rintro e w' ⟨rfl, rfl⟩)
              | (go_at_call 34; (with_reducible refine (mean_any (some ⟨wr.heap.size, 0, none⟩) 1 1 [x] _ (readsF1 HX.out (heap_alloc_new _ _)) (by omega)).mono ?_); rintro e w' ⟨rfl, rfl⟩; rw [HM1.out])
              | (go_at_call 34; (with_reducible refine (mean_any ad1 _ cap1 _ _ (HR1.out _) (by omega)).mono ?_); rintro e w' ⟨rfl, rfl⟩; rw [HMZ.out])
              | (go_at_call 34; (with_reducible refine (mean_any ad2 _ cap2 _ _ (HR2.out _) (by omega)).mono ?_); rintro e w' ⟨rfl, rfl⟩; rw [HMM.out])
              | (go_at_call 29; (with_reducible refine (clean_any x _ HX.out).mono ?_); rintro e w' ⟨rfl, rfl⟩)
              | (go_at_call 28; (with_reducible refine (bits_any x _ HX.out).mono ?_); rintro e w' ⟨rfl, rfl⟩)
              | (go_at_call 28; (with_reducible refine (bits_any mz _ HF.out).mono ?_); rintro e w' ⟨rfl, rfl⟩)
              | (go_at_call 28; (with_reducible refine (bits_any (cleanF x) _ HC1.out).mono ?_); rintro e w' ⟨rfl, rfl⟩)
              | (go_at_call 28; (with_reducible refine (bits_any (bitsF x) _ HBL.out).mono ?_); rintro e w' ⟨rfl, rfl⟩; rw [HBB.out])
              | (go_at_call 23; (with_reducible refine (kind_any x _ HX.out).mono ?_); rintro e w' ⟨rfl, rfl⟩)
              | (go_at_call 23; (with_reducible refine (kind_any (bitsF x) _ HBL.out).mono ?_); rintro e w' ⟨rfl, rfl⟩; rw [HKB.out]))
            go_ret
            exact ⟨rfl, bnew hbel _⟩
    exact key a rfl
  · clear h
    go_enter Try.func10, Try.ntmps10
    go_wp2_with (go_at_call 22; (refine (awake_true _).mono ?_); rintro e wX ⟨rfl, hX⟩)
    go_ret
    exact ⟨rfl, hX⟩
end Go.Proofs.Ytmcccfocacagjaa
