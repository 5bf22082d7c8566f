/- The plan of the laws' heads; the scores of words. -/
import Derived.Test.YtmcccfocacagjaaStep
import Derived.LoopTactic
namespace Go.Proofs.Ytmcccfocacagjaa
open Go.RowKit
/-- The plan of the laws' heads, whose lists lie in blocks g and h. -/
def P0 (g h : Nat) : Cv := { nodes := 3, slots := 1, rho := 100, hold := 10000, grant := 20000, guard := 1100, work := 1000, sa := some ⟨g, 0, none⟩, sn := 3, sc := 3, na := some ⟨h, 0, none⟩, nn := 2, nc := 2, soak := 1, pass := 500, st := [0, 0, 1], ne := [2, 1] }
theorem goodP {w : World} {g h : Nat} (h1 : w.heap[g]? = some (.cells (cellsOf .i64 [0, 0, 1]) 3 (0, 0))) (h2 : w.heap[h]? = some (.cells (cellsOf .i64 [2, 1]) 3 (0, 0))) : Good w (P0 g h) :=
  ⟨blk_reads h1 (by decide) (by decide), blk_reads h2 (by decide) (by decide), by simp [P0], by simp [P0], by simp [P0], by simp [P0], by simp [P0], by simp [P0], by simp [P0], by simp [P0], by simp [P0]⟩
set_option maxRecDepth 100000 in
theorem plan_any (w : World) : Calls Try.prog 38 #[] w fun e w' => ∃ g h : Nat, e = .returned (.agg (P0 g h).cells) ∧ Good w' (P0 g h) ∧ Below w.heap.size w w' := by
  go_enter Try.func38, Try.ntmps38
  go_wp2_with fail
  have hB : (((w.alloc (.cells (P0 (w.heap.size + 1) (w.heap.size + 1 + 1)).cells 24)).alloc (Obj.cells #[Value.int IntKind.i64 0, Value.int IntKind.i64 0, Value.int IntKind.i64 1] 3)).alloc (Obj.cells #[Value.int IntKind.i64 2, Value.int IntKind.i64 1] 3)).heap[w.heap.size]? = some (.cells (P0 (w.heap.size + 1) (w.heap.size + 1 + 1)).cells 24 (0, 0)) := by
    rw [Below.heap_alloc _ _ _ (by simp; omega), heap_alloc2_old]
  have e1 : (((w.alloc (.cells (P0 (w.heap.size + 1) (w.heap.size + 1 + 1)).cells 24)).alloc (Obj.cells #[Value.int IntKind.i64 0, Value.int IntKind.i64 0, Value.int IntKind.i64 1] 3)).alloc (Obj.cells #[Value.int IntKind.i64 2, Value.int IntKind.i64 1] 3)).heap[w.heap.size + 1]? = some (.cells (cellsOf .i64 [0, 0, 1]) 3 (0, 0)) := by
    rw [Below.heap_alloc _ _ _ (by simp), heap_alloc2_new]; rfl
  have e2 : (((w.alloc (.cells (P0 (w.heap.size + 1) (w.heap.size + 1 + 1)).cells 24)).alloc (Obj.cells #[Value.int IntKind.i64 0, Value.int IntKind.i64 0, Value.int IntKind.i64 1] 3)).alloc (Obj.cells #[Value.int IntKind.i64 2, Value.int IntKind.i64 1] 3)).heap[w.heap.size + 1 + 1]? = some (.cells (cellsOf .i64 [2, 1]) 3 (0, 0)) := heap_alloc_at _ _ _ (by simp)
  refine bodyPost_ret (results_cell_row rfl _ _ w.heap.size 24 _ (0, 0) _ rfl hB Try.underlying24 rfl (cfg_info.trans rfl)) rfl ?_
  exact ⟨_, _, rfl, goodP e1 e2, bnew (bnew (bnew (brefl w) _) _) _⟩
set_option maxRecDepth 100000 in
set_option maxHeartbeats 4000000 in
theorem scores_any (a : Option Addr) (len cap : Nat) (zs : List Int) (w : World) (h : Reads .u64 w a len cap zs) :
    Calls Try.prog 21 #[.slice a len cap] w fun e w' => ∃ ad cap', e = .returned (.slice ad (min len 50) cap') ∧ ReadsF w' ad (min len 50) cap' ((nats zs).take 50) ∧ Below w.heap.size w w' := by
  have hs := h.small'
  have HR := Lib.hid h
  have hf := run_from
  obtain ⟨i0, hi, hz0, hz1, hz2⟩ := flt_i
  have HI := Lib.hid hi
  have HZ := Lib.hid hz0
  have HW := Lib.hid (nats_lt h.wf)
  have HL : Hid ((nats zs).length = len) := by show _ = _; rw [nats_len, h.length]
  have hcells := h.cells
  clear h hi hz0
  have key : ∀ (ad : Option Addr), ad = a → Calls Try.prog 21 #[.slice ad len cap] w fun e w' => ∃ ad cap', e = .returned (.slice ad (min len 50) cap') ∧ ReadsF w' ad (min len 50) cap' ((nats zs).take 50) ∧ Below w.heap.size w w' := by
    intro ad had
    subst had
    rcases hcells with h0 | ⟨b, off, rfl, hc⟩
    · subst h0
      go_enter Try.func21, Try.ntmps21
      go_wp2_with fail
      go_loopw [3, 4] (fun v i wr => i = .int .i64 0 ∧ v = .slice none 0 0 ∧ Below w.heap.size w wr) (fun _ _ _ => 0)
      case atStart => exact ⟨rfl, rfl, brefl w⟩
      case round =>
        obtain ⟨rfl, rfl, hbel⟩ := hrel
        have hz : nats zs = [] := List.eq_nil_of_length_eq_zero HL.out
        have HZZ : Hid ((nats zs).take 50 = []) := by show _ = _; rw [hz]; rfl
        clear hz
        go_wp2_with fail
        go_ret
        exact ⟨none, 0, rfl, by rw [HZZ.out]; exact readsF_none _ _, hbel⟩
    · have HC := Lib.hid hc
      clear hc
      go_enter Try.func21, Try.ntmps21
      go_wp2_with fail
      go_loopw [3, 4] (fun v i wr => ∃ k : Nat, k ≤ min len 50 ∧ i = .int .i64 k ∧ wr.ownsRow w.heap.size 30 1 v k (fls ((nats zs).take k)) ∧ Below w.heap.size w wr) (fun _ i _ => len - (intOf i).toNat)
      case atStart => exact ⟨0, Nat.zero_le _, rfl, World.ownsRow_nil _ _ _ _, brefl w⟩
      case round =>
        obtain ⟨k, hk, rfl, hown, hbel⟩ := hrel
        have hk1 : k ≤ len := by omega
        have hk2 : k ≤ 50 := by omega
        have HBL := Lib.hid hbel
        by_cases hlt : k < min len 50
        · have hlt1 : k < len := by omega
          have hlt2 : k < 50 := by omega
          have hcell : wr.cell? ⟨b, off + k, none⟩ = some (.int .u64 ((nats zs).getD k 0 : Nat)) := by
            rw [hbel.cell (block_lt_of_cell (HC.out k hlt1)), HC.out k hlt1, nats_get HR.out.wf k (by rw [HR.out.length]; exact hlt1)]
          have HT := Lib.hid (take_snocF (nats zs) k (by rw [HL.out]; exact hlt1))
          generalize (nats zs).getD k 0 = x at *
          have HO := Lib.hid hown
          clear hown hk hlt
          go_wp2_with (at_builtin; refine wpList_append_row (by rfl) _ _ 33 rfl w.heap.size 30 i0 _ 1 8 Try.underlying33 HI.out HZ.out hz1 hz2 rfl (by decide) _ k (fls ((nats zs).take k)) rfl (HO.out.alloc _) (some ⟨wr.heap.size, 0, none⟩) 1 1 [.float .f64 x] rfl (fun h => by cases h) rfl (fun p hp => by cases hp; exact f_cell (heap_alloc_new _ _)) (fls_one [x]) (by unfold maxLen; omega) (by omega) (by have := HBL.out.size; simp; omega) ?_; intro v' w1 hown1 hg1; have hb1 := bgrown (bnew HBL.out _) hg1 (own_block HO.out); have HO1 := Lib.hid (own_snoc hown1 rfl); have HB1 := Lib.hid hb1; clear hown1 hg1 hb1)
          go_roundw
          case rel => exact ⟨k + 1, by omega, by go_num, by rw [HT.out]; exact HO1.out, HB1.out⟩
          case measure => simp [intOf]; omega
        · have hkk : k = min len 50 := by omega
          have HE : Hid ((nats zs).take k = (nats zs).take 50) := by
            show _ = _
            rcases Nat.le_total len 50 with h | h
            · rw [List.take_of_length_le (by rw [HL.out]; omega), List.take_of_length_le (by rw [HL.out]; omega)]
            · rw [show k = 50 by omega]
          rw [HE.out] at hown
          obtain ⟨ad', cap', rfl, hrf⟩ := own_reads hown (take_mem HW.out 50)
          have HRF := Lib.hid hrf
          have HKK := Lib.hid hkk
          clear hrf hown hkk hk
          by_cases hl1 : k < len
          · have hl2 : ¬ k < 50 := by have := HKK.out; omega
            clear hlt
            go_wp2_with fail
            go_ret
            exact ⟨ad', cap', by rw [HKK.out]; rfl, by rw [← HKK.out]; exact HRF.out, hbel⟩
          · clear hlt
            go_wp2_with fail
            go_ret
            exact ⟨ad', cap', by rw [HKK.out]; rfl, by rw [← HKK.out]; exact HRF.out, hbel⟩
  exact key a rfl
end Go.Proofs.Ytmcccfocacagjaa
