/- Two acceptors of the same grants are the same. -/
import Derived.Test.YtmhggpmhekeemaaRPut
import Derived.LoopTactic
import Derived.Deep.RegionHeld3
namespace Go.Proofs.Ytmhggpmhekeemaa
open Go.RowKit
set_option maxRecDepth 100000 in
set_option maxHeartbeats 4000000 in
theorem same_yes (boot : Int) (a1 a2 : Option Addr) (n c1 c2 : Nat) (gs : List G3) (w : World) (h1 : Acc w a1 n c1 gs) (h2 : Acc w a2 n c2 gs) :
    Calls Try.prog 19 #[.agg #[.int .i64 boot, .slice a1 n c1], .agg #[.int .i64 boot, .slice a2 n c2]] w fun e w' => e = .returned (.bool true) ∧ Below w.heap.size w w' := by
  have hn := h1.few
  have key : ∀ (x1 x2 : Option Addr), x1 = a1 → x2 = a2 → (n = 0 ∨ ∃ b1 b2, x1 = some ⟨b1, 0, none⟩ ∧ x2 = some ⟨b2, 0, none⟩) →
      Calls Try.prog 19 #[.agg #[.int .i64 boot, .slice x1 n c1], .agg #[.int .i64 boot, .slice x2 n c2]] w fun e w' => e = .returned (.bool true) ∧ Below w.heap.size w w' := by
    intro x1 x2 e1 e2 hx
    subst e1 e2
    have H1 := Lib.hid h1
    have H2 := Lib.hid h2
    clear h1 h2
    have HbX : Hid (Below w.heap.size w ((w.alloc (Obj.cells #[Value.int IntKind.i64 boot, Value.slice x1 n c1] 30)).alloc (Obj.cells #[Value.int IntKind.i64 boot, Value.slice x2 n c2] 30))) := bnew (bnew (brefl w) _) _
    have HA : Hid (((w.alloc (Obj.cells #[Value.int IntKind.i64 boot, Value.slice x1 n c1] 30)).alloc (Obj.cells #[Value.int IntKind.i64 boot, Value.slice x2 n c2] 30)).heap[w.heap.size]? = some (.cells #[.int .i64 boot, .slice x1 n c1] 30 (0, 0))) := heap_alloc2_old _ _ _
    have HB : Hid (((w.alloc (Obj.cells #[Value.int IntKind.i64 boot, Value.slice x1 n c1] 30)).alloc (Obj.cells #[Value.int IntKind.i64 boot, Value.slice x2 n c2] 30)).heap[w.heap.size + 1]? = some (.cells #[.int .i64 boot, .slice x2 n c2] 30 (0, 0))) := heap_alloc2_new _ _ _
    rcases hx with h0 | ⟨b1, b2, rfl, rfl⟩
    · subst h0
      go_enter Try.func19, Try.ntmps19
      go_wp2_with fail
      generalize ((w.alloc (Obj.cells #[Value.int IntKind.i64 boot, Value.slice x1 0 c1] 30)).alloc (Obj.cells #[Value.int IntKind.i64 boot, Value.slice x2 0 c2] 30)) = X at *
      go_loopw [5] (fun i wr => i = .int .i64 0 ∧ wr = X) (fun _ _ => 0)
      case atStart => exact ⟨rfl, rfl⟩
      case round =>
        obtain ⟨rfl, rfl⟩ := hrel
        obtain ⟨u0, u1⟩ := acc_cells HA.out
        go_wp2_with fail
        go_ret
        exact ⟨rfl, HbX.out⟩
    · go_enter Try.func19, Try.ntmps19
      go_wp2_with fail
      generalize ((w.alloc (Obj.cells #[Value.int IntKind.i64 boot, Value.slice (some ⟨b1, 0, none⟩) n c1] 30)).alloc (Obj.cells #[Value.int IntKind.i64 boot, Value.slice (some ⟨b2, 0, none⟩) n c2] 30)) = X at *
      go_loopw [5] (fun i wr => ∃ k : Nat, k ≤ n ∧ i = .int .i64 k ∧ Below X.heap.size X wr) (fun i _ => n - (intOf i).toNat)
      case atStart => exact ⟨0, Nat.zero_le _, rfl, Below.refl _ _⟩
      case round =>
        obtain ⟨k, hk, rfl, hb⟩ := hrel
        have hA := (hb.block _ (lt_of_block HA.out)).trans HA.out
        obtain ⟨u0, u1⟩ := acc_cells hA
        by_cases hlt : k < n
        · have hlen : (k : Int) < n := by omega
          have hL1 : ∀ W, Below X.heap.size X W → W.cell? ⟨w.heap.size, 0, none⟩ = some (.int .i64 boot) ∧ W.cell? ⟨w.heap.size, 1, none⟩ = some (.slice (some ⟨b1, 0, none⟩) n c1) := fun W h => acc_cells ((h.block _ (lt_of_block HA.out)).trans HA.out)
          have hL2 : ∀ W, Below X.heap.size X W → W.cell? ⟨w.heap.size + 1, 0, none⟩ = some (.int .i64 boot) ∧ W.cell? ⟨w.heap.size + 1, 1, none⟩ = some (.slice (some ⟨b2, 0, none⟩) n c2) := fun W h => acc_cells ((h.block _ (lt_of_block HB.out)).trans HB.out)
          obtain ⟨gn, gc, gi, hG⟩ : ∃ gn gc gi, gs.getD k gnone = ⟨gn, gc, gi⟩ := ⟨_, _, _, rfl⟩
          have HGG := Lib.hid hG
          clear hG
          have hL3 : ∀ W, Below X.heap.size X W → W.cell? ⟨b1, k * 3, none⟩ = some (.int .i64 gn) ∧ W.cell? ⟨b1, k * 3 + 1, none⟩ = some (.int .i64 gc) ∧ W.cell? ⟨b1, k * 3 + 2, none⟩ = some (.int .i64 gi) := fun W h => by
            obtain ⟨b', hb', c0, c1, c2⟩ := ((H1.out.below HbX.out).below h).cell hlt
            cases hb'
            rw [HGG.out] at c0 c1 c2
            exact ⟨c0, c1, c2⟩
          have hL4 : ∀ W, Below X.heap.size X W → W.cell? ⟨b2, k * 3, none⟩ = some (.int .i64 gn) ∧ W.cell? ⟨b2, k * 3 + 1, none⟩ = some (.int .i64 gc) ∧ W.cell? ⟨b2, k * 3 + 2, none⟩ = some (.int .i64 gi) := fun W h => by
            obtain ⟨b', hb', c0, c1, c2⟩ := ((H2.out.below HbX.out).below h).cell hlt
            cases hb'
            rw [HGG.out] at c0 c1 c2
            exact ⟨c0, c1, c2⟩
          go_wp2_with fail
          go_region_held3 (fun W : World => Below X.heap.size X W) (first | assumption | exact hb.drew) (fail)
          all_goals
            go_wp2_with fail
            go_roundw
            case rel => exact ⟨k + 1, by omega, by go_num, by assumption⟩
            case measure => simp [intOf]; omega
        · go_wp2_with fail
          go_ret
          exact ⟨rfl, bnext HbX.out hb⟩
  refine key a1 a2 rfl rfl ?_
  by_cases h0 : n = 0
  · exact .inl h0
  · obtain ⟨b1, e1, _⟩ := h1.cell (k := 0) (by omega)
    obtain ⟨b2, e2, _⟩ := h2.cell (k := 0) (by omega)
    exact .inr ⟨b1, b2, e1, e2⟩
end Go.Proofs.Ytmhggpmhekeemaa
