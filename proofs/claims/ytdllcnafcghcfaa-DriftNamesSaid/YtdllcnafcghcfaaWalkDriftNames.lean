/- The walk of DriftNames: true, and nothing that was there has changed. -/
import Derived.Test.YtdllcnafcghcfaaAwake
namespace Go.Proofs.Ytdllcnafcghcfaa
open Go.RowKit
theorem cfg_cells {w : World} {b : Nat} {C : Cv} (hb : w.heap[b]? = some (.cells C.cells 25 (0, 0))) : w.cell? ⟨b, 0, none⟩ = some (.int .i64 C.nodes) ∧ w.cell? ⟨b, 1, none⟩ = some (.int .i64 C.slots) ∧ w.cell? ⟨b, 2, none⟩ = some (.int .i64 C.rho) ∧ w.cell? ⟨b, 3, none⟩ = some (.int .i64 C.hold) ∧ w.cell? ⟨b, 4, none⟩ = some (.int .i64 C.grant) ∧ w.cell? ⟨b, 5, none⟩ = some (.int .i64 C.guard) ∧ w.cell? ⟨b, 6, none⟩ = some (.int .i64 C.work) ∧ w.cell? ⟨b, 7, none⟩ = some (.slice C.sa C.sn C.sc) ∧ w.cell? ⟨b, 8, none⟩ = some (.slice C.na C.nn C.nc) ∧ w.cell? ⟨b, 9, none⟩ = some (.int .i64 C.soak) ∧ w.cell? ⟨b, 10, none⟩ = some (.int .i64 C.pass) := by
  refine ⟨?_, ?_, ?_, ?_, ?_, ?_, ?_, ?_, ?_, ?_, ?_⟩ <;> (rw [cell_of_row _ _ _ _ _ _ hb]; rfl)

set_option maxRecDepth 100000 in
theorem walk_DriftNames (w : World) : Calls Try.prog 3 #[] w fun e w' => e = .returned (.bool true) ∧ Below w.heap.size w w' := by
  go_enter Try.func3, Try.ntmps3
  go_wp2_with (go_at_call 10; refine (awake_true _).mono ?_; rintro e wA ⟨rfl, hA⟩)
  go_ret
  exact ⟨rfl, hA⟩
end Go.Proofs.Ytdllcnafcghcfaa
