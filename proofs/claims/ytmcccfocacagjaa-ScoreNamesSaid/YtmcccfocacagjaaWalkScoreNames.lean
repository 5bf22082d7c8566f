/- The walk of ScoreNames: true, and nothing that was there has changed. -/
import Derived.Test.YtmcccfocacagjaaSAwake
namespace Go.Proofs.Ytmcccfocacagjaa
open Go.RowKit
set_option maxRecDepth 100000 in
theorem walk_ScoreNames (w : World) : Calls Try.prog 5 #[] w fun e w' => e = .returned (.bool true) ∧ Below w.heap.size w w' := by
  go_enter Try.func5, Try.ntmps5
  go_wp2_with (go_at_call 22; (refine (awake_true _).mono ?_); rintro e wX ⟨rfl, hX⟩)
  go_ret
  exact ⟨rfl, hX⟩
end Go.Proofs.Ytmcccfocacagjaa
