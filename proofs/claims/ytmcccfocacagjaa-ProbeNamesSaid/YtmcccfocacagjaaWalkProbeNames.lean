/- The walk of ProbeNames: true, and nothing that was there has changed. -/
import Derived.Test.YtmcccfocacagjaaPAwake
namespace Go.Proofs.Ytmcccfocacagjaa
open Go.RowKit
set_option maxRecDepth 100000 in
theorem walk_ProbeNames (w : World) : Calls Try.prog 11 #[] w fun e w' => e = .returned (.bool true) ∧ Below w.heap.size w w' := by
  go_enter Try.func11, Try.ntmps11
  go_wp2_with (go_at_call 14; (refine (pawake_true _).mono ?_); rintro e wX ⟨rfl, hX⟩)
  go_ret
  exact ⟨rfl, hX⟩
end Go.Proofs.Ytmcccfocacagjaa
