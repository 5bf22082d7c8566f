/-
  No cell of these rows narrows 'for every input' (looked for: loops, veiled, ifaces, maps, wideKeys, modest, calm, conditions, laid).
  DERIVED. THE GIVEN ROWS OF THIS SEAT. 11 by the template 'for every input the law returns true; each argument reads behind the call as it read before'; 0 by the template 'total and deterministic' (their statements: YtmcccfocacagjaaTotals.lean).
  GIVEN WITH THE SEED: the statements are not yours to turn. If you find one false, say at which input.
  Laid BY PROGRAM, IN A SANDBOX (cutbox-rows.mjs): the forced cells as the released guide's own fill.sh prints them over the translation 219e3f053545f14d… (all of the seat's roots in one cut). By AI agents, Wed Nov 11 2026. No macro, syntax, notation, axiom, sorry.
-/
import Derived.Test.YtmcccfocacagjaaChecked
import GoSem.Claim
import GoSem.ClaimJoined
import GoSem.ClaimMapViews
import Derived.JoinedTies
import Derived.KernelRfl
namespace Go.Proofs.Ytmcccfocacagjaa
/- THE CELL 'sum', in the pinned program and in every row, IS THE sha256 OF THE DUMP (.gsa) THAT YtmcccfocacagjaaProg.lean LOADS. Nothing in Lean hashes anything: it is a label: what it is worth is what the hold of that sum in a sandbox is worth. -/
noncomputable def Try.pinned : Pinned := { name := "ytmcccfocacagjaa", sum := "219e3f053545f14d53b0d389c086810ad78d5f7810a8a3f5830e54d242072769", checked := Try.checked }
namespace Rows
def none {H : Type} : Left H := { results := [], args := [] }

/-- 'shipwrightlaw18.ProbeOnePasses': WHATEVER THE INPUT: true; the input reads as it did. -/
def probeOnePassesSpec : ChangeSpec := { name := "probeOnePasses", fn := fun _ => fun
  | [d1, d2] => { results := [.lit (.bool true)], args := [d1, d2] }
  | _ => none }
def probeOnePassesRow : OpenClaim := { program := "ytmcccfocacagjaa", sum := "219e3f053545f14d53b0d389c086810ad78d5f7810a8a3f5830e54d242072769", func := "shipwright/shipwrightlaw18.ProbeOnePasses", spec := "probeOnePasses", inPlace := ["math.Float64bits", "math.Float64frombits", "math.archFloor", "math.archTrunc"], unfollowed := true, recurses := true, apart := false }
def ProbeOnePassesSaid : Prop := probeOnePassesRow.holds Try.pinned (OpenSpec.ofChange probeOnePassesSpec)

/-- ITS FALSE NEIGHBOUR: 'it returns false'. Refute it at one input. -/
def probeOnePassesWrong : ChangeSpec := { name := "probeOnePasses", fn := fun _ => fun
  | [d1, d2] => { results := [.lit (.bool false)], args := [d1, d2] }
  | _ => none }
def ProbeOnePassesWrongFalsely : Prop := probeOnePassesRow.holds Try.pinned (OpenSpec.ofChange probeOnePassesWrong)

/-- 'shipwrightlaw18.ProbeStays': WHATEVER THE INPUT: true; the input reads as it did. -/
def probeStaysSpec : ChangeSpec := { name := "probeStays", fn := fun _ => fun
  | [d1, d2, d3] => { results := [.lit (.bool true)], args := [d1, d2, d3] }
  | _ => none }
def probeStaysRow : OpenClaim := { program := "ytmcccfocacagjaa", sum := "219e3f053545f14d53b0d389c086810ad78d5f7810a8a3f5830e54d242072769", func := "shipwright/shipwrightlaw18.ProbeStays", spec := "probeStays", inPlace := ["math.Float64bits", "math.Float64frombits", "math.archFloor", "math.archTrunc"], unfollowed := true, recurses := true, apart := false }
def ProbeStaysSaid : Prop := probeStaysRow.holds Try.pinned (OpenSpec.ofChange probeStaysSpec)

/-- ITS FALSE NEIGHBOUR: 'it returns false'. Refute it at one input. -/
def probeStaysWrong : ChangeSpec := { name := "probeStays", fn := fun _ => fun
  | [d1, d2, d3] => { results := [.lit (.bool false)], args := [d1, d2, d3] }
  | _ => none }
def ProbeStaysWrongFalsely : Prop := probeStaysRow.holds Try.pinned (OpenSpec.ofChange probeStaysWrong)

/-- 'shipwrightlaw01.ScoreNames': WHATEVER THE INPUT: true; the input reads as it did. -/
def scoreNamesSpec : ChangeSpec := { name := "scoreNames", fn := fun _ => fun
  | [] => { results := [.lit (.bool true)], args := [] }
  | _ => none }
def scoreNamesRow : OpenClaim := { program := "ytmcccfocacagjaa", sum := "219e3f053545f14d53b0d389c086810ad78d5f7810a8a3f5830e54d242072769", func := "shipwright/shipwrightlaw01.ScoreNames", spec := "scoreNames", inPlace := ["math.Float64frombits", "math.Float64bits", "math.archFloor", "math.archTrunc"], apart := false }
def ScoreNamesSaid : Prop := scoreNamesRow.holds Try.pinned (OpenSpec.ofChange scoreNamesSpec)

/-- ITS FALSE NEIGHBOUR: 'it returns false'. Refute it at one input. -/
def scoreNamesWrong : ChangeSpec := { name := "scoreNames", fn := fun _ => fun
  | [] => { results := [.lit (.bool false)], args := [] }
  | _ => none }
def ScoreNamesWrongFalsely : Prop := scoreNamesRow.holds Try.pinned (OpenSpec.ofChange scoreNamesWrong)

/-- 'shipwrightlaw01.ScoreTells': WHATEVER THE INPUT: true; the input reads as it did. -/
def scoreTellsSpec : ChangeSpec := { name := "scoreTells", fn := fun _ => fun
  | [d1, d2] => { results := [.lit (.bool true)], args := [d1, d2] }
  | _ => none }
def scoreTellsRow : OpenClaim := { program := "ytmcccfocacagjaa", sum := "219e3f053545f14d53b0d389c086810ad78d5f7810a8a3f5830e54d242072769", func := "shipwright/shipwrightlaw01.ScoreTells", spec := "scoreTells", inPlace := ["math.Float64frombits", "math.Float64bits", "math.archFloor", "math.archTrunc"], apart := false }
def ScoreTellsSaid : Prop := scoreTellsRow.holds Try.pinned (OpenSpec.ofChange scoreTellsSpec)

/-- ITS FALSE NEIGHBOUR: 'it returns false'. Refute it at one input. -/
def scoreTellsWrong : ChangeSpec := { name := "scoreTells", fn := fun _ => fun
  | [d1, d2] => { results := [.lit (.bool false)], args := [d1, d2] }
  | _ => none }
def ScoreTellsWrongFalsely : Prop := scoreTellsRow.holds Try.pinned (OpenSpec.ofChange scoreTellsWrong)

/-- 'shipwrightlaw01.ScoreMeans': WHATEVER THE INPUT: true; the input reads as it did. -/
def scoreMeansSpec : ChangeSpec := { name := "scoreMeans", fn := fun _ => fun
  | [d] => { results := [.lit (.bool true)], args := [d] }
  | _ => none }
def scoreMeansRow : OpenClaim := { program := "ytmcccfocacagjaa", sum := "219e3f053545f14d53b0d389c086810ad78d5f7810a8a3f5830e54d242072769", func := "shipwright/shipwrightlaw01.ScoreMeans", spec := "scoreMeans", inPlace := ["math.Float64frombits", "math.Float64bits", "math.archFloor", "math.archTrunc"], apart := false }
def ScoreMeansSaid : Prop := scoreMeansRow.holds Try.pinned (OpenSpec.ofChange scoreMeansSpec)

/-- ITS FALSE NEIGHBOUR: 'it returns false'. Refute it at one input. -/
def scoreMeansWrong : ChangeSpec := { name := "scoreMeans", fn := fun _ => fun
  | [d] => { results := [.lit (.bool false)], args := [d] }
  | _ => none }
def ScoreMeansWrongFalsely : Prop := scoreMeansRow.holds Try.pinned (OpenSpec.ofChange scoreMeansWrong)

/-- 'shipwrightlaw01.ScoreOrders': WHATEVER THE INPUT: true; the input reads as it did. -/
def scoreOrdersSpec : ChangeSpec := { name := "scoreOrders", fn := fun _ => fun
  | [d1, d2, d3] => { results := [.lit (.bool true)], args := [d1, d2, d3] }
  | _ => none }
def scoreOrdersRow : OpenClaim := { program := "ytmcccfocacagjaa", sum := "219e3f053545f14d53b0d389c086810ad78d5f7810a8a3f5830e54d242072769", func := "shipwright/shipwrightlaw01.ScoreOrders", spec := "scoreOrders", inPlace := ["math.Float64frombits", "math.Float64bits", "math.archFloor", "math.archTrunc"], apart := false }
def ScoreOrdersSaid : Prop := scoreOrdersRow.holds Try.pinned (OpenSpec.ofChange scoreOrdersSpec)

/-- ITS FALSE NEIGHBOUR: 'it returns false'. Refute it at one input. -/
def scoreOrdersWrong : ChangeSpec := { name := "scoreOrders", fn := fun _ => fun
  | [d1, d2, d3] => { results := [.lit (.bool false)], args := [d1, d2, d3] }
  | _ => none }
def ScoreOrdersWrongFalsely : Prop := scoreOrdersRow.holds Try.pinned (OpenSpec.ofChange scoreOrdersWrong)

/-- 'shipwrightlaw01.ScoreCleans': WHATEVER THE INPUT: true; the input reads as it did. -/
def scoreCleansSpec : ChangeSpec := { name := "scoreCleans", fn := fun _ => fun
  | [d1, d2] => { results := [.lit (.bool true)], args := [d1, d2] }
  | _ => none }
def scoreCleansRow : OpenClaim := { program := "ytmcccfocacagjaa", sum := "219e3f053545f14d53b0d389c086810ad78d5f7810a8a3f5830e54d242072769", func := "shipwright/shipwrightlaw01.ScoreCleans", spec := "scoreCleans", inPlace := ["math.Float64frombits", "math.Float64bits", "math.archFloor", "math.archTrunc"], apart := false }
def ScoreCleansSaid : Prop := scoreCleansRow.holds Try.pinned (OpenSpec.ofChange scoreCleansSpec)

/-- ITS FALSE NEIGHBOUR: 'it returns false'. Refute it at one input. -/
def scoreCleansWrong : ChangeSpec := { name := "scoreCleans", fn := fun _ => fun
  | [d1, d2] => { results := [.lit (.bool false)], args := [d1, d2] }
  | _ => none }
def ScoreCleansWrongFalsely : Prop := scoreCleansRow.holds Try.pinned (OpenSpec.ofChange scoreCleansWrong)

/-- 'shipwrightlaw01.ScoreOne': WHATEVER THE INPUT: true; the input reads as it did. -/
def scoreOneSpec : ChangeSpec := { name := "scoreOne", fn := fun _ => fun
  | [d1, d2] => { results := [.lit (.bool true)], args := [d1, d2] }
  | _ => none }
def scoreOneRow : OpenClaim := { program := "ytmcccfocacagjaa", sum := "219e3f053545f14d53b0d389c086810ad78d5f7810a8a3f5830e54d242072769", func := "shipwright/shipwrightlaw01.ScoreOne", spec := "scoreOne", inPlace := ["math.Float64frombits", "math.Float64bits", "math.archFloor", "math.archTrunc"], apart := false }
def ScoreOneSaid : Prop := scoreOneRow.holds Try.pinned (OpenSpec.ofChange scoreOneSpec)

/-- ITS FALSE NEIGHBOUR: 'it returns false'. Refute it at one input. -/
def scoreOneWrong : ChangeSpec := { name := "scoreOne", fn := fun _ => fun
  | [d1, d2] => { results := [.lit (.bool false)], args := [d1, d2] }
  | _ => none }
def ScoreOneWrongFalsely : Prop := scoreOneRow.holds Try.pinned (OpenSpec.ofChange scoreOneWrong)

/-- 'shipwrightlaw18.ProbeNames': WHATEVER THE INPUT: true; the input reads as it did. -/
def probeNamesSpec : ChangeSpec := { name := "probeNames", fn := fun _ => fun
  | [] => { results := [.lit (.bool true)], args := [] }
  | _ => none }
def probeNamesRow : OpenClaim := { program := "ytmcccfocacagjaa", sum := "219e3f053545f14d53b0d389c086810ad78d5f7810a8a3f5830e54d242072769", func := "shipwright/shipwrightlaw18.ProbeNames", spec := "probeNames", inPlace := ["math.Float64bits", "math.Float64frombits", "math.archFloor", "math.archTrunc"], unfollowed := true, recurses := true, apart := false }
def ProbeNamesSaid : Prop := probeNamesRow.holds Try.pinned (OpenSpec.ofChange probeNamesSpec)

/-- ITS FALSE NEIGHBOUR: 'it returns false'. Refute it at one input. -/
def probeNamesWrong : ChangeSpec := { name := "probeNames", fn := fun _ => fun
  | [] => { results := [.lit (.bool false)], args := [] }
  | _ => none }
def ProbeNamesWrongFalsely : Prop := probeNamesRow.holds Try.pinned (OpenSpec.ofChange probeNamesWrong)

/-- 'shipwrightlaw18.ProbeTells': WHATEVER THE INPUT: true; the input reads as it did. -/
def probeTellsSpec : ChangeSpec := { name := "probeTells", fn := fun _ => fun
  | [d1, d2, d3] => { results := [.lit (.bool true)], args := [d1, d2, d3] }
  | _ => none }
def probeTellsRow : OpenClaim := { program := "ytmcccfocacagjaa", sum := "219e3f053545f14d53b0d389c086810ad78d5f7810a8a3f5830e54d242072769", func := "shipwright/shipwrightlaw18.ProbeTells", spec := "probeTells", inPlace := ["math.Float64bits", "math.Float64frombits", "math.archFloor", "math.archTrunc"], unfollowed := true, recurses := true, apart := false }
def ProbeTellsSaid : Prop := probeTellsRow.holds Try.pinned (OpenSpec.ofChange probeTellsSpec)

/-- ITS FALSE NEIGHBOUR: 'it returns false'. Refute it at one input. -/
def probeTellsWrong : ChangeSpec := { name := "probeTells", fn := fun _ => fun
  | [d1, d2, d3] => { results := [.lit (.bool false)], args := [d1, d2, d3] }
  | _ => none }
def ProbeTellsWrongFalsely : Prop := probeTellsRow.holds Try.pinned (OpenSpec.ofChange probeTellsWrong)

/-- 'shipwrightlaw18.ProbeOnce': WHATEVER THE INPUT: true; the input reads as it did. -/
def probeOnceSpec : ChangeSpec := { name := "probeOnce", fn := fun _ => fun
  | [d1, d2] => { results := [.lit (.bool true)], args := [d1, d2] }
  | _ => none }
def probeOnceRow : OpenClaim := { program := "ytmcccfocacagjaa", sum := "219e3f053545f14d53b0d389c086810ad78d5f7810a8a3f5830e54d242072769", func := "shipwright/shipwrightlaw18.ProbeOnce", spec := "probeOnce", inPlace := ["math.Float64bits", "math.Float64frombits", "math.archFloor", "math.archTrunc"], unfollowed := true, recurses := true, apart := false }
def ProbeOnceSaid : Prop := probeOnceRow.holds Try.pinned (OpenSpec.ofChange probeOnceSpec)

/-- ITS FALSE NEIGHBOUR: 'it returns false'. Refute it at one input. -/
def probeOnceWrong : ChangeSpec := { name := "probeOnce", fn := fun _ => fun
  | [d1, d2] => { results := [.lit (.bool false)], args := [d1, d2] }
  | _ => none }
def ProbeOnceWrongFalsely : Prop := probeOnceRow.holds Try.pinned (OpenSpec.ofChange probeOnceWrong)

/- THE SECOND FORM. 'bulk': how many values and letters a reading holds, each counted each time it is reached (what is shared counts as often as it is met; a slice's spare places count too). A statement '..UptoSaid' is the law's where the arguments, and the package variables that the reading takes, are together of bulk at most 1048576: NARROWER than '..Said'. Prove '..Said' where nothing that the law and all that it calls make is longer than what came in: it says more and counts as full. Else prove '..UptoSaid'. A law counts once. -/
mutual
def uptoBulk {H : Type} : DataW H → Nat
  | .lit (.string bytes) => bytes.length + 1
  | .lit _ => 1
  | .nil => 1
  | .ptr d => uptoBulk d + 1
  | .slice elems spare => uptoBulkAll elems + uptoBulkAll spare + 1
  | .agg parts => uptoBulkAll parts + 1
  | .iface _ d => uptoBulk d + 1
  | .map entries => uptoBulkEntries entries + 1
  | .held _ => 1
def uptoBulkAll {H : Type} : List (DataW H) → Nat
  | [] => 0
  | d :: r => uptoBulk d + uptoBulkAll r
def uptoBulkEntries {H : Type} : List (Lit × DataW H) → Nat
  | [] => 0
  | x :: r => uptoBulkEntry x + uptoBulkEntries r
def uptoBulkEntry {H : Type} : Lit × DataW H → Nat
  | (.string bytes, d) => bytes.length + uptoBulk d + 1
  | (_, d) => uptoBulk d + 1
 end
def uptoSmall : (H : Type) → List (DataW H) → Bool := fun _ ds => decide (uptoBulkAll ds ≤ 1048576)
def OpenSpec.upto (s : _root_.Go.ChangeSpec) : _root_.Go.OpenSpec := { _root_.Go.OpenSpec.ofChange s with cond := some uptoSmall }

/-- 'shipwrightlaw18.ProbeOnePasses', WHERE WHAT IT READS IS OF BULK AT MOST 1048576: true; the input reads as it did. -/
def probeOnePassesUptoRow : OpenClaim := { program := "ytmcccfocacagjaa", sum := "219e3f053545f14d53b0d389c086810ad78d5f7810a8a3f5830e54d242072769", func := "shipwright/shipwrightlaw18.ProbeOnePasses", spec := "probeOnePasses", inPlace := ["math.Float64bits", "math.Float64frombits", "math.archFloor", "math.archTrunc"], unfollowed := true, recurses := true, apart := false, narrowed := true }
def ProbeOnePassesUptoSaid : Prop := probeOnePassesUptoRow.holds Try.pinned (OpenSpec.upto probeOnePassesSpec)

/-- 'shipwrightlaw18.ProbeStays', WHERE WHAT IT READS IS OF BULK AT MOST 1048576: true; the input reads as it did. -/
def probeStaysUptoRow : OpenClaim := { program := "ytmcccfocacagjaa", sum := "219e3f053545f14d53b0d389c086810ad78d5f7810a8a3f5830e54d242072769", func := "shipwright/shipwrightlaw18.ProbeStays", spec := "probeStays", inPlace := ["math.Float64bits", "math.Float64frombits", "math.archFloor", "math.archTrunc"], unfollowed := true, recurses := true, apart := false, narrowed := true }
def ProbeStaysUptoSaid : Prop := probeStaysUptoRow.holds Try.pinned (OpenSpec.upto probeStaysSpec)

/-- 'shipwrightlaw01.ScoreNames', WHERE WHAT IT READS IS OF BULK AT MOST 1048576: true; the input reads as it did. -/
def scoreNamesUptoRow : OpenClaim := { program := "ytmcccfocacagjaa", sum := "219e3f053545f14d53b0d389c086810ad78d5f7810a8a3f5830e54d242072769", func := "shipwright/shipwrightlaw01.ScoreNames", spec := "scoreNames", inPlace := ["math.Float64frombits", "math.Float64bits", "math.archFloor", "math.archTrunc"], apart := false, narrowed := true }
def ScoreNamesUptoSaid : Prop := scoreNamesUptoRow.holds Try.pinned (OpenSpec.upto scoreNamesSpec)

/-- 'shipwrightlaw01.ScoreTells', WHERE WHAT IT READS IS OF BULK AT MOST 1048576: true; the input reads as it did. -/
def scoreTellsUptoRow : OpenClaim := { program := "ytmcccfocacagjaa", sum := "219e3f053545f14d53b0d389c086810ad78d5f7810a8a3f5830e54d242072769", func := "shipwright/shipwrightlaw01.ScoreTells", spec := "scoreTells", inPlace := ["math.Float64frombits", "math.Float64bits", "math.archFloor", "math.archTrunc"], apart := false, narrowed := true }
def ScoreTellsUptoSaid : Prop := scoreTellsUptoRow.holds Try.pinned (OpenSpec.upto scoreTellsSpec)

/-- 'shipwrightlaw01.ScoreMeans', WHERE WHAT IT READS IS OF BULK AT MOST 1048576: true; the input reads as it did. -/
def scoreMeansUptoRow : OpenClaim := { program := "ytmcccfocacagjaa", sum := "219e3f053545f14d53b0d389c086810ad78d5f7810a8a3f5830e54d242072769", func := "shipwright/shipwrightlaw01.ScoreMeans", spec := "scoreMeans", inPlace := ["math.Float64frombits", "math.Float64bits", "math.archFloor", "math.archTrunc"], apart := false, narrowed := true }
def ScoreMeansUptoSaid : Prop := scoreMeansUptoRow.holds Try.pinned (OpenSpec.upto scoreMeansSpec)

/-- 'shipwrightlaw01.ScoreOrders', WHERE WHAT IT READS IS OF BULK AT MOST 1048576: true; the input reads as it did. -/
def scoreOrdersUptoRow : OpenClaim := { program := "ytmcccfocacagjaa", sum := "219e3f053545f14d53b0d389c086810ad78d5f7810a8a3f5830e54d242072769", func := "shipwright/shipwrightlaw01.ScoreOrders", spec := "scoreOrders", inPlace := ["math.Float64frombits", "math.Float64bits", "math.archFloor", "math.archTrunc"], apart := false, narrowed := true }
def ScoreOrdersUptoSaid : Prop := scoreOrdersUptoRow.holds Try.pinned (OpenSpec.upto scoreOrdersSpec)

/-- 'shipwrightlaw01.ScoreCleans', WHERE WHAT IT READS IS OF BULK AT MOST 1048576: true; the input reads as it did. -/
def scoreCleansUptoRow : OpenClaim := { program := "ytmcccfocacagjaa", sum := "219e3f053545f14d53b0d389c086810ad78d5f7810a8a3f5830e54d242072769", func := "shipwright/shipwrightlaw01.ScoreCleans", spec := "scoreCleans", inPlace := ["math.Float64frombits", "math.Float64bits", "math.archFloor", "math.archTrunc"], apart := false, narrowed := true }
def ScoreCleansUptoSaid : Prop := scoreCleansUptoRow.holds Try.pinned (OpenSpec.upto scoreCleansSpec)

/-- 'shipwrightlaw01.ScoreOne', WHERE WHAT IT READS IS OF BULK AT MOST 1048576: true; the input reads as it did. -/
def scoreOneUptoRow : OpenClaim := { program := "ytmcccfocacagjaa", sum := "219e3f053545f14d53b0d389c086810ad78d5f7810a8a3f5830e54d242072769", func := "shipwright/shipwrightlaw01.ScoreOne", spec := "scoreOne", inPlace := ["math.Float64frombits", "math.Float64bits", "math.archFloor", "math.archTrunc"], apart := false, narrowed := true }
def ScoreOneUptoSaid : Prop := scoreOneUptoRow.holds Try.pinned (OpenSpec.upto scoreOneSpec)

/-- 'shipwrightlaw18.ProbeNames', WHERE WHAT IT READS IS OF BULK AT MOST 1048576: true; the input reads as it did. -/
def probeNamesUptoRow : OpenClaim := { program := "ytmcccfocacagjaa", sum := "219e3f053545f14d53b0d389c086810ad78d5f7810a8a3f5830e54d242072769", func := "shipwright/shipwrightlaw18.ProbeNames", spec := "probeNames", inPlace := ["math.Float64bits", "math.Float64frombits", "math.archFloor", "math.archTrunc"], unfollowed := true, recurses := true, apart := false, narrowed := true }
def ProbeNamesUptoSaid : Prop := probeNamesUptoRow.holds Try.pinned (OpenSpec.upto probeNamesSpec)

/-- 'shipwrightlaw18.ProbeTells', WHERE WHAT IT READS IS OF BULK AT MOST 1048576: true; the input reads as it did. -/
def probeTellsUptoRow : OpenClaim := { program := "ytmcccfocacagjaa", sum := "219e3f053545f14d53b0d389c086810ad78d5f7810a8a3f5830e54d242072769", func := "shipwright/shipwrightlaw18.ProbeTells", spec := "probeTells", inPlace := ["math.Float64bits", "math.Float64frombits", "math.archFloor", "math.archTrunc"], unfollowed := true, recurses := true, apart := false, narrowed := true }
def ProbeTellsUptoSaid : Prop := probeTellsUptoRow.holds Try.pinned (OpenSpec.upto probeTellsSpec)

/-- 'shipwrightlaw18.ProbeOnce', WHERE WHAT IT READS IS OF BULK AT MOST 1048576: true; the input reads as it did. -/
def probeOnceUptoRow : OpenClaim := { program := "ytmcccfocacagjaa", sum := "219e3f053545f14d53b0d389c086810ad78d5f7810a8a3f5830e54d242072769", func := "shipwright/shipwrightlaw18.ProbeOnce", spec := "probeOnce", inPlace := ["math.Float64bits", "math.Float64frombits", "math.archFloor", "math.archTrunc"], unfollowed := true, recurses := true, apart := false, narrowed := true }
def ProbeOnceUptoSaid : Prop := probeOnceUptoRow.holds Try.pinned (OpenSpec.upto probeOnceSpec)

end Rows
end Go.Proofs.Ytmcccfocacagjaa
