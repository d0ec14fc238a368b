/-
  No cell of these rows narrows 'for every input' (looked for: loops, veiled, ifaces, maps, wideKeys, modest, calm, conditions, laid).
  DERIVED. THE GIVEN ROWS OF THIS SEAT. 10 by the template 'for every input the law returns true; each argument reads behind the call as it read before'; 0 by the template 'total and deterministic' (their statements: YtammigfckdgljaaTotals.lean).
  GIVEN WITH THE SEED: the statements are not yours to turn. If you find one false, say at which input.
  Laid BY PROGRAM, IN A SANDBOX (cutbox-rows.mjs): the forced cells as the released guide's own fill.sh prints them over the translation 94fe6f2827e41a3d… (all of the seat's roots in one cut). By AI agents, Wed Nov 11 2026. No macro, syntax, notation, axiom, sorry.
-/
import Derived.Test.YtammigfckdgljaaChecked
import GoSem.Claim
import GoSem.ClaimJoined
import GoSem.ClaimMapViews
import Derived.JoinedTies
import Derived.KernelRfl
namespace Go.Proofs.Ytammigfckdgljaa
/- THE CELL 'sum', in the pinned program and in every row, IS THE sha256 OF THE DUMP (.gsa) THAT YtammigfckdgljaaProg.lean LOADS. Nothing in Lean hashes anything: it is a label: what it is worth is what the hold of that sum in a sandbox is worth. -/
noncomputable def Try.pinned : Pinned := { name := "ytammigfckdgljaa", sum := "94fe6f2827e41a3d6a71583d88254ae5961318d8f5e2dcccfe7934b6bd3f44f9", checked := Try.checked }
namespace Rows
def none {H : Type} : Left H := { results := [], args := [] }

/-- 'eddylaw8.StageNames': WHATEVER THE INPUT: true; the input reads as it did. -/
def stageNamesSpec : ChangeSpec := { name := "stageNames", fn := fun _ => fun
  | [] => { results := [.lit (.bool true)], args := [] }
  | _ => none }
def stageNamesRow : OpenClaim := { program := "ytammigfckdgljaa", sum := "94fe6f2827e41a3d6a71583d88254ae5961318d8f5e2dcccfe7934b6bd3f44f9", func := "eddy/eddylaw8.StageNames", spec := "stageNames", apart := false }
def StageNamesSaid : Prop := stageNamesRow.holds Try.pinned (OpenSpec.ofChange stageNamesSpec)

/-- ITS FALSE NEIGHBOUR: 'it returns false'. Refute it at one input. -/
def stageNamesWrong : ChangeSpec := { name := "stageNames", fn := fun _ => fun
  | [] => { results := [.lit (.bool false)], args := [] }
  | _ => none }
def StageNamesWrongFalsely : Prop := stageNamesRow.holds Try.pinned (OpenSpec.ofChange stageNamesWrong)

/-- 'eddylaw9.FlowNames': WHATEVER THE INPUT: true; the input reads as it did. -/
def flowNamesSpec : ChangeSpec := { name := "flowNames", fn := fun _ => fun
  | [] => { results := [.lit (.bool true)], args := [] }
  | _ => none }
def flowNamesRow : OpenClaim := { program := "ytammigfckdgljaa", sum := "94fe6f2827e41a3d6a71583d88254ae5961318d8f5e2dcccfe7934b6bd3f44f9", func := "eddy/eddylaw9.FlowNames", spec := "flowNames", apart := false }
def FlowNamesSaid : Prop := flowNamesRow.holds Try.pinned (OpenSpec.ofChange flowNamesSpec)

/-- ITS FALSE NEIGHBOUR: 'it returns false'. Refute it at one input. -/
def flowNamesWrong : ChangeSpec := { name := "flowNames", fn := fun _ => fun
  | [] => { results := [.lit (.bool false)], args := [] }
  | _ => none }
def FlowNamesWrongFalsely : Prop := flowNamesRow.holds Try.pinned (OpenSpec.ofChange flowNamesWrong)

/-- 'eddylaw16.RunnerNames': WHATEVER THE INPUT: true; the input reads as it did. -/
def runnerNamesSpec : ChangeSpec := { name := "runnerNames", fn := fun _ => fun
  | [] => { results := [.lit (.bool true)], args := [] }
  | _ => none }
def runnerNamesRow : OpenClaim := { program := "ytammigfckdgljaa", sum := "94fe6f2827e41a3d6a71583d88254ae5961318d8f5e2dcccfe7934b6bd3f44f9", func := "eddy/eddylaw16.RunnerNames", spec := "runnerNames", apart := false }
def RunnerNamesSaid : Prop := runnerNamesRow.holds Try.pinned (OpenSpec.ofChange runnerNamesSpec)

/-- ITS FALSE NEIGHBOUR: 'it returns false'. Refute it at one input. -/
def runnerNamesWrong : ChangeSpec := { name := "runnerNames", fn := fun _ => fun
  | [] => { results := [.lit (.bool false)], args := [] }
  | _ => none }
def RunnerNamesWrongFalsely : Prop := runnerNamesRow.holds Try.pinned (OpenSpec.ofChange runnerNamesWrong)

/-- 'eddylaw18.WitnessNames': WHATEVER THE INPUT: true; the input reads as it did. -/
def witnessNamesSpec : ChangeSpec := { name := "witnessNames", fn := fun _ => fun
  | [] => { results := [.lit (.bool true)], args := [] }
  | _ => none }
def witnessNamesRow : OpenClaim := { program := "ytammigfckdgljaa", sum := "94fe6f2827e41a3d6a71583d88254ae5961318d8f5e2dcccfe7934b6bd3f44f9", func := "eddy/eddylaw18.WitnessNames", spec := "witnessNames", apart := false }
def WitnessNamesSaid : Prop := witnessNamesRow.holds Try.pinned (OpenSpec.ofChange witnessNamesSpec)

/-- ITS FALSE NEIGHBOUR: 'it returns false'. Refute it at one input. -/
def witnessNamesWrong : ChangeSpec := { name := "witnessNames", fn := fun _ => fun
  | [] => { results := [.lit (.bool false)], args := [] }
  | _ => none }
def WitnessNamesWrongFalsely : Prop := witnessNamesRow.holds Try.pinned (OpenSpec.ofChange witnessNamesWrong)

/-- 'eddylaw23.FleetNames': WHATEVER THE INPUT: true; the input reads as it did. -/
def fleetNamesSpec : ChangeSpec := { name := "fleetNames", fn := fun _ => fun
  | [] => { results := [.lit (.bool true)], args := [] }
  | _ => none }
def fleetNamesRow : OpenClaim := { program := "ytammigfckdgljaa", sum := "94fe6f2827e41a3d6a71583d88254ae5961318d8f5e2dcccfe7934b6bd3f44f9", func := "eddy/eddylaw23.FleetNames", spec := "fleetNames", apart := false }
def FleetNamesSaid : Prop := fleetNamesRow.holds Try.pinned (OpenSpec.ofChange fleetNamesSpec)

/-- ITS FALSE NEIGHBOUR: 'it returns false'. Refute it at one input. -/
def fleetNamesWrong : ChangeSpec := { name := "fleetNames", fn := fun _ => fun
  | [] => { results := [.lit (.bool false)], args := [] }
  | _ => none }
def FleetNamesWrongFalsely : Prop := fleetNamesRow.holds Try.pinned (OpenSpec.ofChange fleetNamesWrong)

/-- 'eddylaw18.WitnessSplit': WHATEVER THE INPUT: true; the input reads as it did. -/
def witnessSplitSpec : ChangeSpec := { name := "witnessSplit", fn := fun _ => fun
  | [d1, d2, d3] => { results := [.lit (.bool true)], args := [d1, d2, d3] }
  | _ => none }
def witnessSplitRow : OpenClaim := { program := "ytammigfckdgljaa", sum := "94fe6f2827e41a3d6a71583d88254ae5961318d8f5e2dcccfe7934b6bd3f44f9", func := "eddy/eddylaw18.WitnessSplit", spec := "witnessSplit", apart := false }
def WitnessSplitSaid : Prop := witnessSplitRow.holds Try.pinned (OpenSpec.ofChange witnessSplitSpec)

/-- ITS FALSE NEIGHBOUR: 'it returns false'. Refute it at one input. -/
def witnessSplitWrong : ChangeSpec := { name := "witnessSplit", fn := fun _ => fun
  | [d1, d2, d3] => { results := [.lit (.bool false)], args := [d1, d2, d3] }
  | _ => none }
def WitnessSplitWrongFalsely : Prop := witnessSplitRow.holds Try.pinned (OpenSpec.ofChange witnessSplitWrong)

/-- 'eddylaw18.WitnessPath': WHATEVER THE INPUT: true; the input reads as it did. -/
def witnessPathSpec : ChangeSpec := { name := "witnessPath", fn := fun _ => fun
  | [d1, d2, d3] => { results := [.lit (.bool true)], args := [d1, d2, d3] }
  | _ => none }
def witnessPathRow : OpenClaim := { program := "ytammigfckdgljaa", sum := "94fe6f2827e41a3d6a71583d88254ae5961318d8f5e2dcccfe7934b6bd3f44f9", func := "eddy/eddylaw18.WitnessPath", spec := "witnessPath", apart := false }
def WitnessPathSaid : Prop := witnessPathRow.holds Try.pinned (OpenSpec.ofChange witnessPathSpec)

/-- ITS FALSE NEIGHBOUR: 'it returns false'. Refute it at one input. -/
def witnessPathWrong : ChangeSpec := { name := "witnessPath", fn := fun _ => fun
  | [d1, d2, d3] => { results := [.lit (.bool false)], args := [d1, d2, d3] }
  | _ => none }
def WitnessPathWrongFalsely : Prop := witnessPathRow.holds Try.pinned (OpenSpec.ofChange witnessPathWrong)

/-- 'eddylaw18.WitnessLine': WHATEVER THE INPUT: true; the input reads as it did. -/
def witnessLineSpec : ChangeSpec := { name := "witnessLine", fn := fun _ => fun
  | [d1, d2] => { results := [.lit (.bool true)], args := [d1, d2] }
  | _ => none }
def witnessLineRow : OpenClaim := { program := "ytammigfckdgljaa", sum := "94fe6f2827e41a3d6a71583d88254ae5961318d8f5e2dcccfe7934b6bd3f44f9", func := "eddy/eddylaw18.WitnessLine", spec := "witnessLine", apart := false }
def WitnessLineSaid : Prop := witnessLineRow.holds Try.pinned (OpenSpec.ofChange witnessLineSpec)

/-- ITS FALSE NEIGHBOUR: 'it returns false'. Refute it at one input. -/
def witnessLineWrong : ChangeSpec := { name := "witnessLine", fn := fun _ => fun
  | [d1, d2] => { results := [.lit (.bool false)], args := [d1, d2] }
  | _ => none }
def WitnessLineWrongFalsely : Prop := witnessLineRow.holds Try.pinned (OpenSpec.ofChange witnessLineWrong)

/-- 'eddylaw18.WitnessTasks': WHATEVER THE INPUT: true; the input reads as it did. -/
def witnessTasksSpec : ChangeSpec := { name := "witnessTasks", fn := fun _ => fun
  | [d1, d2, d3] => { results := [.lit (.bool true)], args := [d1, d2, d3] }
  | _ => none }
def witnessTasksRow : OpenClaim := { program := "ytammigfckdgljaa", sum := "94fe6f2827e41a3d6a71583d88254ae5961318d8f5e2dcccfe7934b6bd3f44f9", func := "eddy/eddylaw18.WitnessTasks", spec := "witnessTasks", apart := false }
def WitnessTasksSaid : Prop := witnessTasksRow.holds Try.pinned (OpenSpec.ofChange witnessTasksSpec)

/-- ITS FALSE NEIGHBOUR: 'it returns false'. Refute it at one input. -/
def witnessTasksWrong : ChangeSpec := { name := "witnessTasks", fn := fun _ => fun
  | [d1, d2, d3] => { results := [.lit (.bool false)], args := [d1, d2, d3] }
  | _ => none }
def WitnessTasksWrongFalsely : Prop := witnessTasksRow.holds Try.pinned (OpenSpec.ofChange witnessTasksWrong)

/-- 'eddylaw18.WitnessLists': WHATEVER THE INPUT: true; the input reads as it did. -/
def witnessListsSpec : ChangeSpec := { name := "witnessLists", fn := fun _ => fun
  | [d1, d2, d3, d4] => { results := [.lit (.bool true)], args := [d1, d2, d3, d4] }
  | _ => none }
def witnessListsRow : OpenClaim := { program := "ytammigfckdgljaa", sum := "94fe6f2827e41a3d6a71583d88254ae5961318d8f5e2dcccfe7934b6bd3f44f9", func := "eddy/eddylaw18.WitnessLists", spec := "witnessLists", apart := false }
def WitnessListsSaid : Prop := witnessListsRow.holds Try.pinned (OpenSpec.ofChange witnessListsSpec)

/-- ITS FALSE NEIGHBOUR: 'it returns false'. Refute it at one input. -/
def witnessListsWrong : ChangeSpec := { name := "witnessLists", fn := fun _ => fun
  | [d1, d2, d3, d4] => { results := [.lit (.bool false)], args := [d1, d2, d3, d4] }
  | _ => none }
def WitnessListsWrongFalsely : Prop := witnessListsRow.holds Try.pinned (OpenSpec.ofChange witnessListsWrong)

/- THE SECOND FORM. 'bulk': how many values and letters a reading holds, each counted each time it is reached (what is shared counts as often as it is met; a slice's spare places count too). A statement '..UptoSaid' is the law's where the arguments, and the package variables that the reading takes, are together of bulk at most 1048576: NARROWER than '..Said'. Prove '..Said' where nothing that the law and all that it calls make is longer than what came in: it says more and counts as full. Else prove '..UptoSaid'. A law counts once. -/
mutual
def uptoBulk {H : Type} : DataW H → Nat
  | .lit (.string bytes) => bytes.length + 1
  | .lit _ => 1
  | .nil => 1
  | .ptr d => uptoBulk d + 1
  | .slice elems spare => uptoBulkAll elems + uptoBulkAll spare + 1
  | .agg parts => uptoBulkAll parts + 1
  | .iface _ d => uptoBulk d + 1
  | .map entries => uptoBulkEntries entries + 1
  | .held _ => 1
def uptoBulkAll {H : Type} : List (DataW H) → Nat
  | [] => 0
  | d :: r => uptoBulk d + uptoBulkAll r
def uptoBulkEntries {H : Type} : List (Lit × DataW H) → Nat
  | [] => 0
  | x :: r => uptoBulkEntry x + uptoBulkEntries r
def uptoBulkEntry {H : Type} : Lit × DataW H → Nat
  | (.string bytes, d) => bytes.length + uptoBulk d + 1
  | (_, d) => uptoBulk d + 1
 end
def uptoSmall : (H : Type) → List (DataW H) → Bool := fun _ ds => decide (uptoBulkAll ds ≤ 1048576)
def OpenSpec.upto (s : _root_.Go.ChangeSpec) : _root_.Go.OpenSpec := { _root_.Go.OpenSpec.ofChange s with cond := some uptoSmall }

/-- 'eddylaw8.StageNames', WHERE WHAT IT READS IS OF BULK AT MOST 1048576: true; the input reads as it did. -/
def stageNamesUptoRow : OpenClaim := { program := "ytammigfckdgljaa", sum := "94fe6f2827e41a3d6a71583d88254ae5961318d8f5e2dcccfe7934b6bd3f44f9", func := "eddy/eddylaw8.StageNames", spec := "stageNames", apart := false, narrowed := true }
def StageNamesUptoSaid : Prop := stageNamesUptoRow.holds Try.pinned (OpenSpec.upto stageNamesSpec)

/-- 'eddylaw9.FlowNames', WHERE WHAT IT READS IS OF BULK AT MOST 1048576: true; the input reads as it did. -/
def flowNamesUptoRow : OpenClaim := { program := "ytammigfckdgljaa", sum := "94fe6f2827e41a3d6a71583d88254ae5961318d8f5e2dcccfe7934b6bd3f44f9", func := "eddy/eddylaw9.FlowNames", spec := "flowNames", apart := false, narrowed := true }
def FlowNamesUptoSaid : Prop := flowNamesUptoRow.holds Try.pinned (OpenSpec.upto flowNamesSpec)

/-- 'eddylaw16.RunnerNames', WHERE WHAT IT READS IS OF BULK AT MOST 1048576: true; the input reads as it did. -/
def runnerNamesUptoRow : OpenClaim := { program := "ytammigfckdgljaa", sum := "94fe6f2827e41a3d6a71583d88254ae5961318d8f5e2dcccfe7934b6bd3f44f9", func := "eddy/eddylaw16.RunnerNames", spec := "runnerNames", apart := false, narrowed := true }
def RunnerNamesUptoSaid : Prop := runnerNamesUptoRow.holds Try.pinned (OpenSpec.upto runnerNamesSpec)

/-- 'eddylaw18.WitnessNames', WHERE WHAT IT READS IS OF BULK AT MOST 1048576: true; the input reads as it did. -/
def witnessNamesUptoRow : OpenClaim := { program := "ytammigfckdgljaa", sum := "94fe6f2827e41a3d6a71583d88254ae5961318d8f5e2dcccfe7934b6bd3f44f9", func := "eddy/eddylaw18.WitnessNames", spec := "witnessNames", apart := false, narrowed := true }
def WitnessNamesUptoSaid : Prop := witnessNamesUptoRow.holds Try.pinned (OpenSpec.upto witnessNamesSpec)

/-- 'eddylaw23.FleetNames', WHERE WHAT IT READS IS OF BULK AT MOST 1048576: true; the input reads as it did. -/
def fleetNamesUptoRow : OpenClaim := { program := "ytammigfckdgljaa", sum := "94fe6f2827e41a3d6a71583d88254ae5961318d8f5e2dcccfe7934b6bd3f44f9", func := "eddy/eddylaw23.FleetNames", spec := "fleetNames", apart := false, narrowed := true }
def FleetNamesUptoSaid : Prop := fleetNamesUptoRow.holds Try.pinned (OpenSpec.upto fleetNamesSpec)

/-- 'eddylaw18.WitnessSplit', WHERE WHAT IT READS IS OF BULK AT MOST 1048576: true; the input reads as it did. -/
def witnessSplitUptoRow : OpenClaim := { program := "ytammigfckdgljaa", sum := "94fe6f2827e41a3d6a71583d88254ae5961318d8f5e2dcccfe7934b6bd3f44f9", func := "eddy/eddylaw18.WitnessSplit", spec := "witnessSplit", apart := false, narrowed := true }
def WitnessSplitUptoSaid : Prop := witnessSplitUptoRow.holds Try.pinned (OpenSpec.upto witnessSplitSpec)

/-- 'eddylaw18.WitnessPath', WHERE WHAT IT READS IS OF BULK AT MOST 1048576: true; the input reads as it did. -/
def witnessPathUptoRow : OpenClaim := { program := "ytammigfckdgljaa", sum := "94fe6f2827e41a3d6a71583d88254ae5961318d8f5e2dcccfe7934b6bd3f44f9", func := "eddy/eddylaw18.WitnessPath", spec := "witnessPath", apart := false, narrowed := true }
def WitnessPathUptoSaid : Prop := witnessPathUptoRow.holds Try.pinned (OpenSpec.upto witnessPathSpec)

/-- 'eddylaw18.WitnessLine', WHERE WHAT IT READS IS OF BULK AT MOST 1048576: true; the input reads as it did. -/
def witnessLineUptoRow : OpenClaim := { program := "ytammigfckdgljaa", sum := "94fe6f2827e41a3d6a71583d88254ae5961318d8f5e2dcccfe7934b6bd3f44f9", func := "eddy/eddylaw18.WitnessLine", spec := "witnessLine", apart := false, narrowed := true }
def WitnessLineUptoSaid : Prop := witnessLineUptoRow.holds Try.pinned (OpenSpec.upto witnessLineSpec)

/-- 'eddylaw18.WitnessTasks', WHERE WHAT IT READS IS OF BULK AT MOST 1048576: true; the input reads as it did. -/
def witnessTasksUptoRow : OpenClaim := { program := "ytammigfckdgljaa", sum := "94fe6f2827e41a3d6a71583d88254ae5961318d8f5e2dcccfe7934b6bd3f44f9", func := "eddy/eddylaw18.WitnessTasks", spec := "witnessTasks", apart := false, narrowed := true }
def WitnessTasksUptoSaid : Prop := witnessTasksUptoRow.holds Try.pinned (OpenSpec.upto witnessTasksSpec)

/-- 'eddylaw18.WitnessLists', WHERE WHAT IT READS IS OF BULK AT MOST 1048576: true; the input reads as it did. -/
def witnessListsUptoRow : OpenClaim := { program := "ytammigfckdgljaa", sum := "94fe6f2827e41a3d6a71583d88254ae5961318d8f5e2dcccfe7934b6bd3f44f9", func := "eddy/eddylaw18.WitnessLists", spec := "witnessLists", apart := false, narrowed := true }
def WitnessListsUptoSaid : Prop := witnessListsUptoRow.holds Try.pinned (OpenSpec.upto witnessListsSpec)

end Rows
end Go.Proofs.Ytammigfckdgljaa
