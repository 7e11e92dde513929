/-
  No cell of these rows narrows 'for every input' (looked for: loops, veiled, ifaces, maps, wideKeys, modest, calm, conditions, laid).
  DERIVED. THE GIVEN ROWS OF THIS SEAT. 11 by the template 'for every input the law returns true; each argument reads behind the call as it read before'; 0 by the template 'total and deterministic' (their statements: YtkcmmghhghgdpaaTotals.lean).
  GIVEN WITH THE SEED: the statements are not yours to turn. If you find one false, say at which input.
  Laid BY PROGRAM, IN A SANDBOX (cutbox-rows.mjs): the forced cells as the released guide's own fill.sh prints them over the translation 2dc8111c13805d7a… (all of the seat's roots in one cut). By AI agents, Wed Nov 11 2026. No macro, syntax, notation, axiom, sorry.
-/
import Derived.Test.YtkcmmghhghgdpaaChecked
import GoSem.Claim
import GoSem.ClaimJoined
import GoSem.ClaimMapViews
import Derived.JoinedTies
import Derived.KernelRfl
namespace Go.Proofs.Ytkcmmghhghgdpaa
/- THE CELL 'sum', in the pinned program and in every row, IS THE sha256 OF THE DUMP (.gsa) THAT YtkcmmghhghgdpaaProg.lean LOADS. Nothing in Lean hashes anything: it is a label: what it is worth is what the hold of that sum in a sandbox is worth. -/
noncomputable def Try.pinned : Pinned := { name := "ytkcmmghhghgdpaa", sum := "2dc8111c13805d7a4534f6a4ae1928cb8bbe25f2e24aea0380573ea8e15cb822", checked := Try.checked }
namespace Rows
def none {H : Type} : Left H := { results := [], args := [] }

/-- 'furlonglaw09.StrideRounds': WHATEVER THE INPUT: true; the input reads as it did. -/
def strideRoundsSpec : ChangeSpec := { name := "strideRounds", fn := fun _ => fun
  | [d] => { results := [.lit (.bool true)], args := [d] }
  | _ => none }
def strideRoundsRow : OpenClaim := { program := "ytkcmmghhghgdpaa", sum := "2dc8111c13805d7a4534f6a4ae1928cb8bbe25f2e24aea0380573ea8e15cb822", func := "furlong/furlonglaw09.StrideRounds", spec := "strideRounds", inPlace := ["slices.overlaps[furlong/stride.Client]"], unfollowed := true, recurses := true, apart := false }
def StrideRoundsSaid : Prop := strideRoundsRow.holds Try.pinned (OpenSpec.ofChange strideRoundsSpec)

/-- ITS FALSE NEIGHBOUR: 'it returns false'. Refute it at one input. -/
def strideRoundsWrong : ChangeSpec := { name := "strideRounds", fn := fun _ => fun
  | [d] => { results := [.lit (.bool false)], args := [d] }
  | _ => none }
def StrideRoundsWrongFalsely : Prop := strideRoundsRow.holds Try.pinned (OpenSpec.ofChange strideRoundsWrong)

/-- 'furlonglaw09.StrideScripts': WHATEVER THE INPUT: true; the input reads as it did. -/
def strideScriptsSpec : ChangeSpec := { name := "strideScripts", fn := fun _ => fun
  | [d] => { results := [.lit (.bool true)], args := [d] }
  | _ => none }
def strideScriptsRow : OpenClaim := { program := "ytkcmmghhghgdpaa", sum := "2dc8111c13805d7a4534f6a4ae1928cb8bbe25f2e24aea0380573ea8e15cb822", func := "furlong/furlonglaw09.StrideScripts", spec := "strideScripts", inPlace := ["slices.overlaps[furlong/stride.Client]"], unfollowed := true, recurses := true, apart := false }
def StrideScriptsSaid : Prop := strideScriptsRow.holds Try.pinned (OpenSpec.ofChange strideScriptsSpec)

/-- ITS FALSE NEIGHBOUR: 'it returns false'. Refute it at one input. -/
def strideScriptsWrong : ChangeSpec := { name := "strideScripts", fn := fun _ => fun
  | [d] => { results := [.lit (.bool false)], args := [d] }
  | _ => none }
def StrideScriptsWrongFalsely : Prop := strideScriptsRow.holds Try.pinned (OpenSpec.ofChange strideScriptsWrong)

/-- 'furlonglaw09.StrideFair': WHATEVER THE INPUT: true; the input reads as it did. -/
def strideFairSpec : ChangeSpec := { name := "strideFair", fn := fun _ => fun
  | [d1, d2] => { results := [.lit (.bool true)], args := [d1, d2] }
  | _ => none }
def strideFairRow : OpenClaim := { program := "ytkcmmghhghgdpaa", sum := "2dc8111c13805d7a4534f6a4ae1928cb8bbe25f2e24aea0380573ea8e15cb822", func := "furlong/furlonglaw09.StrideFair", spec := "strideFair", inPlace := ["slices.overlaps[furlong/stride.Client]"], unfollowed := true, recurses := true, apart := false }
def StrideFairSaid : Prop := strideFairRow.holds Try.pinned (OpenSpec.ofChange strideFairSpec)

/-- ITS FALSE NEIGHBOUR: 'it returns false'. Refute it at one input. -/
def strideFairWrong : ChangeSpec := { name := "strideFair", fn := fun _ => fun
  | [d1, d2] => { results := [.lit (.bool false)], args := [d1, d2] }
  | _ => none }
def StrideFairWrongFalsely : Prop := strideFairRow.holds Try.pinned (OpenSpec.ofChange strideFairWrong)

/-- 'furlonglaw09.StrideRuns': WHATEVER THE INPUT: true; the input reads as it did. -/
def strideRunsSpec : ChangeSpec := { name := "strideRuns", fn := fun _ => fun
  | [d1, d2, d3] => { results := [.lit (.bool true)], args := [d1, d2, d3] }
  | _ => none }
def strideRunsRow : OpenClaim := { program := "ytkcmmghhghgdpaa", sum := "2dc8111c13805d7a4534f6a4ae1928cb8bbe25f2e24aea0380573ea8e15cb822", func := "furlong/furlonglaw09.StrideRuns", spec := "strideRuns", inPlace := ["slices.overlaps[furlong/stride.Client]"], unfollowed := true, recurses := true, apart := false }
def StrideRunsSaid : Prop := strideRunsRow.holds Try.pinned (OpenSpec.ofChange strideRunsSpec)

/-- ITS FALSE NEIGHBOUR: 'it returns false'. Refute it at one input. -/
def strideRunsWrong : ChangeSpec := { name := "strideRuns", fn := fun _ => fun
  | [d1, d2, d3] => { results := [.lit (.bool false)], args := [d1, d2, d3] }
  | _ => none }
def StrideRunsWrongFalsely : Prop := strideRunsRow.holds Try.pinned (OpenSpec.ofChange strideRunsWrong)

/-- 'furlonglaw09.StrideLeaves': WHATEVER THE INPUT: true; the input reads as it did. -/
def strideLeavesSpec : ChangeSpec := { name := "strideLeaves", fn := fun _ => fun
  | [d1, d2] => { results := [.lit (.bool true)], args := [d1, d2] }
  | _ => none }
def strideLeavesRow : OpenClaim := { program := "ytkcmmghhghgdpaa", sum := "2dc8111c13805d7a4534f6a4ae1928cb8bbe25f2e24aea0380573ea8e15cb822", func := "furlong/furlonglaw09.StrideLeaves", spec := "strideLeaves", inPlace := ["slices.overlaps[furlong/stride.Client]"], unfollowed := true, recurses := true, apart := false }
def StrideLeavesSaid : Prop := strideLeavesRow.holds Try.pinned (OpenSpec.ofChange strideLeavesSpec)

/-- ITS FALSE NEIGHBOUR: 'it returns false'. Refute it at one input. -/
def strideLeavesWrong : ChangeSpec := { name := "strideLeaves", fn := fun _ => fun
  | [d1, d2] => { results := [.lit (.bool false)], args := [d1, d2] }
  | _ => none }
def StrideLeavesWrongFalsely : Prop := strideLeavesRow.holds Try.pinned (OpenSpec.ofChange strideLeavesWrong)

/-- 'furlonglaw09.StrideNil': WHATEVER THE INPUT: true; the input reads as it did. -/
def strideNilSpec : ChangeSpec := { name := "strideNil", fn := fun _ => fun
  | [d1, d2, d3] => { results := [.lit (.bool true)], args := [d1, d2, d3] }
  | _ => none }
def strideNilRow : OpenClaim := { program := "ytkcmmghhghgdpaa", sum := "2dc8111c13805d7a4534f6a4ae1928cb8bbe25f2e24aea0380573ea8e15cb822", func := "furlong/furlonglaw09.StrideNil", spec := "strideNil", inPlace := ["slices.overlaps[furlong/stride.Client]"], unfollowed := true, recurses := true, apart := false }
def StrideNilSaid : Prop := strideNilRow.holds Try.pinned (OpenSpec.ofChange strideNilSpec)

/-- ITS FALSE NEIGHBOUR: 'it returns false'. Refute it at one input. -/
def strideNilWrong : ChangeSpec := { name := "strideNil", fn := fun _ => fun
  | [d1, d2, d3] => { results := [.lit (.bool false)], args := [d1, d2, d3] }
  | _ => none }
def StrideNilWrongFalsely : Prop := strideNilRow.holds Try.pinned (OpenSpec.ofChange strideNilWrong)

/-- 'furlonglaw19.AgentLate': WHATEVER THE INPUT: true; the input reads as it did. -/
def agentLateSpec : ChangeSpec := { name := "agentLate", fn := fun _ => fun
  | [d1, d2, d3, d4] => { results := [.lit (.bool true)], args := [d1, d2, d3, d4] }
  | _ => none }
def agentLateRow : OpenClaim := { program := "ytkcmmghhghgdpaa", sum := "2dc8111c13805d7a4534f6a4ae1928cb8bbe25f2e24aea0380573ea8e15cb822", func := "furlong/furlonglaw19.AgentLate", spec := "agentLate", inPlace := ["slices.overlaps[furlong/stride.Client]"], unfollowed := true, recurses := true, apart := false }
def AgentLateSaid : Prop := agentLateRow.holds Try.pinned (OpenSpec.ofChange agentLateSpec)

/-- ITS FALSE NEIGHBOUR: 'it returns false'. Refute it at one input. -/
def agentLateWrong : ChangeSpec := { name := "agentLate", fn := fun _ => fun
  | [d1, d2, d3, d4] => { results := [.lit (.bool false)], args := [d1, d2, d3, d4] }
  | _ => none }
def AgentLateWrongFalsely : Prop := agentLateRow.holds Try.pinned (OpenSpec.ofChange agentLateWrong)

/-- 'furlonglaw19.AgentNever': WHATEVER THE INPUT: true; the input reads as it did. -/
def agentNeverSpec : ChangeSpec := { name := "agentNever", fn := fun _ => fun
  | [d1, d2, d3] => { results := [.lit (.bool true)], args := [d1, d2, d3] }
  | _ => none }
def agentNeverRow : OpenClaim := { program := "ytkcmmghhghgdpaa", sum := "2dc8111c13805d7a4534f6a4ae1928cb8bbe25f2e24aea0380573ea8e15cb822", func := "furlong/furlonglaw19.AgentNever", spec := "agentNever", inPlace := ["slices.overlaps[furlong/stride.Client]"], unfollowed := true, recurses := true, apart := false }
def AgentNeverSaid : Prop := agentNeverRow.holds Try.pinned (OpenSpec.ofChange agentNeverSpec)

/-- ITS FALSE NEIGHBOUR: 'it returns false'. Refute it at one input. -/
def agentNeverWrong : ChangeSpec := { name := "agentNever", fn := fun _ => fun
  | [d1, d2, d3] => { results := [.lit (.bool false)], args := [d1, d2, d3] }
  | _ => none }
def AgentNeverWrongFalsely : Prop := agentNeverRow.holds Try.pinned (OpenSpec.ofChange agentNeverWrong)

/-- 'furlonglaw19.AgentShares': WHATEVER THE INPUT: true; the input reads as it did. -/
def agentSharesSpec : ChangeSpec := { name := "agentShares", fn := fun _ => fun
  | [d1, d2, d3] => { results := [.lit (.bool true)], args := [d1, d2, d3] }
  | _ => none }
def agentSharesRow : OpenClaim := { program := "ytkcmmghhghgdpaa", sum := "2dc8111c13805d7a4534f6a4ae1928cb8bbe25f2e24aea0380573ea8e15cb822", func := "furlong/furlonglaw19.AgentShares", spec := "agentShares", inPlace := ["slices.overlaps[furlong/stride.Client]"], unfollowed := true, recurses := true, apart := false }
def AgentSharesSaid : Prop := agentSharesRow.holds Try.pinned (OpenSpec.ofChange agentSharesSpec)

/-- ITS FALSE NEIGHBOUR: 'it returns false'. Refute it at one input. -/
def agentSharesWrong : ChangeSpec := { name := "agentShares", fn := fun _ => fun
  | [d1, d2, d3] => { results := [.lit (.bool false)], args := [d1, d2, d3] }
  | _ => none }
def AgentSharesWrongFalsely : Prop := agentSharesRow.holds Try.pinned (OpenSpec.ofChange agentSharesWrong)

/-- 'furlonglaw19.AgentScripts': WHATEVER THE INPUT: true; the input reads as it did. -/
def agentScriptsSpec : ChangeSpec := { name := "agentScripts", fn := fun _ => fun
  | [d1, d2, d3] => { results := [.lit (.bool true)], args := [d1, d2, d3] }
  | _ => none }
def agentScriptsRow : OpenClaim := { program := "ytkcmmghhghgdpaa", sum := "2dc8111c13805d7a4534f6a4ae1928cb8bbe25f2e24aea0380573ea8e15cb822", func := "furlong/furlonglaw19.AgentScripts", spec := "agentScripts", inPlace := ["slices.overlaps[furlong/stride.Client]"], unfollowed := true, recurses := true, apart := false }
def AgentScriptsSaid : Prop := agentScriptsRow.holds Try.pinned (OpenSpec.ofChange agentScriptsSpec)

/-- ITS FALSE NEIGHBOUR: 'it returns false'. Refute it at one input. -/
def agentScriptsWrong : ChangeSpec := { name := "agentScripts", fn := fun _ => fun
  | [d1, d2, d3] => { results := [.lit (.bool false)], args := [d1, d2, d3] }
  | _ => none }
def AgentScriptsWrongFalsely : Prop := agentScriptsRow.holds Try.pinned (OpenSpec.ofChange agentScriptsWrong)

/-- 'furlonglaw19.AgentNil': WHATEVER THE INPUT: true; the input reads as it did. -/
def agentNilSpec : ChangeSpec := { name := "agentNil", fn := fun _ => fun
  | [d] => { results := [.lit (.bool true)], args := [d] }
  | _ => none }
def agentNilRow : OpenClaim := { program := "ytkcmmghhghgdpaa", sum := "2dc8111c13805d7a4534f6a4ae1928cb8bbe25f2e24aea0380573ea8e15cb822", func := "furlong/furlonglaw19.AgentNil", spec := "agentNil", inPlace := ["slices.overlaps[furlong/stride.Client]"], unfollowed := true, recurses := true, apart := false }
def AgentNilSaid : Prop := agentNilRow.holds Try.pinned (OpenSpec.ofChange agentNilSpec)

/-- ITS FALSE NEIGHBOUR: 'it returns false'. Refute it at one input. -/
def agentNilWrong : ChangeSpec := { name := "agentNil", fn := fun _ => fun
  | [d] => { results := [.lit (.bool false)], args := [d] }
  | _ => none }
def AgentNilWrongFalsely : Prop := agentNilRow.holds Try.pinned (OpenSpec.ofChange agentNilWrong)

/- THE SECOND FORM. 'bulk': how many values and letters a reading holds, each counted each time it is reached (what is shared counts as often as it is met; a slice's spare places count too). A statement '..UptoSaid' is the law's where the arguments, and the package variables that the reading takes, are together of bulk at most 1048576: NARROWER than '..Said'. Prove '..Said' where nothing that the law and all that it calls make is longer than what came in: it says more and counts as full. Else prove '..UptoSaid'. A law counts once. -/
mutual
def uptoBulk {H : Type} : DataW H → Nat
  | .lit (.string bytes) => bytes.length + 1
  | .lit _ => 1
  | .nil => 1
  | .ptr d => uptoBulk d + 1
  | .slice elems spare => uptoBulkAll elems + uptoBulkAll spare + 1
  | .agg parts => uptoBulkAll parts + 1
  | .iface _ d => uptoBulk d + 1
  | .map entries => uptoBulkEntries entries + 1
  | .held _ => 1
def uptoBulkAll {H : Type} : List (DataW H) → Nat
  | [] => 0
  | d :: r => uptoBulk d + uptoBulkAll r
def uptoBulkEntries {H : Type} : List (Lit × DataW H) → Nat
  | [] => 0
  | x :: r => uptoBulkEntry x + uptoBulkEntries r
def uptoBulkEntry {H : Type} : Lit × DataW H → Nat
  | (.string bytes, d) => bytes.length + uptoBulk d + 1
  | (_, d) => uptoBulk d + 1
 end
def uptoSmall : (H : Type) → List (DataW H) → Bool := fun _ ds => decide (uptoBulkAll ds ≤ 1048576)
def OpenSpec.upto (s : _root_.Go.ChangeSpec) : _root_.Go.OpenSpec := { _root_.Go.OpenSpec.ofChange s with cond := some uptoSmall }

/-- 'furlonglaw09.StrideRounds', WHERE WHAT IT READS IS OF BULK AT MOST 1048576: true; the input reads as it did. -/
def strideRoundsUptoRow : OpenClaim := { program := "ytkcmmghhghgdpaa", sum := "2dc8111c13805d7a4534f6a4ae1928cb8bbe25f2e24aea0380573ea8e15cb822", func := "furlong/furlonglaw09.StrideRounds", spec := "strideRounds", inPlace := ["slices.overlaps[furlong/stride.Client]"], unfollowed := true, recurses := true, apart := false, narrowed := true }
def StrideRoundsUptoSaid : Prop := strideRoundsUptoRow.holds Try.pinned (OpenSpec.upto strideRoundsSpec)

/-- 'furlonglaw09.StrideScripts', WHERE WHAT IT READS IS OF BULK AT MOST 1048576: true; the input reads as it did. -/
def strideScriptsUptoRow : OpenClaim := { program := "ytkcmmghhghgdpaa", sum := "2dc8111c13805d7a4534f6a4ae1928cb8bbe25f2e24aea0380573ea8e15cb822", func := "furlong/furlonglaw09.StrideScripts", spec := "strideScripts", inPlace := ["slices.overlaps[furlong/stride.Client]"], unfollowed := true, recurses := true, apart := false, narrowed := true }
def StrideScriptsUptoSaid : Prop := strideScriptsUptoRow.holds Try.pinned (OpenSpec.upto strideScriptsSpec)

/-- 'furlonglaw09.StrideFair', WHERE WHAT IT READS IS OF BULK AT MOST 1048576: true; the input reads as it did. -/
def strideFairUptoRow : OpenClaim := { program := "ytkcmmghhghgdpaa", sum := "2dc8111c13805d7a4534f6a4ae1928cb8bbe25f2e24aea0380573ea8e15cb822", func := "furlong/furlonglaw09.StrideFair", spec := "strideFair", inPlace := ["slices.overlaps[furlong/stride.Client]"], unfollowed := true, recurses := true, apart := false, narrowed := true }
def StrideFairUptoSaid : Prop := strideFairUptoRow.holds Try.pinned (OpenSpec.upto strideFairSpec)

/-- 'furlonglaw09.StrideRuns', WHERE WHAT IT READS IS OF BULK AT MOST 1048576: true; the input reads as it did. -/
def strideRunsUptoRow : OpenClaim := { program := "ytkcmmghhghgdpaa", sum := "2dc8111c13805d7a4534f6a4ae1928cb8bbe25f2e24aea0380573ea8e15cb822", func := "furlong/furlonglaw09.StrideRuns", spec := "strideRuns", inPlace := ["slices.overlaps[furlong/stride.Client]"], unfollowed := true, recurses := true, apart := false, narrowed := true }
def StrideRunsUptoSaid : Prop := strideRunsUptoRow.holds Try.pinned (OpenSpec.upto strideRunsSpec)

/-- 'furlonglaw09.StrideLeaves', WHERE WHAT IT READS IS OF BULK AT MOST 1048576: true; the input reads as it did. -/
def strideLeavesUptoRow : OpenClaim := { program := "ytkcmmghhghgdpaa", sum := "2dc8111c13805d7a4534f6a4ae1928cb8bbe25f2e24aea0380573ea8e15cb822", func := "furlong/furlonglaw09.StrideLeaves", spec := "strideLeaves", inPlace := ["slices.overlaps[furlong/stride.Client]"], unfollowed := true, recurses := true, apart := false, narrowed := true }
def StrideLeavesUptoSaid : Prop := strideLeavesUptoRow.holds Try.pinned (OpenSpec.upto strideLeavesSpec)

/-- 'furlonglaw09.StrideNil', WHERE WHAT IT READS IS OF BULK AT MOST 1048576: true; the input reads as it did. -/
def strideNilUptoRow : OpenClaim := { program := "ytkcmmghhghgdpaa", sum := "2dc8111c13805d7a4534f6a4ae1928cb8bbe25f2e24aea0380573ea8e15cb822", func := "furlong/furlonglaw09.StrideNil", spec := "strideNil", inPlace := ["slices.overlaps[furlong/stride.Client]"], unfollowed := true, recurses := true, apart := false, narrowed := true }
def StrideNilUptoSaid : Prop := strideNilUptoRow.holds Try.pinned (OpenSpec.upto strideNilSpec)

/-- 'furlonglaw19.AgentLate', WHERE WHAT IT READS IS OF BULK AT MOST 1048576: true; the input reads as it did. -/
def agentLateUptoRow : OpenClaim := { program := "ytkcmmghhghgdpaa", sum := "2dc8111c13805d7a4534f6a4ae1928cb8bbe25f2e24aea0380573ea8e15cb822", func := "furlong/furlonglaw19.AgentLate", spec := "agentLate", inPlace := ["slices.overlaps[furlong/stride.Client]"], unfollowed := true, recurses := true, apart := false, narrowed := true }
def AgentLateUptoSaid : Prop := agentLateUptoRow.holds Try.pinned (OpenSpec.upto agentLateSpec)

/-- 'furlonglaw19.AgentNever', WHERE WHAT IT READS IS OF BULK AT MOST 1048576: true; the input reads as it did. -/
def agentNeverUptoRow : OpenClaim := { program := "ytkcmmghhghgdpaa", sum := "2dc8111c13805d7a4534f6a4ae1928cb8bbe25f2e24aea0380573ea8e15cb822", func := "furlong/furlonglaw19.AgentNever", spec := "agentNever", inPlace := ["slices.overlaps[furlong/stride.Client]"], unfollowed := true, recurses := true, apart := false, narrowed := true }
def AgentNeverUptoSaid : Prop := agentNeverUptoRow.holds Try.pinned (OpenSpec.upto agentNeverSpec)

/-- 'furlonglaw19.AgentShares', WHERE WHAT IT READS IS OF BULK AT MOST 1048576: true; the input reads as it did. -/
def agentSharesUptoRow : OpenClaim := { program := "ytkcmmghhghgdpaa", sum := "2dc8111c13805d7a4534f6a4ae1928cb8bbe25f2e24aea0380573ea8e15cb822", func := "furlong/furlonglaw19.AgentShares", spec := "agentShares", inPlace := ["slices.overlaps[furlong/stride.Client]"], unfollowed := true, recurses := true, apart := false, narrowed := true }
def AgentSharesUptoSaid : Prop := agentSharesUptoRow.holds Try.pinned (OpenSpec.upto agentSharesSpec)

/-- 'furlonglaw19.AgentScripts', WHERE WHAT IT READS IS OF BULK AT MOST 1048576: true; the input reads as it did. -/
def agentScriptsUptoRow : OpenClaim := { program := "ytkcmmghhghgdpaa", sum := "2dc8111c13805d7a4534f6a4ae1928cb8bbe25f2e24aea0380573ea8e15cb822", func := "furlong/furlonglaw19.AgentScripts", spec := "agentScripts", inPlace := ["slices.overlaps[furlong/stride.Client]"], unfollowed := true, recurses := true, apart := false, narrowed := true }
def AgentScriptsUptoSaid : Prop := agentScriptsUptoRow.holds Try.pinned (OpenSpec.upto agentScriptsSpec)

/-- 'furlonglaw19.AgentNil', WHERE WHAT IT READS IS OF BULK AT MOST 1048576: true; the input reads as it did. -/
def agentNilUptoRow : OpenClaim := { program := "ytkcmmghhghgdpaa", sum := "2dc8111c13805d7a4534f6a4ae1928cb8bbe25f2e24aea0380573ea8e15cb822", func := "furlong/furlonglaw19.AgentNil", spec := "agentNil", inPlace := ["slices.overlaps[furlong/stride.Client]"], unfollowed := true, recurses := true, apart := false, narrowed := true }
def AgentNilUptoSaid : Prop := agentNilUptoRow.holds Try.pinned (OpenSpec.upto agentNilSpec)

end Rows
end Go.Proofs.Ytkcmmghhghgdpaa
