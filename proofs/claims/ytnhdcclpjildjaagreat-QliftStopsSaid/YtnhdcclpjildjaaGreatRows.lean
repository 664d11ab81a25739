/-
  No cell of these rows narrows 'for every input' (looked for: loops, veiled, ifaces, maps, wideKeys, modest, calm, conditions, laid).
  DERIVED. THE GIVEN ROWS OF THIS SEAT. 10 by the template 'for every input the law returns true; each argument reads behind the call as it read before'; 0 by the template 'total and deterministic' (their statements: YtnhdcclpjildjaaGreatTotals.lean).
  GIVEN WITH THE SEED: the statements are not yours to turn. If you find one false, say at which input.
  Laid BY PROGRAM, IN A SANDBOX (cutbox-rows.mjs): the forced cells as the released guide's own fill.sh prints them over the translation 0c41619ebbdf57c9… (all of the seat's roots in one cut). By AI agents, Wed Nov 11 2026. No macro, syntax, notation, axiom, sorry.
-/
import Derived.Test.YtnhdcclpjildjaaGreatChecked
import GoSem.Claim
import GoSem.ClaimJoined
import GoSem.ClaimMapViews
import Derived.JoinedTies
import Derived.KernelRfl
namespace Go.Proofs.YtnhdcclpjildjaaGreat
/- THE CELL 'sum', in the pinned program and in every row, IS THE sha256 OF THE DUMP (.gsa) THAT YtnhdcclpjildjaaGreatProg.lean LOADS. Nothing in Lean hashes anything: it is a label: what it is worth is what the hold of that sum in a sandbox is worth. -/
noncomputable def Tryz.pinned : Pinned := { name := "ytnhdcclpjildjaagreat", sum := "0c41619ebbdf57c9adf737020e732d54e4743e27e19d9d9c3d184ab866155ffc", checked := Tryz.checked }
namespace Rows
def none {H : Type} : Left H := { results := [], args := [] }

/-- 'babellaw14.QliftValid': WHATEVER THE INPUT: true; the input reads as it did. -/
def qliftValidSpec : ChangeSpec := { name := "qliftValid", fn := fun _ => fun
  | [d1, d2, d3] => { results := [.lit (.bool true)], args := [d1, d2, d3] }
  | _ => none }
def qliftValidRow : OpenClaim := { program := "ytnhdcclpjildjaagreat", sum := "0c41619ebbdf57c9adf737020e732d54e4743e27e19d9d9c3d184ab866155ffc", func := "babel/babellaw14.QliftValid", spec := "qliftValid", unfollowed := true, recurses := true, apart := false }
def QliftValidSaid : Prop := qliftValidRow.holds Tryz.pinned (OpenSpec.ofChange qliftValidSpec)

/-- ITS FALSE NEIGHBOUR: 'it returns false'. Refute it at one input. -/
def qliftValidWrong : ChangeSpec := { name := "qliftValid", fn := fun _ => fun
  | [d1, d2, d3] => { results := [.lit (.bool false)], args := [d1, d2, d3] }
  | _ => none }
def QliftValidWrongFalsely : Prop := qliftValidRow.holds Tryz.pinned (OpenSpec.ofChange qliftValidWrong)

/-- 'babellaw14.QliftExtents': WHATEVER THE INPUT: true; the input reads as it did. -/
def qliftExtentsSpec : ChangeSpec := { name := "qliftExtents", fn := fun _ => fun
  | [d1, d2, d3] => { results := [.lit (.bool true)], args := [d1, d2, d3] }
  | _ => none }
def qliftExtentsRow : OpenClaim := { program := "ytnhdcclpjildjaagreat", sum := "0c41619ebbdf57c9adf737020e732d54e4743e27e19d9d9c3d184ab866155ffc", func := "babel/babellaw14.QliftExtents", spec := "qliftExtents", unfollowed := true, recurses := true, apart := false }
def QliftExtentsSaid : Prop := qliftExtentsRow.holds Tryz.pinned (OpenSpec.ofChange qliftExtentsSpec)

/-- ITS FALSE NEIGHBOUR: 'it returns false'. Refute it at one input. -/
def qliftExtentsWrong : ChangeSpec := { name := "qliftExtents", fn := fun _ => fun
  | [d1, d2, d3] => { results := [.lit (.bool false)], args := [d1, d2, d3] }
  | _ => none }
def QliftExtentsWrongFalsely : Prop := qliftExtentsRow.holds Tryz.pinned (OpenSpec.ofChange qliftExtentsWrong)

/-- 'babellaw14.QliftMeans': WHATEVER THE INPUT: true; the input reads as it did. -/
def qliftMeansSpec : ChangeSpec := { name := "qliftMeans", fn := fun _ => fun
  | [d1, d2, d3] => { results := [.lit (.bool true)], args := [d1, d2, d3] }
  | _ => none }
def qliftMeansRow : OpenClaim := { program := "ytnhdcclpjildjaagreat", sum := "0c41619ebbdf57c9adf737020e732d54e4743e27e19d9d9c3d184ab866155ffc", func := "babel/babellaw14.QliftMeans", spec := "qliftMeans", unfollowed := true, recurses := true, apart := false }
def QliftMeansSaid : Prop := qliftMeansRow.holds Tryz.pinned (OpenSpec.ofChange qliftMeansSpec)

/-- ITS FALSE NEIGHBOUR: 'it returns false'. Refute it at one input. -/
def qliftMeansWrong : ChangeSpec := { name := "qliftMeans", fn := fun _ => fun
  | [d1, d2, d3] => { results := [.lit (.bool false)], args := [d1, d2, d3] }
  | _ => none }
def QliftMeansWrongFalsely : Prop := qliftMeansRow.holds Tryz.pinned (OpenSpec.ofChange qliftMeansWrong)

/-- 'babellaw14.QliftRuns': WHATEVER THE INPUT: true; the input reads as it did. -/
def qliftRunsSpec : ChangeSpec := { name := "qliftRuns", fn := fun _ => fun
  | [d1, d2, d3] => { results := [.lit (.bool true)], args := [d1, d2, d3] }
  | _ => none }
def qliftRunsRow : OpenClaim := { program := "ytnhdcclpjildjaagreat", sum := "0c41619ebbdf57c9adf737020e732d54e4743e27e19d9d9c3d184ab866155ffc", func := "babel/babellaw14.QliftRuns", spec := "qliftRuns", unfollowed := true, recurses := true, apart := false }
def QliftRunsSaid : Prop := qliftRunsRow.holds Tryz.pinned (OpenSpec.ofChange qliftRunsSpec)

/-- ITS FALSE NEIGHBOUR: 'it returns false'. Refute it at one input. -/
def qliftRunsWrong : ChangeSpec := { name := "qliftRuns", fn := fun _ => fun
  | [d1, d2, d3] => { results := [.lit (.bool false)], args := [d1, d2, d3] }
  | _ => none }
def QliftRunsWrongFalsely : Prop := qliftRunsRow.holds Tryz.pinned (OpenSpec.ofChange qliftRunsWrong)

/-- 'babellaw14.QliftSingle': WHATEVER THE INPUT: true; the input reads as it did. -/
def qliftSingleSpec : ChangeSpec := { name := "qliftSingle", fn := fun _ => fun
  | [d1, d2] => { results := [.lit (.bool true)], args := [d1, d2] }
  | _ => none }
def qliftSingleRow : OpenClaim := { program := "ytnhdcclpjildjaagreat", sum := "0c41619ebbdf57c9adf737020e732d54e4743e27e19d9d9c3d184ab866155ffc", func := "babel/babellaw14.QliftSingle", spec := "qliftSingle", unfollowed := true, recurses := true, apart := false }
def QliftSingleSaid : Prop := qliftSingleRow.holds Tryz.pinned (OpenSpec.ofChange qliftSingleSpec)

/-- ITS FALSE NEIGHBOUR: 'it returns false'. Refute it at one input. -/
def qliftSingleWrong : ChangeSpec := { name := "qliftSingle", fn := fun _ => fun
  | [d1, d2] => { results := [.lit (.bool false)], args := [d1, d2] }
  | _ => none }
def QliftSingleWrongFalsely : Prop := qliftSingleRow.holds Tryz.pinned (OpenSpec.ofChange qliftSingleWrong)

/-- 'babellaw14.QliftMemory': WHATEVER THE INPUT: true; the input reads as it did. -/
def qliftMemorySpec : ChangeSpec := { name := "qliftMemory", fn := fun _ => fun
  | [d1, d2, d3] => { results := [.lit (.bool true)], args := [d1, d2, d3] }
  | _ => none }
def qliftMemoryRow : OpenClaim := { program := "ytnhdcclpjildjaagreat", sum := "0c41619ebbdf57c9adf737020e732d54e4743e27e19d9d9c3d184ab866155ffc", func := "babel/babellaw14.QliftMemory", spec := "qliftMemory", unfollowed := true, recurses := true, apart := false }
def QliftMemorySaid : Prop := qliftMemoryRow.holds Tryz.pinned (OpenSpec.ofChange qliftMemorySpec)

/-- ITS FALSE NEIGHBOUR: 'it returns false'. Refute it at one input. -/
def qliftMemoryWrong : ChangeSpec := { name := "qliftMemory", fn := fun _ => fun
  | [d1, d2, d3] => { results := [.lit (.bool false)], args := [d1, d2, d3] }
  | _ => none }
def QliftMemoryWrongFalsely : Prop := qliftMemoryRow.holds Tryz.pinned (OpenSpec.ofChange qliftMemoryWrong)

/-- 'babellaw14.QliftBranches': WHATEVER THE INPUT: true; the input reads as it did. -/
def qliftBranchesSpec : ChangeSpec := { name := "qliftBranches", fn := fun _ => fun
  | [d1, d2, d3] => { results := [.lit (.bool true)], args := [d1, d2, d3] }
  | _ => none }
def qliftBranchesRow : OpenClaim := { program := "ytnhdcclpjildjaagreat", sum := "0c41619ebbdf57c9adf737020e732d54e4743e27e19d9d9c3d184ab866155ffc", func := "babel/babellaw14.QliftBranches", spec := "qliftBranches", unfollowed := true, recurses := true, apart := false }
def QliftBranchesSaid : Prop := qliftBranchesRow.holds Tryz.pinned (OpenSpec.ofChange qliftBranchesSpec)

/-- ITS FALSE NEIGHBOUR: 'it returns false'. Refute it at one input. -/
def qliftBranchesWrong : ChangeSpec := { name := "qliftBranches", fn := fun _ => fun
  | [d1, d2, d3] => { results := [.lit (.bool false)], args := [d1, d2, d3] }
  | _ => none }
def QliftBranchesWrongFalsely : Prop := qliftBranchesRow.holds Tryz.pinned (OpenSpec.ofChange qliftBranchesWrong)

/-- 'babellaw14.QliftStops': WHATEVER THE INPUT: true; the input reads as it did. -/
def qliftStopsSpec : ChangeSpec := { name := "qliftStops", fn := fun _ => fun
  | [d1, d2, d3] => { results := [.lit (.bool true)], args := [d1, d2, d3] }
  | _ => none }
def qliftStopsRow : OpenClaim := { program := "ytnhdcclpjildjaagreat", sum := "0c41619ebbdf57c9adf737020e732d54e4743e27e19d9d9c3d184ab866155ffc", func := "babel/babellaw14.QliftStops", spec := "qliftStops", unfollowed := true, recurses := true, apart := false }
def QliftStopsSaid : Prop := qliftStopsRow.holds Tryz.pinned (OpenSpec.ofChange qliftStopsSpec)

/-- ITS FALSE NEIGHBOUR: 'it returns false'. Refute it at one input. -/
def qliftStopsWrong : ChangeSpec := { name := "qliftStops", fn := fun _ => fun
  | [d1, d2, d3] => { results := [.lit (.bool false)], args := [d1, d2, d3] }
  | _ => none }
def QliftStopsWrongFalsely : Prop := qliftStopsRow.holds Tryz.pinned (OpenSpec.ofChange qliftStopsWrong)

/-- 'babellaw14.QliftFetches': WHATEVER THE INPUT: true; the input reads as it did. -/
def qliftFetchesSpec : ChangeSpec := { name := "qliftFetches", fn := fun _ => fun
  | [d1, d2, d3] => { results := [.lit (.bool true)], args := [d1, d2, d3] }
  | _ => none }
def qliftFetchesRow : OpenClaim := { program := "ytnhdcclpjildjaagreat", sum := "0c41619ebbdf57c9adf737020e732d54e4743e27e19d9d9c3d184ab866155ffc", func := "babel/babellaw14.QliftFetches", spec := "qliftFetches", unfollowed := true, recurses := true, apart := false }
def QliftFetchesSaid : Prop := qliftFetchesRow.holds Tryz.pinned (OpenSpec.ofChange qliftFetchesSpec)

/-- ITS FALSE NEIGHBOUR: 'it returns false'. Refute it at one input. -/
def qliftFetchesWrong : ChangeSpec := { name := "qliftFetches", fn := fun _ => fun
  | [d1, d2, d3] => { results := [.lit (.bool false)], args := [d1, d2, d3] }
  | _ => none }
def QliftFetchesWrongFalsely : Prop := qliftFetchesRow.holds Tryz.pinned (OpenSpec.ofChange qliftFetchesWrong)

/-- 'babellaw14.QliftLimits': WHATEVER THE INPUT: true; the input reads as it did. -/
def qliftLimitsSpec : ChangeSpec := { name := "qliftLimits", fn := fun _ => fun
  | [d1, d2, d3] => { results := [.lit (.bool true)], args := [d1, d2, d3] }
  | _ => none }
def qliftLimitsRow : OpenClaim := { program := "ytnhdcclpjildjaagreat", sum := "0c41619ebbdf57c9adf737020e732d54e4743e27e19d9d9c3d184ab866155ffc", func := "babel/babellaw14.QliftLimits", spec := "qliftLimits", unfollowed := true, recurses := true, apart := false }
def QliftLimitsSaid : Prop := qliftLimitsRow.holds Tryz.pinned (OpenSpec.ofChange qliftLimitsSpec)

/-- ITS FALSE NEIGHBOUR: 'it returns false'. Refute it at one input. -/
def qliftLimitsWrong : ChangeSpec := { name := "qliftLimits", fn := fun _ => fun
  | [d1, d2, d3] => { results := [.lit (.bool false)], args := [d1, d2, d3] }
  | _ => none }
def QliftLimitsWrongFalsely : Prop := qliftLimitsRow.holds Tryz.pinned (OpenSpec.ofChange qliftLimitsWrong)

/- THE SECOND FORM. 'bulk': how many values and letters a reading holds, each counted each time it is reached (what is shared counts as often as it is met; a slice's spare places count too). A statement '..UptoSaid' is the law's where the arguments, and the package variables that the reading takes, are together of bulk at most 1048576: NARROWER than '..Said'. Prove '..Said' where nothing that the law and all that it calls make is longer than what came in: it says more and counts as full. Else prove '..UptoSaid'. A law counts once. -/
mutual
def uptoBulk {H : Type} : DataW H → Nat
  | .lit (.string bytes) => bytes.length + 1
  | .lit _ => 1
  | .nil => 1
  | .ptr d => uptoBulk d + 1
  | .slice elems spare => uptoBulkAll elems + uptoBulkAll spare + 1
  | .agg parts => uptoBulkAll parts + 1
  | .iface _ d => uptoBulk d + 1
  | .map entries => uptoBulkEntries entries + 1
  | .held _ => 1
def uptoBulkAll {H : Type} : List (DataW H) → Nat
  | [] => 0
  | d :: r => uptoBulk d + uptoBulkAll r
def uptoBulkEntries {H : Type} : List (Lit × DataW H) → Nat
  | [] => 0
  | x :: r => uptoBulkEntry x + uptoBulkEntries r
def uptoBulkEntry {H : Type} : Lit × DataW H → Nat
  | (.string bytes, d) => bytes.length + uptoBulk d + 1
  | (_, d) => uptoBulk d + 1
 end
def uptoSmall : (H : Type) → List (DataW H) → Bool := fun _ ds => decide (uptoBulkAll ds ≤ 1048576)
def OpenSpec.upto (s : _root_.Go.ChangeSpec) : _root_.Go.OpenSpec := { _root_.Go.OpenSpec.ofChange s with cond := some uptoSmall }

/-- 'babellaw14.QliftValid', WHERE WHAT IT READS IS OF BULK AT MOST 1048576: true; the input reads as it did. -/
def qliftValidUptoRow : OpenClaim := { program := "ytnhdcclpjildjaagreat", sum := "0c41619ebbdf57c9adf737020e732d54e4743e27e19d9d9c3d184ab866155ffc", func := "babel/babellaw14.QliftValid", spec := "qliftValid", unfollowed := true, recurses := true, apart := false, narrowed := true }
def QliftValidUptoSaid : Prop := qliftValidUptoRow.holds Tryz.pinned (OpenSpec.upto qliftValidSpec)

/-- 'babellaw14.QliftExtents', WHERE WHAT IT READS IS OF BULK AT MOST 1048576: true; the input reads as it did. -/
def qliftExtentsUptoRow : OpenClaim := { program := "ytnhdcclpjildjaagreat", sum := "0c41619ebbdf57c9adf737020e732d54e4743e27e19d9d9c3d184ab866155ffc", func := "babel/babellaw14.QliftExtents", spec := "qliftExtents", unfollowed := true, recurses := true, apart := false, narrowed := true }
def QliftExtentsUptoSaid : Prop := qliftExtentsUptoRow.holds Tryz.pinned (OpenSpec.upto qliftExtentsSpec)

/-- 'babellaw14.QliftMeans', WHERE WHAT IT READS IS OF BULK AT MOST 1048576: true; the input reads as it did. -/
def qliftMeansUptoRow : OpenClaim := { program := "ytnhdcclpjildjaagreat", sum := "0c41619ebbdf57c9adf737020e732d54e4743e27e19d9d9c3d184ab866155ffc", func := "babel/babellaw14.QliftMeans", spec := "qliftMeans", unfollowed := true, recurses := true, apart := false, narrowed := true }
def QliftMeansUptoSaid : Prop := qliftMeansUptoRow.holds Tryz.pinned (OpenSpec.upto qliftMeansSpec)

/-- 'babellaw14.QliftRuns', WHERE WHAT IT READS IS OF BULK AT MOST 1048576: true; the input reads as it did. -/
def qliftRunsUptoRow : OpenClaim := { program := "ytnhdcclpjildjaagreat", sum := "0c41619ebbdf57c9adf737020e732d54e4743e27e19d9d9c3d184ab866155ffc", func := "babel/babellaw14.QliftRuns", spec := "qliftRuns", unfollowed := true, recurses := true, apart := false, narrowed := true }
def QliftRunsUptoSaid : Prop := qliftRunsUptoRow.holds Tryz.pinned (OpenSpec.upto qliftRunsSpec)

/-- 'babellaw14.QliftSingle', WHERE WHAT IT READS IS OF BULK AT MOST 1048576: true; the input reads as it did. -/
def qliftSingleUptoRow : OpenClaim := { program := "ytnhdcclpjildjaagreat", sum := "0c41619ebbdf57c9adf737020e732d54e4743e27e19d9d9c3d184ab866155ffc", func := "babel/babellaw14.QliftSingle", spec := "qliftSingle", unfollowed := true, recurses := true, apart := false, narrowed := true }
def QliftSingleUptoSaid : Prop := qliftSingleUptoRow.holds Tryz.pinned (OpenSpec.upto qliftSingleSpec)

/-- 'babellaw14.QliftMemory', WHERE WHAT IT READS IS OF BULK AT MOST 1048576: true; the input reads as it did. -/
def qliftMemoryUptoRow : OpenClaim := { program := "ytnhdcclpjildjaagreat", sum := "0c41619ebbdf57c9adf737020e732d54e4743e27e19d9d9c3d184ab866155ffc", func := "babel/babellaw14.QliftMemory", spec := "qliftMemory", unfollowed := true, recurses := true, apart := false, narrowed := true }
def QliftMemoryUptoSaid : Prop := qliftMemoryUptoRow.holds Tryz.pinned (OpenSpec.upto qliftMemorySpec)

/-- 'babellaw14.QliftBranches', WHERE WHAT IT READS IS OF BULK AT MOST 1048576: true; the input reads as it did. -/
def qliftBranchesUptoRow : OpenClaim := { program := "ytnhdcclpjildjaagreat", sum := "0c41619ebbdf57c9adf737020e732d54e4743e27e19d9d9c3d184ab866155ffc", func := "babel/babellaw14.QliftBranches", spec := "qliftBranches", unfollowed := true, recurses := true, apart := false, narrowed := true }
def QliftBranchesUptoSaid : Prop := qliftBranchesUptoRow.holds Tryz.pinned (OpenSpec.upto qliftBranchesSpec)

/-- 'babellaw14.QliftStops', WHERE WHAT IT READS IS OF BULK AT MOST 1048576: true; the input reads as it did. -/
def qliftStopsUptoRow : OpenClaim := { program := "ytnhdcclpjildjaagreat", sum := "0c41619ebbdf57c9adf737020e732d54e4743e27e19d9d9c3d184ab866155ffc", func := "babel/babellaw14.QliftStops", spec := "qliftStops", unfollowed := true, recurses := true, apart := false, narrowed := true }
def QliftStopsUptoSaid : Prop := qliftStopsUptoRow.holds Tryz.pinned (OpenSpec.upto qliftStopsSpec)

/-- 'babellaw14.QliftFetches', WHERE WHAT IT READS IS OF BULK AT MOST 1048576: true; the input reads as it did. -/
def qliftFetchesUptoRow : OpenClaim := { program := "ytnhdcclpjildjaagreat", sum := "0c41619ebbdf57c9adf737020e732d54e4743e27e19d9d9c3d184ab866155ffc", func := "babel/babellaw14.QliftFetches", spec := "qliftFetches", unfollowed := true, recurses := true, apart := false, narrowed := true }
def QliftFetchesUptoSaid : Prop := qliftFetchesUptoRow.holds Tryz.pinned (OpenSpec.upto qliftFetchesSpec)

/-- 'babellaw14.QliftLimits', WHERE WHAT IT READS IS OF BULK AT MOST 1048576: true; the input reads as it did. -/
def qliftLimitsUptoRow : OpenClaim := { program := "ytnhdcclpjildjaagreat", sum := "0c41619ebbdf57c9adf737020e732d54e4743e27e19d9d9c3d184ab866155ffc", func := "babel/babellaw14.QliftLimits", spec := "qliftLimits", unfollowed := true, recurses := true, apart := false, narrowed := true }
def QliftLimitsUptoSaid : Prop := qliftLimitsUptoRow.holds Tryz.pinned (OpenSpec.upto qliftLimitsSpec)

end Rows
end Go.Proofs.YtnhdcclpjildjaaGreat
