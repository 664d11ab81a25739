/-
  No cell of these rows narrows 'for every input' (looked for: loops, veiled, ifaces, maps, wideKeys, modest, calm, conditions, laid).
  DERIVED. THE GIVEN ROWS OF THIS SEAT. 10 by the template 'for every input the law returns true; each argument reads behind the call as it read before'; 0 by the template 'total and deterministic' (their statements: YtocafomnnkmjfaaGreatTotals.lean).
  GIVEN WITH THE SEED: the statements are not yours to turn. If you find one false, say at which input.
  Laid BY PROGRAM, IN A SANDBOX (cutbox-rows.mjs): the forced cells as the released guide's own fill.sh prints them over the translation 2816f7b75bffbf3a… (all of the seat's roots in one cut). By AI agents, Wed Nov 11 2026. No macro, syntax, notation, axiom, sorry.
-/
import Derived.Test.YtocafomnnkmjfaaGreatChecked
import GoSem.Claim
import GoSem.ClaimJoined
import GoSem.ClaimMapViews
import Derived.JoinedTies
import Derived.KernelRfl
namespace Go.Proofs.YtocafomnnkmjfaaGreat
/- THE CELL 'sum', in the pinned program and in every row, IS THE sha256 OF THE DUMP (.gsa) THAT YtocafomnnkmjfaaGreatProg.lean LOADS. Nothing in Lean hashes anything: it is a label: what it is worth is what the hold of that sum in a sandbox is worth. -/
noncomputable def Tryz.pinned : Pinned := { name := "ytocafomnnkmjfaagreat", sum := "2816f7b75bffbf3abd72b0c04514de7e71cae5dfcf2300f61d1cdbf1345b7665", checked := Tryz.checked }
namespace Rows
def none {H : Type} : Left H := { results := [], args := [] }

/-- 'babellaw17.QemitMeans': WHATEVER THE INPUT: true; the input reads as it did. -/
def qemitMeansSpec : ChangeSpec := { name := "qemitMeans", fn := fun _ => fun
  | [d1, d2, d3] => { results := [.lit (.bool true)], args := [d1, d2, d3] }
  | _ => none }
def qemitMeansRow : OpenClaim := { program := "ytocafomnnkmjfaagreat", sum := "2816f7b75bffbf3abd72b0c04514de7e71cae5dfcf2300f61d1cdbf1345b7665", func := "babel/babellaw17.QemitMeans", spec := "qemitMeans", inPlace := ["internal/abi.NoEscape"], unfollowed := true, recurses := true, apart := false }
def QemitMeansSaid : Prop := qemitMeansRow.holds Tryz.pinned (OpenSpec.ofChange qemitMeansSpec)

/-- ITS FALSE NEIGHBOUR: 'it returns false'. Refute it at one input. -/
def qemitMeansWrong : ChangeSpec := { name := "qemitMeans", fn := fun _ => fun
  | [d1, d2, d3] => { results := [.lit (.bool false)], args := [d1, d2, d3] }
  | _ => none }
def QemitMeansWrongFalsely : Prop := qemitMeansRow.holds Tryz.pinned (OpenSpec.ofChange qemitMeansWrong)

/-- 'babellaw17.QemitPlain': WHATEVER THE INPUT: true; the input reads as it did. -/
def qemitPlainSpec : ChangeSpec := { name := "qemitPlain", fn := fun _ => fun
  | [d1, d2, d3] => { results := [.lit (.bool true)], args := [d1, d2, d3] }
  | _ => none }
def qemitPlainRow : OpenClaim := { program := "ytocafomnnkmjfaagreat", sum := "2816f7b75bffbf3abd72b0c04514de7e71cae5dfcf2300f61d1cdbf1345b7665", func := "babel/babellaw17.QemitPlain", spec := "qemitPlain", inPlace := ["internal/abi.NoEscape"], unfollowed := true, recurses := true, apart := false }
def QemitPlainSaid : Prop := qemitPlainRow.holds Tryz.pinned (OpenSpec.ofChange qemitPlainSpec)

/-- ITS FALSE NEIGHBOUR: 'it returns false'. Refute it at one input. -/
def qemitPlainWrong : ChangeSpec := { name := "qemitPlain", fn := fun _ => fun
  | [d1, d2, d3] => { results := [.lit (.bool false)], args := [d1, d2, d3] }
  | _ => none }
def QemitPlainWrongFalsely : Prop := qemitPlainRow.holds Tryz.pinned (OpenSpec.ofChange qemitPlainWrong)

/-- 'babellaw17.QemitLimits': WHATEVER THE INPUT: true; the input reads as it did. -/
def qemitLimitsSpec : ChangeSpec := { name := "qemitLimits", fn := fun _ => fun
  | [d1, d2, d3] => { results := [.lit (.bool true)], args := [d1, d2, d3] }
  | _ => none }
def qemitLimitsRow : OpenClaim := { program := "ytocafomnnkmjfaagreat", sum := "2816f7b75bffbf3abd72b0c04514de7e71cae5dfcf2300f61d1cdbf1345b7665", func := "babel/babellaw17.QemitLimits", spec := "qemitLimits", inPlace := ["internal/abi.NoEscape"], unfollowed := true, recurses := true, apart := false }
def QemitLimitsSaid : Prop := qemitLimitsRow.holds Tryz.pinned (OpenSpec.ofChange qemitLimitsSpec)

/-- ITS FALSE NEIGHBOUR: 'it returns false'. Refute it at one input. -/
def qemitLimitsWrong : ChangeSpec := { name := "qemitLimits", fn := fun _ => fun
  | [d1, d2, d3] => { results := [.lit (.bool false)], args := [d1, d2, d3] }
  | _ => none }
def QemitLimitsWrongFalsely : Prop := qemitLimitsRow.holds Tryz.pinned (OpenSpec.ofChange qemitLimitsWrong)

/-- 'babellaw17.QemitErrors': WHATEVER THE INPUT: true; the input reads as it did. -/
def qemitErrorsSpec : ChangeSpec := { name := "qemitErrors", fn := fun _ => fun
  | [d1, d2, d3] => { results := [.lit (.bool true)], args := [d1, d2, d3] }
  | _ => none }
def qemitErrorsRow : OpenClaim := { program := "ytocafomnnkmjfaagreat", sum := "2816f7b75bffbf3abd72b0c04514de7e71cae5dfcf2300f61d1cdbf1345b7665", func := "babel/babellaw17.QemitErrors", spec := "qemitErrors", inPlace := ["internal/abi.NoEscape"], unfollowed := true, recurses := true, apart := false }
def QemitErrorsSaid : Prop := qemitErrorsRow.holds Tryz.pinned (OpenSpec.ofChange qemitErrorsSpec)

/-- ITS FALSE NEIGHBOUR: 'it returns false'. Refute it at one input. -/
def qemitErrorsWrong : ChangeSpec := { name := "qemitErrors", fn := fun _ => fun
  | [d1, d2, d3] => { results := [.lit (.bool false)], args := [d1, d2, d3] }
  | _ => none }
def QemitErrorsWrongFalsely : Prop := qemitErrorsRow.holds Tryz.pinned (OpenSpec.ofChange qemitErrorsWrong)

/-- 'babellaw17.QemitAccess': WHATEVER THE INPUT: true; the input reads as it did. -/
def qemitAccessSpec : ChangeSpec := { name := "qemitAccess", fn := fun _ => fun
  | [d1, d2, d3] => { results := [.lit (.bool true)], args := [d1, d2, d3] }
  | _ => none }
def qemitAccessRow : OpenClaim := { program := "ytocafomnnkmjfaagreat", sum := "2816f7b75bffbf3abd72b0c04514de7e71cae5dfcf2300f61d1cdbf1345b7665", func := "babel/babellaw17.QemitAccess", spec := "qemitAccess", inPlace := ["internal/abi.NoEscape"], unfollowed := true, recurses := true, apart := false }
def QemitAccessSaid : Prop := qemitAccessRow.holds Tryz.pinned (OpenSpec.ofChange qemitAccessSpec)

/-- ITS FALSE NEIGHBOUR: 'it returns false'. Refute it at one input. -/
def qemitAccessWrong : ChangeSpec := { name := "qemitAccess", fn := fun _ => fun
  | [d1, d2, d3] => { results := [.lit (.bool false)], args := [d1, d2, d3] }
  | _ => none }
def QemitAccessWrongFalsely : Prop := qemitAccessRow.holds Tryz.pinned (OpenSpec.ofChange qemitAccessWrong)

/-- 'babellaw17.QemitSites': WHATEVER THE INPUT: true; the input reads as it did. -/
def qemitSitesSpec : ChangeSpec := { name := "qemitSites", fn := fun _ => fun
  | [d1, d2, d3] => { results := [.lit (.bool true)], args := [d1, d2, d3] }
  | _ => none }
def qemitSitesRow : OpenClaim := { program := "ytocafomnnkmjfaagreat", sum := "2816f7b75bffbf3abd72b0c04514de7e71cae5dfcf2300f61d1cdbf1345b7665", func := "babel/babellaw17.QemitSites", spec := "qemitSites", inPlace := ["internal/abi.NoEscape"], unfollowed := true, recurses := true, apart := false }
def QemitSitesSaid : Prop := qemitSitesRow.holds Tryz.pinned (OpenSpec.ofChange qemitSitesSpec)

/-- ITS FALSE NEIGHBOUR: 'it returns false'. Refute it at one input. -/
def qemitSitesWrong : ChangeSpec := { name := "qemitSites", fn := fun _ => fun
  | [d1, d2, d3] => { results := [.lit (.bool false)], args := [d1, d2, d3] }
  | _ => none }
def QemitSitesWrongFalsely : Prop := qemitSitesRow.holds Tryz.pinned (OpenSpec.ofChange qemitSitesWrong)

/-- 'babellaw17.QemitPredicts': WHATEVER THE INPUT: true; the input reads as it did. -/
def qemitPredictsSpec : ChangeSpec := { name := "qemitPredicts", fn := fun _ => fun
  | [d1, d2, d3] => { results := [.lit (.bool true)], args := [d1, d2, d3] }
  | _ => none }
def qemitPredictsRow : OpenClaim := { program := "ytocafomnnkmjfaagreat", sum := "2816f7b75bffbf3abd72b0c04514de7e71cae5dfcf2300f61d1cdbf1345b7665", func := "babel/babellaw17.QemitPredicts", spec := "qemitPredicts", inPlace := ["internal/abi.NoEscape"], unfollowed := true, recurses := true, apart := false }
def QemitPredictsSaid : Prop := qemitPredictsRow.holds Tryz.pinned (OpenSpec.ofChange qemitPredictsSpec)

/-- ITS FALSE NEIGHBOUR: 'it returns false'. Refute it at one input. -/
def qemitPredictsWrong : ChangeSpec := { name := "qemitPredicts", fn := fun _ => fun
  | [d1, d2, d3] => { results := [.lit (.bool false)], args := [d1, d2, d3] }
  | _ => none }
def QemitPredictsWrongFalsely : Prop := qemitPredictsRow.holds Tryz.pinned (OpenSpec.ofChange qemitPredictsWrong)

/-- 'babellaw17.QemitChained': WHATEVER THE INPUT: true; the input reads as it did. -/
def qemitChainedSpec : ChangeSpec := { name := "qemitChained", fn := fun _ => fun
  | [d1, d2, d3] => { results := [.lit (.bool true)], args := [d1, d2, d3] }
  | _ => none }
def qemitChainedRow : OpenClaim := { program := "ytocafomnnkmjfaagreat", sum := "2816f7b75bffbf3abd72b0c04514de7e71cae5dfcf2300f61d1cdbf1345b7665", func := "babel/babellaw17.QemitChained", spec := "qemitChained", inPlace := ["internal/abi.NoEscape"], unfollowed := true, recurses := true, apart := false }
def QemitChainedSaid : Prop := qemitChainedRow.holds Tryz.pinned (OpenSpec.ofChange qemitChainedSpec)

/-- ITS FALSE NEIGHBOUR: 'it returns false'. Refute it at one input. -/
def qemitChainedWrong : ChangeSpec := { name := "qemitChained", fn := fun _ => fun
  | [d1, d2, d3] => { results := [.lit (.bool false)], args := [d1, d2, d3] }
  | _ => none }
def QemitChainedWrongFalsely : Prop := qemitChainedRow.holds Tryz.pinned (OpenSpec.ofChange qemitChainedWrong)

/-- 'babellaw17.QemitChains': WHATEVER THE INPUT: true; the input reads as it did. -/
def qemitChainsSpec : ChangeSpec := { name := "qemitChains", fn := fun _ => fun
  | [d1, d2] => { results := [.lit (.bool true)], args := [d1, d2] }
  | _ => none }
def qemitChainsRow : OpenClaim := { program := "ytocafomnnkmjfaagreat", sum := "2816f7b75bffbf3abd72b0c04514de7e71cae5dfcf2300f61d1cdbf1345b7665", func := "babel/babellaw17.QemitChains", spec := "qemitChains", inPlace := ["internal/abi.NoEscape"], unfollowed := true, recurses := true, apart := false }
def QemitChainsSaid : Prop := qemitChainsRow.holds Tryz.pinned (OpenSpec.ofChange qemitChainsSpec)

/-- ITS FALSE NEIGHBOUR: 'it returns false'. Refute it at one input. -/
def qemitChainsWrong : ChangeSpec := { name := "qemitChains", fn := fun _ => fun
  | [d1, d2] => { results := [.lit (.bool false)], args := [d1, d2] }
  | _ => none }
def QemitChainsWrongFalsely : Prop := qemitChainsRow.holds Tryz.pinned (OpenSpec.ofChange qemitChainsWrong)

/-- 'babellaw17.QemitLifted': WHATEVER THE INPUT: true; the input reads as it did. -/
def qemitLiftedSpec : ChangeSpec := { name := "qemitLifted", fn := fun _ => fun
  | [d1, d2, d3] => { results := [.lit (.bool true)], args := [d1, d2, d3] }
  | _ => none }
def qemitLiftedRow : OpenClaim := { program := "ytocafomnnkmjfaagreat", sum := "2816f7b75bffbf3abd72b0c04514de7e71cae5dfcf2300f61d1cdbf1345b7665", func := "babel/babellaw17.QemitLifted", spec := "qemitLifted", inPlace := ["internal/abi.NoEscape"], unfollowed := true, recurses := true, apart := false }
def QemitLiftedSaid : Prop := qemitLiftedRow.holds Tryz.pinned (OpenSpec.ofChange qemitLiftedSpec)

/-- ITS FALSE NEIGHBOUR: 'it returns false'. Refute it at one input. -/
def qemitLiftedWrong : ChangeSpec := { name := "qemitLifted", fn := fun _ => fun
  | [d1, d2, d3] => { results := [.lit (.bool false)], args := [d1, d2, d3] }
  | _ => none }
def QemitLiftedWrongFalsely : Prop := qemitLiftedRow.holds Tryz.pinned (OpenSpec.ofChange qemitLiftedWrong)

/- THE SECOND FORM. 'bulk': how many values and letters a reading holds, each counted each time it is reached (what is shared counts as often as it is met; a slice's spare places count too). A statement '..UptoSaid' is the law's where the arguments, and the package variables that the reading takes, are together of bulk at most 1048576: NARROWER than '..Said'. Prove '..Said' where nothing that the law and all that it calls make is longer than what came in: it says more and counts as full. Else prove '..UptoSaid'. A law counts once. -/
mutual
def uptoBulk {H : Type} : DataW H → Nat
  | .lit (.string bytes) => bytes.length + 1
  | .lit _ => 1
  | .nil => 1
  | .ptr d => uptoBulk d + 1
  | .slice elems spare => uptoBulkAll elems + uptoBulkAll spare + 1
  | .agg parts => uptoBulkAll parts + 1
  | .iface _ d => uptoBulk d + 1
  | .map entries => uptoBulkEntries entries + 1
  | .held _ => 1
def uptoBulkAll {H : Type} : List (DataW H) → Nat
  | [] => 0
  | d :: r => uptoBulk d + uptoBulkAll r
def uptoBulkEntries {H : Type} : List (Lit × DataW H) → Nat
  | [] => 0
  | x :: r => uptoBulkEntry x + uptoBulkEntries r
def uptoBulkEntry {H : Type} : Lit × DataW H → Nat
  | (.string bytes, d) => bytes.length + uptoBulk d + 1
  | (_, d) => uptoBulk d + 1
 end
def uptoSmall : (H : Type) → List (DataW H) → Bool := fun _ ds => decide (uptoBulkAll ds ≤ 1048576)
def OpenSpec.upto (s : _root_.Go.ChangeSpec) : _root_.Go.OpenSpec := { _root_.Go.OpenSpec.ofChange s with cond := some uptoSmall }

/-- 'babellaw17.QemitMeans', WHERE WHAT IT READS IS OF BULK AT MOST 1048576: true; the input reads as it did. -/
def qemitMeansUptoRow : OpenClaim := { program := "ytocafomnnkmjfaagreat", sum := "2816f7b75bffbf3abd72b0c04514de7e71cae5dfcf2300f61d1cdbf1345b7665", func := "babel/babellaw17.QemitMeans", spec := "qemitMeans", inPlace := ["internal/abi.NoEscape"], unfollowed := true, recurses := true, apart := false, narrowed := true }
def QemitMeansUptoSaid : Prop := qemitMeansUptoRow.holds Tryz.pinned (OpenSpec.upto qemitMeansSpec)

/-- 'babellaw17.QemitPlain', WHERE WHAT IT READS IS OF BULK AT MOST 1048576: true; the input reads as it did. -/
def qemitPlainUptoRow : OpenClaim := { program := "ytocafomnnkmjfaagreat", sum := "2816f7b75bffbf3abd72b0c04514de7e71cae5dfcf2300f61d1cdbf1345b7665", func := "babel/babellaw17.QemitPlain", spec := "qemitPlain", inPlace := ["internal/abi.NoEscape"], unfollowed := true, recurses := true, apart := false, narrowed := true }
def QemitPlainUptoSaid : Prop := qemitPlainUptoRow.holds Tryz.pinned (OpenSpec.upto qemitPlainSpec)

/-- 'babellaw17.QemitLimits', WHERE WHAT IT READS IS OF BULK AT MOST 1048576: true; the input reads as it did. -/
def qemitLimitsUptoRow : OpenClaim := { program := "ytocafomnnkmjfaagreat", sum := "2816f7b75bffbf3abd72b0c04514de7e71cae5dfcf2300f61d1cdbf1345b7665", func := "babel/babellaw17.QemitLimits", spec := "qemitLimits", inPlace := ["internal/abi.NoEscape"], unfollowed := true, recurses := true, apart := false, narrowed := true }
def QemitLimitsUptoSaid : Prop := qemitLimitsUptoRow.holds Tryz.pinned (OpenSpec.upto qemitLimitsSpec)

/-- 'babellaw17.QemitErrors', WHERE WHAT IT READS IS OF BULK AT MOST 1048576: true; the input reads as it did. -/
def qemitErrorsUptoRow : OpenClaim := { program := "ytocafomnnkmjfaagreat", sum := "2816f7b75bffbf3abd72b0c04514de7e71cae5dfcf2300f61d1cdbf1345b7665", func := "babel/babellaw17.QemitErrors", spec := "qemitErrors", inPlace := ["internal/abi.NoEscape"], unfollowed := true, recurses := true, apart := false, narrowed := true }
def QemitErrorsUptoSaid : Prop := qemitErrorsUptoRow.holds Tryz.pinned (OpenSpec.upto qemitErrorsSpec)

/-- 'babellaw17.QemitAccess', WHERE WHAT IT READS IS OF BULK AT MOST 1048576: true; the input reads as it did. -/
def qemitAccessUptoRow : OpenClaim := { program := "ytocafomnnkmjfaagreat", sum := "2816f7b75bffbf3abd72b0c04514de7e71cae5dfcf2300f61d1cdbf1345b7665", func := "babel/babellaw17.QemitAccess", spec := "qemitAccess", inPlace := ["internal/abi.NoEscape"], unfollowed := true, recurses := true, apart := false, narrowed := true }
def QemitAccessUptoSaid : Prop := qemitAccessUptoRow.holds Tryz.pinned (OpenSpec.upto qemitAccessSpec)

/-- 'babellaw17.QemitSites', WHERE WHAT IT READS IS OF BULK AT MOST 1048576: true; the input reads as it did. -/
def qemitSitesUptoRow : OpenClaim := { program := "ytocafomnnkmjfaagreat", sum := "2816f7b75bffbf3abd72b0c04514de7e71cae5dfcf2300f61d1cdbf1345b7665", func := "babel/babellaw17.QemitSites", spec := "qemitSites", inPlace := ["internal/abi.NoEscape"], unfollowed := true, recurses := true, apart := false, narrowed := true }
def QemitSitesUptoSaid : Prop := qemitSitesUptoRow.holds Tryz.pinned (OpenSpec.upto qemitSitesSpec)

/-- 'babellaw17.QemitPredicts', WHERE WHAT IT READS IS OF BULK AT MOST 1048576: true; the input reads as it did. -/
def qemitPredictsUptoRow : OpenClaim := { program := "ytocafomnnkmjfaagreat", sum := "2816f7b75bffbf3abd72b0c04514de7e71cae5dfcf2300f61d1cdbf1345b7665", func := "babel/babellaw17.QemitPredicts", spec := "qemitPredicts", inPlace := ["internal/abi.NoEscape"], unfollowed := true, recurses := true, apart := false, narrowed := true }
def QemitPredictsUptoSaid : Prop := qemitPredictsUptoRow.holds Tryz.pinned (OpenSpec.upto qemitPredictsSpec)

/-- 'babellaw17.QemitChained', WHERE WHAT IT READS IS OF BULK AT MOST 1048576: true; the input reads as it did. -/
def qemitChainedUptoRow : OpenClaim := { program := "ytocafomnnkmjfaagreat", sum := "2816f7b75bffbf3abd72b0c04514de7e71cae5dfcf2300f61d1cdbf1345b7665", func := "babel/babellaw17.QemitChained", spec := "qemitChained", inPlace := ["internal/abi.NoEscape"], unfollowed := true, recurses := true, apart := false, narrowed := true }
def QemitChainedUptoSaid : Prop := qemitChainedUptoRow.holds Tryz.pinned (OpenSpec.upto qemitChainedSpec)

/-- 'babellaw17.QemitChains', WHERE WHAT IT READS IS OF BULK AT MOST 1048576: true; the input reads as it did. -/
def qemitChainsUptoRow : OpenClaim := { program := "ytocafomnnkmjfaagreat", sum := "2816f7b75bffbf3abd72b0c04514de7e71cae5dfcf2300f61d1cdbf1345b7665", func := "babel/babellaw17.QemitChains", spec := "qemitChains", inPlace := ["internal/abi.NoEscape"], unfollowed := true, recurses := true, apart := false, narrowed := true }
def QemitChainsUptoSaid : Prop := qemitChainsUptoRow.holds Tryz.pinned (OpenSpec.upto qemitChainsSpec)

/-- 'babellaw17.QemitLifted', WHERE WHAT IT READS IS OF BULK AT MOST 1048576: true; the input reads as it did. -/
def qemitLiftedUptoRow : OpenClaim := { program := "ytocafomnnkmjfaagreat", sum := "2816f7b75bffbf3abd72b0c04514de7e71cae5dfcf2300f61d1cdbf1345b7665", func := "babel/babellaw17.QemitLifted", spec := "qemitLifted", inPlace := ["internal/abi.NoEscape"], unfollowed := true, recurses := true, apart := false, narrowed := true }
def QemitLiftedUptoSaid : Prop := qemitLiftedUptoRow.holds Tryz.pinned (OpenSpec.upto qemitLiftedSpec)

end Rows
end Go.Proofs.YtocafomnnkmjfaaGreat
