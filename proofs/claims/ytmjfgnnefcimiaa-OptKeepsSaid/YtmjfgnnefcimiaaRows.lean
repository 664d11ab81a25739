/-
  No cell of these rows narrows 'for every input' (looked for: loops, veiled, ifaces, maps, wideKeys, modest, calm, conditions, laid).
  DERIVED. THE GIVEN ROWS OF THIS SEAT. 11 by the template 'for every input the law returns true; each argument reads behind the call as it read before'; 0 by the template 'total and deterministic' (their statements: YtmjfgnnefcimiaaTotals.lean).
  GIVEN WITH THE SEED: the statements are not yours to turn. If you find one false, say at which input.
  Laid BY PROGRAM, IN A SANDBOX (cutbox-rows.mjs): the forced cells as the released guide's own fill.sh prints them over the translation cb756272caa50c1f… (all of the seat's roots in one cut). By AI agents, Wed Nov 11 2026. No macro, syntax, notation, axiom, sorry.
-/
import Derived.Test.YtmjfgnnefcimiaaChecked
import GoSem.Claim
import GoSem.ClaimJoined
import GoSem.ClaimMapViews
import Derived.JoinedTies
import Derived.KernelRfl
namespace Go.Proofs.Ytmjfgnnefcimiaa
/- THE CELL 'sum', in the pinned program and in every row, IS THE sha256 OF THE DUMP (.gsa) THAT YtmjfgnnefcimiaaProg.lean LOADS. Nothing in Lean hashes anything: it is a label: what it is worth is what the hold of that sum in a sandbox is worth. -/
noncomputable def Try.pinned : Pinned := { name := "ytmjfgnnefcimiaa", sum := "cb756272caa50c1f5e821322e701b447a6391561978d2b269265767eb2130951", checked := Try.checked }
namespace Rows
def none {H : Type} : Left H := { results := [], args := [] }

/-- 'babellaw15.OptFolds': WHATEVER THE INPUT: true; the input reads as it did. -/
def optFoldsSpec : ChangeSpec := { name := "optFolds", fn := fun _ => fun
  | [d1, d2] => { results := [.lit (.bool true)], args := [d1, d2] }
  | _ => none }
def optFoldsRow : OpenClaim := { program := "ytmjfgnnefcimiaa", sum := "cb756272caa50c1f5e821322e701b447a6391561978d2b269265767eb2130951", func := "babel/babellaw15.OptFolds", spec := "optFolds", unfollowed := true, recurses := true, apart := false }
def OptFoldsSaid : Prop := optFoldsRow.holds Try.pinned (OpenSpec.ofChange optFoldsSpec)

/-- ITS FALSE NEIGHBOUR: 'it returns false'. Refute it at one input. -/
def optFoldsWrong : ChangeSpec := { name := "optFolds", fn := fun _ => fun
  | [d1, d2] => { results := [.lit (.bool false)], args := [d1, d2] }
  | _ => none }
def OptFoldsWrongFalsely : Prop := optFoldsRow.holds Try.pinned (OpenSpec.ofChange optFoldsWrong)

/-- 'babellaw15.OptCopies': WHATEVER THE INPUT: true; the input reads as it did. -/
def optCopiesSpec : ChangeSpec := { name := "optCopies", fn := fun _ => fun
  | [d1, d2] => { results := [.lit (.bool true)], args := [d1, d2] }
  | _ => none }
def optCopiesRow : OpenClaim := { program := "ytmjfgnnefcimiaa", sum := "cb756272caa50c1f5e821322e701b447a6391561978d2b269265767eb2130951", func := "babel/babellaw15.OptCopies", spec := "optCopies", unfollowed := true, recurses := true, apart := false }
def OptCopiesSaid : Prop := optCopiesRow.holds Try.pinned (OpenSpec.ofChange optCopiesSpec)

/-- ITS FALSE NEIGHBOUR: 'it returns false'. Refute it at one input. -/
def optCopiesWrong : ChangeSpec := { name := "optCopies", fn := fun _ => fun
  | [d1, d2] => { results := [.lit (.bool false)], args := [d1, d2] }
  | _ => none }
def OptCopiesWrongFalsely : Prop := optCopiesRow.holds Try.pinned (OpenSpec.ofChange optCopiesWrong)

/-- 'babellaw15.OptDead': WHATEVER THE INPUT: true; the input reads as it did. -/
def optDeadSpec : ChangeSpec := { name := "optDead", fn := fun _ => fun
  | [d1, d2] => { results := [.lit (.bool true)], args := [d1, d2] }
  | _ => none }
def optDeadRow : OpenClaim := { program := "ytmjfgnnefcimiaa", sum := "cb756272caa50c1f5e821322e701b447a6391561978d2b269265767eb2130951", func := "babel/babellaw15.OptDead", spec := "optDead", unfollowed := true, recurses := true, apart := false }
def OptDeadSaid : Prop := optDeadRow.holds Try.pinned (OpenSpec.ofChange optDeadSpec)

/-- ITS FALSE NEIGHBOUR: 'it returns false'. Refute it at one input. -/
def optDeadWrong : ChangeSpec := { name := "optDead", fn := fun _ => fun
  | [d1, d2] => { results := [.lit (.bool false)], args := [d1, d2] }
  | _ => none }
def OptDeadWrongFalsely : Prop := optDeadRow.holds Try.pinned (OpenSpec.ofChange optDeadWrong)

/-- 'babellaw15.OptEquivalent': WHATEVER THE INPUT: true; the input reads as it did. -/
def optEquivalentSpec : ChangeSpec := { name := "optEquivalent", fn := fun _ => fun
  | [d1, d2, d3] => { results := [.lit (.bool true)], args := [d1, d2, d3] }
  | _ => none }
def optEquivalentRow : OpenClaim := { program := "ytmjfgnnefcimiaa", sum := "cb756272caa50c1f5e821322e701b447a6391561978d2b269265767eb2130951", func := "babel/babellaw15.OptEquivalent", spec := "optEquivalent", unfollowed := true, recurses := true, apart := false }
def OptEquivalentSaid : Prop := optEquivalentRow.holds Try.pinned (OpenSpec.ofChange optEquivalentSpec)

/-- ITS FALSE NEIGHBOUR: 'it returns false'. Refute it at one input. -/
def optEquivalentWrong : ChangeSpec := { name := "optEquivalent", fn := fun _ => fun
  | [d1, d2, d3] => { results := [.lit (.bool false)], args := [d1, d2, d3] }
  | _ => none }
def OptEquivalentWrongFalsely : Prop := optEquivalentRow.holds Try.pinned (OpenSpec.ofChange optEquivalentWrong)

/-- 'babellaw15.OptFolded': WHATEVER THE INPUT: true; the input reads as it did. -/
def optFoldedSpec : ChangeSpec := { name := "optFolded", fn := fun _ => fun
  | [d1, d2] => { results := [.lit (.bool true)], args := [d1, d2] }
  | _ => none }
def optFoldedRow : OpenClaim := { program := "ytmjfgnnefcimiaa", sum := "cb756272caa50c1f5e821322e701b447a6391561978d2b269265767eb2130951", func := "babel/babellaw15.OptFolded", spec := "optFolded", unfollowed := true, recurses := true, apart := false }
def OptFoldedSaid : Prop := optFoldedRow.holds Try.pinned (OpenSpec.ofChange optFoldedSpec)

/-- ITS FALSE NEIGHBOUR: 'it returns false'. Refute it at one input. -/
def optFoldedWrong : ChangeSpec := { name := "optFolded", fn := fun _ => fun
  | [d1, d2] => { results := [.lit (.bool false)], args := [d1, d2] }
  | _ => none }
def OptFoldedWrongFalsely : Prop := optFoldedRow.holds Try.pinned (OpenSpec.ofChange optFoldedWrong)

/-- 'babellaw15.OptCopied': WHATEVER THE INPUT: true; the input reads as it did. -/
def optCopiedSpec : ChangeSpec := { name := "optCopied", fn := fun _ => fun
  | [d1, d2] => { results := [.lit (.bool true)], args := [d1, d2] }
  | _ => none }
def optCopiedRow : OpenClaim := { program := "ytmjfgnnefcimiaa", sum := "cb756272caa50c1f5e821322e701b447a6391561978d2b269265767eb2130951", func := "babel/babellaw15.OptCopied", spec := "optCopied", unfollowed := true, recurses := true, apart := false }
def OptCopiedSaid : Prop := optCopiedRow.holds Try.pinned (OpenSpec.ofChange optCopiedSpec)

/-- ITS FALSE NEIGHBOUR: 'it returns false'. Refute it at one input. -/
def optCopiedWrong : ChangeSpec := { name := "optCopied", fn := fun _ => fun
  | [d1, d2] => { results := [.lit (.bool false)], args := [d1, d2] }
  | _ => none }
def OptCopiedWrongFalsely : Prop := optCopiedRow.holds Try.pinned (OpenSpec.ofChange optCopiedWrong)

/-- 'babellaw15.OptNeeded': WHATEVER THE INPUT: true; the input reads as it did. -/
def optNeededSpec : ChangeSpec := { name := "optNeeded", fn := fun _ => fun
  | [d1, d2] => { results := [.lit (.bool true)], args := [d1, d2] }
  | _ => none }
def optNeededRow : OpenClaim := { program := "ytmjfgnnefcimiaa", sum := "cb756272caa50c1f5e821322e701b447a6391561978d2b269265767eb2130951", func := "babel/babellaw15.OptNeeded", spec := "optNeeded", unfollowed := true, recurses := true, apart := false }
def OptNeededSaid : Prop := optNeededRow.holds Try.pinned (OpenSpec.ofChange optNeededSpec)

/-- ITS FALSE NEIGHBOUR: 'it returns false'. Refute it at one input. -/
def optNeededWrong : ChangeSpec := { name := "optNeeded", fn := fun _ => fun
  | [d1, d2] => { results := [.lit (.bool false)], args := [d1, d2] }
  | _ => none }
def OptNeededWrongFalsely : Prop := optNeededRow.holds Try.pinned (OpenSpec.ofChange optNeededWrong)

/-- 'babellaw15.OptFixed': WHATEVER THE INPUT: true; the input reads as it did. -/
def optFixedSpec : ChangeSpec := { name := "optFixed", fn := fun _ => fun
  | [d1, d2] => { results := [.lit (.bool true)], args := [d1, d2] }
  | _ => none }
def optFixedRow : OpenClaim := { program := "ytmjfgnnefcimiaa", sum := "cb756272caa50c1f5e821322e701b447a6391561978d2b269265767eb2130951", func := "babel/babellaw15.OptFixed", spec := "optFixed", unfollowed := true, recurses := true, apart := false }
def OptFixedSaid : Prop := optFixedRow.holds Try.pinned (OpenSpec.ofChange optFixedSpec)

/-- ITS FALSE NEIGHBOUR: 'it returns false'. Refute it at one input. -/
def optFixedWrong : ChangeSpec := { name := "optFixed", fn := fun _ => fun
  | [d1, d2] => { results := [.lit (.bool false)], args := [d1, d2] }
  | _ => none }
def OptFixedWrongFalsely : Prop := optFixedRow.holds Try.pinned (OpenSpec.ofChange optFixedWrong)

/-- 'babellaw15.OptLive': WHATEVER THE INPUT: true; the input reads as it did. -/
def optLiveSpec : ChangeSpec := { name := "optLive", fn := fun _ => fun
  | [d1, d2] => { results := [.lit (.bool true)], args := [d1, d2] }
  | _ => none }
def optLiveRow : OpenClaim := { program := "ytmjfgnnefcimiaa", sum := "cb756272caa50c1f5e821322e701b447a6391561978d2b269265767eb2130951", func := "babel/babellaw15.OptLive", spec := "optLive", unfollowed := true, recurses := true, apart := false }
def OptLiveSaid : Prop := optLiveRow.holds Try.pinned (OpenSpec.ofChange optLiveSpec)

/-- ITS FALSE NEIGHBOUR: 'it returns false'. Refute it at one input. -/
def optLiveWrong : ChangeSpec := { name := "optLive", fn := fun _ => fun
  | [d1, d2] => { results := [.lit (.bool false)], args := [d1, d2] }
  | _ => none }
def OptLiveWrongFalsely : Prop := optLiveRow.holds Try.pinned (OpenSpec.ofChange optLiveWrong)

/-- 'babellaw15.OptUnused': WHATEVER THE INPUT: true; the input reads as it did. -/
def optUnusedSpec : ChangeSpec := { name := "optUnused", fn := fun _ => fun
  | [d1, d2, d3] => { results := [.lit (.bool true)], args := [d1, d2, d3] }
  | _ => none }
def optUnusedRow : OpenClaim := { program := "ytmjfgnnefcimiaa", sum := "cb756272caa50c1f5e821322e701b447a6391561978d2b269265767eb2130951", func := "babel/babellaw15.OptUnused", spec := "optUnused", unfollowed := true, recurses := true, apart := false }
def OptUnusedSaid : Prop := optUnusedRow.holds Try.pinned (OpenSpec.ofChange optUnusedSpec)

/-- ITS FALSE NEIGHBOUR: 'it returns false'. Refute it at one input. -/
def optUnusedWrong : ChangeSpec := { name := "optUnused", fn := fun _ => fun
  | [d1, d2, d3] => { results := [.lit (.bool false)], args := [d1, d2, d3] }
  | _ => none }
def OptUnusedWrongFalsely : Prop := optUnusedRow.holds Try.pinned (OpenSpec.ofChange optUnusedWrong)

/-- 'babellaw15.OptKeeps': WHATEVER THE INPUT: true; the input reads as it did. -/
def optKeepsSpec : ChangeSpec := { name := "optKeeps", fn := fun _ => fun
  | [d1, d2] => { results := [.lit (.bool true)], args := [d1, d2] }
  | _ => none }
def optKeepsRow : OpenClaim := { program := "ytmjfgnnefcimiaa", sum := "cb756272caa50c1f5e821322e701b447a6391561978d2b269265767eb2130951", func := "babel/babellaw15.OptKeeps", spec := "optKeeps", unfollowed := true, recurses := true, apart := false }
def OptKeepsSaid : Prop := optKeepsRow.holds Try.pinned (OpenSpec.ofChange optKeepsSpec)

/-- ITS FALSE NEIGHBOUR: 'it returns false'. Refute it at one input. -/
def optKeepsWrong : ChangeSpec := { name := "optKeeps", fn := fun _ => fun
  | [d1, d2] => { results := [.lit (.bool false)], args := [d1, d2] }
  | _ => none }
def OptKeepsWrongFalsely : Prop := optKeepsRow.holds Try.pinned (OpenSpec.ofChange optKeepsWrong)

/- THE SECOND FORM. 'bulk': how many values and letters a reading holds, each counted each time it is reached (what is shared counts as often as it is met; a slice's spare places count too). A statement '..UptoSaid' is the law's where the arguments, and the package variables that the reading takes, are together of bulk at most 1048576: NARROWER than '..Said'. Prove '..Said' where nothing that the law and all that it calls make is longer than what came in: it says more and counts as full. Else prove '..UptoSaid'. A law counts once. -/
mutual
def uptoBulk {H : Type} : DataW H → Nat
  | .lit (.string bytes) => bytes.length + 1
  | .lit _ => 1
  | .nil => 1
  | .ptr d => uptoBulk d + 1
  | .slice elems spare => uptoBulkAll elems + uptoBulkAll spare + 1
  | .agg parts => uptoBulkAll parts + 1
  | .iface _ d => uptoBulk d + 1
  | .map entries => uptoBulkEntries entries + 1
  | .held _ => 1
def uptoBulkAll {H : Type} : List (DataW H) → Nat
  | [] => 0
  | d :: r => uptoBulk d + uptoBulkAll r
def uptoBulkEntries {H : Type} : List (Lit × DataW H) → Nat
  | [] => 0
  | x :: r => uptoBulkEntry x + uptoBulkEntries r
def uptoBulkEntry {H : Type} : Lit × DataW H → Nat
  | (.string bytes, d) => bytes.length + uptoBulk d + 1
  | (_, d) => uptoBulk d + 1
 end
def uptoSmall : (H : Type) → List (DataW H) → Bool := fun _ ds => decide (uptoBulkAll ds ≤ 1048576)
def OpenSpec.upto (s : _root_.Go.ChangeSpec) : _root_.Go.OpenSpec := { _root_.Go.OpenSpec.ofChange s with cond := some uptoSmall }

/-- 'babellaw15.OptFolds', WHERE WHAT IT READS IS OF BULK AT MOST 1048576: true; the input reads as it did. -/
def optFoldsUptoRow : OpenClaim := { program := "ytmjfgnnefcimiaa", sum := "cb756272caa50c1f5e821322e701b447a6391561978d2b269265767eb2130951", func := "babel/babellaw15.OptFolds", spec := "optFolds", unfollowed := true, recurses := true, apart := false, narrowed := true }
def OptFoldsUptoSaid : Prop := optFoldsUptoRow.holds Try.pinned (OpenSpec.upto optFoldsSpec)

/-- 'babellaw15.OptCopies', WHERE WHAT IT READS IS OF BULK AT MOST 1048576: true; the input reads as it did. -/
def optCopiesUptoRow : OpenClaim := { program := "ytmjfgnnefcimiaa", sum := "cb756272caa50c1f5e821322e701b447a6391561978d2b269265767eb2130951", func := "babel/babellaw15.OptCopies", spec := "optCopies", unfollowed := true, recurses := true, apart := false, narrowed := true }
def OptCopiesUptoSaid : Prop := optCopiesUptoRow.holds Try.pinned (OpenSpec.upto optCopiesSpec)

/-- 'babellaw15.OptDead', WHERE WHAT IT READS IS OF BULK AT MOST 1048576: true; the input reads as it did. -/
def optDeadUptoRow : OpenClaim := { program := "ytmjfgnnefcimiaa", sum := "cb756272caa50c1f5e821322e701b447a6391561978d2b269265767eb2130951", func := "babel/babellaw15.OptDead", spec := "optDead", unfollowed := true, recurses := true, apart := false, narrowed := true }
def OptDeadUptoSaid : Prop := optDeadUptoRow.holds Try.pinned (OpenSpec.upto optDeadSpec)

/-- 'babellaw15.OptEquivalent', WHERE WHAT IT READS IS OF BULK AT MOST 1048576: true; the input reads as it did. -/
def optEquivalentUptoRow : OpenClaim := { program := "ytmjfgnnefcimiaa", sum := "cb756272caa50c1f5e821322e701b447a6391561978d2b269265767eb2130951", func := "babel/babellaw15.OptEquivalent", spec := "optEquivalent", unfollowed := true, recurses := true, apart := false, narrowed := true }
def OptEquivalentUptoSaid : Prop := optEquivalentUptoRow.holds Try.pinned (OpenSpec.upto optEquivalentSpec)

/-- 'babellaw15.OptFolded', WHERE WHAT IT READS IS OF BULK AT MOST 1048576: true; the input reads as it did. -/
def optFoldedUptoRow : OpenClaim := { program := "ytmjfgnnefcimiaa", sum := "cb756272caa50c1f5e821322e701b447a6391561978d2b269265767eb2130951", func := "babel/babellaw15.OptFolded", spec := "optFolded", unfollowed := true, recurses := true, apart := false, narrowed := true }
def OptFoldedUptoSaid : Prop := optFoldedUptoRow.holds Try.pinned (OpenSpec.upto optFoldedSpec)

/-- 'babellaw15.OptCopied', WHERE WHAT IT READS IS OF BULK AT MOST 1048576: true; the input reads as it did. -/
def optCopiedUptoRow : OpenClaim := { program := "ytmjfgnnefcimiaa", sum := "cb756272caa50c1f5e821322e701b447a6391561978d2b269265767eb2130951", func := "babel/babellaw15.OptCopied", spec := "optCopied", unfollowed := true, recurses := true, apart := false, narrowed := true }
def OptCopiedUptoSaid : Prop := optCopiedUptoRow.holds Try.pinned (OpenSpec.upto optCopiedSpec)

/-- 'babellaw15.OptNeeded', WHERE WHAT IT READS IS OF BULK AT MOST 1048576: true; the input reads as it did. -/
def optNeededUptoRow : OpenClaim := { program := "ytmjfgnnefcimiaa", sum := "cb756272caa50c1f5e821322e701b447a6391561978d2b269265767eb2130951", func := "babel/babellaw15.OptNeeded", spec := "optNeeded", unfollowed := true, recurses := true, apart := false, narrowed := true }
def OptNeededUptoSaid : Prop := optNeededUptoRow.holds Try.pinned (OpenSpec.upto optNeededSpec)

/-- 'babellaw15.OptFixed', WHERE WHAT IT READS IS OF BULK AT MOST 1048576: true; the input reads as it did. -/
def optFixedUptoRow : OpenClaim := { program := "ytmjfgnnefcimiaa", sum := "cb756272caa50c1f5e821322e701b447a6391561978d2b269265767eb2130951", func := "babel/babellaw15.OptFixed", spec := "optFixed", unfollowed := true, recurses := true, apart := false, narrowed := true }
def OptFixedUptoSaid : Prop := optFixedUptoRow.holds Try.pinned (OpenSpec.upto optFixedSpec)

/-- 'babellaw15.OptLive', WHERE WHAT IT READS IS OF BULK AT MOST 1048576: true; the input reads as it did. -/
def optLiveUptoRow : OpenClaim := { program := "ytmjfgnnefcimiaa", sum := "cb756272caa50c1f5e821322e701b447a6391561978d2b269265767eb2130951", func := "babel/babellaw15.OptLive", spec := "optLive", unfollowed := true, recurses := true, apart := false, narrowed := true }
def OptLiveUptoSaid : Prop := optLiveUptoRow.holds Try.pinned (OpenSpec.upto optLiveSpec)

/-- 'babellaw15.OptUnused', WHERE WHAT IT READS IS OF BULK AT MOST 1048576: true; the input reads as it did. -/
def optUnusedUptoRow : OpenClaim := { program := "ytmjfgnnefcimiaa", sum := "cb756272caa50c1f5e821322e701b447a6391561978d2b269265767eb2130951", func := "babel/babellaw15.OptUnused", spec := "optUnused", unfollowed := true, recurses := true, apart := false, narrowed := true }
def OptUnusedUptoSaid : Prop := optUnusedUptoRow.holds Try.pinned (OpenSpec.upto optUnusedSpec)

/-- 'babellaw15.OptKeeps', WHERE WHAT IT READS IS OF BULK AT MOST 1048576: true; the input reads as it did. -/
def optKeepsUptoRow : OpenClaim := { program := "ytmjfgnnefcimiaa", sum := "cb756272caa50c1f5e821322e701b447a6391561978d2b269265767eb2130951", func := "babel/babellaw15.OptKeeps", spec := "optKeeps", unfollowed := true, recurses := true, apart := false, narrowed := true }
def OptKeepsUptoSaid : Prop := optKeepsUptoRow.holds Try.pinned (OpenSpec.upto optKeepsSpec)

end Rows
end Go.Proofs.Ytmjfgnnefcimiaa
