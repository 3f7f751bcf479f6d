/-
  No cell of these rows narrows 'for every input' (looked for: loops, veiled, ifaces, maps, wideKeys, modest, calm, conditions, laid).
  DERIVED. THE GIVEN ROWS OF THIS SEAT. 8 by the template 'for every input the law returns true; each argument reads behind the call as it read before'; 0 by the template 'total and deterministic' (their statements: YtdhlikjdcnfkpaaTotals.lean).
  GIVEN WITH THE SEED: the statements are not yours to turn. If you find one false, say at which input.
  Laid BY PROGRAM, IN A SANDBOX (cutbox-rows.mjs): the forced cells as the released guide's own fill.sh prints them over the translation e5f38fb9ce9d8df2… (all of the seat's roots in one cut). By AI agents, Wed Nov 11 2026. No macro, syntax, notation, axiom, sorry.
-/
import Derived.Test.YtdhlikjdcnfkpaaChecked
import GoSem.Claim
import GoSem.ClaimJoined
import GoSem.ClaimMapViews
import Derived.JoinedTies
import Derived.KernelRfl
namespace Go.Proofs.Ytdhlikjdcnfkpaa
/- THE CELL 'sum', in the pinned program and in every row, IS THE sha256 OF THE DUMP (.gsa) THAT YtdhlikjdcnfkpaaProg.lean LOADS. Nothing in Lean hashes anything: it is a label: what it is worth is what the hold of that sum in a sandbox is worth. -/
noncomputable def Try.pinned : Pinned := { name := "ytdhlikjdcnfkpaa", sum := "e5f38fb9ce9d8df261ccbeaac57804c048c7eb9d9c5e7751e953a12a79d41254", checked := Try.checked }
namespace Rows
def none {H : Type} : Left H := { results := [], args := [] }

/-- 'tegulalaw26.SumtreePath': WHATEVER THE INPUT: true; the input reads as it did. -/
def sumtreePathSpec : ChangeSpec := { name := "sumtreePath", fn := fun _ => fun
  | [d1, d2] => { results := [.lit (.bool true)], args := [d1, d2] }
  | _ => none }
def sumtreePathRow : OpenClaim := { program := "ytdhlikjdcnfkpaa", sum := "e5f38fb9ce9d8df261ccbeaac57804c048c7eb9d9c5e7751e953a12a79d41254", func := "tegula/tegulalaw26.SumtreePath", spec := "sumtreePath", unfollowed := true, recurses := true, apart := false }
def SumtreePathSaid : Prop := sumtreePathRow.holds Try.pinned (OpenSpec.ofChange sumtreePathSpec)

/-- ITS FALSE NEIGHBOUR: 'it returns false'. Refute it at one input. -/
def sumtreePathWrong : ChangeSpec := { name := "sumtreePath", fn := fun _ => fun
  | [d1, d2] => { results := [.lit (.bool false)], args := [d1, d2] }
  | _ => none }
def SumtreePathWrongFalsely : Prop := sumtreePathRow.holds Try.pinned (OpenSpec.ofChange sumtreePathWrong)

/-- 'tegulalaw26.SumtreeCheck': WHATEVER THE INPUT: true; the input reads as it did. -/
def sumtreeCheckSpec : ChangeSpec := { name := "sumtreeCheck", fn := fun _ => fun
  | [d] => { results := [.lit (.bool true)], args := [d] }
  | _ => none }
def sumtreeCheckRow : OpenClaim := { program := "ytdhlikjdcnfkpaa", sum := "e5f38fb9ce9d8df261ccbeaac57804c048c7eb9d9c5e7751e953a12a79d41254", func := "tegula/tegulalaw26.SumtreeCheck", spec := "sumtreeCheck", unfollowed := true, recurses := true, apart := false }
def SumtreeCheckSaid : Prop := sumtreeCheckRow.holds Try.pinned (OpenSpec.ofChange sumtreeCheckSpec)

/-- ITS FALSE NEIGHBOUR: 'it returns false'. Refute it at one input. -/
def sumtreeCheckWrong : ChangeSpec := { name := "sumtreeCheck", fn := fun _ => fun
  | [d] => { results := [.lit (.bool false)], args := [d] }
  | _ => none }
def SumtreeCheckWrongFalsely : Prop := sumtreeCheckRow.holds Try.pinned (OpenSpec.ofChange sumtreeCheckWrong)

/-- 'tegulalaw26.SumtreeProves': WHATEVER THE INPUT: true; the input reads as it did. -/
def sumtreeProvesSpec : ChangeSpec := { name := "sumtreeProves", fn := fun _ => fun
  | [d1, d2, d3] => { results := [.lit (.bool true)], args := [d1, d2, d3] }
  | _ => none }
def sumtreeProvesRow : OpenClaim := { program := "ytdhlikjdcnfkpaa", sum := "e5f38fb9ce9d8df261ccbeaac57804c048c7eb9d9c5e7751e953a12a79d41254", func := "tegula/tegulalaw26.SumtreeProves", spec := "sumtreeProves", unfollowed := true, recurses := true, apart := false }
def SumtreeProvesSaid : Prop := sumtreeProvesRow.holds Try.pinned (OpenSpec.ofChange sumtreeProvesSpec)

/-- ITS FALSE NEIGHBOUR: 'it returns false'. Refute it at one input. -/
def sumtreeProvesWrong : ChangeSpec := { name := "sumtreeProves", fn := fun _ => fun
  | [d1, d2, d3] => { results := [.lit (.bool false)], args := [d1, d2, d3] }
  | _ => none }
def SumtreeProvesWrongFalsely : Prop := sumtreeProvesRow.holds Try.pinned (OpenSpec.ofChange sumtreeProvesWrong)

/-- 'tegulalaw26.SumtreeBuild': WHATEVER THE INPUT: true; the input reads as it did. -/
def sumtreeBuildSpec : ChangeSpec := { name := "sumtreeBuild", fn := fun _ => fun
  | [d] => { results := [.lit (.bool true)], args := [d] }
  | _ => none }
def sumtreeBuildRow : OpenClaim := { program := "ytdhlikjdcnfkpaa", sum := "e5f38fb9ce9d8df261ccbeaac57804c048c7eb9d9c5e7751e953a12a79d41254", func := "tegula/tegulalaw26.SumtreeBuild", spec := "sumtreeBuild", unfollowed := true, recurses := true, apart := false }
def SumtreeBuildSaid : Prop := sumtreeBuildRow.holds Try.pinned (OpenSpec.ofChange sumtreeBuildSpec)

/-- ITS FALSE NEIGHBOUR: 'it returns false'. Refute it at one input. -/
def sumtreeBuildWrong : ChangeSpec := { name := "sumtreeBuild", fn := fun _ => fun
  | [d] => { results := [.lit (.bool false)], args := [d] }
  | _ => none }
def SumtreeBuildWrongFalsely : Prop := sumtreeBuildRow.holds Try.pinned (OpenSpec.ofChange sumtreeBuildWrong)

/-- 'tegulalaw26.SumtreeDiff': WHATEVER THE INPUT: true; the input reads as it did. -/
def sumtreeDiffSpec : ChangeSpec := { name := "sumtreeDiff", fn := fun _ => fun
  | [d1, d2] => { results := [.lit (.bool true)], args := [d1, d2] }
  | _ => none }
def sumtreeDiffRow : OpenClaim := { program := "ytdhlikjdcnfkpaa", sum := "e5f38fb9ce9d8df261ccbeaac57804c048c7eb9d9c5e7751e953a12a79d41254", func := "tegula/tegulalaw26.SumtreeDiff", spec := "sumtreeDiff", unfollowed := true, recurses := true, apart := false }
def SumtreeDiffSaid : Prop := sumtreeDiffRow.holds Try.pinned (OpenSpec.ofChange sumtreeDiffSpec)

/-- ITS FALSE NEIGHBOUR: 'it returns false'. Refute it at one input. -/
def sumtreeDiffWrong : ChangeSpec := { name := "sumtreeDiff", fn := fun _ => fun
  | [d1, d2] => { results := [.lit (.bool false)], args := [d1, d2] }
  | _ => none }
def SumtreeDiffWrongFalsely : Prop := sumtreeDiffRow.holds Try.pinned (OpenSpec.ofChange sumtreeDiffWrong)

/-- 'tegulalaw26.SumtreeSet': WHATEVER THE INPUT: true; the input reads as it did. -/
def sumtreeSetSpec : ChangeSpec := { name := "sumtreeSet", fn := fun _ => fun
  | [d1, d2, d3] => { results := [.lit (.bool true)], args := [d1, d2, d3] }
  | _ => none }
def sumtreeSetRow : OpenClaim := { program := "ytdhlikjdcnfkpaa", sum := "e5f38fb9ce9d8df261ccbeaac57804c048c7eb9d9c5e7751e953a12a79d41254", func := "tegula/tegulalaw26.SumtreeSet", spec := "sumtreeSet", unfollowed := true, recurses := true, apart := false }
def SumtreeSetSaid : Prop := sumtreeSetRow.holds Try.pinned (OpenSpec.ofChange sumtreeSetSpec)

/-- ITS FALSE NEIGHBOUR: 'it returns false'. Refute it at one input. -/
def sumtreeSetWrong : ChangeSpec := { name := "sumtreeSet", fn := fun _ => fun
  | [d1, d2, d3] => { results := [.lit (.bool false)], args := [d1, d2, d3] }
  | _ => none }
def SumtreeSetWrongFalsely : Prop := sumtreeSetRow.holds Try.pinned (OpenSpec.ofChange sumtreeSetWrong)

/-- 'tegulalaw26.SumtreeSteps': WHATEVER THE INPUT: true; the input reads as it did. -/
def sumtreeStepsSpec : ChangeSpec := { name := "sumtreeSteps", fn := fun _ => fun
  | [d1, d2] => { results := [.lit (.bool true)], args := [d1, d2] }
  | _ => none }
def sumtreeStepsRow : OpenClaim := { program := "ytdhlikjdcnfkpaa", sum := "e5f38fb9ce9d8df261ccbeaac57804c048c7eb9d9c5e7751e953a12a79d41254", func := "tegula/tegulalaw26.SumtreeSteps", spec := "sumtreeSteps", unfollowed := true, recurses := true, apart := false }
def SumtreeStepsSaid : Prop := sumtreeStepsRow.holds Try.pinned (OpenSpec.ofChange sumtreeStepsSpec)

/-- ITS FALSE NEIGHBOUR: 'it returns false'. Refute it at one input. -/
def sumtreeStepsWrong : ChangeSpec := { name := "sumtreeSteps", fn := fun _ => fun
  | [d1, d2] => { results := [.lit (.bool false)], args := [d1, d2] }
  | _ => none }
def SumtreeStepsWrongFalsely : Prop := sumtreeStepsRow.holds Try.pinned (OpenSpec.ofChange sumtreeStepsWrong)

/-- 'tegulalaw26.SumtreeShares': WHATEVER THE INPUT: true; the input reads as it did. -/
def sumtreeSharesSpec : ChangeSpec := { name := "sumtreeShares", fn := fun _ => fun
  | [d1, d2, d3] => { results := [.lit (.bool true)], args := [d1, d2, d3] }
  | _ => none }
def sumtreeSharesRow : OpenClaim := { program := "ytdhlikjdcnfkpaa", sum := "e5f38fb9ce9d8df261ccbeaac57804c048c7eb9d9c5e7751e953a12a79d41254", func := "tegula/tegulalaw26.SumtreeShares", spec := "sumtreeShares", unfollowed := true, recurses := true, apart := false }
def SumtreeSharesSaid : Prop := sumtreeSharesRow.holds Try.pinned (OpenSpec.ofChange sumtreeSharesSpec)

/-- ITS FALSE NEIGHBOUR: 'it returns false'. Refute it at one input. -/
def sumtreeSharesWrong : ChangeSpec := { name := "sumtreeShares", fn := fun _ => fun
  | [d1, d2, d3] => { results := [.lit (.bool false)], args := [d1, d2, d3] }
  | _ => none }
def SumtreeSharesWrongFalsely : Prop := sumtreeSharesRow.holds Try.pinned (OpenSpec.ofChange sumtreeSharesWrong)

/- THE SECOND FORM. 'bulk': how many values and letters a reading holds, each counted each time it is reached (what is shared counts as often as it is met; a slice's spare places count too). A statement '..UptoSaid' is the law's where the arguments, and the package variables that the reading takes, are together of bulk at most 1048576: NARROWER than '..Said'. Prove '..Said' where nothing that the law and all that it calls make is longer than what came in: it says more and counts as full. Else prove '..UptoSaid'. A law counts once. -/
mutual
def uptoBulk {H : Type} : DataW H → Nat
  | .lit (.string bytes) => bytes.length + 1
  | .lit _ => 1
  | .nil => 1
  | .ptr d => uptoBulk d + 1
  | .slice elems spare => uptoBulkAll elems + uptoBulkAll spare + 1
  | .agg parts => uptoBulkAll parts + 1
  | .iface _ d => uptoBulk d + 1
  | .map entries => uptoBulkEntries entries + 1
  | .held _ => 1
def uptoBulkAll {H : Type} : List (DataW H) → Nat
  | [] => 0
  | d :: r => uptoBulk d + uptoBulkAll r
def uptoBulkEntries {H : Type} : List (Lit × DataW H) → Nat
  | [] => 0
  | x :: r => uptoBulkEntry x + uptoBulkEntries r
def uptoBulkEntry {H : Type} : Lit × DataW H → Nat
  | (.string bytes, d) => bytes.length + uptoBulk d + 1
  | (_, d) => uptoBulk d + 1
 end
def uptoSmall : (H : Type) → List (DataW H) → Bool := fun _ ds => decide (uptoBulkAll ds ≤ 1048576)
def OpenSpec.upto (s : _root_.Go.ChangeSpec) : _root_.Go.OpenSpec := { _root_.Go.OpenSpec.ofChange s with cond := some uptoSmall }

/-- 'tegulalaw26.SumtreePath', WHERE WHAT IT READS IS OF BULK AT MOST 1048576: true; the input reads as it did. -/
def sumtreePathUptoRow : OpenClaim := { program := "ytdhlikjdcnfkpaa", sum := "e5f38fb9ce9d8df261ccbeaac57804c048c7eb9d9c5e7751e953a12a79d41254", func := "tegula/tegulalaw26.SumtreePath", spec := "sumtreePath", unfollowed := true, recurses := true, apart := false, narrowed := true }
def SumtreePathUptoSaid : Prop := sumtreePathUptoRow.holds Try.pinned (OpenSpec.upto sumtreePathSpec)

/-- 'tegulalaw26.SumtreeCheck', WHERE WHAT IT READS IS OF BULK AT MOST 1048576: true; the input reads as it did. -/
def sumtreeCheckUptoRow : OpenClaim := { program := "ytdhlikjdcnfkpaa", sum := "e5f38fb9ce9d8df261ccbeaac57804c048c7eb9d9c5e7751e953a12a79d41254", func := "tegula/tegulalaw26.SumtreeCheck", spec := "sumtreeCheck", unfollowed := true, recurses := true, apart := false, narrowed := true }
def SumtreeCheckUptoSaid : Prop := sumtreeCheckUptoRow.holds Try.pinned (OpenSpec.upto sumtreeCheckSpec)

/-- 'tegulalaw26.SumtreeProves', WHERE WHAT IT READS IS OF BULK AT MOST 1048576: true; the input reads as it did. -/
def sumtreeProvesUptoRow : OpenClaim := { program := "ytdhlikjdcnfkpaa", sum := "e5f38fb9ce9d8df261ccbeaac57804c048c7eb9d9c5e7751e953a12a79d41254", func := "tegula/tegulalaw26.SumtreeProves", spec := "sumtreeProves", unfollowed := true, recurses := true, apart := false, narrowed := true }
def SumtreeProvesUptoSaid : Prop := sumtreeProvesUptoRow.holds Try.pinned (OpenSpec.upto sumtreeProvesSpec)

/-- 'tegulalaw26.SumtreeBuild', WHERE WHAT IT READS IS OF BULK AT MOST 1048576: true; the input reads as it did. -/
def sumtreeBuildUptoRow : OpenClaim := { program := "ytdhlikjdcnfkpaa", sum := "e5f38fb9ce9d8df261ccbeaac57804c048c7eb9d9c5e7751e953a12a79d41254", func := "tegula/tegulalaw26.SumtreeBuild", spec := "sumtreeBuild", unfollowed := true, recurses := true, apart := false, narrowed := true }
def SumtreeBuildUptoSaid : Prop := sumtreeBuildUptoRow.holds Try.pinned (OpenSpec.upto sumtreeBuildSpec)

/-- 'tegulalaw26.SumtreeDiff', WHERE WHAT IT READS IS OF BULK AT MOST 1048576: true; the input reads as it did. -/
def sumtreeDiffUptoRow : OpenClaim := { program := "ytdhlikjdcnfkpaa", sum := "e5f38fb9ce9d8df261ccbeaac57804c048c7eb9d9c5e7751e953a12a79d41254", func := "tegula/tegulalaw26.SumtreeDiff", spec := "sumtreeDiff", unfollowed := true, recurses := true, apart := false, narrowed := true }
def SumtreeDiffUptoSaid : Prop := sumtreeDiffUptoRow.holds Try.pinned (OpenSpec.upto sumtreeDiffSpec)

/-- 'tegulalaw26.SumtreeSet', WHERE WHAT IT READS IS OF BULK AT MOST 1048576: true; the input reads as it did. -/
def sumtreeSetUptoRow : OpenClaim := { program := "ytdhlikjdcnfkpaa", sum := "e5f38fb9ce9d8df261ccbeaac57804c048c7eb9d9c5e7751e953a12a79d41254", func := "tegula/tegulalaw26.SumtreeSet", spec := "sumtreeSet", unfollowed := true, recurses := true, apart := false, narrowed := true }
def SumtreeSetUptoSaid : Prop := sumtreeSetUptoRow.holds Try.pinned (OpenSpec.upto sumtreeSetSpec)

/-- 'tegulalaw26.SumtreeSteps', WHERE WHAT IT READS IS OF BULK AT MOST 1048576: true; the input reads as it did. -/
def sumtreeStepsUptoRow : OpenClaim := { program := "ytdhlikjdcnfkpaa", sum := "e5f38fb9ce9d8df261ccbeaac57804c048c7eb9d9c5e7751e953a12a79d41254", func := "tegula/tegulalaw26.SumtreeSteps", spec := "sumtreeSteps", unfollowed := true, recurses := true, apart := false, narrowed := true }
def SumtreeStepsUptoSaid : Prop := sumtreeStepsUptoRow.holds Try.pinned (OpenSpec.upto sumtreeStepsSpec)

/-- 'tegulalaw26.SumtreeShares', WHERE WHAT IT READS IS OF BULK AT MOST 1048576: true; the input reads as it did. -/
def sumtreeSharesUptoRow : OpenClaim := { program := "ytdhlikjdcnfkpaa", sum := "e5f38fb9ce9d8df261ccbeaac57804c048c7eb9d9c5e7751e953a12a79d41254", func := "tegula/tegulalaw26.SumtreeShares", spec := "sumtreeShares", unfollowed := true, recurses := true, apart := false, narrowed := true }
def SumtreeSharesUptoSaid : Prop := sumtreeSharesUptoRow.holds Try.pinned (OpenSpec.upto sumtreeSharesSpec)

end Rows
end Go.Proofs.Ytdhlikjdcnfkpaa
