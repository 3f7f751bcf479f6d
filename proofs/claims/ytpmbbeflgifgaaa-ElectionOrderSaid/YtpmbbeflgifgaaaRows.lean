/-
  No cell of these rows narrows 'for every input' (looked for: loops, veiled, ifaces, maps, wideKeys, modest, calm, conditions, laid).
  DERIVED. THE GIVEN ROWS OF THIS SEAT. 6 by the template 'for every input the law returns true; each argument reads behind the call as it read before'; 0 by the template 'total and deterministic' (their statements: YtpmbbeflgifgaaaTotals.lean).
  GIVEN WITH THE SEED: the statements are not yours to turn. If you find one false, say at which input.
  Laid BY PROGRAM, IN A SANDBOX (cutbox-rows.mjs): the forced cells as the released guide's own fill.sh prints them over the translation 65e6ee36447611d5… (all of the seat's roots in one cut). By AI agents, Wed Nov 11 2026. No macro, syntax, notation, axiom, sorry.
-/
import Derived.Test.YtpmbbeflgifgaaaChecked
import GoSem.Claim
import GoSem.ClaimJoined
import GoSem.ClaimMapViews
import Derived.JoinedTies
import Derived.KernelRfl
namespace Go.Proofs.Ytpmbbeflgifgaaa
/- THE CELL 'sum', in the pinned program and in every row, IS THE sha256 OF THE DUMP (.gsa) THAT YtpmbbeflgifgaaaProg.lean LOADS. Nothing in Lean hashes anything: it is a label: what it is worth is what the hold of that sum in a sandbox is worth. -/
noncomputable def Try.pinned : Pinned := { name := "ytpmbbeflgifgaaa", sum := "65e6ee36447611d54d42c528dcb5220b0deba33fc367382008afd1d86ace8965", checked := Try.checked }
namespace Rows
def none {H : Type} : Left H := { results := [], args := [] }

/-- 'tegulalaw31.ElectionElect': WHATEVER THE INPUT: true; the input reads as it did. -/
def electionElectSpec : ChangeSpec := { name := "electionElect", fn := fun _ => fun
  | [d1, d2] => { results := [.lit (.bool true)], args := [d1, d2] }
  | _ => none }
def electionElectRow : OpenClaim := { program := "ytpmbbeflgifgaaa", sum := "65e6ee36447611d54d42c528dcb5220b0deba33fc367382008afd1d86ace8965", func := "tegula/tegulalaw31.ElectionElect", spec := "electionElect", unfollowed := true, recurses := true, apart := false }
def ElectionElectSaid : Prop := electionElectRow.holds Try.pinned (OpenSpec.ofChange electionElectSpec)

/-- ITS FALSE NEIGHBOUR: 'it returns false'. Refute it at one input. -/
def electionElectWrong : ChangeSpec := { name := "electionElect", fn := fun _ => fun
  | [d1, d2] => { results := [.lit (.bool false)], args := [d1, d2] }
  | _ => none }
def ElectionElectWrongFalsely : Prop := electionElectRow.holds Try.pinned (OpenSpec.ofChange electionElectWrong)

/-- 'tegulalaw31.ElectionOrder': WHATEVER THE INPUT: true; the input reads as it did. -/
def electionOrderSpec : ChangeSpec := { name := "electionOrder", fn := fun _ => fun
  | [d1, d2, d3] => { results := [.lit (.bool true)], args := [d1, d2, d3] }
  | _ => none }
def electionOrderRow : OpenClaim := { program := "ytpmbbeflgifgaaa", sum := "65e6ee36447611d54d42c528dcb5220b0deba33fc367382008afd1d86ace8965", func := "tegula/tegulalaw31.ElectionOrder", spec := "electionOrder", unfollowed := true, recurses := true, apart := false }
def ElectionOrderSaid : Prop := electionOrderRow.holds Try.pinned (OpenSpec.ofChange electionOrderSpec)

/-- ITS FALSE NEIGHBOUR: 'it returns false'. Refute it at one input. -/
def electionOrderWrong : ChangeSpec := { name := "electionOrder", fn := fun _ => fun
  | [d1, d2, d3] => { results := [.lit (.bool false)], args := [d1, d2, d3] }
  | _ => none }
def ElectionOrderWrongFalsely : Prop := electionOrderRow.holds Try.pinned (OpenSpec.ofChange electionOrderWrong)

/-- 'tegulalaw31.ElectionDead': WHATEVER THE INPUT: true; the input reads as it did. -/
def electionDeadSpec : ChangeSpec := { name := "electionDead", fn := fun _ => fun
  | [d1, d2] => { results := [.lit (.bool true)], args := [d1, d2] }
  | _ => none }
def electionDeadRow : OpenClaim := { program := "ytpmbbeflgifgaaa", sum := "65e6ee36447611d54d42c528dcb5220b0deba33fc367382008afd1d86ace8965", func := "tegula/tegulalaw31.ElectionDead", spec := "electionDead", unfollowed := true, recurses := true, apart := false }
def ElectionDeadSaid : Prop := electionDeadRow.holds Try.pinned (OpenSpec.ofChange electionDeadSpec)

/-- ITS FALSE NEIGHBOUR: 'it returns false'. Refute it at one input. -/
def electionDeadWrong : ChangeSpec := { name := "electionDead", fn := fun _ => fun
  | [d1, d2] => { results := [.lit (.bool false)], args := [d1, d2] }
  | _ => none }
def ElectionDeadWrongFalsely : Prop := electionDeadRow.holds Try.pinned (OpenSpec.ofChange electionDeadWrong)

/-- 'tegulalaw31.ElectionInterrupted': WHATEVER THE INPUT: true; the input reads as it did. -/
def electionInterruptedSpec : ChangeSpec := { name := "electionInterrupted", fn := fun _ => fun
  | [d1, d2, d3, d4] => { results := [.lit (.bool true)], args := [d1, d2, d3, d4] }
  | _ => none }
def electionInterruptedRow : OpenClaim := { program := "ytpmbbeflgifgaaa", sum := "65e6ee36447611d54d42c528dcb5220b0deba33fc367382008afd1d86ace8965", func := "tegula/tegulalaw31.ElectionInterrupted", spec := "electionInterrupted", unfollowed := true, recurses := true, apart := false }
def ElectionInterruptedSaid : Prop := electionInterruptedRow.holds Try.pinned (OpenSpec.ofChange electionInterruptedSpec)

/-- ITS FALSE NEIGHBOUR: 'it returns false'. Refute it at one input. -/
def electionInterruptedWrong : ChangeSpec := { name := "electionInterrupted", fn := fun _ => fun
  | [d1, d2, d3, d4] => { results := [.lit (.bool false)], args := [d1, d2, d3, d4] }
  | _ => none }
def ElectionInterruptedWrongFalsely : Prop := electionInterruptedRow.holds Try.pinned (OpenSpec.ofChange electionInterruptedWrong)

/-- 'tegulalaw31.ElectionMissing': WHATEVER THE INPUT: true; the input reads as it did. -/
def electionMissingSpec : ChangeSpec := { name := "electionMissing", fn := fun _ => fun
  | [d1, d2] => { results := [.lit (.bool true)], args := [d1, d2] }
  | _ => none }
def electionMissingRow : OpenClaim := { program := "ytpmbbeflgifgaaa", sum := "65e6ee36447611d54d42c528dcb5220b0deba33fc367382008afd1d86ace8965", func := "tegula/tegulalaw31.ElectionMissing", spec := "electionMissing", unfollowed := true, recurses := true, apart := false }
def ElectionMissingSaid : Prop := electionMissingRow.holds Try.pinned (OpenSpec.ofChange electionMissingSpec)

/-- ITS FALSE NEIGHBOUR: 'it returns false'. Refute it at one input. -/
def electionMissingWrong : ChangeSpec := { name := "electionMissing", fn := fun _ => fun
  | [d1, d2] => { results := [.lit (.bool false)], args := [d1, d2] }
  | _ => none }
def ElectionMissingWrongFalsely : Prop := electionMissingRow.holds Try.pinned (OpenSpec.ofChange electionMissingWrong)

/-- 'tegulalaw31.ElectionCount': WHATEVER THE INPUT: true; the input reads as it did. -/
def electionCountSpec : ChangeSpec := { name := "electionCount", fn := fun _ => fun
  | [d] => { results := [.lit (.bool true)], args := [d] }
  | _ => none }
def electionCountRow : OpenClaim := { program := "ytpmbbeflgifgaaa", sum := "65e6ee36447611d54d42c528dcb5220b0deba33fc367382008afd1d86ace8965", func := "tegula/tegulalaw31.ElectionCount", spec := "electionCount", unfollowed := true, recurses := true, apart := false }
def ElectionCountSaid : Prop := electionCountRow.holds Try.pinned (OpenSpec.ofChange electionCountSpec)

/-- ITS FALSE NEIGHBOUR: 'it returns false'. Refute it at one input. -/
def electionCountWrong : ChangeSpec := { name := "electionCount", fn := fun _ => fun
  | [d] => { results := [.lit (.bool false)], args := [d] }
  | _ => none }
def ElectionCountWrongFalsely : Prop := electionCountRow.holds Try.pinned (OpenSpec.ofChange electionCountWrong)

/- THE SECOND FORM. 'bulk': how many values and letters a reading holds, each counted each time it is reached (what is shared counts as often as it is met; a slice's spare places count too). A statement '..UptoSaid' is the law's where the arguments, and the package variables that the reading takes, are together of bulk at most 1048576: NARROWER than '..Said'. Prove '..Said' where nothing that the law and all that it calls make is longer than what came in: it says more and counts as full. Else prove '..UptoSaid'. A law counts once. -/
mutual
def uptoBulk {H : Type} : DataW H → Nat
  | .lit (.string bytes) => bytes.length + 1
  | .lit _ => 1
  | .nil => 1
  | .ptr d => uptoBulk d + 1
  | .slice elems spare => uptoBulkAll elems + uptoBulkAll spare + 1
  | .agg parts => uptoBulkAll parts + 1
  | .iface _ d => uptoBulk d + 1
  | .map entries => uptoBulkEntries entries + 1
  | .held _ => 1
def uptoBulkAll {H : Type} : List (DataW H) → Nat
  | [] => 0
  | d :: r => uptoBulk d + uptoBulkAll r
def uptoBulkEntries {H : Type} : List (Lit × DataW H) → Nat
  | [] => 0
  | x :: r => uptoBulkEntry x + uptoBulkEntries r
def uptoBulkEntry {H : Type} : Lit × DataW H → Nat
  | (.string bytes, d) => bytes.length + uptoBulk d + 1
  | (_, d) => uptoBulk d + 1
 end
def uptoSmall : (H : Type) → List (DataW H) → Bool := fun _ ds => decide (uptoBulkAll ds ≤ 1048576)
def OpenSpec.upto (s : _root_.Go.ChangeSpec) : _root_.Go.OpenSpec := { _root_.Go.OpenSpec.ofChange s with cond := some uptoSmall }

/-- 'tegulalaw31.ElectionElect', WHERE WHAT IT READS IS OF BULK AT MOST 1048576: true; the input reads as it did. -/
def electionElectUptoRow : OpenClaim := { program := "ytpmbbeflgifgaaa", sum := "65e6ee36447611d54d42c528dcb5220b0deba33fc367382008afd1d86ace8965", func := "tegula/tegulalaw31.ElectionElect", spec := "electionElect", unfollowed := true, recurses := true, apart := false, narrowed := true }
def ElectionElectUptoSaid : Prop := electionElectUptoRow.holds Try.pinned (OpenSpec.upto electionElectSpec)

/-- 'tegulalaw31.ElectionOrder', WHERE WHAT IT READS IS OF BULK AT MOST 1048576: true; the input reads as it did. -/
def electionOrderUptoRow : OpenClaim := { program := "ytpmbbeflgifgaaa", sum := "65e6ee36447611d54d42c528dcb5220b0deba33fc367382008afd1d86ace8965", func := "tegula/tegulalaw31.ElectionOrder", spec := "electionOrder", unfollowed := true, recurses := true, apart := false, narrowed := true }
def ElectionOrderUptoSaid : Prop := electionOrderUptoRow.holds Try.pinned (OpenSpec.upto electionOrderSpec)

/-- 'tegulalaw31.ElectionDead', WHERE WHAT IT READS IS OF BULK AT MOST 1048576: true; the input reads as it did. -/
def electionDeadUptoRow : OpenClaim := { program := "ytpmbbeflgifgaaa", sum := "65e6ee36447611d54d42c528dcb5220b0deba33fc367382008afd1d86ace8965", func := "tegula/tegulalaw31.ElectionDead", spec := "electionDead", unfollowed := true, recurses := true, apart := false, narrowed := true }
def ElectionDeadUptoSaid : Prop := electionDeadUptoRow.holds Try.pinned (OpenSpec.upto electionDeadSpec)

/-- 'tegulalaw31.ElectionInterrupted', WHERE WHAT IT READS IS OF BULK AT MOST 1048576: true; the input reads as it did. -/
def electionInterruptedUptoRow : OpenClaim := { program := "ytpmbbeflgifgaaa", sum := "65e6ee36447611d54d42c528dcb5220b0deba33fc367382008afd1d86ace8965", func := "tegula/tegulalaw31.ElectionInterrupted", spec := "electionInterrupted", unfollowed := true, recurses := true, apart := false, narrowed := true }
def ElectionInterruptedUptoSaid : Prop := electionInterruptedUptoRow.holds Try.pinned (OpenSpec.upto electionInterruptedSpec)

/-- 'tegulalaw31.ElectionMissing', WHERE WHAT IT READS IS OF BULK AT MOST 1048576: true; the input reads as it did. -/
def electionMissingUptoRow : OpenClaim := { program := "ytpmbbeflgifgaaa", sum := "65e6ee36447611d54d42c528dcb5220b0deba33fc367382008afd1d86ace8965", func := "tegula/tegulalaw31.ElectionMissing", spec := "electionMissing", unfollowed := true, recurses := true, apart := false, narrowed := true }
def ElectionMissingUptoSaid : Prop := electionMissingUptoRow.holds Try.pinned (OpenSpec.upto electionMissingSpec)

/-- 'tegulalaw31.ElectionCount', WHERE WHAT IT READS IS OF BULK AT MOST 1048576: true; the input reads as it did. -/
def electionCountUptoRow : OpenClaim := { program := "ytpmbbeflgifgaaa", sum := "65e6ee36447611d54d42c528dcb5220b0deba33fc367382008afd1d86ace8965", func := "tegula/tegulalaw31.ElectionCount", spec := "electionCount", unfollowed := true, recurses := true, apart := false, narrowed := true }
def ElectionCountUptoSaid : Prop := electionCountUptoRow.holds Try.pinned (OpenSpec.upto electionCountSpec)

end Rows
end Go.Proofs.Ytpmbbeflgifgaaa
