/-
  No cell of these rows narrows 'for every input' (looked for: loops, veiled, ifaces, maps, wideKeys, modest, calm, conditions, laid).
  DERIVED. THE GIVEN ROWS OF THIS SEAT. 7 by the template 'for every input the law returns true; each argument reads behind the call as it read before'; 0 by the template 'total and deterministic' (their statements: YtbegghodjfllnaaTotals.lean).
  GIVEN WITH THE SEED: the statements are not yours to turn. If you find one false, say at which input.
  Laid BY PROGRAM, IN A SANDBOX (cutbox-rows.mjs): the forced cells as the released guide's own fill.sh prints them over the translation b0c2bab058fa70ce… (all of the seat's roots in one cut). By AI agents, Wed Nov 11 2026. No macro, syntax, notation, axiom, sorry.
-/
import Derived.Test.YtbegghodjfllnaaChecked
import GoSem.Claim
import GoSem.ClaimJoined
import GoSem.ClaimMapViews
import Derived.JoinedTies
import Derived.KernelRfl
namespace Go.Proofs.Ytbegghodjfllnaa
/- THE CELL 'sum', in the pinned program and in every row, IS THE sha256 OF THE DUMP (.gsa) THAT YtbegghodjfllnaaProg.lean LOADS. Nothing in Lean hashes anything: it is a label: what it is worth is what the hold of that sum in a sandbox is worth. -/
noncomputable def Try.pinned : Pinned := { name := "ytbegghodjfllnaa", sum := "b0c2bab058fa70cea856251dc854f0ce683e35a37475ed37b665cb6f32a235c2", checked := Try.checked }
namespace Rows
def none {H : Type} : Left H := { results := [], args := [] }

/-- 'tegulalaw09.CodecOrder': WHATEVER THE INPUT: true; the input reads as it did. -/
def codecOrderSpec : ChangeSpec := { name := "codecOrder", fn := fun _ => fun
  | [d1, d2, d3] => { results := [.lit (.bool true)], args := [d1, d2, d3] }
  | _ => none }
def codecOrderRow : OpenClaim := { program := "ytbegghodjfllnaa", sum := "b0c2bab058fa70cea856251dc854f0ce683e35a37475ed37b665cb6f32a235c2", func := "tegula/tegulalaw09.CodecOrder", spec := "codecOrder", apart := false }
def CodecOrderSaid : Prop := codecOrderRow.holds Try.pinned (OpenSpec.ofChange codecOrderSpec)

/-- ITS FALSE NEIGHBOUR: 'it returns false'. Refute it at one input. -/
def codecOrderWrong : ChangeSpec := { name := "codecOrder", fn := fun _ => fun
  | [d1, d2, d3] => { results := [.lit (.bool false)], args := [d1, d2, d3] }
  | _ => none }
def CodecOrderWrongFalsely : Prop := codecOrderRow.holds Try.pinned (OpenSpec.ofChange codecOrderWrong)

/-- 'tegulalaw09.CodecAppends': WHATEVER THE INPUT: true; the input reads as it did. -/
def codecAppendsSpec : ChangeSpec := { name := "codecAppends", fn := fun _ => fun
  | [d1, d2] => { results := [.lit (.bool true)], args := [d1, d2] }
  | _ => none }
def codecAppendsRow : OpenClaim := { program := "ytbegghodjfllnaa", sum := "b0c2bab058fa70cea856251dc854f0ce683e35a37475ed37b665cb6f32a235c2", func := "tegula/tegulalaw09.CodecAppends", spec := "codecAppends", apart := false }
def CodecAppendsSaid : Prop := codecAppendsRow.holds Try.pinned (OpenSpec.ofChange codecAppendsSpec)

/-- ITS FALSE NEIGHBOUR: 'it returns false'. Refute it at one input. -/
def codecAppendsWrong : ChangeSpec := { name := "codecAppends", fn := fun _ => fun
  | [d1, d2] => { results := [.lit (.bool false)], args := [d1, d2] }
  | _ => none }
def CodecAppendsWrongFalsely : Prop := codecAppendsRow.holds Try.pinned (OpenSpec.ofChange codecAppendsWrong)

/-- 'tegulalaw09.CodecUnique': WHATEVER THE INPUT: true; the input reads as it did. -/
def codecUniqueSpec : ChangeSpec := { name := "codecUnique", fn := fun _ => fun
  | [d] => { results := [.lit (.bool true)], args := [d] }
  | _ => none }
def codecUniqueRow : OpenClaim := { program := "ytbegghodjfllnaa", sum := "b0c2bab058fa70cea856251dc854f0ce683e35a37475ed37b665cb6f32a235c2", func := "tegula/tegulalaw09.CodecUnique", spec := "codecUnique", apart := false }
def CodecUniqueSaid : Prop := codecUniqueRow.holds Try.pinned (OpenSpec.ofChange codecUniqueSpec)

/-- ITS FALSE NEIGHBOUR: 'it returns false'. Refute it at one input. -/
def codecUniqueWrong : ChangeSpec := { name := "codecUnique", fn := fun _ => fun
  | [d] => { results := [.lit (.bool false)], args := [d] }
  | _ => none }
def CodecUniqueWrongFalsely : Prop := codecUniqueRow.holds Try.pinned (OpenSpec.ofChange codecUniqueWrong)

/-- 'tegulalaw09.CodecCount': WHATEVER THE INPUT: true; the input reads as it did. -/
def codecCountSpec : ChangeSpec := { name := "codecCount", fn := fun _ => fun
  | [d1, d2] => { results := [.lit (.bool true)], args := [d1, d2] }
  | _ => none }
def codecCountRow : OpenClaim := { program := "ytbegghodjfllnaa", sum := "b0c2bab058fa70cea856251dc854f0ce683e35a37475ed37b665cb6f32a235c2", func := "tegula/tegulalaw09.CodecCount", spec := "codecCount", apart := false }
def CodecCountSaid : Prop := codecCountRow.holds Try.pinned (OpenSpec.ofChange codecCountSpec)

/-- ITS FALSE NEIGHBOUR: 'it returns false'. Refute it at one input. -/
def codecCountWrong : ChangeSpec := { name := "codecCount", fn := fun _ => fun
  | [d1, d2] => { results := [.lit (.bool false)], args := [d1, d2] }
  | _ => none }
def CodecCountWrongFalsely : Prop := codecCountRow.holds Try.pinned (OpenSpec.ofChange codecCountWrong)

/-- 'tegulalaw09.CodecRoundTrip': WHATEVER THE INPUT: true; the input reads as it did. -/
def codecRoundTripSpec : ChangeSpec := { name := "codecRoundTrip", fn := fun _ => fun
  | [d] => { results := [.lit (.bool true)], args := [d] }
  | _ => none }
def codecRoundTripRow : OpenClaim := { program := "ytbegghodjfllnaa", sum := "b0c2bab058fa70cea856251dc854f0ce683e35a37475ed37b665cb6f32a235c2", func := "tegula/tegulalaw09.CodecRoundTrip", spec := "codecRoundTrip", apart := false }
def CodecRoundTripSaid : Prop := codecRoundTripRow.holds Try.pinned (OpenSpec.ofChange codecRoundTripSpec)

/-- ITS FALSE NEIGHBOUR: 'it returns false'. Refute it at one input. -/
def codecRoundTripWrong : ChangeSpec := { name := "codecRoundTrip", fn := fun _ => fun
  | [d] => { results := [.lit (.bool false)], args := [d] }
  | _ => none }
def CodecRoundTripWrongFalsely : Prop := codecRoundTripRow.holds Try.pinned (OpenSpec.ofChange codecRoundTripWrong)

/-- 'tegulalaw09.CodecReads': WHATEVER THE INPUT: true; the input reads as it did. -/
def codecReadsSpec : ChangeSpec := { name := "codecReads", fn := fun _ => fun
  | [d1, d2] => { results := [.lit (.bool true)], args := [d1, d2] }
  | _ => none }
def codecReadsRow : OpenClaim := { program := "ytbegghodjfllnaa", sum := "b0c2bab058fa70cea856251dc854f0ce683e35a37475ed37b665cb6f32a235c2", func := "tegula/tegulalaw09.CodecReads", spec := "codecReads", apart := false }
def CodecReadsSaid : Prop := codecReadsRow.holds Try.pinned (OpenSpec.ofChange codecReadsSpec)

/-- ITS FALSE NEIGHBOUR: 'it returns false'. Refute it at one input. -/
def codecReadsWrong : ChangeSpec := { name := "codecReads", fn := fun _ => fun
  | [d1, d2] => { results := [.lit (.bool false)], args := [d1, d2] }
  | _ => none }
def CodecReadsWrongFalsely : Prop := codecReadsRow.holds Try.pinned (OpenSpec.ofChange codecReadsWrong)

/-- 'tegulalaw09.CodecNil': WHATEVER THE INPUT: true; the input reads as it did. -/
def codecNilSpec : ChangeSpec := { name := "codecNil", fn := fun _ => fun
  | [d1, d2] => { results := [.lit (.bool true)], args := [d1, d2] }
  | _ => none }
def codecNilRow : OpenClaim := { program := "ytbegghodjfllnaa", sum := "b0c2bab058fa70cea856251dc854f0ce683e35a37475ed37b665cb6f32a235c2", func := "tegula/tegulalaw09.CodecNil", spec := "codecNil", apart := false }
def CodecNilSaid : Prop := codecNilRow.holds Try.pinned (OpenSpec.ofChange codecNilSpec)

/-- ITS FALSE NEIGHBOUR: 'it returns false'. Refute it at one input. -/
def codecNilWrong : ChangeSpec := { name := "codecNil", fn := fun _ => fun
  | [d1, d2] => { results := [.lit (.bool false)], args := [d1, d2] }
  | _ => none }
def CodecNilWrongFalsely : Prop := codecNilRow.holds Try.pinned (OpenSpec.ofChange codecNilWrong)

/- THE SECOND FORM. 'bulk': how many values and letters a reading holds, each counted each time it is reached (what is shared counts as often as it is met; a slice's spare places count too). A statement '..UptoSaid' is the law's where the arguments, and the package variables that the reading takes, are together of bulk at most 1048576: NARROWER than '..Said'. Prove '..Said' where nothing that the law and all that it calls make is longer than what came in: it says more and counts as full. Else prove '..UptoSaid'. A law counts once. -/
mutual
def uptoBulk {H : Type} : DataW H → Nat
  | .lit (.string bytes) => bytes.length + 1
  | .lit _ => 1
  | .nil => 1
  | .ptr d => uptoBulk d + 1
  | .slice elems spare => uptoBulkAll elems + uptoBulkAll spare + 1
  | .agg parts => uptoBulkAll parts + 1
  | .iface _ d => uptoBulk d + 1
  | .map entries => uptoBulkEntries entries + 1
  | .held _ => 1
def uptoBulkAll {H : Type} : List (DataW H) → Nat
  | [] => 0
  | d :: r => uptoBulk d + uptoBulkAll r
def uptoBulkEntries {H : Type} : List (Lit × DataW H) → Nat
  | [] => 0
  | x :: r => uptoBulkEntry x + uptoBulkEntries r
def uptoBulkEntry {H : Type} : Lit × DataW H → Nat
  | (.string bytes, d) => bytes.length + uptoBulk d + 1
  | (_, d) => uptoBulk d + 1
 end
def uptoSmall : (H : Type) → List (DataW H) → Bool := fun _ ds => decide (uptoBulkAll ds ≤ 1048576)
def OpenSpec.upto (s : _root_.Go.ChangeSpec) : _root_.Go.OpenSpec := { _root_.Go.OpenSpec.ofChange s with cond := some uptoSmall }

/-- 'tegulalaw09.CodecOrder', WHERE WHAT IT READS IS OF BULK AT MOST 1048576: true; the input reads as it did. -/
def codecOrderUptoRow : OpenClaim := { program := "ytbegghodjfllnaa", sum := "b0c2bab058fa70cea856251dc854f0ce683e35a37475ed37b665cb6f32a235c2", func := "tegula/tegulalaw09.CodecOrder", spec := "codecOrder", apart := false, narrowed := true }
def CodecOrderUptoSaid : Prop := codecOrderUptoRow.holds Try.pinned (OpenSpec.upto codecOrderSpec)

/-- 'tegulalaw09.CodecAppends', WHERE WHAT IT READS IS OF BULK AT MOST 1048576: true; the input reads as it did. -/
def codecAppendsUptoRow : OpenClaim := { program := "ytbegghodjfllnaa", sum := "b0c2bab058fa70cea856251dc854f0ce683e35a37475ed37b665cb6f32a235c2", func := "tegula/tegulalaw09.CodecAppends", spec := "codecAppends", apart := false, narrowed := true }
def CodecAppendsUptoSaid : Prop := codecAppendsUptoRow.holds Try.pinned (OpenSpec.upto codecAppendsSpec)

/-- 'tegulalaw09.CodecUnique', WHERE WHAT IT READS IS OF BULK AT MOST 1048576: true; the input reads as it did. -/
def codecUniqueUptoRow : OpenClaim := { program := "ytbegghodjfllnaa", sum := "b0c2bab058fa70cea856251dc854f0ce683e35a37475ed37b665cb6f32a235c2", func := "tegula/tegulalaw09.CodecUnique", spec := "codecUnique", apart := false, narrowed := true }
def CodecUniqueUptoSaid : Prop := codecUniqueUptoRow.holds Try.pinned (OpenSpec.upto codecUniqueSpec)

/-- 'tegulalaw09.CodecCount', WHERE WHAT IT READS IS OF BULK AT MOST 1048576: true; the input reads as it did. -/
def codecCountUptoRow : OpenClaim := { program := "ytbegghodjfllnaa", sum := "b0c2bab058fa70cea856251dc854f0ce683e35a37475ed37b665cb6f32a235c2", func := "tegula/tegulalaw09.CodecCount", spec := "codecCount", apart := false, narrowed := true }
def CodecCountUptoSaid : Prop := codecCountUptoRow.holds Try.pinned (OpenSpec.upto codecCountSpec)

/-- 'tegulalaw09.CodecRoundTrip', WHERE WHAT IT READS IS OF BULK AT MOST 1048576: true; the input reads as it did. -/
def codecRoundTripUptoRow : OpenClaim := { program := "ytbegghodjfllnaa", sum := "b0c2bab058fa70cea856251dc854f0ce683e35a37475ed37b665cb6f32a235c2", func := "tegula/tegulalaw09.CodecRoundTrip", spec := "codecRoundTrip", apart := false, narrowed := true }
def CodecRoundTripUptoSaid : Prop := codecRoundTripUptoRow.holds Try.pinned (OpenSpec.upto codecRoundTripSpec)

/-- 'tegulalaw09.CodecReads', WHERE WHAT IT READS IS OF BULK AT MOST 1048576: true; the input reads as it did. -/
def codecReadsUptoRow : OpenClaim := { program := "ytbegghodjfllnaa", sum := "b0c2bab058fa70cea856251dc854f0ce683e35a37475ed37b665cb6f32a235c2", func := "tegula/tegulalaw09.CodecReads", spec := "codecReads", apart := false, narrowed := true }
def CodecReadsUptoSaid : Prop := codecReadsUptoRow.holds Try.pinned (OpenSpec.upto codecReadsSpec)

/-- 'tegulalaw09.CodecNil', WHERE WHAT IT READS IS OF BULK AT MOST 1048576: true; the input reads as it did. -/
def codecNilUptoRow : OpenClaim := { program := "ytbegghodjfllnaa", sum := "b0c2bab058fa70cea856251dc854f0ce683e35a37475ed37b665cb6f32a235c2", func := "tegula/tegulalaw09.CodecNil", spec := "codecNil", apart := false, narrowed := true }
def CodecNilUptoSaid : Prop := codecNilUptoRow.holds Try.pinned (OpenSpec.upto codecNilSpec)

end Rows
end Go.Proofs.Ytbegghodjfllnaa
