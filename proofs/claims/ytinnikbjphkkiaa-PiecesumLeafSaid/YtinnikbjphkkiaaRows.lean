/-
  No cell of these rows narrows 'for every input' (looked for: loops, veiled, ifaces, maps, wideKeys, modest, calm, conditions, laid).
  DERIVED. THE GIVEN ROWS OF THIS SEAT. 7 by the template 'for every input the law returns true; each argument reads behind the call as it read before'; 0 by the template 'total and deterministic' (their statements: YtinnikbjphkkiaaTotals.lean).
  GIVEN WITH THE SEED: the statements are not yours to turn. If you find one false, say at which input.
  Laid BY PROGRAM, IN A SANDBOX (cutbox-rows.mjs): the forced cells as the released guide's own fill.sh prints them over the translation 9294b45139e2d888… (all of the seat's roots in one cut). By AI agents, Wed Nov 11 2026. No macro, syntax, notation, axiom, sorry.
-/
import Derived.Test.YtinnikbjphkkiaaChecked
import GoSem.Claim
import GoSem.ClaimJoined
import GoSem.ClaimMapViews
import Derived.JoinedTies
import Derived.KernelRfl
namespace Go.Proofs.Ytinnikbjphkkiaa
/- THE CELL 'sum', in the pinned program and in every row, IS THE sha256 OF THE DUMP (.gsa) THAT YtinnikbjphkkiaaProg.lean LOADS. Nothing in Lean hashes anything: it is a label: what it is worth is what the hold of that sum in a sandbox is worth. -/
noncomputable def Try.pinned : Pinned := { name := "ytinnikbjphkkiaa", sum := "9294b45139e2d88836f59468240d72082973cc7be14fcf6b7503395cadbb2961", checked := Try.checked }
namespace Rows
def none {H : Type} : Left H := { results := [], args := [] }

/-- 'tegulalaw25.PiecesumSum': WHATEVER THE INPUT: true; the input reads as it did. -/
def piecesumSumSpec : ChangeSpec := { name := "piecesumSum", fn := fun _ => fun
  | [d1, d2, d3] => { results := [.lit (.bool true)], args := [d1, d2, d3] }
  | _ => none }
def piecesumSumRow : OpenClaim := { program := "ytinnikbjphkkiaa", sum := "9294b45139e2d88836f59468240d72082973cc7be14fcf6b7503395cadbb2961", func := "tegula/tegulalaw25.PiecesumSum", spec := "piecesumSum", apart := false }
def PiecesumSumSaid : Prop := piecesumSumRow.holds Try.pinned (OpenSpec.ofChange piecesumSumSpec)

/-- ITS FALSE NEIGHBOUR: 'it returns false'. Refute it at one input. -/
def piecesumSumWrong : ChangeSpec := { name := "piecesumSum", fn := fun _ => fun
  | [d1, d2, d3] => { results := [.lit (.bool false)], args := [d1, d2, d3] }
  | _ => none }
def PiecesumSumWrongFalsely : Prop := piecesumSumRow.holds Try.pinned (OpenSpec.ofChange piecesumSumWrong)

/-- 'tegulalaw25.PiecesumBad': WHATEVER THE INPUT: true; the input reads as it did. -/
def piecesumBadSpec : ChangeSpec := { name := "piecesumBad", fn := fun _ => fun
  | [d] => { results := [.lit (.bool true)], args := [d] }
  | _ => none }
def piecesumBadRow : OpenClaim := { program := "ytinnikbjphkkiaa", sum := "9294b45139e2d88836f59468240d72082973cc7be14fcf6b7503395cadbb2961", func := "tegula/tegulalaw25.PiecesumBad", spec := "piecesumBad", apart := false }
def PiecesumBadSaid : Prop := piecesumBadRow.holds Try.pinned (OpenSpec.ofChange piecesumBadSpec)

/-- ITS FALSE NEIGHBOUR: 'it returns false'. Refute it at one input. -/
def piecesumBadWrong : ChangeSpec := { name := "piecesumBad", fn := fun _ => fun
  | [d] => { results := [.lit (.bool false)], args := [d] }
  | _ => none }
def PiecesumBadWrongFalsely : Prop := piecesumBadRow.holds Try.pinned (OpenSpec.ofChange piecesumBadWrong)

/-- 'tegulalaw25.PiecesumSet': WHATEVER THE INPUT: true; the input reads as it did. -/
def piecesumSetSpec : ChangeSpec := { name := "piecesumSet", fn := fun _ => fun
  | [d1, d2] => { results := [.lit (.bool true)], args := [d1, d2] }
  | _ => none }
def piecesumSetRow : OpenClaim := { program := "ytinnikbjphkkiaa", sum := "9294b45139e2d88836f59468240d72082973cc7be14fcf6b7503395cadbb2961", func := "tegula/tegulalaw25.PiecesumSet", spec := "piecesumSet", apart := false }
def PiecesumSetSaid : Prop := piecesumSetRow.holds Try.pinned (OpenSpec.ofChange piecesumSetSpec)

/-- ITS FALSE NEIGHBOUR: 'it returns false'. Refute it at one input. -/
def piecesumSetWrong : ChangeSpec := { name := "piecesumSet", fn := fun _ => fun
  | [d1, d2] => { results := [.lit (.bool false)], args := [d1, d2] }
  | _ => none }
def PiecesumSetWrongFalsely : Prop := piecesumSetRow.holds Try.pinned (OpenSpec.ofChange piecesumSetWrong)

/-- 'tegulalaw25.PiecesumRecognizes': WHATEVER THE INPUT: true; the input reads as it did. -/
def piecesumRecognizesSpec : ChangeSpec := { name := "piecesumRecognizes", fn := fun _ => fun
  | [d1, d2, d3] => { results := [.lit (.bool true)], args := [d1, d2, d3] }
  | _ => none }
def piecesumRecognizesRow : OpenClaim := { program := "ytinnikbjphkkiaa", sum := "9294b45139e2d88836f59468240d72082973cc7be14fcf6b7503395cadbb2961", func := "tegula/tegulalaw25.PiecesumRecognizes", spec := "piecesumRecognizes", apart := false }
def PiecesumRecognizesSaid : Prop := piecesumRecognizesRow.holds Try.pinned (OpenSpec.ofChange piecesumRecognizesSpec)

/-- ITS FALSE NEIGHBOUR: 'it returns false'. Refute it at one input. -/
def piecesumRecognizesWrong : ChangeSpec := { name := "piecesumRecognizes", fn := fun _ => fun
  | [d1, d2, d3] => { results := [.lit (.bool false)], args := [d1, d2, d3] }
  | _ => none }
def PiecesumRecognizesWrongFalsely : Prop := piecesumRecognizesRow.holds Try.pinned (OpenSpec.ofChange piecesumRecognizesWrong)

/-- 'tegulalaw25.PiecesumZero': WHATEVER THE INPUT: true; the input reads as it did. -/
def piecesumZeroSpec : ChangeSpec := { name := "piecesumZero", fn := fun _ => fun
  | [d1, d2, d3] => { results := [.lit (.bool true)], args := [d1, d2, d3] }
  | _ => none }
def piecesumZeroRow : OpenClaim := { program := "ytinnikbjphkkiaa", sum := "9294b45139e2d88836f59468240d72082973cc7be14fcf6b7503395cadbb2961", func := "tegula/tegulalaw25.PiecesumZero", spec := "piecesumZero", apart := false }
def PiecesumZeroSaid : Prop := piecesumZeroRow.holds Try.pinned (OpenSpec.ofChange piecesumZeroSpec)

/-- ITS FALSE NEIGHBOUR: 'it returns false'. Refute it at one input. -/
def piecesumZeroWrong : ChangeSpec := { name := "piecesumZero", fn := fun _ => fun
  | [d1, d2, d3] => { results := [.lit (.bool false)], args := [d1, d2, d3] }
  | _ => none }
def PiecesumZeroWrongFalsely : Prop := piecesumZeroRow.holds Try.pinned (OpenSpec.ofChange piecesumZeroWrong)

/-- 'tegulalaw25.PiecesumGood': WHATEVER THE INPUT: true; the input reads as it did. -/
def piecesumGoodSpec : ChangeSpec := { name := "piecesumGood", fn := fun _ => fun
  | [d1, d2] => { results := [.lit (.bool true)], args := [d1, d2] }
  | _ => none }
def piecesumGoodRow : OpenClaim := { program := "ytinnikbjphkkiaa", sum := "9294b45139e2d88836f59468240d72082973cc7be14fcf6b7503395cadbb2961", func := "tegula/tegulalaw25.PiecesumGood", spec := "piecesumGood", apart := false }
def PiecesumGoodSaid : Prop := piecesumGoodRow.holds Try.pinned (OpenSpec.ofChange piecesumGoodSpec)

/-- ITS FALSE NEIGHBOUR: 'it returns false'. Refute it at one input. -/
def piecesumGoodWrong : ChangeSpec := { name := "piecesumGood", fn := fun _ => fun
  | [d1, d2] => { results := [.lit (.bool false)], args := [d1, d2] }
  | _ => none }
def PiecesumGoodWrongFalsely : Prop := piecesumGoodRow.holds Try.pinned (OpenSpec.ofChange piecesumGoodWrong)

/-- 'tegulalaw25.PiecesumLeaf': WHATEVER THE INPUT: true; the input reads as it did. -/
def piecesumLeafSpec : ChangeSpec := { name := "piecesumLeaf", fn := fun _ => fun
  | [d1, d2, d3] => { results := [.lit (.bool true)], args := [d1, d2, d3] }
  | _ => none }
def piecesumLeafRow : OpenClaim := { program := "ytinnikbjphkkiaa", sum := "9294b45139e2d88836f59468240d72082973cc7be14fcf6b7503395cadbb2961", func := "tegula/tegulalaw25.PiecesumLeaf", spec := "piecesumLeaf", apart := false }
def PiecesumLeafSaid : Prop := piecesumLeafRow.holds Try.pinned (OpenSpec.ofChange piecesumLeafSpec)

/-- ITS FALSE NEIGHBOUR: 'it returns false'. Refute it at one input. -/
def piecesumLeafWrong : ChangeSpec := { name := "piecesumLeaf", fn := fun _ => fun
  | [d1, d2, d3] => { results := [.lit (.bool false)], args := [d1, d2, d3] }
  | _ => none }
def PiecesumLeafWrongFalsely : Prop := piecesumLeafRow.holds Try.pinned (OpenSpec.ofChange piecesumLeafWrong)

/- THE SECOND FORM. 'bulk': how many values and letters a reading holds, each counted each time it is reached (what is shared counts as often as it is met; a slice's spare places count too). A statement '..UptoSaid' is the law's where the arguments, and the package variables that the reading takes, are together of bulk at most 1048576: NARROWER than '..Said'. Prove '..Said' where nothing that the law and all that it calls make is longer than what came in: it says more and counts as full. Else prove '..UptoSaid'. A law counts once. -/
mutual
def uptoBulk {H : Type} : DataW H → Nat
  | .lit (.string bytes) => bytes.length + 1
  | .lit _ => 1
  | .nil => 1
  | .ptr d => uptoBulk d + 1
  | .slice elems spare => uptoBulkAll elems + uptoBulkAll spare + 1
  | .agg parts => uptoBulkAll parts + 1
  | .iface _ d => uptoBulk d + 1
  | .map entries => uptoBulkEntries entries + 1
  | .held _ => 1
def uptoBulkAll {H : Type} : List (DataW H) → Nat
  | [] => 0
  | d :: r => uptoBulk d + uptoBulkAll r
def uptoBulkEntries {H : Type} : List (Lit × DataW H) → Nat
  | [] => 0
  | x :: r => uptoBulkEntry x + uptoBulkEntries r
def uptoBulkEntry {H : Type} : Lit × DataW H → Nat
  | (.string bytes, d) => bytes.length + uptoBulk d + 1
  | (_, d) => uptoBulk d + 1
 end
def uptoSmall : (H : Type) → List (DataW H) → Bool := fun _ ds => decide (uptoBulkAll ds ≤ 1048576)
def OpenSpec.upto (s : _root_.Go.ChangeSpec) : _root_.Go.OpenSpec := { _root_.Go.OpenSpec.ofChange s with cond := some uptoSmall }

/-- 'tegulalaw25.PiecesumSum', WHERE WHAT IT READS IS OF BULK AT MOST 1048576: true; the input reads as it did. -/
def piecesumSumUptoRow : OpenClaim := { program := "ytinnikbjphkkiaa", sum := "9294b45139e2d88836f59468240d72082973cc7be14fcf6b7503395cadbb2961", func := "tegula/tegulalaw25.PiecesumSum", spec := "piecesumSum", apart := false, narrowed := true }
def PiecesumSumUptoSaid : Prop := piecesumSumUptoRow.holds Try.pinned (OpenSpec.upto piecesumSumSpec)

/-- 'tegulalaw25.PiecesumBad', WHERE WHAT IT READS IS OF BULK AT MOST 1048576: true; the input reads as it did. -/
def piecesumBadUptoRow : OpenClaim := { program := "ytinnikbjphkkiaa", sum := "9294b45139e2d88836f59468240d72082973cc7be14fcf6b7503395cadbb2961", func := "tegula/tegulalaw25.PiecesumBad", spec := "piecesumBad", apart := false, narrowed := true }
def PiecesumBadUptoSaid : Prop := piecesumBadUptoRow.holds Try.pinned (OpenSpec.upto piecesumBadSpec)

/-- 'tegulalaw25.PiecesumSet', WHERE WHAT IT READS IS OF BULK AT MOST 1048576: true; the input reads as it did. -/
def piecesumSetUptoRow : OpenClaim := { program := "ytinnikbjphkkiaa", sum := "9294b45139e2d88836f59468240d72082973cc7be14fcf6b7503395cadbb2961", func := "tegula/tegulalaw25.PiecesumSet", spec := "piecesumSet", apart := false, narrowed := true }
def PiecesumSetUptoSaid : Prop := piecesumSetUptoRow.holds Try.pinned (OpenSpec.upto piecesumSetSpec)

/-- 'tegulalaw25.PiecesumRecognizes', WHERE WHAT IT READS IS OF BULK AT MOST 1048576: true; the input reads as it did. -/
def piecesumRecognizesUptoRow : OpenClaim := { program := "ytinnikbjphkkiaa", sum := "9294b45139e2d88836f59468240d72082973cc7be14fcf6b7503395cadbb2961", func := "tegula/tegulalaw25.PiecesumRecognizes", spec := "piecesumRecognizes", apart := false, narrowed := true }
def PiecesumRecognizesUptoSaid : Prop := piecesumRecognizesUptoRow.holds Try.pinned (OpenSpec.upto piecesumRecognizesSpec)

/-- 'tegulalaw25.PiecesumZero', WHERE WHAT IT READS IS OF BULK AT MOST 1048576: true; the input reads as it did. -/
def piecesumZeroUptoRow : OpenClaim := { program := "ytinnikbjphkkiaa", sum := "9294b45139e2d88836f59468240d72082973cc7be14fcf6b7503395cadbb2961", func := "tegula/tegulalaw25.PiecesumZero", spec := "piecesumZero", apart := false, narrowed := true }
def PiecesumZeroUptoSaid : Prop := piecesumZeroUptoRow.holds Try.pinned (OpenSpec.upto piecesumZeroSpec)

/-- 'tegulalaw25.PiecesumGood', WHERE WHAT IT READS IS OF BULK AT MOST 1048576: true; the input reads as it did. -/
def piecesumGoodUptoRow : OpenClaim := { program := "ytinnikbjphkkiaa", sum := "9294b45139e2d88836f59468240d72082973cc7be14fcf6b7503395cadbb2961", func := "tegula/tegulalaw25.PiecesumGood", spec := "piecesumGood", apart := false, narrowed := true }
def PiecesumGoodUptoSaid : Prop := piecesumGoodUptoRow.holds Try.pinned (OpenSpec.upto piecesumGoodSpec)

/-- 'tegulalaw25.PiecesumLeaf', WHERE WHAT IT READS IS OF BULK AT MOST 1048576: true; the input reads as it did. -/
def piecesumLeafUptoRow : OpenClaim := { program := "ytinnikbjphkkiaa", sum := "9294b45139e2d88836f59468240d72082973cc7be14fcf6b7503395cadbb2961", func := "tegula/tegulalaw25.PiecesumLeaf", spec := "piecesumLeaf", apart := false, narrowed := true }
def PiecesumLeafUptoSaid : Prop := piecesumLeafUptoRow.holds Try.pinned (OpenSpec.upto piecesumLeafSpec)

end Rows
end Go.Proofs.Ytinnikbjphkkiaa
