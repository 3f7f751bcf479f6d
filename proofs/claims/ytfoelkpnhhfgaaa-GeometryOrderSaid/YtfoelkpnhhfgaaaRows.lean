/-
  No cell of these rows narrows 'for every input' (looked for: loops, veiled, ifaces, maps, wideKeys, modest, calm, conditions, laid).
  DERIVED. THE GIVEN ROWS OF THIS SEAT. 7 by the template 'for every input the law returns true; each argument reads behind the call as it read before'; 0 by the template 'total and deterministic' (their statements: YtfoelkpnhhfgaaaTotals.lean).
  GIVEN WITH THE SEED: the statements are not yours to turn. If you find one false, say at which input.
  Laid BY PROGRAM, IN A SANDBOX (cutbox-rows.mjs): the forced cells as the released guide's own fill.sh prints them over the translation 8b6dbcb0b8192dbd… (all of the seat's roots in one cut). By AI agents, Wed Nov 11 2026. No macro, syntax, notation, axiom, sorry.
-/
import Derived.Test.YtfoelkpnhhfgaaaChecked
import GoSem.Claim
import GoSem.ClaimJoined
import GoSem.ClaimMapViews
import Derived.JoinedTies
import Derived.KernelRfl
namespace Go.Proofs.Ytfoelkpnhhfgaaa
/- THE CELL 'sum', in the pinned program and in every row, IS THE sha256 OF THE DUMP (.gsa) THAT YtfoelkpnhhfgaaaProg.lean LOADS. Nothing in Lean hashes anything: it is a label: what it is worth is what the hold of that sum in a sandbox is worth. -/
noncomputable def Try.pinned : Pinned := { name := "ytfoelkpnhhfgaaa", sum := "8b6dbcb0b8192dbdb1de8eb5844c6c9980e5e80b1004cb748acb2ecda738dfb8", checked := Try.checked }
namespace Rows
def none {H : Type} : Left H := { results := [], args := [] }

/-- 'tegulalaw10.GeometryValid': WHATEVER THE INPUT: true; the input reads as it did. -/
def geometryValidSpec : ChangeSpec := { name := "geometryValid", fn := fun _ => fun
  | [d] => { results := [.lit (.bool true)], args := [d] }
  | _ => none }
def geometryValidRow : OpenClaim := { program := "ytfoelkpnhhfgaaa", sum := "8b6dbcb0b8192dbdb1de8eb5844c6c9980e5e80b1004cb748acb2ecda738dfb8", func := "tegula/tegulalaw10.GeometryValid", spec := "geometryValid", apart := false }
def GeometryValidSaid : Prop := geometryValidRow.holds Try.pinned (OpenSpec.ofChange geometryValidSpec)

/-- ITS FALSE NEIGHBOUR: 'it returns false'. Refute it at one input. -/
def geometryValidWrong : ChangeSpec := { name := "geometryValid", fn := fun _ => fun
  | [d] => { results := [.lit (.bool false)], args := [d] }
  | _ => none }
def GeometryValidWrongFalsely : Prop := geometryValidRow.holds Try.pinned (OpenSpec.ofChange geometryValidWrong)

/-- 'tegulalaw10.GeometryShadow': WHATEVER THE INPUT: true; the input reads as it did. -/
def geometryShadowSpec : ChangeSpec := { name := "geometryShadow", fn := fun _ => fun
  | [d1, d2] => { results := [.lit (.bool true)], args := [d1, d2] }
  | _ => none }
def geometryShadowRow : OpenClaim := { program := "ytfoelkpnhhfgaaa", sum := "8b6dbcb0b8192dbdb1de8eb5844c6c9980e5e80b1004cb748acb2ecda738dfb8", func := "tegula/tegulalaw10.GeometryShadow", spec := "geometryShadow", apart := false }
def GeometryShadowSaid : Prop := geometryShadowRow.holds Try.pinned (OpenSpec.ofChange geometryShadowSpec)

/-- ITS FALSE NEIGHBOUR: 'it returns false'. Refute it at one input. -/
def geometryShadowWrong : ChangeSpec := { name := "geometryShadow", fn := fun _ => fun
  | [d1, d2] => { results := [.lit (.bool false)], args := [d1, d2] }
  | _ => none }
def GeometryShadowWrongFalsely : Prop := geometryShadowRow.holds Try.pinned (OpenSpec.ofChange geometryShadowWrong)

/-- 'tegulalaw10.GeometryOrder': WHATEVER THE INPUT: true; the input reads as it did. -/
def geometryOrderSpec : ChangeSpec := { name := "geometryOrder", fn := fun _ => fun
  | [d1, d2] => { results := [.lit (.bool true)], args := [d1, d2] }
  | _ => none }
def geometryOrderRow : OpenClaim := { program := "ytfoelkpnhhfgaaa", sum := "8b6dbcb0b8192dbdb1de8eb5844c6c9980e5e80b1004cb748acb2ecda738dfb8", func := "tegula/tegulalaw10.GeometryOrder", spec := "geometryOrder", apart := false }
def GeometryOrderSaid : Prop := geometryOrderRow.holds Try.pinned (OpenSpec.ofChange geometryOrderSpec)

/-- ITS FALSE NEIGHBOUR: 'it returns false'. Refute it at one input. -/
def geometryOrderWrong : ChangeSpec := { name := "geometryOrder", fn := fun _ => fun
  | [d1, d2] => { results := [.lit (.bool false)], args := [d1, d2] }
  | _ => none }
def GeometryOrderWrongFalsely : Prop := geometryOrderRow.holds Try.pinned (OpenSpec.ofChange geometryOrderWrong)

/-- 'tegulalaw10.GeometryLocate': WHATEVER THE INPUT: true; the input reads as it did. -/
def geometryLocateSpec : ChangeSpec := { name := "geometryLocate", fn := fun _ => fun
  | [d1, d2] => { results := [.lit (.bool true)], args := [d1, d2] }
  | _ => none }
def geometryLocateRow : OpenClaim := { program := "ytfoelkpnhhfgaaa", sum := "8b6dbcb0b8192dbdb1de8eb5844c6c9980e5e80b1004cb748acb2ecda738dfb8", func := "tegula/tegulalaw10.GeometryLocate", spec := "geometryLocate", apart := false }
def GeometryLocateSaid : Prop := geometryLocateRow.holds Try.pinned (OpenSpec.ofChange geometryLocateSpec)

/-- ITS FALSE NEIGHBOUR: 'it returns false'. Refute it at one input. -/
def geometryLocateWrong : ChangeSpec := { name := "geometryLocate", fn := fun _ => fun
  | [d1, d2] => { results := [.lit (.bool false)], args := [d1, d2] }
  | _ => none }
def GeometryLocateWrongFalsely : Prop := geometryLocateRow.holds Try.pinned (OpenSpec.ofChange geometryLocateWrong)

/-- 'tegulalaw10.GeometryAddress': WHATEVER THE INPUT: true; the input reads as it did. -/
def geometryAddressSpec : ChangeSpec := { name := "geometryAddress", fn := fun _ => fun
  | [d1, d2] => { results := [.lit (.bool true)], args := [d1, d2] }
  | _ => none }
def geometryAddressRow : OpenClaim := { program := "ytfoelkpnhhfgaaa", sum := "8b6dbcb0b8192dbdb1de8eb5844c6c9980e5e80b1004cb748acb2ecda738dfb8", func := "tegula/tegulalaw10.GeometryAddress", spec := "geometryAddress", apart := false }
def GeometryAddressSaid : Prop := geometryAddressRow.holds Try.pinned (OpenSpec.ofChange geometryAddressSpec)

/-- ITS FALSE NEIGHBOUR: 'it returns false'. Refute it at one input. -/
def geometryAddressWrong : ChangeSpec := { name := "geometryAddress", fn := fun _ => fun
  | [d1, d2] => { results := [.lit (.bool false)], args := [d1, d2] }
  | _ => none }
def GeometryAddressWrongFalsely : Prop := geometryAddressRow.holds Try.pinned (OpenSpec.ofChange geometryAddressWrong)

/-- 'tegulalaw10.GeometryUnion': WHATEVER THE INPUT: true; the input reads as it did. -/
def geometryUnionSpec : ChangeSpec := { name := "geometryUnion", fn := fun _ => fun
  | [d1, d2] => { results := [.lit (.bool true)], args := [d1, d2] }
  | _ => none }
def geometryUnionRow : OpenClaim := { program := "ytfoelkpnhhfgaaa", sum := "8b6dbcb0b8192dbdb1de8eb5844c6c9980e5e80b1004cb748acb2ecda738dfb8", func := "tegula/tegulalaw10.GeometryUnion", spec := "geometryUnion", apart := false }
def GeometryUnionSaid : Prop := geometryUnionRow.holds Try.pinned (OpenSpec.ofChange geometryUnionSpec)

/-- ITS FALSE NEIGHBOUR: 'it returns false'. Refute it at one input. -/
def geometryUnionWrong : ChangeSpec := { name := "geometryUnion", fn := fun _ => fun
  | [d1, d2] => { results := [.lit (.bool false)], args := [d1, d2] }
  | _ => none }
def GeometryUnionWrongFalsely : Prop := geometryUnionRow.holds Try.pinned (OpenSpec.ofChange geometryUnionWrong)

/-- 'tegulalaw10.GeometryInverse': WHATEVER THE INPUT: true; the input reads as it did. -/
def geometryInverseSpec : ChangeSpec := { name := "geometryInverse", fn := fun _ => fun
  | [d1, d2] => { results := [.lit (.bool true)], args := [d1, d2] }
  | _ => none }
def geometryInverseRow : OpenClaim := { program := "ytfoelkpnhhfgaaa", sum := "8b6dbcb0b8192dbdb1de8eb5844c6c9980e5e80b1004cb748acb2ecda738dfb8", func := "tegula/tegulalaw10.GeometryInverse", spec := "geometryInverse", apart := false }
def GeometryInverseSaid : Prop := geometryInverseRow.holds Try.pinned (OpenSpec.ofChange geometryInverseSpec)

/-- ITS FALSE NEIGHBOUR: 'it returns false'. Refute it at one input. -/
def geometryInverseWrong : ChangeSpec := { name := "geometryInverse", fn := fun _ => fun
  | [d1, d2] => { results := [.lit (.bool false)], args := [d1, d2] }
  | _ => none }
def GeometryInverseWrongFalsely : Prop := geometryInverseRow.holds Try.pinned (OpenSpec.ofChange geometryInverseWrong)

/- THE SECOND FORM. 'bulk': how many values and letters a reading holds, each counted each time it is reached (what is shared counts as often as it is met; a slice's spare places count too). A statement '..UptoSaid' is the law's where the arguments, and the package variables that the reading takes, are together of bulk at most 1048576: NARROWER than '..Said'. Prove '..Said' where nothing that the law and all that it calls make is longer than what came in: it says more and counts as full. Else prove '..UptoSaid'. A law counts once. -/
mutual
def uptoBulk {H : Type} : DataW H → Nat
  | .lit (.string bytes) => bytes.length + 1
  | .lit _ => 1
  | .nil => 1
  | .ptr d => uptoBulk d + 1
  | .slice elems spare => uptoBulkAll elems + uptoBulkAll spare + 1
  | .agg parts => uptoBulkAll parts + 1
  | .iface _ d => uptoBulk d + 1
  | .map entries => uptoBulkEntries entries + 1
  | .held _ => 1
def uptoBulkAll {H : Type} : List (DataW H) → Nat
  | [] => 0
  | d :: r => uptoBulk d + uptoBulkAll r
def uptoBulkEntries {H : Type} : List (Lit × DataW H) → Nat
  | [] => 0
  | x :: r => uptoBulkEntry x + uptoBulkEntries r
def uptoBulkEntry {H : Type} : Lit × DataW H → Nat
  | (.string bytes, d) => bytes.length + uptoBulk d + 1
  | (_, d) => uptoBulk d + 1
 end
def uptoSmall : (H : Type) → List (DataW H) → Bool := fun _ ds => decide (uptoBulkAll ds ≤ 1048576)
def OpenSpec.upto (s : _root_.Go.ChangeSpec) : _root_.Go.OpenSpec := { _root_.Go.OpenSpec.ofChange s with cond := some uptoSmall }

/-- 'tegulalaw10.GeometryValid', WHERE WHAT IT READS IS OF BULK AT MOST 1048576: true; the input reads as it did. -/
def geometryValidUptoRow : OpenClaim := { program := "ytfoelkpnhhfgaaa", sum := "8b6dbcb0b8192dbdb1de8eb5844c6c9980e5e80b1004cb748acb2ecda738dfb8", func := "tegula/tegulalaw10.GeometryValid", spec := "geometryValid", apart := false, narrowed := true }
def GeometryValidUptoSaid : Prop := geometryValidUptoRow.holds Try.pinned (OpenSpec.upto geometryValidSpec)

/-- 'tegulalaw10.GeometryShadow', WHERE WHAT IT READS IS OF BULK AT MOST 1048576: true; the input reads as it did. -/
def geometryShadowUptoRow : OpenClaim := { program := "ytfoelkpnhhfgaaa", sum := "8b6dbcb0b8192dbdb1de8eb5844c6c9980e5e80b1004cb748acb2ecda738dfb8", func := "tegula/tegulalaw10.GeometryShadow", spec := "geometryShadow", apart := false, narrowed := true }
def GeometryShadowUptoSaid : Prop := geometryShadowUptoRow.holds Try.pinned (OpenSpec.upto geometryShadowSpec)

/-- 'tegulalaw10.GeometryOrder', WHERE WHAT IT READS IS OF BULK AT MOST 1048576: true; the input reads as it did. -/
def geometryOrderUptoRow : OpenClaim := { program := "ytfoelkpnhhfgaaa", sum := "8b6dbcb0b8192dbdb1de8eb5844c6c9980e5e80b1004cb748acb2ecda738dfb8", func := "tegula/tegulalaw10.GeometryOrder", spec := "geometryOrder", apart := false, narrowed := true }
def GeometryOrderUptoSaid : Prop := geometryOrderUptoRow.holds Try.pinned (OpenSpec.upto geometryOrderSpec)

/-- 'tegulalaw10.GeometryLocate', WHERE WHAT IT READS IS OF BULK AT MOST 1048576: true; the input reads as it did. -/
def geometryLocateUptoRow : OpenClaim := { program := "ytfoelkpnhhfgaaa", sum := "8b6dbcb0b8192dbdb1de8eb5844c6c9980e5e80b1004cb748acb2ecda738dfb8", func := "tegula/tegulalaw10.GeometryLocate", spec := "geometryLocate", apart := false, narrowed := true }
def GeometryLocateUptoSaid : Prop := geometryLocateUptoRow.holds Try.pinned (OpenSpec.upto geometryLocateSpec)

/-- 'tegulalaw10.GeometryAddress', WHERE WHAT IT READS IS OF BULK AT MOST 1048576: true; the input reads as it did. -/
def geometryAddressUptoRow : OpenClaim := { program := "ytfoelkpnhhfgaaa", sum := "8b6dbcb0b8192dbdb1de8eb5844c6c9980e5e80b1004cb748acb2ecda738dfb8", func := "tegula/tegulalaw10.GeometryAddress", spec := "geometryAddress", apart := false, narrowed := true }
def GeometryAddressUptoSaid : Prop := geometryAddressUptoRow.holds Try.pinned (OpenSpec.upto geometryAddressSpec)

/-- 'tegulalaw10.GeometryUnion', WHERE WHAT IT READS IS OF BULK AT MOST 1048576: true; the input reads as it did. -/
def geometryUnionUptoRow : OpenClaim := { program := "ytfoelkpnhhfgaaa", sum := "8b6dbcb0b8192dbdb1de8eb5844c6c9980e5e80b1004cb748acb2ecda738dfb8", func := "tegula/tegulalaw10.GeometryUnion", spec := "geometryUnion", apart := false, narrowed := true }
def GeometryUnionUptoSaid : Prop := geometryUnionUptoRow.holds Try.pinned (OpenSpec.upto geometryUnionSpec)

/-- 'tegulalaw10.GeometryInverse', WHERE WHAT IT READS IS OF BULK AT MOST 1048576: true; the input reads as it did. -/
def geometryInverseUptoRow : OpenClaim := { program := "ytfoelkpnhhfgaaa", sum := "8b6dbcb0b8192dbdb1de8eb5844c6c9980e5e80b1004cb748acb2ecda738dfb8", func := "tegula/tegulalaw10.GeometryInverse", spec := "geometryInverse", apart := false, narrowed := true }
def GeometryInverseUptoSaid : Prop := geometryInverseUptoRow.holds Try.pinned (OpenSpec.upto geometryInverseSpec)

end Rows
end Go.Proofs.Ytfoelkpnhhfgaaa
