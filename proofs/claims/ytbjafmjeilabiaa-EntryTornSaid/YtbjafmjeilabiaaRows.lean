/-
  No cell of these rows narrows 'for every input' (looked for: loops, veiled, ifaces, maps, wideKeys, modest, calm, conditions, laid).
  DERIVED. THE GIVEN ROWS OF THIS SEAT. 6 by the template 'for every input the law returns true; each argument reads behind the call as it read before'; 0 by the template 'total and deterministic' (their statements: YtbjafmjeilabiaaTotals.lean).
  GIVEN WITH THE SEED: the statements are not yours to turn. If you find one false, say at which input.
  Laid BY PROGRAM, IN A SANDBOX (cutbox-rows.mjs): the forced cells as the released guide's own fill.sh prints them over the translation ebac8255d4ae3546… (all of the seat's roots in one cut). By AI agents, Wed Nov 11 2026. No macro, syntax, notation, axiom, sorry.
-/
import Derived.Test.YtbjafmjeilabiaaChecked
import GoSem.Claim
import GoSem.ClaimJoined
import GoSem.ClaimMapViews
import Derived.JoinedTies
import Derived.KernelRfl
namespace Go.Proofs.Ytbjafmjeilabiaa
/- THE CELL 'sum', in the pinned program and in every row, IS THE sha256 OF THE DUMP (.gsa) THAT YtbjafmjeilabiaaProg.lean LOADS. Nothing in Lean hashes anything: it is a label: what it is worth is what the hold of that sum in a sandbox is worth. -/
noncomputable def Try.pinned : Pinned := { name := "ytbjafmjeilabiaa", sum := "ebac8255d4ae3546d033af5b70b0e762d3b96c1d34e3424a55219ee37087f052", checked := Try.checked }
namespace Rows
def none {H : Type} : Left H := { results := [], args := [] }

/-- 'tegulalaw15.EntryEncode': WHATEVER THE INPUT: true; the input reads as it did. -/
def entryEncodeSpec : ChangeSpec := { name := "entryEncode", fn := fun _ => fun
  | [d1, d2] => { results := [.lit (.bool true)], args := [d1, d2] }
  | _ => none }
def entryEncodeRow : OpenClaim := { program := "ytbjafmjeilabiaa", sum := "ebac8255d4ae3546d033af5b70b0e762d3b96c1d34e3424a55219ee37087f052", func := "tegula/tegulalaw15.EntryEncode", spec := "entryEncode", apart := false }
def EntryEncodeSaid : Prop := entryEncodeRow.holds Try.pinned (OpenSpec.ofChange entryEncodeSpec)

/-- ITS FALSE NEIGHBOUR: 'it returns false'. Refute it at one input. -/
def entryEncodeWrong : ChangeSpec := { name := "entryEncode", fn := fun _ => fun
  | [d1, d2] => { results := [.lit (.bool false)], args := [d1, d2] }
  | _ => none }
def EntryEncodeWrongFalsely : Prop := entryEncodeRow.holds Try.pinned (OpenSpec.ofChange entryEncodeWrong)

/-- 'tegulalaw15.EntryDecode': WHATEVER THE INPUT: true; the input reads as it did. -/
def entryDecodeSpec : ChangeSpec := { name := "entryDecode", fn := fun _ => fun
  | [d] => { results := [.lit (.bool true)], args := [d] }
  | _ => none }
def entryDecodeRow : OpenClaim := { program := "ytbjafmjeilabiaa", sum := "ebac8255d4ae3546d033af5b70b0e762d3b96c1d34e3424a55219ee37087f052", func := "tegula/tegulalaw15.EntryDecode", spec := "entryDecode", apart := false }
def EntryDecodeSaid : Prop := entryDecodeRow.holds Try.pinned (OpenSpec.ofChange entryDecodeSpec)

/-- ITS FALSE NEIGHBOUR: 'it returns false'. Refute it at one input. -/
def entryDecodeWrong : ChangeSpec := { name := "entryDecode", fn := fun _ => fun
  | [d] => { results := [.lit (.bool false)], args := [d] }
  | _ => none }
def EntryDecodeWrongFalsely : Prop := entryDecodeRow.holds Try.pinned (OpenSpec.ofChange entryDecodeWrong)

/-- 'tegulalaw15.EntrySealed': WHATEVER THE INPUT: true; the input reads as it did. -/
def entrySealedSpec : ChangeSpec := { name := "entrySealed", fn := fun _ => fun
  | [d] => { results := [.lit (.bool true)], args := [d] }
  | _ => none }
def entrySealedRow : OpenClaim := { program := "ytbjafmjeilabiaa", sum := "ebac8255d4ae3546d033af5b70b0e762d3b96c1d34e3424a55219ee37087f052", func := "tegula/tegulalaw15.EntrySealed", spec := "entrySealed", apart := false }
def EntrySealedSaid : Prop := entrySealedRow.holds Try.pinned (OpenSpec.ofChange entrySealedSpec)

/-- ITS FALSE NEIGHBOUR: 'it returns false'. Refute it at one input. -/
def entrySealedWrong : ChangeSpec := { name := "entrySealed", fn := fun _ => fun
  | [d] => { results := [.lit (.bool false)], args := [d] }
  | _ => none }
def EntrySealedWrongFalsely : Prop := entrySealedRow.holds Try.pinned (OpenSpec.ofChange entrySealedWrong)

/-- 'tegulalaw15.EntryInverse': WHATEVER THE INPUT: true; the input reads as it did. -/
def entryInverseSpec : ChangeSpec := { name := "entryInverse", fn := fun _ => fun
  | [d1, d2] => { results := [.lit (.bool true)], args := [d1, d2] }
  | _ => none }
def entryInverseRow : OpenClaim := { program := "ytbjafmjeilabiaa", sum := "ebac8255d4ae3546d033af5b70b0e762d3b96c1d34e3424a55219ee37087f052", func := "tegula/tegulalaw15.EntryInverse", spec := "entryInverse", apart := false }
def EntryInverseSaid : Prop := entryInverseRow.holds Try.pinned (OpenSpec.ofChange entryInverseSpec)

/-- ITS FALSE NEIGHBOUR: 'it returns false'. Refute it at one input. -/
def entryInverseWrong : ChangeSpec := { name := "entryInverse", fn := fun _ => fun
  | [d1, d2] => { results := [.lit (.bool false)], args := [d1, d2] }
  | _ => none }
def EntryInverseWrongFalsely : Prop := entryInverseRow.holds Try.pinned (OpenSpec.ofChange entryInverseWrong)

/-- 'tegulalaw15.EntryChanged': WHATEVER THE INPUT: true; the input reads as it did. -/
def entryChangedSpec : ChangeSpec := { name := "entryChanged", fn := fun _ => fun
  | [d1, d2, d3] => { results := [.lit (.bool true)], args := [d1, d2, d3] }
  | _ => none }
def entryChangedRow : OpenClaim := { program := "ytbjafmjeilabiaa", sum := "ebac8255d4ae3546d033af5b70b0e762d3b96c1d34e3424a55219ee37087f052", func := "tegula/tegulalaw15.EntryChanged", spec := "entryChanged", apart := false }
def EntryChangedSaid : Prop := entryChangedRow.holds Try.pinned (OpenSpec.ofChange entryChangedSpec)

/-- ITS FALSE NEIGHBOUR: 'it returns false'. Refute it at one input. -/
def entryChangedWrong : ChangeSpec := { name := "entryChanged", fn := fun _ => fun
  | [d1, d2, d3] => { results := [.lit (.bool false)], args := [d1, d2, d3] }
  | _ => none }
def EntryChangedWrongFalsely : Prop := entryChangedRow.holds Try.pinned (OpenSpec.ofChange entryChangedWrong)

/-- 'tegulalaw15.EntryTorn': WHATEVER THE INPUT: true; the input reads as it did. -/
def entryTornSpec : ChangeSpec := { name := "entryTorn", fn := fun _ => fun
  | [d1, d2, d3] => { results := [.lit (.bool true)], args := [d1, d2, d3] }
  | _ => none }
def entryTornRow : OpenClaim := { program := "ytbjafmjeilabiaa", sum := "ebac8255d4ae3546d033af5b70b0e762d3b96c1d34e3424a55219ee37087f052", func := "tegula/tegulalaw15.EntryTorn", spec := "entryTorn", apart := false }
def EntryTornSaid : Prop := entryTornRow.holds Try.pinned (OpenSpec.ofChange entryTornSpec)

/-- ITS FALSE NEIGHBOUR: 'it returns false'. Refute it at one input. -/
def entryTornWrong : ChangeSpec := { name := "entryTorn", fn := fun _ => fun
  | [d1, d2, d3] => { results := [.lit (.bool false)], args := [d1, d2, d3] }
  | _ => none }
def EntryTornWrongFalsely : Prop := entryTornRow.holds Try.pinned (OpenSpec.ofChange entryTornWrong)

/- THE SECOND FORM. 'bulk': how many values and letters a reading holds, each counted each time it is reached (what is shared counts as often as it is met; a slice's spare places count too). A statement '..UptoSaid' is the law's where the arguments, and the package variables that the reading takes, are together of bulk at most 1048576: NARROWER than '..Said'. Prove '..Said' where nothing that the law and all that it calls make is longer than what came in: it says more and counts as full. Else prove '..UptoSaid'. A law counts once. -/
mutual
def uptoBulk {H : Type} : DataW H → Nat
  | .lit (.string bytes) => bytes.length + 1
  | .lit _ => 1
  | .nil => 1
  | .ptr d => uptoBulk d + 1
  | .slice elems spare => uptoBulkAll elems + uptoBulkAll spare + 1
  | .agg parts => uptoBulkAll parts + 1
  | .iface _ d => uptoBulk d + 1
  | .map entries => uptoBulkEntries entries + 1
  | .held _ => 1
def uptoBulkAll {H : Type} : List (DataW H) → Nat
  | [] => 0
  | d :: r => uptoBulk d + uptoBulkAll r
def uptoBulkEntries {H : Type} : List (Lit × DataW H) → Nat
  | [] => 0
  | x :: r => uptoBulkEntry x + uptoBulkEntries r
def uptoBulkEntry {H : Type} : Lit × DataW H → Nat
  | (.string bytes, d) => bytes.length + uptoBulk d + 1
  | (_, d) => uptoBulk d + 1
 end
def uptoSmall : (H : Type) → List (DataW H) → Bool := fun _ ds => decide (uptoBulkAll ds ≤ 1048576)
def OpenSpec.upto (s : _root_.Go.ChangeSpec) : _root_.Go.OpenSpec := { _root_.Go.OpenSpec.ofChange s with cond := some uptoSmall }

/-- 'tegulalaw15.EntryEncode', WHERE WHAT IT READS IS OF BULK AT MOST 1048576: true; the input reads as it did. -/
def entryEncodeUptoRow : OpenClaim := { program := "ytbjafmjeilabiaa", sum := "ebac8255d4ae3546d033af5b70b0e762d3b96c1d34e3424a55219ee37087f052", func := "tegula/tegulalaw15.EntryEncode", spec := "entryEncode", apart := false, narrowed := true }
def EntryEncodeUptoSaid : Prop := entryEncodeUptoRow.holds Try.pinned (OpenSpec.upto entryEncodeSpec)

/-- 'tegulalaw15.EntryDecode', WHERE WHAT IT READS IS OF BULK AT MOST 1048576: true; the input reads as it did. -/
def entryDecodeUptoRow : OpenClaim := { program := "ytbjafmjeilabiaa", sum := "ebac8255d4ae3546d033af5b70b0e762d3b96c1d34e3424a55219ee37087f052", func := "tegula/tegulalaw15.EntryDecode", spec := "entryDecode", apart := false, narrowed := true }
def EntryDecodeUptoSaid : Prop := entryDecodeUptoRow.holds Try.pinned (OpenSpec.upto entryDecodeSpec)

/-- 'tegulalaw15.EntrySealed', WHERE WHAT IT READS IS OF BULK AT MOST 1048576: true; the input reads as it did. -/
def entrySealedUptoRow : OpenClaim := { program := "ytbjafmjeilabiaa", sum := "ebac8255d4ae3546d033af5b70b0e762d3b96c1d34e3424a55219ee37087f052", func := "tegula/tegulalaw15.EntrySealed", spec := "entrySealed", apart := false, narrowed := true }
def EntrySealedUptoSaid : Prop := entrySealedUptoRow.holds Try.pinned (OpenSpec.upto entrySealedSpec)

/-- 'tegulalaw15.EntryInverse', WHERE WHAT IT READS IS OF BULK AT MOST 1048576: true; the input reads as it did. -/
def entryInverseUptoRow : OpenClaim := { program := "ytbjafmjeilabiaa", sum := "ebac8255d4ae3546d033af5b70b0e762d3b96c1d34e3424a55219ee37087f052", func := "tegula/tegulalaw15.EntryInverse", spec := "entryInverse", apart := false, narrowed := true }
def EntryInverseUptoSaid : Prop := entryInverseUptoRow.holds Try.pinned (OpenSpec.upto entryInverseSpec)

/-- 'tegulalaw15.EntryChanged', WHERE WHAT IT READS IS OF BULK AT MOST 1048576: true; the input reads as it did. -/
def entryChangedUptoRow : OpenClaim := { program := "ytbjafmjeilabiaa", sum := "ebac8255d4ae3546d033af5b70b0e762d3b96c1d34e3424a55219ee37087f052", func := "tegula/tegulalaw15.EntryChanged", spec := "entryChanged", apart := false, narrowed := true }
def EntryChangedUptoSaid : Prop := entryChangedUptoRow.holds Try.pinned (OpenSpec.upto entryChangedSpec)

/-- 'tegulalaw15.EntryTorn', WHERE WHAT IT READS IS OF BULK AT MOST 1048576: true; the input reads as it did. -/
def entryTornUptoRow : OpenClaim := { program := "ytbjafmjeilabiaa", sum := "ebac8255d4ae3546d033af5b70b0e762d3b96c1d34e3424a55219ee37087f052", func := "tegula/tegulalaw15.EntryTorn", spec := "entryTorn", apart := false, narrowed := true }
def EntryTornUptoSaid : Prop := entryTornUptoRow.holds Try.pinned (OpenSpec.upto entryTornSpec)

end Rows
end Go.Proofs.Ytbjafmjeilabiaa
