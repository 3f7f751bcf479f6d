/-
  No cell of these rows narrows 'for every input' (looked for: loops, veiled, ifaces, maps, wideKeys, modest, calm, conditions, laid).
  DERIVED. THE GIVEN ROWS OF THIS SEAT. 7 by the template 'for every input the law returns true; each argument reads behind the call as it read before'; 0 by the template 'total and deterministic' (their statements: YthjcdikpomlpmaaTotals.lean).
  GIVEN WITH THE SEED: the statements are not yours to turn. If you find one false, say at which input.
  Laid BY PROGRAM, IN A SANDBOX (cutbox-rows.mjs): the forced cells as the released guide's own fill.sh prints them over the translation 2cd03f48a8122642… (all of the seat's roots in one cut). By AI agents, Wed Nov 11 2026. No macro, syntax, notation, axiom, sorry.
-/
import Derived.Test.YthjcdikpomlpmaaChecked
import GoSem.Claim
import GoSem.ClaimJoined
import GoSem.ClaimMapViews
import Derived.JoinedTies
import Derived.KernelRfl
namespace Go.Proofs.Ythjcdikpomlpmaa
/- THE CELL 'sum', in the pinned program and in every row, IS THE sha256 OF THE DUMP (.gsa) THAT YthjcdikpomlpmaaProg.lean LOADS. Nothing in Lean hashes anything: it is a label: what it is worth is what the hold of that sum in a sandbox is worth. -/
noncomputable def Try.pinned : Pinned := { name := "ythjcdikpomlpmaa", sum := "2cd03f48a8122642f2f8763174f663728db0ec001b8af6740e010040c2b6ba1f", checked := Try.checked }
namespace Rows
def none {H : Type} : Left H := { results := [], args := [] }

/-- 'tegulalaw30.LabelEncode': WHATEVER THE INPUT: true; the input reads as it did. -/
def labelEncodeSpec : ChangeSpec := { name := "labelEncode", fn := fun _ => fun
  | [d] => { results := [.lit (.bool true)], args := [d] }
  | _ => none }
def labelEncodeRow : OpenClaim := { program := "ythjcdikpomlpmaa", sum := "2cd03f48a8122642f2f8763174f663728db0ec001b8af6740e010040c2b6ba1f", func := "tegula/tegulalaw30.LabelEncode", spec := "labelEncode", unfollowed := true, recurses := true, apart := false }
def LabelEncodeSaid : Prop := labelEncodeRow.holds Try.pinned (OpenSpec.ofChange labelEncodeSpec)

/-- ITS FALSE NEIGHBOUR: 'it returns false'. Refute it at one input. -/
def labelEncodeWrong : ChangeSpec := { name := "labelEncode", fn := fun _ => fun
  | [d] => { results := [.lit (.bool false)], args := [d] }
  | _ => none }
def LabelEncodeWrongFalsely : Prop := labelEncodeRow.holds Try.pinned (OpenSpec.ofChange labelEncodeWrong)

/-- 'tegulalaw30.LabelAreas': WHATEVER THE INPUT: true; the input reads as it did. -/
def labelAreasSpec : ChangeSpec := { name := "labelAreas", fn := fun _ => fun
  | [d1, d2] => { results := [.lit (.bool true)], args := [d1, d2] }
  | _ => none }
def labelAreasRow : OpenClaim := { program := "ythjcdikpomlpmaa", sum := "2cd03f48a8122642f2f8763174f663728db0ec001b8af6740e010040c2b6ba1f", func := "tegula/tegulalaw30.LabelAreas", spec := "labelAreas", unfollowed := true, recurses := true, apart := false }
def LabelAreasSaid : Prop := labelAreasRow.holds Try.pinned (OpenSpec.ofChange labelAreasSpec)

/-- ITS FALSE NEIGHBOUR: 'it returns false'. Refute it at one input. -/
def labelAreasWrong : ChangeSpec := { name := "labelAreas", fn := fun _ => fun
  | [d1, d2] => { results := [.lit (.bool false)], args := [d1, d2] }
  | _ => none }
def LabelAreasWrongFalsely : Prop := labelAreasRow.holds Try.pinned (OpenSpec.ofChange labelAreasWrong)

/-- 'tegulalaw30.LabelValid': WHATEVER THE INPUT: true; the input reads as it did. -/
def labelValidSpec : ChangeSpec := { name := "labelValid", fn := fun _ => fun
  | [d1, d2] => { results := [.lit (.bool true)], args := [d1, d2] }
  | _ => none }
def labelValidRow : OpenClaim := { program := "ythjcdikpomlpmaa", sum := "2cd03f48a8122642f2f8763174f663728db0ec001b8af6740e010040c2b6ba1f", func := "tegula/tegulalaw30.LabelValid", spec := "labelValid", unfollowed := true, recurses := true, apart := false }
def LabelValidSaid : Prop := labelValidRow.holds Try.pinned (OpenSpec.ofChange labelValidSpec)

/-- ITS FALSE NEIGHBOUR: 'it returns false'. Refute it at one input. -/
def labelValidWrong : ChangeSpec := { name := "labelValid", fn := fun _ => fun
  | [d1, d2] => { results := [.lit (.bool false)], args := [d1, d2] }
  | _ => none }
def LabelValidWrongFalsely : Prop := labelValidRow.holds Try.pinned (OpenSpec.ofChange labelValidWrong)

/-- 'tegulalaw30.LabelDecode': WHATEVER THE INPUT: true; the input reads as it did. -/
def labelDecodeSpec : ChangeSpec := { name := "labelDecode", fn := fun _ => fun
  | [d] => { results := [.lit (.bool true)], args := [d] }
  | _ => none }
def labelDecodeRow : OpenClaim := { program := "ythjcdikpomlpmaa", sum := "2cd03f48a8122642f2f8763174f663728db0ec001b8af6740e010040c2b6ba1f", func := "tegula/tegulalaw30.LabelDecode", spec := "labelDecode", unfollowed := true, recurses := true, apart := false }
def LabelDecodeSaid : Prop := labelDecodeRow.holds Try.pinned (OpenSpec.ofChange labelDecodeSpec)

/-- ITS FALSE NEIGHBOUR: 'it returns false'. Refute it at one input. -/
def labelDecodeWrong : ChangeSpec := { name := "labelDecode", fn := fun _ => fun
  | [d] => { results := [.lit (.bool false)], args := [d] }
  | _ => none }
def LabelDecodeWrongFalsely : Prop := labelDecodeRow.holds Try.pinned (OpenSpec.ofChange labelDecodeWrong)

/-- 'tegulalaw30.LabelPayload': WHATEVER THE INPUT: true; the input reads as it did. -/
def labelPayloadSpec : ChangeSpec := { name := "labelPayload", fn := fun _ => fun
  | [d1, d2, d3] => { results := [.lit (.bool true)], args := [d1, d2, d3] }
  | _ => none }
def labelPayloadRow : OpenClaim := { program := "ythjcdikpomlpmaa", sum := "2cd03f48a8122642f2f8763174f663728db0ec001b8af6740e010040c2b6ba1f", func := "tegula/tegulalaw30.LabelPayload", spec := "labelPayload", unfollowed := true, recurses := true, apart := false }
def LabelPayloadSaid : Prop := labelPayloadRow.holds Try.pinned (OpenSpec.ofChange labelPayloadSpec)

/-- ITS FALSE NEIGHBOUR: 'it returns false'. Refute it at one input. -/
def labelPayloadWrong : ChangeSpec := { name := "labelPayload", fn := fun _ => fun
  | [d1, d2, d3] => { results := [.lit (.bool false)], args := [d1, d2, d3] }
  | _ => none }
def LabelPayloadWrongFalsely : Prop := labelPayloadRow.holds Try.pinned (OpenSpec.ofChange labelPayloadWrong)

/-- 'tegulalaw30.LabelRoundTrip': WHATEVER THE INPUT: true; the input reads as it did. -/
def labelRoundTripSpec : ChangeSpec := { name := "labelRoundTrip", fn := fun _ => fun
  | [d1, d2, d3] => { results := [.lit (.bool true)], args := [d1, d2, d3] }
  | _ => none }
def labelRoundTripRow : OpenClaim := { program := "ythjcdikpomlpmaa", sum := "2cd03f48a8122642f2f8763174f663728db0ec001b8af6740e010040c2b6ba1f", func := "tegula/tegulalaw30.LabelRoundTrip", spec := "labelRoundTrip", unfollowed := true, recurses := true, apart := false }
def LabelRoundTripSaid : Prop := labelRoundTripRow.holds Try.pinned (OpenSpec.ofChange labelRoundTripSpec)

/-- ITS FALSE NEIGHBOUR: 'it returns false'. Refute it at one input. -/
def labelRoundTripWrong : ChangeSpec := { name := "labelRoundTrip", fn := fun _ => fun
  | [d1, d2, d3] => { results := [.lit (.bool false)], args := [d1, d2, d3] }
  | _ => none }
def LabelRoundTripWrongFalsely : Prop := labelRoundTripRow.holds Try.pinned (OpenSpec.ofChange labelRoundTripWrong)

/-- 'tegulalaw30.LabelNewest': WHATEVER THE INPUT: true; the input reads as it did. -/
def labelNewestSpec : ChangeSpec := { name := "labelNewest", fn := fun _ => fun
  | [d1, d2] => { results := [.lit (.bool true)], args := [d1, d2] }
  | _ => none }
def labelNewestRow : OpenClaim := { program := "ythjcdikpomlpmaa", sum := "2cd03f48a8122642f2f8763174f663728db0ec001b8af6740e010040c2b6ba1f", func := "tegula/tegulalaw30.LabelNewest", spec := "labelNewest", unfollowed := true, recurses := true, apart := false }
def LabelNewestSaid : Prop := labelNewestRow.holds Try.pinned (OpenSpec.ofChange labelNewestSpec)

/-- ITS FALSE NEIGHBOUR: 'it returns false'. Refute it at one input. -/
def labelNewestWrong : ChangeSpec := { name := "labelNewest", fn := fun _ => fun
  | [d1, d2] => { results := [.lit (.bool false)], args := [d1, d2] }
  | _ => none }
def LabelNewestWrongFalsely : Prop := labelNewestRow.holds Try.pinned (OpenSpec.ofChange labelNewestWrong)

/- THE SECOND FORM. 'bulk': how many values and letters a reading holds, each counted each time it is reached (what is shared counts as often as it is met; a slice's spare places count too). A statement '..UptoSaid' is the law's where the arguments, and the package variables that the reading takes, are together of bulk at most 1048576: NARROWER than '..Said'. Prove '..Said' where nothing that the law and all that it calls make is longer than what came in: it says more and counts as full. Else prove '..UptoSaid'. A law counts once. -/
mutual
def uptoBulk {H : Type} : DataW H → Nat
  | .lit (.string bytes) => bytes.length + 1
  | .lit _ => 1
  | .nil => 1
  | .ptr d => uptoBulk d + 1
  | .slice elems spare => uptoBulkAll elems + uptoBulkAll spare + 1
  | .agg parts => uptoBulkAll parts + 1
  | .iface _ d => uptoBulk d + 1
  | .map entries => uptoBulkEntries entries + 1
  | .held _ => 1
def uptoBulkAll {H : Type} : List (DataW H) → Nat
  | [] => 0
  | d :: r => uptoBulk d + uptoBulkAll r
def uptoBulkEntries {H : Type} : List (Lit × DataW H) → Nat
  | [] => 0
  | x :: r => uptoBulkEntry x + uptoBulkEntries r
def uptoBulkEntry {H : Type} : Lit × DataW H → Nat
  | (.string bytes, d) => bytes.length + uptoBulk d + 1
  | (_, d) => uptoBulk d + 1
 end
def uptoSmall : (H : Type) → List (DataW H) → Bool := fun _ ds => decide (uptoBulkAll ds ≤ 1048576)
def OpenSpec.upto (s : _root_.Go.ChangeSpec) : _root_.Go.OpenSpec := { _root_.Go.OpenSpec.ofChange s with cond := some uptoSmall }

/-- 'tegulalaw30.LabelEncode', WHERE WHAT IT READS IS OF BULK AT MOST 1048576: true; the input reads as it did. -/
def labelEncodeUptoRow : OpenClaim := { program := "ythjcdikpomlpmaa", sum := "2cd03f48a8122642f2f8763174f663728db0ec001b8af6740e010040c2b6ba1f", func := "tegula/tegulalaw30.LabelEncode", spec := "labelEncode", unfollowed := true, recurses := true, apart := false, narrowed := true }
def LabelEncodeUptoSaid : Prop := labelEncodeUptoRow.holds Try.pinned (OpenSpec.upto labelEncodeSpec)

/-- 'tegulalaw30.LabelAreas', WHERE WHAT IT READS IS OF BULK AT MOST 1048576: true; the input reads as it did. -/
def labelAreasUptoRow : OpenClaim := { program := "ythjcdikpomlpmaa", sum := "2cd03f48a8122642f2f8763174f663728db0ec001b8af6740e010040c2b6ba1f", func := "tegula/tegulalaw30.LabelAreas", spec := "labelAreas", unfollowed := true, recurses := true, apart := false, narrowed := true }
def LabelAreasUptoSaid : Prop := labelAreasUptoRow.holds Try.pinned (OpenSpec.upto labelAreasSpec)

/-- 'tegulalaw30.LabelValid', WHERE WHAT IT READS IS OF BULK AT MOST 1048576: true; the input reads as it did. -/
def labelValidUptoRow : OpenClaim := { program := "ythjcdikpomlpmaa", sum := "2cd03f48a8122642f2f8763174f663728db0ec001b8af6740e010040c2b6ba1f", func := "tegula/tegulalaw30.LabelValid", spec := "labelValid", unfollowed := true, recurses := true, apart := false, narrowed := true }
def LabelValidUptoSaid : Prop := labelValidUptoRow.holds Try.pinned (OpenSpec.upto labelValidSpec)

/-- 'tegulalaw30.LabelDecode', WHERE WHAT IT READS IS OF BULK AT MOST 1048576: true; the input reads as it did. -/
def labelDecodeUptoRow : OpenClaim := { program := "ythjcdikpomlpmaa", sum := "2cd03f48a8122642f2f8763174f663728db0ec001b8af6740e010040c2b6ba1f", func := "tegula/tegulalaw30.LabelDecode", spec := "labelDecode", unfollowed := true, recurses := true, apart := false, narrowed := true }
def LabelDecodeUptoSaid : Prop := labelDecodeUptoRow.holds Try.pinned (OpenSpec.upto labelDecodeSpec)

/-- 'tegulalaw30.LabelPayload', WHERE WHAT IT READS IS OF BULK AT MOST 1048576: true; the input reads as it did. -/
def labelPayloadUptoRow : OpenClaim := { program := "ythjcdikpomlpmaa", sum := "2cd03f48a8122642f2f8763174f663728db0ec001b8af6740e010040c2b6ba1f", func := "tegula/tegulalaw30.LabelPayload", spec := "labelPayload", unfollowed := true, recurses := true, apart := false, narrowed := true }
def LabelPayloadUptoSaid : Prop := labelPayloadUptoRow.holds Try.pinned (OpenSpec.upto labelPayloadSpec)

/-- 'tegulalaw30.LabelRoundTrip', WHERE WHAT IT READS IS OF BULK AT MOST 1048576: true; the input reads as it did. -/
def labelRoundTripUptoRow : OpenClaim := { program := "ythjcdikpomlpmaa", sum := "2cd03f48a8122642f2f8763174f663728db0ec001b8af6740e010040c2b6ba1f", func := "tegula/tegulalaw30.LabelRoundTrip", spec := "labelRoundTrip", unfollowed := true, recurses := true, apart := false, narrowed := true }
def LabelRoundTripUptoSaid : Prop := labelRoundTripUptoRow.holds Try.pinned (OpenSpec.upto labelRoundTripSpec)

/-- 'tegulalaw30.LabelNewest', WHERE WHAT IT READS IS OF BULK AT MOST 1048576: true; the input reads as it did. -/
def labelNewestUptoRow : OpenClaim := { program := "ythjcdikpomlpmaa", sum := "2cd03f48a8122642f2f8763174f663728db0ec001b8af6740e010040c2b6ba1f", func := "tegula/tegulalaw30.LabelNewest", spec := "labelNewest", unfollowed := true, recurses := true, apart := false, narrowed := true }
def LabelNewestUptoSaid : Prop := labelNewestUptoRow.holds Try.pinned (OpenSpec.upto labelNewestSpec)

end Rows
end Go.Proofs.Ythjcdikpomlpmaa
