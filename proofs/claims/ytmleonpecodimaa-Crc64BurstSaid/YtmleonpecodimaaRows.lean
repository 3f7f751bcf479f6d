/-
  No cell of these rows narrows 'for every input' (looked for: loops, veiled, ifaces, maps, wideKeys, modest, calm, conditions, laid).
  DERIVED. THE GIVEN ROWS OF THIS SEAT. 8 by the template 'for every input the law returns true; each argument reads behind the call as it read before'; 0 by the template 'total and deterministic' (their statements: YtmleonpecodimaaTotals.lean).
  GIVEN WITH THE SEED: the statements are not yours to turn. If you find one false, say at which input.
  Laid BY PROGRAM, IN A SANDBOX (cutbox-rows.mjs): the forced cells as the released guide's own fill.sh prints them over the translation afede775e7a15e24… (all of the seat's roots in one cut). By AI agents, Wed Nov 11 2026. No macro, syntax, notation, axiom, sorry.
-/
import Derived.Test.YtmleonpecodimaaChecked
import GoSem.Claim
import GoSem.ClaimJoined
import GoSem.ClaimMapViews
import Derived.JoinedTies
import Derived.KernelRfl
namespace Go.Proofs.Ytmleonpecodimaa
/- THE CELL 'sum', in the pinned program and in every row, IS THE sha256 OF THE DUMP (.gsa) THAT YtmleonpecodimaaProg.lean LOADS. Nothing in Lean hashes anything: it is a label: what it is worth is what the hold of that sum in a sandbox is worth. -/
noncomputable def Try.pinned : Pinned := { name := "ytmleonpecodimaa", sum := "afede775e7a15e2405496c1b9b4fe137d4ec9b0f8db8f4d1fdb9f36767ede8ee", checked := Try.checked }
namespace Rows
def none {H : Type} : Left H := { results := [], args := [] }

/-- 'tegulalaw08.Crc64Sum': WHATEVER THE INPUT: true; the input reads as it did. -/
def crc64SumSpec : ChangeSpec := { name := "crc64Sum", fn := fun _ => fun
  | [d1, d2] => { results := [.lit (.bool true)], args := [d1, d2] }
  | _ => none }
def crc64SumRow : OpenClaim := { program := "ytmleonpecodimaa", sum := "afede775e7a15e2405496c1b9b4fe137d4ec9b0f8db8f4d1fdb9f36767ede8ee", func := "tegula/tegulalaw08.Crc64Sum", spec := "crc64Sum", apart := false }
def Crc64SumSaid : Prop := crc64SumRow.holds Try.pinned (OpenSpec.ofChange crc64SumSpec)

/-- ITS FALSE NEIGHBOUR: 'it returns false'. Refute it at one input. -/
def crc64SumWrong : ChangeSpec := { name := "crc64Sum", fn := fun _ => fun
  | [d1, d2] => { results := [.lit (.bool false)], args := [d1, d2] }
  | _ => none }
def Crc64SumWrongFalsely : Prop := crc64SumRow.holds Try.pinned (OpenSpec.ofChange crc64SumWrong)

/-- 'tegulalaw08.Crc64Update': WHATEVER THE INPUT: true; the input reads as it did. -/
def crc64UpdateSpec : ChangeSpec := { name := "crc64Update", fn := fun _ => fun
  | [d1, d2] => { results := [.lit (.bool true)], args := [d1, d2] }
  | _ => none }
def crc64UpdateRow : OpenClaim := { program := "ytmleonpecodimaa", sum := "afede775e7a15e2405496c1b9b4fe137d4ec9b0f8db8f4d1fdb9f36767ede8ee", func := "tegula/tegulalaw08.Crc64Update", spec := "crc64Update", apart := false }
def Crc64UpdateSaid : Prop := crc64UpdateRow.holds Try.pinned (OpenSpec.ofChange crc64UpdateSpec)

/-- ITS FALSE NEIGHBOUR: 'it returns false'. Refute it at one input. -/
def crc64UpdateWrong : ChangeSpec := { name := "crc64Update", fn := fun _ => fun
  | [d1, d2] => { results := [.lit (.bool false)], args := [d1, d2] }
  | _ => none }
def Crc64UpdateWrongFalsely : Prop := crc64UpdateRow.holds Try.pinned (OpenSpec.ofChange crc64UpdateWrong)

/-- 'tegulalaw08.Crc64Combine': WHATEVER THE INPUT: true; the input reads as it did. -/
def crc64CombineSpec : ChangeSpec := { name := "crc64Combine", fn := fun _ => fun
  | [d1, d2] => { results := [.lit (.bool true)], args := [d1, d2] }
  | _ => none }
def crc64CombineRow : OpenClaim := { program := "ytmleonpecodimaa", sum := "afede775e7a15e2405496c1b9b4fe137d4ec9b0f8db8f4d1fdb9f36767ede8ee", func := "tegula/tegulalaw08.Crc64Combine", spec := "crc64Combine", apart := false }
def Crc64CombineSaid : Prop := crc64CombineRow.holds Try.pinned (OpenSpec.ofChange crc64CombineSpec)

/-- ITS FALSE NEIGHBOUR: 'it returns false'. Refute it at one input. -/
def crc64CombineWrong : ChangeSpec := { name := "crc64Combine", fn := fun _ => fun
  | [d1, d2] => { results := [.lit (.bool false)], args := [d1, d2] }
  | _ => none }
def Crc64CombineWrongFalsely : Prop := crc64CombineRow.holds Try.pinned (OpenSpec.ofChange crc64CombineWrong)

/-- 'tegulalaw08.Crc64Steps': WHATEVER THE INPUT: true; the input reads as it did. -/
def crc64StepsSpec : ChangeSpec := { name := "crc64Steps", fn := fun _ => fun
  | [d1, d2, d3] => { results := [.lit (.bool true)], args := [d1, d2, d3] }
  | _ => none }
def crc64StepsRow : OpenClaim := { program := "ytmleonpecodimaa", sum := "afede775e7a15e2405496c1b9b4fe137d4ec9b0f8db8f4d1fdb9f36767ede8ee", func := "tegula/tegulalaw08.Crc64Steps", spec := "crc64Steps", apart := false }
def Crc64StepsSaid : Prop := crc64StepsRow.holds Try.pinned (OpenSpec.ofChange crc64StepsSpec)

/-- ITS FALSE NEIGHBOUR: 'it returns false'. Refute it at one input. -/
def crc64StepsWrong : ChangeSpec := { name := "crc64Steps", fn := fun _ => fun
  | [d1, d2, d3] => { results := [.lit (.bool false)], args := [d1, d2, d3] }
  | _ => none }
def Crc64StepsWrongFalsely : Prop := crc64StepsRow.holds Try.pinned (OpenSpec.ofChange crc64StepsWrong)

/-- 'tegulalaw08.Crc64Far': WHATEVER THE INPUT: true; the input reads as it did. -/
def crc64FarSpec : ChangeSpec := { name := "crc64Far", fn := fun _ => fun
  | [d1, d2, d3] => { results := [.lit (.bool true)], args := [d1, d2, d3] }
  | _ => none }
def crc64FarRow : OpenClaim := { program := "ytmleonpecodimaa", sum := "afede775e7a15e2405496c1b9b4fe137d4ec9b0f8db8f4d1fdb9f36767ede8ee", func := "tegula/tegulalaw08.Crc64Far", spec := "crc64Far", apart := false }
def Crc64FarSaid : Prop := crc64FarRow.holds Try.pinned (OpenSpec.ofChange crc64FarSpec)

/-- ITS FALSE NEIGHBOUR: 'it returns false'. Refute it at one input. -/
def crc64FarWrong : ChangeSpec := { name := "crc64Far", fn := fun _ => fun
  | [d1, d2, d3] => { results := [.lit (.bool false)], args := [d1, d2, d3] }
  | _ => none }
def Crc64FarWrongFalsely : Prop := crc64FarRow.holds Try.pinned (OpenSpec.ofChange crc64FarWrong)

/-- 'tegulalaw08.Crc64Linear': WHATEVER THE INPUT: true; the input reads as it did. -/
def crc64LinearSpec : ChangeSpec := { name := "crc64Linear", fn := fun _ => fun
  | [d1, d2, d3] => { results := [.lit (.bool true)], args := [d1, d2, d3] }
  | _ => none }
def crc64LinearRow : OpenClaim := { program := "ytmleonpecodimaa", sum := "afede775e7a15e2405496c1b9b4fe137d4ec9b0f8db8f4d1fdb9f36767ede8ee", func := "tegula/tegulalaw08.Crc64Linear", spec := "crc64Linear", apart := false }
def Crc64LinearSaid : Prop := crc64LinearRow.holds Try.pinned (OpenSpec.ofChange crc64LinearSpec)

/-- ITS FALSE NEIGHBOUR: 'it returns false'. Refute it at one input. -/
def crc64LinearWrong : ChangeSpec := { name := "crc64Linear", fn := fun _ => fun
  | [d1, d2, d3] => { results := [.lit (.bool false)], args := [d1, d2, d3] }
  | _ => none }
def Crc64LinearWrongFalsely : Prop := crc64LinearRow.holds Try.pinned (OpenSpec.ofChange crc64LinearWrong)

/-- 'tegulalaw08.Crc64Short': WHATEVER THE INPUT: true; the input reads as it did. -/
def crc64ShortSpec : ChangeSpec := { name := "crc64Short", fn := fun _ => fun
  | [d1, d2, d3] => { results := [.lit (.bool true)], args := [d1, d2, d3] }
  | _ => none }
def crc64ShortRow : OpenClaim := { program := "ytmleonpecodimaa", sum := "afede775e7a15e2405496c1b9b4fe137d4ec9b0f8db8f4d1fdb9f36767ede8ee", func := "tegula/tegulalaw08.Crc64Short", spec := "crc64Short", apart := false }
def Crc64ShortSaid : Prop := crc64ShortRow.holds Try.pinned (OpenSpec.ofChange crc64ShortSpec)

/-- ITS FALSE NEIGHBOUR: 'it returns false'. Refute it at one input. -/
def crc64ShortWrong : ChangeSpec := { name := "crc64Short", fn := fun _ => fun
  | [d1, d2, d3] => { results := [.lit (.bool false)], args := [d1, d2, d3] }
  | _ => none }
def Crc64ShortWrongFalsely : Prop := crc64ShortRow.holds Try.pinned (OpenSpec.ofChange crc64ShortWrong)

/-- 'tegulalaw08.Crc64Burst': WHATEVER THE INPUT: true; the input reads as it did. -/
def crc64BurstSpec : ChangeSpec := { name := "crc64Burst", fn := fun _ => fun
  | [d1, d2, d3] => { results := [.lit (.bool true)], args := [d1, d2, d3] }
  | _ => none }
def crc64BurstRow : OpenClaim := { program := "ytmleonpecodimaa", sum := "afede775e7a15e2405496c1b9b4fe137d4ec9b0f8db8f4d1fdb9f36767ede8ee", func := "tegula/tegulalaw08.Crc64Burst", spec := "crc64Burst", apart := false }
def Crc64BurstSaid : Prop := crc64BurstRow.holds Try.pinned (OpenSpec.ofChange crc64BurstSpec)

/-- ITS FALSE NEIGHBOUR: 'it returns false'. Refute it at one input. -/
def crc64BurstWrong : ChangeSpec := { name := "crc64Burst", fn := fun _ => fun
  | [d1, d2, d3] => { results := [.lit (.bool false)], args := [d1, d2, d3] }
  | _ => none }
def Crc64BurstWrongFalsely : Prop := crc64BurstRow.holds Try.pinned (OpenSpec.ofChange crc64BurstWrong)

/- THE SECOND FORM. 'bulk': how many values and letters a reading holds, each counted each time it is reached (what is shared counts as often as it is met; a slice's spare places count too). A statement '..UptoSaid' is the law's where the arguments, and the package variables that the reading takes, are together of bulk at most 1048576: NARROWER than '..Said'. Prove '..Said' where nothing that the law and all that it calls make is longer than what came in: it says more and counts as full. Else prove '..UptoSaid'. A law counts once. -/
mutual
def uptoBulk {H : Type} : DataW H → Nat
  | .lit (.string bytes) => bytes.length + 1
  | .lit _ => 1
  | .nil => 1
  | .ptr d => uptoBulk d + 1
  | .slice elems spare => uptoBulkAll elems + uptoBulkAll spare + 1
  | .agg parts => uptoBulkAll parts + 1
  | .iface _ d => uptoBulk d + 1
  | .map entries => uptoBulkEntries entries + 1
  | .held _ => 1
def uptoBulkAll {H : Type} : List (DataW H) → Nat
  | [] => 0
  | d :: r => uptoBulk d + uptoBulkAll r
def uptoBulkEntries {H : Type} : List (Lit × DataW H) → Nat
  | [] => 0
  | x :: r => uptoBulkEntry x + uptoBulkEntries r
def uptoBulkEntry {H : Type} : Lit × DataW H → Nat
  | (.string bytes, d) => bytes.length + uptoBulk d + 1
  | (_, d) => uptoBulk d + 1
 end
def uptoSmall : (H : Type) → List (DataW H) → Bool := fun _ ds => decide (uptoBulkAll ds ≤ 1048576)
def OpenSpec.upto (s : _root_.Go.ChangeSpec) : _root_.Go.OpenSpec := { _root_.Go.OpenSpec.ofChange s with cond := some uptoSmall }

/-- 'tegulalaw08.Crc64Sum', WHERE WHAT IT READS IS OF BULK AT MOST 1048576: true; the input reads as it did. -/
def crc64SumUptoRow : OpenClaim := { program := "ytmleonpecodimaa", sum := "afede775e7a15e2405496c1b9b4fe137d4ec9b0f8db8f4d1fdb9f36767ede8ee", func := "tegula/tegulalaw08.Crc64Sum", spec := "crc64Sum", apart := false, narrowed := true }
def Crc64SumUptoSaid : Prop := crc64SumUptoRow.holds Try.pinned (OpenSpec.upto crc64SumSpec)

/-- 'tegulalaw08.Crc64Update', WHERE WHAT IT READS IS OF BULK AT MOST 1048576: true; the input reads as it did. -/
def crc64UpdateUptoRow : OpenClaim := { program := "ytmleonpecodimaa", sum := "afede775e7a15e2405496c1b9b4fe137d4ec9b0f8db8f4d1fdb9f36767ede8ee", func := "tegula/tegulalaw08.Crc64Update", spec := "crc64Update", apart := false, narrowed := true }
def Crc64UpdateUptoSaid : Prop := crc64UpdateUptoRow.holds Try.pinned (OpenSpec.upto crc64UpdateSpec)

/-- 'tegulalaw08.Crc64Combine', WHERE WHAT IT READS IS OF BULK AT MOST 1048576: true; the input reads as it did. -/
def crc64CombineUptoRow : OpenClaim := { program := "ytmleonpecodimaa", sum := "afede775e7a15e2405496c1b9b4fe137d4ec9b0f8db8f4d1fdb9f36767ede8ee", func := "tegula/tegulalaw08.Crc64Combine", spec := "crc64Combine", apart := false, narrowed := true }
def Crc64CombineUptoSaid : Prop := crc64CombineUptoRow.holds Try.pinned (OpenSpec.upto crc64CombineSpec)

/-- 'tegulalaw08.Crc64Steps', WHERE WHAT IT READS IS OF BULK AT MOST 1048576: true; the input reads as it did. -/
def crc64StepsUptoRow : OpenClaim := { program := "ytmleonpecodimaa", sum := "afede775e7a15e2405496c1b9b4fe137d4ec9b0f8db8f4d1fdb9f36767ede8ee", func := "tegula/tegulalaw08.Crc64Steps", spec := "crc64Steps", apart := false, narrowed := true }
def Crc64StepsUptoSaid : Prop := crc64StepsUptoRow.holds Try.pinned (OpenSpec.upto crc64StepsSpec)

/-- 'tegulalaw08.Crc64Far', WHERE WHAT IT READS IS OF BULK AT MOST 1048576: true; the input reads as it did. -/
def crc64FarUptoRow : OpenClaim := { program := "ytmleonpecodimaa", sum := "afede775e7a15e2405496c1b9b4fe137d4ec9b0f8db8f4d1fdb9f36767ede8ee", func := "tegula/tegulalaw08.Crc64Far", spec := "crc64Far", apart := false, narrowed := true }
def Crc64FarUptoSaid : Prop := crc64FarUptoRow.holds Try.pinned (OpenSpec.upto crc64FarSpec)

/-- 'tegulalaw08.Crc64Linear', WHERE WHAT IT READS IS OF BULK AT MOST 1048576: true; the input reads as it did. -/
def crc64LinearUptoRow : OpenClaim := { program := "ytmleonpecodimaa", sum := "afede775e7a15e2405496c1b9b4fe137d4ec9b0f8db8f4d1fdb9f36767ede8ee", func := "tegula/tegulalaw08.Crc64Linear", spec := "crc64Linear", apart := false, narrowed := true }
def Crc64LinearUptoSaid : Prop := crc64LinearUptoRow.holds Try.pinned (OpenSpec.upto crc64LinearSpec)

/-- 'tegulalaw08.Crc64Short', WHERE WHAT IT READS IS OF BULK AT MOST 1048576: true; the input reads as it did. -/
def crc64ShortUptoRow : OpenClaim := { program := "ytmleonpecodimaa", sum := "afede775e7a15e2405496c1b9b4fe137d4ec9b0f8db8f4d1fdb9f36767ede8ee", func := "tegula/tegulalaw08.Crc64Short", spec := "crc64Short", apart := false, narrowed := true }
def Crc64ShortUptoSaid : Prop := crc64ShortUptoRow.holds Try.pinned (OpenSpec.upto crc64ShortSpec)

/-- 'tegulalaw08.Crc64Burst', WHERE WHAT IT READS IS OF BULK AT MOST 1048576: true; the input reads as it did. -/
def crc64BurstUptoRow : OpenClaim := { program := "ytmleonpecodimaa", sum := "afede775e7a15e2405496c1b9b4fe137d4ec9b0f8db8f4d1fdb9f36767ede8ee", func := "tegula/tegulalaw08.Crc64Burst", spec := "crc64Burst", apart := false, narrowed := true }
def Crc64BurstUptoSaid : Prop := crc64BurstUptoRow.holds Try.pinned (OpenSpec.upto crc64BurstSpec)

end Rows
end Go.Proofs.Ytmleonpecodimaa
