/-
  NARROWER THAN 'FOR EVERY INPUT', by the rows' own cells (each row's printed sentence says how): WholeImport: laid · WholeLog: laid.
  DERIVED. THE GIVEN ROWS OF THIS SEAT. 2 by the template 'for every input the law returns true; each argument reads behind the call as it read before'; 0 by the template 'total and deterministic' (their statements: YtjabgpejmnpamaaGreatDoorTotals.lean).
  GIVEN WITH THE SEED: the statements are not yours to turn. If you find one false, say at which input.
  Laid BY PROGRAM, IN A SANDBOX (cutbox-rows.mjs): the forced cells as the released guide's own fill.sh prints them over the translation be8157d2bf0ff97d… (all of the seat's roots in one cut). By AI agents, Wed Nov 11 2026. No macro, syntax, notation, axiom, sorry.
-/
import Derived.Test.YtjabgpejmnpamaaGreatDoorChecked
import GoSem.Claim
import GoSem.ClaimJoined
import GoSem.ClaimMapViews
import Derived.JoinedTies
import Derived.KernelRfl
namespace Go.Proofs.YtjabgpejmnpamaaGreatDoor
/- THE CELL 'sum', in the pinned program and in every row, IS THE sha256 OF THE DUMP (.gsa) THAT YtjabgpejmnpamaaGreatDoorProg.lean LOADS. Nothing in Lean hashes anything: it is a label: what it is worth is what the hold of that sum in a sandbox is worth. -/
noncomputable def Tryz.pinned : Pinned := { name := "ytjabgpejmnpamaagreatdoor", sum := "be8157d2bf0ff97db2f61b2cc01e838c07d35028432d6b0d484048e695eab407", checked := Tryz.checked }
namespace Rows
def none {H : Type} : Left H := { results := [], args := [] }

/- WHAT THE LISTED PACKAGE-LEVEL VARIABLES READ AS WHEN THE CALL BEGINS. Each datum BY PROGRAM (the guide's laid-datum.mjs) off the statement by which the dump's own 'gosem.cut.vars' lays the variable. In a bare row this is a premise. The card (YtjabgpejmnpamaaGreatDoorCards.lean) ties it to the program's text. -/
def laid_tegula_tegulatop_small {H : Type} : DataW H := .agg [.lit (.int .i64 60), .lit (.int .i64 5), .lit (.int .i64 2), .lit (.int .i64 3), .lit (.int .i64 1)]

/-- 'tegulatop.WholeImport': WHATEVER THE INPUT: true; the input reads as it did. -/
def wholeImportSpec : ChangeSpec := { name := "wholeImport", fn := fun _ => fun
  | [d1, d2, d3, d4] => { results := [.lit (.bool true)], args := [d1, d2, d3, d4] }
  | _ => none }
def wholeImportRow : OpenClaim := { program := "ytjabgpejmnpamaagreatdoor", sum := "be8157d2bf0ff97db2f61b2cc01e838c07d35028432d6b0d484048e695eab407", func := "tegula/tegulatop.WholeImport", spec := "wholeImport", unfollowed := true, recurses := true, named := ["tegula/tegulatop.small"], plainKeys := false, apart := false, laid := [("tegula/tegulatop.small", laid_tegula_tegulatop_small)] }
def WholeImportSaid : Prop := wholeImportRow.holds Tryz.pinned (OpenSpec.ofChange wholeImportSpec)

/-- ITS FALSE NEIGHBOUR: 'it returns false'. Refute it at one input. -/
def wholeImportWrong : ChangeSpec := { name := "wholeImport", fn := fun _ => fun
  | [d1, d2, d3, d4] => { results := [.lit (.bool false)], args := [d1, d2, d3, d4] }
  | _ => none }
def WholeImportWrongFalsely : Prop := wholeImportRow.holds Tryz.pinned (OpenSpec.ofChange wholeImportWrong)

/-- 'tegulatop.WholeLog': WHATEVER THE INPUT: true; the input reads as it did. -/
def wholeLogSpec : ChangeSpec := { name := "wholeLog", fn := fun _ => fun
  | [d1, d2, d3, d4, d5] => { results := [.lit (.bool true)], args := [d1, d2, d3, d4, d5] }
  | _ => none }
def wholeLogRow : OpenClaim := { program := "ytjabgpejmnpamaagreatdoor", sum := "be8157d2bf0ff97db2f61b2cc01e838c07d35028432d6b0d484048e695eab407", func := "tegula/tegulatop.WholeLog", spec := "wholeLog", unfollowed := true, recurses := true, named := ["tegula/tegulatop.small"], plainKeys := false, apart := false, laid := [("tegula/tegulatop.small", laid_tegula_tegulatop_small)] }
def WholeLogSaid : Prop := wholeLogRow.holds Tryz.pinned (OpenSpec.ofChange wholeLogSpec)

/-- ITS FALSE NEIGHBOUR: 'it returns false'. Refute it at one input. -/
def wholeLogWrong : ChangeSpec := { name := "wholeLog", fn := fun _ => fun
  | [d1, d2, d3, d4, d5] => { results := [.lit (.bool false)], args := [d1, d2, d3, d4, d5] }
  | _ => none }
def WholeLogWrongFalsely : Prop := wholeLogRow.holds Tryz.pinned (OpenSpec.ofChange wholeLogWrong)

/- THE SECOND FORM. 'bulk': how many values and letters a reading holds, each counted each time it is reached (what is shared counts as often as it is met; a slice's spare places count too). A statement '..UptoSaid' is the law's where the arguments, and the package variables that the reading takes, are together of bulk at most 1048576: NARROWER than '..Said'. Prove '..Said' where nothing that the law and all that it calls make is longer than what came in: it says more and counts as full. Else prove '..UptoSaid'. A law counts once. -/
mutual
def uptoBulk {H : Type} : DataW H → Nat
  | .lit (.string bytes) => bytes.length + 1
  | .lit _ => 1
  | .nil => 1
  | .ptr d => uptoBulk d + 1
  | .slice elems spare => uptoBulkAll elems + uptoBulkAll spare + 1
  | .agg parts => uptoBulkAll parts + 1
  | .iface _ d => uptoBulk d + 1
  | .map entries => uptoBulkEntries entries + 1
  | .held _ => 1
def uptoBulkAll {H : Type} : List (DataW H) → Nat
  | [] => 0
  | d :: r => uptoBulk d + uptoBulkAll r
def uptoBulkEntries {H : Type} : List (Lit × DataW H) → Nat
  | [] => 0
  | x :: r => uptoBulkEntry x + uptoBulkEntries r
def uptoBulkEntry {H : Type} : Lit × DataW H → Nat
  | (.string bytes, d) => bytes.length + uptoBulk d + 1
  | (_, d) => uptoBulk d + 1
 end
def uptoSmall : (H : Type) → List (DataW H) → Bool := fun _ ds => decide (uptoBulkAll ds ≤ 1048576)
def OpenSpec.upto (s : _root_.Go.ChangeSpec) : _root_.Go.OpenSpec := { _root_.Go.OpenSpec.ofChange s with cond := some uptoSmall }

/-- 'tegulatop.WholeImport', WHERE WHAT IT READS IS OF BULK AT MOST 1048576: true; the input reads as it did. -/
def wholeImportUptoRow : OpenClaim := { program := "ytjabgpejmnpamaagreatdoor", sum := "be8157d2bf0ff97db2f61b2cc01e838c07d35028432d6b0d484048e695eab407", func := "tegula/tegulatop.WholeImport", spec := "wholeImport", unfollowed := true, recurses := true, named := ["tegula/tegulatop.small"], plainKeys := false, apart := false, laid := [("tegula/tegulatop.small", laid_tegula_tegulatop_small)], narrowed := true }
def WholeImportUptoSaid : Prop := wholeImportUptoRow.holds Tryz.pinned (OpenSpec.upto wholeImportSpec)

/-- 'tegulatop.WholeLog', WHERE WHAT IT READS IS OF BULK AT MOST 1048576: true; the input reads as it did. -/
def wholeLogUptoRow : OpenClaim := { program := "ytjabgpejmnpamaagreatdoor", sum := "be8157d2bf0ff97db2f61b2cc01e838c07d35028432d6b0d484048e695eab407", func := "tegula/tegulatop.WholeLog", spec := "wholeLog", unfollowed := true, recurses := true, named := ["tegula/tegulatop.small"], plainKeys := false, apart := false, laid := [("tegula/tegulatop.small", laid_tegula_tegulatop_small)], narrowed := true }
def WholeLogUptoSaid : Prop := wholeLogUptoRow.holds Tryz.pinned (OpenSpec.upto wholeLogSpec)

end Rows
end Go.Proofs.YtjabgpejmnpamaaGreatDoor
