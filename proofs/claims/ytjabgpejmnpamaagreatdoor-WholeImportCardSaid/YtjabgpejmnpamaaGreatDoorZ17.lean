/-
  PROVED: the card of the law WholeImport: for every argument the law returns true: the labels that are written to the label areas of disks, some of which were interrupted, are read back and elected alike in any order of the disks: the newest one that any disk has completely; the arguments read afterwards as they read before. No condition but the given row's own: the package variable tegulatop.small begins as the program's text lays it (tied).
-/
import Derived.Test.YtjabgpejmnpamaaGreatDoorZ16
import Derived.Test.YtjabgpejmnpamaaGreatDoorTie
import Derived.Test.YtjabgpejmnpamaaGreatDoorCards
import Derived.SevenTiedAt
set_option linter.unusedVariables false
namespace Go.Proofs.YtjabgpejmnpamaaGreatDoor
open Go.ChangeShapes Go.WideShapes Go.ChangeAt Go.RowKit
namespace wholeImport
set_option maxRecDepth 100000 in
theorem lifted (os : Os) (started : os.Started) (H : Type) (enc : TypeId × Value → H) :
    ReturnsInHanded {} Tryz.checked os 3 .any (fun w args => (Rows.wholeImportSpec.pre enc Tryz.prog Tryz.f3 [] false w args ∧ laidMetH Tryz.prog laidS w) ∧ sizedMet enc Tryz.prog Tryz.f3 (OpenSpec.ofChange Rows.wholeImportSpec) false w args) (Rows.wholeImportSpec.post enc Tryz.prog Tryz.f3 false true false false) := by
  refine law_lift_laid (C := Tryz.checked) own started (by kernel_rfl) Tryz.func3 rfl ?_ laid ?_ rfl Tryz.underlying4
    (ChangeSpec.witness_shaped (enc := enc) (C := Tryz.checked) (os := os) (X := fun w _ => laidMetH Tryz.prog laidS w) false (World.doorLaid Tryz.prog 400 os) #[.agg #[.int .u64 0, .int .i64 0, .int .u64 0, .int .u64 0, .int .i64 0, .int .i64 0, .int .i64 0, .int .i64 0, .int .i64 0, .int .i64 0, .int .i64 0, .int .i64 0, .int .i64 0, .int .i64 0, .int .i64 0, .slice none 0 0, .int .i64 0, .int .u64 0, .int .u64 0], .int .u8 0, .int .u8 0, .int .u8 0] 8 rfl (World.shaped_of_RefB (by kernel_rfl) (by kernel_rfl)) (by kernel_rfl) (by kernel_rfl) (by kernel_rfl) (door_met os _)) ?_
  · intro ds hds
    rw [show Tryz.f3.params.toList.length = 4 from rfl] at hds
    match ds, hds with
    | [d0, d1, d2, d3], _ => rfl
  · intro t ht
    have hall : ∀ t ∈ Tryz.f3.params.toList, (Tryz.prog.readableRec t && decide (t < Tryz.prog.types.size)) = true := List.all_eq_true.1 (by kernel_rfl)
    have h := hall t ht
    rw [Bool.and_eq_true, decide_eq_true_eq] at h
    exact h
  · intro W base args ds p hL hval hA hlt hsz
    rw [show Tryz.f3.params.toList = [29, 5, 5, 5] from rfl] at hA
    obtain ⟨v0, v1, v2, v3, d0, d1, d2, d3, p0, p1, p2, p3, rfl, rfl, rfl, h0, h1, h2, h3⟩ := trodAll_four hA
    obtain ⟨l, dv, x, rfl, hx, mx, _⟩ := open_lab (hval 0 29 v0 rfl rfl) h0
    obtain ⟨a, rfl⟩ := open_u8 (hval 1 5 v1 rfl rfl) h1
    obtain ⟨b, rfl⟩ := open_u8 (hval 2 5 v2 rfl rfl) h2
    obtain ⟨c, rfl⟩ := open_u8 (hval 3 5 v3 rfl rfl) h3
    exact wholeImport_walk l dv x a b c W (small_of_laid hL) mx hx
theorem over : Rows.WholeImportSaid :=
  OpenClaim.holds_of_wide 3 Tryz.f3 rfl rfl rfl rfl rfl rfl rfl ⟨rfl, rfl, rfl, rfl, rfl⟩ rfl rfl rfl rfl rfl (by kernel_rfl) Tryz.func3 (by kernel_rfl)
    (of_decide_eq_true (by kernel_rfl)) (by unfold Func.isWrapper; first | (rw [if_pos (by decide +kernel)]; kernel_rfl) | (rw [if_neg (by decide +kernel)]; exact ⟨rfl, rfl⟩))
    (fun os started H enc _ => lifted os started H enc)
theorem proved : Rows.WholeImportCardSaid :=
  Claim7.holds_tied_plain_at .later [] [.data] true (true, "a64b0a067a034f57fe13345c57f5156adb5708f50f71169a9ca7910f413c88e8") false
    over (fun _ h => by cases h) (by kernel_rfl) (fun _ h => by cases h) wholeImport_row_tie rfl ⟨rfl, rfl⟩ (by kernel_rfl) rfl
    (fun f fn hf hfn => by
      obtain rfl : f = 3 := (Option.some.inj ((show Tryz.prog.funcNamed "tegula/tegulatop.WholeImport" = some 3 by kernel_rfl).symm.trans hf)).symm
      obtain rfl : fn = Tryz.f3 := (Option.some.inj (Tryz.func3.symm.trans hfn)).symm
      have hall : ∀ t ∈ Tryz.f3.params.toList, (!Tryz.prog.wantsStandIn t) = true := List.all_eq_true.1 (by kernel_rfl)
      exact ⟨by kernel_rfl, fun j t ht => by
        have h := hall t (List.mem_of_getElem? (by rw [Array.getElem?_toList]; exact ht))
        have h2 : Tryz.prog.wantsStandIn t = false := by simpa using h
        exact h2⟩)
    (by kernel_rfl)
end wholeImport
end Go.Proofs.YtjabgpejmnpamaaGreatDoor
