/-
  PROVED: the card of the law WholeLog: for every argument the law returns true: the records and the blob that are written to the areas of five disks, of which up to four are cut or damaged, are found again: the blob whole, and the whole log; the arguments read afterwards as they read before. No condition but the given row's own: the package variable tegulatop.small begins as the program's text lays it (tied).
-/
import Derived.Test.YtjabgpejmnpamaaGreatDoorY41
import Derived.Test.YtjabgpejmnpamaaGreatDoorY22
import Derived.Test.YtjabgpejmnpamaaGreatDoorTie
import Derived.Test.YtjabgpejmnpamaaGreatDoorCards
import Derived.SevenTiedAt
set_option linter.unusedVariables false
namespace Go.Proofs.YtjabgpejmnpamaaGreatDoor
open Go.ChangeShapes Go.WideShapes Go.ChangeAt Go.RowKit
namespace wholeLog
set_option maxRecDepth 100000 in
theorem lifted (os : Os) (started : os.Started) (H : Type) (enc : TypeId × Value → H) :
    ReturnsInHanded {} Tryz.checked os 4 .any (fun w args => (Rows.wholeLogSpec.pre enc Tryz.prog Tryz.f4 [] false w args ∧ laidMetH Tryz.prog laidS w) ∧ sizedMet enc Tryz.prog Tryz.f4 (OpenSpec.ofChange Rows.wholeLogSpec) false w args) (Rows.wholeLogSpec.post enc Tryz.prog Tryz.f4 false true false false) := by
  refine law_lift_laid (C := Tryz.checked) own started (by kernel_rfl) Tryz.func4 rfl ?_ laid ?_ rfl Tryz.underlying4
    (ChangeSpec.witness_shaped (enc := enc) (C := Tryz.checked) (os := os) (X := fun w _ => laidMetH Tryz.prog laidS w) false (World.doorLaid Tryz.prog 400 os) #[.slice none 0 0, .slice none 0 0, .int .u64 0, .agg #[.int .u8 0, .int .u8 0, .int .u8 0, .int .u8 0], .int .u8 0] 8 rfl (World.shaped_of_RefB (by kernel_rfl) (by kernel_rfl)) (by kernel_rfl) (by kernel_rfl) (by kernel_rfl) (door_met os _)) ?_
  · intro ds hds
    rw [show Tryz.f4.params.toList.length = 5 from rfl] at hds
    match ds, hds with
    | [d0, d1, d2, d3, d4], _ => rfl
  · intro t ht
    have hall : ∀ t ∈ Tryz.f4.params.toList, (Tryz.prog.readableRec t && decide (t < Tryz.prog.types.size)) = true := List.all_eq_true.1 (by kernel_rfl)
    have h := hall t ht
    rw [Bool.and_eq_true, decide_eq_true_eq] at h
    exact h
  · intro W base args ds p hL hval hA hlt hsz
    rw [show Tryz.f4.params.toList = [46, 47, 22, 48, 5] from rfl] at hA
    obtain ⟨v0, v1, v2, v3, v4, d0, d1, d2, d3, d4, p0, p1, p2, p3, p4, rfl, rfl, rfl, h0, h1, h2, h3, h4⟩ := trodAll_five hA
    obtain ⟨rs, hr, mr⟩ := open_recs (hval 0 46 v0 rfl rfl) h0
    obtain ⟨bl, hb, mb⟩ := open_byts (hval 1 47 v1 rfl rfl) h1
    obtain ⟨g, rfl⟩ := open_u64 (hval 2 22 v2 rfl rfl) h2
    obtain ⟨k, rfl⟩ := open_b4 (hval 3 48 v3 rfl rfl) h3
    obtain ⟨x, rfl⟩ := open_u8 (hval 4 5 v4 rfl rfl) h4
    exact wholeLog_walk v0 v1 rs bl g k x W (small_of_laid hL) mr hr mb hb
theorem over : Rows.WholeLogSaid :=
  OpenClaim.holds_of_wide 4 Tryz.f4 rfl rfl rfl rfl rfl rfl rfl ⟨rfl, rfl, rfl, rfl, rfl⟩ rfl rfl rfl rfl rfl (by kernel_rfl) Tryz.func4 (by kernel_rfl)
    (of_decide_eq_true (by kernel_rfl)) (by unfold Func.isWrapper; first | (rw [if_pos (by decide +kernel)]; kernel_rfl) | (rw [if_neg (by decide +kernel)]; exact ⟨rfl, rfl⟩))
    (fun os started H enc _ => lifted os started H enc)
theorem proved : Rows.WholeLogCardSaid :=
  Claim7.holds_tied_plain_at .later [] [.data] true (true, "a64b0a067a034f57fe13345c57f5156adb5708f50f71169a9ca7910f413c88e8") false
    over (fun _ h => by cases h) (by kernel_rfl) (fun _ h => by cases h) wholeLog_row_tie rfl ⟨rfl, rfl⟩ (by kernel_rfl) rfl
    (fun f fn hf hfn => by
      obtain rfl : f = 4 := (Option.some.inj ((show Tryz.prog.funcNamed "tegula/tegulatop.WholeLog" = some 4 by kernel_rfl).symm.trans hf)).symm
      obtain rfl : fn = Tryz.f4 := (Option.some.inj (Tryz.func4.symm.trans hfn)).symm
      have hall : ∀ t ∈ Tryz.f4.params.toList, (!Tryz.prog.wantsStandIn t) = true := List.all_eq_true.1 (by kernel_rfl)
      exact ⟨by kernel_rfl, fun j t ht => by
        have h := hall t (List.mem_of_getElem? (by rw [Array.getElem?_toList]; exact ht))
        have h2 : Tryz.prog.wantsStandIn t = false := by simpa using h
        exact h2⟩)
    (by kernel_rfl)
end wholeLog
end Go.Proofs.YtjabgpejmnpamaaGreatDoor
