/-
  Part 8 of the proof: The drive: lists of blank bands: Free, Valid, Open, Least. The drive: a band of a list is changed. The drive: retry, create. The drive: New. Chapter 8 (crc64): steps of the register, in package crc64 and in its  Numbers as bytes, the least significant byte first. No program is name Package entry: contracts (from the texts of chapter 15). The drive: small functions; the write of an entry.
-/
import Derived.Test.YtjabgpejmnpamaaGreatDoorZ07
import Derived.Test.YtjabgpejmnpamaaGreatDoorRows
import Derived.Test.YtjabgpejmnpamaaGreatDoorZ01
import Derived.ProofKit
import Derived.WalkSpells
import Derived.WalkLawsBesides
import Derived.Test.YtjabgpejmnpamaaGreatDoorZ06
set_option linter.unusedVariables false
namespace Go.Proofs.YtjabgpejmnpamaaGreatDoor
open Go.RowKit Go.Shelf
set_option maxRecDepth 100000
def Zb (cs : Array Value) : Prop := ∀ i, i < 5 → cs[i * 4]? = some (.int .i64 0) ∧ cs[i * 4 + 1]? = some (.int .i64 0) ∧ cs[i * 4 + 2]? = some (.int .u64 0) ∧ cs[i * 4 + 3]? = some (.int .u64 0)
structure Bnd (w : World) (g : Nat) (c : Nat) : Prop where
  box : ∃ cs, BoxAt w g cs 276 ∧ Zb cs
  cap : 5 ≤ c
theorem Bnd.ext {w w' : World} {g c : Nat} (h : Bnd w g c) (e : Ext w w') : Bnd w' g c := by
  obtain ⟨⟨cs, h1, h2⟩, h3⟩ := h
  exact ⟨⟨cs, h1.ext e, h2⟩, h3⟩
theorem Bnd.chg {B : Nat} {T : List TypeId} {w w' : World} {g c : Nat} (h : Bnd w g c) (e : Chg B T w w') (ht : 276 ∉ T) : Bnd w' g c := by
  obtain ⟨⟨cs, h1, h2⟩, h3⟩ := h
  exact ⟨⟨cs, h1.chg e ht, h2⟩, h3⟩
theorem Bnd.lt {w : World} {g c : Nat} (h : Bnd w g c) : g < w.heap.size := by
  obtain ⟨⟨cs, h1, h2⟩, h3⟩ := h
  exact h1.lt
theorem Bnd.at {w : World} {g c : Nat} (h : Bnd w g c) (i : Nat) (hi : i < 5) : w.cell? ⟨g, i * 4, none⟩ = some (.int .i64 0) ∧ w.cell? ⟨g, i * 4 + 1, none⟩ = some (.int .i64 0) ∧ w.cell? ⟨g, i * 4 + 2, none⟩ = some (.int .u64 0) ∧ w.cell? ⟨g, i * 4 + 3, none⟩ = some (.int .u64 0) := by
  obtain ⟨⟨cs, h1, h2⟩, h3⟩ := h
  obtain ⟨a, b, c, d⟩ := h2 i hi
  exact ⟨h1.cell _ a, h1.cell _ b, h1.cell _ c, h1.cell _ d⟩
set_option maxHeartbeats 2000000 in
theorem free_any (g c : Nat) (w : World) (h : Bnd w g c) :
    Calls Tryz.prog 116 #[.slice (some ⟨g, 0, none⟩) 5 c] w fun e w' => e = .returned (.int .i64 5) ∧ Ext w w' := by
  have HB := Lib.hid h
  clear h
  go_enter Tryz.func116, Tryz.ntmps116
  go_wp2_with fail
  go_loopw [3, 8] (fun ct it wr => ∃ i : Nat, i ≤ 5 ∧ it = .int .i64 i ∧ ct = .int .i64 i ∧ Hid (Ext w wr)) (fun _ it _ => 5 - (intOf it).toNat)
  case atStart => exact ⟨0, Nat.zero_le _, rfl, rfl, Lib.hid (Ext.refl _)⟩
  case round =>
    obtain ⟨i, hi, rfl, rfl, HX⟩ := hrel
    by_cases hlt : i < 5
    · have hiI : (i : Int) < 5 := by omega
      obtain ⟨a0, a1, a2, a3⟩ := (HB.out.ext HX.out).at i hlt
      have hl := (HB.out.ext HX.out).lt
      go_wp2_with (refine wpList_store_box 276 _ _ rfl (by rfl) rfl rfl (BoxAt.new wr #[.int .i64 0, .int .i64 0, .int .u64 0, .int .u64 0] 276) rfl (by kernel_rfl) (by simp [Value.oneCell']) ?_; intro w3 hS; have HX3 := Lib.hid (show Ext w w3 from hS.bel (HX.out.trans (Ext.alloc _ _)) HX.out.size); have b0 := hS.box.cell 0 (v := .int .i64 0) rfl; have hl3 := hS.box.lt; clear hS a0 a1 a2 a3 hl)
      go_roundw
      case rel => exact ⟨i + 1, by omega, by go_num, by go_num, HX3⟩
      case measure => simp [intOf]; omega
    · have hi5 : i = 5 := by omega
      subst hi5
      go_wp2_with fail
      go_ret
      exact ⟨rfl, HX.out⟩
set_option maxHeartbeats 1000000 in
theorem bvalid1_any (s : Nat) (w : World) (hs : BoxAt w s #[.int .i64 6] 3) :
    Calls Tryz.prog 234 #[.agg #[.int .i64 0, .int .i64 0, .int .u64 0, .int .u64 0], .pointer (some ⟨s, 0, none⟩)] w fun e w' => e = .returned (.bool false) ∧ Ext w w' := by
  have c0 := hs.cell 0 (v := .int .i64 6) rfl
  have hl := hs.lt
  clear hs
  go_enter Tryz.func234, Tryz.ntmps234
  go_wp2
  go_ret
  exact ⟨rfl, Ext.alloc _ _⟩
set_option maxHeartbeats 2000000 in
theorem bindex_any (g c s : Nat) (w : World) (h : Bnd w g c) (hs : BoxAt w s #[.int .i64 6] 3) :
    Calls Tryz.prog 255 #[.slice (some ⟨g, 0, none⟩) 5 c, .func (.func 234) #[] #[.pointer (some ⟨s, 0, none⟩)]] w fun e w' => e = .returned (.int .i64 (-1)) ∧ Ext w w' := by
  have HB := Lib.hid h
  have HS := Lib.hid hs
  clear h hs
  go_enter Tryz.func255, Tryz.ntmps255
  go_wp2_with fail
  go_loopw [8] (fun it wr => ∃ i : Nat, i ≤ 5 ∧ it = .int .i64 i ∧ Hid (Ext w wr)) (fun it _ => 5 - (intOf it).toNat)
  case atStart => exact ⟨0, Nat.zero_le _, rfl, Lib.hid (Ext.refl _)⟩
  case round =>
    obtain ⟨i, hi, rfl, HX⟩ := hrel
    by_cases hlt : i < 5
    · have hiI : (i : Int) < 5 := by omega
      obtain ⟨a0, a1, a2, a3⟩ := (HB.out.ext HX.out).at i hlt
      have hl := (HB.out.ext HX.out).lt
      go_wp2_with (go_at_call 234; refine (bvalid1_any s _ (HS.out.ext HX.out)).mono ?_; rintro e w3 ⟨rfl, hx3⟩; have HX3 := Lib.hid (HX.out.trans hx3); clear hx3)
      go_roundw
      case rel => exact ⟨i + 1, by omega, by go_num, HX3⟩
      case measure => simp [intOf]; omega
    · have hi5 : i = 5 := by omega
      subst hi5
      go_wp2_with fail
      go_ret
      exact ⟨rfl, HX.out⟩
set_option maxHeartbeats 1000000 in
theorem bcontains_any (g c s : Nat) (w : World) (h : Bnd w g c) (hs : BoxAt w s #[.int .i64 6] 3) :
    Calls Tryz.prog 233 #[.slice (some ⟨g, 0, none⟩) 5 c, .func (.func 234) #[] #[.pointer (some ⟨s, 0, none⟩)]] w fun e w' => e = .returned (.bool false) ∧ Ext w w' := by
  have HB := Lib.hid h
  have HS := Lib.hid hs
  clear h hs
  go_enter Tryz.func233, Tryz.ntmps233
  go_wp2_with (go_at_call 255; refine (bindex_any g c s _ HB.out HS.out).mono ?_; rintro e w3 ⟨rfl, hx3⟩)
  go_ret
  exact ⟨rfl, hx3⟩
set_option maxHeartbeats 1000000 in
theorem bvalid_any (g c : Nat) (w : World) (h : Bnd w g c) :
    Calls Tryz.prog 210 #[.slice (some ⟨g, 0, none⟩) 5 c, .int .i64 6] w fun e w' => e = .returned (.bool true) ∧ Ext w w' := by
  have HX := Lib.hid (Ext.alloc w (.cells #[.int .i64 6] 3))
  have HS := Lib.hid (BoxAt.new w #[.int .i64 6] 3)
  have HB := Lib.hid (h.ext HX.out)
  clear h
  go_enter Tryz.func210, Tryz.ntmps210
  go_wp2_with (go_at_call 233; refine (bcontains_any g c w.heap.size _ HB.out HS.out).mono ?_; rintro e w3 ⟨rfl, hx3⟩)
  go_ret
  exact ⟨rfl, HX.out.trans hx3⟩
set_option maxHeartbeats 4000000 in
theorem bopen_any (g c : Nat) (w : World) (h : Bnd w g c) :
    Calls Tryz.prog 169 #[.slice (some ⟨g, 0, none⟩) 5 c, .int .i64 6] w fun e w' => e = .returned (.int .i64 (-1)) ∧ Ext w w' := by
  have HX := Lib.hid (Ext.alloc w (.cells #[.slice (some ⟨g, 0, none⟩) 5 c] 142))
  have HL := Lib.hid (BoxAt.new w #[.slice (some ⟨g, 0, none⟩) 5 c] 142)
  have HB := Lib.hid (h.ext HX.out)
  clear h
  go_enter Tryz.func169, Tryz.ntmps169
  go_wp2_with first | (go_at_call 210; refine (bvalid_any g c _ HB.out).mono ?_; rintro e w3 ⟨rfl, hx3⟩; have HX3 := Lib.hid (HX.out.trans hx3); have HL3 := Lib.hid (HL.out.ext hx3); have HB3 := Lib.hid (HB.out.ext hx3); clear hx3) | (refine wpList_store_cell 3 _ _ rfl (by rfl) rfl rfl (BoxAt.new w3 #[.int .i64 0] 3) (by simp) (by kernel_rfl) rfl ?_; intro w4 hS; have HM4 := Lib.hid hS.box; have HX4 := Lib.hid (show Ext w3 w4 from hS.bel (Ext.alloc _ _) (Nat.le_refl _)); have HL4 := Lib.hid (HL3.out.ext HX4.out); have d0 := HL4.out.cell 0 (v := .slice (some ⟨g, 0, none⟩) 5 c) rfl; have ld := HL4.out.lt; have HB4 := Lib.hid (HB3.out.ext HX4.out); clear hS)
  have HX5 := Lib.hid (HX3.out.trans HX4.out)
  generalize w3.heap.size = m at *
  go_loopw [16] (fun it wr => ∃ i : Nat, i ≤ 5 ∧ it = .int .i64 i ∧ Hid (Ext w4 wr)) (fun it _ => 5 - (intOf it).toNat)
  case atStart => exact ⟨0, Nat.zero_le _, rfl, Lib.hid (Ext.refl _)⟩
  case round =>
    obtain ⟨i, hi, rfl, HR⟩ := hrel
    by_cases hlt : i < 5
    · have hiI : (i : Int) < 5 := by omega
      obtain ⟨a0, a1, a2, a3⟩ := (HB4.out.ext HR.out).at i hlt
      have hl := (HB4.out.ext HR.out).lt
      go_wp2_with (refine wpList_store_box 276 _ _ rfl (by rfl) rfl rfl (BoxAt.new wr #[.int .i64 0, .int .i64 0, .int .u64 0, .int .u64 0] 276) rfl (by kernel_rfl) (by simp [Value.oneCell']) ?_; intro w5 hS; have HX6 := Lib.hid (show Ext w4 w5 from hS.bel (HR.out.trans (Ext.alloc _ _)) HR.out.size); have b0 := hS.box.cell 0 (v := .int .i64 0) rfl; have hl3 := hS.box.lt; clear hS a0 a1 a2 a3 hl)
      go_roundw
      case rel => exact ⟨i + 1, by omega, by go_num, HX6⟩
      case measure => simp [intOf]; omega
    · have hi5 : i = 5 := by omega
      subst hi5
      have hm := (HM4.out.ext HR.out).cell 0 (v := .int .i64 (-1)) rfl
      have lm := (HM4.out.ext HR.out).lt
      go_wp2_with fail
      go_ret
      exact ⟨rfl, HX5.out.trans HR.out⟩
set_option maxHeartbeats 4000000 in
theorem least_any (g c : Nat) (w : World) (h : Bnd w g c) :
    Calls Tryz.prog 219 #[.slice (some ⟨g, 0, none⟩) 5 c] w fun e w' => e = .returned (.tuple #[.int .i64 0, .int .i64 0]) ∧ Ext w w' := by
  have HB := Lib.hid h
  clear h
  go_enter Tryz.func219, Tryz.ntmps219
  go_wp2_with fail
  go_loopw [4, 9] (fun bt it wr => ∃ (i : Nat) (b : Int), i ≤ 5 ∧ it = .int .i64 i ∧ bt = .int .i64 b ∧ (i = 0 ∧ b = -1 ∨ 0 < i ∧ b = 0) ∧ Hid (Ext w wr)) (fun _ it _ => 5 - (intOf it).toNat)
  case atStart => exact ⟨0, -1, Nat.zero_le _, rfl, rfl, .inl ⟨rfl, rfl⟩, Lib.hid (Ext.refl _)⟩
  case round =>
    obtain ⟨i, b, hi, rfl, rfl, hb, HR⟩ := hrel
    by_cases hlt : i < 5
    · have hiI : (i : Int) < 5 := by omega
      rcases hb with ⟨rfl, rfl⟩ | ⟨hi0, rfl⟩
      · obtain ⟨a0, a1, a2, a3⟩ := (HB.out.ext HR.out).at 0 hlt
        have hl := (HB.out.ext HR.out).lt
        simp only [Nat.zero_mul, Nat.zero_add] at a0 a1 a2 a3
        go_wp2_with (refine wpList_store_box 276 _ _ rfl (by rfl) rfl rfl (BoxAt.new wr #[.int .i64 0, .int .i64 0, .int .u64 0, .int .u64 0] 276) rfl (by kernel_rfl) (by simp [Value.oneCell']) ?_; intro w5 hS; have HX6 := Lib.hid (show Ext w w5 from hS.bel (HR.out.trans (Ext.alloc _ _)) HR.out.size); have b0 := hS.box.cell 0 (v := .int .i64 0) rfl; have b3 := hS.box.cell 3 (v := .int .u64 0) rfl; have hl3 := hS.box.lt; clear hS a0 a1 a2 a3 hl)
        refine wp_region_ext [(0, true), (1, true), (2, true), (3, true), (4, true), (5, true), (6, true), (7, true), (8, true), (9, true), (10, true), (11, true), (12, true), (13, true), (14, true), (15, true), (16, true)] (by kernel_rfl) (by kernel_rfl) ?_
        iterate 17 ((first
         | refine ext_move rfl rfl (by rfl) (by rfl) ?_
         | refine ext_assign rfl rfl (by rfl) (by rfl) ?_
         | refine ext_pick_t rfl rfl (by rfl) (by rfl) (by rfl) ?_
         | refine ext_pick_f rfl rfl (by rfl) (by rfl) (by rfl) ?_
         | (apply ext_take rfl (by rfl)
            · intro w' hS
              have hSc := hS.cells
              (try simp only [World.size_drew, World.cell?_drew] at hSc)
              go_simp
              (try simp (disch := omega) only [i64_id, u64_id, ↓IntWalk.iteOmega, Int.tdiv_eq_ediv_of_nonneg, Int.tmod_eq_emod_of_nonneg])
              try rfl)
         | refine ext_pass rfl (by rfl) ?_); simp only [Act.put, setZa, setZ0, setZ1])
        refine ext_nil ?_
        go_wp2_with fail
        go_roundw
        case rel => exact ⟨1, 0, by omega, by go_num, rfl, .inr ⟨by omega, rfl⟩, Lib.hid (HX6.out.trans (Ext.drew _))⟩
        case measure => simp [intOf]
      · obtain ⟨a0, a1, a2, a3⟩ := (HB.out.ext HR.out).at i hlt
        have hl := (HB.out.ext HR.out).lt
        go_wp2_with (refine wpList_store_box 276 _ _ rfl (by rfl) rfl rfl (BoxAt.new wr #[.int .i64 0, .int .i64 0, .int .u64 0, .int .u64 0] 276) rfl (by kernel_rfl) (by simp [Value.oneCell']) ?_; intro w5 hS; have HX6 := Lib.hid (show Ext w w5 from hS.bel (HR.out.trans (Ext.alloc _ _)) HR.out.size); have b0 := hS.box.cell 0 (v := .int .i64 0) rfl; have b3 := hS.box.cell 3 (v := .int .u64 0) rfl; have hl3 := hS.box.lt; have z3 : w5.cell? ⟨g, 3, none⟩ = some (.int .u64 0) := by { have := ((HB.out.ext HX6.out).at 0 (by decide)).2.2.2; simpa using this }; have lz := (HB.out.ext HX6.out).lt; clear hS a0 a1 a2 a3 hl)
        refine wp_region_ext [(0, true), (1, true), (2, true), (3, true), (4, true), (5, true), (6, true), (7, true), (8, true), (9, true), (10, true), (11, true), (12, true), (13, true), (14, true), (15, true), (16, true)] (by kernel_rfl) (by kernel_rfl) ?_
        iterate 17 ((first
         | refine ext_move rfl rfl (by rfl) (by rfl) ?_
         | refine ext_assign rfl rfl (by rfl) (by rfl) ?_
         | refine ext_pick_t rfl rfl (by rfl) (by rfl) (by rfl) ?_
         | refine ext_pick_f rfl rfl (by rfl) (by rfl) (by rfl) ?_
         | (apply ext_take rfl (by rfl)
            · intro w' hS
              have hSc := hS.cells
              (try simp only [World.size_drew, World.cell?_drew] at hSc)
              go_simp
              (try simp (disch := omega) only [i64_id, u64_id, ↓IntWalk.iteOmega, Int.tdiv_eq_ediv_of_nonneg, Int.tmod_eq_emod_of_nonneg])
              try rfl)
         | refine ext_pass rfl (by rfl) ?_); simp only [Act.put, setZa, setZ0, setZ1])
        refine ext_nil ?_
        go_wp2_with fail
        go_roundw
        case rel => exact ⟨i + 1, 0, by omega, by go_num, rfl, .inr ⟨by omega, rfl⟩, Lib.hid (HX6.out.trans (Ext.drew _))⟩
        case measure => simp [intOf]; omega
    · have hi5 : i = 5 := by omega
      subst hi5
      have hb0 : b = 0 := by omega
      subst hb0
      clear hb
      go_wp2_with fail
      go_ret2
      exact ⟨rfl, HR.out⟩
end Go.Proofs.YtjabgpejmnpamaaGreatDoor

namespace Go.Proofs.YtjabgpejmnpamaaGreatDoor
open Go.RowKit Go.Shelf
set_option maxRecDepth 100000
theorem infoBand : (Tryz.prog.info? 276).map (fun i => (i.zero, i.size, i.bytes)) = some (some (.agg #[.int .i64 0, .int .i64 0, .int .u64 0, .int .u64 0]), 4, 32) := by kernel_rfl
def zbL : List Value := (List.range 20).map (fun j => if j % 4 < 2 then .int .i64 0 else .int .u64 0)
theorem zbL_len : zbL.length = 20 := by simp [zbL]
theorem zbL_get (j : Nat) (h : j < 20) : zbL[j]? = some (if j % 4 < 2 then .int .i64 0 else .int .u64 0) := by
  unfold zbL
  rw [List.getElem?_map, List.getElem?_range h]
  rfl
theorem Zb.get {cs : Array Value} (h : Zb cs) (j : Nat) (hj : j < 20) : cs[j]? = zbL[j]? := by
  obtain ⟨i, r, hr, rfl⟩ : ∃ i r, r < 4 ∧ j = i * 4 + r := ⟨j / 4, j % 4, by omega, by omega⟩
  obtain ⟨a, b, c, d⟩ := h i (by omega)
  rw [zbL_get _ hj, show (i * 4 + r) % 4 = r by omega]
  match r, hr with
  | 0, _ => exact a
  | 1, _ => exact b
  | 2, _ => exact c
  | 3, _ => exact d
theorem Zb.of {cs : Array Value} (h : cs.toList.take 20 = zbL) : Zb cs := by
  have g : ∀ j, j < 20 → cs[j]? = some (if j % 4 < 2 then .int .i64 0 else .int .u64 0) := fun j hj => by
    rw [← zbL_get j hj, ← h, List.getElem?_take_of_lt hj, Array.getElem?_toList]
  intro i hi
  refine ⟨?_, ?_, ?_, ?_⟩
  · rw [g _ (by omega), if_pos (by omega)]
  · rw [g _ (by omega), if_pos (by omega)]
  · rw [g _ (by omega), if_neg (by omega)]
  · rw [g _ (by omega), if_neg (by omega)]
set_option maxHeartbeats 1000000 in
theorem bclone_any (g c : Nat) (w : World) (h : Bnd w g c) :
    Calls Tryz.prog 218 #[.slice (some ⟨g, 0, none⟩) 5 c] w fun e w' => ∃ g' c', e = .returned (.slice (some ⟨g', 0, none⟩) 5 c') ∧ Bnd w' g' c' ∧ w.heap.size ≤ g' ∧ Ext w w' := by
  obtain ⟨i0, hi, hz0, hz1, hz2⟩ := info_parts infoBand
  obtain ⟨⟨cs, hb, hz⟩, hc⟩ := h
  have HA := Lib.hid hb
  have HZ := Lib.hid hz
  clear hb hz
  have hq := fun (w : World) => Lib.run_eql_slice_nil (P := Tryz.prog) w 142 276 (some ⟨g, 0, none⟩) 5 c 0 0 Tryz.underlying142
  have hcell : ∀ j u, zbL[j]? = some u → (w.alloc (.cells #[] 276)).cell? ((⟨g, 0, none⟩ : Addr).add j) = some u := by
    intro j u hu
    have hj : j < 20 := by rw [← zbL_len]; exact (List.getElem?_eq_some_iff.1 hu).1
    rw [add_plain, Nat.zero_add]
    exact (HA.out.ext (Ext.alloc _ _)).cell j ((HZ.out.get j hj).trans hu)
  have HC := Lib.hid hcell
  clear hcell
  have hone : ∀ u, u ∈ zbL → u.oneCell' = true := by
    intro u hu
    obtain ⟨j, hj, he⟩ := List.getElem_of_mem hu
    have h1 := zbL_get j (by rw [← zbL_len]; exact hj)
    rw [List.getElem?_eq_getElem hj] at h1
    injection h1 with h1
    rw [← he, h1]
    split <;> rfl
  have HN := Lib.hid hone
  clear hone
  go_enter Tryz.func218, Tryz.ntmps218
  go_wp2_with (at_builtin; refine wpList_append_own_at _ rfl (.tmp 5) (.tmp 6) 142 rfl w.heap.size 276 i0 _ 4 32 Tryz.underlying142 hi hz0 hz1 hz2 rfl (by decide) _ 0 [] rfl (World.ownsRow_lit w #[] 0 (Nat.le_refl _) (by decide) rfl) ⟨g, 0, none⟩ 5 c zbL rfl zbL_len HC.out HN.out (by unfold maxLen; omega) (by omega) (by simp) ?_; intro v1 w1 hown1 hgrow1 _ _; simp only [Nat.zero_add, List.nil_append] at hown1; have hx1 : Ext w w1 := (Ext.alloc _ _).grown hgrow1 (by simp) (fun k hk => by cases hk; exact Nat.le_refl _))
  go_ret
  rcases hown1.2 with ⟨_, h2⟩ | ⟨g', cap, cur, h1, h2, h3, h4, h5, h6, h7⟩
  · exact absurd h2 (by decide)
  · subst h1
    exact ⟨g', cap, rfl, ⟨⟨cur, h3, Zb.of h7⟩, h4⟩, h2, hx1⟩
set_option maxHeartbeats 2000000 in
theorem bappend1_any (g c s n : Nat) (w : World) (h : Bnd w g c) (hs : BoxAt w s #[.int .i64 6] 3) (hn : BoxAt w n #[.int .u64 1] 22) :
    Calls Tryz.prog 224 #[.pointer (some ⟨g, 0, none⟩), .pointer (some ⟨s, 0, none⟩), .pointer (some ⟨n, 0, none⟩)] w fun e w' => e = .returned (.int .i64 0) ∧ Below g w w' := by
  obtain ⟨⟨cs, hb, hz⟩, hc⟩ := h
  obtain ⟨z0, z1, z2, z3⟩ := hz 0 (by decide)
  simp only [Nat.zero_mul, Nat.zero_add] at z0 z1 z2 z3
  have hsz : 3 ≤ cs.size := by
    have := (Array.getElem?_eq_some_iff.1 z2).1
    omega
  have HB := Lib.hid hb
  have HS := Lib.hid hs
  have HN := Lib.hid hn
  have a0 := hb.cell 0 z0
  have b1 := hb.cell 1 z1
  have lb := hb.lt
  have s0 := hs.cell 0 (v := .int .i64 6) rfl
  have ls := hs.lt
  have HZ1 := Lib.hid z1
  clear hb hs hn hz z0 z1 z2 z3
  go_enter Tryz.func224, Tryz.ntmps224
  go_wp2_with fail
  refine wp_region_ext [(0, true), (1, true), (2, true), (3, true), (4, true), (5, true)] (by kernel_rfl) (by kernel_rfl) ?_
  iterate 6 ((first
   | refine ext_move rfl rfl (by rfl) (by rfl) ?_
   | refine ext_assign rfl rfl (by rfl) (by rfl) ?_
   | refine ext_pick_t rfl rfl (by rfl) (by rfl) (by rfl) ?_
   | refine ext_pick_f rfl rfl (by rfl) (by rfl) (by rfl) ?_
   | (apply ext_take rfl (by rfl)
      · intro w' hS
        have hSc := hS.cells
        (try simp only [World.size_drew, World.cell?_drew] at hSc)
        go_simp
        (try simp (disch := omega) only [i64_id, u64_id, ↓IntWalk.iteOmega, Int.tdiv_eq_ediv_of_nonneg, Int.tmod_eq_emod_of_nonneg])
        try rfl)
   | refine ext_pass rfl (by rfl) ?_); simp only [Act.put, setZa, setZ0, setZ1])
  refine ext_nil ?_
  have HB1 := Lib.hid (HB.out.ext (Ext.drew w))
  go_wp2_with first | (refine wpList_store_cell 3 _ _ rfl (by rfl) (i := 0) rfl rfl HB1.out (by omega) (by kernel_rfl) rfl ?_; intro w2 hS; have HS2 := Lib.hid hS; have b2 := hS.box.cell 1 (v := .int .i64 0) (by rw [Array.getElem?_setIfInBounds, if_neg (by decide)]; exact HZ1.out); have lb2 := hS.box.lt; clear hS a0 b1 s0 ls) | (refine wpList_store_cell 3 _ _ rfl (by rfl) (i := 1) rfl rfl HS2.out.box (by simp; omega) (by kernel_rfl) rfl ?_; intro w3 hS; have HS3 := Lib.hid hS; have HN3 := Lib.hid (hS.keep (HS2.out.keep (HN.out.ext (Ext.drew w)) (box_ne HN.out HB.out (by decide))) (box_ne HN.out HB.out (by decide))); have n0 := HN3.out.cell 0 (v := .int .u64 1) rfl; have ln := HN3.out.lt; have lb3 := hS.box.lt; clear hS b2 lb2) | (refine wpList_store_cell 22 _ _ rfl (by rfl) (i := 2) rfl rfl HS3.out.box (by simp; omega) (by kernel_rfl) rfl ?_; intro w4 hS; have HS4 := Lib.hid hS; clear hS n0 ln lb3)
  go_ret
  exact ⟨rfl, HS4.out.bel (HS3.out.bel (HS2.out.bel ((Ext.drew w).mono (Nat.le_of_lt HB.out.lt)) (Nat.le_refl _)) (Nat.le_refl _)) (Nat.le_refl _)⟩
set_option maxHeartbeats 2000000 in
theorem bchange_any (g c s n : Nat) (w : World) (h : Bnd w g c) (hs : BoxAt w s #[.int .i64 6] 3) (hn : BoxAt w n #[.int .u64 1] 22) :
    Calls Tryz.prog 216 #[.slice (some ⟨g, 0, none⟩) 5 c, .int .i64 0, .func (.func 224) #[] #[.pointer (some ⟨s, 0, none⟩), .pointer (some ⟨n, 0, none⟩)]] w fun e w' => ∃ g' c', e = .returned (.tuple #[.slice (some ⟨g', 0, none⟩) 5 c', .int .i64 0]) ∧ Ext w w' := by
  have HB := Lib.hid h
  have HS := Lib.hid hs
  have HN := Lib.hid hn
  clear h hs hn
  go_enter Tryz.func216, Tryz.ntmps216
  go_wp2_with first | (go_at_call 218; refine (bclone_any g c _ HB.out).mono ?_; rintro e w2 ⟨g', c', rfl, hb2, hg2, hx2⟩; have HB2 := Lib.hid hb2; have HX2 := Lib.hid hx2; have hl2 := hb2.lt; have HG2 := Lib.hid hg2; clear hb2 hx2 hg2) | (go_at_call 224; refine (bappend1_any g' c' s n _ HB2.out (HS.out.ext HX2.out) (HN.out.ext HX2.out)).mono ?_; rintro e w3 ⟨rfl, hx3⟩; have HX3 := Lib.hid hx3; clear hx3)
  go_ret2
  exact ⟨g', c', rfl, HX2.out.below.trans (HX3.out.mono HG2.out)⟩
set_option maxHeartbeats 2000000 in
theorem bappend_any (g c : Nat) (w : World) (h : Bnd w g c) :
    Calls Tryz.prog 182 #[.slice (some ⟨g, 0, none⟩) 5 c, .int .i64 6, .int .i64 0, .int .u64 1] w fun e w' => ∃ g' c', e = .returned (.tuple #[.slice (some ⟨g', 0, none⟩) 5 c', .int .i64 0]) ∧ Ext w w' := by
  have hx := (Ext.alloc w (.cells #[.int .i64 6] 3)).trans (Ext.alloc _ (.cells #[.int .u64 1] 22))
  have hs := (BoxAt.new w #[.int .i64 6] 3).ext (Ext.alloc _ (.cells #[.int .u64 1] 22))
  have hn := BoxAt.new (w.alloc (.cells #[.int .i64 6] 3)) #[.int .u64 1] 22
  rw [World.size_alloc] at hn
  have HX := Lib.hid hx
  have HS := Lib.hid hs
  have HN := Lib.hid hn
  have HB := Lib.hid (h.ext hx)
  clear h hs hn hx
  go_enter Tryz.func182, Tryz.ntmps182
  go_wp2_with (go_at_call 216; refine (bchange_any g c w.heap.size (w.heap.size + 1) _ HB.out HS.out HN.out).mono ?_; rintro e w3 ⟨g', c', rfl, hx3⟩; have HX3 := Lib.hid hx3; clear hx3)
  go_ret2
  exact ⟨g', c', rfl, HX.out.trans HX3.out⟩
end Go.Proofs.YtjabgpejmnpamaaGreatDoor

namespace Go.Proofs.YtjabgpejmnpamaaGreatDoor
open Go.RowKit Go.Shelf
set_option maxRecDepth 100000
set_option maxHeartbeats 1000000 in
theorem retry_any (F : Nat) (eg : ∀ args w, (callFunc F args).run Tryz.prog w = .ok (.enter F args) w) (cap : Array Value) (w : World) (R : World → Prop)
    (hw : Calls Tryz.prog F cap w fun e w' => e = .returned (.int .i64 0) ∧ R w') :
    Calls Tryz.prog 58 #[.func (.func F) #[] cap] w fun e w' => e = .returned (.int .i64 0) ∧ R w' := by
  have HW := Lib.hid hw
  clear hw
  go_enter Tryz.func58, Tryz.ntmps58
  go_wp2_with fail
  refine HW.out.mono ?_
  rintro e w1 ⟨rfl, hR⟩
  have HR := Lib.hid hR
  clear hR
  go_wp2_with fail
  refine wp_loop_rounds 1 ?_
  rw [rounds_succ]
  go_wp2_with fail
  go_ret
  exact ⟨rfl, HR.out⟩
theorem infoNew : (Tryz.prog.info? 154).map (fun i => (i.zero, i.size, i.bytes)) = some (some (.agg #[.int .i64 0, .int .u64 0, .int .i64 0]), 3, 24) := by kernel_rfl
def entL : Nat → List Value
  | 0 => []
  | n + 1 => entL n ++ [.int .i64 0, .int .u64 0, .int .i64 (-1)]
abbrev drC (D : Nat) (ve : Value) (g c : Nat) (t : Int) : Array Value := #[.pointer (some ⟨D, 0, none⟩), .int .u64 0, ve, .slice (some ⟨g, 0, none⟩) 5 c, .int .u64 t, .int .i64 0]
abbrev OwnN (w : World) (B : Nat) (v : Value) (n : Nat) : Prop := w.ownsRow B 154 3 v n (entL n)
theorem run_make_band (w : World) : (Instr.makeSlice 142 (.int .i64 5) (.int .i64 5)).run Tryz.prog w = .ok (.slice (some ⟨w.heap.size, 0, none⟩) 5 5) (w.alloc (.cells (madeCells #[.int .i64 0, .int .i64 0, .int .u64 0, .int .u64 0] 20) 276)) := by
  obtain ⟨i0, hi, hz0, hz1, hz2⟩ := info_parts infoBand
  have h := run_make (P := Tryz.prog) w 142 276 i0 _ Tryz.underlying142 hi hz0 .i64 .i64 5 5 (by decide) (by decide) (by rw [hz2]; decide) (by decide)
  rw [hz1] at h
  exact h
theorem made_zb : Zb (madeCells #[.int .i64 0, .int .i64 0, .int .u64 0, .int .u64 0] 20) := by
  intro i hi
  match i, hi with
  | 0, _ => refine ⟨?_, ?_, ?_, ?_⟩ <;> simp [madeCells]
  | 1, _ => refine ⟨?_, ?_, ?_, ?_⟩ <;> simp [madeCells]
  | 2, _ => refine ⟨?_, ?_, ?_, ?_⟩ <;> simp [madeCells]
  | 3, _ => refine ⟨?_, ?_, ?_, ?_⟩ <;> simp [madeCells]
  | 4, _ => refine ⟨?_, ?_, ?_, ?_⟩ <;> simp [madeCells]
set_option maxHeartbeats 4000000 in
theorem create_any (B D P C : Nat) (w : World) (h : Dsk B w D P C) :
    Calls Tryz.prog 57 #[.pointer (some ⟨D, 0, none⟩), .int .u64 0, .int .i64 4] w fun e w' => ∃ R ve g, e = .returned (.tuple #[.pointer (some ⟨R, 0, none⟩), .int .i64 0]) ∧ BoxAt w' R (drC D ve g 5 0) 144 ∧ OwnN w' w.heap.size ve 4 ∧ Bnd w' g 5 ∧ w.heap.size ≤ R ∧ Ext w w' := by
  obtain ⟨i0, hi, hz0, hz1, hz2⟩ := info_parts infoNew
  have hmk := run_make_band
  have HD := Lib.hid h
  clear h
  go_enter Tryz.func57, Tryz.ntmps57
  go_wp2_with first | (go_at_call 109; refine (dgeo_any B D P C _ HD.out).mono ?_; rintro e W1 ⟨rfl, hx1⟩; have HX1 := Lib.hid hx1; clear hx1) | (refine wpList_store_box 24 _ _ rfl (by rfl) rfl rfl (BoxAt.new W1 #[.int .i64 0, .int .i64 0, .int .i64 0, .int .i64 0, .int .i64 0] 24) rfl (by kernel_rfl) (by simp [Value.oneCell']) ?_; intro W2 hS; have HB2 := Lib.hid hS.box; have HX2 := Lib.hid (show Ext w W2 from hS.bel (HX1.out.trans (Ext.alloc _ _)) HX1.out.size); have c0 := hS.box.cell 0 (v := .int .i64 60) rfl; have c1 := hS.box.cell 1 (v := .int .i64 5) rfl; have c2 := hS.box.cell 2 (v := .int .i64 2) rfl; have c3 := hS.box.cell 3 (v := .int .i64 3) rfl; have c4 := hS.box.cell 4 (v := .int .i64 1) rfl; have hl2 := hS.box.lt; clear hS)
  generalize W1.heap.size = gg at *
  refine wp_region_ext [(0, true), (1, true), (2, true), (3, true), (4, true), (5, true), (6, true), (7, true), (8, true), (9, true), (10, true), (11, true), (12, true), (13, true), (14, true), (15, true), (16, false), (17, true), (18, true), (19, true)] (by kernel_rfl) (by kernel_rfl) ?_
  iterate 16 ((first
   | refine ext_move rfl rfl (by rfl) (by rfl) ?_
   | refine ext_assign rfl rfl (by rfl) (by rfl) ?_
   | refine ext_pick_t rfl rfl (by rfl) (by rfl) (by rfl) ?_
   | refine ext_pick_f rfl rfl (by rfl) (by rfl) (by rfl) ?_
   | (apply ext_take rfl (by rfl)
      · intro w' hS
        have hSc := hS.cells
        (try simp only [World.size_drew, World.cell?_drew] at hSc)
        go_simp
        (try simp (disch := omega) only [i64_id])
        try rfl)
   | refine ext_pass rfl (by rfl) ?_); simp only [Act.put, setZa, setZ0, setZ1])
  (refine ext_do rfl (by rfl) (fun K hK => ?_)
   go_simp
   go_at_call 110
   refine (sband_any _).mono ?_
   rintro e W3 ⟨rfl, hx3⟩
   have HX3 : Hid (Ext W2 W3) := Lib.hid (Ext.trans (by first | exact Ext.refl _ | exact Ext.drew _) hx3)
   refine hK _ _ (by first | exact hx3 | exact HX3.out) ?_
   clear hK K hx3
   (try simp only [Act.put, setZa, setZ0, setZ1]))
  iterate 3 ((first
   | refine ext_move rfl rfl (by rfl) (by rfl) ?_
   | refine ext_assign rfl rfl (by rfl) (by rfl) ?_
   | refine ext_pick_t rfl rfl (by rfl) (by rfl) (by rfl) ?_
   | refine ext_pick_f rfl rfl (by rfl) (by rfl) (by rfl) ?_
   | (apply ext_take rfl (by rfl)
      · intro w' hS
        have hSc := hS.cells
        (try simp only [World.size_drew, World.cell?_drew] at hSc)
        go_simp
        (try simp (disch := omega) only [i64_id])
        try rfl)
   | refine ext_pass rfl (by rfl) ?_); simp only [Act.put, setZa, setZ0, setZ1])
  refine ext_nil ?_
  have d1 := (HB2.out.ext HX3.out).cell 1 (v := .int .i64 5) rfl
  have dl := (HB2.out.ext HX3.out).lt
  clear c0 c1 c2 c3 c4 hl2
  go_wp2_with fail
  have HX3w := Lib.hid (HX2.out.trans HX3.out)
  have hg := BoxAt.new W3 (madeCells #[.int .i64 0, .int .i64 0, .int .u64 0, .int .u64 0] 20) 276
  have hr := BoxAt.new (W3.alloc (.cells (madeCells #[.int .i64 0, .int .i64 0, .int .u64 0, .int .u64 0] 20) 276)) (drC D (.slice none 0 0) W3.heap.size 5 0) 144
  rw [World.size_alloc] at hr
  have HG := Lib.hid hg
  have HR := Lib.hid hr
  have hz3 := HX3w.out.size
  have HZ3 := Lib.hid hz3
  clear hg hr d1 dl hz3 hmk
  go_loopw [40] (fun it wr => ∃ (i : Nat) (v : Value), i ≤ 4 ∧ it = .int .i64 i ∧ Hid (OwnN wr w.heap.size v i) ∧ Hid (BoxAt wr (W3.heap.size + 1) (drC D v W3.heap.size 5 0) 144) ∧ Hid (Bnd wr W3.heap.size 5) ∧ Hid (Ext w wr)) (fun it _ => 4 - (intOf it).toNat)
  case atStart => exact ⟨0, _, Nat.zero_le _, rfl, Lib.hid (World.ownsRow_nil _ _ _ _), HR, Lib.hid ⟨⟨_, HG.out.ext (Ext.alloc _ _), made_zb⟩, Nat.le_refl _⟩, Lib.hid ((HX3w.out.trans (Ext.alloc _ _)).trans (Ext.alloc _ _))⟩
  case round =>
    obtain ⟨i, v, hi4, rfl, HO, HBR, HBN, HXr⟩ := hrel
    by_cases hlt : i < 4
    · have hiI : (i : Int) < 4 := by omega
      obtain ⟨va, vc, rfl⟩ := own_shape HO.out
      have r2 := HBR.out.cell 2 (v := .slice va i vc) rfl
      have lr := HBR.out.lt
      have hszr := HXr.out.size
      have HOA := Lib.hid (ownsRow_chg (Chg.ext (B := 0) (T := []) (Ext.alloc wr (.cells #[.int .i64 0, .int .u64 0, .int .i64 (-1)] 154)) (Nat.zero_le _)) HO.out (by simp))
      have HNB := Lib.hid (BoxAt.new wr #[.int .i64 0, .int .u64 0, .int .i64 (-1)] 154)
      go_wp2_with first | (at_builtin; go_loud (refine wpList_append_own_at _ rfl _ _ _ rfl w.heap.size 154 i0 _ 3 24 Tryz.underlying141 hi hz0 hz1 hz2 rfl (by decide) _ i (entL i) rfl HOA.out ⟨wr.heap.size, 0, none⟩ 1 1 [.int .i64 0, .int .u64 0, .int .i64 (-1)] rfl rfl ?hnews (by simp [Value.oneCell']) (by unfold maxLen; omega) (by omega) (by simp; omega) ?_); (case hnews => (intro j u hj; rw [add_plain, Nat.zero_add]; exact HNB.out.cell j (by simpa using hj))); intro v2 W5 ho2 hg2 _ _; obtain ⟨a2, c2, rfl⟩ := own_shape ho2; have hch : Chg 0 [154] wr W5 := (Chg.ext (Ext.alloc wr _) (Nat.zero_le _)).grown HOA.out (by simp) (Nat.zero_le _) (Nat.zero_le _) hg2; have HX5 := Lib.hid (show Ext w W5 from Below.grown (HXr.out.trans (Ext.alloc wr _)) hg2 (by have := HXr.out.size; simp; omega) (fun k hk => (World.ownsRow.lt HOA.out k hk).1)); have HO5 := Lib.hid ho2; have HBR5 := Lib.hid (HBR.out.chg hch (by decide)); have HBN5 := Lib.hid (HBN.out.chg hch (by decide)); have r2' := HBR5.out.cell 2 (v := .slice va i vc) rfl; have lr' := HBR5.out.lt; clear ho2 hg2 hch r2 lr) | (refine wpList_store_cell 141 _ _ rfl (by rfl) (i := 2) rfl rfl HBR5.out (by simp) (by kernel_rfl) rfl ?_; intro W6 hS; have HS6 := Lib.hid hS; clear hS r2' lr')
      go_roundw
      case rel => exact ⟨i + 1, .slice a2 (i + 1) c2, by omega, by go_num, Lib.hid (ownsRow_chg ((Chg.refl 0 [144] W5).stored HBR5.out HS6.out (by simp) (Nat.zero_le _)) HO5.out (by decide)), Lib.hid HS6.out.box, Lib.hid (HBN5.out.chg ((Chg.refl 0 [144] W5).stored HBR5.out HS6.out (by simp) (Nat.zero_le _)) (by decide)), Lib.hid (HS6.out.bel HX5.out (by have := HZ3.out; omega))⟩
      case measure => simp [intOf]; omega
    · have hi5 : i = 4 := by omega
      subst hi5
      go_wp2_with fail
      go_ret2
      exact ⟨W3.heap.size + 1, v, W3.heap.size, rfl, HBR.out, HO.out, HBN.out, by have := HZ3.out; omega, HXr.out⟩
end Go.Proofs.YtjabgpejmnpamaaGreatDoor

namespace Go.Proofs.YtjabgpejmnpamaaGreatDoor
open Go.RowKit Go.Shelf
set_option maxRecDepth 100000
set_option maxHeartbeats 1000000 in
theorem new1_any (B D P gD gK gI : Nat) (n : Cn) (gs : List Nat) (k : Nat) (hk : k < 5) (hll : gs.length ≤ 1000) (w : World) (h : Ph B w D P n gs) (hBw : B ≤ w.heap.size) (hD : BoxAt w gD #[.pointer (some ⟨D, 0, none⟩)] 68) (hK : BoxAt w gK #[.int .u64 0] 22) (hI : BoxAt w gI #[.int .i64 k] 3) :
    Calls Tryz.prog 59 #[.pointer (some ⟨gD, 0, none⟩), .pointer (some ⟨gK, 0, none⟩), .pointer (some ⟨gI, 0, none⟩)] w fun e w' => e = .returned (.int .i64 0) ∧ (∃ g, Ph B w' D P n (gs ++ [g])) ∧ Chg B TTd w w' := by
  have HP := Lib.hid h
  have d0 := hD.cell 0 (v := .pointer (some ⟨D, 0, none⟩)) rfl
  have k0 := hK.cell 0 (v := .int .u64 0) rfl
  have i0 := hI.cell 0 (v := .int .i64 k) rfl
  have ld := hD.lt
  have lk := hK.lt
  have li := hI.lt
  clear h hD hK hI
  go_enter Tryz.func59, Tryz.ntmps59
  go_wp2_with (go_at_call 60; refine (derase_any B D P n gs k hk hll _ HP.out hBw).mono ?_; rintro e W1 ⟨rfl, hR⟩; have HR := Lib.hid hR; clear hR)
  go_ret
  exact ⟨rfl, HR.out⟩
set_option maxHeartbeats 1000000 in
theorem new2_any (B D P gD gK : Nat) (n : Cn) (gs : List Nat) (m : Nat) (hm : gs.length = m) (hp : 0 < m) (hll : m ≤ 1000) (w : World) (h : Ph B w D P n gs) (hBw : B ≤ w.heap.size) (hD : BoxAt w gD #[.pointer (some ⟨D, 0, none⟩)] 68) (hK : BoxAt w gK #[.int .u64 0] 22) :
    Calls Tryz.prog 61 #[.pointer (some ⟨gD, 0, none⟩), .pointer (some ⟨gK, 0, none⟩)] w fun e w' => e = .returned (.int .i64 0) ∧ Ph B w' D P n [] ∧ Chg B TTd w w' := by
  have HF := Lib.hid (dflush_any B D P n gs m hm hp hll w h hBw)
  have d0 := hD.cell 0 (v := .pointer (some ⟨D, 0, none⟩)) rfl
  have k0 := hK.cell 0 (v := .int .u64 0) rfl
  have ld := hD.lt
  have lk := hK.lt
  clear h hD hK hm
  go_enter Tryz.func61, Tryz.ntmps61
  go_wp2_with (go_at_call 62; refine HF.out.mono ?_; rintro e W1 ⟨rfl, hR⟩; have HR := Lib.hid hR; clear hR)
  go_ret
  exact ⟨rfl, HR.out⟩
set_option maxHeartbeats 4000000 in
theorem dvnew_any (B D P : Nat) (n : Cn) (w : World) (h : Ph B w D P n []) (hBw : B ≤ w.heap.size) :
    Calls Tryz.prog 25 #[.pointer (some ⟨D, 0, none⟩), .int .u64 0, .int .i64 4] w fun e w' => ∃ R ve g, e = .returned (.tuple #[.pointer (some ⟨R, 0, none⟩), .int .i64 0]) ∧ BoxAt w' R (drC D ve g 5 0) 144 ∧ OwnN w' w.heap.size ve 4 ∧ Bnd w' g 5 ∧ Ph B w' D P n [] ∧ w.heap.size ≤ R ∧ Chg B TTd w w' := by
  have hx := (Ext.alloc w (.cells #[.pointer (some ⟨D, 0, none⟩)] 68)).trans (Ext.alloc _ (.cells #[.int .u64 0] 22))
  have hd := (BoxAt.new w #[.pointer (some ⟨D, 0, none⟩)] 68).ext (Ext.alloc _ (.cells #[.int .u64 0] 22))
  have hk := BoxAt.new (w.alloc (.cells #[.pointer (some ⟨D, 0, none⟩)] 68)) #[.int .u64 0] 22
  rw [World.size_alloc] at hk
  have HX := Lib.hid hx
  have HD := Lib.hid hd
  have HK := Lib.hid hk
  have HP := Lib.hid (h.ext hx)
  clear h hx hd hk
  go_enter Tryz.func25, Tryz.ntmps25
  go_wp2_with (go_at_call 57; refine (create_any B D P n.C _ HP.out.dsk).mono ?_; rintro e W1 ⟨R, ve, g, rfl, hr, he, hg, hR, hx1⟩; have HBR := Lib.hid hr; have HE := Lib.hid he; have HG := Lib.hid hg; have HGR := Lib.hid hR; have HX1 := Lib.hid (HX.out.trans hx1); have HP1 := Lib.hid (HP.out.ext hx1); have HD1 := Lib.hid (HD.out.ext hx1); have HK1 := Lib.hid (HK.out.ext hx1); have r3 := hr.cell 3 (v := .slice (some ⟨g, 0, none⟩) 5 5) rfl; have lr := hr.lt; clear hr he hg hR hx1)
  have hB1 : B ≤ W1.heap.size := Nat.le_trans hBw HX1.out.size
  clear r3 lr
  go_loopw [28] (fun it wr => ∃ (i : Nat) (gs : List Nat), i ≤ 5 ∧ it = .int .i64 i ∧ Hid (gs.length = i) ∧ Hid (Ph B wr D P n gs) ∧ Hid (Chg B TTd W1 wr)) (fun it _ => 5 - (intOf it).toNat)
  case atStart => exact ⟨0, [], Nat.zero_le _, rfl, Lib.hid rfl, HP1, Lib.hid (Chg.refl _ _ _)⟩
  case round =>
    obtain ⟨i, gs, hi5, rfl, HLg, HPr, HCr⟩ := hrel
    have hszr : W1.heap.size ≤ wr.heap.size := HCr.out.size
    by_cases hlt : i < 5
    · have hiI : (i : Int) < 5 := by omega
      go_wp2_with first | (refine wpList_store_cell 3 _ _ rfl (by rfl) rfl rfl (BoxAt.new wr #[.int .i64 0] 3) (by simp) (by kernel_rfl) rfl ?_; intro W2 hS; have HX2 := Lib.hid (show Ext wr W2 from hS.bel (Ext.alloc _ _) (Nat.le_refl _)); have HI2 := Lib.hid hS.box; clear hS) | (go_at_call 58; go_loud (refine (retry_any 59 (enters_of Tryz.func59 (by kernel_rfl) rfl) #[.pointer (some ⟨w.heap.size, 0, none⟩), .pointer (some ⟨w.heap.size + 1, 0, none⟩), .pointer (some ⟨wr.heap.size, 0, none⟩)] _ (fun w' => (∃ g, Ph B w' D P n (gs ++ [g])) ∧ Chg B TTd W2 w') (new1_any B D P w.heap.size (w.heap.size + 1) wr.heap.size n gs i hlt (by rw [HLg.out]; omega) W2 (HPr.out.ext HX2.out) (Nat.le_trans hB1 (Nat.le_trans hszr HX2.out.size)) ((HD1.out.chg HCr.out (by decide)).ext HX2.out) ((HK1.out.chg HCr.out (by decide)).ext HX2.out) HI2.out)).mono ?_); rintro e W3 ⟨rfl, ⟨g3, hp3⟩, hc3⟩; have HP3 := Lib.hid hp3; have HC3 := Lib.hid ((HCr.out.more HX2.out hB1).trans hc3); clear hp3 hc3)
      go_roundw
      case rel => exact ⟨i + 1, gs ++ [g3], by omega, by go_num, Lib.hid (by rw [List.length_append, HLg.out]; rfl), HP3, HC3⟩
      case measure => simp [intOf]; omega
    · have hi : i = 5 := by omega
      subst hi
      go_wp2_with (go_at_call 58; go_loud (refine (retry_any 61 (enters_of Tryz.func61 (by kernel_rfl) rfl) #[.pointer (some ⟨w.heap.size, 0, none⟩), .pointer (some ⟨w.heap.size + 1, 0, none⟩)] _ (fun w' => Ph B w' D P n [] ∧ Chg B TTd wr w') (new2_any B D P w.heap.size (w.heap.size + 1) n gs 5 HLg.out (by decide) (by decide) wr HPr.out (Nat.le_trans hB1 hszr) (HD1.out.chg HCr.out (by decide)) (HK1.out.chg HCr.out (by decide)))).mono ?_); rintro e W3 ⟨rfl, hp3, hc3⟩; have HP3 := Lib.hid hp3; have HC3 := Lib.hid (HCr.out.trans hc3); clear hp3 hc3)
      go_ret2
      have hmono : w.heap.size ≤ ((w.alloc (.cells #[.pointer (some ⟨D, 0, none⟩)] 68)).alloc (.cells #[.int .u64 0] 22)).heap.size := HX.out.size
      refine ⟨R, ve, g, rfl, HBR.out.chg HC3.out (by decide), ?_, HG.out.chg HC3.out (by decide), HP3.out, Nat.le_trans hmono HGR.out, (Chg.ext HX1.out hBw).trans HC3.out⟩
      have ho := ownsRow_chg HC3.out HE.out (by decide)
      refine ⟨ho.1, ho.2.imp id ?_⟩
      rintro ⟨g, cap, cur, e1, e2, e3⟩
      exact ⟨g, cap, cur, e1, Nat.le_trans hmono e2, e3⟩
end Go.Proofs.YtjabgpejmnpamaaGreatDoor

namespace Go.Proofs.YtjabgpejmnpamaaGreatDoor
open Go.RowKit
attribute [local go_sem] xor_un and_un and_one_un xor_poly_un half_un or_un not_un unsigned64 wrap_ub
theorem one_yes {x : BitVec 64} (h : x &&& 1#64 = 1#64) : (un (x &&& 1#64) == 1) = true := by rw [eq_one_un, h]; rfl
theorem one_no {x : BitVec 64} (h : ¬ x &&& 1#64 = 1#64) : (un (x &&& 1#64) == 1) = false := by rw [eq_one_un]; simpa using h
theorem step_yes {x : BitVec 64} (h : x &&& 1#64 = 1#64) : Crc.step x = x >>> 1 ^^^ Crc.poly := by unfold Crc.step; rw [if_pos h]
theorem step_no {x : BitVec 64} (h : ¬ x &&& 1#64 = 1#64) : Crc.step x = x >>> 1 := by unfold Crc.step; rw [if_neg h]
theorem step_any (x : BitVec 64) (w : World) :
    Calls Tryz.prog 137 #[encU x] w fun e w' => e = .returned (encU (Crc.step x)) ∧ w = w' := by
  by_cases h : x &&& 1#64 = 1#64
  · have HS := Lib.hid (step_yes h)
    have hb := one_yes h
    clear h
    go_enter Tryz.func137, Tryz.ntmps137
    go_wp2
    go_ret
    exact ⟨by rw [HS.out]; rfl, rfl⟩
  · have HS := Lib.hid (step_no h)
    have hb := one_no h
    clear h
    go_enter Tryz.func137, Tryz.ntmps137
    go_wp2
    go_ret
    exact ⟨by rw [HS.out]; rfl, rfl⟩
set_option maxHeartbeats 400000 in
theorem update_any (x : BitVec 64) (v : Value) (l : List (BitVec 8)) (w : World) (hl : l.length ≤ maxLen) (h : SliceAt encB w v l) :
    Calls Tryz.prog 88 #[encU x, v] w fun e w' => e = .returned (encU (Crc.update x l)) ∧ w = w' := by
  obtain ⟨ad, cap, rfl, _, ha⟩ := h
  unfold maxLen at hl
  go_enter Tryz.func88, Tryz.ntmps88
  go_wp2
  go_loop [5, 7, 12, 20] (fun v _ i _ => ∃ (k : Nat) (y : BitVec 64), k ≤ l.length ∧ i = .int .i64 k ∧ v = encU y ∧ Crc.foldB y (l.drop k) = Crc.foldB (~~~x) l) (fun _ _ i _ => l.length - (intOf i).toNat)
  case atStart => exact ⟨0, ~~~x, Nat.zero_le _, rfl, rfl, rfl⟩
  case round =>
    obtain ⟨k, y, hk, rfl, rfl, he⟩ := hrel
    by_cases hlt : k < l.length
    · rw [List.drop_eq_getElem_cons hlt] at he
      have HE := Lib.hid he
      clear he
      rcases ha with ⟨ha, _⟩ | ⟨b, o, rfl, hb, ha⟩
      · subst ha; simp at hlt
      have hc := ha k hlt
      generalize l[k] = c at *
      clear ha
      go_wp2
      go_loop [5, 20] (fun v i => ∃ (j : Nat) (z : BitVec 64), j ≤ 8 ∧ i = .int .i64 j ∧ v = encU z ∧ Crc.stepN (8 - j) z = Crc.stepN 8 (y ^^^ Crc.reg c)) (fun _ i => 8 - (intOf i).toNat)
      case atStart => exact ⟨0, y ^^^ Crc.reg c, by omega, rfl, rfl, rfl⟩
      case round =>
        obtain ⟨j, z, hj, rfl, rfl, hz⟩ := hrel
        by_cases hjl : j < 8
        · obtain ⟨m, hm⟩ : ∃ m, 8 - j = m + 1 := ⟨8 - j - 1, by omega⟩
          have hm2 : 8 - (j + 1) = m := by omega
          rw [hm] at hz
          have HZ := Lib.hid hz
          have HM := Lib.hid hm2
          clear hz hm hm2
          go_wp2_with (go_at_call 137; refine (step_any _ _).mono ?_; rintro e w' ⟨rfl, rfl⟩)
          go_round
          case rel => exact ⟨j + 1, _, by omega, by go_num, rfl, by rw [HM.out]; exact HZ.out⟩
          case measure => simp [intOf]; omega
        · have h8 : j = 8 := by omega
          subst h8
          have HZ : Hid (z = Crc.stepN 8 (y ^^^ Crc.reg c)) := hz
          clear hz
          go_wp2
          go_round
          case rel => exact ⟨k + 1, z, by omega, by go_num, rfl, by rw [HZ.out]; exact HE.out⟩
          case measure => simp [intOf]; omega
    · have HE : Hid (y = Crc.foldB (~~~x) l) := by
        rw [List.drop_eq_nil_of_le (by omega)] at he; exact he
      clear he
      go_wp2
      go_ret
      exact ⟨by rw [HE.out]; rfl, rfl⟩
theorem sum_any (v : Value) (l : List (BitVec 8)) (w : World) (hl : l.length ≤ maxLen) (h : SliceAt encB w v l) :
    Calls Tryz.prog 45 #[v] w fun e w' => e = .returned (encU (Crc.sum l)) ∧ w = w' := by
  go_enter Tryz.func45, Tryz.ntmps45
  go_wp2_with (go_at_call 88; refine (update_any 0#64 _ l _ hl h).mono ?_; rintro e w' ⟨rfl, rfl⟩)
  go_ret
  exact ⟨rfl, rfl⟩
end Go.Proofs.YtjabgpejmnpamaaGreatDoor

namespace Go.Proofs.YtjabgpejmnpamaaGreatDoor
open Go.RowKit
def le : Nat → BitVec 64 → List (BitVec 8)
  | 0, _ => []
  | n + 1, x => x.setWidth 8 :: le n (x >>> 8)
theorem le_length (n : Nat) (x : BitVec 64) : (le n x).length = n := by
  induction n generalizing x with
  | zero => rfl
  | succ n ih => simp [le, ih]
theorem le_step {n k : Nat} (x : BitVec 64) (h : k < n) : le (n - k) (x >>> (8 * k)) = (x >>> (8 * k)).setWidth 8 :: le (n - (k + 1)) (x >>> (8 * (k + 1))) := by
  rw [show n - k = (n - (k + 1)) + 1 by omega, le, ← BitVec.shiftRight_add, show 8 * k + 8 = 8 * (k + 1) by omega]
def unle : List (BitVec 8) → BitVec 64
  | [] => 0#64
  | c :: r => Crc.reg c ||| unle r <<< 8
theorem unle_step (c : BitVec 8) (r : List (BitVec 8)) (k : Nat) : unle (c :: r) <<< (8 * k) = Crc.reg c <<< (8 * k) ||| unle r <<< (8 * (k + 1)) := by
  rw [unle, BitVec.shiftLeft_or_distrib, ← BitVec.shiftLeft_add, show 8 + 8 * k = 8 * (k + 1) by omega]
theorem reg_bit (c : BitVec 8) (i : Nat) (h : i < 64) : (Crc.reg c).getLsbD i = c.getLsbD i := by
  unfold Crc.reg; rw [BitVec.getLsbD_setWidth]; simp [h]
theorem unle_bit (l : List (BitVec 8)) (i : Nat) (h : i < 64) : (unle l).getLsbD i = (l.getD (i / 8) 0#8).getLsbD (i % 8) := by
  induction l generalizing i with
  | nil => simp [unle]
  | cons c r ih =>
    rw [unle, BitVec.getLsbD_or, reg_bit c i h, BitVec.getLsbD_shiftLeft]
    by_cases h8 : i < 8
    · rw [show i / 8 = 0 by omega, show i % 8 = i by omega]; simp [h8]
    · rw [ih (i - 8) (by omega), show i / 8 = (i - 8) / 8 + 1 by omega, show i % 8 = (i - 8) % 8 by omega]
      have : c.getLsbD i = false := BitVec.getLsbD_of_ge _ _ (by omega)
      simp [h8, h, this]
theorem unle_lt (l : List (BitVec 8)) (n : Nat) (h : l.length ≤ n) (hn : n ≤ 7) : (unle l).toNat < 2 ^ (8 * n) := by
  have : unle l = ((unle l).setWidth (8 * n)).setWidth 64 := by
    apply BitVec.eq_of_getLsbD_eq
    intro i hi
    rw [BitVec.getLsbD_setWidth, BitVec.getLsbD_setWidth, unle_bit _ _ hi]
    by_cases h8 : i < 8 * n
    · simp [h8, hi]
    · have : l.getD (i / 8) 0#8 = 0#8 := by
        rw [List.getD_eq_getElem?_getD, List.getElem?_eq_none (by omega)]; rfl
      rw [this]; simp [h8]
  rw [this, BitVec.toNat_setWidth, BitVec.toNat_setWidth]
  exact Nat.lt_of_le_of_lt (Nat.mod_le _ _) (Nat.mod_lt _ (Nat.two_pow_pos _))
end Go.Proofs.YtjabgpejmnpamaaGreatDoor

namespace Go.Proofs.YtjabgpejmnpamaaGreatDoor
set_option maxRecDepth 100000
open Go.RowKit
attribute [local go_sem] wrap8_un or_un wrap_ub
theorem deinfoB : (Tryz.prog.info? 5).map (fun i => (i.zero, i.size, i.bytes)) = some (some (.int .u8 0), 1, 1) := by kernel_rfl
abbrev deOwnB (w : World) (base : Nat) (v : Value) (l : List (BitVec 8)) : Prop := w.ownsRow base 5 1 v l.length (l.map encB)
theorem deOwnB.slice {w : World} {base : Nat} {v : Value} {l : List (BitVec 8)} (h : deOwnB w base v l) : SliceAt encB w v l := SliceAt.of_owns h
theorem deOwnB.nil (w : World) (base : Nat) : deOwnB w base (.slice none 0 0) [] := World.ownsRow_nil _ _ _ _
theorem deOwnB.mk {w : World} {base : Nat} {v : Value} {l lx : List (BitVec 8)} (h : w.ownsRow base 5 1 v (l.length + lx.length) (l.map encB ++ lx.map encB)) : deOwnB w base v (l ++ lx) := by
  show World.ownsRow _ _ _ _ _ _ _
  rw [List.length_append, List.map_append]
  exact h
theorem OwnB.mk {w : World} {base : Nat} {v : Value} {l lx : List (BitVec 8)} (h : w.ownsRow base 5 1 v (l.length + lx.length) (l.map encB ++ lx.map encB)) : deOwnB w base v (l ++ lx) := by
  show World.ownsRow _ _ _ _ _ _ _
  rw [List.length_append, List.map_append]
  exact h
set_option maxHeartbeats 400000 in
theorem put_any (base : Nat) (v : Value) (l : List (BitVec 8)) (x : BitVec 64) (n : Int) (w : World) (hl : l.length ≤ 1000000) (hn : 0 ≤ n ∧ n ≤ 8) (hb : base ≤ w.heap.size) (h : deOwnB w base v l) :
    Calls Tryz.prog 220 #[v, encU x, .int .i64 n] w fun e w' => ∃ v', e = .returned v' ∧ deOwnB w' base v' (l ++ le n.toNat x) ∧ Below base w w' := by
  obtain ⟨i0, hi, hz0, hz1, hz2⟩ := info_parts deinfoB
  have HA := Lib.hid h
  clear h
  obtain ⟨n, rfl⟩ := Int.eq_ofNat_of_zero_le hn.1
  have hn8 : n ≤ 8 := by omega
  rw [Int.toNat_natCast]
  go_enter Tryz.func220, Tryz.ntmps220
  go_wp2
  go_loopw [0, 9] (fun vo i wr => ∃ (k : Nat) (pre : List (BitVec 8)), k ≤ n ∧ i = .int .i64 k ∧ le n x = pre ++ le (n - k) (x >>> (8 * k)) ∧ pre.length = k ∧ deOwnB wr base vo (l ++ pre) ∧ Below base w wr) (fun _ i _ => n - (intOf i).toNat)
  case atStart => exact ⟨0, [], Nat.zero_le _, rfl, rfl, rfl, by rw [List.append_nil]; exact HA.out, Below.refl _ _⟩
  case round =>
    obtain ⟨k, pre, hk, rfl, hle, hpl, hown, hx⟩ := hrel
    have HO := Lib.hid hown
    have HU := Lib.hid hle
    have HP := Lib.hid hpl
    have hll : (l ++ pre).length ≤ 1000008 := by rw [List.length_append]; omega
    have hsz := hx.size
    clear hown hle hpl
    by_cases hlt : k < n
    · have hsh := shr_un x (8 * k)
      go_wp2_with (at_builtin; refine wpList_append_slice (enc := encB) (fun _ => rfl) rfl (.tmp 12) (.tmp 18) 47 rfl base 5 i0 (.int .u8 0) 1 Tryz.underlying47 hi hz0 hz1 hz2 rfl _ _ _ rfl (World.ownsRow.alloc HO.out _) _ [(x >>> (8 * k)).setWidth 8] rfl (SliceAt.lit wr [(x >>> (8 * k)).setWidth 8] _ _ _ rfl) (by unfold maxLen; simp only [List.length_singleton]; omega) (by simp only [List.length_singleton]; omega) (by simp; omega) ?_; intro v2 w2 hown2 hgrow2; have hx2 : Below base w w2 := (hx.alloc (by omega) _).grown hgrow2 (by simp; omega) (fun k hk => (World.ownsRow.lt HO.out k hk).1); have HO2 := Lib.hid hown2; clear hown2 hgrow2)
      go_roundw
      case rel =>
        refine ⟨k + 1, pre ++ [(x >>> (8 * k)).setWidth 8], by omega, by go_num, by rw [HU.out, le_step x hlt]; simp, by simp [HP.out], ?_, hx2⟩
        rw [← List.append_assoc]
        exact deOwnB.mk HO2.out
      case measure => simp [intOf]; omega
    · have HK : Hid (n - k = 0) := by show _ = _; omega
      go_wp2
      go_ret
      refine ⟨_, rfl, ?_, hx⟩
      rw [HU.out, HK.out, le, List.append_nil]
      exact HO.out
theorem deshl_un (x : BitVec 64) (k : Nat) : IntKind.u64.wrap (un x * (2 : Int) ^ k) = un (x <<< k) := by
  have : ∀ y : Int, IntKind.u64.wrap y = y % 18446744073709551616 := fun y => by simp only [IntKind.wrap, IntKind.bits, IntKind.signed]; simp
  rw [this]; unfold un
  rw [BitVec.toNat_shiftLeft, Nat.shiftLeft_eq]; simp
set_option maxHeartbeats 400000 in
theorem get_any (v : Value) (l : List (BitVec 8)) (w : World) (hl : l.length ≤ 8) (h : SliceAt encB w v l) :
    Calls Tryz.prog 185 #[v] w fun e w' => e = .returned (encU (unle l)) ∧ w = w' := by
  obtain ⟨ad, cap, rfl, _, ha⟩ := h
  go_enter Tryz.func185, Tryz.ntmps185
  go_wp2
  go_loop [3, 7] (fun v i => ∃ (k : Nat) (y : BitVec 64), k ≤ l.length ∧ i = .int .i64 k ∧ v = encU y ∧ unle l = y ||| unle (l.drop k) <<< (8 * k)) (fun _ i => l.length - (intOf i).toNat)
  case atStart => exact ⟨0, 0#64, Nat.zero_le _, rfl, rfl, by simp⟩
  case round =>
    obtain ⟨k, y, hk, rfl, rfl, he⟩ := hrel
    by_cases hlt : k < l.length
    · rw [List.drop_eq_getElem_cons hlt, unle_step, ← BitVec.or_assoc] at he
      have HE := Lib.hid he
      clear he
      rcases ha with ⟨ha, _⟩ | ⟨b, o, rfl, hb, ha⟩
      · subst ha; simp at hlt
      have hc := ha k hlt
      generalize l[k] = c at *
      have hsh := deshl_un (Crc.reg c) (8 * k)
      clear ha
      go_wp2
      go_round
      case rel => exact ⟨k + 1, _, by omega, by go_num, rfl, HE.out⟩
      case measure => simp [intOf]; omega
    · have HE : Hid (unle l = y) := by
        rw [List.drop_eq_nil_of_le (by omega), unle] at he; show unle l = y; simpa using he
      clear he
      go_wp2
      go_ret
      exact ⟨by rw [HE.out]; rfl, rfl⟩
theorem get_as (x : BitVec 64) (v : Value) (l : List (BitVec 8)) (w : World) (hx : unle l = x) (hl : l.length ≤ 8) (h : SliceAt encB w v l) :
    Calls Tryz.prog 185 #[v] w fun e w' => e = .returned (encU x) ∧ w = w' := by subst hx; exact get_any v l w hl h
theorem sum_as (x : BitVec 64) (v : Value) (l : List (BitVec 8)) (w : World) (hx : Crc.sum l = x) (hl : l.length ≤ maxLen) (h : SliceAt encB w v l) :
    Calls Tryz.prog 45 #[v] w fun e w' => e = .returned (encU x) ∧ w = w' := by subst hx; exact sum_any v l w hl h
open Go.RowKit
theorem size8 : ∀ w, (sizeOf 5).run Tryz.prog w = .ok 1 w := by intro w; kernel_rfl
def dezero8 : List (BitVec 8) := [0#8, 0#8, 0#8, 0#8, 0#8, 0#8, 0#8, 0#8]
theorem eq_block (d : Nat) (x0 x1 x2 x3 x4 x5 x6 x7 y0 y1 y2 y3 y4 y5 y6 y7 : BitVec 8) (w : World) : (Op.equalIn (d + 2) 76 (.agg #[encB x0, encB x1, encB x2, encB x3, encB x4, encB x5, encB x6, encB x7]) (.agg #[encB y0, encB y1, encB y2, encB y3, encB y4, encB y5, encB y6, encB y7])).run Tryz.prog w = .ok (eqB [x0, x1, x2, x3, x4, x5, x6, x7] [y0, y1, y2, y3, y4, y5, y6, y7]) w :=
  run_equalIn_block w d Tryz.underlying76 Tryz.underlying5 size8 [x0, x1, x2, x3, x4, x5, x6, x7] [y0, y1, y2, y3, y4, y5, y6, y7] rfl rfl
theorem eq_zero (d : Nat) (x0 x1 x2 x3 x4 x5 x6 x7 : BitVec 8) (w : World) : (Op.equalIn (d + 2) 76 (.agg #[encB x0, encB x1, encB x2, encB x3, encB x4, encB x5, encB x6, encB x7]) (.agg #[.int .u8 0, .int .u8 0, .int .u8 0, .int .u8 0, .int .u8 0, .int .u8 0, .int .u8 0, .int .u8 0])).run Tryz.prog w = .ok (eqB [x0, x1, x2, x3, x4, x5, x6, x7] dezero8) w :=
  eq_block d x0 x1 x2 x3 x4 x5 x6 x7 0#8 0#8 0#8 0#8 0#8 0#8 0#8 0#8 w
attribute [local go_sem] eq_block eq_zero
def vld (k b : Int) (v : BitVec 64) (d : List (BitVec 8)) : Bool := decide (0 ≤ b) && decide (b < 65536) && decide (1 ≤ un v) && (decide (k = 1) || (decide (k = 2) && eqB d dezero8))
theorem vld_no {k b : Int} {v : BitVec 64} {d : List (BitVec 8)} (h : b < 0 ∨ 65536 ≤ b ∨ un v < 1) : false = vld k b v d := by
  unfold vld
  rcases h with h | h | h
  · rw [show decide (0 ≤ b) = false by simp; omega]; simp
  · rw [show decide (b < 65536) = false by simp; omega]; simp
  · rw [show decide (1 ≤ un v) = false by simp; omega]; simp
theorem vld_two {b : Int} {v : BitVec 64} {d : List (BitVec 8)} (h1 : 0 ≤ b) (h2 : b < 65536) (h3 : 1 ≤ un v) : eqB d dezero8 = vld 2 b v d := by
  simp [vld, h1, h2, h3]
theorem vld_one {b : Int} {v : BitVec 64} {d : List (BitVec 8)} (h1 : 0 ≤ b) (h2 : b < 65536) (h3 : 1 ≤ un v) : true = vld 1 b v d := by
  simp [vld, h1, h2, h3]
theorem vld_other {b : Int} {v : BitVec 64} {d : List (BitVec 8)} {k : Int} (hk1 : k ≠ 1) (hk2 : k ≠ 2) : false = vld k b v d := by
  simp [vld, hk1, hk2]
theorem devalid_any (k b : Int) (v : BitVec 64) (x0 x1 x2 x3 x4 x5 x6 x7 : BitVec 8) (w : World) :
    Calls Tryz.prog 186 #[.agg #[encI k, encI b, encU v, encB x0, encB x1, encB x2, encB x3, encB x4, encB x5, encB x6, encB x7]] w fun e w' => e = .returned (.bool (vld k b v [x0, x1, x2, x3, x4, x5, x6, x7])) ∧ Below w.heap.size w w' := by
  by_cases hbv : b < 0 ∨ 65536 ≤ b ∨ un v < 1
  · go_enter Tryz.func186, Tryz.ntmps186
    go_wp2
    all_goals first | (exfalso; omega) | (go_ret; exact ⟨ret_bool (vld_no hbv), Ext.alloc _ _⟩)
  · have h1 : 0 ≤ b := by omega
    have h2 : b < 65536 := by omega
    have h3 : 1 ≤ un v := by omega
    clear hbv
    rcases (show k = 1 ∨ k = 2 ∨ k ≠ 1 ∧ k ≠ 2 by omega) with rfl | rfl | ⟨hk1, hk2⟩
    · go_enter Tryz.func186, Tryz.ntmps186
      go_wp2
      go_ret
      exact ⟨ret_bool (vld_one h1 h2 h3), Ext.alloc _ _⟩
    · go_enter Tryz.func186, Tryz.ntmps186
      go_wp2
      go_ret
      exact ⟨ret_bool (vld_two h1 h2 h3), Ext.alloc _ _⟩
    · have HK := Lib.hid (vld_other (b := b) (v := v) (d := [x0, x1, x2, x3, x4, x5, x6, x7]) hk1 hk2)
      have hq1 : (k == 1) = false := by simpa using hk1
      have hq2 : (k == 2) = false := by simpa using hk2
      clear hk1 hk2
      go_enter Tryz.func186, Tryz.ntmps186
      go_wp2
      go_ret
      exact ⟨ret_bool HK.out, Ext.alloc _ _⟩
open Go.RowKit
theorem put_int (base : Nat) (v : Value) (l : List (BitVec 8)) (m n : Int) (w : World) (hm : 0 ≤ m ∧ m ≤ 18446744073709551615) (hl : l.length ≤ 1000000) (hn : 0 ≤ n ∧ n ≤ 8) (hb : base ≤ w.heap.size) (h : deOwnB w base v l) :
    Calls Tryz.prog 220 #[v, .int .u64 m, .int .i64 n] w fun e w' => ∃ v', e = .returned v' ∧ deOwnB w' base v' (l ++ le n.toNat (BitVec.ofInt 64 m)) ∧ Below base w w' := by
  have := put_any base v l (BitVec.ofInt 64 m) n w hl hn hb h
  unfold encU at this
  rw [un_ofInt m hm] at this
  exact this
def pln (k b : Int) (v : BitVec 64) (d : List (BitVec 8)) (t : BitVec 64) : List (BitVec 8) := le 1 (BitVec.ofInt 64 k) ++ le 4 (BitVec.ofInt 64 b) ++ le 8 v ++ d ++ le 8 t
def seal8 (l : List (BitVec 8)) : List (BitVec 8) := l ++ le 8 (Crc.sum l)
theorem vld_bounds {k b : Int} {v : BitVec 64} {d : List (BitVec 8)} (h : vld k b v d = true) : (1 ≤ k ∧ k ≤ 2) ∧ (0 ≤ b ∧ b < 65536) ∧ 1 ≤ un v := by
  unfold vld at h
  simp only [Bool.and_eq_true, Bool.or_eq_true, decide_eq_true_eq] at h
  omega
theorem SliceAt.cells8 {W : World} {B o : Nat} {x0 x1 x2 x3 x4 x5 x6 x7 : BitVec 8} (hB : B < W.heap.size) (c0 : W.cell? ⟨B, o, none⟩ = some (encB x0)) (c1 : W.cell? ⟨B, o + 1, none⟩ = some (encB x1)) (c2 : W.cell? ⟨B, o + 2, none⟩ = some (encB x2)) (c3 : W.cell? ⟨B, o + 3, none⟩ = some (encB x3))
    (c4 : W.cell? ⟨B, o + 4, none⟩ = some (encB x4)) (c5 : W.cell? ⟨B, o + 5, none⟩ = some (encB x5)) (c6 : W.cell? ⟨B, o + 6, none⟩ = some (encB x6)) (c7 : W.cell? ⟨B, o + 7, none⟩ = some (encB x7)) :
    SliceAt encB W (.slice (some ⟨B, o, none⟩) 8 8) [x0, x1, x2, x3, x4, x5, x6, x7] := by
  refine ⟨_, 8, rfl, Nat.le_refl _, .inr ⟨B, o, rfl, hB, fun i hi => ?_⟩⟩
  have hi : i < 8 := hi
  match i, hi with
  | 0, _ => exact c0
  | 1, _ => exact c1
  | 2, _ => exact c2
  | 3, _ => exact c3
  | 4, _ => exact c4
  | 5, _ => exact c5
  | 6, _ => exact c6
  | 7, _ => exact c7
theorem deowns_mono {w : World} {b b' : Nat} {v : Value} {l : List (BitVec 8)} (h : deOwnB w b v l) (hb : b' ≤ b) : deOwnB w b' v l :=
  ⟨h.1, h.2.imp id (fun ⟨g, cap, cur, hv, hg, r⟩ => ⟨g, cap, cur, hv, Nat.le_trans hb hg, r⟩)⟩
set_option maxHeartbeats 800000 in
theorem encode_yes (k b : Int) (v : BitVec 64) (x0 x1 x2 x3 x4 x5 x6 x7 : BitVec 8) (t : BitVec 64) (w : World) (h : vld k b v [x0, x1, x2, x3, x4, x5, x6, x7] = true) :
    Calls Tryz.prog 179 #[.agg #[encI k, encI b, encU v, encB x0, encB x1, encB x2, encB x3, encB x4, encB x5, encB x6, encB x7], encU t] w fun e w' => ∃ v', e = .returned (.tuple #[v', .int .i64 0]) ∧ deOwnB w' w.heap.size v' (seal8 (pln k b v [x0, x1, x2, x3, x4, x5, x6, x7] t)) ∧ Below w.heap.size w w' := by
  obtain ⟨i0, hi, hz0, hz1, hz2⟩ := info_parts deinfoB
  obtain ⟨⟨hk1, hk2⟩, ⟨hb1, hb2⟩, hv⟩ := vld_bounds h
  have hvb := un_bound v
  have htb := un_bound t
  have HV := Lib.hid h
  clear h
  go_enter Tryz.func179, Tryz.ntmps179
  go_wp2_with fail
  have hz : w.heap.size < (w.alloc (.cells #[encI k, encI b, encU v, encB x0, encB x1, encB x2, encB x3, encB x4, encB x5, encB x6, encB x7] 151)).heap.size := by simp
  generalize hW : w.alloc (.cells #[encI k, encI b, encU v, encB x0, encB x1, encB x2, encB x3, encB x4, encB x5, encB x6, encB x7] 151) = W at *
  have c0 : W.cell? ⟨w.heap.size, 0, none⟩ = some (encI k) := by rw [← hW]; simp
  have c1 : W.cell? ⟨w.heap.size, 1, none⟩ = some (encI b) := by rw [← hW]; simp
  have c2 : W.cell? ⟨w.heap.size, 2, none⟩ = some (encU v) := by rw [← hW]; simp
  have c3 : W.cell? ⟨w.heap.size, 3, none⟩ = some (encB x0) := by rw [← hW]; simp
  have c4 : W.cell? ⟨w.heap.size, 4, none⟩ = some (encB x1) := by rw [← hW]; simp
  have c5 : W.cell? ⟨w.heap.size, 5, none⟩ = some (encB x2) := by rw [← hW]; simp
  have c6 : W.cell? ⟨w.heap.size, 6, none⟩ = some (encB x3) := by rw [← hW]; simp
  have c7 : W.cell? ⟨w.heap.size, 7, none⟩ = some (encB x4) := by rw [← hW]; simp
  have c8 : W.cell? ⟨w.heap.size, 8, none⟩ = some (encB x5) := by rw [← hW]; simp
  have c9 : W.cell? ⟨w.heap.size, 9, none⟩ = some (encB x6) := by rw [← hW]; simp
  have c10 : W.cell? ⟨w.heap.size, 10, none⟩ = some (encB x7) := by rw [← hW]; simp
  have hxW : Ext w W := by rw [← hW]; exact Ext.alloc _ _
  have hbF : ∀ o, W.frozen? ⟨w.heap.size, o, none⟩ = false := fun o => by rw [← hW]; simp
  have HBF := Lib.hid hbF
  clear hW hbF
  have HD := Lib.hid (SliceAt.cells8 (o := 3) hz c3 c4 c5 c6 c7 c8 c9 c10)
  go_wp2_with fail
  go_at_call 186
  refine (devalid_any _ _ _ _ _ _ _ _ _ _ _ _).mono ?_
  rintro e w1 ⟨rfl, hx1⟩
  rw [HV.out]
  have hc1 := Ext.cells hx1
  have hs1 := Ext.size hx1
  go_wp2_with fail
  go_at_call 220
  refine (put_int W.heap.size _ _ _ _ _ ⟨by omega, by omega⟩ (by simp) (by omega) hs1 (deOwnB.nil _ _)).mono ?_
  rintro e w2 ⟨v2, rfl, ho2, hb2⟩
  have hx2 : Ext W w2 := by first | exact Below.trans hx1 hb2 | exact Ext.trans hx1 hb2
  have hc2 := hx2.cells
  have hs2 := hx2.size
  have hq2 := Below.size hb2
  have hlt2 := Nat.lt_of_lt_of_le hz hs2
  have HO2 := Lib.hid ho2
  clear ho2 hb2
  go_wp2_with fail
  go_at_call 220
  refine (put_int W.heap.size _ _ _ _ _ ⟨by omega, by omega⟩ (by simp [le_length]) (by omega) hs2 HO2.out).mono ?_
  rintro e w3 ⟨v3, rfl, ho3, hb3⟩
  have hx3 : Ext W w3 := by first | exact Below.trans hx2 hb3 | exact Ext.trans hx2 hb3
  have hc3 := hx3.cells
  have hs3 := hx3.size
  have hq3 := Below.size hb3
  have hlt3 := Nat.lt_of_lt_of_le hz hs3
  have HO3 := Lib.hid ho3
  clear ho3 hb3
  go_wp2_with fail
  go_at_call 220
  refine (put_int W.heap.size _ _ _ _ _ ⟨by omega, by omega⟩ (by simp [le_length]) (by omega) hs3 HO3.out).mono ?_
  rintro e w4 ⟨v4, rfl, ho4, hb4⟩
  have hx4 : Ext W w4 := by first | exact Below.trans hx3 hb4 | exact Ext.trans hx3 hb4
  have hc4 := hx4.cells
  have hs4 := hx4.size
  have hq4 := Below.size hb4
  have hlt4 := Nat.lt_of_lt_of_le hz hs4
  have HO4 := Lib.hid ho4
  clear ho4 hb4
  go_wp2_with (at_builtin; go_must (refine wpList_append_slice (enc := encB) (fun _ => rfl) rfl _ _ _ rfl W.heap.size 5 i0 (.int .u8 0) 1 Tryz.underlying47 hi hz0 hz1 hz2 rfl _ _ _ rfl HO4.out _ _ rfl (HD.out.ext hx4) (by unfold maxLen; simp [le_length]) (by simp [le_length]) (by omega) ?_; intro v5 w5 ho5 hg5); have hx5 : Ext W w5 := Below.grown hx4 hg5 hs4 (fun k hk => by have := (World.ownsRow.lt HO4.out k hk).1; omega); have HO5 := Lib.hid (OwnB.mk ho5); have hc5 := hx5.cells; have hs5 := hx5.size; have hlt5 := Nat.lt_of_lt_of_le hz hs5; clear ho5 hg5)
  go_at_call 220
  refine (put_int W.heap.size _ _ _ _ _ ⟨by omega, by omega⟩ (by simp [le_length]) (by omega) hs5 HO5.out).mono ?_
  rintro e w6 ⟨v6, rfl, ho6, hb6⟩
  have hx6 : Ext W w6 := by first | exact Below.trans hx5 hb6 | exact Ext.trans hx5 hb6
  have hc6 := hx6.cells
  have hs6 := hx6.size
  have hq6 := Below.size hb6
  have hlt6 := Nat.lt_of_lt_of_le hz hs6
  have HO6 := Lib.hid ho6
  clear ho6 hb6
  have hHL : ∀ l : List (BitVec 8), deOwnB w6 W.heap.size v6 l → l.length ≤ 1000 → Calls Tryz.prog 45 #[v6] w6 fun e w' => e = .returned (encU (Crc.sum l)) ∧ w6 = w' := fun l hl h => sum_any _ l _ (by unfold maxLen; omega) (deOwnB.slice hl)
  have HHL := Lib.hid (hHL _ HO6.out (by simp [le_length]))
  clear hHL
  go_wp2_with fail
  go_at_call 45
  refine HHL.out.mono ?_
  rintro e w7 ⟨rfl, rfl⟩
  go_wp2_with fail
  go_at_call 220
  refine (put_any W.heap.size _ _ _ _ _ (by simp [le_length]) (by omega) hs6 HO6.out).mono ?_
  rintro e w7 ⟨v7, rfl, ho7, hb7⟩
  have hx7 : Ext W w7 := by first | exact Below.trans hx6 hb7 | exact Ext.trans hx6 hb7
  have hc7 := hx7.cells
  have hs7 := hx7.size
  have hq7 := Below.size hb7
  have hlt7 := Nat.lt_of_lt_of_le hz hs7
  have HO7 := Lib.hid ho7
  clear ho7 hb7
  go_wp2_with fail
  go_ret2
  refine ⟨_, rfl, ?_, hxW.trans hx7⟩
  have h2 := deowns_mono HO7.out hxW.size
  simp only [List.nil_append, ofInt_un] at h2
  exact h2
open Go.RowKit
open Go.RowKit
def badE (n : Int) : Value := .tuple #[.agg #[.int .i64 0, .int .i64 0, .int .u64 0, .int .u8 0, .int .u8 0, .int .u8 0, .int .u8 0, .int .u8 0, .int .u8 0, .int .u8 0, .int .u8 0], .int .u64 0, .int .i64 n]
def d0 (l : List (BitVec 8)) : BitVec 8 := l.getD 0 0#8
def dBn (l : List (BitVec 8)) : BitVec 64 := unle ((l.take 5).drop 1)
def dC (l : List (BitVec 8)) : BitVec 64 := Crc.sum (l.take 29)
def dK (l : List (BitVec 8)) : Int := ub (d0 l)
def dB (l : List (BitVec 8)) : Int := un (dBn l)
def dV (l : List (BitVec 8)) : BitVec 64 := unle ((l.take 13).drop 5)
def dX (l : List (BitVec 8)) (i : Nat) : BitVec 8 := l.getD (13 + i) 0#8
def dD (l : List (BitVec 8)) : List (BitVec 8) := [dX l 0, dX l 1, dX l 2, dX l 3, dX l 4, dX l 5, dX l 6, dX l 7]
def dT (l : List (BitVec 8)) : BitVec 64 := unle ((l.take 29).drop 21)
def dS (l : List (BitVec 8)) : BitVec 64 := unle ((l.take 37).drop 29)
theorem SliceAt.desub {α : Type} {enc : α → Value} {w : World} {b off n cap : Nat} {l : List α} (h : SliceAt enc w (.slice (some ⟨b, off, none⟩) n cap) l) (i j n' cap' : Nat) (hij : i ≤ j) (hj : j ≤ n) (hn : n' = j - i) (hc : n' ≤ cap') :
    SliceAt enc w (.slice (some ⟨b, off + i, none⟩) n' cap') ((l.take j).drop i) := by
  obtain ⟨ad, cap0, hv, hca, h⟩ := h
  injection hv with h1 h2 h3
  have hl : ((l.take j).drop i).length = n' := by rw [List.length_drop, List.length_take, Nat.min_eq_left (by omega)]; omega
  refine ⟨_, cap', by rw [hl], by omega, ?_⟩
  rcases h with ⟨h4, _⟩ | ⟨b', off', h4, h5, h6⟩
  · left; exact ⟨by rw [h4]; simp, fun h => by cases h⟩
  · right
    rw [← h1] at h4; cases h4
    refine ⟨b, off + i, rfl, h5, fun k hk => ?_⟩
    rw [hl] at hk
    rw [Nat.add_assoc, h6 (i + k) (by omega), List.getElem_drop, List.getElem_take]
theorem SliceAt.desome_of {α : Type} {enc : α → Value} {w : World} {v : Value} {l : List α} (h : SliceAt enc w v l) (hl : 0 < l.length) :
    ∃ b off cap, v = .slice (some ⟨b, off, none⟩) l.length cap ∧ l.length ≤ cap ∧ b < w.heap.size ∧ ∀ i (h : i < l.length), w.cell? ⟨b, off + i, none⟩ = some (enc l[i]) := by
  obtain ⟨ad, cap, rfl, hca, h⟩ := h
  rcases h with ⟨h1, _⟩ | ⟨b, off, rfl, h2, h3⟩
  · subst h1; simp at hl
  · exact ⟨b, off, cap, rfl, hca, h2, h3⟩
set_option maxHeartbeats 800000 in
theorem decode_sum (v : Value) (l : List (BitVec 8)) (w : World) (h : SliceAt encB w v l) (hl : l.length = 37) (hne : dS l ≠ dC l) :
    Calls Tryz.prog 121 #[v] w fun e w' => e = .returned (badE 6) ∧ Below w.heap.size w w' := by
  have HS := Lib.hid h
  obtain ⟨b, off, cap, rfl, hca, hb, _⟩ := h.desome_of (by omega)
  have hq : (un (dS l) != un (dC l)) = true := by rw [bne_iff_ne]; exact fun e => hne (un_inj e)
  have hc37 : (37 : Int) ≤ (cap : Int) := by omega
  rw [hl] at HS
  rw [hl]
  have HL := Lib.hid hl
  clear hne hl hca h
  go_enter Tryz.func121, Tryz.ntmps121
  go_wp2
  have hxA := (Ext.alloc w (.cells #[.int .i64 0, .int .i64 0, .int .u64 0, .int .u8 0, .int .u8 0, .int .u8 0, .int .u8 0, .int .u8 0, .int .u8 0, .int .u8 0, .int .u8 0] 151))
  have HS1 := Lib.hid (HS.out.ext (hxA.trans (Ext.drew _)))
  clear hxA
  refine wp_region_ext [(0, true), (1, true), (3, true), (4, true), (2, false), (5, false), (6, true)] (by kernel_rfl) (by kernel_rfl) ?_
  iterate 4 ((first
   | refine ext_move rfl rfl (by rfl) (by rfl) ?_
   | refine ext_assign rfl rfl (by rfl) (by rfl) ?_
   | refine ext_pick_t rfl rfl (by rfl) (by rfl) (by rfl) ?_
   | refine ext_pick_f rfl rfl (by rfl) (by rfl) (by rfl) ?_
   | (apply ext_take rfl (by rfl)
      · intro w' hS
        have hSc := hS.cells
        (try simp only [World.size_drew, World.cell?_drew] at hSc)
        go_simp
        (try simp (disch := omega) only [↓IntWalk.iteOmega])
        try rfl)
   | refine ext_pass rfl (by rfl) ?_); simp only [Act.put, setZa, setZ0, setZ1])
  (refine ext_do rfl (by rfl) (fun K hK => ?_)
   go_simp
   go_at_call 185
   refine (get_as (dS l) _ _ _ rfl (by simp; omega) (HS1.out.desub 29 37 8 _ (by omega) (by omega) (by omega) (by omega))).mono ?_
   rintro e w' ⟨rfl, rfl⟩
   refine hK _ _ (by first | (with_reducible exact Ext.refl _) | (with_reducible exact Ext.drew _)) ?_
   clear hK K
   (try simp only [Act.put, setZa, setZ0, setZ1]))
  (refine ext_do rfl (by rfl) (fun K hK => ?_)
   go_simp
   go_at_call 45
   refine (sum_as (dC l) _ _ _ rfl (by unfold maxLen; simp; omega) (HS1.out.desub 0 29 29 _ (by omega) (by omega) (by omega) (by omega))).mono ?_
   rintro e w' ⟨rfl, rfl⟩
   refine hK _ _ (by first | (with_reducible exact Ext.refl _) | (with_reducible exact Ext.drew _)) ?_
   clear hK K
   (try simp only [Act.put, setZa, setZ0, setZ1]))
  iterate 1 ((first
   | refine ext_move rfl rfl (by rfl) (by rfl) ?_
   | refine ext_assign rfl rfl (by rfl) (by rfl) ?_
   | refine ext_pick_t rfl rfl (by rfl) (by rfl) (by rfl) ?_
   | refine ext_pick_f rfl rfl (by rfl) (by rfl) (by rfl) ?_
   | (apply ext_take rfl (by rfl)
      · intro w' hS
        have hSc := hS.cells
        (try simp only [World.size_drew, World.cell?_drew] at hSc)
        go_simp
        (try simp (disch := omega) only [i64_id, u64_id, ↓IntWalk.iteOmega, Int.tdiv_eq_ediv_of_nonneg, Int.tmod_eq_emod_of_nonneg])
        try rfl)
   | refine ext_pass rfl (by rfl) ?_); simp only [Act.put, setZa, setZ0, setZ1])
  refine ext_nil ?_
  go_wp2
  refine bodyPost_ret (v := badE 6) ?_ rfl ⟨rfl, ?_⟩
  · unfold badE; simp [results, Tryz.results121, go_sem]
  · exact (Ext.alloc _ _).trans (Ext.drew _)
set_option maxHeartbeats 800000 in
theorem decode_bad (v : Value) (l : List (BitVec 8)) (w : World) (h : SliceAt encB w v l) (hl : l.length = 37) (hs : dS l = dC l) (hv : vld (dK l) (dB l) (dV l) (dD l) = false) :
    Calls Tryz.prog 121 #[v] w fun e w' => e = .returned (badE 5) ∧ Below w.heap.size w w' := by
  have HS := Lib.hid h
  obtain ⟨b, off, cap, rfl, hca, hb, hcell⟩ := h.desome_of (by omega)
  have hq : (un (dS l) != un (dC l)) = false := by rw [bne_eq_false_iff_eq]; exact congrArg un hs
  have hc37 : (37 : Int) ≤ (cap : Int) := by omega
  have cx : ∀ i (hi : i < 37), w.cell? ⟨b, off + i, none⟩ = some (encB (l.getD i 0#8)) := fun i hi => by
    rw [hcell i (by omega)]; simp [List.getD, show i < l.length by omega]
  have k0 : w.cell? ⟨b, off, none⟩ = some (encB (d0 l)) := cx 0 (by omega)
  have k1 : w.cell? ⟨b, off + 13, none⟩ = some (encB (dX l 0)) := cx 13 (by omega)
  have k2 : w.cell? ⟨b, off + 14, none⟩ = some (encB (dX l 1)) := cx 14 (by omega)
  have k3 : w.cell? ⟨b, off + 15, none⟩ = some (encB (dX l 2)) := cx 15 (by omega)
  have k4 : w.cell? ⟨b, off + 16, none⟩ = some (encB (dX l 3)) := cx 16 (by omega)
  have k5 : w.cell? ⟨b, off + 17, none⟩ = some (encB (dX l 4)) := cx 17 (by omega)
  have k6 : w.cell? ⟨b, off + 18, none⟩ = some (encB (dX l 5)) := cx 18 (by omega)
  have k7 : w.cell? ⟨b, off + 19, none⟩ = some (encB (dX l 6)) := cx 19 (by omega)
  have k8 : w.cell? ⟨b, off + 20, none⟩ = some (encB (dX l 7)) := cx 20 (by omega)
  have hbd := un_bound (dBn l)
  have hlt5 := unle_lt ((l.take 5).drop 1) 4 (by simp; omega) (by omega)
  have hbd2 : un (dBn l) ≤ 9223372036854775807 := by unfold un dBn; omega
  have hub := ub_bound (d0 l)
  rw [hl] at HS
  rw [hl]
  have HL := Lib.hid hl
  have HV := Lib.hid hv
  clear hs hl hca h hcell cx hlt5 hv
  go_enter Tryz.func121, Tryz.ntmps121
  go_wp2
  have hxA := (Ext.alloc w (.cells #[.int .i64 0, .int .i64 0, .int .u64 0, .int .u8 0, .int .u8 0, .int .u8 0, .int .u8 0, .int .u8 0, .int .u8 0, .int .u8 0, .int .u8 0] 151))
  have HS1 := Lib.hid (HS.out.ext (hxA.trans (Ext.drew _)))
  clear hxA
  refine wp_region_ext [(0, true), (1, true), (3, true), (4, true), (2, false), (5, false), (6, true)] (by kernel_rfl) (by kernel_rfl) ?_
  iterate 4 ((first
   | refine ext_move rfl rfl (by rfl) (by rfl) ?_
   | refine ext_assign rfl rfl (by rfl) (by rfl) ?_
   | refine ext_pick_t rfl rfl (by rfl) (by rfl) (by rfl) ?_
   | refine ext_pick_f rfl rfl (by rfl) (by rfl) (by rfl) ?_
   | (apply ext_take rfl (by rfl)
      · intro w' hS
        have hSc := hS.cells
        (try simp only [World.size_drew, World.cell?_drew] at hSc)
        go_simp
        (try simp (disch := omega) only [↓IntWalk.iteOmega])
        try rfl)
   | refine ext_pass rfl (by rfl) ?_); simp only [Act.put, setZa, setZ0, setZ1])
  (refine ext_do rfl (by rfl) (fun K hK => ?_)
   go_simp
   go_at_call 185
   refine (get_as (dS l) _ _ _ rfl (by simp; omega) (HS1.out.desub 29 37 8 _ (by omega) (by omega) (by omega) (by omega))).mono ?_
   rintro e w' ⟨rfl, rfl⟩
   refine hK _ _ (by first | (with_reducible exact Ext.refl _) | (with_reducible exact Ext.drew _)) ?_
   clear hK K
   (try simp only [Act.put, setZa, setZ0, setZ1]))
  (refine ext_do rfl (by rfl) (fun K hK => ?_)
   go_simp
   go_at_call 45
   refine (sum_as (dC l) _ _ _ rfl (by unfold maxLen; simp; omega) (HS1.out.desub 0 29 29 _ (by omega) (by omega) (by omega) (by omega))).mono ?_
   rintro e w' ⟨rfl, rfl⟩
   refine hK _ _ (by first | (with_reducible exact Ext.refl _) | (with_reducible exact Ext.drew _)) ?_
   clear hK K
   (try simp only [Act.put, setZa, setZ0, setZ1]))
  iterate 1 ((first
   | refine ext_move rfl rfl (by rfl) (by rfl) ?_
   | refine ext_assign rfl rfl (by rfl) (by rfl) ?_
   | refine ext_pick_t rfl rfl (by rfl) (by rfl) (by rfl) ?_
   | refine ext_pick_f rfl rfl (by rfl) (by rfl) (by rfl) ?_
   | (apply ext_take rfl (by rfl)
      · intro w' hS
        have hSc := hS.cells
        (try simp only [World.size_drew, World.cell?_drew] at hSc)
        go_simp
        (try simp (disch := omega) only [i64_id, u64_id, ↓IntWalk.iteOmega, Int.tdiv_eq_ediv_of_nonneg, Int.tmod_eq_emod_of_nonneg])
        try rfl)
   | refine ext_pass rfl (by rfl) ?_); simp only [Act.put, setZa, setZ0, setZ1])
  refine ext_nil ?_
  go_wp2
  have HS2 := Lib.hid (HS1.out.ext (Ext.drew _))
  refine wp_region_ext [(0, true), (1, true), (2, true), (3, true), (4, true), (5, true), (8, true), (9, true), (11, true), (12, true), (13, true), (14, true), (6, false), (7, true), (10, false), (15, true), (16, false)] (by kernel_rfl) (by kernel_rfl) ?_
  iterate 12 ((first
   | refine ext_move rfl rfl (by rfl) (by rfl) ?_
   | refine ext_assign rfl rfl (by rfl) (by rfl) ?_
   | refine ext_pick_t rfl rfl (by rfl) (by rfl) (by rfl) ?_
   | refine ext_pick_f rfl rfl (by rfl) (by rfl) (by rfl) ?_
   | (apply ext_take rfl (by rfl)
      · intro w' hS
        have hSc := hS.cells
        (try simp only [World.size_drew, World.cell?_drew] at hSc)
        go_simp
        (try simp (disch := omega) only [i64_id, ↓IntWalk.iteOmega])
        try rfl)
   | refine ext_pass rfl (by rfl) ?_); simp only [Act.put, setZa, setZ0, setZ1])
  (refine ext_do rfl (by rfl) (fun K hK => ?_)
   go_simp
   go_at_call 185
   refine (get_as (dBn l) _ _ _ rfl (by simp; omega) (HS2.out.desub 1 5 4 _ (by omega) (by omega) (by omega) (by omega))).mono ?_
   rintro e w' ⟨rfl, rfl⟩
   refine hK _ _ (by first | (with_reducible exact Ext.refl _) | (with_reducible exact Ext.drew _)) ?_
   clear hK K
   (try simp only [Act.put, setZa, setZ0, setZ1]))
  iterate 1 ((first
   | refine ext_move rfl rfl (by rfl) (by rfl) ?_
   | refine ext_assign rfl rfl (by rfl) (by rfl) ?_
   | refine ext_pick_t rfl rfl (by rfl) (by rfl) (by rfl) ?_
   | refine ext_pick_f rfl rfl (by rfl) (by rfl) (by rfl) ?_
   | (apply ext_take rfl (by rfl)
      · intro w' hS
        have hSc := hS.cells
        (try simp only [World.size_drew, World.cell?_drew] at hSc)
        go_simp
        (try simp (disch := omega) only [i64_id])
        try rfl)
   | refine ext_pass rfl (by rfl) ?_); simp only [Act.put, setZa, setZ0, setZ1])
  (refine ext_do rfl (by rfl) (fun K hK => ?_)
   go_simp
   go_at_call 185
   refine (get_as (dV l) _ _ _ rfl (by simp; omega) (HS2.out.desub 5 13 8 _ (by omega) (by omega) (by omega) (by omega))).mono ?_
   rintro e w' ⟨rfl, rfl⟩
   refine hK _ _ (by first | (with_reducible exact Ext.refl _) | (with_reducible exact Ext.drew _)) ?_
   clear hK K
   (try simp only [Act.put, setZa, setZ0, setZ1]))
  iterate 1 ((first
   | refine ext_move rfl rfl (by rfl) (by rfl) ?_
   | refine ext_assign rfl rfl (by rfl) (by rfl) ?_
   | refine ext_pick_t rfl rfl (by rfl) (by rfl) (by rfl) ?_
   | refine ext_pick_f rfl rfl (by rfl) (by rfl) (by rfl) ?_
   | (apply ext_take rfl (by rfl)
      · intro w' hS
        have hSc := hS.cells
        (try simp only [World.size_drew, World.cell?_drew] at hSc)
        go_simp
        (try simp (disch := omega) only [i64_id, u64_id, ↓IntWalk.iteOmega, Int.tdiv_eq_ediv_of_nonneg, Int.tmod_eq_emod_of_nonneg])
        try rfl)
   | refine ext_pass rfl (by rfl) ?_); simp only [Act.put, setZa, setZ0, setZ1])
  (refine ext_last rfl (by rfl) (by kernel_rfl) (fun K hK => ?_)
   go_simp
   refine hK _ _ ?_
   clear hK K
   (try simp only [Act.put, setZa, setZ0, setZ1]))
  go_wp2_with fail
  go_at_call 186
  refine (devalid_any _ _ _ _ _ _ _ _ _ _ _ _).mono ?_
  rintro e w1 ⟨rfl, hx1⟩
  rw [show vld (ub (d0 l)) (un (dBn l)) (dV l) [dX l 0, dX l 1, dX l 2, dX l 3, dX l 4, dX l 5, dX l 6, dX l 7] = false from HV.out]
  have hc1 := Ext.cells hx1
  have hf1 := Ext.frozens hx1
  have hs1 := Ext.size hx1
  have hlt1 : w.heap.size < w1.heap.size := by have := hs1; simp at this; omega
  have hxw1 : Ext w w1 := by refine Ext.trans ?_ hx1; (repeat (first | (with_reducible exact Ext.alloc _ _) | (with_reducible exact Ext.refl _) | (with_reducible refine Ext.trans ?_ (Ext.drew _)) | (with_reducible refine Ext.trans ?_ (Ext.alloc _ _))))
  go_wp2
  refine bodyPost_ret (v := badE 5) ?_ rfl ⟨rfl, ?_⟩
  · unfold badE
    simp only [results, Tryz.results121]
    go_simp
  · refine below_of_ext ?_
    repeat (with_reducible refine Ext.setOwn ?_ (Nat.le_refl _))
    exact hxw1
set_option maxHeartbeats 800000 in
theorem decode_yes (v : Value) (l : List (BitVec 8)) (w : World) (h : SliceAt encB w v l) (hl : l.length = 37) (hs : dS l = dC l) (hv : vld (dK l) (dB l) (dV l) (dD l) = true) :
    Calls Tryz.prog 121 #[v] w fun e w' => e = .returned (.tuple #[.agg #[encI (dK l), encI (dB l), encU (dV l), encB (dX l 0), encB (dX l 1), encB (dX l 2), encB (dX l 3), encB (dX l 4), encB (dX l 5), encB (dX l 6), encB (dX l 7)], encU (dT l), .int .i64 0]) ∧ Below w.heap.size w w' := by
  have HS := Lib.hid h
  obtain ⟨b, off, cap, rfl, hca, hb, hcell⟩ := h.desome_of (by omega)
  have hq : (un (dS l) != un (dC l)) = false := by rw [bne_eq_false_iff_eq]; exact congrArg un hs
  have hc37 : (37 : Int) ≤ (cap : Int) := by omega
  have cx : ∀ i (hi : i < 37), w.cell? ⟨b, off + i, none⟩ = some (encB (l.getD i 0#8)) := fun i hi => by
    rw [hcell i (by omega)]; simp [List.getD, show i < l.length by omega]
  have k0 : w.cell? ⟨b, off, none⟩ = some (encB (d0 l)) := cx 0 (by omega)
  have k1 : w.cell? ⟨b, off + 13, none⟩ = some (encB (dX l 0)) := cx 13 (by omega)
  have k2 : w.cell? ⟨b, off + 14, none⟩ = some (encB (dX l 1)) := cx 14 (by omega)
  have k3 : w.cell? ⟨b, off + 15, none⟩ = some (encB (dX l 2)) := cx 15 (by omega)
  have k4 : w.cell? ⟨b, off + 16, none⟩ = some (encB (dX l 3)) := cx 16 (by omega)
  have k5 : w.cell? ⟨b, off + 17, none⟩ = some (encB (dX l 4)) := cx 17 (by omega)
  have k6 : w.cell? ⟨b, off + 18, none⟩ = some (encB (dX l 5)) := cx 18 (by omega)
  have k7 : w.cell? ⟨b, off + 19, none⟩ = some (encB (dX l 6)) := cx 19 (by omega)
  have k8 : w.cell? ⟨b, off + 20, none⟩ = some (encB (dX l 7)) := cx 20 (by omega)
  have hbd := un_bound (dBn l)
  have hlt5 := unle_lt ((l.take 5).drop 1) 4 (by simp; omega) (by omega)
  have hbd2 : un (dBn l) ≤ 9223372036854775807 := by unfold un dBn; omega
  have hub := ub_bound (d0 l)
  rw [hl] at HS
  rw [hl]
  have HL := Lib.hid hl
  have HV := Lib.hid hv
  clear hs hl hca h hcell cx hlt5 hv
  go_enter Tryz.func121, Tryz.ntmps121
  go_wp2
  have hxA := (Ext.alloc w (.cells #[.int .i64 0, .int .i64 0, .int .u64 0, .int .u8 0, .int .u8 0, .int .u8 0, .int .u8 0, .int .u8 0, .int .u8 0, .int .u8 0, .int .u8 0] 151))
  have HS1 := Lib.hid (HS.out.ext (hxA.trans (Ext.drew _)))
  clear hxA
  refine wp_region_ext [(0, true), (1, true), (3, true), (4, true), (2, false), (5, false), (6, true)] (by kernel_rfl) (by kernel_rfl) ?_
  iterate 4 ((first
   | refine ext_move rfl rfl (by rfl) (by rfl) ?_
   | refine ext_assign rfl rfl (by rfl) (by rfl) ?_
   | refine ext_pick_t rfl rfl (by rfl) (by rfl) (by rfl) ?_
   | refine ext_pick_f rfl rfl (by rfl) (by rfl) (by rfl) ?_
   | (apply ext_take rfl (by rfl)
      · intro w' hS
        have hSc := hS.cells
        (try simp only [World.size_drew, World.cell?_drew] at hSc)
        go_simp
        (try simp (disch := omega) only [↓IntWalk.iteOmega])
        try rfl)
   | refine ext_pass rfl (by rfl) ?_); simp only [Act.put, setZa, setZ0, setZ1])
  (refine ext_do rfl (by rfl) (fun K hK => ?_)
   go_simp
   go_at_call 185
   refine (get_as (dS l) _ _ _ rfl (by simp; omega) (HS1.out.desub 29 37 8 _ (by omega) (by omega) (by omega) (by omega))).mono ?_
   rintro e w' ⟨rfl, rfl⟩
   refine hK _ _ (by first | (with_reducible exact Ext.refl _) | (with_reducible exact Ext.drew _)) ?_
   clear hK K
   (try simp only [Act.put, setZa, setZ0, setZ1]))
  (refine ext_do rfl (by rfl) (fun K hK => ?_)
   go_simp
   go_at_call 45
   refine (sum_as (dC l) _ _ _ rfl (by unfold maxLen; simp; omega) (HS1.out.desub 0 29 29 _ (by omega) (by omega) (by omega) (by omega))).mono ?_
   rintro e w' ⟨rfl, rfl⟩
   refine hK _ _ (by first | (with_reducible exact Ext.refl _) | (with_reducible exact Ext.drew _)) ?_
   clear hK K
   (try simp only [Act.put, setZa, setZ0, setZ1]))
  iterate 1 ((first
   | refine ext_move rfl rfl (by rfl) (by rfl) ?_
   | refine ext_assign rfl rfl (by rfl) (by rfl) ?_
   | refine ext_pick_t rfl rfl (by rfl) (by rfl) (by rfl) ?_
   | refine ext_pick_f rfl rfl (by rfl) (by rfl) (by rfl) ?_
   | (apply ext_take rfl (by rfl)
      · intro w' hS
        have hSc := hS.cells
        (try simp only [World.size_drew, World.cell?_drew] at hSc)
        go_simp
        (try simp (disch := omega) only [i64_id, u64_id, ↓IntWalk.iteOmega, Int.tdiv_eq_ediv_of_nonneg, Int.tmod_eq_emod_of_nonneg])
        try rfl)
   | refine ext_pass rfl (by rfl) ?_); simp only [Act.put, setZa, setZ0, setZ1])
  refine ext_nil ?_
  go_wp2
  have HS2 := Lib.hid (HS1.out.ext (Ext.drew _))
  refine wp_region_ext [(0, true), (1, true), (2, true), (3, true), (4, true), (5, true), (8, true), (9, true), (11, true), (12, true), (13, true), (14, true), (6, false), (7, true), (10, false), (15, true), (16, false)] (by kernel_rfl) (by kernel_rfl) ?_
  iterate 12 ((first
   | refine ext_move rfl rfl (by rfl) (by rfl) ?_
   | refine ext_assign rfl rfl (by rfl) (by rfl) ?_
   | refine ext_pick_t rfl rfl (by rfl) (by rfl) (by rfl) ?_
   | refine ext_pick_f rfl rfl (by rfl) (by rfl) (by rfl) ?_
   | (apply ext_take rfl (by rfl)
      · intro w' hS
        have hSc := hS.cells
        (try simp only [World.size_drew, World.cell?_drew] at hSc)
        go_simp
        (try simp (disch := omega) only [i64_id, ↓IntWalk.iteOmega])
        try rfl)
   | refine ext_pass rfl (by rfl) ?_); simp only [Act.put, setZa, setZ0, setZ1])
  (refine ext_do rfl (by rfl) (fun K hK => ?_)
   go_simp
   go_at_call 185
   refine (get_as (dBn l) _ _ _ rfl (by simp; omega) (HS2.out.desub 1 5 4 _ (by omega) (by omega) (by omega) (by omega))).mono ?_
   rintro e w' ⟨rfl, rfl⟩
   refine hK _ _ (by first | (with_reducible exact Ext.refl _) | (with_reducible exact Ext.drew _)) ?_
   clear hK K
   (try simp only [Act.put, setZa, setZ0, setZ1]))
  iterate 1 ((first
   | refine ext_move rfl rfl (by rfl) (by rfl) ?_
   | refine ext_assign rfl rfl (by rfl) (by rfl) ?_
   | refine ext_pick_t rfl rfl (by rfl) (by rfl) (by rfl) ?_
   | refine ext_pick_f rfl rfl (by rfl) (by rfl) (by rfl) ?_
   | (apply ext_take rfl (by rfl)
      · intro w' hS
        have hSc := hS.cells
        (try simp only [World.size_drew, World.cell?_drew] at hSc)
        go_simp
        (try simp (disch := omega) only [i64_id])
        try rfl)
   | refine ext_pass rfl (by rfl) ?_); simp only [Act.put, setZa, setZ0, setZ1])
  (refine ext_do rfl (by rfl) (fun K hK => ?_)
   go_simp
   go_at_call 185
   refine (get_as (dV l) _ _ _ rfl (by simp; omega) (HS2.out.desub 5 13 8 _ (by omega) (by omega) (by omega) (by omega))).mono ?_
   rintro e w' ⟨rfl, rfl⟩
   refine hK _ _ (by first | (with_reducible exact Ext.refl _) | (with_reducible exact Ext.drew _)) ?_
   clear hK K
   (try simp only [Act.put, setZa, setZ0, setZ1]))
  iterate 1 ((first
   | refine ext_move rfl rfl (by rfl) (by rfl) ?_
   | refine ext_assign rfl rfl (by rfl) (by rfl) ?_
   | refine ext_pick_t rfl rfl (by rfl) (by rfl) (by rfl) ?_
   | refine ext_pick_f rfl rfl (by rfl) (by rfl) (by rfl) ?_
   | (apply ext_take rfl (by rfl)
      · intro w' hS
        have hSc := hS.cells
        (try simp only [World.size_drew, World.cell?_drew] at hSc)
        go_simp
        (try simp (disch := omega) only [i64_id, u64_id, ↓IntWalk.iteOmega, Int.tdiv_eq_ediv_of_nonneg, Int.tmod_eq_emod_of_nonneg])
        try rfl)
   | refine ext_pass rfl (by rfl) ?_); simp only [Act.put, setZa, setZ0, setZ1])
  (refine ext_last rfl (by rfl) (by kernel_rfl) (fun K hK => ?_)
   go_simp
   refine hK _ _ ?_
   clear hK K
   (try simp only [Act.put, setZa, setZ0, setZ1]))
  go_wp2_with fail
  go_at_call 186
  refine (devalid_any _ _ _ _ _ _ _ _ _ _ _ _).mono ?_
  rintro e w1 ⟨rfl, hx1⟩
  rw [show vld (ub (d0 l)) (un (dBn l)) (dV l) [dX l 0, dX l 1, dX l 2, dX l 3, dX l 4, dX l 5, dX l 6, dX l 7] = true from HV.out]
  have hc1 := Ext.cells hx1
  have hf1 := Ext.frozens hx1
  have hs1 := Ext.size hx1
  have hlt1 : w.heap.size < w1.heap.size := by have := hs1; simp at this; omega
  have hxw1 : Ext w w1 := by refine Ext.trans ?_ hx1; (repeat (first | (with_reducible exact Ext.alloc _ _) | (with_reducible exact Ext.refl _) | (with_reducible refine Ext.trans ?_ (Ext.drew _)) | (with_reducible refine Ext.trans ?_ (Ext.alloc _ _))))
  have HS3 := Lib.hid (HS.out.ext hxw1)
  go_wp2
  refine wp_region_ext [(0, true), (1, true), (2, true), (3, false), (4, false), (5, true), (6, true)] (by kernel_rfl) (by kernel_rfl) ?_
  iterate 3 ((first
   | refine ext_move rfl rfl (by rfl) (by rfl) ?_
   | refine ext_assign rfl rfl (by rfl) (by rfl) ?_
   | refine ext_pick_t rfl rfl (by rfl) (by rfl) (by rfl) ?_
   | refine ext_pick_f rfl rfl (by rfl) (by rfl) (by rfl) ?_
   | (apply ext_take rfl (by rfl)
      · intro w' hS
        have hSc := hS.cells
        (try simp only [World.size_drew, World.cell?_drew] at hSc)
        go_simp
        (try simp (disch := omega) only [↓IntWalk.iteOmega])
        try rfl)
   | refine ext_pass rfl (by rfl) ?_); simp only [Act.put, setZa, setZ0, setZ1])
  (refine ext_do rfl (by rfl) (fun K hK => ?_)
   go_simp
   go_at_call 185
   refine (get_as (dT l) _ _ _ rfl (by simp; omega) ((HS3.out.ext (Ext.drew _)).desub 21 29 8 _ (by omega) (by omega) (by omega) (by omega))).mono ?_
   rintro e w' ⟨rfl, rfl⟩
   refine hK _ _ (by first | (with_reducible exact Ext.refl _) | (with_reducible exact Ext.drew _)) ?_
   clear hK K
   (try simp only [Act.put, setZa, setZ0, setZ1]))
  (refine ext_store rfl (by rfl) (by kernel_rfl) (fun K hK => ?_)
   go_simp
   refine hK _ _ ?_
   clear hK K
   (try simp only [Act.put, setZa, setZ0, setZ1]))
  iterate 2 ((first
   | refine ext_move rfl rfl (by rfl) (by rfl) ?_
   | refine ext_assign rfl rfl (by rfl) (by rfl) ?_
   | refine ext_pick_t rfl rfl (by rfl) (by rfl) (by rfl) ?_
   | refine ext_pick_f rfl rfl (by rfl) (by rfl) (by rfl) ?_
   | (apply ext_take rfl (by rfl)
      · intro w' hS
        have hSc := hS.cells
        (try simp only [World.size_drew, World.cell?_drew] at hSc)
        go_simp
        (try simp (disch := omega) only [i64_id, u64_id, ↓IntWalk.iteOmega, Int.tdiv_eq_ediv_of_nonneg, Int.tmod_eq_emod_of_nonneg])
        try rfl)
   | refine ext_pass rfl (by rfl) ?_); simp only [Act.put, setZa, setZ0, setZ1])
  refine ext_nil ?_
  go_wp2
  refine bodyPost_ret (v := .tuple #[.agg #[encI (dK l), encI (dB l), encU (dV l), encB (dX l 0), encB (dX l 1), encB (dX l 2), encB (dX l 3), encB (dX l 4), encB (dX l 5), encB (dX l 6), encB (dX l 7)], encU (dT l), .int .i64 0]) ?_ rfl ⟨rfl, ?_⟩
  · simp only [results, Tryz.results121, dK, dB]
    go_simp
  · refine below_of_ext ?_
    refine Ext.trans ?_ (Ext.drew _)
    repeat (with_reducible refine Ext.setOwn ?_ (Nat.le_refl _))
    exact hxw1
end Go.Proofs.YtjabgpejmnpamaaGreatDoor

namespace Go.Proofs.YtjabgpejmnpamaaGreatDoor
open Go.RowKit Go.Shelf
set_option maxRecDepth 100000
abbrev dvC (D q ce g c : Nat) (t : Int) : Array Value := drC D (.slice (some ⟨q, 0, none⟩) 4 ce) g c t
set_option maxHeartbeats 1000000 in
theorem vstate_any (R D q ce g c : Nat) (t : Int) (w : World) (h : BoxAt w R (dvC D q ce g c t) 144) :
    Calls Tryz.prog 64 #[.pointer (some ⟨R, 0, none⟩)] w fun e w' => e = .returned (.int .i64 0) ∧ w = w' := by
  have c5 := h.cell 5 (v := .int .i64 0) rfl
  have hl := h.lt
  clear h
  go_enter Tryz.func64, Tryz.ntmps64
  go_wp2
  go_ret
  exact ⟨rfl, rfl⟩
set_option maxHeartbeats 1000000 in
theorem vhas_any (R D q ce g c : Nat) (t : Int) (w : World) (h : BoxAt w R (dvC D q ce g c t) 144) :
    Calls Tryz.prog 65 #[.pointer (some ⟨R, 0, none⟩), .int .i64 1] w fun e w' => e = .returned (.bool true) ∧ w = w' := by
  have c2 := h.cell 2 (v := .slice (some ⟨q, 0, none⟩) 4 ce) rfl
  have hl := h.lt
  clear h
  go_enter Tryz.func65, Tryz.ntmps65
  go_wp2
  go_ret
  exact ⟨rfl, rfl⟩
set_option maxHeartbeats 1000000 in
theorem vsize_any (B R D P C q ce g c : Nat) (t : Int) (w : World) (h : BoxAt w R (dvC D q ce g c t) 144) (hd : Dsk B w D P C) :
    Calls Tryz.prog 168 #[.pointer (some ⟨R, 0, none⟩)] w fun e w' => e = .returned (.int .i64 6) ∧ Ext w w' := by
  have HD := Lib.hid hd
  have c0 := h.cell 0 (v := .pointer (some ⟨D, 0, none⟩)) rfl
  have hl := h.lt
  clear h hd
  go_enter Tryz.func168, Tryz.ntmps168
  go_wp2_with first | (go_at_call 109; refine (dgeo_any B D P C _ HD.out).mono ?_; rintro e W1 ⟨rfl, hx1⟩; have HX1 := Lib.hid hx1; clear hx1) | (go_at_call 110; refine (sband_any _).mono ?_; rintro e W2 ⟨rfl, hx2⟩; have HX2 := Lib.hid hx2; clear hx2)
  go_ret
  exact ⟨rfl, HX1.out.trans HX2.out⟩
set_option maxHeartbeats 1000000 in
theorem vopen_any (B R D P C q ce g c : Nat) (t : Int) (w : World) (h : BoxAt w R (dvC D q ce g c t) 144) (hd : Dsk B w D P C) (hb : Bnd w g c) :
    Calls Tryz.prog 178 #[.pointer (some ⟨R, 0, none⟩), .int .i64 (-1)] w fun e w' => e = .returned (.tuple #[.int .i64 0, .int .i64 0]) ∧ Ext w w' := by
  have HD := Lib.hid hd
  have HR := Lib.hid h
  have HB := Lib.hid hb
  have c3 := h.cell 3 (v := .slice (some ⟨g, 0, none⟩) 5 c) rfl
  have hl := h.lt
  clear h hd hb
  go_enter Tryz.func178, Tryz.ntmps178
  go_wp2_with first | (go_at_call 218; refine (bclone_any g c _ HB.out).mono ?_; rintro e W1 ⟨g', c', rfl, hb1, _, hx1⟩; have HB1 := Lib.hid hb1; have HX1 := Lib.hid hx1; clear hb1 hx1) | (go_at_call 168; refine (vsize_any B R D P C q ce g c t _ (HR.out.ext HX1.out) (HD.out.ext HX1.out)).mono ?_; rintro e W2 ⟨rfl, hx2⟩; have HX2 := Lib.hid hx2; clear hx2) | (go_at_call 169; refine (bopen_any g' c' _ (HB1.out.ext HX2.out)).mono ?_; rintro e W3 ⟨rfl, hx3⟩; have HX3 := Lib.hid hx3; clear hx3) | (go_at_call 219; refine (least_any g' c' _ ((HB1.out.ext HX2.out).ext HX3.out)).mono ?_; rintro e W4 ⟨rfl, hx4⟩; have HX4 := Lib.hid hx4; clear hx4)
  go_ret2
  exact ⟨rfl, HX1.out.trans (HX2.out.trans (HX3.out.trans HX4.out))⟩
def Ent (w : World) (q : Nat) : Prop := ∃ EA, BoxAt w q EA 154 ∧ EA.toList.take 12 = entL 4
theorem Ent.ext {w w' : World} {q : Nat} (h : Ent w q) (e : Ext w w') : Ent w' q := by
  obtain ⟨EA, h1, h2⟩ := h
  exact ⟨EA, h1.ext e, h2⟩
theorem Ent.chg {B : Nat} {T : List TypeId} {w w' : World} {q : Nat} (h : Ent w q) (e : Chg B T w w') (ht : 154 ∉ T) : Ent w' q := by
  obtain ⟨EA, h1, h2⟩ := h
  exact ⟨EA, h1.chg e ht, h2⟩
theorem ent_get {EA : Array Value} (h : EA.toList.take 12 = entL 4) (j : Nat) (hj : j < 12) : EA[j]? = (entL 4)[j]? := by
  rw [← h, List.getElem?_take_of_lt hj, Array.getElem?_toList]
theorem ent_size {EA : Array Value} (h : EA.toList.take 12 = entL 4) : 12 ≤ EA.size := by
  have := congrArg List.length h
  rw [List.length_take] at this
  have e : (entL 4).length = 12 := rfl
  simp at this
  omega
theorem ent_put {EA : Array Value} (h : EA.toList.take 12 = entL 4) : putL EA 3 [.int .i64 0, .int .u64 0, .int .i64 (-1)] = EA := by
  simp only [putL]
  rw [set_eq (ent_get h 3 (by decide)), set_eq (ent_get h 4 (by decide)), set_eq (ent_get h 5 (by decide))]
set_option maxHeartbeats 2000000 in
theorem vunlink_any (B R D q ce g c : Nat) (t : Int) (w : World) (h : BoxAt w R (dvC D q ce g c t) 144) (he : Ent w q) (hq : B ≤ q) (hB : B ≤ w.heap.size) :
    Calls Tryz.prog 174 #[.pointer (some ⟨R, 0, none⟩), .int .i64 1] w fun e w' => e = .returned (.tuple #[]) ∧ Ent w' q ∧ Chg B [154] w w' := by
  obtain ⟨EA, he1, he2⟩ := he
  have HE := Lib.hid he1
  have HE2 := Lib.hid he2
  have c2 := h.cell 2 (v := .slice (some ⟨q, 0, none⟩) 4 ce) rfl
  have hl := h.lt
  have e5 := he1.cell 5 (v := .int .i64 (-1)) (ent_get he2 5 (by decide))
  have le := he1.lt
  clear h he1 he2
  go_enter Tryz.func174, Tryz.ntmps174
  go_wp2_with (refine wpList_store_part 154 _ _ rfl (by rfl) (i := 3) (cells := #[.int .i64 0, .int .u64 0, .int .i64 (-1)]) rfl rfl HE.out (by have := ent_size HE2.out; simp; omega) (by kernel_rfl) (by simp [Value.oneCell']) ?_; intro w3 hS; have HS := Lib.hid hS; clear hS)
  go_end0
  have hs := HS.out
  rw [ent_put HE2.out] at hs
  exact ⟨rfl, ⟨EA, hs.box, HE2.out⟩, (Chg.refl _ _ _).stored HE.out hs (by simp) hq⟩
abbrev xV : Value := .agg #[.int .i64 1, .int .i64 1, .int .u64 5, .int .u8 9, .int .u8 0, .int .u8 0, .int .u8 0, .int .u8 0, .int .u8 0, .int .u8 0, .int .u8 0]
def xL : List (BitVec 8) := seal8 (pln 1 1 5#64 [9#8, 0#8, 0#8, 0#8, 0#8, 0#8, 0#8, 0#8] 1#64)
theorem xL_len : xL.length = 37 := by decide +kernel
theorem xenc_any (w : World) : Calls Tryz.prog 179 #[xV, .int .u64 1] w fun e w' => ∃ v', e = .returned (.tuple #[v', .int .i64 0]) ∧ OwnB w' w.heap.size v' xL ∧ Ext w w' :=
  encode_yes 1 1 5#64 9#8 0#8 0#8 0#8 0#8 0#8 0#8 0#8 1#64 w (by decide)
theorem xdec_facts : (dS xL = dC xL) ∧ dK xL = 1 ∧ dB xL = 1 ∧ dV xL = 5#64 ∧ dX xL 0 = 9#8 ∧ dX xL 1 = 0#8 ∧ dX xL 2 = 0#8 ∧ dX xL 3 = 0#8 ∧ dX xL 4 = 0#8 ∧ dX xL 5 = 0#8 ∧ dX xL 6 = 0#8 ∧ dX xL 7 = 0#8 ∧ dT xL = 1#64 := by decide +kernel
theorem xdec_any (v : Value) (w : World) (h : SliceAt encB w v xL) : Calls Tryz.prog 121 #[v] w fun e w' => e = .returned (.tuple #[xV, .int .u64 1, .int .i64 0]) ∧ Ext w w' := by
  obtain ⟨f0, f1, f2, f3, f4, f5, f6, f7, f8, f9, f10, f11, f12⟩ := xdec_facts
  have hd := decode_yes v xL w h xL_len f0 (by rw [f1, f2, f3, dD, f4, f5, f6, f7, f8, f9, f10, f11]; decide)
  rw [f1, f2, f3, f4, f5, f6, f7, f8, f9, f10, f11, f12] at hd
  exact hd
end Go.Proofs.YtjabgpejmnpamaaGreatDoor
