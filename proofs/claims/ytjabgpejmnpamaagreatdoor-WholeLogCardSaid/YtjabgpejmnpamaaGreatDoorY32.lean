/-
  Part 32 of the proof.
-/
import Derived.Test.YtjabgpejmnpamaaGreatDoorY28
set_option linter.unusedVariables false
namespace Go.Proofs.YtjabgpejmnpamaaGreatDoor
open Go.RowKit Go.Shelf
set_option maxRecDepth 100000
def Zb (cs : Array Value) : Prop := ∀ i, i < 5 → cs[i * 4]? = some (.int .i64 0) ∧ cs[i * 4 + 1]? = some (.int .i64 0) ∧ cs[i * 4 + 2]? = some (.int .u64 0) ∧ cs[i * 4 + 3]? = some (.int .u64 0)
structure Bnd (w : World) (g : Nat) (c : Nat) : Prop where
  box : ∃ cs, BoxAt w g cs 276 ∧ Zb cs
  cap : 5 ≤ c
theorem Bnd.ext {w w' : World} {g c : Nat} (h : Bnd w g c) (e : Ext w w') : Bnd w' g c := by
  obtain ⟨⟨cs, h1, h2⟩, h3⟩ := h
  exact ⟨⟨cs, h1.ext e, h2⟩, h3⟩
theorem Bnd.chg {B : Nat} {T : List TypeId} {w w' : World} {g c : Nat} (h : Bnd w g c) (e : Chg B T w w') (ht : 276 ∉ T) : Bnd w' g c := by
  obtain ⟨⟨cs, h1, h2⟩, h3⟩ := h
  exact ⟨⟨cs, h1.chg e ht, h2⟩, h3⟩
theorem Bnd.lt {w : World} {g c : Nat} (h : Bnd w g c) : g < w.heap.size := by
  obtain ⟨⟨cs, h1, h2⟩, h3⟩ := h
  exact h1.lt
theorem Bnd.at {w : World} {g c : Nat} (h : Bnd w g c) (i : Nat) (hi : i < 5) : w.cell? ⟨g, i * 4, none⟩ = some (.int .i64 0) ∧ w.cell? ⟨g, i * 4 + 1, none⟩ = some (.int .i64 0) ∧ w.cell? ⟨g, i * 4 + 2, none⟩ = some (.int .u64 0) ∧ w.cell? ⟨g, i * 4 + 3, none⟩ = some (.int .u64 0) := by
  obtain ⟨⟨cs, h1, h2⟩, h3⟩ := h
  obtain ⟨a, b, c, d⟩ := h2 i hi
  exact ⟨h1.cell _ a, h1.cell _ b, h1.cell _ c, h1.cell _ d⟩
set_option maxHeartbeats 2000000 in
theorem free_any (g c : Nat) (w : World) (h : Bnd w g c) :
    Calls Tryz.prog 116 #[.slice (some ⟨g, 0, none⟩) 5 c] w fun e w' => e = .returned (.int .i64 5) ∧ Ext w w' := by
  have HB := Lib.hid h
  clear h
  go_enter Tryz.func116, Tryz.ntmps116
  go_wp2_with fail
  go_loopw [3, 8] (fun ct it wr => ∃ i : Nat, i ≤ 5 ∧ it = .int .i64 i ∧ ct = .int .i64 i ∧ Hid (Ext w wr)) (fun _ it _ => 5 - (intOf it).toNat)
  case atStart => exact ⟨0, Nat.zero_le _, rfl, rfl, Lib.hid (Ext.refl _)⟩
  case round =>
    obtain ⟨i, hi, rfl, rfl, HX⟩ := hrel
    by_cases hlt : i < 5
    · have hiI : (i : Int) < 5 := by omega
      obtain ⟨a0, a1, a2, a3⟩ := (HB.out.ext HX.out).at i hlt
      have hl := (HB.out.ext HX.out).lt
      go_wp2_with (refine wpList_store_box 276 _ _ rfl (by rfl) rfl rfl (BoxAt.new wr #[.int .i64 0, .int .i64 0, .int .u64 0, .int .u64 0] 276) rfl (by kernel_rfl) (by simp [Value.oneCell']) ?_; intro w3 hS; have HX3 := Lib.hid (show Ext w w3 from hS.bel (HX.out.trans (Ext.alloc _ _)) HX.out.size); have b0 := hS.box.cell 0 (v := .int .i64 0) rfl; have hl3 := hS.box.lt; clear hS a0 a1 a2 a3 hl)
      go_roundw
      case rel => exact ⟨i + 1, by omega, by go_num, by go_num, HX3⟩
      case measure => simp [intOf]; omega
    · have hi5 : i = 5 := by omega
      subst hi5
      go_wp2_with fail
      go_ret
      exact ⟨rfl, HX.out⟩
set_option maxHeartbeats 1000000 in
theorem bvalid1_any (s : Nat) (w : World) (hs : BoxAt w s #[.int .i64 6] 3) :
    Calls Tryz.prog 234 #[.agg #[.int .i64 0, .int .i64 0, .int .u64 0, .int .u64 0], .pointer (some ⟨s, 0, none⟩)] w fun e w' => e = .returned (.bool false) ∧ Ext w w' := by
  have c0 := hs.cell 0 (v := .int .i64 6) rfl
  have hl := hs.lt
  clear hs
  go_enter Tryz.func234, Tryz.ntmps234
  go_wp2
  go_ret
  exact ⟨rfl, Ext.alloc _ _⟩
set_option maxHeartbeats 2000000 in
theorem bindex_any (g c s : Nat) (w : World) (h : Bnd w g c) (hs : BoxAt w s #[.int .i64 6] 3) :
    Calls Tryz.prog 255 #[.slice (some ⟨g, 0, none⟩) 5 c, .func (.func 234) #[] #[.pointer (some ⟨s, 0, none⟩)]] w fun e w' => e = .returned (.int .i64 (-1)) ∧ Ext w w' := by
  have HB := Lib.hid h
  have HS := Lib.hid hs
  clear h hs
  go_enter Tryz.func255, Tryz.ntmps255
  go_wp2_with fail
  go_loopw [8] (fun it wr => ∃ i : Nat, i ≤ 5 ∧ it = .int .i64 i ∧ Hid (Ext w wr)) (fun it _ => 5 - (intOf it).toNat)
  case atStart => exact ⟨0, Nat.zero_le _, rfl, Lib.hid (Ext.refl _)⟩
  case round =>
    obtain ⟨i, hi, rfl, HX⟩ := hrel
    by_cases hlt : i < 5
    · have hiI : (i : Int) < 5 := by omega
      obtain ⟨a0, a1, a2, a3⟩ := (HB.out.ext HX.out).at i hlt
      have hl := (HB.out.ext HX.out).lt
      go_wp2_with (go_at_call 234; refine (bvalid1_any s _ (HS.out.ext HX.out)).mono ?_; rintro e w3 ⟨rfl, hx3⟩; have HX3 := Lib.hid (HX.out.trans hx3); clear hx3)
      go_roundw
      case rel => exact ⟨i + 1, by omega, by go_num, HX3⟩
      case measure => simp [intOf]; omega
    · have hi5 : i = 5 := by omega
      subst hi5
      go_wp2_with fail
      go_ret
      exact ⟨rfl, HX.out⟩
set_option maxHeartbeats 1000000 in
theorem bcontains_any (g c s : Nat) (w : World) (h : Bnd w g c) (hs : BoxAt w s #[.int .i64 6] 3) :
    Calls Tryz.prog 233 #[.slice (some ⟨g, 0, none⟩) 5 c, .func (.func 234) #[] #[.pointer (some ⟨s, 0, none⟩)]] w fun e w' => e = .returned (.bool false) ∧ Ext w w' := by
  have HB := Lib.hid h
  have HS := Lib.hid hs
  clear h hs
  go_enter Tryz.func233, Tryz.ntmps233
  go_wp2_with (go_at_call 255; refine (bindex_any g c s _ HB.out HS.out).mono ?_; rintro e w3 ⟨rfl, hx3⟩)
  go_ret
  exact ⟨rfl, hx3⟩
set_option maxHeartbeats 1000000 in
theorem bvalid_any (g c : Nat) (w : World) (h : Bnd w g c) :
    Calls Tryz.prog 210 #[.slice (some ⟨g, 0, none⟩) 5 c, .int .i64 6] w fun e w' => e = .returned (.bool true) ∧ Ext w w' := by
  have HX := Lib.hid (Ext.alloc w (.cells #[.int .i64 6] 3))
  have HS := Lib.hid (BoxAt.new w #[.int .i64 6] 3)
  have HB := Lib.hid (h.ext HX.out)
  clear h
  go_enter Tryz.func210, Tryz.ntmps210
  go_wp2_with (go_at_call 233; refine (bcontains_any g c w.heap.size _ HB.out HS.out).mono ?_; rintro e w3 ⟨rfl, hx3⟩)
  go_ret
  exact ⟨rfl, HX.out.trans hx3⟩
set_option maxHeartbeats 4000000 in
theorem bopen_any (g c : Nat) (w : World) (h : Bnd w g c) :
    Calls Tryz.prog 169 #[.slice (some ⟨g, 0, none⟩) 5 c, .int .i64 6] w fun e w' => e = .returned (.int .i64 (-1)) ∧ Ext w w' := by
  have HX := Lib.hid (Ext.alloc w (.cells #[.slice (some ⟨g, 0, none⟩) 5 c] 142))
  have HL := Lib.hid (BoxAt.new w #[.slice (some ⟨g, 0, none⟩) 5 c] 142)
  have HB := Lib.hid (h.ext HX.out)
  clear h
  go_enter Tryz.func169, Tryz.ntmps169
  go_wp2_with first | (go_at_call 210; refine (bvalid_any g c _ HB.out).mono ?_; rintro e w3 ⟨rfl, hx3⟩; have HX3 := Lib.hid (HX.out.trans hx3); have HL3 := Lib.hid (HL.out.ext hx3); have HB3 := Lib.hid (HB.out.ext hx3); clear hx3) | (refine wpList_store_cell 3 _ _ rfl (by rfl) rfl rfl (BoxAt.new w3 #[.int .i64 0] 3) (by simp) (by kernel_rfl) rfl ?_; intro w4 hS; have HM4 := Lib.hid hS.box; have HX4 := Lib.hid (show Ext w3 w4 from hS.bel (Ext.alloc _ _) (Nat.le_refl _)); have HL4 := Lib.hid (HL3.out.ext HX4.out); have d0 := HL4.out.cell 0 (v := .slice (some ⟨g, 0, none⟩) 5 c) rfl; have ld := HL4.out.lt; have HB4 := Lib.hid (HB3.out.ext HX4.out); clear hS)
  have HX5 := Lib.hid (HX3.out.trans HX4.out)
  generalize w3.heap.size = m at *
  go_loopw [16] (fun it wr => ∃ i : Nat, i ≤ 5 ∧ it = .int .i64 i ∧ Hid (Ext w4 wr)) (fun it _ => 5 - (intOf it).toNat)
  case atStart => exact ⟨0, Nat.zero_le _, rfl, Lib.hid (Ext.refl _)⟩
  case round =>
    obtain ⟨i, hi, rfl, HR⟩ := hrel
    by_cases hlt : i < 5
    · have hiI : (i : Int) < 5 := by omega
      obtain ⟨a0, a1, a2, a3⟩ := (HB4.out.ext HR.out).at i hlt
      have hl := (HB4.out.ext HR.out).lt
      go_wp2_with (refine wpList_store_box 276 _ _ rfl (by rfl) rfl rfl (BoxAt.new wr #[.int .i64 0, .int .i64 0, .int .u64 0, .int .u64 0] 276) rfl (by kernel_rfl) (by simp [Value.oneCell']) ?_; intro w5 hS; have HX6 := Lib.hid (show Ext w4 w5 from hS.bel (HR.out.trans (Ext.alloc _ _)) HR.out.size); have b0 := hS.box.cell 0 (v := .int .i64 0) rfl; have hl3 := hS.box.lt; clear hS a0 a1 a2 a3 hl)
      go_roundw
      case rel => exact ⟨i + 1, by omega, by go_num, HX6⟩
      case measure => simp [intOf]; omega
    · have hi5 : i = 5 := by omega
      subst hi5
      have hm := (HM4.out.ext HR.out).cell 0 (v := .int .i64 (-1)) rfl
      have lm := (HM4.out.ext HR.out).lt
      go_wp2_with fail
      go_ret
      exact ⟨rfl, HX5.out.trans HR.out⟩
set_option maxHeartbeats 4000000 in
theorem least_any (g c : Nat) (w : World) (h : Bnd w g c) :
    Calls Tryz.prog 219 #[.slice (some ⟨g, 0, none⟩) 5 c] w fun e w' => e = .returned (.tuple #[.int .i64 0, .int .i64 0]) ∧ Ext w w' := by
  have HB := Lib.hid h
  clear h
  go_enter Tryz.func219, Tryz.ntmps219
  go_wp2_with fail
  go_loopw [4, 9] (fun bt it wr => ∃ (i : Nat) (b : Int), i ≤ 5 ∧ it = .int .i64 i ∧ bt = .int .i64 b ∧ (i = 0 ∧ b = -1 ∨ 0 < i ∧ b = 0) ∧ Hid (Ext w wr)) (fun _ it _ => 5 - (intOf it).toNat)
  case atStart => exact ⟨0, -1, Nat.zero_le _, rfl, rfl, .inl ⟨rfl, rfl⟩, Lib.hid (Ext.refl _)⟩
  case round =>
    obtain ⟨i, b, hi, rfl, rfl, hb, HR⟩ := hrel
    by_cases hlt : i < 5
    · have hiI : (i : Int) < 5 := by omega
      rcases hb with ⟨rfl, rfl⟩ | ⟨hi0, rfl⟩
      · obtain ⟨a0, a1, a2, a3⟩ := (HB.out.ext HR.out).at 0 hlt
        have hl := (HB.out.ext HR.out).lt
        simp only [Nat.zero_mul, Nat.zero_add] at a0 a1 a2 a3
        go_wp2_with (refine wpList_store_box 276 _ _ rfl (by rfl) rfl rfl (BoxAt.new wr #[.int .i64 0, .int .i64 0, .int .u64 0, .int .u64 0] 276) rfl (by kernel_rfl) (by simp [Value.oneCell']) ?_; intro w5 hS; have HX6 := Lib.hid (show Ext w w5 from hS.bel (HR.out.trans (Ext.alloc _ _)) HR.out.size); have b0 := hS.box.cell 0 (v := .int .i64 0) rfl; have b3 := hS.box.cell 3 (v := .int .u64 0) rfl; have hl3 := hS.box.lt; clear hS a0 a1 a2 a3 hl)
        refine wp_region_ext [(0, true), (1, true), (2, true), (3, true), (4, true), (5, true), (6, true), (7, true), (8, true), (9, true), (10, true), (11, true), (12, true), (13, true), (14, true), (15, true), (16, true)] (by kernel_rfl) (by kernel_rfl) ?_
        iterate 17 ((first
         | refine ext_move rfl rfl (by rfl) (by rfl) ?_
         | refine ext_assign rfl rfl (by rfl) (by rfl) ?_
         | refine ext_pick_t rfl rfl (by rfl) (by rfl) (by rfl) ?_
         | refine ext_pick_f rfl rfl (by rfl) (by rfl) (by rfl) ?_
         | (apply ext_take rfl (by rfl)
            · intro w' hS
              have hSc := hS.cells
              (try simp only [World.size_drew, World.cell?_drew] at hSc)
              go_simp
              (try simp (disch := omega) only [i64_id, u64_id, ↓IntWalk.iteOmega, Int.tdiv_eq_ediv_of_nonneg, Int.tmod_eq_emod_of_nonneg])
              try rfl)
         | refine ext_pass rfl (by rfl) ?_); simp only [Act.put, setZa, setZ0, setZ1])
        refine ext_nil ?_
        go_wp2_with fail
        go_roundw
        case rel => exact ⟨1, 0, by omega, by go_num, rfl, .inr ⟨by omega, rfl⟩, Lib.hid (HX6.out.trans (Ext.drew _))⟩
        case measure => simp [intOf]
      · obtain ⟨a0, a1, a2, a3⟩ := (HB.out.ext HR.out).at i hlt
        have hl := (HB.out.ext HR.out).lt
        go_wp2_with (refine wpList_store_box 276 _ _ rfl (by rfl) rfl rfl (BoxAt.new wr #[.int .i64 0, .int .i64 0, .int .u64 0, .int .u64 0] 276) rfl (by kernel_rfl) (by simp [Value.oneCell']) ?_; intro w5 hS; have HX6 := Lib.hid (show Ext w w5 from hS.bel (HR.out.trans (Ext.alloc _ _)) HR.out.size); have b0 := hS.box.cell 0 (v := .int .i64 0) rfl; have b3 := hS.box.cell 3 (v := .int .u64 0) rfl; have hl3 := hS.box.lt; have z3 : w5.cell? ⟨g, 3, none⟩ = some (.int .u64 0) := by { have := ((HB.out.ext HX6.out).at 0 (by decide)).2.2.2; simpa using this }; have lz := (HB.out.ext HX6.out).lt; clear hS a0 a1 a2 a3 hl)
        refine wp_region_ext [(0, true), (1, true), (2, true), (3, true), (4, true), (5, true), (6, true), (7, true), (8, true), (9, true), (10, true), (11, true), (12, true), (13, true), (14, true), (15, true), (16, true)] (by kernel_rfl) (by kernel_rfl) ?_
        iterate 17 ((first
         | refine ext_move rfl rfl (by rfl) (by rfl) ?_
         | refine ext_assign rfl rfl (by rfl) (by rfl) ?_
         | refine ext_pick_t rfl rfl (by rfl) (by rfl) (by rfl) ?_
         | refine ext_pick_f rfl rfl (by rfl) (by rfl) (by rfl) ?_
         | (apply ext_take rfl (by rfl)
            · intro w' hS
              have hSc := hS.cells
              (try simp only [World.size_drew, World.cell?_drew] at hSc)
              go_simp
              (try simp (disch := omega) only [i64_id, u64_id, ↓IntWalk.iteOmega, Int.tdiv_eq_ediv_of_nonneg, Int.tmod_eq_emod_of_nonneg])
              try rfl)
         | refine ext_pass rfl (by rfl) ?_); simp only [Act.put, setZa, setZ0, setZ1])
        refine ext_nil ?_
        go_wp2_with fail
        go_roundw
        case rel => exact ⟨i + 1, 0, by omega, by go_num, rfl, .inr ⟨by omega, rfl⟩, Lib.hid (HX6.out.trans (Ext.drew _))⟩
        case measure => simp [intOf]; omega
    · have hi5 : i = 5 := by omega
      subst hi5
      have hb0 : b = 0 := by omega
      subst hb0
      clear hb
      go_wp2_with fail
      go_ret2
      exact ⟨rfl, HR.out⟩
end Go.Proofs.YtjabgpejmnpamaaGreatDoor

namespace Go.Proofs.YtjabgpejmnpamaaGreatDoor
open Go.RowKit Go.Shelf
set_option maxRecDepth 100000
theorem infoBand : (Tryz.prog.info? 276).map (fun i => (i.zero, i.size, i.bytes)) = some (some (.agg #[.int .i64 0, .int .i64 0, .int .u64 0, .int .u64 0]), 4, 32) := by kernel_rfl
def zbL : List Value := (List.range 20).map (fun j => if j % 4 < 2 then .int .i64 0 else .int .u64 0)
theorem zbL_len : zbL.length = 20 := by simp [zbL]
theorem zbL_get (j : Nat) (h : j < 20) : zbL[j]? = some (if j % 4 < 2 then .int .i64 0 else .int .u64 0) := by
  unfold zbL
  rw [List.getElem?_map, List.getElem?_range h]
  rfl
theorem Zb.get {cs : Array Value} (h : Zb cs) (j : Nat) (hj : j < 20) : cs[j]? = zbL[j]? := by
  obtain ⟨i, r, hr, rfl⟩ : ∃ i r, r < 4 ∧ j = i * 4 + r := ⟨j / 4, j % 4, by omega, by omega⟩
  obtain ⟨a, b, c, d⟩ := h i (by omega)
  rw [zbL_get _ hj, show (i * 4 + r) % 4 = r by omega]
  match r, hr with
  | 0, _ => exact a
  | 1, _ => exact b
  | 2, _ => exact c
  | 3, _ => exact d
theorem Zb.of {cs : Array Value} (h : cs.toList.take 20 = zbL) : Zb cs := by
  have g : ∀ j, j < 20 → cs[j]? = some (if j % 4 < 2 then .int .i64 0 else .int .u64 0) := fun j hj => by
    rw [← zbL_get j hj, ← h, List.getElem?_take_of_lt hj, Array.getElem?_toList]
  intro i hi
  refine ⟨?_, ?_, ?_, ?_⟩
  · rw [g _ (by omega), if_pos (by omega)]
  · rw [g _ (by omega), if_pos (by omega)]
  · rw [g _ (by omega), if_neg (by omega)]
  · rw [g _ (by omega), if_neg (by omega)]
set_option maxHeartbeats 1000000 in
theorem bclone_any (g c : Nat) (w : World) (h : Bnd w g c) :
    Calls Tryz.prog 218 #[.slice (some ⟨g, 0, none⟩) 5 c] w fun e w' => ∃ g' c', e = .returned (.slice (some ⟨g', 0, none⟩) 5 c') ∧ Bnd w' g' c' ∧ w.heap.size ≤ g' ∧ Ext w w' := by
  obtain ⟨i0, hi, hz0, hz1, hz2⟩ := info_parts infoBand
  obtain ⟨⟨cs, hb, hz⟩, hc⟩ := h
  have HA := Lib.hid hb
  have HZ := Lib.hid hz
  clear hb hz
  have hq := fun (w : World) => Lib.run_eql_slice_nil (P := Tryz.prog) w 142 276 (some ⟨g, 0, none⟩) 5 c 0 0 Tryz.underlying142
  have hcell : ∀ j u, zbL[j]? = some u → (w.alloc (.cells #[] 276)).cell? ((⟨g, 0, none⟩ : Addr).add j) = some u := by
    intro j u hu
    have hj : j < 20 := by rw [← zbL_len]; exact (List.getElem?_eq_some_iff.1 hu).1
    rw [add_plain, Nat.zero_add]
    exact (HA.out.ext (Ext.alloc _ _)).cell j ((HZ.out.get j hj).trans hu)
  have HC := Lib.hid hcell
  clear hcell
  have hone : ∀ u, u ∈ zbL → u.oneCell' = true := by
    intro u hu
    obtain ⟨j, hj, he⟩ := List.getElem_of_mem hu
    have h1 := zbL_get j (by rw [← zbL_len]; exact hj)
    rw [List.getElem?_eq_getElem hj] at h1
    injection h1 with h1
    rw [← he, h1]
    split <;> rfl
  have HN := Lib.hid hone
  clear hone
  go_enter Tryz.func218, Tryz.ntmps218
  go_wp2_with (at_builtin; refine wpList_append_own_at _ rfl (.tmp 5) (.tmp 6) 142 rfl w.heap.size 276 i0 _ 4 32 Tryz.underlying142 hi hz0 hz1 hz2 rfl (by decide) _ 0 [] rfl (World.ownsRow_lit w #[] 0 (Nat.le_refl _) (by decide) rfl) ⟨g, 0, none⟩ 5 c zbL rfl zbL_len HC.out HN.out (by unfold maxLen; omega) (by omega) (by simp) ?_; intro v1 w1 hown1 hgrow1 _ _; simp only [Nat.zero_add, List.nil_append] at hown1; have hx1 : Ext w w1 := (Ext.alloc _ _).grown hgrow1 (by simp) (fun k hk => by cases hk; exact Nat.le_refl _))
  go_ret
  rcases hown1.2 with ⟨_, h2⟩ | ⟨g', cap, cur, h1, h2, h3, h4, h5, h6, h7⟩
  · exact absurd h2 (by decide)
  · subst h1
    exact ⟨g', cap, rfl, ⟨⟨cur, h3, Zb.of h7⟩, h4⟩, h2, hx1⟩
set_option maxHeartbeats 2000000 in
theorem bappend1_any (g c s n : Nat) (w : World) (h : Bnd w g c) (hs : BoxAt w s #[.int .i64 6] 3) (hn : BoxAt w n #[.int .u64 1] 22) :
    Calls Tryz.prog 224 #[.pointer (some ⟨g, 0, none⟩), .pointer (some ⟨s, 0, none⟩), .pointer (some ⟨n, 0, none⟩)] w fun e w' => e = .returned (.int .i64 0) ∧ Below g w w' := by
  obtain ⟨⟨cs, hb, hz⟩, hc⟩ := h
  obtain ⟨z0, z1, z2, z3⟩ := hz 0 (by decide)
  simp only [Nat.zero_mul, Nat.zero_add] at z0 z1 z2 z3
  have hsz : 3 ≤ cs.size := by
    have := (Array.getElem?_eq_some_iff.1 z2).1
    omega
  have HB := Lib.hid hb
  have HS := Lib.hid hs
  have HN := Lib.hid hn
  have a0 := hb.cell 0 z0
  have b1 := hb.cell 1 z1
  have lb := hb.lt
  have s0 := hs.cell 0 (v := .int .i64 6) rfl
  have ls := hs.lt
  have HZ1 := Lib.hid z1
  clear hb hs hn hz z0 z1 z2 z3
  go_enter Tryz.func224, Tryz.ntmps224
  go_wp2_with fail
  refine wp_region_ext [(0, true), (1, true), (2, true), (3, true), (4, true), (5, true)] (by kernel_rfl) (by kernel_rfl) ?_
  iterate 6 ((first
   | refine ext_move rfl rfl (by rfl) (by rfl) ?_
   | refine ext_assign rfl rfl (by rfl) (by rfl) ?_
   | refine ext_pick_t rfl rfl (by rfl) (by rfl) (by rfl) ?_
   | refine ext_pick_f rfl rfl (by rfl) (by rfl) (by rfl) ?_
   | (apply ext_take rfl (by rfl)
      · intro w' hS
        have hSc := hS.cells
        (try simp only [World.size_drew, World.cell?_drew] at hSc)
        go_simp
        (try simp (disch := omega) only [i64_id, u64_id, ↓IntWalk.iteOmega, Int.tdiv_eq_ediv_of_nonneg, Int.tmod_eq_emod_of_nonneg])
        try rfl)
   | refine ext_pass rfl (by rfl) ?_); simp only [Act.put, setZa, setZ0, setZ1])
  refine ext_nil ?_
  have HB1 := Lib.hid (HB.out.ext (Ext.drew w))
  go_wp2_with first | (refine wpList_store_cell 3 _ _ rfl (by rfl) (i := 0) rfl rfl HB1.out (by omega) (by kernel_rfl) rfl ?_; intro w2 hS; have HS2 := Lib.hid hS; have b2 := hS.box.cell 1 (v := .int .i64 0) (by rw [Array.getElem?_setIfInBounds, if_neg (by decide)]; exact HZ1.out); have lb2 := hS.box.lt; clear hS a0 b1 s0 ls) | (refine wpList_store_cell 3 _ _ rfl (by rfl) (i := 1) rfl rfl HS2.out.box (by simp; omega) (by kernel_rfl) rfl ?_; intro w3 hS; have HS3 := Lib.hid hS; have HN3 := Lib.hid (hS.keep (HS2.out.keep (HN.out.ext (Ext.drew w)) (box_ne HN.out HB.out (by decide))) (box_ne HN.out HB.out (by decide))); have n0 := HN3.out.cell 0 (v := .int .u64 1) rfl; have ln := HN3.out.lt; have lb3 := hS.box.lt; clear hS b2 lb2) | (refine wpList_store_cell 22 _ _ rfl (by rfl) (i := 2) rfl rfl HS3.out.box (by simp; omega) (by kernel_rfl) rfl ?_; intro w4 hS; have HS4 := Lib.hid hS; clear hS n0 ln lb3)
  go_ret
  exact ⟨rfl, HS4.out.bel (HS3.out.bel (HS2.out.bel ((Ext.drew w).mono (Nat.le_of_lt HB.out.lt)) (Nat.le_refl _)) (Nat.le_refl _)) (Nat.le_refl _)⟩
set_option maxHeartbeats 2000000 in
theorem bchange_any (g c s n : Nat) (w : World) (h : Bnd w g c) (hs : BoxAt w s #[.int .i64 6] 3) (hn : BoxAt w n #[.int .u64 1] 22) :
    Calls Tryz.prog 216 #[.slice (some ⟨g, 0, none⟩) 5 c, .int .i64 0, .func (.func 224) #[] #[.pointer (some ⟨s, 0, none⟩), .pointer (some ⟨n, 0, none⟩)]] w fun e w' => ∃ g' c', e = .returned (.tuple #[.slice (some ⟨g', 0, none⟩) 5 c', .int .i64 0]) ∧ Ext w w' := by
  have HB := Lib.hid h
  have HS := Lib.hid hs
  have HN := Lib.hid hn
  clear h hs hn
  go_enter Tryz.func216, Tryz.ntmps216
  go_wp2_with first | (go_at_call 218; refine (bclone_any g c _ HB.out).mono ?_; rintro e w2 ⟨g', c', rfl, hb2, hg2, hx2⟩; have HB2 := Lib.hid hb2; have HX2 := Lib.hid hx2; have hl2 := hb2.lt; have HG2 := Lib.hid hg2; clear hb2 hx2 hg2) | (go_at_call 224; refine (bappend1_any g' c' s n _ HB2.out (HS.out.ext HX2.out) (HN.out.ext HX2.out)).mono ?_; rintro e w3 ⟨rfl, hx3⟩; have HX3 := Lib.hid hx3; clear hx3)
  go_ret2
  exact ⟨g', c', rfl, HX2.out.below.trans (HX3.out.mono HG2.out)⟩
set_option maxHeartbeats 2000000 in
theorem bappend_any (g c : Nat) (w : World) (h : Bnd w g c) :
    Calls Tryz.prog 182 #[.slice (some ⟨g, 0, none⟩) 5 c, .int .i64 6, .int .i64 0, .int .u64 1] w fun e w' => ∃ g' c', e = .returned (.tuple #[.slice (some ⟨g', 0, none⟩) 5 c', .int .i64 0]) ∧ Ext w w' := by
  have hx := (Ext.alloc w (.cells #[.int .i64 6] 3)).trans (Ext.alloc _ (.cells #[.int .u64 1] 22))
  have hs := (BoxAt.new w #[.int .i64 6] 3).ext (Ext.alloc _ (.cells #[.int .u64 1] 22))
  have hn := BoxAt.new (w.alloc (.cells #[.int .i64 6] 3)) #[.int .u64 1] 22
  rw [World.size_alloc] at hn
  have HX := Lib.hid hx
  have HS := Lib.hid hs
  have HN := Lib.hid hn
  have HB := Lib.hid (h.ext hx)
  clear h hs hn hx
  go_enter Tryz.func182, Tryz.ntmps182
  go_wp2_with (go_at_call 216; refine (bchange_any g c w.heap.size (w.heap.size + 1) _ HB.out HS.out HN.out).mono ?_; rintro e w3 ⟨g', c', rfl, hx3⟩; have HX3 := Lib.hid hx3; clear hx3)
  go_ret2
  exact ⟨g', c', rfl, HX.out.trans HX3.out⟩
end Go.Proofs.YtjabgpejmnpamaaGreatDoor

namespace Go.Proofs.YtjabgpejmnpamaaGreatDoor
open Go.RowKit Go.Shelf
set_option maxRecDepth 100000
set_option maxHeartbeats 1000000 in
theorem retry_any (F : Nat) (eg : ∀ args w, (callFunc F args).run Tryz.prog w = .ok (.enter F args) w) (cap : Array Value) (w : World) (R : World → Prop)
    (hw : Calls Tryz.prog F cap w fun e w' => e = .returned (.int .i64 0) ∧ R w') :
    Calls Tryz.prog 58 #[.func (.func F) #[] cap] w fun e w' => e = .returned (.int .i64 0) ∧ R w' := by
  have HW := Lib.hid hw
  clear hw
  go_enter Tryz.func58, Tryz.ntmps58
  go_wp2_with fail
  refine HW.out.mono ?_
  rintro e w1 ⟨rfl, hR⟩
  have HR := Lib.hid hR
  clear hR
  go_wp2_with fail
  refine wp_loop_rounds 1 ?_
  rw [rounds_succ]
  go_wp2_with fail
  go_ret
  exact ⟨rfl, HR.out⟩
theorem infoNew : (Tryz.prog.info? 154).map (fun i => (i.zero, i.size, i.bytes)) = some (some (.agg #[.int .i64 0, .int .u64 0, .int .i64 0]), 3, 24) := by kernel_rfl
def entL : Nat → List Value
  | 0 => []
  | n + 1 => entL n ++ [.int .i64 0, .int .u64 0, .int .i64 (-1)]
abbrev drC (D : Nat) (ve : Value) (g c : Nat) (t : Int) : Array Value := #[.pointer (some ⟨D, 0, none⟩), .int .u64 0, ve, .slice (some ⟨g, 0, none⟩) 5 c, .int .u64 t, .int .i64 0]
abbrev OwnN (w : World) (B : Nat) (v : Value) (n : Nat) : Prop := w.ownsRow B 154 3 v n (entL n)
theorem run_make_band (w : World) : (Instr.makeSlice 142 (.int .i64 5) (.int .i64 5)).run Tryz.prog w = .ok (.slice (some ⟨w.heap.size, 0, none⟩) 5 5) (w.alloc (.cells (madeCells #[.int .i64 0, .int .i64 0, .int .u64 0, .int .u64 0] 20) 276)) := by
  obtain ⟨i0, hi, hz0, hz1, hz2⟩ := info_parts infoBand
  have h := run_make (P := Tryz.prog) w 142 276 i0 _ Tryz.underlying142 hi hz0 .i64 .i64 5 5 (by decide) (by decide) (by rw [hz2]; decide) (by decide)
  rw [hz1] at h
  exact h
theorem made_zb : Zb (madeCells #[.int .i64 0, .int .i64 0, .int .u64 0, .int .u64 0] 20) := by
  intro i hi
  match i, hi with
  | 0, _ => refine ⟨?_, ?_, ?_, ?_⟩ <;> simp [madeCells]
  | 1, _ => refine ⟨?_, ?_, ?_, ?_⟩ <;> simp [madeCells]
  | 2, _ => refine ⟨?_, ?_, ?_, ?_⟩ <;> simp [madeCells]
  | 3, _ => refine ⟨?_, ?_, ?_, ?_⟩ <;> simp [madeCells]
  | 4, _ => refine ⟨?_, ?_, ?_, ?_⟩ <;> simp [madeCells]
set_option maxHeartbeats 4000000 in
theorem create_any (B D P C : Nat) (w : World) (h : Dsk B w D P C) :
    Calls Tryz.prog 57 #[.pointer (some ⟨D, 0, none⟩), .int .u64 0, .int .i64 4] w fun e w' => ∃ R ve g, e = .returned (.tuple #[.pointer (some ⟨R, 0, none⟩), .int .i64 0]) ∧ BoxAt w' R (drC D ve g 5 0) 144 ∧ OwnN w' w.heap.size ve 4 ∧ Bnd w' g 5 ∧ w.heap.size ≤ R ∧ Ext w w' := by
  obtain ⟨i0, hi, hz0, hz1, hz2⟩ := info_parts infoNew
  have hmk := run_make_band
  have HD := Lib.hid h
  clear h
  go_enter Tryz.func57, Tryz.ntmps57
  go_wp2_with first | (go_at_call 109; refine (dgeo_any B D P C _ HD.out).mono ?_; rintro e W1 ⟨rfl, hx1⟩; have HX1 := Lib.hid hx1; clear hx1) | (refine wpList_store_box 24 _ _ rfl (by rfl) rfl rfl (BoxAt.new W1 #[.int .i64 0, .int .i64 0, .int .i64 0, .int .i64 0, .int .i64 0] 24) rfl (by kernel_rfl) (by simp [Value.oneCell']) ?_; intro W2 hS; have HB2 := Lib.hid hS.box; have HX2 := Lib.hid (show Ext w W2 from hS.bel (HX1.out.trans (Ext.alloc _ _)) HX1.out.size); have c0 := hS.box.cell 0 (v := .int .i64 60) rfl; have c1 := hS.box.cell 1 (v := .int .i64 5) rfl; have c2 := hS.box.cell 2 (v := .int .i64 2) rfl; have c3 := hS.box.cell 3 (v := .int .i64 3) rfl; have c4 := hS.box.cell 4 (v := .int .i64 1) rfl; have hl2 := hS.box.lt; clear hS)
  generalize W1.heap.size = gg at *
  refine wp_region_ext [(0, true), (1, true), (2, true), (3, true), (4, true), (5, true), (6, true), (7, true), (8, true), (9, true), (10, true), (11, true), (12, true), (13, true), (14, true), (15, true), (16, false), (17, true), (18, true), (19, true)] (by kernel_rfl) (by kernel_rfl) ?_
  iterate 16 ((first
   | refine ext_move rfl rfl (by rfl) (by rfl) ?_
   | refine ext_assign rfl rfl (by rfl) (by rfl) ?_
   | refine ext_pick_t rfl rfl (by rfl) (by rfl) (by rfl) ?_
   | refine ext_pick_f rfl rfl (by rfl) (by rfl) (by rfl) ?_
   | (apply ext_take rfl (by rfl)
      · intro w' hS
        have hSc := hS.cells
        (try simp only [World.size_drew, World.cell?_drew] at hSc)
        go_simp
        (try simp (disch := omega) only [i64_id])
        try rfl)
   | refine ext_pass rfl (by rfl) ?_); simp only [Act.put, setZa, setZ0, setZ1])
  (refine ext_do rfl (by rfl) (fun K hK => ?_)
   go_simp
   go_at_call 110
   refine (sband_any _).mono ?_
   rintro e W3 ⟨rfl, hx3⟩
   have HX3 : Hid (Ext W2 W3) := Lib.hid (Ext.trans (by first | exact Ext.refl _ | exact Ext.drew _) hx3)
   refine hK _ _ (by first | exact hx3 | exact HX3.out) ?_
   clear hK K hx3
   (try simp only [Act.put, setZa, setZ0, setZ1]))
  iterate 3 ((first
   | refine ext_move rfl rfl (by rfl) (by rfl) ?_
   | refine ext_assign rfl rfl (by rfl) (by rfl) ?_
   | refine ext_pick_t rfl rfl (by rfl) (by rfl) (by rfl) ?_
   | refine ext_pick_f rfl rfl (by rfl) (by rfl) (by rfl) ?_
   | (apply ext_take rfl (by rfl)
      · intro w' hS
        have hSc := hS.cells
        (try simp only [World.size_drew, World.cell?_drew] at hSc)
        go_simp
        (try simp (disch := omega) only [i64_id])
        try rfl)
   | refine ext_pass rfl (by rfl) ?_); simp only [Act.put, setZa, setZ0, setZ1])
  refine ext_nil ?_
  have d1 := (HB2.out.ext HX3.out).cell 1 (v := .int .i64 5) rfl
  have dl := (HB2.out.ext HX3.out).lt
  clear c0 c1 c2 c3 c4 hl2
  go_wp2_with fail
  have HX3w := Lib.hid (HX2.out.trans HX3.out)
  have hg := BoxAt.new W3 (madeCells #[.int .i64 0, .int .i64 0, .int .u64 0, .int .u64 0] 20) 276
  have hr := BoxAt.new (W3.alloc (.cells (madeCells #[.int .i64 0, .int .i64 0, .int .u64 0, .int .u64 0] 20) 276)) (drC D (.slice none 0 0) W3.heap.size 5 0) 144
  rw [World.size_alloc] at hr
  have HG := Lib.hid hg
  have HR := Lib.hid hr
  have hz3 := HX3w.out.size
  have HZ3 := Lib.hid hz3
  clear hg hr d1 dl hz3 hmk
  go_loopw [40] (fun it wr => ∃ (i : Nat) (v : Value), i ≤ 4 ∧ it = .int .i64 i ∧ Hid (OwnN wr w.heap.size v i) ∧ Hid (BoxAt wr (W3.heap.size + 1) (drC D v W3.heap.size 5 0) 144) ∧ Hid (Bnd wr W3.heap.size 5) ∧ Hid (Ext w wr)) (fun it _ => 4 - (intOf it).toNat)
  case atStart => exact ⟨0, _, Nat.zero_le _, rfl, Lib.hid (World.ownsRow_nil _ _ _ _), HR, Lib.hid ⟨⟨_, HG.out.ext (Ext.alloc _ _), made_zb⟩, Nat.le_refl _⟩, Lib.hid ((HX3w.out.trans (Ext.alloc _ _)).trans (Ext.alloc _ _))⟩
  case round =>
    obtain ⟨i, v, hi4, rfl, HO, HBR, HBN, HXr⟩ := hrel
    by_cases hlt : i < 4
    · have hiI : (i : Int) < 4 := by omega
      obtain ⟨va, vc, rfl⟩ := own_shape HO.out
      have r2 := HBR.out.cell 2 (v := .slice va i vc) rfl
      have lr := HBR.out.lt
      have hszr := HXr.out.size
      have HOA := Lib.hid (ownsRow_chg (Chg.ext (B := 0) (T := []) (Ext.alloc wr (.cells #[.int .i64 0, .int .u64 0, .int .i64 (-1)] 154)) (Nat.zero_le _)) HO.out (by simp))
      have HNB := Lib.hid (BoxAt.new wr #[.int .i64 0, .int .u64 0, .int .i64 (-1)] 154)
      go_wp2_with first | (at_builtin; go_loud (refine wpList_append_own_at _ rfl _ _ _ rfl w.heap.size 154 i0 _ 3 24 Tryz.underlying141 hi hz0 hz1 hz2 rfl (by decide) _ i (entL i) rfl HOA.out ⟨wr.heap.size, 0, none⟩ 1 1 [.int .i64 0, .int .u64 0, .int .i64 (-1)] rfl rfl ?hnews (by simp [Value.oneCell']) (by unfold maxLen; omega) (by omega) (by simp; omega) ?_); (case hnews => (intro j u hj; rw [add_plain, Nat.zero_add]; exact HNB.out.cell j (by simpa using hj))); intro v2 W5 ho2 hg2 _ _; obtain ⟨a2, c2, rfl⟩ := own_shape ho2; have hch : Chg 0 [154] wr W5 := (Chg.ext (Ext.alloc wr _) (Nat.zero_le _)).grown HOA.out (by simp) (Nat.zero_le _) (Nat.zero_le _) hg2; have HX5 := Lib.hid (show Ext w W5 from Below.grown (HXr.out.trans (Ext.alloc wr _)) hg2 (by have := HXr.out.size; simp; omega) (fun k hk => (World.ownsRow.lt HOA.out k hk).1)); have HO5 := Lib.hid ho2; have HBR5 := Lib.hid (HBR.out.chg hch (by decide)); have HBN5 := Lib.hid (HBN.out.chg hch (by decide)); have r2' := HBR5.out.cell 2 (v := .slice va i vc) rfl; have lr' := HBR5.out.lt; clear ho2 hg2 hch r2 lr) | (refine wpList_store_cell 141 _ _ rfl (by rfl) (i := 2) rfl rfl HBR5.out (by simp) (by kernel_rfl) rfl ?_; intro W6 hS; have HS6 := Lib.hid hS; clear hS r2' lr')
      go_roundw
      case rel => exact ⟨i + 1, .slice a2 (i + 1) c2, by omega, by go_num, Lib.hid (ownsRow_chg ((Chg.refl 0 [144] W5).stored HBR5.out HS6.out (by simp) (Nat.zero_le _)) HO5.out (by decide)), Lib.hid HS6.out.box, Lib.hid (HBN5.out.chg ((Chg.refl 0 [144] W5).stored HBR5.out HS6.out (by simp) (Nat.zero_le _)) (by decide)), Lib.hid (HS6.out.bel HX5.out (by have := HZ3.out; omega))⟩
      case measure => simp [intOf]; omega
    · have hi5 : i = 4 := by omega
      subst hi5
      go_wp2_with fail
      go_ret2
      exact ⟨W3.heap.size + 1, v, W3.heap.size, rfl, HBR.out, HO.out, HBN.out, by have := HZ3.out; omega, HXr.out⟩
end Go.Proofs.YtjabgpejmnpamaaGreatDoor

namespace Go.Proofs.YtjabgpejmnpamaaGreatDoor
open Go.RowKit Go.Shelf
set_option maxRecDepth 100000
set_option maxHeartbeats 1000000 in
theorem new1_any (B D P gD gK gI : Nat) (n : Cn) (gs : List Nat) (k : Nat) (hk : k < 5) (hll : gs.length ≤ 1000) (w : World) (h : Ph B w D P n gs) (hBw : B ≤ w.heap.size) (hD : BoxAt w gD #[.pointer (some ⟨D, 0, none⟩)] 68) (hK : BoxAt w gK #[.int .u64 0] 22) (hI : BoxAt w gI #[.int .i64 k] 3) :
    Calls Tryz.prog 59 #[.pointer (some ⟨gD, 0, none⟩), .pointer (some ⟨gK, 0, none⟩), .pointer (some ⟨gI, 0, none⟩)] w fun e w' => e = .returned (.int .i64 0) ∧ (∃ g, Ph B w' D P n (gs ++ [g])) ∧ Chg B TTd w w' := by
  have HP := Lib.hid h
  have d0 := hD.cell 0 (v := .pointer (some ⟨D, 0, none⟩)) rfl
  have k0 := hK.cell 0 (v := .int .u64 0) rfl
  have i0 := hI.cell 0 (v := .int .i64 k) rfl
  have ld := hD.lt
  have lk := hK.lt
  have li := hI.lt
  clear h hD hK hI
  go_enter Tryz.func59, Tryz.ntmps59
  go_wp2_with (go_at_call 60; refine (derase_any B D P n gs k hk hll _ HP.out hBw).mono ?_; rintro e W1 ⟨rfl, hR⟩; have HR := Lib.hid hR; clear hR)
  go_ret
  exact ⟨rfl, HR.out⟩
set_option maxHeartbeats 1000000 in
theorem new2_any (B D P gD gK : Nat) (n : Cn) (gs : List Nat) (m : Nat) (hm : gs.length = m) (hp : 0 < m) (hll : m ≤ 1000) (w : World) (h : Ph B w D P n gs) (hBw : B ≤ w.heap.size) (hD : BoxAt w gD #[.pointer (some ⟨D, 0, none⟩)] 68) (hK : BoxAt w gK #[.int .u64 0] 22) :
    Calls Tryz.prog 61 #[.pointer (some ⟨gD, 0, none⟩), .pointer (some ⟨gK, 0, none⟩)] w fun e w' => e = .returned (.int .i64 0) ∧ Ph B w' D P n [] ∧ Chg B TTd w w' := by
  have HF := Lib.hid (dflush_any B D P n gs m hm hp hll w h hBw)
  have d0 := hD.cell 0 (v := .pointer (some ⟨D, 0, none⟩)) rfl
  have k0 := hK.cell 0 (v := .int .u64 0) rfl
  have ld := hD.lt
  have lk := hK.lt
  clear h hD hK hm
  go_enter Tryz.func61, Tryz.ntmps61
  go_wp2_with (go_at_call 62; refine HF.out.mono ?_; rintro e W1 ⟨rfl, hR⟩; have HR := Lib.hid hR; clear hR)
  go_ret
  exact ⟨rfl, HR.out⟩
set_option maxHeartbeats 4000000 in
theorem dvnew_any (B D P : Nat) (n : Cn) (w : World) (h : Ph B w D P n []) (hBw : B ≤ w.heap.size) :
    Calls Tryz.prog 25 #[.pointer (some ⟨D, 0, none⟩), .int .u64 0, .int .i64 4] w fun e w' => ∃ R ve g, e = .returned (.tuple #[.pointer (some ⟨R, 0, none⟩), .int .i64 0]) ∧ BoxAt w' R (drC D ve g 5 0) 144 ∧ OwnN w' w.heap.size ve 4 ∧ Bnd w' g 5 ∧ Ph B w' D P n [] ∧ w.heap.size ≤ R ∧ Chg B TTd w w' := by
  have hx := (Ext.alloc w (.cells #[.pointer (some ⟨D, 0, none⟩)] 68)).trans (Ext.alloc _ (.cells #[.int .u64 0] 22))
  have hd := (BoxAt.new w #[.pointer (some ⟨D, 0, none⟩)] 68).ext (Ext.alloc _ (.cells #[.int .u64 0] 22))
  have hk := BoxAt.new (w.alloc (.cells #[.pointer (some ⟨D, 0, none⟩)] 68)) #[.int .u64 0] 22
  rw [World.size_alloc] at hk
  have HX := Lib.hid hx
  have HD := Lib.hid hd
  have HK := Lib.hid hk
  have HP := Lib.hid (h.ext hx)
  clear h hx hd hk
  go_enter Tryz.func25, Tryz.ntmps25
  go_wp2_with (go_at_call 57; refine (create_any B D P n.C _ HP.out.dsk).mono ?_; rintro e W1 ⟨R, ve, g, rfl, hr, he, hg, hR, hx1⟩; have HBR := Lib.hid hr; have HE := Lib.hid he; have HG := Lib.hid hg; have HGR := Lib.hid hR; have HX1 := Lib.hid (HX.out.trans hx1); have HP1 := Lib.hid (HP.out.ext hx1); have HD1 := Lib.hid (HD.out.ext hx1); have HK1 := Lib.hid (HK.out.ext hx1); have r3 := hr.cell 3 (v := .slice (some ⟨g, 0, none⟩) 5 5) rfl; have lr := hr.lt; clear hr he hg hR hx1)
  have hB1 : B ≤ W1.heap.size := Nat.le_trans hBw HX1.out.size
  clear r3 lr
  go_loopw [28] (fun it wr => ∃ (i : Nat) (gs : List Nat), i ≤ 5 ∧ it = .int .i64 i ∧ Hid (gs.length = i) ∧ Hid (Ph B wr D P n gs) ∧ Hid (Chg B TTd W1 wr)) (fun it _ => 5 - (intOf it).toNat)
  case atStart => exact ⟨0, [], Nat.zero_le _, rfl, Lib.hid rfl, HP1, Lib.hid (Chg.refl _ _ _)⟩
  case round =>
    obtain ⟨i, gs, hi5, rfl, HLg, HPr, HCr⟩ := hrel
    have hszr : W1.heap.size ≤ wr.heap.size := HCr.out.size
    by_cases hlt : i < 5
    · have hiI : (i : Int) < 5 := by omega
      go_wp2_with first | (refine wpList_store_cell 3 _ _ rfl (by rfl) rfl rfl (BoxAt.new wr #[.int .i64 0] 3) (by simp) (by kernel_rfl) rfl ?_; intro W2 hS; have HX2 := Lib.hid (show Ext wr W2 from hS.bel (Ext.alloc _ _) (Nat.le_refl _)); have HI2 := Lib.hid hS.box; clear hS) | (go_at_call 58; go_loud (refine (retry_any 59 (enters_of Tryz.func59 (by kernel_rfl) rfl) #[.pointer (some ⟨w.heap.size, 0, none⟩), .pointer (some ⟨w.heap.size + 1, 0, none⟩), .pointer (some ⟨wr.heap.size, 0, none⟩)] _ (fun w' => (∃ g, Ph B w' D P n (gs ++ [g])) ∧ Chg B TTd W2 w') (new1_any B D P w.heap.size (w.heap.size + 1) wr.heap.size n gs i hlt (by rw [HLg.out]; omega) W2 (HPr.out.ext HX2.out) (Nat.le_trans hB1 (Nat.le_trans hszr HX2.out.size)) ((HD1.out.chg HCr.out (by decide)).ext HX2.out) ((HK1.out.chg HCr.out (by decide)).ext HX2.out) HI2.out)).mono ?_); rintro e W3 ⟨rfl, ⟨g3, hp3⟩, hc3⟩; have HP3 := Lib.hid hp3; have HC3 := Lib.hid ((HCr.out.more HX2.out hB1).trans hc3); clear hp3 hc3)
      go_roundw
      case rel => exact ⟨i + 1, gs ++ [g3], by omega, by go_num, Lib.hid (by rw [List.length_append, HLg.out]; rfl), HP3, HC3⟩
      case measure => simp [intOf]; omega
    · have hi : i = 5 := by omega
      subst hi
      go_wp2_with (go_at_call 58; go_loud (refine (retry_any 61 (enters_of Tryz.func61 (by kernel_rfl) rfl) #[.pointer (some ⟨w.heap.size, 0, none⟩), .pointer (some ⟨w.heap.size + 1, 0, none⟩)] _ (fun w' => Ph B w' D P n [] ∧ Chg B TTd wr w') (new2_any B D P w.heap.size (w.heap.size + 1) n gs 5 HLg.out (by decide) (by decide) wr HPr.out (Nat.le_trans hB1 hszr) (HD1.out.chg HCr.out (by decide)) (HK1.out.chg HCr.out (by decide)))).mono ?_); rintro e W3 ⟨rfl, hp3, hc3⟩; have HP3 := Lib.hid hp3; have HC3 := Lib.hid (HCr.out.trans hc3); clear hp3 hc3)
      go_ret2
      have hmono : w.heap.size ≤ ((w.alloc (.cells #[.pointer (some ⟨D, 0, none⟩)] 68)).alloc (.cells #[.int .u64 0] 22)).heap.size := HX.out.size
      refine ⟨R, ve, g, rfl, HBR.out.chg HC3.out (by decide), ?_, HG.out.chg HC3.out (by decide), HP3.out, Nat.le_trans hmono HGR.out, (Chg.ext HX1.out hBw).trans HC3.out⟩
      have ho := ownsRow_chg HC3.out HE.out (by decide)
      refine ⟨ho.1, ho.2.imp id ?_⟩
      rintro ⟨g, cap, cur, e1, e2, e3⟩
      exact ⟨g, cap, cur, e1, Nat.le_trans hmono e2, e3⟩
end Go.Proofs.YtjabgpejmnpamaaGreatDoor
