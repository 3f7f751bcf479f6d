/-
  Chapter 9 (codec): the walk of CodecRoundTrip.
-/
import Derived.Test.YtbegghodjfllnaaK9S
import Derived.Test.YtbegghodjfllnaaK9G
import Derived.Test.YtbegghodjfllnaaK9L
namespace Go.Proofs.Ytbegghodjfllnaa
open Go.RowKit
set_option linter.unusedVariables false
attribute [local go_sem] eq_strE ne_strE eqB_self eq_block

theorem opVs : Opens Try.prog 51 (Pat.slice patV) := Opens.slice opV Try.underlying51 (by kernel_rfl) (by kernel_rfl)
abbrev Val := BitVec 64 × Int × List (BitVec 8) × List (BitVec 8)
def enc1 (e : Val) : List (BitVec 8) := uv e.1.toNat ++ (uv (zz e.2.1) ++ (uv e.2.2.1.length ++ (e.2.2.1 ++ e.2.2.2)))
def encs (l : List Val) : List (BitVec 8) := l.flatMap enc1
theorem encs_snoc (l : List Val) (e : Val) : encs (l ++ [e]) = encs l ++ enc1 e := by simp [encs]
theorem encs_cons (l : List Val) (e : Val) : encs (e :: l) = enc1 e ++ encs l := by simp [encs]
theorem elemV {w : World} {v : Value} {lv : List Val} (h : SliceR patV w v lv) : ∃ ad cap, v = .slice ad lv.length cap ∧ lv.length ≤ cap ∧ ∀ k (hk : k < lv.length), ∃ g off vx u n x x0 x1 x2 x3 x4 x5 x6 x7, ad = some ⟨g, off, none⟩ ∧ g < w.heap.size ∧
    lv[k] = (u, n, x, [x0, x1, x2, x3, x4, x5, x6, x7]) ∧ I64 n ∧ SliceAt encB w vx x ∧ x.length ≤ maxLen ∧ w.cell? ⟨g, off + k * 11, none⟩ = some (encU u) ∧ w.cell? ⟨g, off + k * 11 + 1, none⟩ = some (encI n) ∧ w.cell? ⟨g, off + k * 11 + 2, none⟩ = some vx ∧
    w.cell? ⟨g, off + k * 11 + 3, none⟩ = some (encB x0) ∧ w.cell? ⟨g, off + k * 11 + 4, none⟩ = some (encB x1) ∧ w.cell? ⟨g, off + k * 11 + 5, none⟩ = some (encB x2) ∧ w.cell? ⟨g, off + k * 11 + 6, none⟩ = some (encB x3) ∧
    w.cell? ⟨g, off + k * 11 + 7, none⟩ = some (encB x4) ∧ w.cell? ⟨g, off + k * 11 + 8, none⟩ = some (encB x5) ∧ w.cell? ⟨g, off + k * 11 + 9, none⟩ = some (encB x6) ∧ w.cell? ⟨g, off + k * 11 + 10, none⟩ = some (encB x7) := by
  obtain ⟨ad, cap, rfl, hca, h⟩ := h
  refine ⟨ad, cap, rfl, hca, fun k hk => ?_⟩
  rcases h with ⟨h0, _⟩ | ⟨g, off, h1, h2, h3⟩
  · rw [h0] at hk; simp at hk
  · obtain ⟨cs, hcs, hcell⟩ := h3 k hk
    generalize lv[k] = el at hcs ⊢
    obtain ⟨vx, hce, h4, h5, h6, h7⟩ := holds_V hcs
    obtain ⟨u, n, x, y⟩ := el
    have h7 : y.length = 8 := h7
    obtain ⟨x0, x1, x2, x3, x4, x5, x6, x7, rfl⟩ := eight h7
    have hl : cs.length = 11 := by rw [hce]; rfl
    have hc : ∀ j (hj : j < 11), w.cell? ⟨g, off + k * 11 + j, none⟩ = cs[j]? := fun j hj => by
      rw [List.getElem?_eq_getElem (by omega)]; exact hcell j (by omega)
    refine ⟨g, off, vx, u, n, x, x0, x1, x2, x3, x4, x5, x6, x7, h1, h2, rfl, h4, h5, h6, ?_, ?_, ?_, ?_, ?_, ?_, ?_, ?_, ?_, ?_, ?_⟩
    all_goals first
      | (have := hc 0 (by omega); rw [hce] at this; exact this)
      | (have := hc 1 (by omega); rw [hce] at this; exact this)
      | (have := hc 2 (by omega); rw [hce] at this; exact this)
      | (have := hc 3 (by omega); rw [hce] at this; exact this)
      | (have := hc 4 (by omega); rw [hce] at this; exact this)
      | (have := hc 5 (by omega); rw [hce] at this; exact this)
      | (have := hc 6 (by omega); rw [hce] at this; exact this)
      | (have := hc 7 (by omega); rw [hce] at this; exact this)
      | (have := hc 8 (by omega); rw [hce] at this; exact this)
      | (have := hc 9 (by omega); rw [hce] at this; exact this)
      | (have := hc 10 (by omega); rw [hce] at this; exact this)

set_option maxRecDepth 100000 in
set_option maxHeartbeats 3000000 in
theorem codecRoundTrip_walk (v : Value) (lv : List Val) (w : World) (hlv : lv.length ≤ maxLen) (h : SliceR patV w v lv) :
    Calls Try.prog 7 #[v] w fun e w' => e = .returned (.bool true) ∧ Below w.heap.size w w' := by
  obtain ⟨ad, cap, rfl, hca, hel⟩ := elemV h
  have HEL := Lib.hid hel
  clear h hel
  unfold maxLen at hlv
  by_cases h10 : 10 < lv.length
  · have h10 : (10 : Int) < (lv.length : Int) := by omega
    go_enter Try.func7, Try.ntmps7
    go_wp2_with fail
    go_at_call 10
    refine (awake_any _).mono ?_
    rintro e w1 ⟨rfl, hb1⟩
    go_wp2_with fail
    go_ret
    exact ⟨rfl, hb1⟩
  have hn10 : (lv.length : Int) ≤ 10 := by omega
  have hn10' : lv.length ≤ 10 := by omega
  clear h10
  go_enter Try.func7, Try.ntmps7
  go_wp2_with fail
  go_at_call 10
  refine (awake_any _).mono ?_
  rintro e w1 ⟨rfl, hb1⟩
  go_wp2_with fail
  go_loopw [3, 4] (fun vb i wr => ∃ k : Nat, k ≤ lv.length ∧ i = .int .i64 k ∧ SliceAt encB wr vb (encs (lv.take k)) ∧ (encs (lv.take k)).length ≤ 138 * k ∧ (∀ j (hj : j < lv.length), j < k → lv[j].2.2.1.length ≤ 100) ∧ Ext w wr) (fun _ i _ => lv.length - (intOf i).toNat)
  case atStart => exact ⟨0, by omega, rfl, SliceAt.nil, by simp [encs], fun j hj h => by omega, hb1⟩
  case round =>
    obtain ⟨k, hkl, rfl, hsb, hlen, hall, hx⟩ := hrel
    have HSB := Lib.hid hsb
    have HALL := Lib.hid hall
    have hxc := hx.cells
    clear hall
    by_cases hlt : k < lv.length
    · obtain ⟨g, off, vx, u, n, x, x0, x1, x2, x3, x4, x5, x6, x7, rfl, hg, hlk, hn, hsx, hxm, c0, c1, c2, c3, c4, c5, c6, c7, c8, c9, c10⟩ := HEL.out k hlt
      have hgr : g < wr.heap.size := by have := hx.size; omega
      have HLK := Lib.hid hlk
      have HNB : Hid (I64 n) := hn
      have HSX := Lib.hid (hsx.ext hx)
      obtain ⟨adx, capx, rfl, hcx, _⟩ := hsx
      have hxl : x.length ≤ 9223372036854775807 := hxm
      have hcx' : (x.length : Int) ≤ (capx : Int) := by omega
      clear hlk hn hxm hcx
      by_cases h100 : 100 < x.length
      · have h100 : (100 : Int) < (x.length : Int) := by omega
        go_wp2_with fail
        go_ret
        exact ⟨rfl, hx⟩
      · have h100 : (x.length : Int) ≤ 100 := by omega
        have hx100 : x.length ≤ 100 := by omega
        generalize hp : encs (lv.take k) = pre at *
        have HP := Lib.hid hp
        have hul1 := (uv_len u.toNat u.isLt).2
        have hul2 := (uv_len (zz n) (zz_lt HNB.out.1 HNB.out.2)).2
        have hul3 := (uv_len x.length (by omega)).2
        have hpl : pre.length ≤ 1380 := by omega
        obtain ⟨adb, capb, rfl, _, _⟩ := hsb
        clear hp
        go_wp2_with fail
        obtain ⟨W, rfl⟩ : ∃ W, W = wr := ⟨_, rfl⟩
        have hxd := Ext.drew W
        have hz : g < W.heap.size := hgr
        refine wp_region_ext [(0, true), (1, true), (2, true), (3, true), (4, true), (5, true), (7, true), (8, true), (9, true), (10, true), (11, true), (13, true), (14, true), (15, true), (16, true), (17, true), (19, true), (20, true), (21, true), (22, true), (23, true), (6, false), (12, false), (18, false), (24, false), (25, true)] (by kernel_rfl) (by kernel_rfl) ?_
        iterate 21 (first
         | (refine ext_move rfl rfl (by rfl) (by rfl) ?_; simp only [Act.put, List.setIfInBounds_toArray, List.set_cons_zero, List.set_cons_succ])
         | (refine ext_assign rfl rfl (by rfl) (by rfl) ?_; simp only [Act.put, List.setIfInBounds_toArray, List.set_cons_zero, List.set_cons_succ])
         | (refine ext_pick_t rfl rfl (by rfl) (by rfl) (by rfl) ?_; simp only [Act.put, List.setIfInBounds_toArray, List.set_cons_zero, List.set_cons_succ])
         | (refine ext_pick_f rfl rfl (by rfl) (by rfl) (by rfl) ?_; simp only [Act.put, List.setIfInBounds_toArray, List.set_cons_zero, List.set_cons_succ])
         | (apply ext_take rfl (by rfl)
            · intro w' hS
              have hSc := hS.cells
              (try simp only [World.size_drew, World.cell?_drew] at hSc)
              go_simp
              (try simp (disch := omega) only [i64_id, u64_id, ↓IntWalk.iteOmega, Int.tdiv_eq_ediv_of_nonneg, Int.tmod_eq_emod_of_nonneg])
              try rfl
            simp only [Act.put, List.setIfInBounds_toArray, List.set_cons_zero, List.set_cons_succ])
         | (refine ext_pass rfl (by rfl) ?_; simp only [Act.put, List.setIfInBounds_toArray, List.set_cons_zero, List.set_cons_succ]))
        (refine ext_do rfl (by rfl) (fun K hK => ?_)
         go_simp
         go_at_call 11
         refine (appendUint_any _ pre u.toNat _ (by omega) u.isLt (HSB.out.ext hxd)).mono ?_
         rintro e w2 ⟨v2, rfl, ho2, hb2⟩
         have hx2 : Ext W w2 := hxd.trans hb2
         have hc2 := hx2.cells
         have hs2 := hx2.size
         have hq2 := Below.size hb2
         have hlt2 := Nat.lt_of_lt_of_le hz hs2
         have HO2 := Lib.hid (OwnB.slice ho2); clear ho2
         refine hK _ _ (by first | exact hb2 | exact (Ext.drew _).trans hb2) ?_
         clear hK K
         (try simp only [Act.put, List.setIfInBounds_toArray, List.set_cons_zero, List.set_cons_succ]))
        (refine ext_do rfl (by rfl) (fun K hK => ?_)
         go_simp
         go_at_call 12
         refine (appendInt_any _ (pre ++ uv u.toNat) n _ (by rw [List.length_append]; omega) HNB.out.1 HNB.out.2 HO2.out).mono ?_
         rintro e w3 ⟨v3, rfl, ho3, hb3⟩
         have hx3 : Ext W w3 := hx2.trans hb3
         have hc3 := hx3.cells
         have hs3 := hx3.size
         have hq3 := Below.size hb3
         have hlt3 := Nat.lt_of_lt_of_le hz hs3
         have HO3 := Lib.hid (OwnB.slice ho3); clear ho3
         refine hK _ _ (by first | exact hb3 | exact (Ext.drew _).trans hb3) ?_
         clear hK K
         (try simp only [Act.put, List.setIfInBounds_toArray, List.set_cons_zero, List.set_cons_succ]))
        (refine ext_do rfl (by rfl) (fun K hK => ?_)
         go_simp
         go_at_call 16
         refine (appendBytes_any _ _ (pre ++ uv u.toNat ++ uv (zz n)) x _ (by rw [List.length_append, List.length_append]; omega) (by omega) HO3.out (HSX.out.ext hx3)).mono ?_
         rintro e w4 ⟨v4, rfl, ho4, hb4⟩
         have hx4 : Ext W w4 := hx3.trans hb4
         have hc4 := hx4.cells
         have hs4 := hx4.size
         have hq4 := Below.size hb4
         have hlt4 := Nat.lt_of_lt_of_le hz hs4
         have HO4 := Lib.hid (OwnB.slice ho4); clear ho4
         refine hK _ _ (by first | exact hb4 | exact (Ext.drew _).trans hb4) ?_
         clear hK K
         (try simp only [Act.put, List.setIfInBounds_toArray, List.set_cons_zero, List.set_cons_succ]))
        (refine ext_do rfl (by rfl) (fun K hK => ?_)
         go_simp
         go_at_call 18
         refine (appendBlock_any _ (pre ++ uv u.toNat ++ uv (zz n) ++ uv x.length ++ x) [x0, x1, x2, x3, x4, x5, x6, x7] _ (by simp only [List.length_append]; omega) rfl HO4.out).mono ?_
         rintro e w5 ⟨v5, rfl, ho5, hb5⟩
         have hx5 : Ext W w5 := hx4.trans hb5
         have hc5 := hx5.cells
         have hs5 := hx5.size
         have hq5 := Below.size hb5
         have hlt5 := Nat.lt_of_lt_of_le hz hs5
         have HO5 := Lib.hid (OwnB.slice ho5); clear ho5
         refine hK _ _ (by first | exact hb5 | exact (Ext.drew _).trans hb5) ?_
         clear hK K
         (try simp only [Act.put, List.setIfInBounds_toArray, List.set_cons_zero, List.set_cons_succ]))
        iterate 1 (first
         | (refine ext_move rfl rfl (by rfl) (by rfl) ?_; simp only [Act.put, List.setIfInBounds_toArray, List.set_cons_zero, List.set_cons_succ])
         | (refine ext_assign rfl rfl (by rfl) (by rfl) ?_; simp only [Act.put, List.setIfInBounds_toArray, List.set_cons_zero, List.set_cons_succ])
         | (refine ext_pick_t rfl rfl (by rfl) (by rfl) (by rfl) ?_; simp only [Act.put, List.setIfInBounds_toArray, List.set_cons_zero, List.set_cons_succ])
         | (refine ext_pick_f rfl rfl (by rfl) (by rfl) (by rfl) ?_; simp only [Act.put, List.setIfInBounds_toArray, List.set_cons_zero, List.set_cons_succ])
         | (apply ext_take rfl (by rfl)
            · intro w' hS
              have hSc := hS.cells
              (try simp only [World.size_drew, World.cell?_drew] at hSc)
              go_simp
              (try simp (disch := omega) only [i64_id, u64_id, ↓IntWalk.iteOmega, Int.tdiv_eq_ediv_of_nonneg, Int.tmod_eq_emod_of_nonneg])
              try rfl
            simp only [Act.put, List.setIfInBounds_toArray, List.set_cons_zero, List.set_cons_succ])
         | (refine ext_pass rfl (by rfl) ?_; simp only [Act.put, List.setIfInBounds_toArray, List.set_cons_zero, List.set_cons_succ]))
        refine ext_nil ?_
        go_wp2_with fail
        have hsn : lv.take (k + 1) = lv.take k ++ [(u, n, x, [x0, x1, x2, x3, x4, x5, x6, x7])] := by
          rw [List.take_succ_eq_append_getElem hlt, HLK.out]
        have hen : encs (lv.take (k + 1)) = pre ++ uv u.toNat ++ uv (zz n) ++ uv x.length ++ x ++ [x0, x1, x2, x3, x4, x5, x6, x7] := by
          rw [hsn, encs_snoc, HP.out]; simp [enc1]
        have HEN := Lib.hid hen
        clear hsn hen
        go_roundw
        case rel =>
          refine ⟨k + 1, by omega, by go_num, by rw [HEN.out]; exact HO5.out, ?_, fun j hj hjk => ?_, hx.trans hx5⟩
          · rw [HEN.out]; simp only [List.length_append, List.length_cons, List.length_nil]; omega
          · rcases (show j < k ∨ j = k by omega) with hj' | rfl
            · exact HALL.out j hj hj'
            · rw [HLK.out]; exact hx100
        case measure => simp [intOf]; omega
    · have hk : k = lv.length := by omega
      subst hk
      rw [List.take_of_length_le (Nat.le_refl _)] at hsb hlen
      have HSE := Lib.hid hsb
      have hle : (encs lv).length ≤ 1380 := by omega
      obtain ⟨adb, capb, hvb, _, _⟩ := hsb
      subst hvb
      clear hlen HSB
      go_wp2_with fail
      go_at_call 20
      refine (new_any _ (encs lv) _ (by omega) HSE.out).mono ?_
      rintro e w2 ⟨b, rfl, hb, hr2, hb2⟩
      have HR2 := Lib.hid hr2
      have hx2 : Ext w w2 := hx.trans hb2
      have hbw : w.heap.size ≤ b := by have := hx.size; omega
      clear hr2
      go_wp2_with fail
      go_loopw [6] (fun i wr => ∃ k : Nat, k ≤ lv.length ∧ i = .int .i64 k ∧ RdAt wr b (encs (lv.drop k)) false ∧ (encs (lv.drop k)).length ≤ 1380 ∧ Ext w wr) (fun i _ => lv.length - (intOf i).toNat)
      case atStart => exact ⟨0, by omega, rfl, HR2.out, hle, hx2⟩
      case round =>
        obtain ⟨k, hkl, rfl, hr, hlen, hx⟩ := hrel
        have HR := Lib.hid hr
        have HHX := Lib.hid hx
        have hxc := hx.cells
        have hxs := hx.size
        clear hr
        by_cases hlt : k < lv.length
        · obtain ⟨g, off, vx, u, n, x, x0, x1, x2, x3, x4, x5, x6, x7, hadd, hg, hlk, hn, hsx, hxm, c0, c1, c2, c3, c4, c5, c6, c7, c8, c9, c10⟩ := HEL.out k hlt
          subst hadd
          have hgr : g < wr.heap.size := by omega
          have HSX := Lib.hid hsx
          have HNB : Hid (I64 n) := hn
          have hdr : lv.drop k = (u, n, x, [x0, x1, x2, x3, x4, x5, x6, x7]) :: lv.drop (k + 1) := by rw [List.drop_eq_getElem_cons hlt, hlk]
          have hen : encs (lv.drop k) = uv u.toNat ++ (uv (zz n) ++ (uv x.length ++ (x ++ ([x0, x1, x2, x3, x4, x5, x6, x7] ++ encs (lv.drop (k + 1)))))) := by
            rw [hdr, encs_cons]; simp [enc1]
          have hlr : (encs (lv.drop (k + 1))).length ≤ 1380 := by
            have := congrArg List.length hen; simp only [List.length_append, List.length_cons, List.length_nil] at this; omega
          rw [hen] at HR hlen
          obtain ⟨adx, capx, rfl, hcx, _⟩ := hsx
          have hxl : x.length ≤ 9223372036854775807 := hxm
          generalize hR : encs (lv.drop (k + 1)) = R at *
          have HRR := Lib.hid hR
          simp only [List.length_append, List.length_cons, List.length_nil] at hlen
          have hru : Hid (rd false (uv u.toNat ++ (uv (zz n) ++ (uv x.length ++ (x ++ ([x0, x1, x2, x3, x4, x5, x6, x7] ++ R))))) = some (u, uv (zz n) ++ (uv x.length ++ (x ++ ([x0, x1, x2, x3, x4, x5, x6, x7] ++ R))))) := by
            show _ = _; rw [rd_uv _ _ u.isLt]; simp
          have hri : Hid (rdI false (uv (zz n) ++ (uv x.length ++ (x ++ ([x0, x1, x2, x3, x4, x5, x6, x7] ++ R)))) = some (n, uv x.length ++ (x ++ ([x0, x1, x2, x3, x4, x5, x6, x7] ++ R)))) := rdI_zz n _ HNB.out.1 HNB.out.2
          have hrb : Hid (rdB false (uv x.length ++ (x ++ ([x0, x1, x2, x3, x4, x5, x6, x7] ++ R))) = some (x, [x0, x1, x2, x3, x4, x5, x6, x7] ++ R)) := rdB_uv x _ (by omega)
          have hrx : Hid (rdX false ([x0, x1, x2, x3, x4, x5, x6, x7] ++ R) = some ([x0, x1, x2, x3, x4, x5, x6, x7], R)) := rdX_eq _ R rfl
          clear hdr hen hlk hn hxm hR hcx
          go_wp2_with fail
          go_at_call 21
          refine (uint_any _ _ _ false (by simp only [List.length_append, List.length_cons, List.length_nil]; omega) HR.out).mono ?_
          intro e w4 hp
          rw [hru.out] at hp
          obtain ⟨rfl, hr4, hg4⟩ := hp
          have HR4 := Lib.hid hr4
          have HX4 := Lib.hid (Below.grown hx hg4 hxs (fun k hk => by cases hk; exact hbw))
          clear hr4 hg4
          go_wp2_with fail
          go_at_call 22
          refine (int_any _ _ _ false (by simp only [List.length_append, List.length_cons, List.length_nil]; omega) HR4.out).mono ?_
          intro e w5 hp
          rw [hri.out] at hp
          obtain ⟨vi, rfl, hvi, hr5, hg5⟩ := hp
          have hvi : vi = .int .i64 n := hvi
          subst hvi
          have HR5 := Lib.hid hr5
          have HX5 := Lib.hid (Below.grown HX4.out hg5 (Ext.size HX4.out) (fun k hk => by cases hk; exact hbw))
          clear hr5 hg5
          go_wp2_with fail
          go_at_call 23
          refine (bytes_any _ _ _ false (by simp only [List.length_append, List.length_cons, List.length_nil]; omega) HR5.out).mono ?_
          intro e w6 hp
          rw [hrb.out] at hp
          obtain ⟨v6, rfl, hv6, hr6, hg6⟩ := hp
          have HV6 : Hid (SliceAt encB w6 v6 x) := hv6
          have HR6 := Lib.hid hr6
          have HX6 := Lib.hid (Below.grown HX5.out hg6 (Ext.size HX5.out) (fun k hk => by cases hk; exact hbw))
          clear hv6 hr6 hg6
          go_wp2_with fail
          go_at_call 27
          refine (block_any _ _ _ false (by simp only [List.length_append, List.length_cons, List.length_nil]; omega) HR6.out).mono ?_
          intro e w7 hp
          rw [hrx.out] at hp
          obtain ⟨v7, rfl, ⟨rfl, _⟩, hr7, hg7⟩ := hp
          rw [show (List.map encB [x0, x1, x2, x3, x4, x5, x6, x7]).toArray = #[encB x0, encB x1, encB x2, encB x3, encB x4, encB x5, encB x6, encB x7] from rfl]
          have HR7 := Lib.hid (hr7.ext ((Ext.alloc w7 (.cells #[encB x0, encB x1, encB x2, encB x3, encB x4, encB x5, encB x6, encB x7] 31)).trans (Ext.drew _)))
          have hX7 : Ext w w7 := Below.grown HX6.out hg7 (Ext.size HX6.out) (fun k hk => by cases hk; exact hbw)
          have HX7 := Lib.hid ((hX7.trans (Ext.alloc w7 (.cells #[encB x0, encB x1, encB x2, encB x3, encB x4, encB x5, encB x6, encB x7] 31))).trans (Ext.drew _))
          have hx7c := hX7.cells
          have hg7' : g < w7.heap.size := by have := hX7.size; omega
          have HV7 := Lib.hid ((HV6.out.turn HR6.out.nb hg7).ext (Ext.alloc w7 (.cells #[encB x0, encB x1, encB x2, encB x3, encB x4, encB x5, encB x6, encB x7] 31)))
          have HSX7 := Lib.hid ((HSX.out.ext hX7).ext (Ext.alloc w7 (.cells #[encB x0, encB x1, encB x2, encB x3, encB x4, encB x5, encB x6, encB x7] 31)))
          obtain ⟨ad6, cap6, rfl, _, _⟩ := HV7.out
          have hgne : g ≠ w7.heap.size := by omega
          clear hr7 hg7 hX7
          go_wp2_with fail
          refine wp_region_ext [(0, true), (1, true), (2, true), (3, true), (4, true), (5, true), (6, true), (7, true), (8, true), (9, true), (10, true), (11, true), (12, true), (13, true), (14, true), (15, true), (16, true), (17, true), (18, true), (19, true), (20, true), (21, true), (22, true), (23, true), (24, true), (25, true), (26, true), (27, true), (28, true), (29, true), (30, true), (31, true), (32, true), (33, true), (34, true), (35, true), (36, true), (37, true), (38, true), (39, true), (40, true), (41, true), (42, true), (43, true), (44, true), (45, true), (46, true), (47, true), (48, true), (49, true), (50, true), (51, true)] (by kernel_rfl) (by kernel_rfl) ?_
          iterate 34 (first
           | (refine ext_move rfl rfl (by rfl) (by rfl) ?_; simp only [Act.put, List.setIfInBounds_toArray, List.set_cons_zero, List.set_cons_succ])
           | (refine ext_assign rfl rfl (by rfl) (by rfl) ?_; simp only [Act.put, List.setIfInBounds_toArray, List.set_cons_zero, List.set_cons_succ])
           | (refine ext_pick_t rfl rfl (by rfl) (by rfl) (by rfl) ?_; simp only [Act.put, List.setIfInBounds_toArray, List.set_cons_zero, List.set_cons_succ])
           | (refine ext_pick_f rfl rfl (by rfl) (by rfl) (by rfl) ?_; simp only [Act.put, List.setIfInBounds_toArray, List.set_cons_zero, List.set_cons_succ])
           | (apply ext_take rfl (by rfl)
              · intro w' hS
                have hSc := hS.cells
                (try simp only [World.size_drew, World.cell?_drew] at hSc)
                go_simp
                (try simp (disch := omega) only [i64_id, u64_id, ↓IntWalk.iteOmega, Int.tdiv_eq_ediv_of_nonneg, Int.tmod_eq_emod_of_nonneg])
                try rfl
              simp only [Act.put, List.setIfInBounds_toArray, List.set_cons_zero, List.set_cons_succ])
           | (refine ext_pass rfl (by rfl) ?_; simp only [Act.put, List.setIfInBounds_toArray, List.set_cons_zero, List.set_cons_succ]))
          (apply ext_take rfl (by rfl)
           · intro w' hS
             have hcv := run_str (P := Try.prog) Try.underlying25 Try.underlying5 Try.underlying9 w' _ _ (SliceAt.ext HV7.out hS)
             go_simp
             try rfl
           simp only [Act.put, List.setIfInBounds_toArray, List.set_cons_zero, List.set_cons_succ])
          iterate 5 (first
           | (refine ext_move rfl rfl (by rfl) (by rfl) ?_; simp only [Act.put, List.setIfInBounds_toArray, List.set_cons_zero, List.set_cons_succ])
           | (refine ext_assign rfl rfl (by rfl) (by rfl) ?_; simp only [Act.put, List.setIfInBounds_toArray, List.set_cons_zero, List.set_cons_succ])
           | (refine ext_pick_t rfl rfl (by rfl) (by rfl) (by rfl) ?_; simp only [Act.put, List.setIfInBounds_toArray, List.set_cons_zero, List.set_cons_succ])
           | (refine ext_pick_f rfl rfl (by rfl) (by rfl) (by rfl) ?_; simp only [Act.put, List.setIfInBounds_toArray, List.set_cons_zero, List.set_cons_succ])
           | (apply ext_take rfl (by rfl)
              · intro w' hS
                have hSc := hS.cells
                (try simp only [World.size_drew, World.cell?_drew] at hSc)
                go_simp
                (try simp (disch := omega) only [i64_id, u64_id, ↓IntWalk.iteOmega, Int.tdiv_eq_ediv_of_nonneg, Int.tmod_eq_emod_of_nonneg])
                try rfl
              simp only [Act.put, List.setIfInBounds_toArray, List.set_cons_zero, List.set_cons_succ])
           | (refine ext_pass rfl (by rfl) ?_; simp only [Act.put, List.setIfInBounds_toArray, List.set_cons_zero, List.set_cons_succ]))
          (apply ext_take rfl (by rfl)
           · intro w' hS
             have hcv := run_str (P := Try.prog) Try.underlying25 Try.underlying5 Try.underlying9 w' _ _ (SliceAt.ext HSX7.out hS)
             go_simp
             try rfl
           simp only [Act.put, List.setIfInBounds_toArray, List.set_cons_zero, List.set_cons_succ])
          iterate 11 (first
           | (refine ext_move rfl rfl (by rfl) (by rfl) ?_; simp only [Act.put, List.setIfInBounds_toArray, List.set_cons_zero, List.set_cons_succ])
           | (refine ext_assign rfl rfl (by rfl) (by rfl) ?_; simp only [Act.put, List.setIfInBounds_toArray, List.set_cons_zero, List.set_cons_succ])
           | (refine ext_pick_t rfl rfl (by rfl) (by rfl) (by rfl) ?_; simp only [Act.put, List.setIfInBounds_toArray, List.set_cons_zero, List.set_cons_succ])
           | (refine ext_pick_f rfl rfl (by rfl) (by rfl) (by rfl) ?_; simp only [Act.put, List.setIfInBounds_toArray, List.set_cons_zero, List.set_cons_succ])
           | (apply ext_take rfl (by rfl)
              · intro w' hS
                have hSc := hS.cells
                (try simp only [World.size_drew, World.cell?_drew] at hSc)
                go_simp
                (try simp (disch := omega) only [i64_id, u64_id, ↓IntWalk.iteOmega, Int.tdiv_eq_ediv_of_nonneg, Int.tmod_eq_emod_of_nonneg])
                try rfl
              simp only [Act.put, List.setIfInBounds_toArray, List.set_cons_zero, List.set_cons_succ])
           | (refine ext_pass rfl (by rfl) ?_; simp only [Act.put, List.setIfInBounds_toArray, List.set_cons_zero, List.set_cons_succ]))
          refine ext_nil ?_
          go_wp2_with fail
          go_roundw
          case rel => exact ⟨k + 1, by omega, by go_num, by rw [HRR.out]; exact HR7.out, by rw [HRR.out]; omega, HX7.out⟩
          case measure => simp [intOf]; omega
        · have hk : k = lv.length := by omega
          subst hk
          rw [List.drop_eq_nil_of_le (Nat.le_refl _)] at HR
          go_wp2_with fail
          go_at_call 24
          refine (left_any _ _ [] false (by simp) HR.out).mono ?_
          rintro e w5 ⟨rfl, rfl⟩
          go_wp2_with fail
          go_at_call 26
          refine (done_any _ _ [] false (by simp) HR.out).mono ?_
          rintro e w5 ⟨rfl, rfl⟩
          rw [show fin false [] = 0 from rfl]
          go_wp2_with fail
          go_ret
          exact ⟨rfl, HHX.out⟩
end Go.Proofs.Ytbegghodjfllnaa
