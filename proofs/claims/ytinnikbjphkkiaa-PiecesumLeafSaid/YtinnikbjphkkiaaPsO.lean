/-
  Chapter 25 (piecesum): Bad of the reference.
-/
import Derived.Test.YtinnikbjphkkiaaPsN
namespace Go.Proofs.Ytinnikbjphkkiaa
open Go.RowKit
set_option linter.unusedVariables false

set_option maxHeartbeats 1000000 in
theorem rbad_any (vv vs vr vd vp : Value) (lv ls : List (BitVec 64)) (g : Int) (vers : List (BitVec 64)) (data : List (List (BitVec 8))) (pres : List Bool) (w : World) (hlv : lv.length ≤ 1000) (hls : ls.length ≤ 1000) (hlr : vers.length ≤ 1000) (hld : data.length ≤ 1000) (hlp : pres.length ≤ 1000)
    (hg : -9223372036854775808 ≤ g ∧ g ≤ 9223372036854775807) (h1 : SliceAt encU w vv lv) (h2 : SliceAt encU w vs ls) (h3 : SliceAt encU w vr vers) (h4 : SliceR patBlk w vd data) (h5 : SliceAt Value.bool w vp pres) :
    Calls Try.prog 19 #[.agg #[vv, vs], .int .i64 g, vr, vd, vp] w fun e w' => ∃ v', e = .returned v' ∧ OwnT w' w.heap.size v' (badB lv ls g vers data pres) ∧ Below w.heap.size w w' := by
  have H1 := Lib.hid h1
  have H2 := Lib.hid h2
  have H3 := Lib.hid h3
  have H4 := Lib.hid h4
  have H5 := Lib.hid h5
  obtain ⟨ad1, cap1, rfl, hc1, _⟩ := h1
  obtain ⟨ad2, cap2, rfl, hc2, _⟩ := h2
  obtain ⟨ad3, cap3, rfl, hc3, _⟩ := h3
  obtain ⟨ad4, cap4, rfl, hc4, _⟩ := h4
  obtain ⟨ad5, cap5, rfl, hc5, _⟩ := h5
  obtain ⟨i0, hi, hi0, hi1, hi2⟩ := info_parts infoT
  have hm1 : min lv.length ls.length ≤ lv.length := Nat.min_le_left _ _
  have hm2 : min lv.length ls.length ≤ ls.length := Nat.min_le_right _ _
  have hm3 : min lv.length ls.length ≤ 1000 := by omega
  have HS : Hid (badB lv ls g vers data pres = badK lv ls g vers data pres (min lv.length ls.length)) := by show _ = _; rfl
  have HCW := Lib.hid fun (x : World) (hx : Ext w x) => width_any _ _ lv ls x (by omega) (by omega) (H1.out.ext hx) (H2.out.ext hx)
  have HCG := Lib.hid fun (x : World) (k : Nat) (v : BitVec 64) (x0 x1 x2 x3 x4 x5 x6 x7 : BitVec 8) (hk : k ≤ 1000) (hx : Ext w x) => rgood_any _ _ lv ls g k v x0 x1 x2 x3 x4 x5 x6 x7 x (by omega) (by omega) hg ⟨by omega, by omega⟩ (H1.out.ext hx) (H2.out.ext hx)
  generalize hm : min lv.length ls.length = m at *
  have HM := Lib.hid hm
  clear hm hc1 hc2 hc3 hc4 hc5
  go_enter Try.func19, Try.ntmps19
  go_wp2_with fail
  have hz : w.heap.size < (w.alloc (.cells #[.slice ad1 lv.length cap1, .slice ad2 ls.length cap2] 32)).heap.size := by simp
  have hsz : (w.alloc (.cells #[.slice ad1 lv.length cap1, .slice ad2 ls.length cap2] 32)).heap.size = w.heap.size + 1 := by simp
  generalize hW : w.alloc (.cells #[.slice ad1 lv.length cap1, .slice ad2 ls.length cap2] 32) = W at *
  have c0_0 : W.cell? ⟨w.heap.size, 0, none⟩ = some (.slice ad1 lv.length cap1) := by rw [← hW]; first | exact (World.cell?_alloc_at (hn := by first | (simp; done) | (simp; omega)) ..).trans rfl | (simp; done) | (go_simp; done)
  have c0_1 : W.cell? ⟨w.heap.size, 1, none⟩ = some (.slice ad2 ls.length cap2) := by rw [← hW]; first | exact (World.cell?_alloc_at (hn := by first | (simp; done) | (simp; omega)) ..).trans rfl | (simp; done) | (go_simp; done)
  have hf0 : ∀ o, W.frozen? ⟨w.heap.size, o, none⟩ = false := fun o => by rw [← hW]; first | exact World.frozen?_alloc_at (hn := by first | (simp; done) | (simp; omega)) .. | (simp; done) | (go_simp; done)
  have hxW : Ext w W := by rw [← hW]; exact Ext.alloc _ _
  clear hW
  have HSZ := Lib.hid hsz
  clear hsz
  go_wp2_with fail
  have hx1 : Ext w W := hxW
  go_loopw [12, 11] (fun i vo wr => ∃ k : Nat, k ≤ m ∧ i = .int .i64 k ∧ OwnT wr W.heap.size vo (badK lv ls g vers data pres k) ∧ Below W.heap.size W wr) (fun i _ _ => m - (intOf i).toNat)
  case atStart => exact ⟨0, by omega, rfl, OwnT.nil _ _, Below.refl _ _⟩
  case round =>
    obtain ⟨k, hk, rfl, ho, hx⟩ := hrel
    obtain ⟨ao, co, hvo⟩ := own_shape ho
    rw [badK_len] at hvo
    subst hvo
    have HO := Lib.hid ho
    have hsx := hx.size
    have hcx := below_cellsB hx
    have hzr : w.heap.size < wr.heap.size := by omega
    clear ho
    obtain ⟨y0, y1, y2, y3, y4, y5, y6, y7, hy⟩ := blk_form H4.out pres k
    have HY := Lib.hid hy
    clear hy
    rcases Nat.lt_or_ge k m with hlt | hge
    · go_upto_region 6 with (go_at_call 31; refine (HCW.out _ (hx1.trans hx)).mono ?_; rintro e w1 ⟨rfl, hb1⟩; have HXB := Lib.hid (hx.trans (Below.mono hb1 hsx)); have HO1 := Lib.hid (HO.out.ext hb1); have hc1 := below_cellsB HXB.out; have hs1 := HXB.out.size; have hzr1 : w.heap.size < w1.heap.size := (by omega))
      go_cut [15] (fun s15 wx => s15 = .bool (thereB pres k) ∧ wx = w1.alloc (.cells #[.int .u8 0, .int .u8 0, .int .u8 0, .int .u8 0, .int .u8 0, .int .u8 0, .int .u8 0, .int .u8 0] 24))
      case first =>
        by_cases hp : k < pres.length
        · obtain ⟨b5, o5, rfl, hb5, e5⟩ := H5.out.get k hp
          have hT := thereB_in hp
          have f5 := (hx1.cell b5 _ hb5).trans e5
          have hl5 : b5 < W.heap.size := by omega
          have hl5r : b5 < wr.heap.size := by omega
          have hl5s : b5 < w1.heap.size := by omega
          generalize pres[k] = z at *
          have HT := Lib.hid hT
          clear e5 hT
          go_wp2_with fail
          go_meet
          exact ⟨by rw [HT.out], rfl⟩
        · have HT := Lib.hid (thereB_out hp)
          have hp' : decide (k < pres.length) = false := by rw [decide_eq_false_iff_not]; exact hp
          go_wp2_with fail
          go_meet
          exact ⟨by rw [HT.out], rfl⟩
      case rest =>
        obtain ⟨rfl, rfl⟩ := hcut
        go_upto_region 7 with fail
        go_cut [15, 39] (fun s15 s39 wx => s15 = .bool (thereB pres k) ∧ s39 = .bool (thereB pres k && decide (k < vers.length)) ∧ wx = w1.alloc (.cells #[.int .u8 0, .int .u8 0, .int .u8 0, .int .u8 0, .int .u8 0, .int .u8 0, .int .u8 0, .int .u8 0] 24))
        case first =>
          cases hth : thereB pres k with
          | true =>
            go_wp2_with fail
            go_meet
            exact ⟨(by first | rfl | (rw [hth]; done) | (rw [hth]; rfl)), (by first | rfl | (rw [hth]; done) | (rw [hth]; rfl)), rfl⟩
          | false =>
            go_wp2_with fail
            go_meet
            exact ⟨(by first | rfl | (rw [hth]; done) | (rw [hth]; rfl)), (by first | rfl | (rw [hth]; done) | (rw [hth]; rfl)), rfl⟩
        case rest =>
          obtain ⟨rfl, rfl, rfl⟩ := hcut
          go_upto_if 39 with fail
          go_cut [13, 15] (fun s13 s15 wx => s13 = encU (verB pres vers k) ∧ s15 = .bool (thereB pres k) ∧ wx = w1.alloc (.cells #[.int .u8 0, .int .u8 0, .int .u8 0, .int .u8 0, .int .u8 0, .int .u8 0, .int .u8 0, .int .u8 0] 24))
          case first =>
            by_cases hv : k < vers.length
            · have hv' : decide (k < vers.length) = true := by rw [decide_eq_true_eq]; exact hv
              obtain ⟨b3, o3, rfl, hb3, e3⟩ := H3.out.get k hv
              rw [← getD_in (d := 0#64) hv] at e3
              have f3 := (hx1.cell b3 _ hb3).trans e3
              have hl3 : b3 < W.heap.size := by omega
              have hl3r : b3 < wr.heap.size := by omega
              have hl3s : b3 < w1.heap.size := by omega
              clear e3
              cases hth : thereB pres k with
              | true =>
                have HV : Hid (verB pres vers k = vers.getD k 0#64) := by show _ = _; unfold verB; rw [if_pos hth]
                rw [hv', Bool.and_true]
                generalize vers.getD k 0#64 = q at *
                go_wp2_with fail
                go_meet
                exact ⟨by rw [HV.out], (by first | rfl | (rw [hth]; done) | (rw [hth]; rfl)), rfl⟩
              | false =>
                have HV0 : Hid (verB pres vers k = 0#64) := by show _ = _; unfold verB; rw [hth]; rfl
                rw [Bool.false_and]
                go_wp2_with fail
                go_meet
                exact ⟨by rw [HV0.out]; rfl, (by first | rfl | (rw [hth]; done) | (rw [hth]; rfl)), rfl⟩
            · have hv' : decide (k < vers.length) = false := by rw [decide_eq_false_iff_not]; exact hv
              have HV0 : Hid (verB pres vers k = 0#64) := by show _ = _; unfold verB; rw [getD_out hv]; simp
              rw [hv', Bool.and_false]
              go_wp2_with fail
              go_meet
              exact ⟨by rw [HV0.out]; rfl, rfl, rfl⟩
          case rest =>
            obtain ⟨rfl, rfl, rfl⟩ := hcut
            go_upto_region 9 with fail
            go_cut [15, 50] (fun s15 s50 wx => s15 = .bool (thereB pres k) ∧ s50 = .bool (thereB pres k && decide (k < data.length)) ∧ wx = w1.alloc (.cells #[.int .u8 0, .int .u8 0, .int .u8 0, .int .u8 0, .int .u8 0, .int .u8 0, .int .u8 0, .int .u8 0] 24))
            case first =>
              cases hth : thereB pres k with
              | true =>
                go_wp2_with fail
                go_meet
                exact ⟨(by first | rfl | (rw [hth]; done) | (rw [hth]; rfl)), (by first | rfl | (rw [hth]; done) | (rw [hth]; rfl)), rfl⟩
              | false =>
                go_wp2_with fail
                go_meet
                exact ⟨(by first | rfl | (rw [hth]; done) | (rw [hth]; rfl)), (by first | rfl | (rw [hth]; done) | (rw [hth]; rfl)), rfl⟩
            case rest =>
              obtain ⟨rfl, rfl, rfl⟩ := hcut
              go_upto_if 50 with fail
              go_cut [14, 15] (fun s14 s15 wx => s14 = .pointer (some ⟨w1.heap.size, 0, none⟩) ∧ s15 = .bool (thereB pres k) ∧ wx = w1.alloc (.cells #[encB y0, encB y1, encB y2, encB y3, encB y4, encB y5, encB y6, encB y7] 24))
              case first =>
                have hyd := HY.out
                unfold blkB at hyd
                by_cases hd : k < data.length
                · have hd' : decide (k < data.length) = true := by rw [decide_eq_true_eq]; exact hd
                  cases hth : thereB pres k with
                  | true =>
                    rw [if_pos hth] at hyd
                    obtain ⟨b4, o4, z0, z1, z2, z3, z4, z5, z6, z7, rfl, hb4, hz, d0, d1, d2, d3, d4, d5, d6, d7⟩ := H4.out.block k hd
                    rw [hz] at hyd
                    simp only [List.cons.injEq, and_true] at hyd
                    obtain ⟨rfl, rfl, rfl, rfl, rfl, rfl, rfl, rfl⟩ := hyd
                    have g0 := (hx1.cell b4 _ hb4).trans d0
                    have g1 := (hx1.cell b4 _ hb4).trans d1
                    have g2 := (hx1.cell b4 _ hb4).trans d2
                    have g3 := (hx1.cell b4 _ hb4).trans d3
                    have g4 := (hx1.cell b4 _ hb4).trans d4
                    have g5 := (hx1.cell b4 _ hb4).trans d5
                    have g6 := (hx1.cell b4 _ hb4).trans d6
                    have g7 := (hx1.cell b4 _ hb4).trans d7
                    have hl4 : b4 < W.heap.size := by omega
                    have hl4r : b4 < wr.heap.size := by omega
                    have hl4s : b4 < w1.heap.size := by omega
                    clear d0 d1 d2 d3 d4 d5 d6 d7 hz
                    rw [hd', Bool.and_true]
                    go_wp2_with fail
                    go_meet
                    exact ⟨rfl, (by first | rfl | (rw [hth]; done) | (rw [hth]; rfl)), rfl⟩
                  | false =>
                    rw [hth] at hyd
                    unfold zero8 at hyd
                    simp only [List.cons.injEq, and_true, Bool.false_eq_true, if_false] at hyd
                    obtain ⟨rfl, rfl, rfl, rfl, rfl, rfl, rfl, rfl⟩ := hyd
                    rw [Bool.false_and]
                    go_wp2_with fail
                    go_meet
                    exact ⟨rfl, (by first | rfl | (rw [hth]; done) | (rw [hth]; rfl)), rfl⟩
                · have hd' : decide (k < data.length) = false := by rw [decide_eq_false_iff_not]; exact hd
                  rw [getD_out hd, ite_self] at hyd
                  unfold zero8 at hyd
                  simp only [List.cons.injEq, and_true] at hyd
                  obtain ⟨rfl, rfl, rfl, rfl, rfl, rfl, rfl, rfl⟩ := hyd
                  rw [hd', Bool.and_false]
                  go_wp2_with fail
                  go_meet
                  exact ⟨rfl, rfl, rfl⟩
              case rest =>
                obtain ⟨rfl, rfl, rfl⟩ := hcut
                have hbl : Ext w1 (w1.alloc (.cells #[encB y0, encB y1, encB y2, encB y3, encB y4, encB y5, encB y6, encB y7] 24)) := Ext.alloc _ _
                go_wp2_with fail
                generalize w1.alloc (.cells #[encB y0, encB y1, encB y2, encB y3, encB y4, encB y5, encB y6, encB y7] 24) = w2 at *
                have hbx2 : Below W.heap.size W w2 := HXB.out.trans (Below.mono hbl hs1)
                go_at_call 23
                refine (HCG.out _ k _ y0 y1 y2 y3 y4 y5 y6 y7 (by omega) (hx1.trans hbx2)).mono ?_
                rintro e w3 ⟨rfl, hb3⟩
                have hbx3 : Below W.heap.size W w3 := hbx2.trans (Below.mono hb3 hbx2.size)
                have HO3 := Lib.hid ((HO1.out.ext hbl).ext hb3)
                have hs3 := hbx3.size
                go_wp2_with (at_builtin; refine Classical.byContradiction (fun hN => ?_))
                refine hN ?_
                clear hN
                refine wpList_append_one rfl _ _ _ rfl W.heap.size 4 i0 (.bool false) 1 Try.underlying36 hi hi0 hi1 hi2 rfl _ _ _ rfl (World.ownsRow.alloc HO3.out _) _ _ rfl rfl (cell_new1 _ _ _) (by rw [badK_len]; unfold maxLen; omega) (by rw [badK_len]; omega) (by simp; omega) ?_
                intro v4 w4 ho4 hg4 hat4
                have hb4 : Below W.heap.size W w4 := (hbx3.alloc (by omega) _).grown hg4 (by simp; omega) (fun q hq => (World.ownsRow.lt HO3.out q hq).1)
                have HO4 := Lib.hid (OwnT.mk rfl ho4)
                have hs4 := hb4.size
                clear ho4 hg4 hat4
                go_wp2
                go_roundw
                case rel => exact ⟨k + 1, by omega, by go_num, by rw [badK_succ, HY.out]; exact HO4.out, hb4⟩
                case measure => show m - (intOf (.int .i64 ((k : Int) + 1))).toNat < m - (intOf (.int .i64 (k : Int))).toNat; unfold intOf; simp only; omega
    · have hkm : k = m := by omega
      subst hkm
      go_wp2_with (go_at_call 31; refine (HCW.out _ (hx1.trans hx)).mono ?_; rintro e w1 ⟨rfl, hb1⟩; have HXB := Lib.hid (hx.trans (Below.mono hb1 hsx)); have HO1 := Lib.hid (HO.out.ext hb1))
      go_ret
      exact ⟨_, rfl, by rw [HS.out]; exact OwnT.lower HO1.out hx1.size, hx1.trans HXB.out⟩
end Go.Proofs.Ytinnikbjphkkiaa
