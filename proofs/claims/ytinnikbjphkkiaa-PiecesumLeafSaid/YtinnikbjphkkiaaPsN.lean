/-
  Chapter 25 (piecesum): Bad.
-/
import Derived.Test.YtinnikbjphkkiaaPsM
import Derived.Test.YtinnikbjphkkiaaArg
import Derived.Deep.DeepCutAuto
namespace Go.Proofs.Ytinnikbjphkkiaa
open Go.RowKit
set_option linter.unusedVariables false

theorem infoT : (Try.prog.info? 4).map (fun i => (i.zero, i.size, i.bytes)) = some (some (.bool false), 1, 1) := by kernel_rfl
/-- a new row of truth values -/
abbrev OwnT (w : World) (base : Nat) (v : Value) (l : List Bool) : Prop := w.ownsRow base 4 1 v l.length (l.map Value.bool)
theorem OwnT.slice {w : World} {base : Nat} {v : Value} {l : List Bool} (h : OwnT w base v l) : SliceAt Value.bool w v l := SliceAt.of_owns h
theorem OwnT.nil (w : World) (base : Nat) : OwnT w base (.slice none 0 0) [] := World.ownsRow_nil _ _ _ _
theorem OwnT.ext {w w' : World} {base : Nat} {v : Value} {l : List Bool} (h : OwnT w base v l) (e : Ext w w') : OwnT w' base v l :=
  h.kept (row := none) ⟨e.os, e.tape, e.output, e.size, fun k hk _ => e.block k hk⟩ (by cases v.ownBlock <;> simp)
theorem OwnT.lower {w : World} {b b' : Nat} {v : Value} {l : List Bool} (h : OwnT w b v l) (hb : b' ≤ b) : OwnT w b' v l :=
  ⟨h.1, h.2.imp id (fun ⟨g, cap, cur, hv, hg, r⟩ => ⟨g, cap, cur, hv, Nat.le_trans hb hg, r⟩)⟩

def zero8 : List (BitVec 8) := [0#8, 0#8, 0#8, 0#8, 0#8, 0#8, 0#8, 0#8]
def thereB (pres : List Bool) (k : Nat) : Bool := pres.getD k false
def verB (pres : List Bool) (vers : List (BitVec 64)) (k : Nat) : BitVec 64 := if thereB pres k then vers.getD k 0#64 else 0#64
def blkB (pres : List Bool) (data : List (List (BitVec 8))) (k : Nat) : List (BitVec 8) := if thereB pres k then data.getD k zero8 else zero8
/-- which pieces are bad -/
def badK (lv ls : List (BitVec 64)) (g : Int) (vers : List (BitVec 64)) (data : List (List (BitVec 8))) (pres : List Bool) (k : Nat) : List Bool :=
  (List.range k).map fun (i : Nat) => !goodB lv ls g (i : Int) (verB pres vers i) (blkB pres data i)
theorem badK_succ (lv ls : List (BitVec 64)) (g : Int) (vers : List (BitVec 64)) (data : List (List (BitVec 8))) (pres : List Bool) (k : Nat) :
    badK lv ls g vers data pres (k + 1) = badK lv ls g vers data pres k ++ [!goodB lv ls g (k : Int) (verB pres vers k) (blkB pres data k)] := by simp [badK, List.range_succ]
theorem badK_len (lv ls : List (BitVec 64)) (g : Int) (vers : List (BitVec 64)) (data : List (List (BitVec 8))) (pres : List Bool) (k : Nat) : (badK lv ls g vers data pres k).length = k := by simp [badK]
def badB (lv ls : List (BitVec 64)) (g : Int) (vers : List (BitVec 64)) (data : List (List (BitVec 8))) (pres : List Bool) : List Bool := badK lv ls g vers data pres (min lv.length ls.length)

abbrev patBlk := Pat.rep 8 Pat.u8
theorem list_8 {α : Type} {l : List α} (h : l.length = 8) : ∃ x0 x1 x2 x3 x4 x5 x6 x7, l = [x0, x1, x2, x3, x4, x5, x6, x7] := by
  match l, h with
  | [x0, x1, x2, x3, x4, x5, x6, x7], _ => exact ⟨x0, x1, x2, x3, x4, x5, x6, x7, rfl⟩
/-- element k of a slice of blocks -/
theorem SliceR.block {w : World} {ad : Option Addr} {n cap : Nat} {l : List (List (BitVec 8))} (h : SliceR patBlk w (.slice ad n cap) l) (k : Nat) (hk : k < l.length) :
    ∃ b off y0 y1 y2 y3 y4 y5 y6 y7, ad = some ⟨b, off, none⟩ ∧ b < w.heap.size ∧ l.getD k zero8 = [y0, y1, y2, y3, y4, y5, y6, y7] ∧
      w.cell? ⟨b, off + k * 8, none⟩ = some (encB y0) ∧ w.cell? ⟨b, off + k * 8 + 1, none⟩ = some (encB y1) ∧ w.cell? ⟨b, off + k * 8 + 2, none⟩ = some (encB y2) ∧ w.cell? ⟨b, off + k * 8 + 3, none⟩ = some (encB y3) ∧
      w.cell? ⟨b, off + k * 8 + 4, none⟩ = some (encB y4) ∧ w.cell? ⟨b, off + k * 8 + 5, none⟩ = some (encB y5) ∧ w.cell? ⟨b, off + k * 8 + 6, none⟩ = some (encB y6) ∧ w.cell? ⟨b, off + k * 8 + 7, none⟩ = some (encB y7) := by
  obtain ⟨ad', cap', hv, hca, h⟩ := h
  injection hv with h1 h2 h3
  subst h1
  rcases h with ⟨h0, _⟩ | ⟨b, off, h4, h5, h6⟩
  · rw [h0] at hk; simp at hk
  · obtain ⟨cs, hcs, hc⟩ := h6 k hk
    obtain ⟨e1, e2, _⟩ := rep_one hcs
    obtain ⟨y0, y1, y2, y3, y4, y5, y6, y7, hy⟩ := list_8 e2
    rw [hy] at e1
    subst e1
    have hs : patBlk.size = 8 := rfl
    rw [hs] at hc
    refine ⟨b, off, y0, y1, y2, y3, y4, y5, y6, y7, h4, h5, ?_, ?_⟩
    · rw [List.getD_eq_getElem?_getD, List.getElem?_eq_getElem hk]; exact hy
    · exact ⟨hc 0 (by simp), hc 1 (by simp), hc 2 (by simp), hc 3 (by simp), hc 4 (by simp), hc 5 (by simp), hc 6 (by simp), hc 7 (by simp)⟩

theorem blk_form {w : World} {ad : Option Addr} {n cap : Nat} {data : List (List (BitVec 8))} (h : SliceR patBlk w (.slice ad n cap) data) (pres : List Bool) (k : Nat) : ∃ y0 y1 y2 y3 y4 y5 y6 y7, blkB pres data k = [y0, y1, y2, y3, y4, y5, y6, y7] := by
  unfold blkB
  split
  · by_cases hk : k < data.length
    · obtain ⟨b, off, y0, y1, y2, y3, y4, y5, y6, y7, _, _, hy, _⟩ := h.block k hk
      exact ⟨y0, y1, y2, y3, y4, y5, y6, y7, hy⟩
    · rw [List.getD_eq_getElem?_getD, List.getElem?_eq_none (by omega)]
      exact ⟨_, _, _, _, _, _, _, _, rfl⟩
  · exact ⟨_, _, _, _, _, _, _, _, rfl⟩
theorem thereB_in {pres : List Bool} {k : Nat} (h : k < pres.length) : thereB pres k = pres[k] := by
  unfold thereB; rw [List.getD_eq_getElem?_getD, List.getElem?_eq_getElem h]; rfl
theorem thereB_out {pres : List Bool} {k : Nat} (h : ¬ k < pres.length) : thereB pres k = false := by
  unfold thereB; rw [List.getD_eq_getElem?_getD, List.getElem?_eq_none (by omega)]; rfl
theorem getD_in {α : Type} {l : List α} {k : Nat} {d : α} (h : k < l.length) : l.getD k d = l[k] := by
  rw [List.getD_eq_getElem?_getD, List.getElem?_eq_getElem h]; rfl
theorem getD_out {α : Type} {l : List α} {k : Nat} {d : α} (h : ¬ k < l.length) : l.getD k d = d := by
  rw [List.getD_eq_getElem?_getD, List.getElem?_eq_none (by omega)]; rfl

/-- append of a literal of one element to an own row -/
theorem wpList_append_one {P : Program} {w : World} {ops : Array Oper} {rest : List Oper} {o : Oper} {a : Act} {Q : Exit → Act → World → Prop} (hgd : o.guard = none) (s x : Operand) (t : TypeId)
    (ho : o.op = .call { callee := .builtin .append, args := #[s, x], argTypes := #[t, t] })
    (base : Nat) (e : TypeId) (i : TypeInfo) (z : Value) (bytes : Nat) (ht : P.underlying t = some (.slice e)) (hi : P.info? e = some i) (hz : i.zero = some z)
    (hsize : i.size = 1) (hby : i.bytes = bytes) (hzs : z.cells.size = 1)
    (v : Value) (n : Nat) (xs : List Value) (hs : a.eval s = v) (hown : w.ownsRow base e 1 v n xs) (ad : Addr) (y : Value) (hy : y.oneCell' = true) (hx : a.eval x = .slice (some ad) 1 1) (hsrc : w.cell? ad = some y)
    (h63 : n + 1 ≤ maxLen) (hbytes : (n + 1) * bytes ≤ 140737488355328) (hbase : base ≤ w.heap.size)
    (h : ∀ v' w', w'.ownsRow base e 1 v' (n + 1) (xs ++ [y]) → w.grownBy w' v.ownBlock → (v'.ownBlock = v.ownBlock ∨ v'.ownBlock = some w.heap.size) → wpList P ops Q rest (a.put o.dst v') w') : wpList P ops Q (o :: rest) a w := by
  refine wpList_append_own_at w hgd s x t ho base e i z 1 bytes ht hi hz hsize hby hzs (by decide) v n xs hs hown ad 1 1 [y] hx rfl ?_ ?_ h63 hbytes hbase (fun v' w' h1 h2 _ h4 => h v' w' h1 h2 h4)
  · intro j u hj
    match j, hj with
    | 0, hj =>
      simp at hj
      subst hj
      exact hsrc
  · intro u hu
    simp at hu
    subst hu
    exact hy
theorem OwnT.mk {w : World} {base : Nat} {v : Value} {l : List Bool} {b : Bool} {n : Nat} (hn : n = l.length) (h : w.ownsRow base 4 1 v (n + 1) (l.map Value.bool ++ [.bool b])) : OwnT w base v (l ++ [b]) := by
  subst hn
  show World.ownsRow _ _ _ _ _ _ _
  rw [List.length_append, List.map_append]
  exact h

set_option maxHeartbeats 1000000 in
theorem pbad_any (vv vs vr vd vp : Value) (lv ls : List (BitVec 64)) (g : Int) (vers : List (BitVec 64)) (data : List (List (BitVec 8))) (pres : List Bool) (w : World) (hlv : lv.length ≤ 1000) (hls : ls.length ≤ 1000) (hlr : vers.length ≤ 1000) (hld : data.length ≤ 1000) (hlp : pres.length ≤ 1000)
    (hg : -9223372036854775808 ≤ g ∧ g ≤ 9223372036854775807) (h1 : SliceAt encU w vv lv) (h2 : SliceAt encU w vs ls) (h3 : SliceAt encU w vr vers) (h4 : SliceR patBlk w vd data) (h5 : SliceAt Value.bool w vp pres) :
    Calls Try.prog 18 #[.agg #[vv, vs], .int .i64 g, vr, vd, vp] w fun e w' => ∃ v', e = .returned v' ∧ OwnT w' w.heap.size v' (badB lv ls g vers data pres) ∧ Below w.heap.size w w' := by
  have H1 := Lib.hid h1
  have H2 := Lib.hid h2
  have H3 := Lib.hid h3
  have H4 := Lib.hid h4
  have H5 := Lib.hid h5
  obtain ⟨ad1, cap1, rfl, hc1, _⟩ := h1
  obtain ⟨ad2, cap2, rfl, hc2, _⟩ := h2
  obtain ⟨ad3, cap3, rfl, hc3, _⟩ := h3
  obtain ⟨ad4, cap4, rfl, hc4, _⟩ := h4
  obtain ⟨ad5, cap5, rfl, hc5, _⟩ := h5
  obtain ⟨i0, hi, hi0, hi1, hi2⟩ := info_parts infoT
  have hm1 : min lv.length ls.length ≤ lv.length := Nat.min_le_left _ _
  have hm2 : min lv.length ls.length ≤ ls.length := Nat.min_le_right _ _
  have hm3 : min lv.length ls.length ≤ 1000 := by omega
  have HS : Hid (badB lv ls g vers data pres = badK lv ls g vers data pres (min lv.length ls.length)) := by show _ = _; rfl
  have HCW := Lib.hid fun (x : World) (hx : Ext w x) => pieces_any _ _ lv ls x (by omega) (by omega) (H1.out.ext hx) (H2.out.ext hx)
  have HCG := Lib.hid fun (x : World) (k : Nat) (v : BitVec 64) (x0 x1 x2 x3 x4 x5 x6 x7 : BitVec 8) (hk : k ≤ 1000) (hx : Ext w x) => good_any _ _ lv ls g k v x0 x1 x2 x3 x4 x5 x6 x7 x (by omega) (by omega) hg ⟨by omega, by omega⟩ (H1.out.ext hx) (H2.out.ext hx)
  generalize hm : min lv.length ls.length = m at *
  have HM := Lib.hid hm
  clear hm hc1 hc2 hc3 hc4 hc5
  go_enter Try.func18, Try.ntmps18
  go_wp2_with fail
  have hz : w.heap.size < (w.alloc (.cells #[.slice ad1 lv.length cap1, .slice ad2 ls.length cap2] 32)).heap.size := by simp
  have hsz : (w.alloc (.cells #[.slice ad1 lv.length cap1, .slice ad2 ls.length cap2] 32)).heap.size = w.heap.size + 1 := by simp
  generalize hW : w.alloc (.cells #[.slice ad1 lv.length cap1, .slice ad2 ls.length cap2] 32) = W at *
  have c0_0 : W.cell? ⟨w.heap.size, 0, none⟩ = some (.slice ad1 lv.length cap1) := by rw [← hW]; first | exact (World.cell?_alloc_at (hn := by first | (simp; done) | (simp; omega)) ..).trans rfl | (simp; done) | (go_simp; done)
  have c0_1 : W.cell? ⟨w.heap.size, 1, none⟩ = some (.slice ad2 ls.length cap2) := by rw [← hW]; first | exact (World.cell?_alloc_at (hn := by first | (simp; done) | (simp; omega)) ..).trans rfl | (simp; done) | (go_simp; done)
  have hf0 : ∀ o, W.frozen? ⟨w.heap.size, o, none⟩ = false := fun o => by rw [← hW]; first | exact World.frozen?_alloc_at (hn := by first | (simp; done) | (simp; omega)) .. | (simp; done) | (go_simp; done)
  have hxW : Ext w W := by rw [← hW]; exact Ext.alloc _ _
  clear hW
  have HSZ := Lib.hid hsz
  clear hsz
  go_wp2_with fail
  go_at_call 30
  refine (HCW.out _ hxW).mono ?_
  rintro e w1 ⟨rfl, hb1⟩
  have hs1 := Ext.size hb1
  have hx1 : Ext w w1 := hxW.trans hb1
  have hc1 := Ext.cells hb1
  go_wp2_with fail
  go_loopw [17, 11] (fun i vo wr => ∃ k : Nat, k ≤ m ∧ i = .int .i64 k ∧ OwnT wr w1.heap.size vo (badK lv ls g vers data pres k) ∧ Below w1.heap.size w1 wr) (fun i _ _ => m - (intOf i).toNat)
  case atStart => exact ⟨0, by omega, rfl, OwnT.nil _ _, Below.refl _ _⟩
  case round =>
    obtain ⟨k, hk, rfl, ho, hx⟩ := hrel
    obtain ⟨ao, co, hvo⟩ := own_shape ho
    rw [badK_len] at hvo
    subst hvo
    have HO := Lib.hid ho
    have hsx := hx.size
    have hcx := below_cellsB hx
    have hzr : w.heap.size < wr.heap.size := by omega
    have hz1 : w.heap.size < w1.heap.size := by omega
    clear ho
    obtain ⟨y0, y1, y2, y3, y4, y5, y6, y7, hy⟩ := blk_form H4.out pres k
    have HY := Lib.hid hy
    clear hy
    rcases Nat.lt_or_ge k m with hlt | hge
    · go_upto_region 7 with fail
      go_cut [29] (fun s29 wx => s29 = .bool (thereB pres k) ∧ wx = wr.alloc (.cells #[.int .u8 0, .int .u8 0, .int .u8 0, .int .u8 0, .int .u8 0, .int .u8 0, .int .u8 0, .int .u8 0] 24))
      case first =>
        by_cases hp : k < pres.length
        · obtain ⟨b5, o5, rfl, hb5, e5⟩ := H5.out.get k hp
          have hT := thereB_in hp
          have f5 := (hx1.cell b5 _ hb5).trans e5
          have hl5 : b5 < w1.heap.size := by omega
          have hl5r : b5 < wr.heap.size := by omega
          generalize pres[k] = z at *
          have HT := Lib.hid hT
          clear e5 hT
          go_wp2_with fail
          go_meet
          exact ⟨by rw [HT.out], rfl⟩
        · have HT := Lib.hid (thereB_out hp)
          have hp' : decide (k < pres.length) = false := by rw [decide_eq_false_iff_not]; exact hp
          go_wp2_with fail
          go_meet
          exact ⟨by rw [HT.out], rfl⟩
      case rest =>
        obtain ⟨rfl, rfl⟩ := hcut
        go_upto_if 29 with fail
        go_cut [13] (fun s13 wx => s13 = encU (verB pres vers k) ∧ wx = wr.alloc (.cells #[encB y0, encB y1, encB y2, encB y3, encB y4, encB y5, encB y6, encB y7] 24))
        case first =>
          by_cases hth : thereB pres k = true
          · have HV : Hid (verB pres vers k = vers.getD k 0#64) := by show _ = _; unfold verB; rw [if_pos hth]
            have hyd := HY.out
            unfold blkB at hyd
            rw [if_pos hth] at hyd
            rw [hth]
            by_cases hv : k < vers.length
            · obtain ⟨b3, o3, rfl, hb3, e3⟩ := H3.out.get k hv
              rw [← getD_in (d := 0#64) hv, ← HV.out] at e3
              have f3 := (hx1.cell b3 _ hb3).trans e3
              have hl3 : b3 < w1.heap.size := by omega
              have hl3r : b3 < wr.heap.size := by omega
              clear e3
              by_cases hd : k < data.length
              · obtain ⟨b4, o4, z0, z1, z2, z3, z4, z5, z6, z7, rfl, hb4, hz, d0, d1, d2, d3, d4, d5, d6, d7⟩ := H4.out.block k hd
                rw [hz] at hyd
                simp only [List.cons.injEq, and_true] at hyd
                obtain ⟨rfl, rfl, rfl, rfl, rfl, rfl, rfl, rfl⟩ := hyd
                have g0 := (hx1.cell b4 _ hb4).trans d0
                have g1 := (hx1.cell b4 _ hb4).trans d1
                have g2 := (hx1.cell b4 _ hb4).trans d2
                have g3 := (hx1.cell b4 _ hb4).trans d3
                have g4 := (hx1.cell b4 _ hb4).trans d4
                have g5 := (hx1.cell b4 _ hb4).trans d5
                have g6 := (hx1.cell b4 _ hb4).trans d6
                have g7 := (hx1.cell b4 _ hb4).trans d7
                have hl4 : b4 < w1.heap.size := by omega
                have hl4r : b4 < wr.heap.size := by omega
                clear d0 d1 d2 d3 d4 d5 d6 d7 hz
                go_wp2_with fail
                go_meet
                exact ⟨rfl, rfl⟩
              · have hd' : decide (k < data.length) = false := by rw [decide_eq_false_iff_not]; exact hd
                rw [getD_out hd] at hyd
                unfold zero8 at hyd
                simp only [List.cons.injEq, and_true] at hyd
                obtain ⟨rfl, rfl, rfl, rfl, rfl, rfl, rfl, rfl⟩ := hyd
                go_wp2_with fail
                go_meet
                exact ⟨rfl, rfl⟩
            · have hv' : decide (k < vers.length) = false := by rw [decide_eq_false_iff_not]; exact hv
              have HV0 : Hid (verB pres vers k = 0#64) := by show _ = _; rw [HV.out, getD_out hv]
              by_cases hd : k < data.length
              · obtain ⟨b4, o4, z0, z1, z2, z3, z4, z5, z6, z7, rfl, hb4, hz, d0, d1, d2, d3, d4, d5, d6, d7⟩ := H4.out.block k hd
                rw [hz] at hyd
                simp only [List.cons.injEq, and_true] at hyd
                obtain ⟨rfl, rfl, rfl, rfl, rfl, rfl, rfl, rfl⟩ := hyd
                have g0 := (hx1.cell b4 _ hb4).trans d0
                have g1 := (hx1.cell b4 _ hb4).trans d1
                have g2 := (hx1.cell b4 _ hb4).trans d2
                have g3 := (hx1.cell b4 _ hb4).trans d3
                have g4 := (hx1.cell b4 _ hb4).trans d4
                have g5 := (hx1.cell b4 _ hb4).trans d5
                have g6 := (hx1.cell b4 _ hb4).trans d6
                have g7 := (hx1.cell b4 _ hb4).trans d7
                have hl4 : b4 < w1.heap.size := by omega
                have hl4r : b4 < wr.heap.size := by omega
                clear d0 d1 d2 d3 d4 d5 d6 d7 hz
                go_wp2_with fail
                go_meet
                exact ⟨by rw [HV0.out]; rfl, rfl⟩
              · have hd' : decide (k < data.length) = false := by rw [decide_eq_false_iff_not]; exact hd
                rw [getD_out hd] at hyd
                unfold zero8 at hyd
                simp only [List.cons.injEq, and_true] at hyd
                obtain ⟨rfl, rfl, rfl, rfl, rfl, rfl, rfl, rfl⟩ := hyd
                go_wp2_with fail
                go_meet
                exact ⟨by rw [HV0.out]; rfl, rfl⟩
          · have hth : thereB pres k = false := by simpa using hth
            have HV0 : Hid (verB pres vers k = 0#64) := by show _ = _; unfold verB; rw [hth]; rfl
            have hyd := HY.out
            unfold blkB at hyd
            rw [hth] at hyd
            rw [hth]
            unfold zero8 at hyd
            simp only [List.cons.injEq, and_true, Bool.false_eq_true, if_false] at hyd
            obtain ⟨rfl, rfl, rfl, rfl, rfl, rfl, rfl, rfl⟩ := hyd
            go_wp2_with fail
            go_meet
            exact ⟨by rw [HV0.out]; rfl, rfl⟩
        case rest =>
          obtain ⟨rfl, rfl⟩ := hcut
          have hbl : Ext wr (wr.alloc (.cells #[encB y0, encB y1, encB y2, encB y3, encB y4, encB y5, encB y6, encB y7] 24)) := Ext.alloc _ _
          have hcz : ∀ o, o < 8 → True := fun _ _ => trivial
          go_wp2_with fail
          generalize wr.alloc (.cells #[encB y0, encB y1, encB y2, encB y3, encB y4, encB y5, encB y6, encB y7] 24) = w2 at *
          have hbx2 : Below w1.heap.size w1 w2 := hx.trans (Below.mono hbl hsx)
          go_at_call 22
          refine (HCG.out _ k _ y0 y1 y2 y3 y4 y5 y6 y7 (by omega) (hx1.trans hbx2)).mono ?_
          rintro e w3 ⟨rfl, hb3⟩
          have hbx3 : Below w1.heap.size w1 w3 := hbx2.trans (Below.mono hb3 hbx2.size)
          have HO3 := Lib.hid ((HO.out.ext hbl).ext hb3)
          have hs3 := hbx3.size
          go_wp2_with (at_builtin; refine Classical.byContradiction (fun hN => ?_))
          refine hN ?_
          clear hN
          refine wpList_append_one rfl _ _ _ rfl w1.heap.size 4 i0 (.bool false) 1 Try.underlying36 hi hi0 hi1 hi2 rfl _ _ _ rfl (World.ownsRow.alloc HO3.out _) _ _ rfl rfl (cell_new1 _ _ _) (by rw [badK_len]; unfold maxLen; omega) (by rw [badK_len]; omega) (by simp; omega) ?_
          intro v4 w4 ho4 hg4 hat4
          have hb4 : Below w1.heap.size w1 w4 := (hbx3.alloc (by omega) _).grown hg4 (by simp; omega) (fun q hq => (World.ownsRow.lt HO3.out q hq).1)
          have HO4 := Lib.hid (OwnT.mk rfl ho4)
          have hs4 := hb4.size
          clear ho4 hg4 hat4
          go_wp2
          go_roundw
          case rel => exact ⟨k + 1, by omega, by go_num, by rw [badK_succ, HY.out]; exact HO4.out, hb4⟩
          case measure => show m - (intOf (.int .i64 ((k : Int) + 1))).toNat < m - (intOf (.int .i64 (k : Int))).toNat; unfold intOf; simp only; omega
    · have hkm : k = m := by omega
      subst hkm
      go_wp2_with fail
      go_ret
      exact ⟨_, rfl, by rw [HS.out]; exact OwnT.lower HO.out hx1.size, hx1.trans hx⟩
end Go.Proofs.Ytinnikbjphkkiaa
