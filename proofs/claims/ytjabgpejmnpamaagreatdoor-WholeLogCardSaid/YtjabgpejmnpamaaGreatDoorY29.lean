/-
  Part 29 of the proof.
-/
import Derived.Test.YtjabgpejmnpamaaGreatDoorY27
set_option linter.unusedVariables false
namespace Go.Proofs.YtjabgpejmnpamaaGreatDoor
open Go.RowKit
def tT4 (r : Lg.Rec) : List (BitVec 8) := uv r.note.length ++ (r.note ++ [])
def tT3 (r : Lg.Rec) (i : Nat) : List (BitVec 8) := (r.ms.drop i).flatMap Lg.mvL ++ tT4 r
def tT2 (r : Lg.Rec) : List (BitVec 8) := uv r.ms.length ++ tT3 r 0
def tT1 (r : Lg.Rec) (i : Nat) : List (BitVec 8) := (r.ws.drop i).flatMap Lg.pwL ++ tT2 r
theorem pay_right (r : Lg.Rec) : Lg.payR r = uv r.gen.toNat ++ (uv r.seq.toNat ++ (uv r.ws.length ++ tT1 r 0)) := by
  unfold Lg.payR tT1 tT2 tT3 tT4 Lb.numsL
  simp
theorem drop_flat {α : Type} (f : α → List (BitVec 8)) (l : List α) (i : Nat) : ((l.drop i).flatMap f).length ≤ (l.flatMap f).length := by
  have : l.flatMap f = (l.take i).flatMap f ++ (l.drop i).flatMap f := by rw [← List.flatMap_append, List.take_append_drop]
  rw [this, List.length_append]; omega
theorem tT_len {r : Lg.Rec} (F : Lg.Fine r) (B : Lg.Blk r) : (tT4 r).length ≤ 5400 ∧ (∀ i, (tT3 r i).length ≤ 5400) ∧ (tT2 r).length ≤ 5400 ∧ ∀ i, (tT1 r i).length ≤ 5400 := by
  have h := (Lg.pay_len F B).2
  have e : (Lg.payR r).length = (uv r.gen.toNat).length + ((uv r.seq.toNat).length + ((uv r.ws.length).length + ((r.ws.flatMap Lg.pwL).length + ((uv r.ms.length).length + ((r.ms.flatMap Lg.mvL).length + (tT4 r).length))))) := by
    rw [pay_right]
    unfold tT1 tT2 tT3
    simp only [List.length_append, List.drop_zero]
  refine ⟨by omega, fun i => ?_, ?_, fun i => ?_⟩
  · unfold tT3
    have := drop_flat Lg.mvL r.ms i
    rw [List.length_append]; omega
  · unfold tT2 tT3
    rw [List.length_append, List.length_append, List.drop_zero]; omega
  · unfold tT1 tT2 tT3
    have := drop_flat Lg.pwL r.ws i
    rw [List.length_append, List.length_append, List.length_append, List.drop_zero]; omega
theorem tT1_next {r : Lg.Rec} {i : Nat} (h : i < r.ws.length) : tT1 r i = uv r.ws[i].g.toNat ++ (uv r.ws[i].p.toNat ++ (uv r.ws[i].v.toNat ++ (r.ws[i].d ++ tT1 r (i + 1)))) := by
  unfold tT1
  rw [List.drop_eq_getElem_cons h, List.flatMap_cons]
  unfold Lg.pwL Lb.numsL
  simp
theorem tT3_next {r : Lg.Rec} {i : Nat} (h : i < r.ms.length) : tT3 r i = uv r.ms[i].g.toNat ++ (uv r.ms[i].p.toNat ++ (uv (zz r.ms[i].k) ++ (uv r.ms[i].b.toNat ++ tT3 r (i + 1)))) := by
  unfold tT3
  rw [List.drop_eq_getElem_cons h, List.flatMap_cons]
  unfold Lg.mvL Lb.numsL
  simp
theorem tT1_end (r : Lg.Rec) : tT1 r r.ws.length = tT2 r := by unfold tT1; rw [List.drop_length]; rfl
theorem tT3_end (r : Lg.Rec) : tT3 r r.ms.length = tT4 r := by unfold tT3; rw [List.drop_length]; rfl
abbrev pw1 (g : Nat) : Array Value := #[.int .i64 g, .int .i64 0, .int .u64 0, .int .u8 0, .int .u8 0, .int .u8 0, .int .u8 0, .int .u8 0, .int .u8 0, .int .u8 0, .int .u8 0]
abbrev pw2 (g p : Nat) : Array Value := #[.int .i64 g, .int .i64 p, .int .u64 0, .int .u8 0, .int .u8 0, .int .u8 0, .int .u8 0, .int .u8 0, .int .u8 0, .int .u8 0, .int .u8 0]
abbrev pw3 (g p v : Nat) : Array Value := #[.int .i64 g, .int .i64 p, .int .u64 v, .int .u8 0, .int .u8 0, .int .u8 0, .int .u8 0, .int .u8 0, .int .u8 0, .int .u8 0, .int .u8 0]
theorem put_blk (g p : Nat) (v : BitVec 64) (d : List (BitVec 8)) : putL (pw3 g p v.toNat) 3 (blkA d).toList = pwA ⟨g, p, v, d⟩ := by
  simp only [putL, setZa, setZ0, setZ1]
  rfl
def ParsEnd (w : World) (r : Lg.Rec) (e : Ending) (w' : World) : Prop := ∃ wv mv nv, e = .returned (.tuple #[recV r wv mv nv, .bool true]) ∧ RecOut w.heap.size w' wv mv nv r ∧ Ext w w'
set_option maxRecDepth 100000 in
set_option maxHeartbeats 2000000 in
theorem recparse_any (r : Lg.Rec) (v : Value) (w : World) (hv : Lg.validR r = true) (B8 : Lg.Blk r) (h : SliceAt encB w v (Lg.payR r)) :
    Calls Tryz.prog 90 #[v] w (ParsEnd w r) := by
  have F := Lg.fine_of hv
  have HF := Lib.hid F
  have HVA := Lib.hid hv
  have HBK := Lib.hid B8
  obtain ⟨ht4, ht3, ht2, ht1⟩ := tT_len F B8
  have HT1 := Lib.hid ht1
  have HT3 := Lib.hid ht3
  have hpl := Lg.pay_len F B8
  have hpr := pay_right r
  have hgen := r.gen.isLt
  have hseq := r.seq.isLt
  have hn1 := F.nws
  have hn2 := F.nms
  have hn3 := F.nnote
  have HPR := Lib.hid hpr
  have HA := Lib.hid h
  clear h F hv B8 ht1 ht3 hpr
  have HX0 : Hid (Ext w (w.alloc (.cells #[.int .u64 0, .int .u64 0, .slice none 0 0, .slice none 0 0, .slice none 0 0] 52))) := Ext.alloc _ _
  have HB0 : Hid (BoxAt (w.alloc (.cells #[.int .u64 0, .int .u64 0, .slice none 0 0, .slice none 0 0, .slice none 0 0] 52)) w.heap.size #[.int .u64 0, .int .u64 0, .slice none 0 0, .slice none 0 0, .slice none 0 0] 52) := BoxAt.new _ _ _
  go_enter Tryz.func90, Tryz.ntmps90
  go_upto_region 1 with fail
  generalize w.alloc (.cells #[.int .u64 0, .int .u64 0, .slice none 0 0, .slice none 0 0, .slice none 0 0] 52) = w0 at *
  go_wp2_with fail
  go_at_call 123
  refine (newK_any _ _ _ (by omega) (HA.out.ext HX0.out)).mono ?_
  rintro e w2 ⟨rb, rfl, hge, hlt2, hr2, hx2⟩
  obtain ⟨D, hD⟩ : ∃ D : Nat → Prop, (fun q => w0.heap.size ≤ q ∧ q < w2.heap.size) = D := ⟨_, rfl⟩
  have HPP : Hid (PrP w0 D rb w2.heap.size w2.heap.size) := ⟨hge, hlt2, Nat.le_refl _, fun q hq => by rw [← hD] at hq; exact hq.2⟩
  have HDL : Hid (∀ q, D q → w0.heap.size ≤ q) := fun q hq => by rw [← hD] at hq; exact hq.1
  rw [hD, HPR.out] at hr2
  have HPa : Hid (PrS w0 D rb w2.heap.size w2.heap.size (w2.alloc (.cells #[.int .u64 0, .int .u64 0, .slice none 0 0, .slice none 0 0, .slice none 0 0] 52)) (uv r.gen.toNat ++ (uv r.seq.toNat ++ (uv r.ws.length ++ tT1 r 0))) ⟨0#64, 0#64, [], [], []⟩ (.slice none 0 0) (.slice none 0 0) (.slice none 0 0)) :=
    ⟨hr2.ext (Ext.alloc _ _), BoxAt.new _ _ _, hx2.trans (Ext.alloc _ _), OwnR.nil, OwnR.nil⟩
  clear hge hr2 hx2 hD
  have hl0 := hpl.2
  rw [HPR.out] at hl0
  clear hpl
  go_wp2_with fail
  generalize w2.alloc (.cells #[.int .u64 0, .int .u64 0, .slice none 0 0, .slice none 0 0, .slice none 0 0] 52) = w3 at *
  generalize w2.heap.size = G at *
  go_at_call 124
  refine (uintK_at _ rb r.gen.toNat _ hgen (by omega) HPa.out.rd).mono ?_
  rintro e w4 ⟨rfl, hr, hg⟩
  have HPb := Lib.hid (HPa.out.after HPP.out hr hg)
  clear hr hg HPa
  go_wp2_with first | (refine wpList_store_cell 22 _ _ rfl (by rfl) rfl rfl HPb.out.box (by simp) (by kernel_rfl) rfl ?_; intro w5 hS; have HPc : Hid (PrS w0 D rb G G w5 (uv r.seq.toNat ++ (uv r.ws.length ++ tT1 r 0)) ⟨r.gen, 0#64, [], [], []⟩ (.slice none 0 0) (.slice none 0 0) (.slice none 0 0)) := HPb.out.put HPP.out hS rfl OwnR.nil OwnR.nil; clear hS HPb)
  go_at_call 124
  refine (uintK_at _ rb r.seq.toNat _ hseq (by simp only [List.length_append] at hl0 ⊢; omega) HPc.out.rd).mono ?_
  rintro e w6 ⟨rfl, hr, hg⟩
  have HPd := Lib.hid (HPc.out.after HPP.out hr hg)
  clear hr hg HPc
  go_wp2_with first | (refine wpList_store_cell 22 _ _ rfl (by rfl) rfl rfl HPd.out.box (by simp) (by kernel_rfl) rfl ?_; intro w7 hS; have HPe : Hid (PrS w0 D rb G G w7 (uv r.ws.length ++ tT1 r 0) ⟨r.gen, r.seq, [], [], []⟩ (.slice none 0 0) (.slice none 0 0) (.slice none 0 0)) := HPd.out.put HPP.out hS rfl OwnR.nil OwnR.nil; clear hS HPd)
  go_at_call 125
  refine (countK_at _ rb r.ws.length 64 _ (by decide) (by omega) (by simp only [List.length_append] at hl0 ⊢; omega) HPe.out.rd).mono ?_
  rintro e w8 ⟨rfl, hr, hg⟩
  have HPf := Lib.hid (HPe.out.after HPP.out hr hg)
  obtain ⟨n1, hn1e⟩ : ∃ n, r.ws.length = n := ⟨_, rfl⟩
  obtain ⟨n2, hn2e⟩ : ∃ n, r.ms.length = n := ⟨_, rfl⟩
  obtain ⟨n3, hn3e⟩ : ∃ n, r.note.length = n := ⟨_, rfl⟩
  have H1 := Lib.hid hn1e
  have H2 := Lib.hid hn2e
  have H3 := Lib.hid hn3e
  rw [hn1e] at hn1 ⊢
  rw [hn2e] at hn2
  rw [hn3e] at hn3
  clear hr hg HPe hl0 hn1e hn2e hn3e
  go_wp2_with fail
  go_loopw [30] (fun it wr => ∃ i : Nat, i ≤ n1 ∧ it = .int .i64 i ∧ ∃ wv, Hid (PrS w0 D rb G G wr (tT1 r i) ⟨r.gen, r.seq, r.ws.take i, [], []⟩ wv (.slice none 0 0) (.slice none 0 0))) (fun it _ => n1 - (intOf it).toNat)
  case atStart => exact ⟨0, Nat.zero_le _, rfl, .slice none 0 0, HPf⟩
  case round =>
    clear HPf
    obtain ⟨i, hi, rfl, wv, HP⟩ := hrel
    by_cases hlt : i < n1
    · have hin : (i : Int) < (n1 : Int) := by omega
      have hil : i < r.ws.length := by rw [H1.out]; exact hlt
      have hne0 : ∀ q, wv.ownBlock = some q → q < wr.heap.size := fun q hq => (HP.out.ows.lt q hq).2
      have hGlt : G < wr.heap.size := HP.out.box.lt
      obtain ⟨L, hL⟩ : ∃ L, r.ws.take i = L := ⟨_, rfl⟩
      have hLl : L.length = i := by rw [← hL, List.length_take]; omega
      have HTK := Lib.hid (List.take_succ_eq_append_getElem hil)
      rw [hL] at HP HTK
      obtain ⟨aw, cw, rfl, _⟩ := HP.out.ows.shape
      rw [hLl] at HP hne0
      clear hL
      obtain ⟨g, hge⟩ : ∃ g, wr.heap.size = g := ⟨_, rfl⟩
      have HBx0 : Hid (BoxAt (wr.alloc (.cells pwZ 94)) g pwZ 94) := by rw [← hge]; exact BoxAt.new _ _ _
      have HPx0 := Lib.hid (HP.out.more (Ext.alloc wr (.cells pwZ 94)))
      have hne1 : (Value.slice aw i cw).ownBlock ≠ some g := fun e => by have := hne0 g e; omega
      have hne2 : (Value.slice none 0 0).ownBlock ≠ some g := fun e => by cases e
      have hGg : G ≠ g := by omega
      have hBg : G ≤ g := by omega
      have hlt1 := HT1.out i
      have hwi := HF.out.ws i hil
      have h8 := HBK.out i hil
      rw [tT1_next hil] at HPx0 hlt1
      generalize r.ws[i] = x at *
      obtain ⟨gx, px, vx, dx⟩ := x
      simp only at HPx0 hlt1 hwi h8
      obtain ⟨hx1, hx2, hx3, hx4⟩ := hwi
      obtain ⟨gn, rfl⟩ := Int.eq_ofNat_of_zero_le hx1
      obtain ⟨pn, rfl⟩ := Int.eq_ofNat_of_zero_le hx3
      simp only [Int.toNat_natCast] at HPx0 hlt1
      have hvx := vx.isLt
      simp only [List.length_append] at hlt1
      have HLL := Lib.hid hLl
      clear hx1 hx3 hne0 hLl HP
      go_wp2_with fail
      generalize wr.alloc (.cells pwZ 94) = wa at *
      go_wp2_with fail
      go_at_call 125
      refine (countK_at _ rb gn 4096 _ (by decide) (by omega) (by simp only [List.length_append]; omega) HPx0.out.rd).mono ?_
      rintro e wb ⟨rfl, hr, hg⟩
      have HPx1 := Lib.hid (HPx0.out.after HPP.out hr hg)
      have HBx1 := Lib.hid (HBx0.out.grown hg (fun e => by have := Option.some.inj e; omega))
      clear hr hg HPx0 HBx0
      go_wp2_with first | (refine wpList_store_cell 3 _ _ rfl (by rfl) rfl rfl HBx1.out (by simp) (by kernel_rfl) rfl ?_; intro wc hS; have HPx2 := Lib.hid (HPx1.out.off HPP.out hS.grown hBg hGg hne1 hne2); have HBx2 : Hid (BoxAt wc g (pw1 gn) 94) := hS.box; clear hS HPx1 HBx1)
      go_wp2_with fail
      go_at_call 125
      refine (countK_at _ rb pn 16 _ (by decide) (by omega) (by simp only [List.length_append]; omega) HPx2.out.rd).mono ?_
      rintro e wd ⟨rfl, hr, hg⟩
      have HPx3 := Lib.hid (HPx2.out.after HPP.out hr hg)
      have HBx3 := Lib.hid (HBx2.out.grown hg (fun e => by have := Option.some.inj e; omega))
      clear hr hg HPx2 HBx2
      go_wp2_with first | (refine wpList_store_cell 3 _ _ rfl (by rfl) rfl rfl HBx3.out (by simp) (by kernel_rfl) rfl ?_; intro we hS; have HPx4 := Lib.hid (HPx3.out.off HPP.out hS.grown hBg hGg hne1 hne2); have HBx4 : Hid (BoxAt we g (pw2 gn pn) 94) := hS.box; clear hS HPx3 HBx3)
      go_wp2_with fail
      go_at_call 124
      refine (uintK_at _ rb vx.toNat _ hvx (by simp only [List.length_append]; omega) HPx4.out.rd).mono ?_
      rintro e wf ⟨rfl, hr, hg⟩
      have HPx5 := Lib.hid (HPx4.out.after HPP.out hr hg)
      have HBx5 := Lib.hid (HBx4.out.grown hg (fun e => by have := Option.some.inj e; omega))
      clear hr hg HPx4 HBx4
      go_wp2_with first | (refine wpList_store_cell 22 _ _ rfl (by rfl) rfl rfl HBx5.out (by simp) (by kernel_rfl) rfl ?_; intro wg hS; have HPx6 := Lib.hid (HPx5.out.off HPP.out hS.grown hBg hGg hne1 hne2); have HBx6 : Hid (BoxAt wg g (pw3 gn pn vx.toNat) 94) := hS.box; clear hS HPx5 HBx5)
      go_wp2_with fail
      go_at_call 138
      refine (blockK_at _ rb dx _ h8 (by simp only [List.length_append]; omega) HPx6.out.rd).mono ?_
      rintro e wh ⟨rfl, hr, hg⟩
      have HPx7 := Lib.hid (HPx6.out.after HPP.out hr hg)
      have HBx7 := Lib.hid (HBx6.out.grown hg (fun e => by have := Option.some.inj e; omega))
      clear hr hg HPx6 HBx6
      go_wp2_with first | (refine wpList_store_part 76 _ _ rfl (by rfl) rfl rfl HBx7.out (by simp) (by kernel_rfl) (by simp [Value.oneCell']) ?_; intro wi hS; have HPx8 := Lib.hid (HPx7.out.off HPP.out hS.grown hBg hGg hne1 hne2); have HBx8 : Hid (BoxAt wi g (pwA ⟨gn, pn, vx, dx⟩) 94) := (put_blk gn pn vx dx) ▸ hS.box; clear hS HPx7 HBx7; have kk := HPx8.out.box.cell 2 (v := .slice aw i cw) rfl; have kl := HPx8.out.box.lt) | (refine wpList_loadR 94 _ rfl (by rfl) rfl (pw_load (x := ⟨gn, pn, vx, dx⟩) (box_range HBx8.out)) ?_) | (at_builtin; refine Classical.byContradiction (fun hN => ?_))
      refine hN ?_
      clear hN
      have HPx9 := Lib.hid (HPx8.out.more (Ext.alloc wi (.cells (pwA ⟨gn, pn, vx, dx⟩) 94)))
      refine wpList_append_ownR infoPw rfl pwrC_len (by decide) Tryz.underlying49 rfl _ _ rfl G (.slice aw i cw) L [⟨gn, pn, vx, dx⟩] rfl HPx9.out.ows rfl rfl (one_src rfl) (by simp [pwrC, Value.oneCell']) (by rw [HLL.out]; omega) (by decide) (Nat.le_of_lt HPx9.out.box.lt) ?_
      intro v' w' ho hg' _
      obtain ⟨hr', hb', he', hm'⟩ := HPx9.out.appW HPP.out ho hg'
      generalize L ++ [⟨gn, pn, vx, dx⟩] = M at *
      obtain ⟨av, cv, rfl, _⟩ := ho.shape
      obtain ⟨nl, hnl⟩ : ∃ nl, M.length = nl := ⟨_, rfl⟩
      rw [hnl] at ho ⊢
      have HO := Lib.hid ho
      have HR' := Lib.hid hr'
      have HBB := Lib.hid hb'
      have HEE := Lib.hid he'
      have HMM := Lib.hid hm'
      clear ho hr' hb' he' hm' hg' hnl kk kl
      go_wp2_with first | (refine wpList_store_cell 49 _ _ rfl (by rfl) rfl rfl HBB.out (by simp) (by kernel_rfl) rfl ?_; intro wz hS; have HPn : Hid (PrS w0 D rb G G wz (tT1 r (i + 1)) ⟨r.gen, r.seq, M, [], []⟩ (.slice av nl cv) (.slice none 0 0) (.slice none 0 0)) := PrS.make HPP.out HR'.out HBB.out HEE.out hS rfl HO.out HMM.out; clear hS)
      go_roundw
      case rel => exact ⟨i + 1, by omega, by go_num, _, by rw [HTK.out]; exact HPn⟩
      case measure => simp [intOf]; omega
    · have hin : i = n1 := by omega
      subst hin
      have hin2 : ¬ ((i : Int) < (i : Int)) := by omega
      rw [← H1.out, List.take_length, tT1_end] at HP
      have HPg : Hid (PrS w0 D rb G G wr (uv r.ms.length ++ tT3 r 0) ⟨r.gen, r.seq, r.ws, [], []⟩ wv (.slice none 0 0) (.slice none 0 0)) := HP.out
      have hl2 : (uv r.ms.length ++ tT3 r 0).length ≤ 5400 := ht2
      have hn2' : r.ms.length ≤ 64 := by rw [H2.out]; exact hn2
      clear HP
      go_wp2_with fail
      go_at_call 125
      refine (countK_at _ rb r.ms.length 64 _ (by decide) (by omega) (by omega) HPg.out.rd).mono ?_
      rintro e wk ⟨rfl, hr, hg⟩
      have HPh := Lib.hid (HPg.out.after HPP.out hr hg)
      rw [H2.out]
      clear hr hg HPg hl2 hn2'
      go_wp2_with fail
      generalize wr = wo at *
      go_loopw [69] (fun it wr => ∃ j : Nat, j ≤ n2 ∧ it = .int .i64 j ∧ ∃ mv, Hid (PrS w0 D rb G G wr (tT3 r j) ⟨r.gen, r.seq, r.ws, r.ms.take j, []⟩ wv mv (.slice none 0 0))) (fun it _ => n2 - (intOf it).toNat)
      case atStart => exact ⟨0, Nat.zero_le _, rfl, .slice none 0 0, HPh⟩
      case round =>
        clear HPh
        obtain ⟨j, hj, rfl, mv, HP⟩ := hrel
        by_cases hlt : j < n2
        · have hin : (j : Int) < (n2 : Int) := by omega
          have hil : j < r.ms.length := by rw [H2.out]; exact hlt
          have hne0 : ∀ q, mv.ownBlock = some q → q < wr.heap.size := fun q hq => (HP.out.oms.lt q hq).2
          have hne0w : ∀ q, wv.ownBlock = some q → q < wr.heap.size := fun q hq => (HP.out.ows.lt q hq).2
          have hGlt : G < wr.heap.size := HP.out.box.lt
          obtain ⟨L, hL⟩ : ∃ L, r.ms.take j = L := ⟨_, rfl⟩
          have hLl : L.length = j := by rw [← hL, List.length_take]; omega
          have HTK := Lib.hid (List.take_succ_eq_append_getElem hil)
          rw [hL] at HP HTK
          obtain ⟨aw, cw, rfl, _⟩ := HP.out.oms.shape
          rw [hLl] at HP hne0
          clear hL
          obtain ⟨g, hge⟩ : ∃ g, wr.heap.size = g := ⟨_, rfl⟩
          have HBx0 : Hid (BoxAt (wr.alloc (.cells mvZ 98)) g mvZ 98) := by rw [← hge]; exact BoxAt.new _ _ _
          have HPx0 := Lib.hid (HP.out.more (Ext.alloc wr (.cells mvZ 98)))
          have hne1 : wv.ownBlock ≠ some g := fun e => by have := hne0w g e; omega
          have hne2 : (Value.slice aw j cw).ownBlock ≠ some g := fun e => by have := hne0 g e; omega
          have hGg : G ≠ g := by omega
          have hBg : G ≤ g := by omega
          have hlt1 := HT3.out j
          have hwi := HF.out.ms j hil
          rw [tT3_next hil] at HPx0 hlt1
          generalize r.ms[j] = x at *
          obtain ⟨gx, px, kx, bx⟩ := x
          simp only at HPx0 hlt1 hwi
          obtain ⟨hx1, hx2, hx3, hx4, hx5, hx6, hx7, hx8⟩ := hwi
          obtain ⟨gn, rfl⟩ := Int.eq_ofNat_of_zero_le hx1
          obtain ⟨pn, rfl⟩ := Int.eq_ofNat_of_zero_le hx3
          obtain ⟨bn, rfl⟩ := Int.eq_ofNat_of_zero_le hx7
          simp only [Int.toNat_natCast] at HPx0 hlt1
          simp only [List.length_append] at hlt1
          have HLL := Lib.hid hLl
          clear hx1 hx3 hx7 hne0 hne0w hLl HP
          go_wp2_with fail
          generalize wr.alloc (.cells mvZ 98) = wa at *
          go_wp2_with fail
          go_at_call 125
          refine (countK_at _ rb gn 4096 _ (by decide) (by omega) (by simp only [List.length_append]; omega) HPx0.out.rd).mono ?_
          rintro e wb ⟨rfl, hr, hg⟩
          have HPx1 := Lib.hid (HPx0.out.after HPP.out hr hg)
          have HBx1 := Lib.hid (HBx0.out.grown hg (fun e => by have := Option.some.inj e; omega))
          clear hr hg HPx0 HBx0
          go_wp2_with first | (refine wpList_store_cell 3 _ _ rfl (by rfl) rfl rfl HBx1.out (by simp) (by kernel_rfl) rfl ?_; intro wc hS; have HPx2 := Lib.hid (HPx1.out.off HPP.out hS.grown hBg hGg hne1 hne2); have HBx2 : Hid (BoxAt wc g (mvA ⟨gn, 0, 0, 0⟩) 98) := hS.box; clear hS HPx1 HBx1)
          go_wp2_with fail
          go_at_call 125
          refine (countK_at _ rb pn 16 _ (by decide) (by omega) (by simp only [List.length_append]; omega) HPx2.out.rd).mono ?_
          rintro e wd ⟨rfl, hr, hg⟩
          have HPx3 := Lib.hid (HPx2.out.after HPP.out hr hg)
          have HBx3 := Lib.hid (HBx2.out.grown hg (fun e => by have := Option.some.inj e; omega))
          clear hr hg HPx2 HBx2
          go_wp2_with first | (refine wpList_store_cell 3 _ _ rfl (by rfl) rfl rfl HBx3.out (by simp) (by kernel_rfl) rfl ?_; intro we hS; have HPx4 := Lib.hid (HPx3.out.off HPP.out hS.grown hBg hGg hne1 hne2); have HBx4 : Hid (BoxAt we g (mvA ⟨gn, pn, 0, 0⟩) 98) := hS.box; clear hS HPx3 HBx3)
          go_wp2_with fail
          go_at_call 139
          refine (intK_at _ rb kx _ (by omega) (by omega) (by simp only [List.length_append]; omega) HPx4.out.rd).mono ?_
          rintro e wf ⟨rfl, hr, hg⟩
          have HPx5 := Lib.hid (HPx4.out.after HPP.out hr hg)
          have HBx5 := Lib.hid (HBx4.out.grown hg (fun e => by have := Option.some.inj e; omega))
          clear hr hg HPx4 HBx4
          go_wp2_with first | (refine wpList_store_cell 3 _ _ rfl (by rfl) rfl rfl HBx5.out (by simp) (by kernel_rfl) rfl ?_; intro wg hS; have HPx6 := Lib.hid (HPx5.out.off HPP.out hS.grown hBg hGg hne1 hne2); have HBx6 : Hid (BoxAt wg g (mvA ⟨gn, pn, kx, 0⟩) 98) := hS.box; clear hS HPx5 HBx5)
          go_wp2_with fail
          go_at_call 125
          refine (countK_at _ rb bn 65536 _ (by decide) (by omega) (by simp only [List.length_append]; omega) HPx6.out.rd).mono ?_
          rintro e wh ⟨rfl, hr, hg⟩
          have HPx7 := Lib.hid (HPx6.out.after HPP.out hr hg)
          have HBx7 := Lib.hid (HBx6.out.grown hg (fun e => by have := Option.some.inj e; omega))
          clear hr hg HPx6 HBx6
          go_wp2_with first | (refine wpList_store_cell 3 _ _ rfl (by rfl) rfl rfl HBx7.out (by simp) (by kernel_rfl) rfl ?_; intro wi hS; have HPx8 := Lib.hid (HPx7.out.off HPP.out hS.grown hBg hGg hne1 hne2); have HBx8 : Hid (BoxAt wi g (mvA ⟨gn, pn, kx, bn⟩) 98) := hS.box; clear hS HPx7 HBx7; have kk := HPx8.out.box.cell 3 (v := .slice aw j cw) rfl; have kl := HPx8.out.box.lt) | (refine wpList_loadR 98 _ rfl (by rfl) rfl (mv_load (x := ⟨gn, pn, kx, bn⟩) (box_range HBx8.out)) ?_) | (at_builtin; refine Classical.byContradiction (fun hN => ?_))
          refine hN ?_
          clear hN
          have HPx9 := Lib.hid (HPx8.out.more (Ext.alloc wi (.cells (mvA ⟨gn, pn, kx, bn⟩) 98)))
          refine wpList_append_ownR infoMv rfl mvrC_len (by decide) Tryz.underlying50 rfl _ _ rfl G (.slice aw j cw) L [⟨gn, pn, kx, bn⟩] rfl HPx9.out.oms rfl rfl (one_src rfl) (by simp [mvrC, Value.oneCell']) (by rw [HLL.out]; omega) (by decide) (Nat.le_of_lt HPx9.out.box.lt) ?_
          intro v' w' ho hg' _
          obtain ⟨hr', hb', he', hm'⟩ := HPx9.out.appM HPP.out ho hg'
          generalize L ++ [⟨gn, pn, kx, bn⟩] = M at *
          obtain ⟨av, cv, rfl, _⟩ := ho.shape
          obtain ⟨nl, hnl⟩ : ∃ nl, M.length = nl := ⟨_, rfl⟩
          rw [hnl] at ho ⊢
          have HO := Lib.hid ho
          have HR' := Lib.hid hr'
          have HBB := Lib.hid hb'
          have HEE := Lib.hid he'
          have HMM := Lib.hid hm'
          clear ho hr' hb' he' hm' hg' hnl kk kl
          go_wp2_with first | (refine wpList_store_cell 50 _ _ rfl (by rfl) rfl rfl HBB.out (by simp) (by kernel_rfl) rfl ?_; intro wz hS; have HPn : Hid (PrS w0 D rb G G wz (tT3 r (j + 1)) ⟨r.gen, r.seq, r.ws, M, []⟩ wv (.slice av nl cv) (.slice none 0 0)) := PrS.make HPP.out HR'.out HBB.out HEE.out hS rfl HMM.out HO.out; clear hS)
          go_roundw
          case rel => exact ⟨j + 1, by omega, by go_num, _, by rw [HTK.out]; exact HPn⟩
          case measure => simp [intOf]; omega
        · have hin : j = n2 := by omega
          subst hin
          have hin2 : ¬ ((j : Int) < (j : Int)) := by omega
          rw [← H2.out, List.take_length, tT3_end] at HP
          have HPg : Hid (PrS w0 D rb G G wr (uv r.note.length ++ (r.note ++ [])) ⟨r.gen, r.seq, r.ws, r.ms, []⟩ wv mv (.slice none 0 0)) := HP.out
          have hl2 : (uv r.note.length ++ (r.note ++ [])).length ≤ 5400 := ht4
          clear HP
          go_wp2_with fail
          go_at_call 126
          refine (bytesK_at _ rb r.note [] (by rw [H3.out]; omega) (by omega) HPg.out.rd).mono ?_
          rintro e wk ⟨nv, hsn, hfn, rfl, hr, hg⟩
          have HPh := Lib.hid (HPg.out.after HPP.out hr hg)
          have HSN := Lib.hid hsn
          have HFN := Lib.hid hfn
          obtain ⟨an, cn, rfl⟩ := hsn.shape
          obtain ⟨nn, hnn⟩ : ∃ nn, r.note.length = nn := ⟨_, rfl⟩
          rw [hnn] at HSN HFN ⊢
          clear hr hg HPg hl2 hsn hfn hnn
          obtain ⟨aw, cw, rfl, _⟩ := HPh.out.ows.shape
          obtain ⟨am, cm, rfl, _⟩ := HPh.out.oms.shape
          go_wp2_with first | (refine wpList_store_cell 47 _ _ rfl (by rfl) rfl rfl HPh.out.box (by simp) (by kernel_rfl) rfl ?_; intro wz hS; have HPn : Hid (PrS w0 D rb G G wz [] r (.slice aw r.ws.length cw) (.slice am r.ms.length cm) (.slice an nn cn)) := PrS.make HPP.out HPh.out.rd HPh.out.box HPh.out.ext hS rfl HPh.out.ows HPh.out.oms; have HSM := Lib.hid (HSN.out.turn (nb_box HPh.out.box (by simp [isB8])) hS.grown); clear hS HPh HSN)
          have hrl0 : w.heap.size < w0.heap.size := HB0.out.lt
          have hgz : G ≠ w.heap.size := by have := HPP.out.r0; have := HPP.out.rB; omega
          have HB0z := Lib.hid (HB0.out.ext HPn.out.ext)
          have HLD : Hid (∀ w', wz.grownBy w' (some w.heap.size) → (Instr.loadAt 52 (.pointer (some ⟨G, 0, none⟩))).run Tryz.prog w' = .ok (recV r (.slice aw r.ws.length cw) (.slice am r.ms.length cm) (.slice an nn cn)) w') := fun w' hS => rec_load (r := r) (box_range (HPn.out.box.grown hS (fun e => hgz (Option.some.inj e))))
          have hpw : ∀ i (h1 : i < r.ws.length) (h2 : i < r.ws.length), PatW.holds wz (pwrC r.ws[i]) r.ws[i] := fun i _ h2 => ⟨rfl, HBK.out i h2⟩
          have HIN : Hid (RecIn wz (.slice aw r.ws.length cw) (.slice am r.ms.length cm) (.slice an nn cn) r) := ⟨HPn.out.ows.toR pwrC_len rfl rfl hpw, HPn.out.oms.toR mvrC_len rfl rfl (fun i _ _ => rfl), HSM.out⟩
          clear hpw
          refine wp_region_fix (fun w' => wz.grownBy w' (some w.heap.size)) [(0, true), (1, true), (2, false), (3, true), (4, true), (5, true), (6, false), (7, true), (8, false), (9, true)] (by kernel_rfl) (by kernel_rfl) ?_ ?_
          · exact grown_drew (grown_refl _ _)
          refine fix_load 52 rfl (by rfl) rfl (by rfl) (fun w' hS => HLD.out w' hS) ?_; simp only [Act.put, setZa, setZ0, setZ1]
          ((first
           | refine fix_move rfl rfl (by rfl) (by rfl) ?_
           | (apply fix_take rfl (by rfl)
              · intro w' hSc
                go_simp
                (try simp (disch := omega) only [i64_id, u64_id, ↓IntWalk.iteOmega, Int.tdiv_eq_ediv_of_nonneg, Int.tmod_eq_emod_of_nonneg])
                try rfl)
           | refine fix_pass rfl (by rfl) ?_); simp only [Act.put, setZa, setZ0, setZ1])
          (refine fix_do rfl (by rfl) (fun K hK => ?_)
           go_simp
           go_at_call 127
           refine (doneK_at _ _ (HPn.out.rd.ext (Ext.drew _))).mono ?_
           rintro e w' ⟨rfl, rfl⟩
           refine hK _ _ (by first | (with_reducible exact grown_refl _ _) | (with_reducible exact grown_drew (grown_refl _ _))) ?_
           clear hK K
           (try simp only [Act.put, setZa, setZ0, setZ1]))
          iterate 2 ((first
           | refine fix_move rfl rfl (by rfl) (by rfl) ?_
           | (apply fix_take rfl (by rfl)
              · intro w' hSc
                go_simp
                (try simp (disch := omega) only [i64_id, u64_id, ↓IntWalk.iteOmega, Int.tdiv_eq_ediv_of_nonneg, Int.tmod_eq_emod_of_nonneg])
                try rfl)
           | refine fix_pass rfl (by rfl) ?_); simp only [Act.put, setZa, setZ0, setZ1])
          refine fix_load 52 rfl (by rfl) rfl (by rfl) (fun w' hS => HLD.out w' hS) ?_; simp only [Act.put, setZa, setZ0, setZ1]
          (refine fix_do rfl (by rfl) (fun K hK => ?_)
           go_simp
           go_at_call 84
           refine (recvalid_any r _ _ _ _ (HIN.out.ext (Ext.drew _))).mono ?_
           rintro e w12 ⟨rfl, hx12⟩
           rw [HVA.out]
           have HX12 : Hid (Ext wz w12) := (Ext.drew _).trans hx12
           refine hK _ _ (grown_ext HX12.out _) ?_
           clear hK K hx12
           (try simp only [Act.put, setZa, setZ0, setZ1]))
          ((first
           | refine fix_move rfl rfl (by rfl) (by rfl) ?_
           | (apply fix_take rfl (by rfl)
              · intro w' hSc
                go_simp
                (try simp (disch := omega) only [i64_id, u64_id, ↓IntWalk.iteOmega, Int.tdiv_eq_ediv_of_nonneg, Int.tmod_eq_emod_of_nonneg])
                try rfl)
           | refine fix_pass rfl (by rfl) ?_); simp only [Act.put, setZa, setZ0, setZ1])
          (refine fix_do rfl (by rfl) (fun K hK => ?_)
           refine wp_of_list rfl ?_
           refine wpList_store_box 52 _ _ rfl (by rfl) rfl rfl (HB0z.out.ext HX12.out) rfl (by kernel_rfl) (by simp [Value.oneCell']) ?_
           intro w13 hS13
           have HS13 := Lib.hid hS13
           refine hK _ _ (grown_trans (grown_ext HX12.out _) hS13.grown) ?_
           clear hK K hS13
           (try simp only [Act.put]))
          ((first
           | refine fix_move rfl rfl (by rfl) (by rfl) ?_
           | (apply fix_take rfl (by rfl)
              · intro w' hSc
                go_simp
                (try simp (disch := omega) only [i64_id, u64_id, ↓IntWalk.iteOmega, Int.tdiv_eq_ediv_of_nonneg, Int.tmod_eq_emod_of_nonneg])
                try rfl)
           | refine fix_pass rfl (by rfl) ?_); simp only [Act.put, setZa, setZ0, setZ1])
          refine fix_nil ?_
          go_wp2_with fail
          have hB0 : ∀ {v : Value}, (∀ q, v.ownBlock = some q → G ≤ q ∧ q < wz.heap.size) → FreshV w.heap.size wz.heap.size v := fun hl q hq => by
            have := hl q hq
            have := HPP.out.r0
            have := HPP.out.rB
            exact ⟨by omega, by omega⟩
          have hn1' : ∀ {v : Value}, (∀ q, v.ownBlock = some q → G ≤ q ∧ q < wz.heap.size) → ∀ q, v.ownBlock = some q → some w.heap.size ≠ some q := fun hl q hq e => by
            have := hl q hq
            have := HPP.out.r0
            have := HPP.out.rB
            have := Option.some.inj e
            omega
          have hnD : ∀ q, (Value.slice an nn cn).ownBlock = some q → w0.heap.size ≤ q ∧ q < wz.heap.size := fun q hq => by
            have h1 := HFN.out q hq
            have h2 := HDL.out q h1
            have h3 := HPP.out.dB q h1
            have h4 := HPn.out.box.lt
            exact ⟨h2, by omega⟩
          have hsz := (HX12.out.size)
          have hsz2 := HS13.out.grown.size
          refine bodyPost_ret (results_cell_tmp1 rfl _ _ rfl (box_result HS13.out.box Tryz.underlying52 rfl (by kernel_rfl))) rfl ⟨_, _, _, rfl, ⟨?_, ?_, ?_, ?_⟩, ?_⟩
          · exact (HIN.out.ext HX12.out).grown HS13.out.grown (hn1' HPn.out.ows.lt) (hn1' HPn.out.oms.lt) (fun q hq e => by have := hnD q hq; have := Option.some.inj e; omega)
          · exact fun q hq => ⟨(hB0 HPn.out.ows.lt q hq).1, by have := (hB0 HPn.out.ows.lt q hq).2; omega⟩
          · exact fun q hq => ⟨(hB0 HPn.out.oms.lt q hq).1, by have := (hB0 HPn.out.oms.lt q hq).2; omega⟩
          · exact fun q hq => ⟨by have := (hnD q hq).1; omega, by have := (hnD q hq).2; omega⟩
          · exact HS13.out.bel ((HX0.out.trans HPn.out.ext).trans HX12.out) (Nat.le_refl _)
end Go.Proofs.YtjabgpejmnpamaaGreatDoor
