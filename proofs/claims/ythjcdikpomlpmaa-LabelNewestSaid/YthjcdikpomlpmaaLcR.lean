/-
  Chapter 30 (label): the reference's read.
-/
import Derived.Test.YthjcdikpomlpmaaLcH
namespace Go.Proofs.Ythjcdikpomlpmaa
open Go.ChangeShapes Go.WideShapes Go.ChangeAt Go.RowKit
set_option linter.unusedVariables false

def arrN (ms : List Int) : Array Value := #[.int .i64 (ms.getD 0 0), .int .i64 (ms.getD 1 0), .int .i64 (ms.getD 2 0), .int .i64 (ms.getD 3 0), .int .i64 (ms.getD 4 0), .int .i64 (ms.getD 5 0), .int .i64 (ms.getD 6 0), .int .i64 (ms.getD 7 0), .int .i64 (ms.getD 8 0), .int .i64 (ms.getD 9 0), .int .i64 (ms.getD 10 0)]
theorem arr_snoc (ns : List Int) (n : Int) (i : Nat) (h : ns.length = i) (hi : i < 11) : (arrN ns).setIfInBounds i (.int .i64 n) = arrN (ns ++ [n]) := by
  subst h
  rcases ns with _ | ⟨x0, _ | ⟨x1, _ | ⟨x2, _ | ⟨x3, _ | ⟨x4, _ | ⟨x5, _ | ⟨x6, _ | ⟨x7, _ | ⟨x8, _ | ⟨x9, _ | ⟨x10, rest⟩⟩⟩⟩⟩⟩⟩⟩⟩⟩⟩
  all_goals first | rfl | (simp only [List.length_cons] at hi; omega)
theorem arr_get (ms : List Int) (i : Nat) (h : i < 11) : (arrN ms)[i]? = some (.int .i64 (ms.getD i 0)) := by
  match i, h with
  | 0, _ => rfl
  | 1, _ => rfl
  | 2, _ => rfl
  | 3, _ => rfl
  | 4, _ => rfl
  | 5, _ => rfl
  | 6, _ => rfl
  | 7, _ => rfl
  | 8, _ => rfl
  | 9, _ => rfl
  | 10, _ => rfl
theorem arr_nb {w : World} {g : Nat} {ms : List Int} {t : TypeId} (h : BoxAt w g (arrN ms) t) : ∀ j (c : BitVec 8), w.cell? ⟨g, j, none⟩ ≠ some (encB c) := by
  intro j c hc
  unfold World.cell? at hc
  simp only [show w.heap[g]? = _ from h, Option.isSome_none, Bool.false_eq_true, if_false] at hc
  have hm : encB c ∈ (arrN ms) := by
    have : (arrN ms)[j]? = some (encB c) := by simpa using hc
    exact Array.mem_of_getElem? this
  simp only [arrN, List.mem_toArray, List.mem_cons, List.not_mem_nil, or_false] at hm
  rcases hm with h | h | h | h | h | h | h | h | h | h | h
  all_goals cases h
theorem PS.other {W w : World} {rb g na : Nat} {s : Lb.St} {l : Lab} {d : Value} {ms : List Int} {t : TypeId} (h : PS W w rb g s l d) (hb : BoxAt w na (arrN ms) t) (hge : W.heap.size ≤ na) (h1 : rb ≠ na) (h2 : g ≠ na) (i : Nat) (x : Value) : PS W (w.setCell ⟨na, i, none⟩ x) rb g s l d :=
  ⟨⟨h.rds.ext.grown (grown_set _ _ _ _) h.rds.ext.size (fun q hq => by cases hq; exact hge), h.rds.ge, h.rds.rd.turn (arr_nb hb) (grown_set _ _ _ _) h1⟩, h.box.set_off h2 _ _, h.ge, h.ne, h.dn⟩
set_option maxHeartbeats 1000000 in
/-- a Config is stored in the box of a label -/
theorem wpList_store_cfg4 {ops : Array Oper} {rest : List Oper} {o : Oper} {a : Act} {w : World} {Q : Exit → Act → World → Prop} (x y : Operand) (ho : o.op = .store 26 x y)
    (hw : Region.wanted o (yielded ops a.tmps) = true) {g : Nat} {t : TypeId} {A : BitVec 64} {D : Int} {G P : BitVec 64} {c0 : Cfg} {z : Int} {su r : BitVec 64} {c : Cfg} {d : Value} (hx : a.eval x = .pointer (some ⟨g, 4, none⟩)) (hy : a.eval y = cfgV c) (hb : BoxAt w g (labA ⟨A, D, G, P, c0, z, su, r⟩ d) t)
    (h : ∀ w', w.grownBy w' (some g) → BoxAt w' g (labA ⟨A, D, G, P, c, z, su, r⟩ d) t → wpList Try.prog ops Q rest (a.put o.dst undef) w') : wpList Try.prog ops Q (o :: rest) a w := by
  refine wpList_step fun K hK => ?_
  rw [if_pos hw]
  have hrun := run_storeAt_mid (P := Try.prog) w g 4 26 #[.int .i64 c.d, .int .i64 c.w, .int .i64 c.t, .int .i64 c.s, .int .i64 c.r, .int .i64 c.b, .int .i64 c.k, .int .i64 c.c, .int .i64 c.o, .int .i64 c.a, .int .i64 c.g] (fun j hj => ⟨by
    have h11 : j < 11 := hj
    obtain ⟨v, hv⟩ : ∃ v, (labA ⟨A, D, G, P, c0, z, su, r⟩ d)[4 + j]? = some v := ⟨_, Array.getElem?_eq_getElem (show 4 + j < 19 by omega)⟩
    rw [hb.cell (4 + j) hv]; rfl, hb.free _⟩) info_cfg (by simp [Value.oneCell'])
  unfold Oper.wp execOp
  simp only [ho, hx, hy, Sem.run_bind, Sem.run_pure, Result.andThen_ok, hrun]
  refine hK _ _ (h _ (grown_setCells _ _ _ _) ?_)
  have h1 := ((((((((((hb.set 4 (.int .i64 c.d)).set 5 (.int .i64 c.w)).set 6 (.int .i64 c.t)).set 7 (.int .i64 c.s)).set 8 (.int .i64 c.r)).set 9 (.int .i64 c.b)).set 10 (.int .i64 c.k)).set 11 (.int .i64 c.c)).set 12 (.int .i64 c.o)).set 13 (.int .i64 c.a)).set 14 (.int .i64 c.g)
  simp only [labA, List.setIfInBounds_toArray, List.set_cons_zero, List.set_cons_succ] at h1
  simp only [World.setCells]
  exact h1
theorem bit_tmod (x : BitVec 8) (m : Nat) : ((ub x / (2 : Int) ^ m).tmod 2 == 1) = x.getLsbD m := by
  rw [Int.tmod_eq_emod_of_nonneg (by rw [shr_ub]; exact (ub_bound _).1)]
  exact bit_mod x m
theorem stI_len (s : Lb.St) : (Lb.stI s).2.2.length ≤ s.2.length := stU_len s
theorem stI_of {s s' : Lb.St} {x : BitVec 64} {n : Int} (h : Lb.stU s = (x, s')) (hn : Lb.int64 x = n) : Lb.stI s = (n, s') := by unfold Lb.stI; rw [h, hn]
theorem conv_i (x : BitVec 64) {n : Int} (h : Lb.int64 x = n) : IntKind.i64.wrap (un x) = n := h
theorem conv_w (x : BitVec 64) {n : Int} (h : Lb.int64 x = n) : _root_.Go.RowKit.wrap64 (un x) = n := by
  rw [← h]
  unfold Lb.int64
  rw [i64_wrap]
  unfold _root_.Go.RowKit.wrap64
  omega

set_option maxRecDepth 100000 in
set_option maxHeartbeats 4000000 in
theorem rread_any (v : Value) (p : List (BitVec 8)) (w : World) (hl : p.length ≤ 12000) (h : SliceAt encB w v p) :
    Calls Try.prog 46 #[v] w (ParseEnd w (Lb.readT p)) := by
  obtain ⟨i0, hI, hI0, hI1, hI2⟩ := info_parts infoBo
  obtain ⟨A, s1, h1⟩ : ∃ A s1, Lb.stU (false, p) = (A, s1) := ⟨_, _, rfl⟩
  obtain ⟨xd, s2, hu2⟩ : ∃ x s2, Lb.stU s1 = (x, s2) := ⟨_, _, rfl⟩
  obtain ⟨D, hD⟩ : ∃ D, Lb.int64 xd = D := ⟨_, rfl⟩
  have h2 := stI_of hu2 hD
  obtain ⟨G, s3, h3⟩ : ∃ G s3, Lb.stU s2 = (G, s3) := ⟨_, _, rfl⟩
  obtain ⟨P, s4, h4⟩ : ∃ P s4, Lb.stU s3 = (P, s4) := ⟨_, _, rfl⟩
  obtain ⟨ns, s5, h5⟩ : ∃ ns s5, Lb.stN Lb.stI 11 s4 = (ns, s5) := ⟨_, _, rfl⟩
  obtain ⟨B, s6, h6⟩ : ∃ B s6, Lb.stB s5 = (B, s6) := ⟨_, _, rfl⟩
  obtain ⟨xz, s7, hu7⟩ : ∃ x s7, Lb.stU s6 = (x, s7) := ⟨_, _, rfl⟩
  obtain ⟨z, hz⟩ : ∃ z, Lb.int64 xz = z := ⟨_, rfl⟩
  have h7 := stI_of hu7 hz
  obtain ⟨su, s8, h8⟩ : ∃ su s8, Lb.stU s7 = (su, s8) := ⟨_, _, rfl⟩
  obtain ⟨r, s9, h9⟩ : ∃ r s9, Lb.stU s8 = (r, s9) := ⟨_, _, rfl⟩
  have hl1 : s1.2.length ≤ 12000 := Nat.le_trans (stU_len' h1) hl
  have hl2 : s2.2.length ≤ 12000 := Nat.le_trans (stU_len' hu2) hl1
  have hl3 : s3.2.length ≤ 12000 := Nat.le_trans (stU_len' h3) hl2
  have hl4 : s4.2.length ≤ 12000 := Nat.le_trans (stU_len' h4) hl3
  have hl5 : s5.2.length ≤ 12000 := Nat.le_trans (stN_facts stI_len h5).2 hl4
  have hl6 : s6.2.length ≤ 12000 := Nat.le_trans (stB_len' h6).1 hl5
  have hlB : B.length ≤ 12000 := Nat.le_trans (stB_len' h6).2 hl5
  have hl7 : s7.2.length ≤ 12000 := Nat.le_trans (stU_len' hu7) hl6
  have hl8 : s8.2.length ≤ 12000 := Nat.le_trans (stU_len' h8) hl7
  have hl9 : s9.2.length ≤ 12000 := Nat.le_trans (stU_len' h9) hl8
  have HPT := Lib.hid (readT_of h1 h2 h3 h4 h5 h6 h7 h8 h9)
  have H1 := Lib.hid h1
  have H2 := Lib.hid h2
  have H3 := Lib.hid h3
  have H4 := Lib.hid h4
  have H5 := Lib.hid h5
  have H6 := Lib.hid h6
  have H7 := Lib.hid h7
  have H8 := Lib.hid h8
  have H9 := Lib.hid h9
  have HU2 := Lib.hid hu2
  have HU7 := Lib.hid hu7
  have HDI := Lib.hid hD
  have HZI := Lib.hid hz
  have HK0 : Hid (OKs (false, p)) := fun h => by cases h
  have HK1 := Lib.hid (stU_ok' h1)
  have HK2 := Lib.hid (stU_ok' hu2)
  have HK3 := Lib.hid (stU_ok' h3)
  have HK4 := Lib.hid (stU_ok' h4)
  have HK6 := Lib.hid (stB_ok' h6)
  have HK7 := Lib.hid (stU_ok' hu7)
  have HK8 := Lib.hid (stU_ok' h8)
  have HA := Lib.hid h
  have HL := Lib.hid hl
  clear h1 h2 h3 h4 h5 h6 h7 h8 h9 h hu2 hu7 hD hz
  go_enter Try.func46, Try.ntmps46
  go_wp2_with fail
  go_at_call 63
  refine (srnew_any _ p _ (by omega) (HA.out.ext (Ext.alloc _ _))).mono ?_
  rintro e w2 ⟨rb, rfl, hr⟩
  have hbr : BoxAt (w.alloc (.cells (labA ⟨0#64, 0, 0#64, 0#64, Lb.cfgOf [], 0, 0#64, 0#64⟩ (.slice none 0 0)) 29)) w.heap.size (labA ⟨0#64, 0, 0#64, 0#64, Lb.cfgOf [], 0, 0#64, 0#64⟩ (.slice none 0 0)) 29 := BoxAt.new _ _ _
  have hr2 : Rds (w.alloc (.cells (labA ⟨0#64, 0, 0#64, 0#64, Lb.cfgOf [], 0, 0#64, 0#64⟩ (.slice none 0 0)) 29)) w2 rb (false, p) := hr
  have hxW : Ext w (w.alloc (.cells (labA ⟨0#64, 0, 0#64, 0#64, Lb.cfgOf [], 0, 0#64, 0#64⟩ (.slice none 0 0)) 29)) := Ext.alloc _ _
  generalize w.alloc (.cells (labA ⟨0#64, 0, 0#64, 0#64, Lb.cfgOf [], 0, 0#64, 0#64⟩ (.slice none 0 0)) 29) = W at *
  have HBR := Lib.hid hbr
  have HXW := Lib.hid hxW
  have HRW : Hid (w.heap.size < W.heap.size) := hbr.lt
  have HP0 : Hid (PS W (w2.alloc (.cells (labA ⟨0#64, 0, 0#64, 0#64, Lb.cfgOf [], 0, 0#64, 0#64⟩ (.slice none 0 0)) 29)) rb w2.heap.size (false, p) ⟨0#64, 0, 0#64, 0#64, Lb.cfgOf [], 0, 0#64, 0#64⟩ (.slice none 0 0)) :=
    ⟨hr2.more (Ext.alloc _ _), BoxAt.new _ _ _, hr2.ext.size, fun e => by have := hr2.rd.lt; omega, fun c h => by cases h⟩
  clear hr hr2 hbr hxW
  go_wp2_with fail
  go_at_call 64
  refine (pruint' H1.out HK0.out (by have := HL.out; show p.length ≤ _; omega) HP0.out).mono ?_
  rintro e w3 ⟨er1, rfl, hp, _⟩
  generalize w2.heap.size = g at *
  have hb := hp.box
  have cc := hb.cell 0 (v := encU 0#64) rfl
  have cf := hb.free 0
  have cl := hb.lt
  have HP1 : Hid (PS W (w3.setCell ⟨g, 0, none⟩ (encU A)) rb g s1 ⟨A, 0, 0#64, 0#64, Lb.cfgOf [], 0, 0#64, 0#64⟩ (.slice none 0 0)) := hp.store 0 _ rfl hp.dn
  clear hp hb HP0
  go_upto_region 4 with fail
  generalize w3.setCell ⟨g, 0, none⟩ (encU A) = y1 at *
  clear cc cf cl
  go_wp2_with fail
  go_at_call 64
  refine (pruint' HU2.out HK1.out (by omega) HP1.out).mono ?_
  rintro e w4 ⟨er2, rfl, hp, _⟩
  have cv1 := conv_i xd HDI.out
  have cv2 := conv_w xd HDI.out
  have hb := hp.box
  have cc := hb.cell 1 (v := .int .i64 0) rfl
  have cf := hb.free 1
  have cl := hb.lt
  have HP2 : Hid (PS W (w4.setCell ⟨g, 1, none⟩ (.int .i64 D)) rb g s2 ⟨A, D, 0#64, 0#64, Lb.cfgOf [], 0, 0#64, 0#64⟩ (.slice none 0 0)) := hp.store 1 _ rfl hp.dn
  clear hp hb HP1
  go_upto_region 6 with fail
  generalize w4.setCell ⟨g, 1, none⟩ (.int .i64 D) = y2 at *
  clear cc cf cl cv1 cv2
  go_wp2_with fail
  go_at_call 64
  refine (pruint' H3.out HK2.out (by omega) HP2.out).mono ?_
  rintro e w5 ⟨er3, rfl, hp, _⟩
  have hb := hp.box
  have cc := hb.cell 2 (v := encU 0#64) rfl
  have cf := hb.free 2
  have cl := hb.lt
  have HP3 : Hid (PS W (w5.setCell ⟨g, 2, none⟩ (encU G)) rb g s3 ⟨A, D, G, 0#64, Lb.cfgOf [], 0, 0#64, 0#64⟩ (.slice none 0 0)) := hp.store 2 _ rfl hp.dn
  clear hp hb HP2
  go_upto_region 7 with fail
  generalize w5.setCell ⟨g, 2, none⟩ (encU G) = y3 at *
  clear cc cf cl
  go_wp2_with fail
  go_at_call 64
  refine (pruint' H4.out HK3.out (by omega) HP3.out).mono ?_
  rintro e w6 ⟨er4, rfl, hp, _⟩
  have hb := hp.box
  have cc := hb.cell 3 (v := encU 0#64) rfl
  have cf := hb.free 3
  have cl := hb.lt
  have HP4 : Hid (PS W (w6.setCell ⟨g, 3, none⟩ (encU P)) rb g s4 ⟨A, D, G, P, Lb.cfgOf [], 0, 0#64, 0#64⟩ (.slice none 0 0)) := hp.store 3 _ rfl hp.dn
  clear hp hb HP3
  go_upto_region 8 with fail
  generalize w6.setCell ⟨g, 3, none⟩ (encU P) = y4 at *
  clear cc cf cl
  have hgl := HP4.out.box.lt
  have hrl := HP4.out.rds.rd.lt
  have HB5 : Hid (BoxAt (y4.alloc (.cells (arrN []) 72)) y4.heap.size (arrN []) 72) := BoxAt.new _ _ _
  have HP5 : Hid (PS W (y4.alloc (.cells (arrN []) 72)) rb g s4 ⟨A, D, G, P, Lb.cfgOf [], 0, 0#64, 0#64⟩ (.slice none 0 0)) := HP4.out.more (Ext.alloc _ _)
  have HNE : Hid (y4.heap.size ≠ rb ∧ y4.heap.size ≠ g ∧ W.heap.size ≤ y4.heap.size) := ⟨by omega, by omega, HP4.out.rds.ext.size⟩
  clear HP4 hgl hrl
  go_upto_region 9 with fail
  generalize y4.heap.size = na at *
  go_wp2_with fail
  go_loopw [9] (fun it wr => ∃ (i : Nat) (ms : List Int) (t : Lb.St), i ≤ 11 ∧ it = .int .i64 i ∧ Hid (Lb.stN Lb.stI i s4 = (ms, t)) ∧ Hid (OKs t) ∧ Hid (PS W wr rb g t ⟨A, D, G, P, Lb.cfgOf [], 0, 0#64, 0#64⟩ (.slice none 0 0)) ∧ Hid (BoxAt wr na (arrN ms) 72)) (fun it _ => 11 - (intOf it).toNat)
  case atStart => exact ⟨0, [], s4, by omega, rfl, Lib.hid rfl, HK4, HP5, HB5⟩
  case round =>
    obtain ⟨i, ms, t, hi, rfl, HST, HKT, HP, HF⟩ := hrel
    by_cases hlt : i < 11
    · have hiI : (i : Int) < 11 := by omega
      have hi0 : (0 : Int) ≤ (i : Int) := by omega
      have d1 : decide ((i : Int) < 11) = true := by rw [decide_eq_true_iff]; exact hiI
      obtain ⟨hml, htl⟩ := stN_facts stI_len HST.out
      have HML := Lib.hid hml
      clear hml
      obtain ⟨xm, t2, hu⟩ : ∃ x t2, Lb.stU t = (x, t2) := ⟨_, _, rfl⟩
      obtain ⟨m, hm⟩ : ∃ m, Lb.int64 xm = m := ⟨_, rfl⟩
      have HM := Lib.hid (stI_of hu hm)
      have HU := Lib.hid hu
      have HKN := Lib.hid (stU_ok' hu)
      have cv1 := conv_i xm hm
      have cv2 := conv_w xm hm
      clear hu hm
      go_wp2_with fail
      go_at_call 64
      refine (pruint' HU.out HKT.out (by omega) HP.out).mono ?_
      rintro e wa ⟨er, rfl, hp, hgw⟩
      have hF2 := HF.out.grown hgw (fun e => HNE.out.1 (Option.some.inj e))
      have cc := hF2.cell i (arr_get ms i hlt)
      have cf := hF2.free i
      have cl := hF2.lt
      have HP2 : Hid (PS W (wa.setCell ⟨na, i, none⟩ (.int .i64 m)) rb g t2 ⟨A, D, G, P, Lb.cfgOf [], 0, 0#64, 0#64⟩ (.slice none 0 0)) := hp.other hF2 HNE.out.2.2 HNE.out.1.symm HNE.out.2.1.symm i _
      have HF2 : Hid (BoxAt (wa.setCell ⟨na, i, none⟩ (.int .i64 m)) na (arrN (ms ++ [m])) 72) := by
        show BoxAt _ _ _ _
        rw [← arr_snoc ms m i HML.out hlt]
        exact hF2.set i _
      clear hp hF2 HP HF hgw
      go_wp2_with fail
      go_roundw
      case rel => exact ⟨i + 1, ms ++ [m], t2, by omega, by go_num, Lib.hid (stN_next HST.out HM.out), HKN, HP2, HF2⟩
      case measure => simp [intOf]; omega
    · have hin : i = 11 := by omega
      subst hin
      have hsm := HST.out.symm.trans H5.out
      obtain ⟨rfl, rfl⟩ : ms = ns ∧ t = s5 := ⟨congrArg Prod.fst hsm, congrArg Prod.snd hsm⟩
      have d1 : decide ((11 : Int) < 11) = false := rfl
      have hF := HF.out
      have a0 := hF.cell 0 (arr_get ms 0 (by decide))
      have a1 := hF.cell 1 (arr_get ms 1 (by decide))
      have a2 := hF.cell 2 (arr_get ms 2 (by decide))
      have a3 := hF.cell 3 (arr_get ms 3 (by decide))
      have a4 := hF.cell 4 (arr_get ms 4 (by decide))
      have a5 := hF.cell 5 (arr_get ms 5 (by decide))
      have a6 := hF.cell 6 (arr_get ms 6 (by decide))
      have a7 := hF.cell 7 (arr_get ms 7 (by decide))
      have a8 := hF.cell 8 (arr_get ms 8 (by decide))
      have a9 := hF.cell 9 (arr_get ms 9 (by decide))
      have a10 := hF.cell 10 (arr_get ms 10 (by decide))
      have cl := hF.lt
      clear hsm HF HST hF
      go_upto_region 15 with (refine wpList_store_cfg4 (c := Lb.cfgOf ms) _ _ rfl (by rfl) rfl rfl HP.out.box ?_; intro w7 hg7 hb7)
      have HP5 := Lib.hid (HP.out.turn hg7 hb7 HP.out.dn)
      clear hg7 hb7 HP a0 a1 a2 a3 a4 a5 a6 a7 a8 a9 a10 cl d1
      have HP := HP5
      clear HP5
      go_wp2_with fail
      go_at_call 65
      refine (prbytes' H6.out HKT.out (by omega) HP.out).mono ?_
      rintro e w8 ⟨bv, hbv, er6, rfl, hp, _⟩
      have HP6 := Lib.hid hp
      have hbx := hp.box
      have HB8 := Lib.hid hbv
      obtain ⟨ab, cb, rfl⟩ := hbv.shape
      obtain ⟨bl, hbl⟩ : ∃ bl, B.length = bl := ⟨_, rfl⟩
      have HBL := Lib.hid hbl
      rw [hbl] at HB8 hlB ⊢
      obtain ⟨Dd, hDd⟩ : ∃ Dd, (Lb.cfgOf ms).d = Dd := ⟨_, rfl⟩
      have HDD := Lib.hid hDd
      obtain ⟨M, hM⟩ : ∃ M, min Dd.toNat (8 * bl) = M := ⟨_, rfl⟩
      have HMM : Hid (Lb.deadP (Lb.cfgOf ms).d B = deadTo B M) := by show _ = _; rw [deadP_to, hbl, hDd, hM]
      have hM1 : M ≤ 8 * bl := by omega
      have HM2 : Hid (∀ i : Nat, i < M → (i : Int) < Dd ∧ i / 8 < bl) := fun i h => by omega
      have HM3 : Hid (∀ i : Nat, (i : Int) < Dd → i / 8 < bl → i < M) := fun i h h' => by omega
      have hgl := hbx.lt
      have HRL : Hid (rb < w8.heap.size) := hp.rds.rd.lt
      have HB0 : Hid (BoxAt w8 g (labA ⟨A, D, G, P, Lb.cfgOf ms, 0, 0#64, 0#64⟩ (.slice none 0 0)) 29) := hbx
      clear hp hbx hbv hbl hDd hM HP
      go_wp2_with fail
      go_loopw [14] (fun it wr => ∃ (i : Nat) (dv : Value), i ≤ M ∧ it = .int .i64 i ∧ Hid (OwnG Value.bool 4 wr w8.heap.size dv (deadTo B i)) ∧ Hid (BoxAt wr g (labA ⟨A, D, G, P, Lb.cfgOf ms, 0, 0#64, 0#64⟩ dv) 29) ∧ Hid (w8.grownBy wr (some g))) (fun it _ => M - (intOf it).toNat)
      case atStart => exact ⟨0, .slice none 0 0, Nat.zero_le _, rfl, Lib.hid OwnG.nil, HB0, Lib.hid (grown_refl _ _)⟩
      case round =>
        obtain ⟨i, dv, hi, rfl, HO, HB, HG⟩ := hrel
        generalize wr = wo at *
        have hbx := HB.out
        have c4 := hbx.cell 4 (v := .int .i64 (Lb.cfgOf ms).d) rfl
        rw [HDD.out] at c4
        have hlg := hbx.lt
        have hi0 : (0 : Int) ≤ (i : Int) := by omega
        by_cases hlt : i < M
        · obtain ⟨hlD, hlb⟩ := HM2.out i hlt
          have d1 : decide ((i : Int) < Dd) = true := by rw [decide_eq_true_iff]; exact hlD
          have hw8 : IntKind.i64.wrap (8 * (bl : Int)) = 8 * (bl : Int) := i64_id _ ⟨by omega, by omega⟩
          have d2 : decide ((i : Int) < 8 * (bl : Int)) = true := by rw [decide_eq_true_iff]; omega
          have hqb : (i : Int) / 8 < (bl : Int) := by omega
          have hq0 : (0 : Int) ≤ (i : Int) / 8 := by omega
          have hq : ((i : Int) / 8).toNat = i / 8 := by omega
          have hr : ((i : Int) % 8).toNat = i % 8 := by omega
          have hBi : i / 8 < B.length := by rw [HBL.out]; exact hlb
          obtain ⟨bb, ob, rfl, hbb8, hcx⟩ := HB8.out.get (i / 8) hBi
          clear hcx
          obtain ⟨bb2, ob2, hbe, hbb, hcb⟩ := (HB8.out.turn (lab_nb HB0.out (fun c h => by cases h)) HG.out).get (i / 8) hBi
          cases hbe
          obtain ⟨da, dc, rfl⟩ := HO.out.shape
          rw [deadTo_len] at HO HB hbx
          have c15 := hbx.cell 15 (v := .slice da i dc) rfl
          rw [← getD_in (d := 0#8) hBi] at hcb
          have HDN := Lib.hid (deadTo_next B i)
          have hbit := bit_mod (B.getD (i / 8) 0#8) (i % 8)
          have hbit2 := bit_tmod (B.getD (i / 8) 0#8) (i % 8)
          generalize B.getD (i / 8) 0#8 = x at *
          obtain ⟨u, hu⟩ : ∃ u, x.getLsbD (i % 8) = u := ⟨_, rfl⟩
          rw [hu] at hbit hbit2 HDN
          have hbo := hbx
          clear hu hBi hlD hlb hbx
          go_wp2_with fail
          refine wp_region_bel (w8.heap.size) (wo) ((Below.refl _ _)) [(0, true), (1, true), (2, true), (3, true), (4, true), (5, true), (6, true), (7, true), (8, true), (9, true), (10, true), (11, true), (12, false), (13, false), (14, true), (15, false)] (by kernel_rfl) (by kernel_rfl) ?_
          iterate 12 (first
           | (refine bel_move rfl rfl (by rfl) (by rfl) ?_; simp only [Act.put, List.setIfInBounds_toArray, List.set_cons_zero, List.set_cons_succ])
           | (apply bel_take rfl (by rfl)
              · intro w' hS
                have hSc := below_cellsB hS
                go_simp
                (try simp (disch := omega) only [i64_id, u64_id, ↓IntWalk.iteOmega, Int.tdiv_eq_ediv_of_nonneg, Int.tmod_eq_emod_of_nonneg])
                try rfl
              simp only [Act.put, List.setIfInBounds_toArray, List.set_cons_zero, List.set_cons_succ])
           | (refine bel_pass rfl (by rfl) ?_; simp only [Act.put, List.setIfInBounds_toArray, List.set_cons_zero, List.set_cons_succ]))
          (refine bel_do rfl (by rfl) (fun K hK => ?_)
           go_simp
           refine hK _ _ (Below.mono ((Ext.alloc _ _).trans (Ext.drew _)) HG.out.size) ?_
           clear hK K
           (try simp only [Act.put, List.setIfInBounds_toArray, List.set_cons_zero, List.set_cons_succ]))
          (refine bel_do rfl (by rfl) (fun K hK => ?_)
           refine wp_of_list rfl ?_
           have e1 : Ext wo (wo.alloc (.cells #[.bool u] 4)).drew := (Ext.alloc _ _).trans (Ext.drew _)
           have hown := HO.out.ext e1
           have hwz : w8.heap.size ≤ wo.heap.size := HG.out.size
           refine wpList_append_one rfl (.tmp 103) (.tmp 114) 27 rfl w8.heap.size 4 i0 (.bool false) 1 Try.underlying27 hI hI0 hI1 hI2 rfl _ _ _ rfl hown _ (.bool u) rfl rfl (cell_new1 _ _ _) (by rw [deadTo_len]; unfold maxLen; omega) (by rw [deadTo_len]; omega) (Nat.le_trans hwz e1.size) ?_
           intro v9 w9 ho9 hg9 _
           have HO9 : Hid (OwnG Value.bool 4 w9 w8.heap.size v9 (deadTo B (i + 1))) := by
             show OwnG _ _ _ _ _ _
             rw [HDN.out]
             exact OwnG.snoc (enc := Value.bool) (x := u) ho9
           clear ho9
           obtain ⟨a9, c9, rfl⟩ := HO9.out.shape
           simp only [deadTo_len] at HO9 ⊢
           have hnb : ∀ q, (Value.slice da i dc).ownBlock = some q → w8.heap.size ≤ q := fun q hq => (hown.lt q hq).1
           have hb9 := (hbo.ext e1).grown hg9 (fun e => by have := hnb g e.symm; omega)
           have HG9 : Hid (w8.grownBy w9 (some g)) := grown_own (grown_trans HG.out (grown_ext e1 _)) hg9 hnb
           have HB9 := Lib.hid hb9
           have hbel : Below w8.heap.size wo w9 := Below.grown (Below.mono e1 hwz) hg9 (Nat.le_trans hwz e1.size) hnb
           refine hK _ _ hbel ?_
           clear hK K hg9 hown hbel hwz hnb hb9 e1
           (try simp only [Act.put, List.setIfInBounds_toArray, List.set_cons_zero, List.set_cons_succ]))
          (first
           | (refine bel_move rfl rfl (by rfl) (by rfl) ?_; simp only [Act.put, List.setIfInBounds_toArray, List.set_cons_zero, List.set_cons_succ])
           | (apply bel_take rfl (by rfl)
              · intro w' hS
                have hSc := below_cellsB hS
                go_simp
                (try simp (disch := omega) only [i64_id, u64_id, ↓IntWalk.iteOmega, Int.tdiv_eq_ediv_of_nonneg, Int.tmod_eq_emod_of_nonneg])
                try rfl
              simp only [Act.put, List.setIfInBounds_toArray, List.set_cons_zero, List.set_cons_succ])
           | (refine bel_pass rfl (by rfl) ?_; simp only [Act.put, List.setIfInBounds_toArray, List.set_cons_zero, List.set_cons_succ]))
          have hb9 := HB9.out
          have cc := hb9.cell 15 (v := .slice da i dc) rfl
          have cf := hb9.free 15
          have cl := hb9.lt
          refine bel_last rfl (by rfl) (by kernel_rfl) (fun K hK => ?_)
          go_simp
          refine hK _ _ ?_
          clear hK K
          (try simp only [Act.put, List.setIfInBounds_toArray, List.set_cons_zero, List.set_cons_succ])
          have HO10 : Hid (OwnG Value.bool 4 (w9.setCell ⟨g, 15, none⟩ (.slice a9 (i + 1) c9)) w8.heap.size (.slice a9 (i + 1) c9) (deadTo B (i + 1))) := HO9.out.kept (grown_set _ _ _ _) (.inl (fun e => by have := (HO9.out.lt g e).1; omega))
          have HB10 : Hid (BoxAt (w9.setCell ⟨g, 15, none⟩ (.slice a9 (i + 1) c9)) g (labA ⟨A, D, G, P, Lb.cfgOf ms, 0, 0#64, 0#64⟩ (.slice a9 (i + 1) c9)) 29) := hb9.set 15 (.slice a9 (i + 1) c9)
          have HG10 : Hid (w8.grownBy (w9.setCell ⟨g, 15, none⟩ (.slice a9 (i + 1) c9)) (some g)) := grown_trans HG9.out (grown_set _ _ _ _)
          clear hb9 HO9 HB9 HG9
          go_wp2_with fail
          go_roundw
          case rel => exact ⟨i + 1, .slice a9 (i + 1) c9, by omega, by go_num, HO10, HB10, HG10⟩
          case measure => simp [intOf]; omega
        · have hiM : i = M := by omega
          have HDE : Hid (deadTo B i = Lb.deadP (Lb.cfgOf ms).d B) := by show _ = _; rw [HMM.out, hiM]
          obtain ⟨da, dc, rfl⟩ := HO.out.shape
          rw [deadTo_len] at HO HB hbx
          rw [HDE.out] at HO
          have hp6 : PS W wo rb g s6 ⟨A, D, G, P, Lb.cfgOf ms, 0, 0#64, 0#64⟩ (.slice da i dc) := HP6.out.turn HG.out HB.out (fun c h => by cases h)
          have HO6 := Lib.hid HO.out
          have HW8 : Hid (W.heap.size ≤ w8.heap.size) := HP6.out.rds.ext.size
          clear HP6 HO HB HG HB0 HDE HMM HM2
          have HP6 := Lib.hid hp6
          clear hp6
          have HCV : Hid (((i : Int) < Dd) → ¬ (i / 8 < bl)) := fun h h' => hlt (HM3.out i h h')
          clear hlt HM3 hi
          have hib : i ≤ 8 * bl := by omega
          clear hiM hM1
          generalize Lb.deadP (Lb.cfgOf ms).d B = DP at *
          by_cases hlD : (i : Int) < Dd
          · have hnb := HCV.out hlD
            have d1 : decide ((i : Int) < Dd) = true := by rw [decide_eq_true_iff]; exact hlD
            have d2 : decide ((i : Int) < 8 * (bl : Int)) = false := by rw [decide_eq_false_iff_not]; omega
            clear hnb hlD HCV
            go_wp2_with fail
            go_at_call 64
            refine (pruint' HU7.out HK6.out (by omega) HP6.out).mono ?_
            rintro e w9 ⟨er7, rfl, hp, hgw⟩
            have cv1 := conv_i xz HZI.out
            have cv2 := conv_w xz HZI.out
            have hb := hp.box
            have cc := hb.cell 16 (v := .int .i64 0) rfl
            have cf := hb.free 16
            have cl := hb.lt
            have HP7 : Hid (PS W (w9.setCell ⟨g, 16, none⟩ (.int .i64 z)) rb g s7 ⟨A, D, G, P, Lb.cfgOf ms, z, 0#64, 0#64⟩ (.slice da i dc)) := hp.store 16 _ rfl hp.dn
            have HO7 : Hid (OwnG Value.bool 4 (w9.setCell ⟨g, 16, none⟩ (.int .i64 z)) w8.heap.size (.slice da i dc) DP) := (HO6.out.kept hgw (.inl (fun e => by have := (HO6.out.lt rb e).1; have := HRL.out; omega))).kept (grown_set _ _ _ _) (.inl (fun e => by have := (HO6.out.lt g e).1; omega))
            clear hp hb hgw HP6 HO6
            go_upto_region 22 with fail
            generalize w9.setCell ⟨g, 16, none⟩ (.int .i64 z) = y7 at *
            clear cc cf cl cv1 cv2
            go_wp2_with fail
            go_at_call 64
            refine (pruint' H8.out HK7.out (by omega) HP7.out).mono ?_
            rintro e w10 ⟨er8, rfl, hp, hgw⟩
            have hb := hp.box
            have cc := hb.cell 17 (v := encU 0#64) rfl
            have cf := hb.free 17
            have cl := hb.lt
            have HP8 : Hid (PS W (w10.setCell ⟨g, 17, none⟩ (encU su)) rb g s8 ⟨A, D, G, P, Lb.cfgOf ms, z, su, 0#64⟩ (.slice da i dc)) := hp.store 17 _ rfl hp.dn
            have HO8 : Hid (OwnG Value.bool 4 (w10.setCell ⟨g, 17, none⟩ (encU su)) w8.heap.size (.slice da i dc) DP) := (HO7.out.kept hgw (.inl (fun e => by have := (HO7.out.lt rb e).1; have := HRL.out; omega))).kept (grown_set _ _ _ _) (.inl (fun e => by have := (HO7.out.lt g e).1; omega))
            clear hp hb hgw HP7 HO7
            go_upto_region 23 with fail
            generalize w10.setCell ⟨g, 17, none⟩ (encU su) = y8 at *
            clear cc cf cl
            go_wp2_with fail
            go_at_call 64
            refine (pruint' H9.out HK8.out (by omega) HP8.out).mono ?_
            rintro e w11 ⟨er9, rfl, hp, hgw⟩
            have hb := hp.box
            have cc := hb.cell 18 (v := encU 0#64) rfl
            have cf := hb.free 18
            have cl := hb.lt
            have HP9 : Hid (PS W (w11.setCell ⟨g, 18, none⟩ (encU r)) rb g s9 ⟨A, D, G, P, Lb.cfgOf ms, z, su, r⟩ (.slice da i dc)) := hp.store 18 _ rfl hp.dn
            have HO9 : Hid (OwnG Value.bool 4 (w11.setCell ⟨g, 18, none⟩ (encU r)) w8.heap.size (.slice da i dc) DP) := (HO8.out.kept hgw (.inl (fun e => by have := (HO8.out.lt rb e).1; have := HRL.out; omega))).kept (grown_set _ _ _ _) (.inl (fun e => by have := (HO8.out.lt g e).1; omega))
            clear hp hb hgw HP8 HO8
            go_upto_region 24 with fail
            generalize w11.setCell ⟨g, 18, none⟩ (encU r) = y9 at *
            clear cc cf cl
            have HNR : Hid (g ≠ w.heap.size ∧ rb ≠ w.heap.size) := by
              have h1 := HP9.out.ge
              have h2 := HP9.out.rds.ge
              have h3 := HRW.out
              exact ⟨by omega, by omega⟩
            have HLD : Hid (∀ w', y9.grownBy w' (some w.heap.size) → (Instr.loadAt 29 (.pointer (some ⟨g, 0, none⟩))).run Try.prog w' = .ok (labV ⟨A, D, G, P, Lb.cfgOf ms, z, su, r⟩ (.slice da i dc)) w') := fun w' h => (LabAt.of_box (HP9.out.box.grown h (fun e => HNR.out.1 (Option.some.inj e)))).load
            obtain ⟨F, hF⟩ : ∃ F, fin s9.1 s9.2 = F := ⟨_, rfl⟩
            have HDN : Hid (∀ w', rb < w'.heap.size → RdAt w' rb s9.2 s9.1 → Calls Try.prog 66 #[.pointer (some ⟨rb, 0, none⟩)] w' fun e w'' => e = .returned (.int .i64 F) ∧ w' = w'') := fun w' _ hh => by
              rw [← hF]
              exact rdone_any w' rb s9.2 s9.1 (by omega) hh
            rw [hF] at HPT
            clear hF
            have HDL : Hid (DP.length ≤ 100000) := by have h1 := HO9.out.shape; obtain ⟨a1, c1, h2⟩ := h1; injection h2 with _ h3 _; show DP.length ≤ 100000; omega
            by_cases hF0 : F = 0
            · subst hF0
              refine wp_region_fix (fun w' => y9.grownBy w' (some w.heap.size)) [(0, true), (1, true), (2, false), (3, true), (4, true), (5, true), (6, false), (7, true), (8, false), (9, true)] (by kernel_rfl) (by kernel_rfl) ?_ ?_
              · exact grown_drew (grown_refl _ _)
              refine fix_load 29 rfl (by rfl) rfl (by rfl) (fun w' hS => HLD.out w' hS) ?_; simp only [Act.put, List.setIfInBounds_toArray, List.set_cons_zero, List.set_cons_succ]
              (first
               | (refine fix_move rfl rfl (by rfl) (by rfl) ?_; simp only [Act.put, List.setIfInBounds_toArray, List.set_cons_zero, List.set_cons_succ])
               | (apply fix_take rfl (by rfl)
                  · intro w' hSc
                    go_simp
                    (try simp (disch := omega) only [i64_id, u64_id, ↓IntWalk.iteOmega, Int.tdiv_eq_ediv_of_nonneg, Int.tmod_eq_emod_of_nonneg])
                    try rfl
                  simp only [Act.put, List.setIfInBounds_toArray, List.set_cons_zero, List.set_cons_succ])
               | (refine fix_pass rfl (by rfl) ?_; simp only [Act.put, List.setIfInBounds_toArray, List.set_cons_zero, List.set_cons_succ]))
              (refine fix_do rfl (by rfl) (fun K hK => ?_)
               go_simp
               go_at_call 66
               refine (HDN.out y9.drew HP9.out.rds.rd.lt (HP9.out.rds.rd.ext (Ext.drew _))).mono ?_
               rintro e w' ⟨rfl, rfl⟩
               refine hK _ _ (by first | (with_reducible exact grown_refl _ _) | (with_reducible exact grown_drew (grown_refl _ _))) ?_
               clear hK K
               (try simp only [Act.put, List.setIfInBounds_toArray, List.set_cons_zero, List.set_cons_succ]))
              iterate 2 (first
               | (refine fix_move rfl rfl (by rfl) (by rfl) ?_; simp only [Act.put, List.setIfInBounds_toArray, List.set_cons_zero, List.set_cons_succ])
               | (apply fix_take rfl (by rfl)
                  · intro w' hSc
                    go_simp
                    (try simp (disch := omega) only [i64_id, u64_id, ↓IntWalk.iteOmega, Int.tdiv_eq_ediv_of_nonneg, Int.tmod_eq_emod_of_nonneg])
                    try rfl
                  simp only [Act.put, List.setIfInBounds_toArray, List.set_cons_zero, List.set_cons_succ])
               | (refine fix_pass rfl (by rfl) ?_; simp only [Act.put, List.setIfInBounds_toArray, List.set_cons_zero, List.set_cons_succ]))
              refine fix_load 29 rfl (by rfl) rfl (by rfl) (fun w' hS => HLD.out w' hS) ?_; simp only [Act.put, List.setIfInBounds_toArray, List.set_cons_zero, List.set_cons_succ]
              (refine fix_do rfl (by rfl) (fun K hK => ?_)
               go_simp
               go_at_call 18
               refine (rvalid_any ⟨A, D, G, P, Lb.cfgOf ms, z, su, r⟩ (.slice da i dc) DP _ HDL.out (HO9.out.slice.ext (Ext.drew _))).mono ?_
               rintro e w12 ⟨rfl, hx12⟩
               have HX12 : Hid (Ext y9 w12) := (Ext.drew _).trans hx12
               refine hK _ _ (grown_ext HX12.out _) ?_
               clear hK K hx12
               (try simp only [Act.put, List.setIfInBounds_toArray, List.set_cons_zero, List.set_cons_succ]))
              (first
               | (refine fix_move rfl rfl (by rfl) (by rfl) ?_; simp only [Act.put, List.setIfInBounds_toArray, List.set_cons_zero, List.set_cons_succ])
               | (apply fix_take rfl (by rfl)
                  · intro w' hSc
                    go_simp
                    (try simp (disch := omega) only [i64_id, u64_id, ↓IntWalk.iteOmega, Int.tdiv_eq_ediv_of_nonneg, Int.tmod_eq_emod_of_nonneg])
                    try rfl
                  simp only [Act.put, List.setIfInBounds_toArray, List.set_cons_zero, List.set_cons_succ])
               | (refine fix_pass rfl (by rfl) ?_; simp only [Act.put, List.setIfInBounds_toArray, List.set_cons_zero, List.set_cons_succ]))
              have hbr := HBR.out.ext (HP9.out.rds.ext.trans HX12.out)
              (refine fix_do rfl (by rfl) (fun K hK => ?_)
               refine wp_of_list rfl ?_
               refine wpList_store_lab3 (l := ⟨A, D, G, P, Lb.cfgOf ms, z, su, r⟩) (d := .slice da i dc) _ _ rfl (by rfl) rfl rfl hbr rfl rfl ?_
               intro w13 hg13 hb13
               have hS13 : y9.grownBy w13 (some w.heap.size) := grown_trans (grown_ext HX12.out _) hg13
               refine hK _ _ hS13 ?_
               clear hK K
               (try simp only [Act.put, List.setIfInBounds_toArray, List.set_cons_zero, List.set_cons_succ]))
              (first
               | (refine fix_move rfl rfl (by rfl) (by rfl) ?_; simp only [Act.put, List.setIfInBounds_toArray, List.set_cons_zero, List.set_cons_succ])
               | (apply fix_take rfl (by rfl)
                  · intro w' hSc
                    go_simp
                    (try simp (disch := omega) only [i64_id, u64_id, ↓IntWalk.iteOmega, Int.tdiv_eq_ediv_of_nonneg, Int.tmod_eq_emod_of_nonneg])
                    try rfl
                  simp only [Act.put, List.setIfInBounds_toArray, List.set_cons_zero, List.set_cons_succ])
               | (refine fix_pass rfl (by rfl) ?_; simp only [Act.put, List.setIfInBounds_toArray, List.set_cons_zero, List.set_cons_succ]))
              refine fix_nil ?_
              go_wp2_with fail
              refine bodyPost_ret (results_cell_tmp1 rfl _ _ rfl (lab_result hb13)) rfl ?_
              rw [HPT.out]
              have HXF : Ext w w13 := ((HXW.out.trans HP9.out.rds.ext).trans HX12.out).grown hg13 ((HXW.out.trans HP9.out.rds.ext).trans HX12.out).size (fun q hq => by cases hq; exact Nat.le_refl _)
              refine ⟨.slice da i dc, ?_, ((HO9.out.ext HX12.out).kept hg13 (.inl (fun e => by have h1 := (HO9.out.lt _ e).1; have h2 := HRW.out; have h3 := HW8.out; omega))).slice, HXF⟩
              simp
            · have q1 : (F == 0) = false := by rw [beq_eq_false_iff_ne]; exact hF0
              refine wp_region_fix (fun w' => y9.grownBy w' (some w.heap.size)) [(0, true), (1, true), (2, false), (3, true), (4, true), (5, true), (6, false), (7, true), (8, false), (9, true)] (by kernel_rfl) (by kernel_rfl) ?_ ?_
              · exact grown_drew (grown_refl _ _)
              refine fix_load 29 rfl (by rfl) rfl (by rfl) (fun w' hS => HLD.out w' hS) ?_; simp only [Act.put, List.setIfInBounds_toArray, List.set_cons_zero, List.set_cons_succ]
              (first
               | (refine fix_move rfl rfl (by rfl) (by rfl) ?_; simp only [Act.put, List.setIfInBounds_toArray, List.set_cons_zero, List.set_cons_succ])
               | (apply fix_take rfl (by rfl)
                  · intro w' hSc
                    go_simp
                    (try simp (disch := omega) only [i64_id, u64_id, ↓IntWalk.iteOmega, Int.tdiv_eq_ediv_of_nonneg, Int.tmod_eq_emod_of_nonneg])
                    try rfl
                  simp only [Act.put, List.setIfInBounds_toArray, List.set_cons_zero, List.set_cons_succ])
               | (refine fix_pass rfl (by rfl) ?_; simp only [Act.put, List.setIfInBounds_toArray, List.set_cons_zero, List.set_cons_succ]))
              (refine fix_do rfl (by rfl) (fun K hK => ?_)
               go_simp
               go_at_call 66
               refine (HDN.out y9.drew HP9.out.rds.rd.lt (HP9.out.rds.rd.ext (Ext.drew _))).mono ?_
               rintro e w' ⟨rfl, rfl⟩
               refine hK _ _ (by first | (with_reducible exact grown_refl _ _) | (with_reducible exact grown_drew (grown_refl _ _))) ?_
               clear hK K
               (try simp only [Act.put, List.setIfInBounds_toArray, List.set_cons_zero, List.set_cons_succ]))
              iterate 2 (first
               | (refine fix_move rfl rfl (by rfl) (by rfl) ?_; simp only [Act.put, List.setIfInBounds_toArray, List.set_cons_zero, List.set_cons_succ])
               | (apply fix_take rfl (by rfl)
                  · intro w' hSc
                    go_simp
                    (try simp (disch := omega) only [i64_id, u64_id, ↓IntWalk.iteOmega, Int.tdiv_eq_ediv_of_nonneg, Int.tmod_eq_emod_of_nonneg])
                    try rfl
                  simp only [Act.put, List.setIfInBounds_toArray, List.set_cons_zero, List.set_cons_succ])
               | (refine fix_pass rfl (by rfl) ?_; simp only [Act.put, List.setIfInBounds_toArray, List.set_cons_zero, List.set_cons_succ]))
              (first
               | (refine fix_move rfl rfl (by rfl) (by rfl) ?_; simp only [Act.put, List.setIfInBounds_toArray, List.set_cons_zero, List.set_cons_succ])
               | (apply fix_take rfl (by rfl)
                  · intro w' hSc
                    go_simp
                    (try simp (disch := omega) only [i64_id, u64_id, ↓IntWalk.iteOmega, Int.tdiv_eq_ediv_of_nonneg, Int.tmod_eq_emod_of_nonneg])
                    try rfl
                  simp only [Act.put, List.setIfInBounds_toArray, List.set_cons_zero, List.set_cons_succ])
               | (refine fix_pass rfl (by rfl) ?_; simp only [Act.put, List.setIfInBounds_toArray, List.set_cons_zero, List.set_cons_succ]))
              refine fix_passE rfl (by rfl) (grown_drew (grown_refl _ _)) ?_; simp only [Act.put, List.setIfInBounds_toArray, List.set_cons_zero, List.set_cons_succ]
              (first
               | (refine fix_move rfl rfl (by rfl) (by rfl) ?_; simp only [Act.put, List.setIfInBounds_toArray, List.set_cons_zero, List.set_cons_succ])
               | (apply fix_take rfl (by rfl)
                  · intro w' hSc
                    go_simp
                    (try simp (disch := omega) only [i64_id, u64_id, ↓IntWalk.iteOmega, Int.tdiv_eq_ediv_of_nonneg, Int.tmod_eq_emod_of_nonneg])
                    try rfl
                  simp only [Act.put, List.setIfInBounds_toArray, List.set_cons_zero, List.set_cons_succ])
               | (refine fix_pass rfl (by rfl) ?_; simp only [Act.put, List.setIfInBounds_toArray, List.set_cons_zero, List.set_cons_succ]))
              have hbr := HBR.out.ext (HP9.out.rds.ext.trans (Ext.drew _))
              (refine fix_do rfl (by rfl) (fun K hK => ?_)
               refine wp_of_list rfl ?_
               refine wpList_store_lab3 (l := ⟨A, D, G, P, Lb.cfgOf ms, z, su, r⟩) (d := .slice da i dc) _ _ rfl (by rfl) rfl rfl hbr rfl rfl ?_
               intro w13 hg13 hb13
               have hS13 : y9.grownBy w13 (some w.heap.size) := grown_trans (grown_ext (Ext.drew _) _) hg13
               refine hK _ _ hS13 ?_
               clear hK K
               (try simp only [Act.put, List.setIfInBounds_toArray, List.set_cons_zero, List.set_cons_succ]))
              (first
               | (refine fix_move rfl rfl (by rfl) (by rfl) ?_; simp only [Act.put, List.setIfInBounds_toArray, List.set_cons_zero, List.set_cons_succ])
               | (apply fix_take rfl (by rfl)
                  · intro w' hSc
                    go_simp
                    (try simp (disch := omega) only [i64_id, u64_id, ↓IntWalk.iteOmega, Int.tdiv_eq_ediv_of_nonneg, Int.tmod_eq_emod_of_nonneg])
                    try rfl
                  simp only [Act.put, List.setIfInBounds_toArray, List.set_cons_zero, List.set_cons_succ])
               | (refine fix_pass rfl (by rfl) ?_; simp only [Act.put, List.setIfInBounds_toArray, List.set_cons_zero, List.set_cons_succ]))
              refine fix_nil ?_
              go_wp2_with fail
              refine bodyPost_ret (results_cell_tmp1 rfl _ _ rfl (lab_result hb13)) rfl ?_
              rw [HPT.out]
              have HXF : Ext w w13 := ((HXW.out.trans HP9.out.rds.ext).trans (Ext.drew _)).grown hg13 ((HXW.out.trans HP9.out.rds.ext).trans (Ext.drew _)).size (fun q hq => by cases hq; exact Nat.le_refl _)
              refine ⟨.slice da i dc, ?_, ((HO9.out.ext (Ext.drew _)).kept hg13 (.inl (fun e => by have h1 := (HO9.out.lt _ e).1; have h2 := HRW.out; have h3 := HW8.out; omega))).slice, HXF⟩
              simp [hF0]
          · have d1 : decide ((i : Int) < Dd) = false := by rw [decide_eq_false_iff_not]; exact hlD
            clear hlD HCV
            go_wp2_with fail
            go_at_call 64
            refine (pruint' HU7.out HK6.out (by omega) HP6.out).mono ?_
            rintro e w9 ⟨er7, rfl, hp, hgw⟩
            have cv1 := conv_i xz HZI.out
            have cv2 := conv_w xz HZI.out
            have hb := hp.box
            have cc := hb.cell 16 (v := .int .i64 0) rfl
            have cf := hb.free 16
            have cl := hb.lt
            have HP7 : Hid (PS W (w9.setCell ⟨g, 16, none⟩ (.int .i64 z)) rb g s7 ⟨A, D, G, P, Lb.cfgOf ms, z, 0#64, 0#64⟩ (.slice da i dc)) := hp.store 16 _ rfl hp.dn
            have HO7 : Hid (OwnG Value.bool 4 (w9.setCell ⟨g, 16, none⟩ (.int .i64 z)) w8.heap.size (.slice da i dc) DP) := (HO6.out.kept hgw (.inl (fun e => by have := (HO6.out.lt rb e).1; have := HRL.out; omega))).kept (grown_set _ _ _ _) (.inl (fun e => by have := (HO6.out.lt g e).1; omega))
            clear hp hb hgw HP6 HO6
            go_upto_region 22 with fail
            generalize w9.setCell ⟨g, 16, none⟩ (.int .i64 z) = y7 at *
            clear cc cf cl cv1 cv2
            go_wp2_with fail
            go_at_call 64
            refine (pruint' H8.out HK7.out (by omega) HP7.out).mono ?_
            rintro e w10 ⟨er8, rfl, hp, hgw⟩
            have hb := hp.box
            have cc := hb.cell 17 (v := encU 0#64) rfl
            have cf := hb.free 17
            have cl := hb.lt
            have HP8 : Hid (PS W (w10.setCell ⟨g, 17, none⟩ (encU su)) rb g s8 ⟨A, D, G, P, Lb.cfgOf ms, z, su, 0#64⟩ (.slice da i dc)) := hp.store 17 _ rfl hp.dn
            have HO8 : Hid (OwnG Value.bool 4 (w10.setCell ⟨g, 17, none⟩ (encU su)) w8.heap.size (.slice da i dc) DP) := (HO7.out.kept hgw (.inl (fun e => by have := (HO7.out.lt rb e).1; have := HRL.out; omega))).kept (grown_set _ _ _ _) (.inl (fun e => by have := (HO7.out.lt g e).1; omega))
            clear hp hb hgw HP7 HO7
            go_upto_region 23 with fail
            generalize w10.setCell ⟨g, 17, none⟩ (encU su) = y8 at *
            clear cc cf cl
            go_wp2_with fail
            go_at_call 64
            refine (pruint' H9.out HK8.out (by omega) HP8.out).mono ?_
            rintro e w11 ⟨er9, rfl, hp, hgw⟩
            have hb := hp.box
            have cc := hb.cell 18 (v := encU 0#64) rfl
            have cf := hb.free 18
            have cl := hb.lt
            have HP9 : Hid (PS W (w11.setCell ⟨g, 18, none⟩ (encU r)) rb g s9 ⟨A, D, G, P, Lb.cfgOf ms, z, su, r⟩ (.slice da i dc)) := hp.store 18 _ rfl hp.dn
            have HO9 : Hid (OwnG Value.bool 4 (w11.setCell ⟨g, 18, none⟩ (encU r)) w8.heap.size (.slice da i dc) DP) := (HO8.out.kept hgw (.inl (fun e => by have := (HO8.out.lt rb e).1; have := HRL.out; omega))).kept (grown_set _ _ _ _) (.inl (fun e => by have := (HO8.out.lt g e).1; omega))
            clear hp hb hgw HP8 HO8
            go_upto_region 24 with fail
            generalize w11.setCell ⟨g, 18, none⟩ (encU r) = y9 at *
            clear cc cf cl
            have HNR : Hid (g ≠ w.heap.size ∧ rb ≠ w.heap.size) := by
              have h1 := HP9.out.ge
              have h2 := HP9.out.rds.ge
              have h3 := HRW.out
              exact ⟨by omega, by omega⟩
            have HLD : Hid (∀ w', y9.grownBy w' (some w.heap.size) → (Instr.loadAt 29 (.pointer (some ⟨g, 0, none⟩))).run Try.prog w' = .ok (labV ⟨A, D, G, P, Lb.cfgOf ms, z, su, r⟩ (.slice da i dc)) w') := fun w' h => (LabAt.of_box (HP9.out.box.grown h (fun e => HNR.out.1 (Option.some.inj e)))).load
            obtain ⟨F, hF⟩ : ∃ F, fin s9.1 s9.2 = F := ⟨_, rfl⟩
            have HDN : Hid (∀ w', rb < w'.heap.size → RdAt w' rb s9.2 s9.1 → Calls Try.prog 66 #[.pointer (some ⟨rb, 0, none⟩)] w' fun e w'' => e = .returned (.int .i64 F) ∧ w' = w'') := fun w' _ hh => by
              rw [← hF]
              exact rdone_any w' rb s9.2 s9.1 (by omega) hh
            rw [hF] at HPT
            clear hF
            have HDL : Hid (DP.length ≤ 100000) := by have h1 := HO9.out.shape; obtain ⟨a1, c1, h2⟩ := h1; injection h2 with _ h3 _; show DP.length ≤ 100000; omega
            by_cases hF0 : F = 0
            · subst hF0
              refine wp_region_fix (fun w' => y9.grownBy w' (some w.heap.size)) [(0, true), (1, true), (2, false), (3, true), (4, true), (5, true), (6, false), (7, true), (8, false), (9, true)] (by kernel_rfl) (by kernel_rfl) ?_ ?_
              · exact grown_drew (grown_refl _ _)
              refine fix_load 29 rfl (by rfl) rfl (by rfl) (fun w' hS => HLD.out w' hS) ?_; simp only [Act.put, List.setIfInBounds_toArray, List.set_cons_zero, List.set_cons_succ]
              (first
               | (refine fix_move rfl rfl (by rfl) (by rfl) ?_; simp only [Act.put, List.setIfInBounds_toArray, List.set_cons_zero, List.set_cons_succ])
               | (apply fix_take rfl (by rfl)
                  · intro w' hSc
                    go_simp
                    (try simp (disch := omega) only [i64_id, u64_id, ↓IntWalk.iteOmega, Int.tdiv_eq_ediv_of_nonneg, Int.tmod_eq_emod_of_nonneg])
                    try rfl
                  simp only [Act.put, List.setIfInBounds_toArray, List.set_cons_zero, List.set_cons_succ])
               | (refine fix_pass rfl (by rfl) ?_; simp only [Act.put, List.setIfInBounds_toArray, List.set_cons_zero, List.set_cons_succ]))
              (refine fix_do rfl (by rfl) (fun K hK => ?_)
               go_simp
               go_at_call 66
               refine (HDN.out y9.drew HP9.out.rds.rd.lt (HP9.out.rds.rd.ext (Ext.drew _))).mono ?_
               rintro e w' ⟨rfl, rfl⟩
               refine hK _ _ (by first | (with_reducible exact grown_refl _ _) | (with_reducible exact grown_drew (grown_refl _ _))) ?_
               clear hK K
               (try simp only [Act.put, List.setIfInBounds_toArray, List.set_cons_zero, List.set_cons_succ]))
              iterate 2 (first
               | (refine fix_move rfl rfl (by rfl) (by rfl) ?_; simp only [Act.put, List.setIfInBounds_toArray, List.set_cons_zero, List.set_cons_succ])
               | (apply fix_take rfl (by rfl)
                  · intro w' hSc
                    go_simp
                    (try simp (disch := omega) only [i64_id, u64_id, ↓IntWalk.iteOmega, Int.tdiv_eq_ediv_of_nonneg, Int.tmod_eq_emod_of_nonneg])
                    try rfl
                  simp only [Act.put, List.setIfInBounds_toArray, List.set_cons_zero, List.set_cons_succ])
               | (refine fix_pass rfl (by rfl) ?_; simp only [Act.put, List.setIfInBounds_toArray, List.set_cons_zero, List.set_cons_succ]))
              refine fix_load 29 rfl (by rfl) rfl (by rfl) (fun w' hS => HLD.out w' hS) ?_; simp only [Act.put, List.setIfInBounds_toArray, List.set_cons_zero, List.set_cons_succ]
              (refine fix_do rfl (by rfl) (fun K hK => ?_)
               go_simp
               go_at_call 18
               refine (rvalid_any ⟨A, D, G, P, Lb.cfgOf ms, z, su, r⟩ (.slice da i dc) DP _ HDL.out (HO9.out.slice.ext (Ext.drew _))).mono ?_
               rintro e w12 ⟨rfl, hx12⟩
               have HX12 : Hid (Ext y9 w12) := (Ext.drew _).trans hx12
               refine hK _ _ (grown_ext HX12.out _) ?_
               clear hK K hx12
               (try simp only [Act.put, List.setIfInBounds_toArray, List.set_cons_zero, List.set_cons_succ]))
              (first
               | (refine fix_move rfl rfl (by rfl) (by rfl) ?_; simp only [Act.put, List.setIfInBounds_toArray, List.set_cons_zero, List.set_cons_succ])
               | (apply fix_take rfl (by rfl)
                  · intro w' hSc
                    go_simp
                    (try simp (disch := omega) only [i64_id, u64_id, ↓IntWalk.iteOmega, Int.tdiv_eq_ediv_of_nonneg, Int.tmod_eq_emod_of_nonneg])
                    try rfl
                  simp only [Act.put, List.setIfInBounds_toArray, List.set_cons_zero, List.set_cons_succ])
               | (refine fix_pass rfl (by rfl) ?_; simp only [Act.put, List.setIfInBounds_toArray, List.set_cons_zero, List.set_cons_succ]))
              have hbr := HBR.out.ext (HP9.out.rds.ext.trans HX12.out)
              (refine fix_do rfl (by rfl) (fun K hK => ?_)
               refine wp_of_list rfl ?_
               refine wpList_store_lab3 (l := ⟨A, D, G, P, Lb.cfgOf ms, z, su, r⟩) (d := .slice da i dc) _ _ rfl (by rfl) rfl rfl hbr rfl rfl ?_
               intro w13 hg13 hb13
               have hS13 : y9.grownBy w13 (some w.heap.size) := grown_trans (grown_ext HX12.out _) hg13
               refine hK _ _ hS13 ?_
               clear hK K
               (try simp only [Act.put, List.setIfInBounds_toArray, List.set_cons_zero, List.set_cons_succ]))
              (first
               | (refine fix_move rfl rfl (by rfl) (by rfl) ?_; simp only [Act.put, List.setIfInBounds_toArray, List.set_cons_zero, List.set_cons_succ])
               | (apply fix_take rfl (by rfl)
                  · intro w' hSc
                    go_simp
                    (try simp (disch := omega) only [i64_id, u64_id, ↓IntWalk.iteOmega, Int.tdiv_eq_ediv_of_nonneg, Int.tmod_eq_emod_of_nonneg])
                    try rfl
                  simp only [Act.put, List.setIfInBounds_toArray, List.set_cons_zero, List.set_cons_succ])
               | (refine fix_pass rfl (by rfl) ?_; simp only [Act.put, List.setIfInBounds_toArray, List.set_cons_zero, List.set_cons_succ]))
              refine fix_nil ?_
              go_wp2_with fail
              refine bodyPost_ret (results_cell_tmp1 rfl _ _ rfl (lab_result hb13)) rfl ?_
              rw [HPT.out]
              have HXF : Ext w w13 := ((HXW.out.trans HP9.out.rds.ext).trans HX12.out).grown hg13 ((HXW.out.trans HP9.out.rds.ext).trans HX12.out).size (fun q hq => by cases hq; exact Nat.le_refl _)
              refine ⟨.slice da i dc, ?_, ((HO9.out.ext HX12.out).kept hg13 (.inl (fun e => by have h1 := (HO9.out.lt _ e).1; have h2 := HRW.out; have h3 := HW8.out; omega))).slice, HXF⟩
              simp
            · have q1 : (F == 0) = false := by rw [beq_eq_false_iff_ne]; exact hF0
              refine wp_region_fix (fun w' => y9.grownBy w' (some w.heap.size)) [(0, true), (1, true), (2, false), (3, true), (4, true), (5, true), (6, false), (7, true), (8, false), (9, true)] (by kernel_rfl) (by kernel_rfl) ?_ ?_
              · exact grown_drew (grown_refl _ _)
              refine fix_load 29 rfl (by rfl) rfl (by rfl) (fun w' hS => HLD.out w' hS) ?_; simp only [Act.put, List.setIfInBounds_toArray, List.set_cons_zero, List.set_cons_succ]
              (first
               | (refine fix_move rfl rfl (by rfl) (by rfl) ?_; simp only [Act.put, List.setIfInBounds_toArray, List.set_cons_zero, List.set_cons_succ])
               | (apply fix_take rfl (by rfl)
                  · intro w' hSc
                    go_simp
                    (try simp (disch := omega) only [i64_id, u64_id, ↓IntWalk.iteOmega, Int.tdiv_eq_ediv_of_nonneg, Int.tmod_eq_emod_of_nonneg])
                    try rfl
                  simp only [Act.put, List.setIfInBounds_toArray, List.set_cons_zero, List.set_cons_succ])
               | (refine fix_pass rfl (by rfl) ?_; simp only [Act.put, List.setIfInBounds_toArray, List.set_cons_zero, List.set_cons_succ]))
              (refine fix_do rfl (by rfl) (fun K hK => ?_)
               go_simp
               go_at_call 66
               refine (HDN.out y9.drew HP9.out.rds.rd.lt (HP9.out.rds.rd.ext (Ext.drew _))).mono ?_
               rintro e w' ⟨rfl, rfl⟩
               refine hK _ _ (by first | (with_reducible exact grown_refl _ _) | (with_reducible exact grown_drew (grown_refl _ _))) ?_
               clear hK K
               (try simp only [Act.put, List.setIfInBounds_toArray, List.set_cons_zero, List.set_cons_succ]))
              iterate 2 (first
               | (refine fix_move rfl rfl (by rfl) (by rfl) ?_; simp only [Act.put, List.setIfInBounds_toArray, List.set_cons_zero, List.set_cons_succ])
               | (apply fix_take rfl (by rfl)
                  · intro w' hSc
                    go_simp
                    (try simp (disch := omega) only [i64_id, u64_id, ↓IntWalk.iteOmega, Int.tdiv_eq_ediv_of_nonneg, Int.tmod_eq_emod_of_nonneg])
                    try rfl
                  simp only [Act.put, List.setIfInBounds_toArray, List.set_cons_zero, List.set_cons_succ])
               | (refine fix_pass rfl (by rfl) ?_; simp only [Act.put, List.setIfInBounds_toArray, List.set_cons_zero, List.set_cons_succ]))
              (first
               | (refine fix_move rfl rfl (by rfl) (by rfl) ?_; simp only [Act.put, List.setIfInBounds_toArray, List.set_cons_zero, List.set_cons_succ])
               | (apply fix_take rfl (by rfl)
                  · intro w' hSc
                    go_simp
                    (try simp (disch := omega) only [i64_id, u64_id, ↓IntWalk.iteOmega, Int.tdiv_eq_ediv_of_nonneg, Int.tmod_eq_emod_of_nonneg])
                    try rfl
                  simp only [Act.put, List.setIfInBounds_toArray, List.set_cons_zero, List.set_cons_succ])
               | (refine fix_pass rfl (by rfl) ?_; simp only [Act.put, List.setIfInBounds_toArray, List.set_cons_zero, List.set_cons_succ]))
              refine fix_passE rfl (by rfl) (grown_drew (grown_refl _ _)) ?_; simp only [Act.put, List.setIfInBounds_toArray, List.set_cons_zero, List.set_cons_succ]
              (first
               | (refine fix_move rfl rfl (by rfl) (by rfl) ?_; simp only [Act.put, List.setIfInBounds_toArray, List.set_cons_zero, List.set_cons_succ])
               | (apply fix_take rfl (by rfl)
                  · intro w' hSc
                    go_simp
                    (try simp (disch := omega) only [i64_id, u64_id, ↓IntWalk.iteOmega, Int.tdiv_eq_ediv_of_nonneg, Int.tmod_eq_emod_of_nonneg])
                    try rfl
                  simp only [Act.put, List.setIfInBounds_toArray, List.set_cons_zero, List.set_cons_succ])
               | (refine fix_pass rfl (by rfl) ?_; simp only [Act.put, List.setIfInBounds_toArray, List.set_cons_zero, List.set_cons_succ]))
              have hbr := HBR.out.ext (HP9.out.rds.ext.trans (Ext.drew _))
              (refine fix_do rfl (by rfl) (fun K hK => ?_)
               refine wp_of_list rfl ?_
               refine wpList_store_lab3 (l := ⟨A, D, G, P, Lb.cfgOf ms, z, su, r⟩) (d := .slice da i dc) _ _ rfl (by rfl) rfl rfl hbr rfl rfl ?_
               intro w13 hg13 hb13
               have hS13 : y9.grownBy w13 (some w.heap.size) := grown_trans (grown_ext (Ext.drew _) _) hg13
               refine hK _ _ hS13 ?_
               clear hK K
               (try simp only [Act.put, List.setIfInBounds_toArray, List.set_cons_zero, List.set_cons_succ]))
              (first
               | (refine fix_move rfl rfl (by rfl) (by rfl) ?_; simp only [Act.put, List.setIfInBounds_toArray, List.set_cons_zero, List.set_cons_succ])
               | (apply fix_take rfl (by rfl)
                  · intro w' hSc
                    go_simp
                    (try simp (disch := omega) only [i64_id, u64_id, ↓IntWalk.iteOmega, Int.tdiv_eq_ediv_of_nonneg, Int.tmod_eq_emod_of_nonneg])
                    try rfl
                  simp only [Act.put, List.setIfInBounds_toArray, List.set_cons_zero, List.set_cons_succ])
               | (refine fix_pass rfl (by rfl) ?_; simp only [Act.put, List.setIfInBounds_toArray, List.set_cons_zero, List.set_cons_succ]))
              refine fix_nil ?_
              go_wp2_with fail
              refine bodyPost_ret (results_cell_tmp1 rfl _ _ rfl (lab_result hb13)) rfl ?_
              rw [HPT.out]
              have HXF : Ext w w13 := ((HXW.out.trans HP9.out.rds.ext).trans (Ext.drew _)).grown hg13 ((HXW.out.trans HP9.out.rds.ext).trans (Ext.drew _)).size (fun q hq => by cases hq; exact Nat.le_refl _)
              refine ⟨.slice da i dc, ?_, ((HO9.out.ext (Ext.drew _)).kept hg13 (.inl (fun e => by have h1 := (HO9.out.lt _ e).1; have h2 := HRW.out; have h3 := HW8.out; omega))).slice, HXF⟩
              simp [hF0]
end Go.Proofs.Ythjcdikpomlpmaa
