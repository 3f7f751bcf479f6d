/-
  Part 37 of the proof.
-/
import Derived.Test.YtjabgpejmnpamaaGreatDoorY35
set_option linter.unusedVariables false
namespace Go.Proofs.YtjabgpejmnpamaaGreatDoor
open Go.RowKit
def LogOk (gen : BitVec 64) (l : List Lg.Rec) : Prop := l.length ≤ 6 ∧ ∀ i (h : i < l.length), Lg.validR l[i] = true ∧ l[i].gen = gen ∧ l[i].seq.toNat = i + 1
theorem LogOk.take {gen : BitVec 64} {l : List Lg.Rec} (h : LogOk gen l) (c : Nat) : LogOk gen (l.take c) := by
  refine ⟨by rw [List.length_take]; have := h.1; omega, fun i hi => ?_⟩
  rw [List.length_take] at hi
  rw [List.getElem_take]
  exact h.2 i (by omega)
abbrev recZ0 : Array Value := #[.int .u64 0, .int .u64 0, .slice none 0 0, .slice none 0 0, .slice none 0 0]
set_option maxRecDepth 100000 in
set_option maxHeartbeats 2000000 in
theorem logvalid_any (gen : BitVec 64) (l : List Lg.Rec) (v : Value) (w : World) (hok : LogOk gen l) (h : SliceR PatR w v l) :
    Calls Tryz.prog 42 #[v] w fun e w' => e = .returned (.bool true) ∧ Ext w w' := by
  obtain ⟨ad, cap, rfl⟩ := h.shape
  obtain ⟨n, hn⟩ : ∃ n, l.length = n := ⟨_, rfl⟩
  have HN := Lib.hid hn
  have HS := Lib.hid h
  have HOK := Lib.hid hok
  have hn6 : n ≤ 6 := by rw [← hn]; exact hok.1
  rw [hn] at HS ⊢
  clear h hok hn
  go_enter Tryz.func42, Tryz.ntmps42
  go_wp2_with fail
  go_loopw [7] (fun it wr => ∃ i : Nat, i ≤ n ∧ it = .int .i64 i ∧ Hid (Ext w wr)) (fun it _ => n - (intOf it).toNat)
  case atStart => exact ⟨0, Nat.zero_le _, rfl, Lib.hid (Ext.refl _)⟩
  case round =>
    obtain ⟨i, hi, rfl, HX⟩ := hrel
    by_cases hlt : i < n
    · have hin : (i : Int) < (n : Int) := by omega
      have hil : i < l.length := by rw [HN.out]; exact hlt
      have hl0 : 0 < l.length := by omega
      have hn0 : (0 : Int) < (n : Int) := by omega
      obtain ⟨b, off, rfl, hb, wv, mv, nv, hr, hri⟩ := (HS.out.ext HX.out).rec i hil
      obtain ⟨b', off', hbe, _, wv0, mv0, nv0, hr0, _⟩ := (HS.out.ext HX.out).rec 0 hl0
      injection hbe with hbe
      injection hbe with h1 h2 _
      subst h1 h2
      obtain ⟨hv, hg, hq⟩ := HOK.out.2 i hil
      obtain ⟨_, hg0, _⟩ := HOK.out.2 0 hl0
      have c0 : wr.cell? ⟨b, off, none⟩ = some (encU gen) := by
        have := hr0 0 (encU l[0].gen) rfl
        rw [hg0] at this
        simp only [Nat.zero_mul, Nat.add_zero] at this
        exact this
      generalize l[i] = x at *
      obtain ⟨a1, c1, a2, c2, a3, c3, rfl, rfl, rfl⟩ := hri.shape
      have HRI := Lib.hid hri
      have HV := Lib.hid hv
      have hsq : un x.seq = (i : Int) + 1 := by unfold un; omega
      clear hr0 hg0 hri hv
      go_wp2_with first | (refine wpList_loadR 52 _ rfl (by rfl) rfl (rec_load (r := x) hr) ?_) | (refine wpList_store_box 52 _ _ rfl (by rfl) rfl rfl (BoxAt.new wr recZ0 52) rfl (by kernel_rfl) (by simp [Value.oneCell']) ?_; intro W2 hS; have HX2 := Lib.hid (hS.fresh rfl); have HB2 : Hid (BoxAt W2 wr.heap.size (recA x (.slice a1 x.ws.length c1) (.slice a2 x.ms.length c2) (.slice a3 x.note.length c3)) 52) := hS.box; clear hS)
      have k0 := HB2.out.cell 0 (v := encU gen) (by rw [← hg]; rfl)
      have k1 := HB2.out.cell 1 (v := .int .u64 ((i : Int) + 1)) (by rw [← hsq]; rfl)
      have k2 := (HX2.out.cell _ _ hb).trans c0
      have kl := HB2.out.lt
      have hb2 := Nat.lt_of_lt_of_le hb HX2.out.size
      clear c0 hb
      refine wp_region_ext [(0, true), (1, false), (2, true), (3, true), (4, true), (5, true), (6, true), (7, true), (8, true), (9, true), (10, true), (11, true), (12, true), (13, true), (14, true), (15, true), (16, true), (17, true), (18, true), (19, true)] (by kernel_rfl) (by kernel_rfl) ?_
      (refine ext_load 52 rfl (by rfl) rfl (by rfl) (fun w' hS => rec_load (r := x) (box_range (HB2.out.ext hS))) ?_; simp only [Act.put, setZa, setZ0, setZ1])
      (refine ext_do rfl (by rfl) (fun K hK => ?_)
       go_simp
       go_at_call 84
       refine (recvalid_any x _ _ _ _ (HRI.out.ext (HX2.out.trans (by (repeat (first | (with_reducible exact Ext.alloc _ _) | (with_reducible exact Ext.refl _) | (with_reducible refine Ext.trans ?_ (Ext.drew _)) | (with_reducible refine Ext.trans ?_ (Ext.alloc _ _)))))))).mono ?_
       rintro e w5 ⟨rfl, hx5⟩
       rw [HV.out]
       have HX5 : Hid (Ext W2 w5) := Ext.trans (by (repeat (first | (with_reducible exact Ext.alloc _ _) | (with_reducible exact Ext.refl _) | (with_reducible refine Ext.trans ?_ (Ext.drew _)) | (with_reducible refine Ext.trans ?_ (Ext.alloc _ _))))) hx5
       have hc5 := HX5.out.cells
       have hs5 := HX5.out.size
       have kl5 := Nat.lt_of_lt_of_le kl hs5
       have hb5 := Nat.lt_of_lt_of_le hb2 hs5
       refine hK _ _ (by first | exact hx5 | exact (Ext.drew _).trans hx5) ?_
       clear hK K hx5
       (try simp only [Act.put, setZa, setZ0, setZ1]))
      iterate 18 ((first
       | refine ext_move rfl rfl (by rfl) (by rfl) ?_
       | refine ext_assign rfl rfl (by rfl) (by rfl) ?_
       | refine ext_pick_t rfl rfl (by rfl) (by rfl) (by rfl) ?_
       | refine ext_pick_f rfl rfl (by rfl) (by rfl) (by rfl) ?_
       | (apply ext_take rfl (by rfl)
          · intro w' hS
            have hSc := hS.cells
            (try simp only [World.size_drew, World.cell?_drew] at hSc)
            go_simp
            (try simp (disch := omega) only [u64_id, ↓IntWalk.iteOmega])
            try rfl)
       | refine ext_pass rfl (by rfl) ?_); simp only [Act.put, setZa, setZ0, setZ1])
      refine ext_nil ?_
      go_wp2_with fail
      go_roundw
      case rel => exact ⟨i + 1, by omega, by go_num, HX.out.trans (HX2.out.trans HX5.out)⟩
      case measure => simp [intOf]; omega
    · have hin : i = n := by omega
      subst hin
      have hin2 : ¬ ((i : Int) < (i : Int)) := by omega
      go_wp2_with fail
      go_ret
      exact ⟨rfl, HX.out⟩
end Go.Proofs.YtjabgpejmnpamaaGreatDoor

namespace Go.Proofs.YtjabgpejmnpamaaGreatDoor
open Go.RowKit
theorem infoSl : (Tryz.prog.info? 47).map (fun i => (i.zero, i.size, i.bytes)) = some (some (.slice none 0 0), 1, 24) := by kernel_rfl
theorem wpList_append_ownL {ops : Array Oper} {rest : List Oper} {o : Oper} {a : Act} {w : World} {Q : Exit → Act → World → Prop} (hgd : o.guard = none) (s x : Operand)
    (ho : o.op = .call { callee := .builtin .append, args := #[s, x], argTypes := #[33, 33] })
    (B : Nat) (v : Value) (S : List (List (BitVec 8))) (hs : a.eval s = v) (hown : OwnL w B v S) (v2 : Value) (S2 : List (List (BitVec 8))) (hx : a.eval x = v2) (h2 : OwnL w B v2 S2)
    (hn : S.length + S2.length ≤ 100000) (hbase : B ≤ w.heap.size)
    (h : ∀ v' w', OwnL w' B v' (S ++ S2) → w.grownBy w' v.ownBlock → wpList Tryz.prog ops Q rest (a.put o.dst v') w') : wpList Tryz.prog ops Q (o :: rest) a w := by
  obtain ⟨i0, hi, hz0, hz1, hz2⟩ := info_parts infoSl
  obtain ⟨vs, h1, hl1, h3⟩ := hown
  obtain ⟨us, g1, hl2, g3⟩ := h2
  refine wpList_append_slice (enc := encS) (fun _ => rfl) hgd s x 33 ho B 47 i0 (.slice none 0 0) 24 Tryz.underlying33 hi hz0 hz1 hz2 rfl v _ _ hs h1 v2 us hx g1.slice (by unfold maxLen; omega) (by omega) hbase (fun v' w' ho' hg' => h v' w' ?_ hg')
  have keep : ∀ {u : Value} {l : List (BitVec 8)}, OwnG encB 5 w B u l → OwnG encB 5 w' B u l := by
    intro u l hu
    refine OwnG.kept hu hg' ?_
    cases hv : u.ownBlock with
    | none => exact .inr rfl
    | some g => exact .inl fun e => rows_apart hu h1 (by decide) g hv e.symm
  refine ⟨vs ++ us, OwnG.app (enc := encS) ho', by rw [List.length_append, List.length_append, hl1, hl2], fun i a b => ?_⟩
  rw [List.length_append] at a b
  by_cases hi : i < vs.length
  · rw [List.getElem_append_left hi, List.getElem_append_left (by omega)]
    exact keep (h3 i hi (by omega))
  · rw [List.getElem_append_right (by omega), List.getElem_append_right (by omega)]
    simp only [hl1]
    exact keep (g3 (i - S.length) (by omega) (by omega))
theorem secsL_next {l : List Lg.Rec} {i : Nat} (h : i < l.length) : Lg.secsL (l.take (i + 1)) = Lg.secsL (l.take i) ++ Lg.secsR l[i] := by
  unfold Lg.secsL
  rw [List.take_succ_eq_append_getElem h, List.flatMap_append]; simp
theorem secsL_len {l : List Lg.Rec} (hf : ∀ i (h : i < l.length), (Lg.secsR l[i]).length ≤ 193) : ∀ i, i ≤ l.length → (Lg.secsL (l.take i)).length ≤ 193 * i
  | 0, _ => by simp [Lg.secsL]
  | i + 1, hi => by
    rw [secsL_next (by omega), List.length_append]
    have := secsL_len hf i (by omega)
    have := hf i (by omega)
    omega
theorem recR_ok {r : Lg.Rec} (h : Lg.validR r = true) : recR r = Lg.secsR r ∧ recN r = 0 := by
  unfold recR recN
  rw [if_pos h, if_pos h]
  exact ⟨rfl, rfl⟩
def SecEnd (w : World) (l : List Lg.Rec) (e : Ending) (w' : World) : Prop := ∃ v, e = .returned (.tuple #[v, .int .i64 0]) ∧ OwnL w' w.heap.size v (Lg.secsL l) ∧ Ext w w'
set_option maxRecDepth 100000 in
set_option maxHeartbeats 2000000 in
theorem sectors_any (gen : BitVec 64) (l : List Lg.Rec) (v : Value) (w : World) (hok : LogOk gen l) (h : SliceR PatR w v l) :
    Calls Tryz.prog 14 #[v] w (SecEnd w l) := by
  obtain ⟨ad, cap, rfl⟩ := h.shape
  have HLV := Lib.hid (logvalid_any gen l _ w hok h)
  have HBL : Hid (∀ i (hi : i < l.length), (Lg.secsR l[i]).length ≤ 193) := fun i hi => by
    obtain ⟨b, off, _, _, wv, mv, nv, _, hri⟩ := h.rec i hi
    have hB := blk_of hri.ws
    rw [Lg.secs_len]
    exact (Lg.parts_len (Lg.fine_of (hok.2 i hi).1) hB).2
  obtain ⟨n, hn⟩ : ∃ n, l.length = n := ⟨_, rfl⟩
  have HN := Lib.hid hn
  have HS := Lib.hid h
  have HOK := Lib.hid hok
  have hn6 : n ≤ 6 := by rw [← hn]; exact hok.1
  rw [hn] at HS HLV ⊢
  clear h hok hn
  go_enter Tryz.func14, Tryz.ntmps14
  go_wp2_with fail
  go_at_call 42
  refine HLV.out.mono ?_
  rintro e w1 ⟨rfl, hx1⟩
  have HX1 := Lib.hid hx1
  clear hx1 HLV
  go_wp2_with fail
  go_loopw [4, 14] (fun ov it wr => ∃ i : Nat, i ≤ n ∧ it = .int .i64 i ∧ Hid (OwnL wr w.heap.size ov (Lg.secsL (l.take i))) ∧ Hid (Ext w wr)) (fun _ it _ => n - (intOf it).toNat)
  case atStart => exact ⟨0, Nat.zero_le _, rfl, Lib.hid OwnL.nil, HX1⟩
  case round =>
    obtain ⟨i, hi, rfl, HO, HX⟩ := hrel
    by_cases hlt : i < n
    · have hin : (i : Int) < (n : Int) := by omega
      have hil : i < l.length := by rw [HN.out]; exact hlt
      obtain ⟨b, off, rfl, hb, wv, mv, nv, hr, hri⟩ := (HS.out.ext HX.out).rec i hil
      obtain ⟨hv, _, _⟩ := HOK.out.2 i hil
      have HNX := Lib.hid (secsL_next hil)
      have hlb := HBL.out i hil
      have hlo := secsL_len HBL.out i (by omega)
      generalize l[i] = x at *
      obtain ⟨a1, c1, a2, c2, a3, c3, rfl, rfl, rfl⟩ := hri.shape
      obtain ⟨hre, hrn⟩ := recR_ok hv
      have HRE := Lib.hid hre
      have HRN := Lib.hid hrn
      have HRI := Lib.hid hri
      obtain ⟨ao, co, rfl⟩ := HO.out.shape
      generalize Lg.secsL (l.take i) = L at *
      obtain ⟨ll, hll⟩ : ∃ ll, L.length = ll := ⟨_, rfl⟩
      have HLL := Lib.hid hll
      rw [hll] at HO hlo ⊢
      clear hri hv hre hrn hll
      go_wp2_with first | (refine wpList_loadR 52 _ rfl (by rfl) rfl (rec_load (r := x) hr) ?_) | (refine wpList_store_box 52 _ _ rfl (by rfl) rfl rfl (BoxAt.new wr recZ0 52) rfl (by kernel_rfl) (by simp [Value.oneCell']) ?_; intro W2 hS; have HX2 := Lib.hid (hS.fresh rfl); have HB2 : Hid (BoxAt W2 wr.heap.size (recA x (.slice a1 x.ws.length c1) (.slice a2 x.ms.length c2) (.slice a3 x.note.length c3)) 52) := hS.box; clear hS) | (refine wpList_loadR 52 _ rfl (by rfl) rfl (rec_load (r := x) (box_range HB2.out)) ?_)
      go_at_call 43
      refine (recencode_any x _ _ _ _ (HRI.out.ext HX2.out)).mono ?_
      rintro e w4 ⟨ev, rfl, hev, hx4⟩
      rw [HRE.out] at hev
      rw [HRN.out]
      have HX4 : Hid (Ext wr w4) := HX2.out.trans hx4
      have HO4 := Lib.hid (HO.out.ext HX4.out)
      have HEV := Lib.hid (hev.lower (show w.heap.size ≤ W2.heap.size from Nat.le_trans HX.out.size HX2.out.size))
      obtain ⟨ea, ec, rfl⟩ := hev.shape
      obtain ⟨sl, hsl⟩ : ∃ sl, (Lg.secsR x).length = sl := ⟨_, rfl⟩
      have HSL := Lib.hid hsl
      rw [hsl] at HEV hlb ⊢
      clear hev hx4 hsl
      go_wp2_with (at_builtin; refine Classical.byContradiction (fun hN => ?_))
      refine hN ?_
      clear hN
      refine wpList_append_ownL rfl _ _ rfl w.heap.size (.slice ao ll co) L rfl HO4.out (.slice ea sl ec) (Lg.secsR x) rfl HEV.out (by rw [HLL.out, HSL.out]; omega) (Nat.le_trans HX.out.size HX4.out.size) ?_
      intro v5 w5 ho5 hg5
      rw [← HNX.out] at ho5
      have HO5 := Lib.hid ho5
      have HX5 : Hid (Ext w w5) := Below.grown (HX.out.trans HX4.out) hg5 (HX.out.trans HX4.out).size (fun g hg => (HO4.out.lt g hg).1)
      clear ho5 hg5
      go_wp2_with fail
      go_roundw
      case rel => exact ⟨i + 1, by omega, by go_num, HO5, HX5⟩
      case measure => simp [intOf]; omega
    · have hin : i = n := by omega
      subst hin
      have hin2 : ¬ ((i : Int) < (i : Int)) := by omega
      rw [← HN.out, List.take_length] at HO
      go_wp2_with fail
      go_ret2
      exact ⟨_, rfl, HO.out, HX.out⟩
end Go.Proofs.YtjabgpejmnpamaaGreatDoor

namespace Go.Proofs.YtjabgpejmnpamaaGreatDoor
open Go.RowKit
abbrev RP := Lg.Rec × Value × Value × Value
def rpC (p : RP) : List Value := (recA p.1 p.2.1 p.2.2.1 p.2.2.2).toList
theorem rpC_len (p : RP) : (rpC p).length = 5 := rfl
theorem infoRc : (Tryz.prog.info? 52).map (fun i => (i.zero, i.size, i.bytes)) = some (some (.agg recZ0), 5, 88) := by kernel_rfl
structure RecB (lo hi : Nat) (w : World) (wv mv nv : Value) (r : Lg.Rec) : Prop where
  rin : RecIn w wv mv nv r
  fw : FreshV lo hi wv
  fm : FreshV lo hi mv
  fn : FreshV lo hi nv
theorem FreshV.wide {lo hi lo' hi' : Nat} {v : Value} (h : FreshV lo hi v) (h1 : lo' ≤ lo) (h2 : hi ≤ hi') : FreshV lo' hi' v := fun q hq => ⟨Nat.le_trans h1 (h q hq).1, Nat.lt_of_lt_of_le (h q hq).2 h2⟩
theorem RecB.wide {lo hi lo' hi' : Nat} {w : World} {wv mv nv : Value} {r : Lg.Rec} (h : RecB lo hi w wv mv nv r) (h1 : lo' ≤ lo) (h2 : hi ≤ hi') : RecB lo' hi' w wv mv nv r := ⟨h.rin, h.fw.wide h1 h2, h.fm.wide h1 h2, h.fn.wide h1 h2⟩
theorem RecB.ext {lo hi : Nat} {w w' : World} {wv mv nv : Value} {r : Lg.Rec} (h : RecB lo hi w wv mv nv r) (e : Ext w w') : RecB lo hi w' wv mv nv r := ⟨h.rin.ext e, h.fw, h.fm, h.fn⟩
theorem RecB.off {lo hi : Nat} {w w' : World} {wv mv nv : Value} {r : Lg.Rec} {row : Option Nat} (h : RecB lo hi w wv mv nv r) (hg : w.grownBy w' row) (hn : ∀ q, row = some q → q < lo ∨ hi ≤ q) : RecB lo hi w' wv mv nv r := by
  have key : ∀ {v : Value}, FreshV lo hi v → ∀ q, v.ownBlock = some q → row ≠ some q := fun hf q hq e => by
    have := hf q hq
    have := hn q e
    omega
  exact ⟨h.rin.grown hg (key h.fw) (key h.fm) (key h.fn), h.fw, h.fm, h.fn⟩
def PatRb (lo hi : Nat) : Pat Lg.Rec where
  size := 5
  holds := fun w cs r => ∃ wv mv nv, cs = (recA r wv mv nv).toList ∧ RecB lo hi w wv mv nv r
  ext := fun e ⟨wv, mv, nv, h1, h2⟩ => ⟨wv, mv, nv, h1, h2.ext e⟩
  len := fun ⟨_, _, _, h, _⟩ => by rw [h]; rfl
theorem SliceR.plain {lo hi : Nat} {w : World} {v : Value} {l : List Lg.Rec} (h : SliceR (PatRb lo hi) w v l) : SliceR PatR w v l := by
  obtain ⟨ad, cap, hv, hc, h⟩ := h
  refine ⟨ad, cap, hv, hc, h.imp id ?_⟩
  rintro ⟨b, off, h1, h2, h3⟩
  refine ⟨b, off, h1, h2, fun i hi => ?_⟩
  obtain ⟨cs, ⟨wv, mv, nv, h4, h5⟩, h6⟩ := h3 i hi
  exact ⟨cs, ⟨wv, mv, nv, h4, h5.rin⟩, h6⟩
structure LogB (lo hi : Nat) (w : World) (v : Value) (l : List Lg.Rec) : Prop where
  row : SliceR (PatRb lo hi) w v l
  fr : FreshV lo hi v
theorem LogB.ext {lo hi : Nat} {w w' : World} {v : Value} {l : List Lg.Rec} (h : LogB lo hi w v l) (e : Ext w w') : LogB lo hi w' v l := ⟨h.row.ext e, h.fr⟩
theorem LogB.off {lo hi : Nat} {w w' : World} {v : Value} {l : List Lg.Rec} {row : Option Nat} (h : LogB lo hi w v l) (hg : w.grownBy w' row) (hn : ∀ q, row = some q → q < lo ∨ hi ≤ q) : LogB lo hi w' v l :=
  ⟨h.row.grown hg (fun q hq e => by have := h.fr q hq; have := hn q e; omega) (fun cs x ⟨wv, mv, nv, h1, h2⟩ => ⟨wv, mv, nv, h1, h2.off hg hn⟩), h.fr⟩
def OutR (w : World) (B : Nat) (v : Value) (L : List Lg.Rec) : Prop :=
  ∃ ps : List RP, ps.length = L.length ∧ OwnR rpC 5 52 w B v ps ∧ ∀ i (h1 : i < ps.length) (h2 : i < L.length), ps[i].1 = L[i] ∧ RecB B w.heap.size w ps[i].2.1 ps[i].2.2.1 ps[i].2.2.2 L[i] ∧
    ∀ q, v.ownBlock = some q → ps[i].2.1.ownBlock ≠ some q ∧ ps[i].2.2.1.ownBlock ≠ some q ∧ ps[i].2.2.2.ownBlock ≠ some q
theorem OutR.nil {w : World} {B : Nat} : OutR w B (.slice none 0 0) [] := ⟨[], rfl, OwnR.nil, fun i h => absurd h (by simp)⟩
theorem OutR.ext {w w' : World} {B : Nat} {v : Value} {L : List Lg.Rec} (h : OutR w B v L) (e : Ext w w') : OutR w' B v L := by
  obtain ⟨ps, h1, h2, h3⟩ := h
  exact ⟨ps, h1, h2.ext e, fun i a b => ⟨(h3 i a b).1, ((h3 i a b).2.1.ext e).wide (Nat.le_refl _) e.size, (h3 i a b).2.2⟩⟩
theorem OutR.shape {w : World} {B : Nat} {v : Value} {L : List Lg.Rec} (h : OutR w B v L) : ∃ a c, v = .slice a L.length c := by
  obtain ⟨ps, h1, h2, _⟩ := h
  obtain ⟨a, c, e, _⟩ := h2.shape
  exact ⟨a, c, by rw [e, h1]⟩
theorem OutR.lt {w : World} {B : Nat} {v : Value} {L : List Lg.Rec} (h : OutR w B v L) : FreshV B w.heap.size v := by
  obtain ⟨ps, h1, h2, _⟩ := h
  exact h2.lt
theorem OutR.log {w : World} {B : Nat} {v : Value} {L : List Lg.Rec} (h : OutR w B v L) : LogB B w.heap.size w v L := by
  refine ⟨?_, h.lt⟩
  obtain ⟨ps, h1, h2, h3⟩ := h
  refine h2.toR rpC_len rfl h1.symm fun i a b => ?_
  obtain ⟨e, hr, _⟩ := h3 i b a
  exact ⟨_, _, _, by unfold rpC; rw [e], hr⟩
theorem wpList_append_rec {ops : Array Oper} {rest : List Oper} {o : Oper} {a : Act} {w : World} {Q : Exit → Act → World → Prop} (hgd : o.guard = none) (s x : Operand)
    (ho : o.op = .call { callee := .builtin .append, args := #[s, x], argTypes := #[46, 46] })
    (B : Nat) (v : Value) (L : List Lg.Rec) (hs : a.eval s = v) (hown : OutR w B v L) (r : Lg.Rec) (wv mv nv : Value) {w0 : World} {cs : Array Value} {t : TypeId} (hw : w = w0.alloc (.cells cs t)) (hcs : cs = recA r wv mv nv) (hx : a.eval x = .slice (some ⟨w0.heap.size, 0, none⟩) 1 1)
    (hr : RecB B w.heap.size w wv mv nv r) (hap : ∀ q, v.ownBlock = some q → wv.ownBlock ≠ some q ∧ mv.ownBlock ≠ some q ∧ nv.ownBlock ≠ some q)
    (h1 : wv.oneCell' = true) (h2 : mv.oneCell' = true) (h3 : nv.oneCell' = true) (hl : L.length ≤ 1000) (hbase : B ≤ w.heap.size)
    (h : ∀ v' w', OutR w' B v' (L ++ [r]) → w.grownBy w' v.ownBlock → (v'.ownBlock = v.ownBlock ∨ v'.ownBlock = some w.heap.size) → wpList Tryz.prog ops Q rest (a.put o.dst v') w') : wpList Tryz.prog ops Q (o :: rest) a w := by
  have hlt := hown.lt
  obtain ⟨ps, e1, e2, e3⟩ := hown
  refine wpList_append_ownR infoRc rfl rpC_len (by decide) Tryz.underlying46 hgd s x ho B v ps [(r, wv, mv, nv)] hs e2 hx rfl (by rw [hw]; exact one_src (by rw [hcs]; rfl)) ?_ (by rw [e1]; omega) (by decide) hbase (fun v' w' ho' hg' hv' => h v' w' ⟨ps ++ [(r, wv, mv, nv)], by rw [List.length_append, List.length_append, e1]; rfl, ho', fun i a b => ?_⟩ hg' hv')
  · intro q hq u hu
    rw [List.mem_singleton] at hq
    subst hq
    simp only [rpC, List.mem_cons, List.not_mem_nil, or_false] at hu
    rcases hu with rfl | rfl | rfl | rfl | rfl
    · rfl
    · rfl
    · exact h1
    · exact h2
    · exact h3
  · have hsz := hg'.size
    have key : ∀ {u m n : Value} {y : Lg.Rec}, RecB B w.heap.size w u m n y → (∀ q, v.ownBlock = some q → u.ownBlock ≠ some q ∧ m.ownBlock ≠ some q ∧ n.ownBlock ≠ some q) → RecB B w'.heap.size w' u m n y ∧ ∀ q, v'.ownBlock = some q → u.ownBlock ≠ some q ∧ m.ownBlock ≠ some q ∧ n.ownBlock ≠ some q := by
      intro u m n y hb ha
      refine ⟨⟨hb.rin.grown hg' (fun q hq e => (ha q e).1 hq) (fun q hq e => (ha q e).2.1 hq) (fun q hq e => (ha q e).2.2 hq), hb.fw.wide (Nat.le_refl _) hsz, hb.fm.wide (Nat.le_refl _) hsz, hb.fn.wide (Nat.le_refl _) hsz⟩, fun q hq => ?_⟩
      rcases hv' with hv' | hv'
      · rw [hv'] at hq; exact ha q hq
      · rw [hv'] at hq
        have := Option.some.inj hq
        subst this
        exact ⟨fun e => by have := (hb.fw _ e).2; omega, fun e => by have := (hb.fm _ e).2; omega, fun e => by have := (hb.fn _ e).2; omega⟩
    rw [List.length_append] at a b
    by_cases hi : i < L.length
    · rw [List.getElem_append_left (by omega), List.getElem_append_left hi]
      obtain ⟨g1, g2, g3⟩ := e3 i (by omega) hi
      exact ⟨g1, (key g2 g3).1, (key g2 g3).2⟩
    · rw [List.getElem_append_right (by omega), List.getElem_append_right (by omega)]
      simp only [List.getElem_singleton]
      exact ⟨trivial, (key hr hap).1, (key hr hap).2⟩
end Go.Proofs.YtjabgpejmnpamaaGreatDoor
