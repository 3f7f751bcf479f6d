/-
  Part 12 of the proof: Chapter 30 (label): bytes compared; what a read leaves behind, as a st Chapter 31 (election): lists of labels in memory; a label stored in a  Chapter 31 (election): lowest, with its helpers. Chapter 31 (election): mapped and lowest. Chapter 31 (election): outlives. Chapter 31 (election): the closure of sides, and IndexFunc over it. Chapter 31 (election): growing rows of growing rows of places; a map o
-/
import Derived.Test.YtjabgpejmnpamaaGreatDoorZ11
import Derived.Test.YtjabgpejmnpamaaGreatDoorZ10
import Derived.Maps.OwnOps
import Derived.Maps.Views
set_option linter.unusedVariables false
namespace Go.Proofs.YtjabgpejmnpamaaGreatDoor
open Go.ChangeShapes Go.WideShapes Go.ChangeAt Go.RowKit
def eqBB (x y : List (BitVec 8)) : Bool := decide (x = y)
theorem eqBB_len {x y : List (BitVec 8)} (h : x.length ≠ y.length) : eqBB x y = false := by unfold eqBB; rw [decide_eq_false_iff_not]; intro e; exact h (by rw [e])
theorem eqBB_at {x y : List (BitVec 8)} {i : Nat} (hx : i < x.length) (hy : i < y.length) (h : x[i] ≠ y[i]) : eqBB x y = false := by unfold eqBB; rw [decide_eq_false_iff_not]; intro e; subst e; exact h rfl
theorem eqBB_all {x y : List (BitVec 8)} (h : x.length = y.length) (ha : x.take x.length = y.take x.length) : eqBB x y = true := by
  unfold eqBB; rw [decide_eq_true_eq]
  rwa [List.take_length, h, List.take_length] at ha
theorem takeB_next {x y : List (BitVec 8)} {i : Nat} (hx : i < x.length) (hy : i < y.length) (h : x.take i = y.take i) (he : x[i] = y[i]) : x.take (i + 1) = y.take (i + 1) := by
  rw [List.take_succ_eq_append_getElem hx, List.take_succ_eq_append_getElem hy, h, he]
set_option maxRecDepth 100000 in
set_option maxHeartbeats 1000000 in
theorem eqslB_any (v1 v2 : Value) (x y : List (BitVec 8)) (w : World) (hlx : x.length ≤ 100000) (hly : y.length ≤ 100000) (hx : SliceAt encB w v1 x) (hy : SliceAt encB w v2 y) :
    Calls Tryz.prog 80 #[v1, v2] w (BoolEnd w (eqBB x y)) := by
  obtain ⟨ad1, cap1, rfl⟩ := hx.shape
  obtain ⟨ad2, cap2, rfl⟩ := hy.shape
  have HX := Lib.hid hx
  have HY := Lib.hid hy
  obtain ⟨n, hn⟩ : ∃ n, x.length = n := ⟨_, rfl⟩
  obtain ⟨m, hm⟩ : ∃ m, y.length = m := ⟨_, rfl⟩
  have HN := Lib.hid hn
  have HM := Lib.hid hm
  rw [hn] at HX hlx ⊢
  rw [hm] at HY hly ⊢
  clear hx hy hn hm
  by_cases hnm : n = m
  · subst hnm
    have hq1 : ((n : Int) == n) = true := by simp
    have hq2 : ((n : Int) != n) = false := by simp
    have HX0 : Hid (Ext w w) := Ext.refl _
    go_enter Tryz.func80, Tryz.ntmps80
    go_wp2_with fail
    go_loopw [13] (fun iv wr => ∃ i : Nat, i ≤ n ∧ iv = .int .i64 i ∧ Hid (x.take i = y.take i) ∧ Hid (Ext w wr)) (fun iv _ => n - (intOf iv).toNat)
    case atStart => exact ⟨0, Nat.zero_le _, rfl, by show _ = _; simp, HX0⟩
    case round =>
      obtain ⟨i, hi, rfl, HT, HXr⟩ := hrel
      by_cases hlt : i < n
      · have hin : (i : Int) < (n : Int) := by omega
        have hi0 : (0 : Int) ≤ (i : Int) := by omega
        obtain ⟨b1, off1, rfl, hb1, hc1⟩ := (HX.out.ext HXr.out).get i (by rw [HN.out]; exact hlt)
        obtain ⟨b2, off2, rfl, hb2, hc2⟩ := (HY.out.ext HXr.out).get i (by rw [HM.out]; exact hlt)
        have HNE : Hid (x[i]'(by rw [HN.out]; exact hlt) ≠ y[i]'(by rw [HM.out]; exact hlt) → eqBB x y = false) := fun h => eqBB_at _ _ h
        have HEQ : Hid (x[i]'(by rw [HN.out]; exact hlt) = y[i]'(by rw [HM.out]; exact hlt) → x.take (i + 1) = y.take (i + 1)) := fun h => takeB_next _ _ HT.out h
        generalize x[i]'(by rw [HN.out]; exact hlt) = p at *
        generalize y[i]'(by rw [HM.out]; exact hlt) = q at *
        by_cases hpq : p = q
        · subst hpq
          have q1 : (ub p == ub p) = true := by simp
          have q2 : (ub p != ub p) = false := by simp
          go_wp2_with fail
          refine wp_region_ext [(0, true), (1, true), (2, true), (3, true), (4, true), (5, true), (6, true), (7, true), (8, true)] (by kernel_rfl) (by kernel_rfl) ?_
          iterate 9 ((first
           | refine ext_move rfl rfl (by rfl) (by rfl) ?_
           | refine ext_assign rfl rfl (by rfl) (by rfl) ?_
           | refine ext_pick_t rfl rfl (by rfl) (by rfl) (by rfl) ?_
           | refine ext_pick_f rfl rfl (by rfl) (by rfl) (by rfl) ?_
           | (apply ext_take rfl (by rfl)
              · intro w' hS
                have hSc := hS.cells
                (try simp only [World.size_drew, World.cell?_drew] at hSc)
                go_simp
                (try simp (disch := omega) only [i64_id, u64_id, ↓IntWalk.iteOmega, Int.tdiv_eq_ediv_of_nonneg, Int.tmod_eq_emod_of_nonneg])
                try rfl)
           | refine ext_pass rfl (by rfl) ?_); simp only [Act.put, setZa, setZ0, setZ1])
          refine ext_nil ?_
          go_wp2_with fail
          go_roundw
          case rel => exact ⟨i + 1, by omega, by go_num, HEQ.out (by simp), HXr.out.trans (Ext.drew _)⟩
          case measure => simp [intOf]; omega
        · have q1 : (ub p == ub q) = false := by rw [beq_eq_false_iff_ne]; exact fun h => hpq (ub_inj h)
          have q2 : (ub p != ub q) = true := by rw [bne, q1]; rfl
          rw [HNE.out hpq]
          clear hpq
          go_wp2_with fail
          refine wp_region_ext [(0, true), (1, true), (2, true), (3, true), (4, true), (5, true), (6, true), (7, true), (8, true)] (by kernel_rfl) (by kernel_rfl) ?_
          iterate 9 ((first
           | refine ext_move rfl rfl (by rfl) (by rfl) ?_
           | refine ext_assign rfl rfl (by rfl) (by rfl) ?_
           | refine ext_pick_t rfl rfl (by rfl) (by rfl) (by rfl) ?_
           | refine ext_pick_f rfl rfl (by rfl) (by rfl) (by rfl) ?_
           | (apply ext_take rfl (by rfl)
              · intro w' hS
                have hSc := hS.cells
                (try simp only [World.size_drew, World.cell?_drew] at hSc)
                go_simp
                (try simp (disch := omega) only [i64_id, u64_id, ↓IntWalk.iteOmega, Int.tdiv_eq_ediv_of_nonneg, Int.tmod_eq_emod_of_nonneg])
                try rfl)
           | refine ext_pass rfl (by rfl) ?_); simp only [Act.put, setZa, setZ0, setZ1])
          refine ext_nil ?_
          go_wp2_with fail
          go_ret
          exact ⟨rfl, HXr.out.trans (Ext.drew _)⟩
      · have hin : i = n := by omega
        subst hin
        have hin2 : ¬ ((i : Int) < (i : Int)) := by omega
        go_wp2_with fail
        go_ret
        exact ⟨by rw [eqBB_all (HN.out.trans HM.out.symm) (by rw [HN.out]; exact HT.out)]; rfl, HXr.out⟩
  · have hb1 : ((n : Int) == m) = false := by rw [beq_eq_false_iff_ne]; omega
    have hb2 : ((n : Int) != m) = true := by rw [bne, hb1]; rfl
    rw [eqBB_len (by rw [HN.out, HM.out]; exact hnm)]
    go_enter Tryz.func80, Tryz.ntmps80
    go_wp2_with fail
    go_ret
    exact ⟨rfl, Ext.refl _⟩
theorem SliceAt.dropS {α : Type} {enc : α → Value} {w : World} {b off n cap lo : Nat} {l : List α} (h : SliceAt enc w (.slice (some ⟨b, off, none⟩) n cap) l) (h1 : lo ≤ l.length) (h2 : lo < cap) : SliceAt enc w (.slice (some ⟨b, off + lo, none⟩) (n - lo) (cap - lo)) (l.drop lo) := by
  obtain ⟨ad, c, hsh⟩ := h.shape
  have hn : n = l.length := by injection hsh
  have := h.cut lo l.length h1 (Nat.le_refl _)
  rw [subA, if_neg (by omega), Option.map_some, add_plain, List.take_of_length_le (by rw [List.length_drop]; omega)] at this
  rw [hn]; exact this
theorem SliceAt.takeS {α : Type} {enc : α → Value} {w : World} {b off n cap lo : Nat} {l : List α} (h : SliceAt enc w (.slice (some ⟨b, off, none⟩) n cap) l) (h1 : lo ≤ l.length) (h2 : 0 < cap) : SliceAt enc w (.slice (some ⟨b, off, none⟩) lo cap) (l.take lo) := by
  have := h.cut 0 lo (Nat.zero_le _) h1
  rw [subA, if_neg (by omega), Option.map_some, add_plain, List.drop_zero, Nat.sub_zero, Nat.sub_zero, Nat.add_zero] at this
  exact this
theorem SliceAt.inn {α : Type} {enc : α → Value} {w : World} {ad : Option Addr} {n cap : Nat} {l : List α} (h : SliceAt enc w (.slice ad n cap) l) (h0 : 0 < l.length) : n ≤ cap ∧ ∃ b off, ad = some ⟨b, off, none⟩ := by
  obtain ⟨ad', cap', hv, hc, h⟩ := h
  injection hv with e1 e2 e3
  subst e1 e2 e3
  refine ⟨hc, ?_⟩
  rcases h with ⟨rfl, _⟩ | ⟨b, off, ha, _⟩
  · simp at h0
  · exact ⟨b, off, ha⟩
theorem stU_len (s : Lb.St) : (Lb.stU s).2.2.length ≤ s.2.length := by
  unfold Lb.stU
  split
  · rename_i h; exact rd_len h
  · exact Nat.zero_le _
theorem stC_len (m : Int) (s : Lb.St) : (Lb.stC m s).2.2.length ≤ s.2.length := by
  unfold Lb.stC rdC
  cases h : rd s.1 s.2 with
  | none => exact Nat.zero_le _
  | some p =>
    obtain ⟨x, r⟩ := p
    have := rd_len h
    simp only
    split <;> rename_i h2
    · split at h2
      · simp only [Option.some.injEq, Prod.mk.injEq] at h2
        simp only
        rw [← h2.2]; exact this
      · cases h2
    · exact Nat.zero_le _
theorem stB_len (s : Lb.St) : (Lb.stB s).2.2.length ≤ s.2.length ∧ (Lb.stB s).1.length ≤ s.2.length := by
  unfold Lb.stB rdB
  cases h : rd s.1 s.2 with
  | none => exact ⟨Nat.zero_le _, Nat.zero_le _⟩
  | some p =>
    obtain ⟨x, r⟩ := p
    have := rd_len h
    simp only
    split <;> rename_i h2
    · split at h2
      · simp only [Option.some.injEq, Prod.mk.injEq] at h2
        simp only
        rw [← h2.1, ← h2.2, List.length_drop, List.length_take]; omega
      · cases h2
    · exact ⟨Nat.zero_le _, Nat.zero_le _⟩
structure Rds (W w : World) (b : Nat) (s : Lb.St) : Prop where
  ext : Ext W w
  ge : W.heap.size ≤ b
  rd : RdAt w b s.2 s.1
theorem Rds.after {W w w' : World} {b : Nat} {s s' : Lb.St} (h : Rds W w b s) (ha : After w w' b s'.2 s'.1) : Rds W w' b s' :=
  ⟨h.ext.grown ha.2 h.ext.size (fun q hq => by cases hq; exact h.ge), h.ge, ha.1⟩
theorem Rds.more {W w w' : World} {b : Nat} {s : Lb.St} (h : Rds W w b s) (e : Ext w w') : Rds W w' b s := ⟨h.ext.trans e, h.ge, h.rd.ext e⟩
def UEnd (W : World) (b : Nat) (s : Lb.St) (e : Ending) (w' : World) : Prop := ∃ err : Int, e = .returned (.tuple #[encU (Lb.stU s).1, .int .i64 err]) ∧ Rds W w' b (Lb.stU s).2
def CEnd (most : Int) (W : World) (b : Nat) (s : Lb.St) (e : Ending) (w' : World) : Prop := ∃ err : Int, e = .returned (.tuple #[.int .i64 (Lb.stC most s).1, .int .i64 err]) ∧ Rds W w' b (Lb.stC most s).2
def BEnd (W : World) (b : Nat) (s : Lb.St) (e : Ending) (w' : World) : Prop := ∃ v, ∃ err : Int, e = .returned (.tuple #[v, .int .i64 err]) ∧ SliceAt encB w' v (Lb.stB s).1 ∧ Rds W w' b (Lb.stB s).2
theorem uEnd_of {W w w' : World} {b : Nat} {s : Lb.St} {e : Ending} (h : Rds W w b s) (hp : UintPost w b (rd s.1 s.2) e w') : UEnd W b s e w' := by
  unfold UintPost at hp
  unfold UEnd Lb.stU
  split at hp
  · rename_i x r hr
    (try rw [hr])
    exact ⟨_, hp.1, h.after (s' := (false, r)) hp.2⟩
  · rename_i hr
    (try rw [hr])
    exact ⟨_, hp.1, h.after (s' := (true, [])) hp.2⟩
theorem suint_any (W w : World) (b : Nat) (s : Lb.St) (hl : s.2.length ≤ 100000) (h : Rds W w b s) :
    Calls Tryz.prog 124 #[.pointer (some ⟨b, 0, none⟩)] w (UEnd W b s) :=
  (uint_any w b s.2 s.1 hl h.rd).mono fun _ _ hp => uEnd_of h hp
theorem scount_any (most : Int) (W w : World) (b : Nat) (s : Lb.St) (hm : -9223372036854775808 ≤ most ∧ most ≤ 9223372036854775807) (hl : s.2.length ≤ 100000) (h : Rds W w b s) :
    Calls Tryz.prog 125 #[.pointer (some ⟨b, 0, none⟩), .int .i64 most] w (CEnd most W b s) :=
  (count_any w b s.2 s.1 most hm hl h.rd).mono fun _ _ hp => by
    unfold ReadPost at hp
    unfold CEnd Lb.stC
    split at hp
    · rename_i x r hr
      rw [hr]
      obtain ⟨v, h1, h2, h3⟩ := hp
      have h2 : v = .int .i64 x := h2
      subst h2
      exact ⟨_, h1, h.after (s' := (false, r)) h3⟩
    · rename_i hr
      rw [hr]
      exact ⟨_, hp.1, h.after (s' := (true, [])) hp.2⟩
theorem bEnd_of {W w w' : World} {b : Nat} {s : Lb.St} {e : Ending} (h : Rds W w b s) (hp : ReadPost IsBytes (.slice none 0 0) w b (rdB s.1 s.2) e w') : BEnd W b s e w' := by
  unfold ReadPost at hp
  unfold BEnd Lb.stB
  split at hp
  · rename_i x r hr
    (try rw [hr])
    obtain ⟨v, h1, h2, h3⟩ := hp
    exact ⟨v, _, h1, h2, h.after (s' := (false, r)) h3⟩
  · rename_i hr
    (try rw [hr])
    exact ⟨_, _, hp.1, SliceAt.nil, h.after (s' := (true, [])) hp.2⟩
theorem sbytes_any (W w : World) (b : Nat) (s : Lb.St) (hl : s.2.length ≤ 100000) (h : Rds W w b s) :
    Calls Tryz.prog 126 #[.pointer (some ⟨b, 0, none⟩)] w (BEnd W b s) :=
  (bytes_any w b s.2 s.1 hl h.rd).mono fun _ _ hp => bEnd_of h hp
theorem sdone_any (W w : World) (b : Nat) (s : Lb.St) (hl : s.2.length ≤ 100000) (h : Rds W w b s) :
    Calls Tryz.prog 127 #[.pointer (some ⟨b, 0, none⟩)] w fun e w' => e = .returned (.int .i64 (fin s.1 s.2)) ∧ w = w' := done_any w b s.2 s.1 hl h.rd
theorem snew_any (v : Value) (l : List (BitVec 8)) (w : World) (hl : l.length ≤ 100000) (h : SliceAt encB w v l) :
    Calls Tryz.prog 123 #[v] w fun e w' => ∃ b, e = .returned (.pointer (some ⟨b, 0, none⟩)) ∧ Rds w w' b (false, l) :=
  (new_any v l w hl h).mono fun _ _ ⟨b, h1, h2, h3, h4⟩ => ⟨b, h1, ⟨h4, h2, h3⟩⟩
def PartEnd (w0 : World) (o : Option (List (BitVec 8) × Int)) (e : Ending) (w' : World) : Prop :=
  ∃ (v : Value) (n : Int) (ok : Bool), e = .returned (.tuple #[v, .int .i64 n, .bool ok]) ∧ (ok = o.isSome) ∧ (∀ d, o = some d → n = d.2 ∧ SliceAt encB w' v d.1) ∧ Ext w0 w'
theorem partEnd_no {w0 w' : World} {o : Option (List (BitVec 8) × Int)} {e : Ending} {v : Value} {n : Int} (h : o = none) (he : e = .returned (.tuple #[v, .int .i64 n, .bool false])) (hx : Ext w0 w') : PartEnd w0 o e w' := by
  subst h
  exact ⟨v, n, false, he, rfl, (fun d h => by cases h), hx⟩
theorem partEnd_yes {w0 w' : World} {o : Option (List (BitVec 8) × Int)} {e : Ending} {v : Value} {n : Int} {d : List (BitVec 8)} (h : o = some (d, n)) (he : e = .returned (.tuple #[v, .int .i64 n, .bool true])) (hs : SliceAt encB w' v d) (hx : Ext w0 w') : PartEnd w0 o e w' := by
  subst h
  exact ⟨v, n, true, he, rfl, (fun d h => by cases h; exact ⟨rfl, hs⟩), hx⟩
theorem partT_short {b : List (BitVec 8)} (h : b.length < 9) : Lb.partT b = none := by
  unfold Lb.partT Lb.sealedB
  rw [decide_eq_false (by omega)]; simp
theorem partT_head {b : List (BitVec 8)} {x : BitVec 8} (h0 : 0 < b.length) (hb : b[0] = x) (h : x ≠ 76#8) : Lb.partT b = none := by
  unfold Lb.partT Lb.sealedB
  have : b.headD 0#8 = x := by cases b with
    | nil => simp at h0
    | cons a t => exact hb
  rw [this, beq_eq_false_iff_ne.2 h]; simp
theorem partT_seal {b : List (BitVec 8)} {m : Nat} (hm : b.length - 8 = m) (h : eqBB (Lb.sealL (b.take m)) b = false) : Lb.partT b = none := by
  unfold Lb.partT Lb.sealedB
  rw [hm, show decide (Lb.sealL (b.take m) = b) = false from h]; simp
theorem partT_good {b : List (BitVec 8)} {m : Nat} (hm : b.length - 8 = m) (h9 : 9 ≤ b.length) (hb : b[0] = 76#8) (h : eqBB (Lb.sealL (b.take m)) b = true) :
    Lb.partT b = if fin (Lb.stB (Lb.stC 6 (Lb.stU (Lb.stU (Lb.stU (false, (b.take m).drop 1)).2).2).2).2).2.1 (Lb.stB (Lb.stC 6 (Lb.stU (Lb.stU (Lb.stU (false, (b.take m).drop 1)).2).2).2).2).2.2 = 0 ∧ 1 ≤ (Lb.stC 6 (Lb.stU (Lb.stU (Lb.stU (false, (b.take m).drop 1)).2).2).2).1
      then some ((Lb.stB (Lb.stC 6 (Lb.stU (Lb.stU (Lb.stU (false, (b.take m).drop 1)).2).2).2).2).1, (Lb.stC 6 (Lb.stU (Lb.stU (Lb.stU (false, (b.take m).drop 1)).2).2).2).1) else none := by
  have hh : b.headD 0#8 = 76#8 := by cases b with
    | nil => simp at h9
    | cons a t => exact hb
  unfold Lb.partT Lb.sealedB
  rw [hm, hh, decide_eq_true h9, show decide (Lb.sealL (b.take m) = b) = true from h]
  rfl
end Go.Proofs.YtjabgpejmnpamaaGreatDoor
namespace Go.Proofs.YtjabgpejmnpamaaGreatDoor
open Go.ChangeShapes Go.WideShapes Go.ChangeAt Go.RowKit
set_option maxRecDepth 100000 in
set_option maxHeartbeats 4000000 in
theorem part_any (v : Value) (b : List (BitVec 8)) (w : World) (hl : b.length ≤ 1000) (h : SliceAt encB w v b) :
    Calls Tryz.prog 76 #[v] w (PartEnd w (Lb.partT b)) := by
  obtain ⟨ad, cap, rfl⟩ := h.shape
  have HB := Lib.hid h
  obtain ⟨n, hn⟩ : ∃ n, b.length = n := ⟨_, rfl⟩
  have HN := Lib.hid hn
  rw [hn] at HB hl ⊢
  clear h hn
  by_cases h9 : n < 9
  · have d1 : decide ((n : Int) < 9) = true := by rw [decide_eq_true_iff]; omega
    have d2 : decide (n < 9) = true := by rw [decide_eq_true_iff]; exact h9
    have HP := Lib.hid (partT_short (b := b) (by rw [HN.out]; exact h9))
    go_enter Tryz.func76, Tryz.ntmps76
    go_wp2_with fail
    go_ret3
    exact partEnd_no HP.out rfl (Ext.refl _)
  · have d1 : decide ((n : Int) < 9) = false := by rw [decide_eq_false_iff_not]; omega
    have d2 : decide (n < 9) = false := by rw [decide_eq_false_iff_not]; exact h9
    have h0 : 0 < b.length := by rw [HN.out]; omega
    have hn0 : (0 : Int) < (n : Int) := by omega
    obtain ⟨g, off, rfl, hg, hc⟩ := HB.out.get 0 h0
    obtain ⟨hcap, _⟩ := HB.out.inn h0
    obtain ⟨x, hx⟩ : ∃ x, b[0] = x := ⟨_, rfl⟩
    rw [hx, Nat.add_zero] at hc
    by_cases hx76 : x = 76#8
    · obtain ⟨m, hm⟩ : ∃ m, n = m + 8 := ⟨n - 8, by omega⟩
      subst hm
      have d3 : decide ((m : Int) + 8 < 9) = false := by rw [decide_eq_false_iff_not]; omega
      have hsub : ((m + 8 : Nat) : Int) - 8 = (m : Int) := by omega
      have hsub2 : (m : Int) + 8 - 8 = (m : Int) := by omega
      have hwr : IntKind.i64.wrap (m : Int) = (m : Int) := i64_id _ ⟨by omega, by omega⟩
      have hm8 : b.length - 8 = m := by rw [HN.out]; omega
      have hmb : m ≤ b.length := by rw [HN.out]; omega
      have HS8 := Lib.hid (HB.out.takeS (lo := m) hmb (by omega))
      have HD8 := Lib.hid (HS8.out.dropS (lo := 1) (by rw [List.length_take]; omega) (by omega))
      have HG := Lib.hid (fun h => partT_good (m := m) hm8 (by rw [HN.out]; omega) (hx.trans hx76) h)
      have HNO := Lib.hid (fun h => partT_seal (b := b) (m := m) hm8 h)
      obtain ⟨y, hy⟩ : ∃ y, b.take m = y := ⟨_, rfl⟩
      obtain ⟨z, hz⟩ : ∃ z, y.drop 1 = z := ⟨_, rfl⟩
      have hyl : y.length ≤ 1000 := by rw [← hy, List.length_take]; omega
      have hzl : z.length ≤ 1000 := by rw [← hz, List.length_drop]; omega
      rw [hy] at HS8 HD8 HG HNO
      rw [hz] at HD8 HG
      have q1 : (ub x == 76) = true := by subst hx76; rfl
      have q2 : (ub x != 76) = false := by subst hx76; rfl
      clear hm8 hmb hy hz hx hx76
      go_enter Tryz.func76, Tryz.ntmps76
      go_wp2_with fail
      go_at_call 122
      refine (clone_any _ y _ (by omega) HS8.out).mono ?_
      rintro e w1 ⟨v1, rfl, ho1, hx1⟩
      have HO1 := Lib.hid ho1
      have HX1 : Hid (Ext w w1) := hx1
      clear ho1 hx1
      go_wp2_with fail
      go_at_call 35
      refine (sealed_any _ y w.heap.size _ (by omega) HX1.out.size HO1.out).mono ?_
      rintro e w2 ⟨v2, rfl, ho2, hb2⟩
      have HX2 : Hid (Ext w w2) := Below.trans HX1.out hb2
      have HS2 := Lib.hid (OwnB.slice ho2)
      clear ho2 hb2
      go_wp2_with fail
      go_at_call 80
      refine (eqslB_any _ _ (Lb.sealL y) b _ (by rw [Lb.sealL_len]; omega) (by rw [HN.out]; omega) HS2.out (HB.out.ext HX2.out)).mono ?_
      rintro e w3 ⟨rfl, hx3⟩
      have HX3 : Hid (Ext w w3) := HX2.out.trans hx3
      clear hx3
      cases hq : eqBB (Lb.sealL y) b with
      | false =>
        have HP := Lib.hid (HNO.out hq)
        clear hq
        go_wp2_with fail
        go_ret3
        exact partEnd_no HP.out rfl HX3.out
      | true =>
        have HP := Lib.hid (HG.out hq)
        clear hq
        go_wp2_with fail
        go_at_call 123
        refine (snew_any _ z _ (by omega) (HD8.out.ext HX3.out)).mono ?_
        rintro e w4 ⟨rb, rfl, hr4⟩
        have HR4 := Lib.hid hr4
        have hz4 : (((false, z) : Lb.St)).2.length ≤ 1000 := hzl
        generalize ((false, z) : Lb.St) = s0 at *
        have hl1 := stU_len s0
        obtain ⟨s1, hs1⟩ : ∃ s1, (Lb.stU s0).2 = s1 := ⟨_, rfl⟩
        have hl2 := stU_len s1
        obtain ⟨s2, hs2⟩ : ∃ s2, (Lb.stU s1).2 = s2 := ⟨_, rfl⟩
        have hl3 := stU_len s2
        obtain ⟨s3, hs3⟩ : ∃ s3, (Lb.stU s2).2 = s3 := ⟨_, rfl⟩
        have hl4 := stC_len 6 s3
        obtain ⟨s4, hs4⟩ : ∃ s4, (Lb.stC 6 s3).2 = s4 := ⟨_, rfl⟩
        obtain ⟨hl5, hl6⟩ := stB_len s4
        obtain ⟨s5, hs5⟩ : ∃ s5, (Lb.stB s4).2 = s5 := ⟨_, rfl⟩
        rw [hs1] at HP hl1
        rw [hs2] at HP hl2
        rw [hs3] at HP hl3
        rw [hs4] at HP hl4
        rw [hs5] at HP hl5
        have H1 := Lib.hid hs1
        have H2 := Lib.hid hs2
        have H3 := Lib.hid hs3
        have H4 := Lib.hid hs4
        have H5 := Lib.hid hs5
        clear hr4 hs1 hs2 hs3 hs4 hs5 HD8 HS8 HNO HG HS2 HO1
        go_wp2_with fail
        go_at_call 124
        refine (suint_any w3 w4 rb s0 (by omega) HR4.out).mono ?_
        rintro e w5 ⟨er1, rfl, hr5⟩
        rw [H1.out] at hr5
        have HR5 := Lib.hid hr5
        clear hr5
        go_wp2_with fail
        go_at_call 124
        refine (suint_any w3 w5 rb s1 (by omega) HR5.out).mono ?_
        rintro e w6 ⟨er2, rfl, hr6⟩
        rw [H2.out] at hr6
        have HR6 := Lib.hid hr6
        clear hr6
        go_wp2_with fail
        go_at_call 124
        refine (suint_any w3 w6 rb s2 (by omega) HR6.out).mono ?_
        rintro e w7 ⟨er3, rfl, hr7⟩
        rw [H3.out] at hr7
        have HR7 := Lib.hid hr7
        clear hr7
        go_wp2_with fail
        go_at_call 125
        refine (scount_any 6 w3 w7 rb s3 (by decide) (by omega) HR7.out).mono ?_
        rintro e w8 ⟨er4, rfl, hr8⟩
        rw [H4.out] at hr8
        have HR8 := Lib.hid hr8
        clear hr8
        go_wp2_with fail
        go_at_call 126
        refine (sbytes_any w3 w8 rb s4 (by omega) HR8.out).mono ?_
        rintro e w9 ⟨dv, er5, rfl, hd9, hr9⟩
        rw [H5.out] at hr9
        have HR9 := Lib.hid hr9
        have HD9 := Lib.hid hd9
        clear hr9 hd9
        generalize (Lb.stC 6 s3).1 = N at *
        generalize (Lb.stB s4).1 = D at *
        go_wp2_with fail
        go_at_call 127
        refine (sdone_any w3 w9 rb s5 (by omega) HR9.out).mono ?_
        rintro e w10 ⟨rfl, rfl⟩
        obtain ⟨F, hF⟩ : ∃ F, fin s5.1 s5.2 = F := ⟨_, rfl⟩
        rw [hF] at HP ⊢
        clear hF
        by_cases hF0 : F = 0
        · subst hF0
          by_cases hN1 : 1 ≤ N
          · have d1 : decide (1 ≤ N) = true := by rw [decide_eq_true_iff]; exact hN1
            have HP2 := Lib.hid (HP.out.trans (if_pos ⟨rfl, hN1⟩))
            clear hN1
            go_wp2_with fail
            go_ret3
            exact partEnd_yes HP2.out rfl HD9.out (HX3.out.trans HR9.out.ext)
          · have d1 : decide (1 ≤ N) = false := by rw [decide_eq_false_iff_not]; exact hN1
            have HP2 := Lib.hid (HP.out.trans (if_neg (fun h => hN1 h.2)))
            clear hN1
            go_wp2_with fail
            go_ret3
            exact partEnd_no HP2.out rfl (HX3.out.trans HR9.out.ext)
        · have q3 : (F == 0) = false := by rw [beq_eq_false_iff_ne]; exact hF0
          have HP2 := Lib.hid (HP.out.trans (if_neg (fun h => hF0 h.1)))
          clear hF0
          go_wp2_with fail
          go_ret3
          exact partEnd_no HP2.out rfl (HX3.out.trans HR9.out.ext)
    · have q1 : (ub x == 76) = false := by rw [beq_eq_false_iff_ne]; exact fun h => hx76 (ub_inj h)
      have q2 : (ub x != 76) = true := by rw [bne, q1]; rfl
      have HP := Lib.hid (partT_head h0 hx hx76)
      clear hx hx76
      go_enter Tryz.func76, Tryz.ntmps76
      go_wp2_with fail
      go_ret3
      exact partEnd_no HP.out rfl (Ext.refl _)
end Go.Proofs.YtjabgpejmnpamaaGreatDoor
namespace Go.Proofs.YtjabgpejmnpamaaGreatDoor
open Go.ChangeShapes Go.WideShapes Go.ChangeAt Go.RowKit
end Go.Proofs.YtjabgpejmnpamaaGreatDoor
namespace Go.Proofs.YtjabgpejmnpamaaGreatDoor
open Go.ChangeShapes Go.WideShapes Go.ChangeAt Go.RowKit
theorem setCells_other {g : Nat} : ∀ (vs : List Value) (o : Nat) (w : World) (k : Nat), k ≠ g → (w.setCells g o vs).heap[k]? = w.heap[k]?
  | [], _, _, _, _ => rfl
  | v :: r, o, w, k, h => by rw [World.setCells, setCells_other r _ _ k h]; exact Below.heap_setCell _ _ _ k h
theorem setCells_size (b : Nat) : ∀ (vs : List Value) (o : Nat) (w : World), (w.setCells b o vs).heap.size = w.heap.size
  | [], _, _ => rfl
  | v :: r, o, w => by rw [World.setCells, setCells_size b r, World.size_setCell]
theorem Ext.setCells {w0 : World} {b : Nat} (hb : w0.heap.size ≤ b) : ∀ (vs : List Value) (o : Nat) (w : World), Ext w0 w → Ext w0 (w.setCells b o vs)
  | [], _, _, h => h
  | v :: r, o, w, h => by rw [World.setCells]; exact Ext.setCells hb r _ _ (Ext.setOwn h hb)
theorem box_setCells {b : Nat} {t : TypeId} : ∀ (vs : List Value) (o : Nat) (w : World) (cs : Array Value), BoxAt w b cs t → o + vs.length ≤ cs.size → ∃ cs' : Array Value, BoxAt (w.setCells b o vs) b cs' t ∧ cs'.size = cs.size ∧ (∀ i, i < o → cs'[i]? = cs[i]?) ∧ ∀ i, i < vs.length → cs'[o + i]? = vs[i]?
  | [], o, w, cs, h, _ => ⟨cs, h, rfl, fun _ _ => rfl, fun i hi => absurd hi (by simp)⟩
  | v :: r, o, w, cs, h, hl => by
    rw [World.setCells]
    simp only [List.length_cons] at hl
    obtain ⟨cs', h1, h2, h3, h4⟩ := box_setCells r (o + 1) _ _ (h.set o v) (by simp; omega)
    refine ⟨cs', h1, by rw [h2]; simp, fun i hi => ?_, fun i hi => ?_⟩
    · rw [h3 i (by omega), Array.getElem?_setIfInBounds_ne (by omega)]
    · cases i with
      | zero =>
        rw [Nat.add_zero, h3 o (by omega), Array.getElem?_setIfInBounds_self]
        simp [show o < cs.size by omega]
      | succ i =>
        have := h4 i (by simpa using hi)
        rw [show o + 1 + i = o + (i + 1) by omega] at this
        rw [this]; rfl
theorem BoxAt.setCells {w : World} {b : Nat} {t : TypeId} {cs : Array Value} (h : BoxAt w b cs t) (vs : List Value) (hl : vs.length = cs.size) : BoxAt (w.setCells b 0 vs) b vs.toArray t := by
  obtain ⟨cs', h1, h2, _, h4⟩ := box_setCells vs 0 w cs h (by omega)
  have : cs' = vs.toArray := by
    apply Array.ext_getElem?
    intro i
    by_cases hi : i < vs.length
    · have := h4 i hi
      rw [Nat.zero_add] at this
      rw [this]; simp
    · rw [Array.getElem?_eq_none (by omega), Array.getElem?_eq_none (by simp; omega)]
  rw [← this]; exact h1
theorem labA_one {l : Lab} {d : Value} (hd : d.oneCell' = true) : (labA l d).all (·.oneCell') = true := by
  cases d <;> simp_all [labA, Value.oneCell']
theorem lab_store {w : World} {g : Nat} {cs : Array Value} {t : TypeId} {l : Lab} {d : Value} (h : BoxAt w g cs t) (hs : cs.size = 19) (hd : d.oneCell' = true) :
    (Instr.storeAt 29 (.pointer (some ⟨g, 0, none⟩)) (labV l d)).run Tryz.prog w = .ok () (w.setCells g 0 (labA l d).toList) :=
  run_storeAt_mid w g 0 _ (labA l d) (fun j hj => ⟨by rw [Nat.zero_add]; obtain ⟨v, hv⟩ : ∃ v, cs[j]? = some v := ⟨_, Array.getElem?_eq_getElem (by rw [hs]; exact hj)⟩; rw [h.cell j hv]; rfl, by rw [Nat.zero_add]; exact h.free j⟩) info_lab (labA_one hd)
theorem wpList_store_lab2 {ops : Array Oper} {rest : List Oper} {o : Oper} {a : Act} {w w0 : World} {Q : Exit → Act → World → Prop} (x y : Operand) (ho : o.op = .store 29 x y)
    (hw : Region.wanted o (yielded ops a.tmps) = true) {g : Nat} {cs : Array Value} {t : TypeId} {l : Lab} {d : Value} (hx : a.eval x = .pointer (some ⟨g, 0, none⟩)) (hy : a.eval y = labV l d) (hb : BoxAt w g cs t) (hs : cs.size = 19) (hd : d.oneCell' = true)
    (he : Ext w0 w) (hg : w0.heap.size ≤ g)
    (h : ∀ w', Ext w0 w' → BoxAt w' g (labA l d) t → (∀ k, k ≠ g → w'.heap[k]? = w.heap[k]?) → wpList Tryz.prog ops Q rest (a.put o.dst undef) w') : wpList Tryz.prog ops Q (o :: rest) a w := by
  refine wpList_step fun K hK => ?_
  rw [if_pos hw]
  unfold Oper.wp execOp
  simp only [ho, hx, hy, Sem.run_bind, Sem.run_pure, Result.andThen_ok, lab_store hb hs hd]
  refine hK _ _ (h _ (Ext.setCells hg _ _ _ he) ?_ (fun k hk => setCells_other _ _ _ k hk))
  have := hb.setCells (labA l d).toList (by rw [hs]; rfl)
  simpa using this
theorem grown_setCells (b : Nat) : ∀ (vs : List Value) (o : Nat) (w : World), w.grownBy (w.setCells b o vs) (some b)
  | [], _, w => grown_refl w _
  | v :: r, o, w => by rw [World.setCells]; exact grown_trans (grown_set w b o v) (grown_setCells b r _ _)
theorem wpList_store_lab3 {ops : Array Oper} {rest : List Oper} {o : Oper} {a : Act} {w : World} {Q : Exit → Act → World → Prop} (x y : Operand) (ho : o.op = .store 29 x y)
    (hw : Region.wanted o (yielded ops a.tmps) = true) {g : Nat} {cs : Array Value} {t : TypeId} {l : Lab} {d : Value} (hx : a.eval x = .pointer (some ⟨g, 0, none⟩)) (hy : a.eval y = labV l d) (hb : BoxAt w g cs t) (hs : cs.size = 19) (hd : d.oneCell' = true)
    (h : ∀ w', w.grownBy w' (some g) → BoxAt w' g (labA l d) t → wpList Tryz.prog ops Q rest (a.put o.dst undef) w') : wpList Tryz.prog ops Q (o :: rest) a w := by
  refine wpList_step fun K hK => ?_
  rw [if_pos hw]
  unfold Oper.wp execOp
  simp only [ho, hx, hy, Sem.run_bind, Sem.run_pure, Result.andThen_ok, lab_store hb hs hd]
  refine hK _ _ (h _ (grown_setCells _ _ _ _) ?_)
  have := hb.setCells (labA l d).toList (by rw [hs]; rfl)
  simpa using this
theorem lab_result {w : World} {g : Nat} {l : Lab} {d : Value} {t : TypeId} (h : BoxAt w g (labA l d) t) : (loadVar 29 ⟨g, 0, none⟩).run Tryz.prog w = .ok (labV l d) w :=
  run_loadVar_mid w g 0 _ (labA l d).toList _ (LabAt.of_box h).1 Tryz.underlying29 rfl info_lab
theorem results_cell_tmp1 {P : Program} {fn : Func} {p a : Tmp} {ty : TypeId} (h : fn.results = #[.cell p ty, .tmp a]) (tmps : Array Value) (w : World) {g : Nat} {v : Value}
    (hp : tmps.getD p undef = .pointer (some ⟨g, 0, none⟩)) (hl : (loadVar ty ⟨g, 0, none⟩).run P w = .ok v w) :
    (results fn tmps).run P w = .ok (.tuple #[v, tmps.getD a undef]) w := by
  have hp' : tmps[p]?.getD undef = .pointer (some ⟨g, 0, none⟩) := by simpa using hp
  simp [results, h, hp', asAddr, hl]
section
variable {P : Program} {l : List Oper} {Q : Exit → Act → World → Prop} {i : Nat} {o : Oper} {r : List (Nat × Bool)} {a : Act} {b w : World} {B : Nat} {S : World → Prop}
theorem bel_last (ho : nth l i = some o) (hw : Region.wanted o (yielded l.toArray a.tmps) = true) (hc : coversB .any l.toArray i = true)
    (k : ∀ K : Act → World → Prop, (∀ a' w', Q .normal a' w' → K a' w') → o.wp P a w K (Calm Q)) : wpBel P l Q [(i, false)] B b a w :=
  ord_do (nth_get ho) hw fun K hK => k K fun a' w' h2 => hK (fun _ => True) a' w' (.inr hc) trivial h2
theorem fix_load {p v : Value} (ty : TypeId) {x : Operand}
    (ho : nth l i = some o) (hw : Region.wanted o (yielded l.toArray a.tmps) = true) (hop : o.op = .load ty x) (hx : evalL a x = some p) (h : ∀ w', S w' → (Instr.loadAt ty p).run P w' = .ok v w')
    (k : wpFix P l Q r S (a.put o.dst v) w) : wpFix P l Q ((i, true) :: r) S a w :=
  fix_take ho hw (fun w' hS => by
    unfold execOp
    simp only [hop, evalL_eq hx, Sem.run_bind, Sem.run_pure, Result.andThen_ok, h w' hS]) k
end
theorem lab_nb {w : World} {g : Nat} {l : Lab} {d : Value} {t : TypeId} (h : BoxAt w g (labA l d) t) (hd : ∀ c : BitVec 8, d ≠ encB c) : ∀ j (c : BitVec 8), w.cell? ⟨g, j, none⟩ ≠ some (encB c) := by
  intro j c hc
  unfold World.cell? at hc
  simp only [show w.heap[g]? = _ from h, Option.isSome_none, Bool.false_eq_true, if_false] at hc
  have hm : encB c ∈ (labA l d) := by
    have : (labA l d)[j]? = some (encB c) := by simpa using hc
    exact Array.mem_of_getElem? this
  simp only [List.mem_toArray, List.mem_cons, List.not_mem_nil, or_false] at hm
  rcases hm with h | h | h | h | h | h | h | h | h | h | h | h | h | h | h | h | h | h | h
  all_goals first | (cases h; done) | exact hd c h.symm
structure PS (W w : World) (rb g : Nat) (s : Lb.St) (l : Lab) (d : Value) : Prop where
  rds : Rds W w rb s
  box : BoxAt w g (labA l d) 29
  ge : W.heap.size ≤ g
  ne : rb ≠ g
  dn : ∀ c : BitVec 8, d ≠ encB c
section
variable {W w w' : World} {rb g : Nat} {s s' : Lb.St} {l l' : Lab} {d d' : Value}
theorem PS.more (h : PS W w rb g s l d) (e : Ext w w') : PS W w' rb g s l d := ⟨h.rds.more e, h.box.ext e, h.ge, h.ne, h.dn⟩
theorem PS.after (h : PS W w rb g s l d) (ha : After w w' rb s'.2 s'.1) : PS W w' rb g s' l d :=
  ⟨h.rds.after ha, h.box.grown ha.2 (fun e => h.ne (Option.some.inj e).symm), h.ge, h.ne, h.dn⟩
theorem PS.turn (h : PS W w rb g s l d) (hg : w.grownBy w' (some g)) (hb : BoxAt w' g (labA l' d') 29) (hd : ∀ c : BitVec 8, d' ≠ encB c) : PS W w' rb g s l' d' :=
  ⟨⟨h.rds.ext.grown hg h.rds.ext.size (fun q hq => by cases hq; exact h.ge), h.rds.ge, h.rds.rd.turn (lab_nb h.box h.dn) hg h.ne⟩, hb, h.ge, h.ne, hd⟩
theorem PS.store (h : PS W w rb g s l d) (i : Nat) (x : Value) (hx : (labA l d).setIfInBounds i x = labA l' d') (hd : ∀ c : BitVec 8, d' ≠ encB c) : PS W (w.setCell ⟨g, i, none⟩ x) rb g s l' d' :=
  h.turn (grown_set _ _ _ _) (by rw [← hx]; exact h.box.set i x) hd
end
section
variable {W w : World} {rb g : Nat} {s : Lb.St} {l : Lab} {d : Value}
def PU (W : World) (w : World) (rb g : Nat) (s : Lb.St) (l : Lab) (d : Value) (e : Ending) (w' : World) : Prop := ∃ err : Int, e = .returned (.tuple #[encU (Lb.stU s).1, .int .i64 err]) ∧ PS W w' rb g (Lb.stU s).2 l d ∧ w.grownBy w' (some rb)
def PC (most : Int) (W : World) (w : World) (rb g : Nat) (s : Lb.St) (l : Lab) (d : Value) (e : Ending) (w' : World) : Prop := ∃ err : Int, e = .returned (.tuple #[.int .i64 (Lb.stC most s).1, .int .i64 err]) ∧ PS W w' rb g (Lb.stC most s).2 l d ∧ w.grownBy w' (some rb)
def PB (W : World) (w : World) (rb g : Nat) (s : Lb.St) (l : Lab) (d : Value) (e : Ending) (w' : World) : Prop := ∃ v, ∃ err : Int, e = .returned (.tuple #[v, .int .i64 err]) ∧ SliceAt encB w' v (Lb.stB s).1 ∧ PS W w' rb g (Lb.stB s).2 l d ∧ w.grownBy w' (some rb)
theorem pu_of {e : Ending} {w' : World} (h : PS W w rb g s l d) (hp : UintPost w rb (rd s.1 s.2) e w') : PU W w rb g s l d e w' := by
  unfold UintPost at hp
  unfold PU Lb.stU
  split at hp
  · rename_i x r hr
    (try rw [hr])
    exact ⟨_, hp.1, h.after (s' := (false, r)) hp.2, hp.2.2⟩
  · rename_i hr
    (try rw [hr])
    exact ⟨_, hp.1, h.after (s' := (true, [])) hp.2, hp.2.2⟩
theorem puint_any (hl : s.2.length ≤ 100000) (h : PS W w rb g s l d) : Calls Tryz.prog 124 #[.pointer (some ⟨rb, 0, none⟩)] w (PU W w rb g s l d) :=
  (uint_any w rb s.2 s.1 hl h.rds.rd).mono fun _ _ hp => pu_of h hp
theorem pcount_any (most : Int) (hm : -9223372036854775808 ≤ most ∧ most ≤ 9223372036854775807) (hl : s.2.length ≤ 100000) (h : PS W w rb g s l d) : Calls Tryz.prog 125 #[.pointer (some ⟨rb, 0, none⟩), .int .i64 most] w (PC most W w rb g s l d) :=
  (count_any w rb s.2 s.1 most hm hl h.rds.rd).mono fun _ _ hp => by
    unfold ReadPost at hp
    unfold PC Lb.stC
    split at hp
    · rename_i x r hr
      rw [hr]
      obtain ⟨v, h1, h2, h3⟩ := hp
      have h2 : v = .int .i64 x := h2
      subst h2
      exact ⟨_, h1, h.after (s' := (false, r)) h3, h3.2⟩
    · rename_i hr
      rw [hr]
      exact ⟨_, hp.1, h.after (s' := (true, [])) hp.2, hp.2.2⟩
theorem pb_of {e : Ending} {w' : World} (h : PS W w rb g s l d) (hp : ReadPost IsBytes (.slice none 0 0) w rb (rdB s.1 s.2) e w') : PB W w rb g s l d e w' := by
  unfold ReadPost at hp
  unfold PB Lb.stB
  split at hp
  · rename_i x r hr
    (try rw [hr])
    obtain ⟨v, h1, h2, h3⟩ := hp
    exact ⟨v, _, h1, h2, h.after (s' := (false, r)) h3, h3.2⟩
  · rename_i hr
    (try rw [hr])
    exact ⟨_, _, hp.1, SliceAt.nil, h.after (s' := (true, [])) hp.2, hp.2.2⟩
theorem pbytes_any (hl : s.2.length ≤ 100000) (h : PS W w rb g s l d) : Calls Tryz.prog 126 #[.pointer (some ⟨rb, 0, none⟩)] w (PB W w rb g s l d) :=
  (bytes_any w rb s.2 s.1 hl h.rds.rd).mono fun _ _ hp => pb_of h hp
end
def PEnd (W w : World) (rb g : Nat) (v : Value) (s : Lb.St) (l : Lab) (d : Value) (e : Ending) (w' : World) : Prop := ∃ err : Int, e = .returned (.tuple #[v, .int .i64 err]) ∧ PS W w' rb g s l d ∧ w.grownBy w' (some rb)
section
variable {W w : World} {rb g : Nat} {s s' : Lb.St} {l : Lab} {d : Value}
theorem puint' {x : BitVec 64} (hst : Lb.stU s = (x, s')) (hl : s.2.length ≤ 100000) (h : PS W w rb g s l d) : Calls Tryz.prog 124 #[.pointer (some ⟨rb, 0, none⟩)] w (PEnd W w rb g (encU x) s' l d) := by
  have := puint_any hl h
  unfold PU at this
  rw [hst] at this
  exact this
theorem pcount' {n : Int} (most : Int) (hm : -9223372036854775808 ≤ most ∧ most ≤ 9223372036854775807) (hst : Lb.stC most s = (n, s')) (hl : s.2.length ≤ 100000) (h : PS W w rb g s l d) : Calls Tryz.prog 125 #[.pointer (some ⟨rb, 0, none⟩), .int .i64 most] w (PEnd W w rb g (.int .i64 n) s' l d) := by
  have := pcount_any most hm hl h
  unfold PC at this
  rw [hst] at this
  exact this
theorem pbytes' {b : List (BitVec 8)} (hst : Lb.stB s = (b, s')) (hl : s.2.length ≤ 100000) (h : PS W w rb g s l d) : Calls Tryz.prog 126 #[.pointer (some ⟨rb, 0, none⟩)] w fun e w' => ∃ v, SliceAt encB w' v b ∧ PEnd W w rb g v s' l d e w' := by
  have := pbytes_any hl h
  unfold PB at this
  rw [hst] at this
  exact this.mono fun e w' ⟨v, er, h1, h2, h3, h4⟩ => ⟨v, h2, er, h1, h3, h4⟩
end
theorem stU_len' {s s' : Lb.St} {x : BitVec 64} (h : Lb.stU s = (x, s')) : s'.2.length ≤ s.2.length := by have := stU_len s; rw [h] at this; exact this
theorem stC_len' {s s' : Lb.St} {n m : Int} (h : Lb.stC m s = (n, s')) : s'.2.length ≤ s.2.length := by have := stC_len m s; rw [h] at this; exact this
theorem stB_len' {s s' : Lb.St} {b : List (BitVec 8)} (h : Lb.stB s = (b, s')) : s'.2.length ≤ s.2.length ∧ b.length ≤ s.2.length := by have := stB_len s; rw [h] at this; exact this
theorem stN_len' {f : Lb.St → Int × Lb.St} (hf : ∀ s, (f s).2.2.length ≤ s.2.length) (s : Lb.St) : ∀ k, (Lb.stN f k s).2.2.length ≤ s.2.length
  | 0 => Nat.le_refl _
  | k + 1 => Nat.le_trans (hf _) (stN_len' hf s k)
theorem stN_next {f : Lb.St → Int × Lb.St} {s t t' : Lb.St} {k : Nat} {ns : List Int} {n : Int} (h : Lb.stN f k s = (ns, t)) (hf : f t = (n, t')) : Lb.stN f (k + 1) s = (ns ++ [n], t') := by
  rw [Lb.stN, h]; simp only; rw [hf]
theorem stN_facts {f : Lb.St → Int × Lb.St} (hf : ∀ s, (f s).2.2.length ≤ s.2.length) {s t : Lb.St} {k : Nat} {ns : List Int} (h : Lb.stN f k s = (ns, t)) : ns.length = k ∧ t.2.length ≤ s.2.length := by
  have h1 := Lb.stN_len f s k
  have h2 := stN_len' hf s k
  rw [h] at h1 h2
  exact ⟨h1, h2⟩
theorem parseT_of {p : List (BitVec 8)} {s1 s2 s3 s4 s5 s6 s7 s8 s9 : Lb.St} {A G P su r : BitVec 64} {D z : Int} {ns : List Int} {B : List (BitVec 8)} (h1 : Lb.stU (false, p) = (A, s1)) (h2 : Lb.stC 60 s1 = (D, s2)) (h3 : Lb.stU s2 = (G, s3)) (h4 : Lb.stU s3 = (P, s4))
    (h5 : Lb.stN (Lb.stC 2147483647) 11 s4 = (ns, s5)) (h6 : Lb.stB s5 = (B, s6)) (h7 : Lb.stC 1048576 s6 = (z, s7)) (h8 : Lb.stU s7 = (su, s8)) (h9 : Lb.stU s8 = (r, s9)) :
    Lb.parseT p = ((⟨A, D, G, P, Lb.cfgOf ns, z, su, r⟩, Lb.deadP (Lb.cfgOf ns).d B), decide (fin s9.1 s9.2 = 0) && validL ⟨A, D, G, P, Lb.cfgOf ns, z, su, r⟩ (Lb.deadP (Lb.cfgOf ns).d B)) := by
  unfold Lb.parseT
  simp only [h1, h2, h3, h4, h5, h6, h7, h8, h9]
theorem fix_passE {P : Program} {l : List Oper} {Q : Exit → Act → World → Prop} {i : Nat} {o : Oper} {r : List (Nat × Bool)} {S : World → Prop} {a : Act} {w : World} (ho : nth l i = some o) (hw : Region.wanted o (yielded l.toArray a.tmps) = false) (hS : S w)
    (k : wpFix P l Q r S (a.put o.dst undef) w) : wpFix P l Q ((i, false) :: r) S a w := ord_passE (nth_get ho) hw hS k
theorem cfg_snoc (ns : List Int) (n : Int) (i : Nat) (h : ns.length = i) (hi : i < 11) (A : BitVec 64) (D : Int) (G P : BitVec 64) (z : Int) (s r : BitVec 64) (d : Value) :
    (labA ⟨A, D, G, P, Lb.cfgOf ns, z, s, r⟩ d).setIfInBounds (4 + i) (.int .i64 n) = labA ⟨A, D, G, P, Lb.cfgOf (ns ++ [n]), z, s, r⟩ d := by
  subst h
  rcases ns with _ | ⟨x0, _ | ⟨x1, _ | ⟨x2, _ | ⟨x3, _ | ⟨x4, _ | ⟨x5, _ | ⟨x6, _ | ⟨x7, _ | ⟨x8, _ | ⟨x9, _ | ⟨x10, rest⟩⟩⟩⟩⟩⟩⟩⟩⟩⟩⟩
  all_goals first | rfl | (simp only [List.length_cons] at hi; omega)
def deadTo (b : List (BitVec 8)) (i : Nat) : List Bool := (List.range i).map fun i => (b.getD (i / 8) 0#8).getLsbD (i % 8)
theorem deadTo_len (b : List (BitVec 8)) (i : Nat) : (deadTo b i).length = i := by unfold deadTo; simp
theorem deadTo_next (b : List (BitVec 8)) (i : Nat) : deadTo b (i + 1) = deadTo b i ++ [(b.getD (i / 8) 0#8).getLsbD (i % 8)] := by unfold deadTo; rw [List.range_succ, List.map_append]; rfl
theorem deadP_to (D : Int) (b : List (BitVec 8)) : Lb.deadP D b = deadTo b (min D.toNat (8 * b.length)) := rfl
theorem grown_own {w0 wr w' : World} {row : Option Nat} {g : Nat} (h : w0.grownBy wr (some g)) (k : wr.grownBy w' row) (hr : ∀ q, row = some q → w0.heap.size ≤ q) : w0.grownBy w' (some g) :=
  ⟨k.os.trans h.os, k.tape.trans h.tape, k.output.trans h.output, Nat.le_trans h.size k.size, fun i hi hne => (k.block i (Nat.lt_of_lt_of_le hi h.size) (fun e => by have := hr i e.symm; omega)).trans (h.block i hi hne)⟩
theorem and_ub1 (x : BitVec 8) : bits .and .u8 (ub x) 1 = ub (x &&& 1#8) := by
  have h1 : BitVec.ofInt 8 (ub x) = x := by unfold ub; rw [BitVec.ofInt_natCast]; simp
  show IntKind.u8.wrap ((BitVec.ofInt 8 (ub x) &&& BitVec.ofInt 8 1).toNat : Int) = _
  rw [h1]
  show IntKind.u8.wrap (ub (x &&& 1#8)) = _
  have := ub_bound (x &&& 1#8)
  have h2 : IntKind.u8.wrap (ub (x &&& 1#8)) = ub (x &&& 1#8) % 256 := by rfl
  rw [h2]; omega
theorem shr_ub (x : BitVec 8) (k : Nat) : ub x / (2 : Int) ^ k = ub (x >>> k) := by
  unfold ub; rw [BitVec.toNat_ushiftRight, Nat.shiftRight_eq_div_pow]; simp
theorem bit_shr (x : BitVec 8) (m : Nat) : (bits .and .u8 (ub x / (2 : Int) ^ m) 1 == 1) = x.getLsbD m := by
  rw [shr_ub, and_ub1, Bool.eq_iff_iff, beq_iff_eq]
  unfold ub
  rw [BitVec.toNat_and, show (1#8).toNat = 1 from rfl, Nat.and_one_is_mod, BitVec.toNat_ushiftRight, Nat.shiftRight_eq_div_pow, ← BitVec.testBit_toNat, Nat.testBit_eq_decide_div_mod_eq, decide_eq_true_eq]
  omega
def PtrEnd (w : World) (g : Nat) (e : Ending) (w' : World) : Prop := ∃ t, e = .returned (.slice (some ⟨w.heap.size, 0, none⟩) 11 11) ∧ BoxAt w' w.heap.size ((List.range 11).map (encF g)).toArray t ∧ Ext w w'
set_option maxRecDepth 100000 in
set_option maxHeartbeats 1000000 in
theorem fields2_any (g : Nat) (w : World) (hg : g < w.heap.size) :
    Calls Tryz.prog 73 #[.pointer (some ⟨g, 4, none⟩)] w (PtrEnd w g) := by
  go_enter Tryz.func73, Tryz.ntmps73
  go_wp2_with fail
  refine wp_region_ext [(0, true), (1, true), (2, true), (3, true), (4, true), (5, true), (6, true), (7, true), (8, true), (9, true), (10, true), (11, true), (12, true), (13, true), (14, true), (15, true), (16, true), (17, true), (18, true), (19, true), (20, true), (21, true), (22, true), (23, true), (24, true), (25, true), (26, true), (27, true), (28, true), (29, true), (30, true), (31, true), (32, true), (33, false), (34, true)] (by kernel_rfl) (by kernel_rfl) ?_
  iterate 33 ((first
   | refine ext_move rfl rfl (by rfl) (by rfl) ?_
   | refine ext_assign rfl rfl (by rfl) (by rfl) ?_
   | refine ext_pick_t rfl rfl (by rfl) (by rfl) (by rfl) ?_
   | refine ext_pick_f rfl rfl (by rfl) (by rfl) (by rfl) ?_
   | (apply ext_take rfl (by rfl)
      · intro w' hS
        have hSc := hS.cells
        (try simp only [World.size_drew, World.cell?_drew] at hSc)
        go_simp
        (try simp (disch := omega) only [i64_id, u64_id, ↓IntWalk.iteOmega, Int.tdiv_eq_ediv_of_nonneg, Int.tmod_eq_emod_of_nonneg])
        try rfl)
   | refine ext_pass rfl (by rfl) ?_); simp only [Act.put, setZa, setZ0, setZ1])
  (refine ext_do rfl (by rfl) (fun K hK => ?_)
   go_simp
   refine hK _ _ (by first | exact Ext.alloc _ _ | exact (Ext.drew _).trans (Ext.alloc _ _)) ?_
   clear hK K
   (try simp only [Act.put, setZa, setZ0, setZ1]))
  iterate 1 ((first
   | refine ext_move rfl rfl (by rfl) (by rfl) ?_
   | refine ext_assign rfl rfl (by rfl) (by rfl) ?_
   | refine ext_pick_t rfl rfl (by rfl) (by rfl) (by rfl) ?_
   | refine ext_pick_f rfl rfl (by rfl) (by rfl) (by rfl) ?_
   | (apply ext_take rfl (by rfl)
      · intro w' hS
        have hSc := hS.cells
        (try simp only [World.size_drew, World.cell?_drew] at hSc)
        go_simp
        (try simp (disch := omega) only [i64_id, u64_id, ↓IntWalk.iteOmega, Int.tdiv_eq_ediv_of_nonneg, Int.tmod_eq_emod_of_nonneg])
        try rfl)
   | refine ext_pass rfl (by rfl) ?_); simp only [Act.put, setZa, setZ0, setZ1])
  refine ext_nil ?_
  go_wp2_with fail
  go_ret
  exact ⟨_, rfl, BoxAt.new w.drew _ _, (Ext.drew _).trans (Ext.alloc _ _)⟩
theorem ptr_cell {w : World} {fb g : Nat} {t : TypeId} (h : BoxAt w fb ((List.range 11).map (encF g)).toArray t) (i : Nat) (hi : i < 11) : w.cell? ⟨fb, i, none⟩ = some (.pointer (some ⟨g, 4 + i, none⟩)) := h.cell i (by simp [hi])
end Go.Proofs.YtjabgpejmnpamaaGreatDoor

namespace Go.Proofs.YtjabgpejmnpamaaGreatDoor
open Go.RowKit
def LabsAt (w : World) (v : Value) (ls : List LD) : Prop :=
  ∃ ad cap, v = .slice ad ls.length cap ∧ ls.length ≤ cap ∧ (ls = [] ∨ ∃ b off, ad = some ⟨b, off, none⟩ ∧ ∀ i (h : i < ls.length), ∃ dv, LabAt w b (off + i * 19) ls[i].1 dv ∧ SliceAt Value.bool w dv ls[i].2)
theorem LabsAt.ext {w w' : World} {v : Value} {ls : List LD} (h : LabsAt w v ls) (e : Ext w w') : LabsAt w' v ls := by
  obtain ⟨ad, cap, hv, hc, h⟩ := h
  refine ⟨ad, cap, hv, hc, h.imp id ?_⟩
  rintro ⟨b, off, ha, hi⟩
  refine ⟨b, off, ha, fun i h => ?_⟩
  obtain ⟨dv, h1, h2⟩ := hi i h
  exact ⟨dv, h1.ext e, h2.ext e⟩
theorem LabsAt.shape {w : World} {v : Value} {ls : List LD} (h : LabsAt w v ls) : ∃ ad cap, v = .slice ad ls.length cap := by
  obtain ⟨ad, cap, hv, _⟩ := h
  exact ⟨ad, cap, hv⟩
theorem LabsAt.get {w : World} {ad : Option Addr} {n cap : Nat} {ls : List LD} (h : LabsAt w (.slice ad n cap) ls) (i : Nat) (hi : i < ls.length) :
    ∃ b off, ad = some ⟨b, off, none⟩ ∧ ∃ dv, LabAt w b (off + i * 19) ls[i].1 dv ∧ SliceAt Value.bool w dv ls[i].2 := by
  obtain ⟨ad', cap', hv, _, h⟩ := h
  injection hv with h1 _ _
  rcases h with h0 | ⟨b, off, h2, h3⟩
  · subst h0; exact absurd hi (by simp)
  · exact ⟨b, off, h1.trans h2, h3 i hi⟩
abbrev encN (i : Nat) : Value := .int .i64 i
theorem wpList_store_lab {ops : Array Oper} {rest : List Oper} {o : Oper} {a : Act} {w w0 : World} {Q : Exit → Act → World → Prop} (x y : Operand) (ho : o.op = .store 29 x y)
    (hw : Region.wanted o (yielded ops a.tmps) = true) {g : Nat} {cs : Array Value} {t : TypeId} {l : Lab} {d : Value} (hx : a.eval x = .pointer (some ⟨g, 0, none⟩)) (hy : a.eval y = labV l d) (hb : BoxAt w g cs t) (hs : cs.size = 19) (hd : d.oneCell' = true)
    (he : Ext w0 w) (hg : w0.heap.size ≤ g)
    (h : ∀ w', Ext w0 w' → BoxAt w' g (labA l d) t → w'.heap.size = w.heap.size → wpList Tryz.prog ops Q rest (a.put o.dst undef) w') : wpList Tryz.prog ops Q (o :: rest) a w := by
  refine wpList_step fun K hK => ?_
  rw [if_pos hw]
  unfold Oper.wp execOp
  simp only [ho, hx, hy, Sem.run_bind, Sem.run_pure, Result.andThen_ok, lab_store hb hs hd]
  refine hK _ _ (h _ (Ext.setCells hg _ _ _ he) ?_ (setCells_size _ _ _ _))
  have := hb.setCells (labA l d).toList (by rw [hs]; rfl)
  simpa using this
end Go.Proofs.YtjabgpejmnpamaaGreatDoor

namespace Go.Proofs.YtjabgpejmnpamaaGreatDoor
open Go.RowKit
def ld0 : LD := (⟨0#64, 0, 0#64, 0#64, ⟨0, 0, 0, 0, 0, 0, 0, 0, 0, 0, 0⟩, 0, 0#64, 0#64⟩, [])
def ldN (ls : List LD) (i : Nat) : LD := ls.getD i ld0
def diskN (ls : List LD) (i : Nat) : Nat := (ldN ls i).1.disk.toNat
theorem ldN_in {ls : List LD} {i : Nat} (h : i < ls.length) : ldN ls i = ls[i] := getD_in h
theorem LabsAt.at {w : World} {ad : Option Addr} {n cap : Nat} {ls : List LD} (h : LabsAt w (.slice ad n cap) ls) (i : Nat) (hi : i < ls.length) :
    ∃ b off, ad = some ⟨b, off, none⟩ ∧ ∃ dv, LabAt w b (off + i * 19) (ldN ls i).1 dv ∧ SliceAt Value.bool w dv (ldN ls i).2 := by
  rw [ldN_in hi]; exact h.get i hi
theorem run_min2 {P : Program} (w : World) (ts : Array TypeId) (t : TypeId) (a b : Int) :
    (Builtin.min_ ts t #[.int .i64 a, .int .i64 b]).run P w = .ok (.int .i64 (min a b)) w := by
  have e : (if b < a then b else a) = min a b := by split <;> omega
  have : (Builtin.min_ ts t #[.int .i64 a, .int .i64 b]).run P w = .ok (.int .i64 (if b < a then b else a)) w := rfl
  rw [this, e]
theorem infoI : (Tryz.prog.info? 3).map (fun i => (i.zero, i.size, i.bytes)) = some (some (.int .i64 0), 1, 8) := by kernel_rfl
def minL : List Nat → Nat
  | [] => 0
  | x :: t => t.foldl min x
theorem minL_map {disk : Nat → Nat} (s : List Nat) : minL (s.map disk) = El.lowG disk s := by
  cases s with
  | nil => rfl
  | cons i t => show (t.map disk).foldl min (disk i) = _; rw [List.foldl_map]; rfl
theorem minL_one {l : List Nat} (h : 0 < l.length) : minL (l.take 1) = l[0] := by
  cases l with
  | nil => simp at h
  | cons x t => rfl
theorem minL_next {l : List Nat} {i : Nat} (h0 : 0 < i) (h : i < l.length) : minL (l.take (i + 1)) = min (minL (l.take i)) l[i] := by
  rw [List.take_succ_eq_append_getElem h]
  cases l with
  | nil => simp at h
  | cons x t =>
    obtain ⟨k, rfl⟩ : ∃ k, i = k + 1 := ⟨i - 1, by omega⟩
    rw [List.take_succ_cons]
    show (t.take k ++ [_]).foldl min x = min ((t.take k).foldl min x) _
    rw [List.foldl_append]; rfl
def NatEnd (w0 : World) (c : Nat) (e : Ending) (w' : World) : Prop := e = .returned (.int .i64 c) ∧ Ext w0 w'
set_option maxRecDepth 100000 in
set_option maxHeartbeats 1000000 in
theorem min_any (v : Value) (l : List Nat) (w : World) (hl : l.length ≤ 100000) (h0 : 0 < l.length) (h : SliceAt encN w v l) :
    Calls Tryz.prog 130 #[v] w (NatEnd w (minL l)) := by
  obtain ⟨ad, cap, rfl⟩ := h.shape
  have HS := Lib.hid h
  obtain ⟨b, off, rfl, hb, hc0⟩ := h.get 0 h0
  have HM1 := Lib.hid (minL_one h0)
  have HMN := Lib.hid fun i (h0 : 0 < i) (h : i < l.length) => minL_next (l := l) h0 h
  generalize l[0] = x0 at *
  obtain ⟨n, hn⟩ : ∃ n, l.length = n := ⟨_, rfl⟩
  have HN := Lib.hid hn
  rw [hn] at HS hl h0 ⊢
  have hd : decide ((n : Int) < 1) = false := by rw [decide_eq_false_iff_not]; omega
  have hd2 : decide (n < 1) = false := by rw [decide_eq_false_iff_not]; omega
  rw [Nat.add_zero] at hc0
  clear h hn
  go_enter Tryz.func130, Tryz.ntmps130
  go_wp2_with fail
  go_loop [3, 4] (fun mv iv => ∃ i : Nat, 1 ≤ i ∧ i ≤ n ∧ iv = .int .i64 i ∧ mv = .int .i64 (minL (l.take i) : Nat)) (fun _ iv => n - (intOf iv).toNat)
  case atStart => exact ⟨1, Nat.le_refl _, h0, rfl, by rw [HM1.out]⟩
  case round =>
    obtain ⟨i, hi1, hi, rfl, rfl⟩ := hrel
    by_cases hlt : i < n
    · have hin : (i : Int) < (n : Int) := by omega
      obtain ⟨b2, off2, hbe, _, hc⟩ := HS.out.get i (by rw [HN.out]; exact hlt)
      cases hbe
      have HMN := Lib.hid (HMN.out i (by omega) (by rw [HN.out]; exact hlt))
      generalize l[i]'(by rw [HN.out]; exact hlt) = y at *
      generalize minL (l.take i) = M at *
      have hMin := fun (w : World) (ts : Array TypeId) (t : TypeId) => run_min2 (P := Tryz.prog) w ts t (M : Int) (y : Int)
      rw [show min (M : Int) (y : Int) = ((min M y : Nat) : Int) by omega] at hMin
      obtain ⟨q, hq⟩ : ∃ q, min M y = q := ⟨_, rfl⟩
      rw [hq] at hMin HMN
      clear hq
      go_wp2_with fail
      go_round
      case rel => exact ⟨i + 1, by omega, by omega, by go_num, by rw [HMN.out]⟩
      case measure => simp [intOf]; omega
    · have hin : i = n := by omega
      subst hin
      have hin2 : ¬ ((i : Int) < (i : Int)) := by omega
      go_wp2_with fail
      go_ret
      exact ⟨by rw [show l.take i = l by rw [← HN.out, List.take_length]]; rfl, Ext.refl _⟩
set_option maxRecDepth 100000 in
set_option maxHeartbeats 1000000 in
theorem lowest1_any (vl : Value) (ls : List LD) (g i : Nat) (w : World) (hn : ls.length ≤ 100000) (hi : i < ls.length) (hd : 0 ≤ (ldN ls i).1.disk) (h : LabsAt w vl ls) (hc : w.cell? ⟨g, 0, none⟩ = some vl) (hg : g < w.heap.size) :
    Calls Tryz.prog 132 #[encN i, .pointer (some ⟨g, 0, none⟩)] w fun e w' => e = .returned (encN (diskN ls i)) ∧ w = w' := by
  obtain ⟨ad, cap, rfl⟩ := h.shape
  obtain ⟨b, off, rfl, dv, h1, h2⟩ := h.at i hi
  obtain ⟨k, hk⟩ := Int.eq_ofNat_of_zero_le hd
  have hk2 : diskN ls i = k := by unfold diskN; rw [hk]; rfl
  have c1 := h1.cell 1 (v := .int .i64 k) (by rw [← hk]; rfl)
  have hb := h1.2
  have hin : (i : Int) < (ls.length : Int) := by omega
  rw [hk2]
  clear h h1 h2 hk hk2 hd
  go_enter Tryz.func132, Tryz.ntmps132
  go_wp2
  go_ret
  exact ⟨rfl, rfl⟩
end Go.Proofs.YtjabgpejmnpamaaGreatDoor

namespace Go.Proofs.YtjabgpejmnpamaaGreatDoor
open Go.RowKit
set_option maxRecDepth 100000 in
set_option maxHeartbeats 1000000 in
theorem mapped_any (vl vs : Value) (ls : List LD) (s : List Nat) (g : Nat) (w : World) (hn : ls.length ≤ 1000) (hls : s.length ≤ 1000) (hi : ∀ i, i ∈ s → i < ls.length ∧ 0 ≤ (ldN ls i).1.disk) (h : LabsAt w vl ls) (hs : SliceAt encN w vs s) (hc : w.cell? ⟨g, 0, none⟩ = some vl) (hg : g < w.heap.size) :
    Calls Tryz.prog 131 #[vs, .func (.func 132) #[] #[.pointer (some ⟨g, 0, none⟩)]] w fun e w' => ∃ v, e = .returned v ∧ OwnG encN 3 w' w.heap.size v (s.map (diskN ls)) ∧ Below w.heap.size w w' := by
  obtain ⟨j0, hj, hj0, hj1, hj2⟩ := info_parts infoI
  obtain ⟨ad, cap, rfl⟩ := hs.shape
  have HL := Lib.hid h
  have HS := Lib.hid hs
  have HC := Lib.hid hc
  have HI := Lib.hid hi
  obtain ⟨n, hnn⟩ : ∃ n, s.length = n := ⟨_, rfl⟩
  have HN := Lib.hid hnn
  rw [hnn] at HS hls ⊢
  clear h hs hc hi hnn
  go_enter Tryz.func131, Tryz.ntmps131
  go_wp2_with fail
  go_loopw [5, 10] (fun vt it wr => ∃ i : Nat, i ≤ n ∧ it = .int .i64 i ∧ Hid (OwnG encN 3 wr w.heap.size vt ((s.take i).map (diskN ls))) ∧ Hid (Ext w wr)) (fun _ it _ => n - (intOf it).toNat)
  case atStart => exact ⟨0, Nat.zero_le _, rfl, Lib.hid OwnG.nil, Lib.hid (Ext.refl _)⟩
  case round =>
    obtain ⟨i, hi, rfl, HO, HX⟩ := hrel
    by_cases hlt : i < n
    · have hin : (i : Int) < (n : Int) := by omega
      have hil : i < s.length := by rw [HN.out]; exact hlt
      obtain ⟨b, off, rfl, hb, hc⟩ := (HS.out.ext HX.out).get i hil
      have hlen : ((s.take i).map (diskN ls)).length = i := by rw [List.length_map, List.length_take]; omega
      have HT : Hid ((s.take (i + 1)).map (diskN ls) = (s.take i).map (diskN ls) ++ [diskN ls s[i]]) := by
        show _ = _
        rw [List.take_succ_eq_append_getElem hil, List.map_append]; rfl
      have hq := HI.out s[i] (List.getElem_mem hil)
      generalize s[i] = y at *
      generalize (s.take i).map (diskN ls) = L at *
      obtain ⟨hq1, hq2⟩ := hq
      have HLEN := Lib.hid hlen
      obtain ⟨av, cv, rfl⟩ := HO.out.shape
      rw [hlen] at HO ⊢
      clear hlen
      go_wp2_with fail
      refine (lowest1_any vl ls g y _ (by omega) hq1 hq2 (HL.out.ext HX.out) ((HX.out.cell _ _ hg).trans HC.out) (Nat.lt_of_lt_of_le hg HX.out.size)).mono ?_
      rintro e w2 ⟨rfl, rfl⟩
      generalize diskN ls y = dk at *
      go_wp2_with (at_builtin; refine Classical.byContradiction (fun hN => ?_))
      refine hN ?_
      clear hN
      have e1 : Ext wr (wr.alloc (.cells #[.int .i64 dk] 3)) := Ext.alloc _ _
      have hown := HO.out.ext e1
      have hsz := HX.out.size
      refine wpList_append_one rfl _ _ _ rfl w.heap.size 3 j0 (.int .i64 0) 8 Tryz.underlying40 hj hj0 hj1 hj2 rfl _ _ _ rfl hown _ (encN dk) rfl rfl (cell_new1 _ _ _) (by rw [HLEN.out]; unfold maxLen; omega) (by rw [HLEN.out]; omega) (by simp; omega) ?_
      intro v6 w6 ho6 hg6 _
      have HO6 : Hid (OwnG encN 3 w6 w.heap.size v6 ((s.take (i + 1)).map (diskN ls))) := by
        show OwnG _ _ _ _ _ _
        rw [HT.out]
        exact OwnG.snoc (enc := encN) (x := dk) ho6
      have HX6 : Hid (Ext w w6) := (HX.out.trans e1).grown hg6 (by simp; omega) (fun q hq => (hown.lt q hq).1)
      clear ho6 hg6 hown e1
      go_wp2
      go_roundw
      case rel => exact ⟨i + 1, by omega, by go_num, HO6, HX6⟩
      case measure => simp [intOf]; omega
    · have hin : i = n := by omega
      subst hin
      have hin2 : ¬ ((i : Int) < (i : Int)) := by omega
      go_wp2_with fail
      rw [show s.take i = s by rw [← HN.out, List.take_length]] at HO
      refine bodyPost_ret ?_ rfl ⟨_, rfl, HO.out, HX.out⟩
      simp only [results, Tryz.results131]
      go_simp
set_option maxRecDepth 100000 in
set_option maxHeartbeats 1000000 in
theorem lowest_any (vl vs : Value) (ls : List LD) (s : List Nat) (w : World) (hn : ls.length ≤ 1000) (hls : s.length ≤ 1000) (h0 : 0 < s.length) (hi : ∀ i, i ∈ s → i < ls.length ∧ 0 ≤ (ldN ls i).1.disk) (h : LabsAt w vl ls) (hs : SliceAt encN w vs s) :
    Calls Tryz.prog 83 #[vl, vs] w (NatEnd w (El.lowG (diskN ls) s)) := by
  obtain ⟨ad, cap, rfl⟩ := hs.shape
  obtain ⟨al, cl, rfl⟩ := h.shape
  have HL := Lib.hid h
  have HS := Lib.hid hs
  have HI := Lib.hid hi
  rw [← minL_map]
  obtain ⟨R, hR⟩ : ∃ R, minL (s.map (diskN ls)) = R := ⟨_, rfl⟩
  have HR := Lib.hid hR
  rw [hR]
  obtain ⟨n, hnn⟩ : ∃ n, s.length = n := ⟨_, rfl⟩
  have HN := Lib.hid hnn
  rw [hnn] at HS ⊢
  clear h hs hi hR
  go_enter Tryz.func83, Tryz.ntmps83
  go_wp2_with fail
  go_at_call 131
  refine (mapped_any _ _ ls s w.heap.size _ hn hls HI.out (HL.out.ext (Ext.alloc _ _)) (HS.out.ext (Ext.alloc _ _)) (cell_new1 _ _ _) (by simp)).mono ?_
  rintro e w2 ⟨v, rfl, ho, hb⟩
  have HX2 : Hid (Ext w w2) := (Ext.alloc _ _).trans hb
  obtain ⟨a2, c2, rfl⟩ := ho.shape
  have HO := Lib.hid ho
  rw [List.length_map] at HO ⊢
  rw [HN.out] at HO ⊢
  clear hb ho
  go_wp2_with fail
  go_at_call 130
  refine (min_any _ _ _ (by rw [List.length_map]; omega) (by rw [List.length_map]; exact h0) HO.out.slice).mono ?_
  rintro e w3 ⟨rfl, hb3⟩
  have HX3 : Hid (Ext w w3) := HX2.out.trans hb3
  rw [HR.out]
  clear hb3
  go_wp2_with fail
  go_ret
  exact ⟨rfl, HX3.out⟩
end Go.Proofs.YtjabgpejmnpamaaGreatDoor

namespace Go.Proofs.YtjabgpejmnpamaaGreatDoor
open Go.RowKit
def elRowsAt (w : World) (v : Value) (gs : List (List Nat)) : Prop :=
  ∃ vs : List Value, SliceAt id w v vs ∧ vs.length = gs.length ∧ ∀ i (h1 : i < vs.length) (h2 : i < gs.length), SliceAt encN w vs[i] gs[i]
theorem elRowsAt.ext {w w' : World} {v : Value} {gs : List (List Nat)} (h : elRowsAt w v gs) (e : Ext w w') : elRowsAt w' v gs := by
  obtain ⟨vs, h1, h2, h3⟩ := h
  exact ⟨vs, h1.ext e, h2, fun i a b => (h3 i a b).ext e⟩
theorem elRowsAt.shape {w : World} {v : Value} {gs : List (List Nat)} (h : elRowsAt w v gs) : ∃ ad cap, v = .slice ad gs.length cap := by
  obtain ⟨vs, h1, h2, _⟩ := h
  obtain ⟨ad, cap, e⟩ := h1.shape
  exact ⟨ad, cap, by rw [e, h2]⟩
theorem elRowsAt.get {w : World} {ad : Option Addr} {n cap : Nat} {gs : List (List Nat)} (h : elRowsAt w (.slice ad n cap) gs) (i : Nat) (hi : i < gs.length) :
    ∃ b off, ad = some ⟨b, off, none⟩ ∧ b < w.heap.size ∧ ∃ v, w.cell? ⟨b, off + i, none⟩ = some v ∧ SliceAt encN w v gs[i] := by
  obtain ⟨vs, h1, h2, h3⟩ := h
  obtain ⟨b, off, e, hb, hc⟩ := h1.get i (by omega)
  exact ⟨b, off, e, hb, _, hc, h3 i (by omega) hi⟩
def deadL (ls : List LD) (i : Nat) : List Bool := (ldN ls i).2
def Places (ls : List LD) (s : List Nat) : Prop := ∀ i, i ∈ s → i < ls.length ∧ 0 ≤ (ldN ls i).1.disk
theorem all_next {α : Type} {l : List α} {f : α → Bool} {i : Nat} (h : i < l.length) (ha : (l.take i).all f = true) (hi : f l[i] = true) : (l.take (i + 1)).all f = true := by
  rw [List.take_succ_eq_append_getElem h, List.all_append, ha, Bool.true_and]
  simp [hi]
theorem all_not {α : Type} {l : List α} {f : α → Bool} {i : Nat} (h : i < l.length) (hi : f l[i] = false) : l.all f = false := by
  cases hc : l.all f with
  | false => rfl
  | true => rw [List.all_eq_true] at hc; rw [hc _ (List.getElem_mem h)] at hi; cases hi
theorem head_get {s : List Nat} (h : 0 < s.length) : s.headD 0 = s[0] := by
  cases s with
  | nil => simp at h
  | cons a t => rfl
set_option maxRecDepth 100000 in
set_option maxHeartbeats 2000000 in
theorem outlives_any (vl va vs : Value) (ls : List LD) (gs : List (List Nat)) (s : List Nat) (w : World) (hn : ls.length ≤ 1000) (hgs : gs.length ≤ 1000) (hgl : ∀ g, g ∈ gs → 0 < g.length ∧ g.length ≤ 1000 ∧ Places ls g) (h0 : 0 < s.length) (hps : Places ls s) (hdl : ∀ i, (ldN ls i).2.length ≤ 100000)
    (h : LabsAt w vl ls) (ha : elRowsAt w va gs) (hs : SliceAt encN w vs s) :
    Calls Tryz.prog 82 #[vl, va, vs] w (BoolEnd w (El.outG (diskN ls) (deadL ls) gs s)) := by
  obtain ⟨al, cl, rfl⟩ := h.shape
  obtain ⟨aa, ca, rfl⟩ := ha.shape
  obtain ⟨ad, cap, rfl⟩ := hs.shape
  have hs0 := hps s[0] (List.getElem_mem h0)
  have hhd := head_get h0
  obtain ⟨b, off, rfl, hb, hc⟩ := hs.get 0 h0
  rw [Nat.add_zero] at hc
  have HF : Hid (El.outG (diskN ls) (deadL ls) gs s = gs.all fun o => o.headD 0 == s[0] || o.all fun i => ((ldN ls s[0]).2).getD (diskN ls i) false) := by show _ = _; unfold El.outG deadL; rw [hhd]
  clear hhd
  generalize s[0] = p at *
  obtain ⟨hp1, hp2⟩ := hs0
  obtain ⟨bl, ol, rfl, dv, hA, hD⟩ := h.at p hp1
  obtain ⟨add, cpd, rfl⟩ := hD.shape
  have hc15 := hA.cell 15 (v := .slice add (ldN ls p).2.length cpd) rfl
  have hblt := hA.2
  have hdlp := hdl p
  generalize (ldN ls p).2 = D at *
  have hpi : (p : Int) < (ls.length : Int) := by omega
  obtain ⟨F, hFd⟩ : ∃ F : List Nat → Bool, (fun o : List Nat => o.headD 0 == p || o.all fun i => D.getD (diskN ls i) false) = F := ⟨_, rfl⟩
  rw [hFd] at HF
  have hFo : ∀ o : List Nat, F o = (o.headD 0 == p || o.all fun i => D.getD (diskN ls i) false) := fun o => by rw [← hFd]
  have HFO := Lib.hid hFo
  rw [HF.out]
  have HL := Lib.hid h
  have HA := Lib.hid ha
  have HS := Lib.hid hs
  have HDD := Lib.hid hD
  have HC := Lib.hid hc
  have HGL := Lib.hid hgl
  clear h ha hs hD hgl hps hdl hFd hFo HF hA
  obtain ⟨m, hm⟩ : ∃ m, gs.length = m := ⟨_, rfl⟩
  have HM := Lib.hid hm
  obtain ⟨q, hq⟩ : ∃ q, D.length = q := ⟨_, rfl⟩
  have HQ := Lib.hid hq
  obtain ⟨z, hz⟩ : ∃ z, s.length = z := ⟨_, rfl⟩
  rw [hz] at HS h0 ⊢
  rw [hm] at HA hgs ⊢
  rw [hq] at HDD hc15 hdlp
  have hz0 : (0 : Int) < (z : Int) := by omega
  clear hm hq hz
  go_enter Tryz.func82, Tryz.ntmps82
  go_wp2_with fail
  clear hc hc15
  go_loopw [22] (fun it wr => ∃ i : Nat, i ≤ m ∧ it = .int .i64 i ∧ Hid ((gs.take i).all F = true) ∧ Hid (Ext w wr)) (fun it _ => m - (intOf it).toNat)
  case atStart => exact ⟨0, Nat.zero_le _, rfl, by show _ = _; simp, Lib.hid (Ext.refl _)⟩
  case round =>
    obtain ⟨i, hi, rfl, HALL, HX⟩ := hrel
    generalize wr = wo at *
    by_cases hlt : i < m
    · have hin : (i : Int) < (m : Int) := by omega
      have hil : i < gs.length := by rw [HM.out]; exact hlt
      obtain ⟨ba, oa, rfl, hba, rv, hcr, hro⟩ := (HA.out.ext HX.out).get i hil
      obtain ⟨hg0, hg1, hg2⟩ := HGL.out _ (List.getElem_mem hil)
      have HNX := Lib.hid fun (e : F gs[i] = true) => all_next hil HALL.out e
      have HNO := Lib.hid fun (e : F gs[i] = false) => all_not hil e
      have HFG := Lib.hid (HFO.out gs[i])
      rw [head_get hg0] at HFG
      have HG2 := Lib.hid hg2
      obtain ⟨ar, cr, rfl⟩ := hro.shape
      obtain ⟨br, orr, rfl, hbr, hch⟩ := hro.get 0 hg0
      rw [Nat.add_zero] at hch
      have HRO := Lib.hid hro
      generalize gs[i] = o at *
      generalize F o = Fo at *
      have hsc := (HX.out.cell _ _ hb).trans HC.out
      obtain ⟨x, hx⟩ : ∃ x, o[0] = x := ⟨_, rfl⟩
      rw [hx] at hch HFG
      obtain ⟨k, hk⟩ : ∃ k, o.length = k := ⟨_, rfl⟩
      have HK := Lib.hid hk
      rw [hk] at HRO hg0 hg1 hcr
      clear hg2 hro hx hk
      have hk0 : (0 : Int) < (k : Int) := by omega
      have hb1 := Nat.lt_of_lt_of_le hb HX.out.size
      cases hxp : (x == p) with
      | true =>
        have hxi : ((x : Int) == (p : Int)) = true := by rw [beq_iff_eq] at hxp ⊢; omega
        rw [hxp, Bool.true_or] at HFG
        clear hxp
        go_wp2_with fail
        refine wp_region_ext [(0, true), (1, true), (2, true), (3, true), (4, true), (5, true), (6, true)] (by kernel_rfl) (by kernel_rfl) ?_
        iterate 7 ((first
         | refine ext_move rfl rfl (by rfl) (by rfl) ?_
         | refine ext_assign rfl rfl (by rfl) (by rfl) ?_
         | refine ext_pick_t rfl rfl (by rfl) (by rfl) (by rfl) ?_
         | refine ext_pick_f rfl rfl (by rfl) (by rfl) (by rfl) ?_
         | (apply ext_take rfl (by rfl)
            · intro w' hS
              have hSc := hS.cells
              (try simp only [World.size_drew, World.cell?_drew] at hSc)
              go_simp
              (try simp (disch := omega) only [i64_id, u64_id, ↓IntWalk.iteOmega, Int.tdiv_eq_ediv_of_nonneg, Int.tmod_eq_emod_of_nonneg])
              try rfl)
         | refine ext_pass rfl (by rfl) ?_); simp only [Act.put, setZa, setZ0, setZ1])
        refine ext_nil ?_
        go_wp2_with fail
        go_roundw
        case rel => exact ⟨i + 1, by omega, by go_num, HNX.out HFG.out, HX.out.trans (Ext.drew _)⟩
        case measure => simp [intOf]; omega
      | false =>
        have hxi : ((x : Int) == (p : Int)) = false := by rw [beq_eq_false_iff_ne] at hxp ⊢; omega
        rw [hxp, Bool.false_or] at HFG
        clear hxp
        go_wp2_with fail
        refine wp_region_ext [(0, true), (1, true), (2, true), (3, true), (4, true), (5, true), (6, true)] (by kernel_rfl) (by kernel_rfl) ?_
        iterate 7 ((first
         | refine ext_move rfl rfl (by rfl) (by rfl) ?_
         | refine ext_assign rfl rfl (by rfl) (by rfl) ?_
         | refine ext_pick_t rfl rfl (by rfl) (by rfl) (by rfl) ?_
         | refine ext_pick_f rfl rfl (by rfl) (by rfl) (by rfl) ?_
         | (apply ext_take rfl (by rfl)
            · intro w' hS
              have hSc := hS.cells
              (try simp only [World.size_drew, World.cell?_drew] at hSc)
              go_simp
              (try simp (disch := omega) only [i64_id, u64_id, ↓IntWalk.iteOmega, Int.tdiv_eq_ediv_of_nonneg, Int.tmod_eq_emod_of_nonneg])
              try rfl)
         | refine ext_pass rfl (by rfl) ?_); simp only [Act.put, setZa, setZ0, setZ1])
        refine ext_nil ?_
        have HX1 : Hid (Ext w wo.drew) := HX.out.trans (Ext.drew _)
        have HRO1 := Lib.hid (HRO.out.ext (Ext.drew wo))
        generalize wo.drew = wd at *
        clear hch hcr hsc hbr hb1 hba
        go_wp2_with fail
        go_loop [35] (fun it => ∃ j : Nat, j ≤ k ∧ it = .int .i64 j ∧ Hid ((o.take j).all (fun i => D.getD (diskN ls i) false) = true)) (fun it => k - (intOf it).toNat)
        case atStart => exact ⟨0, Nat.zero_le _, rfl, by show _ = _; simp⟩
        case round =>
          obtain ⟨j, hj, rfl, HALJ⟩ := hrel
          by_cases hjk : j < k
          · have hin2 : (j : Int) < (k : Int) := by omega
            have hjl : j < o.length := by rw [HK.out]; exact hjk
            obtain ⟨br', or', hbe, hbr, hcj⟩ := HRO1.out.get j hjl
            cases hbe
            obtain ⟨hy1, hy2⟩ := HG2.out o[j] (List.getElem_mem hjl)
            have HNX2 := Lib.hid fun (e : D.getD (diskN ls o[j]) false = true) => all_next (f := fun i => D.getD (diskN ls i) false) hjl HALJ.out e
            have HNO2 := Lib.hid fun (e : D.getD (diskN ls o[j]) false = false) => all_not (f := fun i => D.getD (diskN ls i) false) hjl e
            generalize o[j] = y at *
            obtain ⟨bl', ol', hble, dvy, hAy, _⟩ := (HL.out.ext HX1.out).at y hy1
            cases hble
            obtain ⟨dk, hdk⟩ := Int.eq_ofNat_of_zero_le hy2
            have hdk2 : diskN ls y = dk := by unfold diskN; rw [hdk]; rfl
            rw [hdk2] at HNX2 HNO2
            have c1 := hAy.cell 1 (v := .int .i64 dk) (by rw [← hdk]; rfl)
            have hb2 := hAy.2
            have hyi : (y : Int) < (ls.length : Int) := by omega
            clear hAy hdk2 hdk hy2
            by_cases hdq : dk < q
            · have hd1 : decide ((q : Int) ≤ (dk : Int)) = false := by rw [decide_eq_false_iff_not]; omega
              have hd2 : decide (q ≤ dk) = false := by rw [decide_eq_false_iff_not]; omega
              have hd3 : (dk : Int) < (q : Int) := by omega
              obtain ⟨bd, od, rfl, hbd, hcd⟩ := (HDD.out.ext HX1.out).get dk (by rw [HQ.out]; exact hdq)
              rw [← getD_in (d := false) (show dk < D.length by rw [HQ.out]; exact hdq)] at hcd
              generalize D.getD dk false = u at *
              cases u with
              | true =>
                go_wp2_with fail
                go_round
                case rel => exact ⟨j + 1, by omega, by go_num, HNX2.out (by simp)⟩
                case measure => simp [intOf]; omega
              | false =>
                go_wp2_with fail
                go_ret
                exact ⟨by rw [HNO.out (by rw [HFG.out]; exact HNO2.out (by simp))]; rfl, HX1.out⟩
            · have hd1 : decide ((q : Int) ≤ (dk : Int)) = true := by rw [decide_eq_true_iff]; omega
              have hd2 : decide (q ≤ dk) = true := by rw [decide_eq_true_iff]; omega
              have hgd : D.getD dk false = false := getD_out (by rw [HQ.out]; exact hdq)
              have HGD := Lib.hid hgd
              clear hgd
              go_wp2_with fail
              go_ret
              exact ⟨by rw [HNO.out (by rw [HFG.out]; exact HNO2.out HGD.out)]; rfl, HX1.out⟩
          · have hjn : j = k := by omega
            subst hjn
            have hin3 : ¬ ((j : Int) < (j : Int)) := by omega
            go_wp2_with fail
            rw [show o.take j = o by rw [← HK.out, List.take_length]] at HALJ
            go_roundw
            case rel => exact ⟨i + 1, by omega, by go_num, HNX.out (HFG.out.trans HALJ.out), HX1.out⟩
            case measure => simp [intOf]; omega
    · have him : i = m := by omega
      subst him
      have hin2 : ¬ ((i : Int) < (i : Int)) := by omega
      go_wp2_with fail
      rw [show gs.take i = gs by rw [← HM.out, List.take_length]] at HALL
      go_ret
      exact ⟨by rw [HALL.out]; rfl, HX.out⟩
end Go.Proofs.YtjabgpejmnpamaaGreatDoor

namespace Go.Proofs.YtjabgpejmnpamaaGreatDoor
open Go.RowKit
def eqN (ls : List LD) (i j : Nat) : Bool := eqL (ldN ls i).1 (ldN ls j).1 (ldN ls i).2 (ldN ls j).2
set_option maxRecDepth 100000 in
set_option maxHeartbeats 2000000 in
theorem sides1_any (vl vs : Value) (ls : List LD) (s : List Nat) (i g1 g2 : Nat) (w : World) (hn : ls.length ≤ 1000) (h0 : 0 < s.length) (hs0 : s.headD 0 < ls.length) (hi : i < ls.length) (hdl : ∀ i, (ldN ls i).2.length ≤ 100000)
    (h : LabsAt w vl ls) (hs : SliceAt encN w vs s) (hc1 : w.cell? ⟨g1, 0, none⟩ = some vl) (hg1 : g1 < w.heap.size) (hc2 : w.cell? ⟨g2, 0, none⟩ = some (encN i)) (hg2 : g2 < w.heap.size) :
    Calls Tryz.prog 129 #[vs, .pointer (some ⟨g1, 0, none⟩), .pointer (some ⟨g2, 0, none⟩)] w (BoolEnd w (eqN ls (s.headD 0) i)) := by
  obtain ⟨al, cl, rfl⟩ := h.shape
  obtain ⟨ad, cap, rfl⟩ := hs.shape
  rw [head_get h0] at hs0 ⊢
  obtain ⟨b, off, rfl, hb, hc⟩ := hs.get 0 h0
  rw [Nat.add_zero] at hc
  generalize s[0] = p at *
  obtain ⟨bl, ol, rfl, dv1, hA1, hD1⟩ := h.at p hs0
  obtain ⟨bl', ol', hbe, dv2, hA2, hD2⟩ := h.at i hi
  cases hbe
  have HE : Hid (∀ w', Ext w w' → Calls Tryz.prog 10 #[labV (ldN ls p).1 dv1, labV (ldN ls i).1 dv2] w' (BoolEnd w' (eqN ls p i))) := fun w' e => equal_any _ _ _ _ _ _ w' (hdl p) (hdl i) (hD1.ext e) (hD2.ext e)
  have HA1 := Lib.hid hA1
  have HA2 := Lib.hid hA2
  obtain ⟨z, hz⟩ : ∃ z, s.length = z := ⟨_, rfl⟩
  rw [hz] at h0 ⊢
  have hz0 : (0 : Int) < (z : Int) := by omega
  have hpi : (p : Int) < (ls.length : Int) := by omega
  have hii : (i : Int) < (ls.length : Int) := by omega
  have hp0 : (0 : Int) ≤ (p : Int) := by omega
  have hi0 : (0 : Int) ≤ (i : Int) := by omega
  have hblt := hA1.2
  generalize eqN ls p i = E at *
  clear h hs hA1 hA2 hD1 hD2 hz hdl
  go_enter Tryz.func129, Tryz.ntmps129
  go_wp2_with fail
  refine wp_region_ext [(0, true), (1, true), (2, true), (3, true), (4, true), (5, true), (6, true), (7, true), (8, true), (9, true), (10, false), (11, true)] (by kernel_rfl) (by kernel_rfl) ?_
  iterate 5 ((first
   | refine ext_move rfl rfl (by rfl) (by rfl) ?_
   | refine ext_assign rfl rfl (by rfl) (by rfl) ?_
   | refine ext_pick_t rfl rfl (by rfl) (by rfl) (by rfl) ?_
   | refine ext_pick_f rfl rfl (by rfl) (by rfl) (by rfl) ?_
   | (apply ext_take rfl (by rfl)
      · intro w' hS
        have hSc := hS.cells
        (try simp only [World.size_drew, World.cell?_drew] at hSc)
        go_simp
        (try simp (disch := omega) only [i64_id, u64_id, ↓IntWalk.iteOmega, Int.tdiv_eq_ediv_of_nonneg, Int.tmod_eq_emod_of_nonneg])
        try rfl)
   | refine ext_pass rfl (by rfl) ?_); simp only [Act.put, setZa, setZ0, setZ1])
  (refine ext_load 29 rfl (by rfl) rfl (by rfl) (fun w' hS => (HA1.out.ext hS).load) ?_; simp only [Act.put, setZa, setZ0, setZ1])
  iterate 3 ((first
   | refine ext_move rfl rfl (by rfl) (by rfl) ?_
   | refine ext_assign rfl rfl (by rfl) (by rfl) ?_
   | refine ext_pick_t rfl rfl (by rfl) (by rfl) (by rfl) ?_
   | refine ext_pick_f rfl rfl (by rfl) (by rfl) (by rfl) ?_
   | (apply ext_take rfl (by rfl)
      · intro w' hS
        have hSc := hS.cells
        (try simp only [World.size_drew, World.cell?_drew] at hSc)
        go_simp
        (try simp (disch := omega) only [i64_id, u64_id, ↓IntWalk.iteOmega, Int.tdiv_eq_ediv_of_nonneg, Int.tmod_eq_emod_of_nonneg])
        try rfl)
   | refine ext_pass rfl (by rfl) ?_); simp only [Act.put, setZa, setZ0, setZ1])
  (refine ext_load 29 rfl (by rfl) rfl (by rfl) (fun w' hS => (HA2.out.ext hS).load) ?_; simp only [Act.put, setZa, setZ0, setZ1])
  refine ext_do rfl (by rfl) (fun K hK => ?_)
  go_simp
  go_at_call 10
  refine (HE.out _ (Ext.drew _)).mono ?_
  rintro e w2 ⟨rfl, hb2⟩
  have HX2 : Hid (Ext w w2) := (Ext.drew _).trans hb2
  refine hK _ _ HX2.out ?_
  clear hK K hb2
  (try simp only [Act.put, setZa, setZ0, setZ1])
  ((first
   | refine ext_move rfl rfl (by rfl) (by rfl) ?_
   | refine ext_assign rfl rfl (by rfl) (by rfl) ?_
   | refine ext_pick_t rfl rfl (by rfl) (by rfl) (by rfl) ?_
   | refine ext_pick_f rfl rfl (by rfl) (by rfl) (by rfl) ?_
   | (apply ext_take rfl (by rfl)
      · intro w' hS
        have hSc := hS.cells
        (try simp only [World.size_drew, World.cell?_drew] at hSc)
        go_simp
        (try simp (disch := omega) only [i64_id, u64_id, ↓IntWalk.iteOmega, Int.tdiv_eq_ediv_of_nonneg, Int.tmod_eq_emod_of_nonneg])
        try rfl)
   | refine ext_pass rfl (by rfl) ?_); simp only [Act.put, setZa, setZ0, setZ1])
  refine ext_nil ?_
  go_wp2_with fail
  go_ret
  exact ⟨rfl, HX2.out⟩
def idxZ (o : Option Nat) : Int := match o with | some k => k | none => -1
def IdxEnd (w0 : World) (o : Option Nat) (e : Ending) (w' : World) : Prop := e = .returned (.int .i64 (idxZ o)) ∧ Ext w0 w'
theorem findIdx_some {α : Type} {l : List α} {f : α → Bool} {k : Nat} (h : k < l.length) (hk : f l[k] = true) (hn : ∀ j (hj : j < k), f (l[j]'(by omega)) = false) : l.findIdx? f = some k := by
  rw [List.findIdx?_eq_some_iff_getElem]
  exact ⟨h, hk, fun j hj => by rw [hn j hj]; simp⟩
set_option maxRecDepth 100000 in
set_option maxHeartbeats 2000000 in
theorem index_any (vl va : Value) (ls : List LD) (gs : List (List Nat)) (i g1 g2 : Nat) (w : World) (hn : ls.length ≤ 1000) (hgs : gs.length ≤ 1000) (hgl : ∀ g, g ∈ gs → 0 < g.length ∧ g.headD 0 < ls.length) (hi : i < ls.length) (hdl : ∀ i, (ldN ls i).2.length ≤ 100000)
    (h : LabsAt w vl ls) (ha : elRowsAt w va gs) (hc1 : w.cell? ⟨g1, 0, none⟩ = some vl) (hg1 : g1 < w.heap.size) (hc2 : w.cell? ⟨g2, 0, none⟩ = some (encN i)) (hg2 : g2 < w.heap.size) :
    Calls Tryz.prog 128 #[va, .func (.func 129) #[] #[.pointer (some ⟨g1, 0, none⟩), .pointer (some ⟨g2, 0, none⟩)]] w (IdxEnd w (gs.findIdx? fun g => eqN ls (g.headD 0) i)) := by
  obtain ⟨aa, ca, rfl⟩ := ha.shape
  have HCL : Hid (∀ (w' : World) (rv : Value) (s : List Nat), Ext w w' → 0 < s.length → s.headD 0 < ls.length → SliceAt encN w' rv s → Calls Tryz.prog 129 #[rv, .pointer (some ⟨g1, 0, none⟩), .pointer (some ⟨g2, 0, none⟩)] w' (BoolEnd w' (eqN ls (s.headD 0) i))) :=
    fun w' rv s e a b c => sides1_any vl rv ls s i g1 g2 w' hn a b hi hdl (h.ext e) c ((e.cell _ _ hg1).trans hc1) (Nat.lt_of_lt_of_le hg1 e.size) ((e.cell _ _ hg2).trans hc2) (Nat.lt_of_lt_of_le hg2 e.size)
  have HA := Lib.hid ha
  have HGL := Lib.hid hgl
  obtain ⟨f, hf⟩ : ∃ f : List Nat → Bool, (fun g => eqN ls (g.headD 0) i) = f := ⟨_, rfl⟩
  have hff : ∀ g, eqN ls (g.headD 0) i = f g := fun g => by rw [← hf]
  have HFF := Lib.hid hff
  rw [hf]
  obtain ⟨m, hm⟩ : ∃ m, gs.length = m := ⟨_, rfl⟩
  have HM := Lib.hid hm
  rw [hm] at HA hgs ⊢
  clear h ha hgl hdl hf hff hm hc1 hc2
  go_enter Tryz.func128, Tryz.ntmps128
  go_wp2_with fail
  go_loopw [8] (fun it wr => ∃ k : Nat, k ≤ m ∧ it = .int .i64 k ∧ Hid (∀ j (hj : j < k) (hl : j < gs.length), f gs[j] = false) ∧ Hid (Ext w wr)) (fun it _ => m - (intOf it).toNat)
  case atStart => exact ⟨0, Nat.zero_le _, rfl, Lib.hid fun j hj => absurd hj (Nat.not_lt_zero _), Lib.hid (Ext.refl _)⟩
  case round =>
    obtain ⟨k, hk, rfl, HN, HX⟩ := hrel
    by_cases hlt : k < m
    · have hin : (k : Int) < (m : Int) := by omega
      have hkl : k < gs.length := by rw [HM.out]; exact hlt
      obtain ⟨ba, oa, rfl, hba, rv, hcr, hro⟩ := (HA.out.ext HX.out).get k hkl
      obtain ⟨hq1, hq2⟩ := HGL.out _ (List.getElem_mem hkl)
      have HC := Lib.hid (HCL.out wr rv gs[k] HX.out hq1 hq2 hro)
      rw [HFF.out] at HC
      have HT : Hid (f gs[k] = true → gs.findIdx? f = some k) := fun e => findIdx_some hkl e fun j hj => HN.out j hj (by omega)
      have HNX : Hid (f gs[k] = false → ∀ j (hj : j < k + 1) (hl : j < gs.length), f gs[j] = false) := fun e j hj hl => by
        by_cases e2 : j = k
        · subst e2; exact e
        · exact HN.out j (by omega) hl
      generalize f gs[k] = u at *
      clear hq1 hq2 hro
      go_wp2_with fail
      refine HC.out.mono ?_
      rintro e w2 ⟨rfl, hb2⟩
      have HX2 : Hid (Ext w w2) := HX.out.trans hb2
      clear hb2
      cases u with
      | true =>
        go_wp2_with fail
        go_ret
        exact ⟨by rw [HT.out (by simp)]; rfl, HX2.out⟩
      | false =>
        go_wp2_with fail
        go_roundw
        case rel => exact ⟨k + 1, by omega, by go_num, HNX.out (by simp), HX2.out⟩
        case measure => simp [intOf]; omega
    · have hkm : k = m := by omega
      subst hkm
      have hin2 : ¬ ((k : Int) < (k : Int)) := by omega
      have HNO : Hid (gs.findIdx? f = none) := List.findIdx?_eq_none_iff.2 fun x hx => by
        obtain ⟨j, hj, rfl⟩ := List.getElem_of_mem hx
        exact HN.out j (by rw [← HM.out]; exact hj) hj
      go_wp2_with fail
      go_ret
      exact ⟨by rw [HNO.out]; rfl, HX.out⟩
end Go.Proofs.YtjabgpejmnpamaaGreatDoor

namespace Go.Proofs.YtjabgpejmnpamaaGreatDoor
open Go.RowKit
set_option maxRecDepth 100000
theorem own_apart {α β : Type} {enc : α → Value} {enc' : β → Value} {e e' : TypeId} {w : World} {B B' : Nat} {v v' : Value} {l : List α} {l' : List β} (h : OwnG enc e w B v l) (h' : OwnG enc' e' w B' v' l') (ne : e ≠ e') : ∀ g, v.ownBlock = some g → v'.ownBlock ≠ some g := by
  intro g hg hg'
  rcases h.2 with ⟨h1, _⟩ | ⟨q, cap, cur, h1, _, h3, _⟩
  · rw [h1] at hg; simp [Value.ownBlock] at hg
  · rcases h'.2 with ⟨k1, _⟩ | ⟨q', cap', cur', k1, _, k3, _⟩
    · rw [k1] at hg'; simp [Value.ownBlock] at hg'
    · rw [h1] at hg; rw [k1] at hg'
      simp [Value.ownBlock] at hg hg'
      rw [hg] at h3; rw [hg'] at k3
      rw [h3] at k3
      cases k3; exact ne rfl
theorem own_not_map {α : Type} {enc : α → Value} {e k : TypeId} {w : World} {B : Nat} {v : Value} {l : List α} {P : Program} {H : Type} {R : Value → Option (DataW H × List MemPlace)} {b n : Nat} {D : DataW H} (h : OwnG enc e w B v l) (hm : w.ownsMap P k R b n D) : v.ownBlock ≠ some b := by
  intro hg
  obtain ⟨es, clock, hb, _⟩ := hm
  rcases h.2 with ⟨h1, _⟩ | ⟨q, cap, cur, h1, _, h3, _⟩
  · rw [h1] at hg; simp [Value.ownBlock] at hg
  · rw [h1] at hg
    simp [Value.ownBlock] at hg
    rw [hg, hb] at h3
    cases h3
theorem map_ext {w w' : World} {P : Program} {k : TypeId} {H : Type} {R : Value → Option (DataW H × List MemPlace)} {b n : Nat} {D : DataW H} (h : w.ownsMap P k R b n D) (e : Ext w w') : w'.ownsMap P k R b n D := by
  have hlt := h.lt
  obtain ⟨es, clock, hb, F, hs, hD⟩ := h
  exact ⟨es, clock, (e.block b hlt).trans hb, F, hs, hD⟩
def GrowV (w : World) (B : Nat) (v : Value) (vs : List Value) (gs : List (List Nat)) : Prop :=
  OwnG id 177 w B v vs ∧ vs.length = gs.length ∧ (∀ i (h1 : i < vs.length) (h2 : i < gs.length), OwnG encN 3 w B vs[i] gs[i]) ∧ ∀ i j (h1 : i < vs.length) (h2 : j < vs.length), i ≠ j → ∀ g, vs[i].ownBlock = some g → vs[j].ownBlock ≠ some g
section
variable {w w' : World} {B : Nat} {v : Value} {vs : List Value} {gs : List (List Nat)}
theorem side_ne : (3 : TypeId) ≠ 177 := by decide
theorem GrowV.ext (h : GrowV w B v vs gs) (e : Ext w w') : GrowV w' B v vs gs := ⟨h.1.ext e, h.2.1, fun i a b => (h.2.2.1 i a b).ext e, h.2.2.2⟩
theorem GrowV.start : GrowV w B (.slice none 0 0) [] [] := ⟨OwnG.nil, rfl, fun i h => absurd h (by simp), fun i j h => absurd h (by simp)⟩
theorem GrowV.rows (h : GrowV w B v vs gs) : elRowsAt w v gs := ⟨vs, h.1.slice, h.2.1, fun i a b => (h.2.2.1 i a b).slice⟩
theorem GrowV.map {P : Program} {k : TypeId} {H : Type} {R : Value → Option (DataW H × List MemPlace)} {b n : Nat} {D : DataW H} (h : GrowV w B v vs gs) (hm : w.ownsMap P k R b n D) (hg : w.grownBy w' (some b)) : GrowV w' B v vs gs :=
  ⟨h.1.kept hg (.inl (own_not_map h.1 hm)), h.2.1, fun i a c => (h.2.2.1 i a c).kept hg (.inl (own_not_map (h.2.2.1 i a c) hm)), h.2.2.2⟩
theorem GrowV.nil {v' : Value} (h : GrowV w B v vs gs) (h1 : w'.ownsRow B 177 1 v' (vs.length + 1) (vs.map id ++ [.slice none 0 0])) (hg : w.grownBy w' v.ownBlock) : GrowV w' B v' (vs ++ [.slice none 0 0]) (gs ++ [[]]) := by
  refine ⟨OwnG.snoc (enc := id) (x := .slice none 0 0) h1, by simp [h.2.1], fun i a b => ?_, fun i j a b hne g hgi => ?_⟩
  · by_cases hi : i < vs.length
    · have hi2 : i < gs.length := by rw [← h.2.1]; exact hi
      rw [List.getElem_append_left hi, List.getElem_append_left hi2]
      refine (h.2.2.1 i hi hi2).kept hg ?_
      cases hq : vs[i].ownBlock with
      | none => exact .inr rfl
      | some g => exact .inl fun e => own_apart (h.2.2.1 i hi hi2) h.1 side_ne g hq e.symm
    · have hi2 : i = vs.length := by simp at a; omega
      subst hi2
      rw [List.getElem_append_right (Nat.le_refl _), List.getElem_append_right (by rw [h.2.1]; exact Nat.le_refl _)]
      simp only [Nat.sub_self, List.getElem_singleton]
      exact OwnG.nil
  · by_cases hi : i < vs.length
    · rw [List.getElem_append_left hi] at hgi
      by_cases hj : j < vs.length
      · rw [List.getElem_append_left hj]; exact h.2.2.2 i j hi hj hne g hgi
      · have hj2 : j = vs.length := by simp at b; omega
        subst hj2
        rw [List.getElem_append_right (Nat.le_refl _)]
        simp [Value.ownBlock]
    · have hi2 : i = vs.length := by simp at a; omega
      subst hi2
      rw [List.getElem_append_right (Nat.le_refl _)] at hgi
      simp [Value.ownBlock] at hgi
theorem GrowV.put {w1 w2 : World} (h : GrowV w B v vs gs) {k x g c n : Nat} (hk : k < vs.length) (hk2 : k < gs.length) (hv : v = .slice (some ⟨g, 0, none⟩) n c) (e1 : Ext w w1) {v2 : Value}
    (h2 : w2.ownsRow B 3 1 v2 (gs[k].length + 1) (gs[k].map encN ++ [encN x])) (hg : w1.grownBy w2 vs[k].ownBlock) (hat : v2.ownBlock = vs[k].ownBlock ∨ v2.ownBlock = some w1.heap.size) :
    OwnG id 177 w2 B v vs ∧ GrowV (w2.setCell ⟨g, k, none⟩ v2) B v (vs.set k v2) (gs.set k (gs[k] ++ [x])) := by
  have hw1 := h.ext e1
  have hn : n = vs.length := by
    obtain ⟨a', c', e⟩ := h.1.shape
    rw [hv] at e; injection e
  have hvk : OwnG encN 3 w2 B v2 (gs[k] ++ [x]) := OwnG.snoc (enc := encN) (x := x) h2
  have hout : OwnG id 177 w2 B v vs := hw1.1.kept hg (by
    cases hq : v.ownBlock with
    | none => exact .inr rfl
    | some q => exact .inl fun e => own_apart (hw1.2.2.1 k hk hk2) hw1.1 side_ne q e.symm hq)
  have hoth : ∀ i (a : i < vs.length) (b : i < gs.length), i ≠ k → OwnG encN 3 w2 B vs[i] gs[i] := fun i a b hik => (hw1.2.2.1 i a b).kept hg (by
    cases hq : vs[i].ownBlock with
    | none => exact .inr rfl
    | some q => exact .inl fun e => h.2.2.2 i k a hk hik q hq e.symm)
  have hgb : v.ownBlock = some g := by rw [hv]; simp [Value.ownBlock]
  have hset : OwnG id 177 (w2.setCell ⟨g, k, none⟩ v2) B v (vs.set k v2) := by
    rw [hv] at hout ⊢
    exact hout.put hn k v2
  refine ⟨hout, hset, by simp [h.2.1], fun i a b => ?_, fun i j a b hne q hq => ?_⟩
  · rw [List.length_set] at a b
    by_cases hik : k = i
    · subst hik
      rw [List.getElem_set_self, List.getElem_set_self]
      exact hvk.off (fun e => own_apart hvk hout side_ne g e hgb) _ _
    · rw [List.getElem_set_ne hik, List.getElem_set_ne hik]
      have ho := hoth i a b (Ne.symm hik)
      exact ho.off (fun e => own_apart ho hout side_ne g e hgb) _ _
  · rw [List.length_set] at a b
    have hfresh : ∀ i (a : i < vs.length), i ≠ k → ∀ q, vs[i].ownBlock = some q → v2.ownBlock ≠ some q := fun i a hik q hq e => by
      rcases hat with e2 | e2
      · rw [e2] at e; exact h.2.2.2 i k a hk hik q hq e
      · rw [e2] at e
        have := (OwnG.lt (hw1.2.2.1 i a (by rw [← h.2.1]; exact a)) q hq).2
        injection e with e
        omega
    by_cases hik : k = i
    · subst hik
      rw [List.getElem_set_self] at hq
      rw [List.getElem_set_ne hne]
      exact fun e => hfresh j b (Ne.symm hne) q e hq
    · rw [List.getElem_set_ne hik] at hq
      by_cases hjk : k = j
      · subst hjk
        rw [List.getElem_set_self]
        exact hfresh i a (Ne.symm hik) q hq
      · rw [List.getElem_set_ne hjk]
        exact h.2.2.2 i j a b hne q hq
end
theorem keyed_int : Maps.Keyed Tryz.prog 3 := Maps.int_keyed Tryz.underlying3
theorem key_place {i : Nat} (h : i ≤ 1000000) : keyOf Tryz.prog 3 (encN i) = some (Lit.int .i64 i) := Maps.keyOf_int_mk Tryz.underlying3 (by simp [Lit.wf, IntKind.min, IntKind.max, IntKind.signed, IntKind.bits]; omega)
abbrev MapAt (w : World) (b n : Nat) (D : DataW Unit) : Prop := w.ownsMap Tryz.prog 3 (plainElem Tryz.prog 3) b n D
theorem look_put {w : World} {b n : Nat} {D : DataW Unit} {i k : Nat} (hi : i ≤ 1000000) (hk : k ≤ 1000000) (hD : Maps.IsMap D) (h : MapAt w b n (D.put (.int .i64 i) (.lit (.int .i64 k)))) :
    ∀ w', Ext w w' → (Instr.lookup 227 (.map (some b)) (encN i) false).run Tryz.prog w' = .ok (encN k) w' := by
  intro w' e
  obtain ⟨c, hrun, hat, _⟩ := (map_ext h e).lookup_int keyed_int Tryz.underlying227 Tryz.underlying3 (Tryz.zeroValue3 _) (key_place hi)
  rw [Maps.atKey_put_same hD (by trivial)] at hat
  injection hat with hat
  injection hat with _ hat
  rw [hrun, ← hat]
end Go.Proofs.YtjabgpejmnpamaaGreatDoor
