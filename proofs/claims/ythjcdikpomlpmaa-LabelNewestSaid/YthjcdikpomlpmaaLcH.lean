/-
  Chapter 30 (label): bytes compared; what a read leaves behind, as a state; a part of a label read.
  Chapter 30 (label): a sector's part is read.
  Chapter 30 (label): the reference's chunk.
  Chapter 30 (label): a label's box beside a reader; stores into it; the flags of disks.
-/
import Derived.Test.YthjcdikpomlpmaaLbW
import Derived.Test.YthjcdikpomlpmaaLbL
namespace Go.Proofs.Ythjcdikpomlpmaa
open Go.ChangeShapes Go.WideShapes Go.ChangeAt Go.RowKit
set_option linter.unusedVariables false

/-- equal bytes, a word that the walk does not open -/
def eqBB (x y : List (BitVec 8)) : Bool := decide (x = y)
theorem eqBB_len {x y : List (BitVec 8)} (h : x.length ≠ y.length) : eqBB x y = false := by unfold eqBB; rw [decide_eq_false_iff_not]; intro e; exact h (by rw [e])
theorem eqBB_at {x y : List (BitVec 8)} {i : Nat} (hx : i < x.length) (hy : i < y.length) (h : x[i] ≠ y[i]) : eqBB x y = false := by unfold eqBB; rw [decide_eq_false_iff_not]; intro e; subst e; exact h rfl
theorem eqBB_all {x y : List (BitVec 8)} (h : x.length = y.length) (ha : x.take x.length = y.take x.length) : eqBB x y = true := by
  unfold eqBB; rw [decide_eq_true_eq]
  rwa [List.take_length, h, List.take_length] at ha
theorem takeB_next {x y : List (BitVec 8)} {i : Nat} (hx : i < x.length) (hy : i < y.length) (h : x.take i = y.take i) (he : x[i] = y[i]) : x.take (i + 1) = y.take (i + 1) := by
  rw [List.take_succ_eq_append_getElem hx, List.take_succ_eq_append_getElem hy, h, he]
set_option maxRecDepth 100000 in
set_option maxHeartbeats 1000000 in
theorem eqslB_any (v1 v2 : Value) (x y : List (BitVec 8)) (w : World) (hlx : x.length ≤ 100000) (hly : y.length ≤ 100000) (hx : SliceAt encB w v1 x) (hy : SliceAt encB w v2 y) :
    Calls Try.prog 44 #[v1, v2] w (BoolEnd w (eqBB x y)) := by
  obtain ⟨ad1, cap1, rfl⟩ := hx.shape
  obtain ⟨ad2, cap2, rfl⟩ := hy.shape
  have HX := Lib.hid hx
  have HY := Lib.hid hy
  obtain ⟨n, hn⟩ : ∃ n, x.length = n := ⟨_, rfl⟩
  obtain ⟨m, hm⟩ : ∃ m, y.length = m := ⟨_, rfl⟩
  have HN := Lib.hid hn
  have HM := Lib.hid hm
  rw [hn] at HX hlx ⊢
  rw [hm] at HY hly ⊢
  clear hx hy hn hm
  by_cases hnm : n = m
  · subst hnm
    have hq1 : ((n : Int) == n) = true := by simp
    have hq2 : ((n : Int) != n) = false := by simp
    have HX0 : Hid (Ext w w) := Ext.refl _
    go_enter Try.func44, Try.ntmps44
    go_wp2_with fail
    go_loopw [13] (fun iv wr => ∃ i : Nat, i ≤ n ∧ iv = .int .i64 i ∧ Hid (x.take i = y.take i) ∧ Hid (Ext w wr)) (fun iv _ => n - (intOf iv).toNat)
    case atStart => exact ⟨0, Nat.zero_le _, rfl, by show _ = _; simp, HX0⟩
    case round =>
      obtain ⟨i, hi, rfl, HT, HXr⟩ := hrel
      by_cases hlt : i < n
      · have hin : (i : Int) < (n : Int) := by omega
        have hi0 : (0 : Int) ≤ (i : Int) := by omega
        obtain ⟨b1, off1, rfl, hb1, hc1⟩ := (HX.out.ext HXr.out).get i (by rw [HN.out]; exact hlt)
        obtain ⟨b2, off2, rfl, hb2, hc2⟩ := (HY.out.ext HXr.out).get i (by rw [HM.out]; exact hlt)
        have HNE : Hid (x[i]'(by rw [HN.out]; exact hlt) ≠ y[i]'(by rw [HM.out]; exact hlt) → eqBB x y = false) := fun h => eqBB_at _ _ h
        have HEQ : Hid (x[i]'(by rw [HN.out]; exact hlt) = y[i]'(by rw [HM.out]; exact hlt) → x.take (i + 1) = y.take (i + 1)) := fun h => takeB_next _ _ HT.out h
        generalize x[i]'(by rw [HN.out]; exact hlt) = p at *
        generalize y[i]'(by rw [HM.out]; exact hlt) = q at *
        by_cases hpq : p = q
        · subst hpq
          have q1 : (ub p == ub p) = true := by simp
          have q2 : (ub p != ub p) = false := by simp
          go_wp2_with fail
          refine wp_region_ext [(0, true), (1, true), (2, true), (3, true), (4, true), (5, true), (6, true), (7, true), (8, true)] (by kernel_rfl) (by kernel_rfl) ?_
          iterate 9 (first
           | (refine ext_move rfl rfl (by rfl) (by rfl) ?_; simp only [Act.put, List.setIfInBounds_toArray, List.set_cons_zero, List.set_cons_succ])
           | (refine ext_assign rfl rfl (by rfl) (by rfl) ?_; simp only [Act.put, List.setIfInBounds_toArray, List.set_cons_zero, List.set_cons_succ])
           | (refine ext_pick_t rfl rfl (by rfl) (by rfl) (by rfl) ?_; simp only [Act.put, List.setIfInBounds_toArray, List.set_cons_zero, List.set_cons_succ])
           | (refine ext_pick_f rfl rfl (by rfl) (by rfl) (by rfl) ?_; simp only [Act.put, List.setIfInBounds_toArray, List.set_cons_zero, List.set_cons_succ])
           | (apply ext_take rfl (by rfl)
              · intro w' hS
                have hSc := hS.cells
                (try simp only [World.size_drew, World.cell?_drew] at hSc)
                go_simp
                (try simp (disch := omega) only [i64_id, u64_id, ↓IntWalk.iteOmega, Int.tdiv_eq_ediv_of_nonneg, Int.tmod_eq_emod_of_nonneg])
                try rfl
              simp only [Act.put, List.setIfInBounds_toArray, List.set_cons_zero, List.set_cons_succ])
           | (refine ext_pass rfl (by rfl) ?_; simp only [Act.put, List.setIfInBounds_toArray, List.set_cons_zero, List.set_cons_succ]))
          refine ext_nil ?_
          go_wp2_with fail
          go_roundw
          case rel => exact ⟨i + 1, by omega, by go_num, HEQ.out (by simp), HXr.out.trans (Ext.drew _)⟩
          case measure => simp [intOf]; omega
        · have q1 : (ub p == ub q) = false := by rw [beq_eq_false_iff_ne]; exact fun h => hpq (ub_inj h)
          have q2 : (ub p != ub q) = true := by rw [bne, q1]; rfl
          rw [HNE.out hpq]
          clear hpq
          go_wp2_with fail
          refine wp_region_ext [(0, true), (1, true), (2, true), (3, true), (4, true), (5, true), (6, true), (7, true), (8, true)] (by kernel_rfl) (by kernel_rfl) ?_
          iterate 9 (first
           | (refine ext_move rfl rfl (by rfl) (by rfl) ?_; simp only [Act.put, List.setIfInBounds_toArray, List.set_cons_zero, List.set_cons_succ])
           | (refine ext_assign rfl rfl (by rfl) (by rfl) ?_; simp only [Act.put, List.setIfInBounds_toArray, List.set_cons_zero, List.set_cons_succ])
           | (refine ext_pick_t rfl rfl (by rfl) (by rfl) (by rfl) ?_; simp only [Act.put, List.setIfInBounds_toArray, List.set_cons_zero, List.set_cons_succ])
           | (refine ext_pick_f rfl rfl (by rfl) (by rfl) (by rfl) ?_; simp only [Act.put, List.setIfInBounds_toArray, List.set_cons_zero, List.set_cons_succ])
           | (apply ext_take rfl (by rfl)
              · intro w' hS
                have hSc := hS.cells
                (try simp only [World.size_drew, World.cell?_drew] at hSc)
                go_simp
                (try simp (disch := omega) only [i64_id, u64_id, ↓IntWalk.iteOmega, Int.tdiv_eq_ediv_of_nonneg, Int.tmod_eq_emod_of_nonneg])
                try rfl
              simp only [Act.put, List.setIfInBounds_toArray, List.set_cons_zero, List.set_cons_succ])
           | (refine ext_pass rfl (by rfl) ?_; simp only [Act.put, List.setIfInBounds_toArray, List.set_cons_zero, List.set_cons_succ]))
          refine ext_nil ?_
          go_wp2_with fail
          go_ret
          exact ⟨rfl, HXr.out.trans (Ext.drew _)⟩
      · have hin : i = n := by omega
        subst hin
        have hin2 : ¬ ((i : Int) < (i : Int)) := by omega
        go_wp2_with fail
        go_ret
        exact ⟨by rw [eqBB_all (HN.out.trans HM.out.symm) (by rw [HN.out]; exact HT.out)]; rfl, HXr.out⟩
  · have hb1 : ((n : Int) == m) = false := by rw [beq_eq_false_iff_ne]; omega
    have hb2 : ((n : Int) != m) = true := by rw [bne, hb1]; rfl
    rw [eqBB_len (by rw [HN.out, HM.out]; exact hnm)]
    go_enter Try.func44, Try.ntmps44
    go_wp2_with fail
    go_ret
    exact ⟨rfl, Ext.refl _⟩

theorem SliceAt.dropS {α : Type} {enc : α → Value} {w : World} {b off n cap lo : Nat} {l : List α} (h : SliceAt enc w (.slice (some ⟨b, off, none⟩) n cap) l) (h1 : lo ≤ l.length) (h2 : lo < cap) : SliceAt enc w (.slice (some ⟨b, off + lo, none⟩) (n - lo) (cap - lo)) (l.drop lo) := by
  obtain ⟨ad, c, hsh⟩ := h.shape
  have hn : n = l.length := by injection hsh
  have := h.cut lo l.length h1 (Nat.le_refl _)
  rw [subA, if_neg (by omega), Option.map_some, add_plain, List.take_of_length_le (by rw [List.length_drop]; omega)] at this
  rw [hn]; exact this
theorem SliceAt.takeS {α : Type} {enc : α → Value} {w : World} {b off n cap lo : Nat} {l : List α} (h : SliceAt enc w (.slice (some ⟨b, off, none⟩) n cap) l) (h1 : lo ≤ l.length) (h2 : 0 < cap) : SliceAt enc w (.slice (some ⟨b, off, none⟩) lo cap) (l.take lo) := by
  have := h.cut 0 lo (Nat.zero_le _) h1
  rw [subA, if_neg (by omega), Option.map_some, add_plain, List.drop_zero, Nat.sub_zero, Nat.sub_zero, Nat.add_zero] at this
  exact this
theorem SliceAt.inn {α : Type} {enc : α → Value} {w : World} {ad : Option Addr} {n cap : Nat} {l : List α} (h : SliceAt enc w (.slice ad n cap) l) (h0 : 0 < l.length) : n ≤ cap ∧ ∃ b off, ad = some ⟨b, off, none⟩ := by
  obtain ⟨ad', cap', hv, hc, h⟩ := h
  injection hv with e1 e2 e3
  subst e1 e2 e3
  refine ⟨hc, ?_⟩
  rcases h with ⟨rfl, _⟩ | ⟨b, off, ha, _⟩
  · simp at h0
  · exact ⟨b, off, ha⟩

/-! ### what a read leaves behind, as a state -/
def OKs (s : Lb.St) : Prop := s.1 = true → s.2 = []
theorem stU_ok (s : Lb.St) : OKs (Lb.stU s).2 := by
  unfold Lb.stU
  split
  · exact fun h => by cases h
  · exact fun _ => rfl
theorem stU_len (s : Lb.St) : (Lb.stU s).2.2.length ≤ s.2.length := by
  unfold Lb.stU
  split
  · rename_i h; exact rd_len h
  · exact Nat.zero_le _
theorem stC_len (m : Int) (s : Lb.St) : (Lb.stC m s).2.2.length ≤ s.2.length := by
  unfold Lb.stC rdC
  cases h : rd s.1 s.2 with
  | none => exact Nat.zero_le _
  | some p =>
    obtain ⟨x, r⟩ := p
    have := rd_len h
    simp only
    split <;> rename_i h2
    · split at h2
      · simp only [Option.some.injEq, Prod.mk.injEq] at h2
        simp only
        rw [← h2.2]; exact this
      · cases h2
    · exact Nat.zero_le _
theorem stB_len (s : Lb.St) : (Lb.stB s).2.2.length ≤ s.2.length ∧ (Lb.stB s).1.length ≤ s.2.length := by
  unfold Lb.stB rdB
  cases h : rd s.1 s.2 with
  | none => exact ⟨Nat.zero_le _, Nat.zero_le _⟩
  | some p =>
    obtain ⟨x, r⟩ := p
    have := rd_len h
    simp only
    split <;> rename_i h2
    · split at h2
      · simp only [Option.some.injEq, Prod.mk.injEq] at h2
        simp only
        rw [← h2.1, ← h2.2, List.length_drop, List.length_take]; omega
      · cases h2
    · exact ⟨Nat.zero_le _, Nat.zero_le _⟩
theorem stB_ok (s : Lb.St) : OKs (Lb.stB s).2 := by
  unfold Lb.stB
  split
  · exact fun h => by cases h
  · exact fun _ => rfl
/-- the reader lies in block b of a world that grew from W -/
structure Rds (W w : World) (b : Nat) (s : Lb.St) : Prop where
  ext : Ext W w
  ge : W.heap.size ≤ b
  rd : RdAt w b s.2 s.1
theorem Rds.after {W w w' : World} {b : Nat} {s s' : Lb.St} (h : Rds W w b s) (ha : After w w' b s'.2 s'.1) : Rds W w' b s' :=
  ⟨h.ext.grown ha.2 h.ext.size (fun q hq => by cases hq; exact h.ge), h.ge, ha.1⟩
theorem Rds.more {W w w' : World} {b : Nat} {s : Lb.St} (h : Rds W w b s) (e : Ext w w') : Rds W w' b s := ⟨h.ext.trans e, h.ge, h.rd.ext e⟩
def UEnd (W : World) (b : Nat) (s : Lb.St) (e : Ending) (w' : World) : Prop := ∃ err : Int, e = .returned (.tuple #[encU (Lb.stU s).1, .int .i64 err]) ∧ Rds W w' b (Lb.stU s).2
def CEnd (most : Int) (W : World) (b : Nat) (s : Lb.St) (e : Ending) (w' : World) : Prop := ∃ err : Int, e = .returned (.tuple #[.int .i64 (Lb.stC most s).1, .int .i64 err]) ∧ Rds W w' b (Lb.stC most s).2
def BEnd (W : World) (b : Nat) (s : Lb.St) (e : Ending) (w' : World) : Prop := ∃ v, ∃ err : Int, e = .returned (.tuple #[v, .int .i64 err]) ∧ SliceAt encB w' v (Lb.stB s).1 ∧ Rds W w' b (Lb.stB s).2
theorem uEnd_of {W w w' : World} {b : Nat} {s : Lb.St} {e : Ending} (h : Rds W w b s) (hp : UintPost w b (rd s.1 s.2) e w') : UEnd W b s e w' := by
  unfold UintPost at hp
  unfold UEnd Lb.stU
  split at hp
  · rename_i x r hr
    rw [hr]
    exact ⟨_, hp.1, h.after (s' := (false, r)) hp.2⟩
  · rename_i hr
    rw [hr]
    exact ⟨_, hp.1, h.after (s' := (true, [])) hp.2⟩
theorem suint_any (W w : World) (b : Nat) (s : Lb.St) (hl : s.2.length ≤ 100000) (h : Rds W w b s) :
    Calls Try.prog 59 #[.pointer (some ⟨b, 0, none⟩)] w (UEnd W b s) :=
  (uint_any w b s.2 s.1 hl h.rd).mono fun _ _ hp => uEnd_of h hp
theorem sruint_any (W w : World) (b : Nat) (s : Lb.St) (hl : s.2.length ≤ 100000) (ho : OKs s) (h : Rds W w b s) :
    Calls Try.prog 64 #[.pointer (some ⟨b, 0, none⟩)] w (UEnd W b s) :=
  (ruint_any w b s.2 s.1 hl ho h.rd).mono fun _ _ hp => uEnd_of h hp
theorem scount_any (most : Int) (W w : World) (b : Nat) (s : Lb.St) (hm : -9223372036854775808 ≤ most ∧ most ≤ 9223372036854775807) (hl : s.2.length ≤ 100000) (h : Rds W w b s) :
    Calls Try.prog 60 #[.pointer (some ⟨b, 0, none⟩), .int .i64 most] w (CEnd most W b s) :=
  (count_any w b s.2 s.1 most hm hl h.rd).mono fun _ _ hp => by
    unfold ReadPost at hp
    unfold CEnd Lb.stC
    split at hp
    · rename_i x r hr
      rw [hr]
      obtain ⟨v, h1, h2, h3⟩ := hp
      have h2 : v = .int .i64 x := h2
      subst h2
      exact ⟨_, h1, h.after (s' := (false, r)) h3⟩
    · rename_i hr
      rw [hr]
      exact ⟨_, hp.1, h.after (s' := (true, [])) hp.2⟩
theorem bEnd_of {W w w' : World} {b : Nat} {s : Lb.St} {e : Ending} (h : Rds W w b s) (hp : ReadPost IsBytes (.slice none 0 0) w b (rdB s.1 s.2) e w') : BEnd W b s e w' := by
  unfold ReadPost at hp
  unfold BEnd Lb.stB
  split at hp
  · rename_i x r hr
    rw [hr]
    obtain ⟨v, h1, h2, h3⟩ := hp
    exact ⟨v, _, h1, h2, h.after (s' := (false, r)) h3⟩
  · rename_i hr
    rw [hr]
    exact ⟨_, _, hp.1, SliceAt.nil, h.after (s' := (true, [])) hp.2⟩
theorem sbytes_any (W w : World) (b : Nat) (s : Lb.St) (hl : s.2.length ≤ 100000) (h : Rds W w b s) :
    Calls Try.prog 61 #[.pointer (some ⟨b, 0, none⟩)] w (BEnd W b s) :=
  (bytes_any w b s.2 s.1 hl h.rd).mono fun _ _ hp => bEnd_of h hp
theorem srbytes_any (W w : World) (b : Nat) (s : Lb.St) (hl : s.2.length ≤ 100000) (ho : OKs s) (h : Rds W w b s) :
    Calls Try.prog 65 #[.pointer (some ⟨b, 0, none⟩)] w (BEnd W b s) :=
  (rbytes_any w b s.2 s.1 hl ho h.rd).mono fun _ _ hp => bEnd_of h hp
theorem sdone_any (W w : World) (b : Nat) (s : Lb.St) (hl : s.2.length ≤ 100000) (h : Rds W w b s) :
    Calls Try.prog 62 #[.pointer (some ⟨b, 0, none⟩)] w fun e w' => e = .returned (.int .i64 (fin s.1 s.2)) ∧ w = w' := done_any w b s.2 s.1 hl h.rd
theorem srdone_any (W w : World) (b : Nat) (s : Lb.St) (hl : s.2.length ≤ 100000) (h : Rds W w b s) :
    Calls Try.prog 66 #[.pointer (some ⟨b, 0, none⟩)] w fun e w' => e = .returned (.int .i64 (fin s.1 s.2)) ∧ w = w' := rdone_any w b s.2 s.1 hl h.rd
theorem snew_any (v : Value) (l : List (BitVec 8)) (w : World) (hl : l.length ≤ 100000) (h : SliceAt encB w v l) :
    Calls Try.prog 58 #[v] w fun e w' => ∃ b, e = .returned (.pointer (some ⟨b, 0, none⟩)) ∧ Rds w w' b (false, l) :=
  (new_any v l w hl h).mono fun _ _ ⟨b, h1, h2, h3, h4⟩ => ⟨b, h1, ⟨h4, h2, h3⟩⟩
theorem srnew_any (v : Value) (l : List (BitVec 8)) (w : World) (hl : l.length ≤ 100000) (h : SliceAt encB w v l) :
    Calls Try.prog 63 #[v] w fun e w' => ∃ b, e = .returned (.pointer (some ⟨b, 0, none⟩)) ∧ Rds w w' b (false, l) :=
  (rnew_any v l w hl h).mono fun _ _ ⟨b, h1, h2, h3, h4⟩ => ⟨b, h1, ⟨h4, h2, h3⟩⟩
theorem Rds.drew {W w : World} {b : Nat} {s : Lb.St} (h : Rds W w b s) : Rds W w.drew b s := h.more (Ext.drew w)
/-- what part and chunk return -/
def PartEnd (w0 : World) (o : Option (List (BitVec 8) × Int)) (e : Ending) (w' : World) : Prop :=
  ∃ (v : Value) (n : Int) (ok : Bool), e = .returned (.tuple #[v, .int .i64 n, .bool ok]) ∧ (ok = o.isSome) ∧ (∀ d, o = some d → n = d.2 ∧ SliceAt encB w' v d.1) ∧ Ext w0 w'
theorem partEnd_no {w0 w' : World} {o : Option (List (BitVec 8) × Int)} {e : Ending} {v : Value} {n : Int} (h : o = none) (he : e = .returned (.tuple #[v, .int .i64 n, .bool false])) (hx : Ext w0 w') : PartEnd w0 o e w' := by
  subst h
  exact ⟨v, n, false, he, rfl, (fun d h => by cases h), hx⟩
theorem partEnd_yes {w0 w' : World} {o : Option (List (BitVec 8) × Int)} {e : Ending} {v : Value} {n : Int} {d : List (BitVec 8)} (h : o = some (d, n)) (he : e = .returned (.tuple #[v, .int .i64 n, .bool true])) (hs : SliceAt encB w' v d) (hx : Ext w0 w') : PartEnd w0 o e w' := by
  subst h
  exact ⟨v, n, true, he, rfl, (fun d h => by cases h; exact ⟨rfl, hs⟩), hx⟩
theorem partT_short {b : List (BitVec 8)} (h : b.length < 9) : Lb.partT b = none := by
  unfold Lb.partT Lb.sealedB
  rw [decide_eq_false (by omega)]; simp
theorem partT_head {b : List (BitVec 8)} {x : BitVec 8} (h0 : 0 < b.length) (hb : b[0] = x) (h : x ≠ 76#8) : Lb.partT b = none := by
  unfold Lb.partT Lb.sealedB
  have : b.headD 0#8 = x := by cases b with
    | nil => simp at h0
    | cons a t => exact hb
  rw [this, beq_eq_false_iff_ne.2 h]; simp
theorem partT_seal {b : List (BitVec 8)} {m : Nat} (hm : b.length - 8 = m) (h : eqBB (Lb.sealL (b.take m)) b = false) : Lb.partT b = none := by
  unfold Lb.partT Lb.sealedB
  rw [hm, show decide (Lb.sealL (b.take m) = b) = false from h]; simp
theorem partT_good {b : List (BitVec 8)} {m : Nat} (hm : b.length - 8 = m) (h9 : 9 ≤ b.length) (hb : b[0] = 76#8) (h : eqBB (Lb.sealL (b.take m)) b = true) :
    Lb.partT b = if fin (Lb.stB (Lb.stC 6 (Lb.stU (Lb.stU (Lb.stU (false, (b.take m).drop 1)).2).2).2).2).2.1 (Lb.stB (Lb.stC 6 (Lb.stU (Lb.stU (Lb.stU (false, (b.take m).drop 1)).2).2).2).2).2.2 = 0 ∧ 1 ≤ (Lb.stC 6 (Lb.stU (Lb.stU (Lb.stU (false, (b.take m).drop 1)).2).2).2).1
      then some ((Lb.stB (Lb.stC 6 (Lb.stU (Lb.stU (Lb.stU (false, (b.take m).drop 1)).2).2).2).2).1, (Lb.stC 6 (Lb.stU (Lb.stU (Lb.stU (false, (b.take m).drop 1)).2).2).2).1) else none := by
  have hh : b.headD 0#8 = 76#8 := by cases b with
    | nil => simp at h9
    | cons a t => exact hb
  unfold Lb.partT Lb.sealedB
  rw [hm, hh, decide_eq_true h9, show decide (Lb.sealL (b.take m) = b) = true from h]
  rfl
theorem fin_cases (bad : Bool) (l : List (BitVec 8)) : fin bad l = 0 ∨ fin bad l = 5 := by unfold fin; split <;> simp
end Go.Proofs.Ythjcdikpomlpmaa

namespace Go.Proofs.Ythjcdikpomlpmaa
open Go.ChangeShapes Go.WideShapes Go.ChangeAt Go.RowKit
set_option linter.unusedVariables false

set_option maxRecDepth 100000 in
set_option maxHeartbeats 4000000 in
theorem part_any (v : Value) (b : List (BitVec 8)) (w : World) (hl : b.length ≤ 1000) (h : SliceAt encB w v b) :
    Calls Try.prog 40 #[v] w (PartEnd w (Lb.partT b)) := by
  obtain ⟨ad, cap, rfl⟩ := h.shape
  have HB := Lib.hid h
  obtain ⟨n, hn⟩ : ∃ n, b.length = n := ⟨_, rfl⟩
  have HN := Lib.hid hn
  rw [hn] at HB hl ⊢
  clear h hn
  by_cases h9 : n < 9
  · have d1 : decide ((n : Int) < 9) = true := by rw [decide_eq_true_iff]; omega
    have d2 : decide (n < 9) = true := by rw [decide_eq_true_iff]; exact h9
    have HP := Lib.hid (partT_short (b := b) (by rw [HN.out]; exact h9))
    go_enter Try.func40, Try.ntmps40
    go_wp2_with fail
    go_ret3
    exact partEnd_no HP.out rfl (Ext.refl _)
  · have d1 : decide ((n : Int) < 9) = false := by rw [decide_eq_false_iff_not]; omega
    have d2 : decide (n < 9) = false := by rw [decide_eq_false_iff_not]; exact h9
    have h0 : 0 < b.length := by rw [HN.out]; omega
    have hn0 : (0 : Int) < (n : Int) := by omega
    obtain ⟨g, off, rfl, hg, hc⟩ := HB.out.get 0 h0
    obtain ⟨hcap, _⟩ := HB.out.inn h0
    obtain ⟨x, hx⟩ : ∃ x, b[0] = x := ⟨_, rfl⟩
    rw [hx, Nat.add_zero] at hc
    by_cases hx76 : x = 76#8
    · obtain ⟨m, hm⟩ : ∃ m, n = m + 8 := ⟨n - 8, by omega⟩
      subst hm
      have d3 : decide ((m : Int) + 8 < 9) = false := by rw [decide_eq_false_iff_not]; omega
      have hsub : ((m + 8 : Nat) : Int) - 8 = (m : Int) := by omega
      have hsub2 : (m : Int) + 8 - 8 = (m : Int) := by omega
      have hwr : IntKind.i64.wrap (m : Int) = (m : Int) := i64_id _ ⟨by omega, by omega⟩
      have hm8 : b.length - 8 = m := by rw [HN.out]; omega
      have hmb : m ≤ b.length := by rw [HN.out]; omega
      have HS8 := Lib.hid (HB.out.takeS (lo := m) hmb (by omega))
      have HD8 := Lib.hid (HS8.out.dropS (lo := 1) (by rw [List.length_take]; omega) (by omega))
      have HG := Lib.hid (fun h => partT_good (m := m) hm8 (by rw [HN.out]; omega) (hx.trans hx76) h)
      have HNO := Lib.hid (fun h => partT_seal (b := b) (m := m) hm8 h)
      obtain ⟨y, hy⟩ : ∃ y, b.take m = y := ⟨_, rfl⟩
      obtain ⟨z, hz⟩ : ∃ z, y.drop 1 = z := ⟨_, rfl⟩
      have hyl : y.length ≤ 1000 := by rw [← hy, List.length_take]; omega
      have hzl : z.length ≤ 1000 := by rw [← hz, List.length_drop]; omega
      rw [hy] at HS8 HD8 HG HNO
      rw [hz] at HD8 HG
      have q1 : (ub x == 76) = true := by subst hx76; rfl
      have q2 : (ub x != 76) = false := by subst hx76; rfl
      clear hm8 hmb hy hz hx hx76
      go_enter Try.func40, Try.ntmps40
      go_wp2_with fail
      go_at_call 57
      refine (clone_any _ y _ (by omega) HS8.out).mono ?_
      rintro e w1 ⟨v1, rfl, ho1, hx1⟩
      have HO1 := Lib.hid ho1
      have HX1 : Hid (Ext w w1) := hx1
      clear ho1 hx1
      go_wp2_with fail
      go_at_call 33
      refine (sealed_any _ y w.heap.size _ (by omega) HX1.out.size HO1.out).mono ?_
      rintro e w2 ⟨v2, rfl, ho2, hb2⟩
      have HX2 : Hid (Ext w w2) := Below.trans HX1.out hb2
      have HS2 := Lib.hid (OwnB.slice ho2)
      clear ho2 hb2
      go_wp2_with fail
      go_at_call 44
      refine (eqslB_any _ _ (Lb.sealL y) b _ (by rw [Lb.sealL_len]; omega) (by rw [HN.out]; omega) HS2.out (HB.out.ext HX2.out)).mono ?_
      rintro e w3 ⟨rfl, hx3⟩
      have HX3 : Hid (Ext w w3) := HX2.out.trans hx3
      clear hx3
      cases hq : eqBB (Lb.sealL y) b with
      | false =>
        have HP := Lib.hid (HNO.out hq)
        clear hq
        go_wp2_with fail
        go_ret3
        exact partEnd_no HP.out rfl HX3.out
      | true =>
        have HP := Lib.hid (HG.out hq)
        clear hq
        go_wp2_with fail
        go_at_call 58
        refine (snew_any _ z _ (by omega) (HD8.out.ext HX3.out)).mono ?_
        rintro e w4 ⟨rb, rfl, hr4⟩
        have HR4 := Lib.hid hr4
        have hz4 : (((false, z) : Lb.St)).2.length ≤ 1000 := hzl
        generalize ((false, z) : Lb.St) = s0 at *
        have hl1 := stU_len s0
        obtain ⟨s1, hs1⟩ : ∃ s1, (Lb.stU s0).2 = s1 := ⟨_, rfl⟩
        have hl2 := stU_len s1
        obtain ⟨s2, hs2⟩ : ∃ s2, (Lb.stU s1).2 = s2 := ⟨_, rfl⟩
        have hl3 := stU_len s2
        obtain ⟨s3, hs3⟩ : ∃ s3, (Lb.stU s2).2 = s3 := ⟨_, rfl⟩
        have hl4 := stC_len 6 s3
        obtain ⟨s4, hs4⟩ : ∃ s4, (Lb.stC 6 s3).2 = s4 := ⟨_, rfl⟩
        obtain ⟨hl5, hl6⟩ := stB_len s4
        obtain ⟨s5, hs5⟩ : ∃ s5, (Lb.stB s4).2 = s5 := ⟨_, rfl⟩
        rw [hs1] at HP hl1
        rw [hs2] at HP hl2
        rw [hs3] at HP hl3
        rw [hs4] at HP hl4
        rw [hs5] at HP hl5
        have H1 := Lib.hid hs1
        have H2 := Lib.hid hs2
        have H3 := Lib.hid hs3
        have H4 := Lib.hid hs4
        have H5 := Lib.hid hs5
        clear hr4 hs1 hs2 hs3 hs4 hs5 HD8 HS8 HNO HG HS2 HO1
        go_wp2_with fail
        go_at_call 59
        refine (suint_any w3 w4 rb s0 (by omega) HR4.out).mono ?_
        rintro e w5 ⟨er1, rfl, hr5⟩
        rw [H1.out] at hr5
        have HR5 := Lib.hid hr5
        clear hr5
        go_wp2_with fail
        go_at_call 59
        refine (suint_any w3 w5 rb s1 (by omega) HR5.out).mono ?_
        rintro e w6 ⟨er2, rfl, hr6⟩
        rw [H2.out] at hr6
        have HR6 := Lib.hid hr6
        clear hr6
        go_wp2_with fail
        go_at_call 59
        refine (suint_any w3 w6 rb s2 (by omega) HR6.out).mono ?_
        rintro e w7 ⟨er3, rfl, hr7⟩
        rw [H3.out] at hr7
        have HR7 := Lib.hid hr7
        clear hr7
        go_wp2_with fail
        go_at_call 60
        refine (scount_any 6 w3 w7 rb s3 (by decide) (by omega) HR7.out).mono ?_
        rintro e w8 ⟨er4, rfl, hr8⟩
        rw [H4.out] at hr8
        have HR8 := Lib.hid hr8
        clear hr8
        go_wp2_with fail
        go_at_call 61
        refine (sbytes_any w3 w8 rb s4 (by omega) HR8.out).mono ?_
        rintro e w9 ⟨dv, er5, rfl, hd9, hr9⟩
        rw [H5.out] at hr9
        have HR9 := Lib.hid hr9
        have HD9 := Lib.hid hd9
        clear hr9 hd9
        generalize (Lb.stC 6 s3).1 = N at *
        generalize (Lb.stB s4).1 = D at *
        go_wp2_with fail
        go_at_call 62
        refine (sdone_any w3 w9 rb s5 (by omega) HR9.out).mono ?_
        rintro e w10 ⟨rfl, rfl⟩
        obtain ⟨F, hF⟩ : ∃ F, fin s5.1 s5.2 = F := ⟨_, rfl⟩
        rw [hF] at HP ⊢
        clear hF
        by_cases hF0 : F = 0
        · subst hF0
          by_cases hN1 : 1 ≤ N
          · have d1 : decide (1 ≤ N) = true := by rw [decide_eq_true_iff]; exact hN1
            have HP2 := Lib.hid (HP.out.trans (if_pos ⟨rfl, hN1⟩))
            clear hN1
            go_wp2_with fail
            go_ret3
            exact partEnd_yes HP2.out rfl HD9.out (HX3.out.trans HR9.out.ext)
          · have d1 : decide (1 ≤ N) = false := by rw [decide_eq_false_iff_not]; exact hN1
            have HP2 := Lib.hid (HP.out.trans (if_neg (fun h => hN1 h.2)))
            clear hN1
            go_wp2_with fail
            go_ret3
            exact partEnd_no HP2.out rfl (HX3.out.trans HR9.out.ext)
        · have q3 : (F == 0) = false := by rw [beq_eq_false_iff_ne]; exact hF0
          have HP2 := Lib.hid (HP.out.trans (if_neg (fun h => hF0 h.1)))
          clear hF0
          go_wp2_with fail
          go_ret3
          exact partEnd_no HP2.out rfl (HX3.out.trans HR9.out.ext)
    · have q1 : (ub x == 76) = false := by rw [beq_eq_false_iff_ne]; exact fun h => hx76 (ub_inj h)
      have q2 : (ub x != 76) = true := by rw [bne, q1]; rfl
      have HP := Lib.hid (partT_head h0 hx hx76)
      clear hx hx76
      go_enter Try.func40, Try.ntmps40
      go_wp2_with fail
      go_ret3
      exact partEnd_no HP.out rfl (Ext.refl _)
end Go.Proofs.Ythjcdikpomlpmaa

namespace Go.Proofs.Ythjcdikpomlpmaa
open Go.ChangeShapes Go.WideShapes Go.ChangeAt Go.RowKit
set_option linter.unusedVariables false

theorem chunkT_short {b : List (BitVec 8)} (h : b.length < 9) : Lb.chunkT b = none := by
  unfold Lb.chunkT Lb.sealedB
  rw [decide_eq_false (by omega)]; simp
theorem chunkT_head {b : List (BitVec 8)} {x : BitVec 8} (h0 : 0 < b.length) (hb : b[0] = x) (h : x ≠ 76#8) : Lb.chunkT b = none := by
  unfold Lb.chunkT Lb.sealedB
  have : b.headD 0#8 = x := by cases b with
    | nil => simp at h0
    | cons a t => exact hb
  rw [this, beq_eq_false_iff_ne.2 h]; simp
theorem chunkT_seal {b : List (BitVec 8)} {m : Nat} (hm : b.length - 8 = m) (h : eqBB (Lb.sealL (b.take m)) b = false) : Lb.chunkT b = none := by
  unfold Lb.chunkT Lb.sealedB
  rw [hm, show decide (Lb.sealL (b.take m) = b) = false from h]; simp
def chunkE (s : Lb.St) : Option (List (BitVec 8) × Int) :=
  match rdB (Lb.stU s).2.1 (Lb.stU s).2.2 with
  | some (d, _) => if 1 ≤ (Lb.stU s).1.toNat ∧ (Lb.stU s).1.toNat ≤ 100 then some (d, ((Lb.stU s).1.toNat : Int)) else none
  | none => none
theorem chunkE_none {s : Lb.St} (h : rdB (Lb.stU s).2.1 (Lb.stU s).2.2 = none) : chunkE s = none := by unfold chunkE; rw [h]
theorem chunkE_some {s : Lb.St} {d r : List (BitVec 8)} (h : rdB (Lb.stU s).2.1 (Lb.stU s).2.2 = some (d, r)) : chunkE s = if 1 ≤ (Lb.stU s).1.toNat ∧ (Lb.stU s).1.toNat ≤ 100 then some (d, ((Lb.stU s).1.toNat : Int)) else none := by unfold chunkE; rw [h]
theorem chunkT_good {b : List (BitVec 8)} {m : Nat} (hm : b.length - 8 = m) (h9 : 9 ≤ b.length) (hb : b[0] = 76#8) (h : eqBB (Lb.sealL (b.take m)) b = true) :
    Lb.chunkT b = chunkE (Lb.stU (Lb.stU (Lb.stU (false, (b.take m).drop 1)).2).2).2 := by
  have hh : b.headD 0#8 = 76#8 := by cases b with
    | nil => simp at h9
    | cons a t => exact hb
  unfold Lb.chunkT Lb.sealedB
  rw [hm, hh, decide_eq_true h9, show decide (Lb.sealL (b.take m) = b) = true from h]
  rfl
theorem ne_strB (a b : List (BitVec 8)) : ((strB a).toList != (strB b).toList) = !(eqBB a b) := by rw [bne, eq_strB]; rfl
def ChunkEnd (w0 : World) (o : Option (List (BitVec 8) × Int)) (e : Ending) (w' : World) : Prop :=
  ∃ (v : Value) (n : Int) (ok : Bool), e = .returned (.tuple #[.int .i64 n, v, .bool ok]) ∧ (ok = o.isSome) ∧ (∀ d, o = some d → n = d.2 ∧ SliceAt encB w' v d.1) ∧ Ext w0 w'
theorem chunkEnd_no {w0 w' : World} {o : Option (List (BitVec 8) × Int)} {e : Ending} {v : Value} {n : Int} (h : o = none) (he : e = .returned (.tuple #[.int .i64 n, v, .bool false])) (hx : Ext w0 w') : ChunkEnd w0 o e w' := by
  subst h
  exact ⟨v, n, false, he, rfl, (fun d h => by cases h), hx⟩
theorem chunkEnd_yes {w0 w' : World} {o : Option (List (BitVec 8) × Int)} {e : Ending} {v : Value} {n : Int} {d : List (BitVec 8)} (h : o = some (d, n)) (he : e = .returned (.tuple #[.int .i64 n, v, .bool true])) (hs : SliceAt encB w' v d) (hx : Ext w0 w') : ChunkEnd w0 o e w' := by
  subst h
  exact ⟨v, n, true, he, rfl, (fun d h => by cases h; exact ⟨rfl, hs⟩), hx⟩
set_option maxRecDepth 100000 in
set_option maxHeartbeats 4000000 in
theorem rchunk_any (v : Value) (b : List (BitVec 8)) (w : World) (hl : b.length ≤ 1000) (h : SliceAt encB w v b) :
    Calls Try.prog 45 #[v] w (ChunkEnd w (Lb.chunkT b)) := by
  obtain ⟨ad, cap, rfl⟩ := h.shape
  have HB := Lib.hid h
  obtain ⟨n, hn⟩ : ∃ n, b.length = n := ⟨_, rfl⟩
  have HN := Lib.hid hn
  rw [hn] at HB hl ⊢
  clear h hn
  by_cases h9 : n < 9
  · have d1 : decide ((n : Int) < 9) = true := by rw [decide_eq_true_iff]; omega
    have d2 : decide (n < 9) = true := by rw [decide_eq_true_iff]; exact h9
    have HP := Lib.hid (chunkT_short (b := b) (by rw [HN.out]; exact h9))
    go_enter Try.func45, Try.ntmps45
    go_wp2_with fail
    refine wp_region_ext [(0, true), (1, true), (2, true), (3, true), (4, true), (5, true), (6, true), (7, true), (8, true), (9, true), (10, true), (11, true), (12, true), (13, true), (14, true), (17, true), (18, true), (15, false), (16, true), (19, true), (20, true)] (by kernel_rfl) (by kernel_rfl) ?_
    iterate 16 (first
     | (refine ext_move rfl rfl (by rfl) (by rfl) ?_; simp only [Act.put, List.setIfInBounds_toArray, List.set_cons_zero, List.set_cons_succ])
     | (refine ext_assign rfl rfl (by rfl) (by rfl) ?_; simp only [Act.put, List.setIfInBounds_toArray, List.set_cons_zero, List.set_cons_succ])
     | (refine ext_pick_t rfl rfl (by rfl) (by rfl) (by rfl) ?_; simp only [Act.put, List.setIfInBounds_toArray, List.set_cons_zero, List.set_cons_succ])
     | (refine ext_pick_f rfl rfl (by rfl) (by rfl) (by rfl) ?_; simp only [Act.put, List.setIfInBounds_toArray, List.set_cons_zero, List.set_cons_succ])
     | (apply ext_take rfl (by rfl)
        · intro w' hS
          have hSc := hS.cells
          (try simp only [World.size_drew, World.cell?_drew] at hSc)
          go_simp
          (try simp (disch := omega) only [i64_id, u64_id, ↓IntWalk.iteOmega, Int.tdiv_eq_ediv_of_nonneg, Int.tmod_eq_emod_of_nonneg])
          try rfl
        simp only [Act.put, List.setIfInBounds_toArray, List.set_cons_zero, List.set_cons_succ])
     | (refine ext_pass rfl (by rfl) ?_; simp only [Act.put, List.setIfInBounds_toArray, List.set_cons_zero, List.set_cons_succ]))
    (first
     | (refine ext_move rfl rfl (by rfl) (by rfl) ?_; simp only [Act.put, List.setIfInBounds_toArray, List.set_cons_zero, List.set_cons_succ])
     | (refine ext_assign rfl rfl (by rfl) (by rfl) ?_; simp only [Act.put, List.setIfInBounds_toArray, List.set_cons_zero, List.set_cons_succ])
     | (refine ext_pick_t rfl rfl (by rfl) (by rfl) (by rfl) ?_; simp only [Act.put, List.setIfInBounds_toArray, List.set_cons_zero, List.set_cons_succ])
     | (refine ext_pick_f rfl rfl (by rfl) (by rfl) (by rfl) ?_; simp only [Act.put, List.setIfInBounds_toArray, List.set_cons_zero, List.set_cons_succ])
     | (apply ext_take rfl (by rfl)
        · intro w' hS
          have hSc := hS.cells
          (try simp only [World.size_drew, World.cell?_drew] at hSc)
          go_simp
          (try simp (disch := omega) only [i64_id, u64_id, ↓IntWalk.iteOmega, Int.tdiv_eq_ediv_of_nonneg, Int.tmod_eq_emod_of_nonneg])
          try rfl
        simp only [Act.put, List.setIfInBounds_toArray, List.set_cons_zero, List.set_cons_succ])
     | (refine ext_pass rfl (by rfl) ?_; simp only [Act.put, List.setIfInBounds_toArray, List.set_cons_zero, List.set_cons_succ]))
    (refine ext_passE rfl (by rfl) (by first | (with_reducible exact Ext.refl _) | (with_reducible exact Ext.drew _)) ?_; simp only [Act.put, List.setIfInBounds_toArray, List.set_cons_zero, List.set_cons_succ])
    (first
     | (refine ext_move rfl rfl (by rfl) (by rfl) ?_; simp only [Act.put, List.setIfInBounds_toArray, List.set_cons_zero, List.set_cons_succ])
     | (refine ext_assign rfl rfl (by rfl) (by rfl) ?_; simp only [Act.put, List.setIfInBounds_toArray, List.set_cons_zero, List.set_cons_succ])
     | (refine ext_pick_t rfl rfl (by rfl) (by rfl) (by rfl) ?_; simp only [Act.put, List.setIfInBounds_toArray, List.set_cons_zero, List.set_cons_succ])
     | (refine ext_pick_f rfl rfl (by rfl) (by rfl) (by rfl) ?_; simp only [Act.put, List.setIfInBounds_toArray, List.set_cons_zero, List.set_cons_succ])
     | (apply ext_take rfl (by rfl)
        · intro w' hS
          have hSc := hS.cells
          (try simp only [World.size_drew, World.cell?_drew] at hSc)
          go_simp
          (try simp (disch := omega) only [i64_id, u64_id, ↓IntWalk.iteOmega, Int.tdiv_eq_ediv_of_nonneg, Int.tmod_eq_emod_of_nonneg])
          try rfl
        simp only [Act.put, List.setIfInBounds_toArray, List.set_cons_zero, List.set_cons_succ])
     | (refine ext_pass rfl (by rfl) ?_; simp only [Act.put, List.setIfInBounds_toArray, List.set_cons_zero, List.set_cons_succ]))
    iterate 2 (first
     | (refine ext_move rfl rfl (by rfl) (by rfl) ?_; simp only [Act.put, List.setIfInBounds_toArray, List.set_cons_zero, List.set_cons_succ])
     | (refine ext_assign rfl rfl (by rfl) (by rfl) ?_; simp only [Act.put, List.setIfInBounds_toArray, List.set_cons_zero, List.set_cons_succ])
     | (refine ext_pick_t rfl rfl (by rfl) (by rfl) (by rfl) ?_; simp only [Act.put, List.setIfInBounds_toArray, List.set_cons_zero, List.set_cons_succ])
     | (refine ext_pick_f rfl rfl (by rfl) (by rfl) (by rfl) ?_; simp only [Act.put, List.setIfInBounds_toArray, List.set_cons_zero, List.set_cons_succ])
     | (apply ext_take rfl (by rfl)
        · intro w' hS
          have hSc := hS.cells
          (try simp only [World.size_drew, World.cell?_drew] at hSc)
          go_simp
          (try simp (disch := omega) only [i64_id, u64_id, ↓IntWalk.iteOmega, Int.tdiv_eq_ediv_of_nonneg, Int.tmod_eq_emod_of_nonneg])
          try rfl
        simp only [Act.put, List.setIfInBounds_toArray, List.set_cons_zero, List.set_cons_succ])
     | (refine ext_pass rfl (by rfl) ?_; simp only [Act.put, List.setIfInBounds_toArray, List.set_cons_zero, List.set_cons_succ]))
    refine ext_nil ?_
    go_wp2_with fail
    go_ret3
    exact chunkEnd_no HP.out rfl (Ext.drew _)
  · have d1 : decide ((n : Int) < 9) = false := by rw [decide_eq_false_iff_not]; omega
    have d2 : decide (n < 9) = false := by rw [decide_eq_false_iff_not]; exact h9
    have h0 : 0 < b.length := by rw [HN.out]; omega
    have hn0 : (0 : Int) < (n : Int) := by omega
    obtain ⟨g, off, rfl, hg, hc⟩ := HB.out.get 0 h0
    obtain ⟨hcap, _⟩ := HB.out.inn h0
    obtain ⟨x, hx⟩ : ∃ x, b[0] = x := ⟨_, rfl⟩
    rw [hx, Nat.add_zero] at hc
    by_cases hx76 : x = 76#8
    · obtain ⟨m, hm⟩ : ∃ m, n = m + 8 := ⟨n - 8, by omega⟩
      subst hm
      have d3 : decide ((m : Int) + 8 < 9) = false := by rw [decide_eq_false_iff_not]; omega
      have hsub : ((m + 8 : Nat) : Int) - 8 = (m : Int) := by omega
      have hsub2 : (m : Int) + 8 - 8 = (m : Int) := by omega
      have hwr : IntKind.i64.wrap (m : Int) = (m : Int) := i64_id _ ⟨by omega, by omega⟩
      have hm8 : b.length - 8 = m := by rw [HN.out]; omega
      have hmb : m ≤ b.length := by rw [HN.out]; omega
      have HS8 := Lib.hid (HB.out.takeS (lo := m) hmb (by omega))
      have HD8 := Lib.hid (HS8.out.dropS (lo := 1) (by rw [List.length_take]; omega) (by omega))
      have HG := Lib.hid (fun h => chunkT_good (m := m) hm8 (by rw [HN.out]; omega) (hx.trans hx76) h)
      have HNO := Lib.hid (fun h => chunkT_seal (b := b) (m := m) hm8 h)
      obtain ⟨y, hy⟩ : ∃ y, b.take m = y := ⟨_, rfl⟩
      obtain ⟨z, hz⟩ : ∃ z, y.drop 1 = z := ⟨_, rfl⟩
      have hyl : y.length ≤ 1000 := by rw [← hy, List.length_take]; omega
      have hzl : z.length ≤ 1000 := by rw [← hz, List.length_drop]; omega
      rw [hy] at HS8 HD8 HG HNO
      rw [hz] at HD8 HG
      have q1 : (ub x == 76) = true := by subst hx76; rfl
      have q2 : (ub x != 76) = false := by subst hx76; rfl
      clear hm8 hmb hy hz hx hx76
      go_enter Try.func45, Try.ntmps45
      go_wp2_with fail
      have HNE := Lib.hid (ne_strB (Lb.sealL y) b)
      cases hq : eqBB (Lb.sealL y) b with
      | false =>
        have hne := HNE.out
        rw [hq] at hne
        have hne2 : ((strB (Lb.sealL y)).toList == (strB b).toList) = false := (eq_strB _ _).trans hq
        have HP := Lib.hid (HNO.out hq)
        clear hq
        simp only [Bool.not_false] at hne
        refine wp_region_ext [(0, true), (1, true), (2, true), (3, true), (4, true), (5, true), (6, true), (7, true), (8, true), (9, true), (10, true), (11, true), (12, true), (13, true), (14, true), (17, true), (18, true), (15, false), (16, true), (19, true), (20, true)] (by kernel_rfl) (by kernel_rfl) ?_
        iterate 16 (first
         | (refine ext_move rfl rfl (by rfl) (by rfl) ?_; simp only [Act.put, List.setIfInBounds_toArray, List.set_cons_zero, List.set_cons_succ])
         | (refine ext_assign rfl rfl (by rfl) (by rfl) ?_; simp only [Act.put, List.setIfInBounds_toArray, List.set_cons_zero, List.set_cons_succ])
         | (refine ext_pick_t rfl rfl (by rfl) (by rfl) (by rfl) ?_; simp only [Act.put, List.setIfInBounds_toArray, List.set_cons_zero, List.set_cons_succ])
         | (refine ext_pick_f rfl rfl (by rfl) (by rfl) (by rfl) ?_; simp only [Act.put, List.setIfInBounds_toArray, List.set_cons_zero, List.set_cons_succ])
         | (apply ext_take rfl (by rfl)
            · intro w' hS
              have hSc := hS.cells
              (try simp only [World.size_drew, World.cell?_drew] at hSc)
              go_simp
              (try simp (disch := omega) only [i64_id, u64_id, ↓IntWalk.iteOmega, Int.tdiv_eq_ediv_of_nonneg, Int.tmod_eq_emod_of_nonneg])
              try rfl
            simp only [Act.put, List.setIfInBounds_toArray, List.set_cons_zero, List.set_cons_succ])
         | (refine ext_pass rfl (by rfl) ?_; simp only [Act.put, List.setIfInBounds_toArray, List.set_cons_zero, List.set_cons_succ]))
        (apply ext_take rfl (by rfl)
         · intro w' hS
           have hcv := run_str (P := Try.prog) Try.underlying35 Try.underlying5 Try.underlying9 w' _ _ (SliceAt.ext HB.out hS)
           go_simp
           try rfl
         simp only [Act.put, List.setIfInBounds_toArray, List.set_cons_zero, List.set_cons_succ])
        (refine ext_do rfl (by rfl) (fun K hK => ?_)
         go_simp
         go_at_call 48
         refine (rsealed_any _ y _ (by omega) (SliceAt.ext HS8.out (Ext.drew _))).mono ?_
         rintro e2 w2 ⟨v2, rfl, ho2, hb2⟩
         have HS2 := Lib.hid (OwnB.slice ho2)
         have HX2 := Lib.hid hb2
         refine hK _ _ (by first | exact hb2 | exact (Ext.drew _).trans hb2) ?_
         clear hK K
         (try simp only [Act.put, List.setIfInBounds_toArray, List.set_cons_zero, List.set_cons_succ]))
        (apply ext_take rfl (by rfl)
         · intro w' hS
           have hcv := run_str (P := Try.prog) Try.underlying35 Try.underlying5 Try.underlying9 w' _ _ (SliceAt.ext HS2.out hS)
           go_simp
           try rfl
         simp only [Act.put, List.setIfInBounds_toArray, List.set_cons_zero, List.set_cons_succ])
        iterate 2 (first
         | (refine ext_move rfl rfl (by rfl) (by rfl) ?_; simp only [Act.put, List.setIfInBounds_toArray, List.set_cons_zero, List.set_cons_succ])
         | (refine ext_assign rfl rfl (by rfl) (by rfl) ?_; simp only [Act.put, List.setIfInBounds_toArray, List.set_cons_zero, List.set_cons_succ])
         | (refine ext_pick_t rfl rfl (by rfl) (by rfl) (by rfl) ?_; simp only [Act.put, List.setIfInBounds_toArray, List.set_cons_zero, List.set_cons_succ])
         | (refine ext_pick_f rfl rfl (by rfl) (by rfl) (by rfl) ?_; simp only [Act.put, List.setIfInBounds_toArray, List.set_cons_zero, List.set_cons_succ])
         | (apply ext_take rfl (by rfl)
            · intro w' hS
              have hSc := hS.cells
              (try simp only [World.size_drew, World.cell?_drew] at hSc)
              go_simp
              (try simp (disch := omega) only [i64_id, u64_id, ↓IntWalk.iteOmega, Int.tdiv_eq_ediv_of_nonneg, Int.tmod_eq_emod_of_nonneg])
              try rfl
            simp only [Act.put, List.setIfInBounds_toArray, List.set_cons_zero, List.set_cons_succ])
         | (refine ext_pass rfl (by rfl) ?_; simp only [Act.put, List.setIfInBounds_toArray, List.set_cons_zero, List.set_cons_succ]))
        refine ext_nil ?_
        go_wp2_with fail
        go_ret3
        exact chunkEnd_no HP.out rfl ((Ext.drew _).trans HX2.out)
      | true =>
        have hne := HNE.out
        rw [hq] at hne
        have hne2 : ((strB (Lb.sealL y)).toList == (strB b).toList) = true := (eq_strB _ _).trans hq
        have HP := Lib.hid (HG.out hq)
        clear hq
        simp only [Bool.not_true] at hne
        refine wp_region_ext [(0, true), (1, true), (2, true), (3, true), (4, true), (5, true), (6, true), (7, true), (8, true), (9, true), (10, true), (11, true), (12, true), (13, true), (14, true), (17, true), (18, true), (15, false), (16, true), (19, true), (20, true)] (by kernel_rfl) (by kernel_rfl) ?_
        iterate 16 (first
         | (refine ext_move rfl rfl (by rfl) (by rfl) ?_; simp only [Act.put, List.setIfInBounds_toArray, List.set_cons_zero, List.set_cons_succ])
         | (refine ext_assign rfl rfl (by rfl) (by rfl) ?_; simp only [Act.put, List.setIfInBounds_toArray, List.set_cons_zero, List.set_cons_succ])
         | (refine ext_pick_t rfl rfl (by rfl) (by rfl) (by rfl) ?_; simp only [Act.put, List.setIfInBounds_toArray, List.set_cons_zero, List.set_cons_succ])
         | (refine ext_pick_f rfl rfl (by rfl) (by rfl) (by rfl) ?_; simp only [Act.put, List.setIfInBounds_toArray, List.set_cons_zero, List.set_cons_succ])
         | (apply ext_take rfl (by rfl)
            · intro w' hS
              have hSc := hS.cells
              (try simp only [World.size_drew, World.cell?_drew] at hSc)
              go_simp
              (try simp (disch := omega) only [i64_id, u64_id, ↓IntWalk.iteOmega, Int.tdiv_eq_ediv_of_nonneg, Int.tmod_eq_emod_of_nonneg])
              try rfl
            simp only [Act.put, List.setIfInBounds_toArray, List.set_cons_zero, List.set_cons_succ])
         | (refine ext_pass rfl (by rfl) ?_; simp only [Act.put, List.setIfInBounds_toArray, List.set_cons_zero, List.set_cons_succ]))
        (apply ext_take rfl (by rfl)
         · intro w' hS
           have hcv := run_str (P := Try.prog) Try.underlying35 Try.underlying5 Try.underlying9 w' _ _ (SliceAt.ext HB.out hS)
           go_simp
           try rfl
         simp only [Act.put, List.setIfInBounds_toArray, List.set_cons_zero, List.set_cons_succ])
        (refine ext_do rfl (by rfl) (fun K hK => ?_)
         go_simp
         go_at_call 48
         refine (rsealed_any _ y _ (by omega) (SliceAt.ext HS8.out (Ext.drew _))).mono ?_
         rintro e2 w2 ⟨v2, rfl, ho2, hb2⟩
         have HS2 := Lib.hid (OwnB.slice ho2)
         have HX2 := Lib.hid hb2
         refine hK _ _ (by first | exact hb2 | exact (Ext.drew _).trans hb2) ?_
         clear hK K
         (try simp only [Act.put, List.setIfInBounds_toArray, List.set_cons_zero, List.set_cons_succ]))
        (apply ext_take rfl (by rfl)
         · intro w' hS
           have hcv := run_str (P := Try.prog) Try.underlying35 Try.underlying5 Try.underlying9 w' _ _ (SliceAt.ext HS2.out hS)
           go_simp
           try rfl
         simp only [Act.put, List.setIfInBounds_toArray, List.set_cons_zero, List.set_cons_succ])
        iterate 2 (first
         | (refine ext_move rfl rfl (by rfl) (by rfl) ?_; simp only [Act.put, List.setIfInBounds_toArray, List.set_cons_zero, List.set_cons_succ])
         | (refine ext_assign rfl rfl (by rfl) (by rfl) ?_; simp only [Act.put, List.setIfInBounds_toArray, List.set_cons_zero, List.set_cons_succ])
         | (refine ext_pick_t rfl rfl (by rfl) (by rfl) (by rfl) ?_; simp only [Act.put, List.setIfInBounds_toArray, List.set_cons_zero, List.set_cons_succ])
         | (refine ext_pick_f rfl rfl (by rfl) (by rfl) (by rfl) ?_; simp only [Act.put, List.setIfInBounds_toArray, List.set_cons_zero, List.set_cons_succ])
         | (apply ext_take rfl (by rfl)
            · intro w' hS
              have hSc := hS.cells
              (try simp only [World.size_drew, World.cell?_drew] at hSc)
              go_simp
              (try simp (disch := omega) only [i64_id, u64_id, ↓IntWalk.iteOmega, Int.tdiv_eq_ediv_of_nonneg, Int.tmod_eq_emod_of_nonneg])
              try rfl
            simp only [Act.put, List.setIfInBounds_toArray, List.set_cons_zero, List.set_cons_succ])
         | (refine ext_pass rfl (by rfl) ?_; simp only [Act.put, List.setIfInBounds_toArray, List.set_cons_zero, List.set_cons_succ]))
        refine ext_nil ?_
        have HX3 : Hid (Ext w w2) := (Ext.drew _).trans HX2.out
        clear HNE
        go_wp2_with fail
        go_at_call 63
        refine (srnew_any _ z _ (by omega) (HD8.out.ext HX3.out)).mono ?_
        rintro e w4 ⟨rb, rfl, hr4⟩
        clear hne hne2
        have HR4 := Lib.hid hr4
        have hz4 : (((false, z) : Lb.St)).2.length ≤ 1000 := hzl
        have HO0 : Hid (OKs (false, z)) := fun h => by cases h
        generalize ((false, z) : Lb.St) = s0 at *
        have hl1 := stU_len s0
        have HO1 := Lib.hid (stU_ok s0)
        obtain ⟨s1, hs1⟩ : ∃ s1, (Lb.stU s0).2 = s1 := ⟨_, rfl⟩
        have hl2 := stU_len s1
        have HO2 := Lib.hid (stU_ok s1)
        obtain ⟨s2, hs2⟩ : ∃ s2, (Lb.stU s1).2 = s2 := ⟨_, rfl⟩
        have hl3 := stU_len s2
        have HO3 := Lib.hid (stU_ok s2)
        obtain ⟨s3, hs3⟩ : ∃ s3, (Lb.stU s2).2 = s3 := ⟨_, rfl⟩
        have hl4 := stU_len s3
        have HO4 := Lib.hid (stU_ok s3)
        have HC1 := Lib.hid (fun h => chunkE_none (s := s3) h)
        have HC2 := Lib.hid (fun d r h => chunkE_some (s := s3) (d := d) (r := r) h)
        obtain ⟨s4, hs4⟩ : ∃ s4, (Lb.stU s3).2 = s4 := ⟨_, rfl⟩
        obtain ⟨x3, hx3⟩ : ∃ x3, (Lb.stU s3).1 = x3 := ⟨_, rfl⟩
        rw [hs1] at HP hl1 HO1
        rw [hs2] at HP hl2 HO2
        rw [hs3] at HP hl3 HO3
        rw [hs4] at hl4 HO4 HC1 HC2
        rw [hx3] at HC2
        have H1 := Lib.hid hs1
        have H2 := Lib.hid hs2
        have H3 := Lib.hid hs3
        have H4 := Lib.hid hs4
        have H5 := Lib.hid hx3
        clear hr4 hs1 hs2 hs3 hs4 hx3 HD8 HS8 HNO HG HS2
        go_wp2_with fail
        go_at_call 64
        refine (sruint_any w2 w4 rb s0 (by omega) HO0.out HR4.out).mono ?_
        rintro e w5 ⟨er1, rfl, hr5⟩
        rw [H1.out] at hr5
        have HR5 := Lib.hid hr5
        clear hr5
        go_wp2_with fail
        go_at_call 64
        refine (sruint_any w2 w5 rb s1 (by omega) HO1.out HR5.out).mono ?_
        rintro e w6 ⟨er2, rfl, hr6⟩
        rw [H2.out] at hr6
        have HR6 := Lib.hid hr6
        clear hr6
        go_wp2_with fail
        go_at_call 64
        refine (sruint_any w2 w6 rb s2 (by omega) HO2.out HR6.out).mono ?_
        rintro e w7 ⟨er3, rfl, hr7⟩
        rw [H3.out] at hr7
        have HR7 := Lib.hid hr7
        clear hr7
        go_wp2_with fail
        go_at_call 64
        refine (sruint_any w2 w7 rb s3 (by omega) HO3.out HR7.out).mono ?_
        rintro e w8 ⟨er4, rfl, hr8⟩
        rw [H4.out] at hr8
        rw [H5.out]
        have HR8 := Lib.hid hr8
        clear hr8
        go_wp2_with fail
        go_at_call 65
        refine (rbytes_any w8 rb s4.2 s4.1 (by omega) HO4.out HR8.out.rd).mono ?_
        intro e w9 hp
        unfold ReadPost at hp
        split at hp
        · rename_i D r hr
          obtain ⟨dv, rfl, hd9, ha9⟩ := hp
          have HP2 := Lib.hid (HP.out.trans (HC2.out D r hr))
          have HX9 : Hid (Ext w w9) := HX3.out.trans (HR8.out.after (s' := (false, r)) ha9).ext
          have HD9 : Hid (SliceAt encB w9 dv D) := hd9
          clear hr hd9 ha9 HP HC1 HC2
          by_cases h1 : 1 ≤ x3.toNat
          · have d1 : decide (1 ≤ un x3) = true := by rw [decide_eq_true_iff]; show (1 : Int) ≤ ((x3.toNat : Nat) : Int); omega
            by_cases h2 : x3.toNat ≤ 100
            · have d2 : decide (un x3 ≤ 100) = true := by rw [decide_eq_true_iff]; show ((x3.toNat : Nat) : Int) ≤ 100; omega
              have hw1 : IntKind.i64.wrap (un x3) = un x3 := i64_id _ ⟨by show (_ : Int) ≤ ((x3.toNat : Nat) : Int); omega, by show ((x3.toNat : Nat) : Int) ≤ _; omega⟩
              have hw2 := IntWalk.wrap64_in (un x3) ⟨by show (_ : Int) ≤ ((x3.toNat : Nat) : Int); omega, by show ((x3.toNat : Nat) : Int) ≤ _; omega⟩
              have HP3 := Lib.hid (HP2.out.trans (if_pos ⟨h1, h2⟩))
              clear h1 h2
              go_wp2_with fail
              go_ret3
              exact chunkEnd_yes HP3.out rfl HD9.out HX9.out
            · have d2 : decide (un x3 ≤ 100) = false := by rw [decide_eq_false_iff_not]; show ¬ ((x3.toNat : Nat) : Int) ≤ 100; omega
              have HP3 := Lib.hid (HP2.out.trans (if_neg (fun h => h2 h.2)))
              clear h1 h2
              go_wp2_with fail
              go_ret3
              exact chunkEnd_no HP3.out rfl HX9.out
          · have d1 : decide (1 ≤ un x3) = false := by rw [decide_eq_false_iff_not]; show ¬ (1 : Int) ≤ ((x3.toNat : Nat) : Int); omega
            have HP3 := Lib.hid (HP2.out.trans (if_neg (fun h => h1 h.1)))
            clear h1
            go_wp2_with fail
            go_ret3
            exact chunkEnd_no HP3.out rfl HX9.out
        · rename_i hr
          obtain ⟨rfl, ha9⟩ := hp
          have HP2 := Lib.hid (HP.out.trans (HC1.out hr))
          have HX9 : Hid (Ext w w9) := HX3.out.trans (HR8.out.after (s' := (true, [])) ha9).ext
          clear hr ha9 HP HC1 HC2
          go_wp2_with fail
          go_ret3
          exact chunkEnd_no HP2.out rfl HX9.out
    · have q1 : (ub x == 76) = false := by rw [beq_eq_false_iff_ne]; exact fun h => hx76 (ub_inj h)
      have q2 : (ub x != 76) = true := by rw [bne, q1]; rfl
      have HP := Lib.hid (chunkT_head h0 hx hx76)
      clear hx hx76
      go_enter Try.func45, Try.ntmps45
      go_wp2_with fail
      refine wp_region_ext [(0, true), (1, true), (2, true), (3, true), (4, true), (5, true), (6, true), (7, true), (8, true), (9, true), (10, true), (11, true), (12, true), (13, true), (14, true), (17, true), (18, true), (15, false), (16, true), (19, true), (20, true)] (by kernel_rfl) (by kernel_rfl) ?_
      iterate 16 (first
       | (refine ext_move rfl rfl (by rfl) (by rfl) ?_; simp only [Act.put, List.setIfInBounds_toArray, List.set_cons_zero, List.set_cons_succ])
       | (refine ext_assign rfl rfl (by rfl) (by rfl) ?_; simp only [Act.put, List.setIfInBounds_toArray, List.set_cons_zero, List.set_cons_succ])
       | (refine ext_pick_t rfl rfl (by rfl) (by rfl) (by rfl) ?_; simp only [Act.put, List.setIfInBounds_toArray, List.set_cons_zero, List.set_cons_succ])
       | (refine ext_pick_f rfl rfl (by rfl) (by rfl) (by rfl) ?_; simp only [Act.put, List.setIfInBounds_toArray, List.set_cons_zero, List.set_cons_succ])
       | (apply ext_take rfl (by rfl)
          · intro w' hS
            have hSc := hS.cells
            (try simp only [World.size_drew, World.cell?_drew] at hSc)
            go_simp
            (try simp (disch := omega) only [i64_id, u64_id, ↓IntWalk.iteOmega, Int.tdiv_eq_ediv_of_nonneg, Int.tmod_eq_emod_of_nonneg])
            try rfl
          simp only [Act.put, List.setIfInBounds_toArray, List.set_cons_zero, List.set_cons_succ])
       | (refine ext_pass rfl (by rfl) ?_; simp only [Act.put, List.setIfInBounds_toArray, List.set_cons_zero, List.set_cons_succ]))
      (first
       | (refine ext_move rfl rfl (by rfl) (by rfl) ?_; simp only [Act.put, List.setIfInBounds_toArray, List.set_cons_zero, List.set_cons_succ])
       | (refine ext_assign rfl rfl (by rfl) (by rfl) ?_; simp only [Act.put, List.setIfInBounds_toArray, List.set_cons_zero, List.set_cons_succ])
       | (refine ext_pick_t rfl rfl (by rfl) (by rfl) (by rfl) ?_; simp only [Act.put, List.setIfInBounds_toArray, List.set_cons_zero, List.set_cons_succ])
       | (refine ext_pick_f rfl rfl (by rfl) (by rfl) (by rfl) ?_; simp only [Act.put, List.setIfInBounds_toArray, List.set_cons_zero, List.set_cons_succ])
       | (apply ext_take rfl (by rfl)
          · intro w' hS
            have hSc := hS.cells
            (try simp only [World.size_drew, World.cell?_drew] at hSc)
            go_simp
            (try simp (disch := omega) only [i64_id, u64_id, ↓IntWalk.iteOmega, Int.tdiv_eq_ediv_of_nonneg, Int.tmod_eq_emod_of_nonneg])
            try rfl
          simp only [Act.put, List.setIfInBounds_toArray, List.set_cons_zero, List.set_cons_succ])
       | (refine ext_pass rfl (by rfl) ?_; simp only [Act.put, List.setIfInBounds_toArray, List.set_cons_zero, List.set_cons_succ]))
      (refine ext_passE rfl (by rfl) (by first | (with_reducible exact Ext.refl _) | (with_reducible exact Ext.drew _)) ?_; simp only [Act.put, List.setIfInBounds_toArray, List.set_cons_zero, List.set_cons_succ])
      (first
       | (refine ext_move rfl rfl (by rfl) (by rfl) ?_; simp only [Act.put, List.setIfInBounds_toArray, List.set_cons_zero, List.set_cons_succ])
       | (refine ext_assign rfl rfl (by rfl) (by rfl) ?_; simp only [Act.put, List.setIfInBounds_toArray, List.set_cons_zero, List.set_cons_succ])
       | (refine ext_pick_t rfl rfl (by rfl) (by rfl) (by rfl) ?_; simp only [Act.put, List.setIfInBounds_toArray, List.set_cons_zero, List.set_cons_succ])
       | (refine ext_pick_f rfl rfl (by rfl) (by rfl) (by rfl) ?_; simp only [Act.put, List.setIfInBounds_toArray, List.set_cons_zero, List.set_cons_succ])
       | (apply ext_take rfl (by rfl)
          · intro w' hS
            have hSc := hS.cells
            (try simp only [World.size_drew, World.cell?_drew] at hSc)
            go_simp
            (try simp (disch := omega) only [i64_id, u64_id, ↓IntWalk.iteOmega, Int.tdiv_eq_ediv_of_nonneg, Int.tmod_eq_emod_of_nonneg])
            try rfl
          simp only [Act.put, List.setIfInBounds_toArray, List.set_cons_zero, List.set_cons_succ])
       | (refine ext_pass rfl (by rfl) ?_; simp only [Act.put, List.setIfInBounds_toArray, List.set_cons_zero, List.set_cons_succ]))
      iterate 2 (first
       | (refine ext_move rfl rfl (by rfl) (by rfl) ?_; simp only [Act.put, List.setIfInBounds_toArray, List.set_cons_zero, List.set_cons_succ])
       | (refine ext_assign rfl rfl (by rfl) (by rfl) ?_; simp only [Act.put, List.setIfInBounds_toArray, List.set_cons_zero, List.set_cons_succ])
       | (refine ext_pick_t rfl rfl (by rfl) (by rfl) (by rfl) ?_; simp only [Act.put, List.setIfInBounds_toArray, List.set_cons_zero, List.set_cons_succ])
       | (refine ext_pick_f rfl rfl (by rfl) (by rfl) (by rfl) ?_; simp only [Act.put, List.setIfInBounds_toArray, List.set_cons_zero, List.set_cons_succ])
       | (apply ext_take rfl (by rfl)
          · intro w' hS
            have hSc := hS.cells
            (try simp only [World.size_drew, World.cell?_drew] at hSc)
            go_simp
            (try simp (disch := omega) only [i64_id, u64_id, ↓IntWalk.iteOmega, Int.tdiv_eq_ediv_of_nonneg, Int.tmod_eq_emod_of_nonneg])
            try rfl
          simp only [Act.put, List.setIfInBounds_toArray, List.set_cons_zero, List.set_cons_succ])
       | (refine ext_pass rfl (by rfl) ?_; simp only [Act.put, List.setIfInBounds_toArray, List.set_cons_zero, List.set_cons_succ]))
      refine ext_nil ?_
      go_wp2_with fail
      go_ret3
      exact chunkEnd_no HP.out rfl (Ext.drew _)
end Go.Proofs.Ythjcdikpomlpmaa

namespace Go.Proofs.Ythjcdikpomlpmaa
open Go.ChangeShapes Go.WideShapes Go.ChangeAt Go.RowKit
set_option linter.unusedVariables false

theorem setCells_other {g : Nat} : ∀ (vs : List Value) (o : Nat) (w : World) (k : Nat), k ≠ g → (w.setCells g o vs).heap[k]? = w.heap[k]?
  | [], _, _, _, _ => rfl
  | v :: r, o, w, k, h => by rw [World.setCells, setCells_other r _ _ k h]; exact Below.heap_setCell _ _ _ k h
theorem setCells_size (b : Nat) : ∀ (vs : List Value) (o : Nat) (w : World), (w.setCells b o vs).heap.size = w.heap.size
  | [], _, _ => rfl
  | v :: r, o, w => by rw [World.setCells, setCells_size b r, World.size_setCell]
theorem Ext.setCells {w0 : World} {b : Nat} (hb : w0.heap.size ≤ b) : ∀ (vs : List Value) (o : Nat) (w : World), Ext w0 w → Ext w0 (w.setCells b o vs)
  | [], _, _, h => h
  | v :: r, o, w, h => by rw [World.setCells]; exact Ext.setCells hb r _ _ (Ext.setOwn h hb)
theorem box_setCells {b : Nat} {t : TypeId} : ∀ (vs : List Value) (o : Nat) (w : World) (cs : Array Value), BoxAt w b cs t → o + vs.length ≤ cs.size → ∃ cs' : Array Value, BoxAt (w.setCells b o vs) b cs' t ∧ cs'.size = cs.size ∧ (∀ i, i < o → cs'[i]? = cs[i]?) ∧ ∀ i, i < vs.length → cs'[o + i]? = vs[i]?
  | [], o, w, cs, h, _ => ⟨cs, h, rfl, fun _ _ => rfl, fun i hi => absurd hi (by simp)⟩
  | v :: r, o, w, cs, h, hl => by
    rw [World.setCells]
    simp only [List.length_cons] at hl
    obtain ⟨cs', h1, h2, h3, h4⟩ := box_setCells r (o + 1) _ _ (h.set o v) (by simp; omega)
    refine ⟨cs', h1, by rw [h2]; simp, fun i hi => ?_, fun i hi => ?_⟩
    · rw [h3 i (by omega), Array.getElem?_setIfInBounds_ne (by omega)]
    · cases i with
      | zero =>
        rw [Nat.add_zero, h3 o (by omega), Array.getElem?_setIfInBounds_self]
        simp [show o < cs.size by omega]
      | succ i =>
        have := h4 i (by simpa using hi)
        rw [show o + 1 + i = o + (i + 1) by omega] at this
        rw [this]; rfl
theorem BoxAt.setCells {w : World} {b : Nat} {t : TypeId} {cs : Array Value} (h : BoxAt w b cs t) (vs : List Value) (hl : vs.length = cs.size) : BoxAt (w.setCells b 0 vs) b vs.toArray t := by
  obtain ⟨cs', h1, h2, _, h4⟩ := box_setCells vs 0 w cs h (by omega)
  have : cs' = vs.toArray := by
    apply Array.ext_getElem?
    intro i
    by_cases hi : i < vs.length
    · have := h4 i hi
      rw [Nat.zero_add] at this
      rw [this]; simp
    · rw [Array.getElem?_eq_none (by omega), Array.getElem?_eq_none (by simp; omega)]
  rw [← this]; exact h1
theorem labA_one {l : Lab} {d : Value} (hd : d.oneCell' = true) : (labA l d).all (·.oneCell') = true := by
  cases d <;> simp_all [labA, Value.oneCell']
theorem lab_store {w : World} {g : Nat} {cs : Array Value} {t : TypeId} {l : Lab} {d : Value} (h : BoxAt w g cs t) (hs : cs.size = 19) (hd : d.oneCell' = true) :
    (Instr.storeAt 29 (.pointer (some ⟨g, 0, none⟩)) (labV l d)).run Try.prog w = .ok () (w.setCells g 0 (labA l d).toList) :=
  run_storeAt_mid w g 0 _ (labA l d) (fun j hj => ⟨by rw [Nat.zero_add]; obtain ⟨v, hv⟩ : ∃ v, cs[j]? = some v := ⟨_, Array.getElem?_eq_getElem (by rw [hs]; exact hj)⟩; rw [h.cell j hv]; rfl, by rw [Nat.zero_add]; exact h.free j⟩) info_lab (labA_one hd)
/-- a label is stored in a box of the call's own: all other blocks are as they were -/
theorem wpList_store_lab2 {ops : Array Oper} {rest : List Oper} {o : Oper} {a : Act} {w w0 : World} {Q : Exit → Act → World → Prop} (x y : Operand) (ho : o.op = .store 29 x y)
    (hw : Region.wanted o (yielded ops a.tmps) = true) {g : Nat} {cs : Array Value} {t : TypeId} {l : Lab} {d : Value} (hx : a.eval x = .pointer (some ⟨g, 0, none⟩)) (hy : a.eval y = labV l d) (hb : BoxAt w g cs t) (hs : cs.size = 19) (hd : d.oneCell' = true)
    (he : Ext w0 w) (hg : w0.heap.size ≤ g)
    (h : ∀ w', Ext w0 w' → BoxAt w' g (labA l d) t → (∀ k, k ≠ g → w'.heap[k]? = w.heap[k]?) → wpList Try.prog ops Q rest (a.put o.dst undef) w') : wpList Try.prog ops Q (o :: rest) a w := by
  refine wpList_step fun K hK => ?_
  rw [if_pos hw]
  unfold Oper.wp execOp
  simp only [ho, hx, hy, Sem.run_bind, Sem.run_pure, Result.andThen_ok, lab_store hb hs hd]
  refine hK _ _ (h _ (Ext.setCells hg _ _ _ he) ?_ (fun k hk => setCells_other _ _ _ k hk))
  have := hb.setCells (labA l d).toList (by rw [hs]; rfl)
  simpa using this
theorem grown_setCells (b : Nat) : ∀ (vs : List Value) (o : Nat) (w : World), w.grownBy (w.setCells b o vs) (some b)
  | [], _, w => grown_refl w _
  | v :: r, o, w => by rw [World.setCells]; exact grown_trans (grown_set w b o v) (grown_setCells b r _ _)
theorem wpList_store_lab3 {ops : Array Oper} {rest : List Oper} {o : Oper} {a : Act} {w : World} {Q : Exit → Act → World → Prop} (x y : Operand) (ho : o.op = .store 29 x y)
    (hw : Region.wanted o (yielded ops a.tmps) = true) {g : Nat} {cs : Array Value} {t : TypeId} {l : Lab} {d : Value} (hx : a.eval x = .pointer (some ⟨g, 0, none⟩)) (hy : a.eval y = labV l d) (hb : BoxAt w g cs t) (hs : cs.size = 19) (hd : d.oneCell' = true)
    (h : ∀ w', w.grownBy w' (some g) → BoxAt w' g (labA l d) t → wpList Try.prog ops Q rest (a.put o.dst undef) w') : wpList Try.prog ops Q (o :: rest) a w := by
  refine wpList_step fun K hK => ?_
  rw [if_pos hw]
  unfold Oper.wp execOp
  simp only [ho, hx, hy, Sem.run_bind, Sem.run_pure, Result.andThen_ok, lab_store hb hs hd]
  refine hK _ _ (h _ (grown_setCells _ _ _ _) ?_)
  have := hb.setCells (labA l d).toList (by rw [hs]; rfl)
  simpa using this
theorem lab_result {w : World} {g : Nat} {l : Lab} {d : Value} {t : TypeId} (h : BoxAt w g (labA l d) t) : (loadVar 29 ⟨g, 0, none⟩).run Try.prog w = .ok (labV l d) w :=
  run_loadVar_mid w g 0 _ (labA l d).toList _ (LabAt.of_box h).1 Try.underlying29 rfl info_lab
theorem results_cell_tmp1 {P : Program} {fn : Func} {p a : Tmp} {ty : TypeId} (h : fn.results = #[.cell p ty, .tmp a]) (tmps : Array Value) (w : World) {g : Nat} {v : Value}
    (hp : tmps.getD p undef = .pointer (some ⟨g, 0, none⟩)) (hl : (loadVar ty ⟨g, 0, none⟩).run P w = .ok v w) :
    (results fn tmps).run P w = .ok (.tuple #[v, tmps.getD a undef]) w := by
  have hp' : tmps[p]?.getD undef = .pointer (some ⟨g, 0, none⟩) := by simpa using hp
  simp [results, h, hp', asAddr, hl]
section
variable {P : Program} {l : List Oper} {Q : Exit → Act → World → Prop} {i : Nat} {o : Oper} {r : List (Nat × Bool)} {a : Act} {b w : World} {B : Nat} {S : World → Prop}
theorem bel_last (ho : nth l i = some o) (hw : Region.wanted o (yielded l.toArray a.tmps) = true) (hc : coversB .any l.toArray i = true)
    (k : ∀ K : Act → World → Prop, (∀ a' w', Q .normal a' w' → K a' w') → o.wp P a w K (Calm Q)) : wpBel P l Q [(i, false)] B b a w :=
  ord_do (nth_get ho) hw fun K hK => k K fun a' w' h2 => hK (fun _ => True) a' w' (.inr hc) trivial h2
theorem fix_load {p v : Value} (ty : TypeId) {x : Operand}
    (ho : nth l i = some o) (hw : Region.wanted o (yielded l.toArray a.tmps) = true) (hop : o.op = .load ty x) (hx : evalL a x = some p) (h : ∀ w', S w' → (Instr.loadAt ty p).run P w' = .ok v w')
    (k : wpFix P l Q r S (a.put o.dst v) w) : wpFix P l Q ((i, true) :: r) S a w :=
  fix_take ho hw (fun w' hS => by
    unfold execOp
    simp only [hop, evalL_eq hx, Sem.run_bind, Sem.run_pure, Result.andThen_ok, h w' hS]) k
end
theorem lab_nb {w : World} {g : Nat} {l : Lab} {d : Value} {t : TypeId} (h : BoxAt w g (labA l d) t) (hd : ∀ c : BitVec 8, d ≠ encB c) : ∀ j (c : BitVec 8), w.cell? ⟨g, j, none⟩ ≠ some (encB c) := by
  intro j c hc
  unfold World.cell? at hc
  simp only [show w.heap[g]? = _ from h, Option.isSome_none, Bool.false_eq_true, if_false] at hc
  have hm : encB c ∈ (labA l d) := by
    have : (labA l d)[j]? = some (encB c) := by simpa using hc
    exact Array.mem_of_getElem? this
  simp only [List.mem_toArray, List.mem_cons, List.not_mem_nil, or_false] at hm
  rcases hm with h | h | h | h | h | h | h | h | h | h | h | h | h | h | h | h | h | h | h
  all_goals first | (cases h; done) | exact hd c h.symm
/-- the box of a label and a reader beside it -/
structure PS (W w : World) (rb g : Nat) (s : Lb.St) (l : Lab) (d : Value) : Prop where
  rds : Rds W w rb s
  box : BoxAt w g (labA l d) 29
  ge : W.heap.size ≤ g
  ne : rb ≠ g
  dn : ∀ c : BitVec 8, d ≠ encB c
section
variable {W w w' : World} {rb g : Nat} {s s' : Lb.St} {l l' : Lab} {d d' : Value}
theorem PS.more (h : PS W w rb g s l d) (e : Ext w w') : PS W w' rb g s l d := ⟨h.rds.more e, h.box.ext e, h.ge, h.ne, h.dn⟩
theorem PS.after (h : PS W w rb g s l d) (ha : After w w' rb s'.2 s'.1) : PS W w' rb g s' l d :=
  ⟨h.rds.after ha, h.box.grown ha.2 (fun e => h.ne (Option.some.inj e).symm), h.ge, h.ne, h.dn⟩
theorem PS.turn (h : PS W w rb g s l d) (hg : w.grownBy w' (some g)) (hb : BoxAt w' g (labA l' d') 29) (hd : ∀ c : BitVec 8, d' ≠ encB c) : PS W w' rb g s l' d' :=
  ⟨⟨h.rds.ext.grown hg h.rds.ext.size (fun q hq => by cases hq; exact h.ge), h.rds.ge, h.rds.rd.turn (lab_nb h.box h.dn) hg h.ne⟩, hb, h.ge, h.ne, hd⟩
theorem PS.store (h : PS W w rb g s l d) (i : Nat) (x : Value) (hx : (labA l d).setIfInBounds i x = labA l' d') (hd : ∀ c : BitVec 8, d' ≠ encB c) : PS W (w.setCell ⟨g, i, none⟩ x) rb g s l' d' :=
  h.turn (grown_set _ _ _ _) (by rw [← hx]; exact h.box.set i x) hd
end
section
variable {W w : World} {rb g : Nat} {s : Lb.St} {l : Lab} {d : Value}
def PU (W : World) (w : World) (rb g : Nat) (s : Lb.St) (l : Lab) (d : Value) (e : Ending) (w' : World) : Prop := ∃ err : Int, e = .returned (.tuple #[encU (Lb.stU s).1, .int .i64 err]) ∧ PS W w' rb g (Lb.stU s).2 l d ∧ w.grownBy w' (some rb)
def PC (most : Int) (W : World) (w : World) (rb g : Nat) (s : Lb.St) (l : Lab) (d : Value) (e : Ending) (w' : World) : Prop := ∃ err : Int, e = .returned (.tuple #[.int .i64 (Lb.stC most s).1, .int .i64 err]) ∧ PS W w' rb g (Lb.stC most s).2 l d ∧ w.grownBy w' (some rb)
def PB (W : World) (w : World) (rb g : Nat) (s : Lb.St) (l : Lab) (d : Value) (e : Ending) (w' : World) : Prop := ∃ v, ∃ err : Int, e = .returned (.tuple #[v, .int .i64 err]) ∧ SliceAt encB w' v (Lb.stB s).1 ∧ PS W w' rb g (Lb.stB s).2 l d ∧ w.grownBy w' (some rb)
theorem pu_of {e : Ending} {w' : World} (h : PS W w rb g s l d) (hp : UintPost w rb (rd s.1 s.2) e w') : PU W w rb g s l d e w' := by
  unfold UintPost at hp
  unfold PU Lb.stU
  split at hp
  · rename_i x r hr
    rw [hr]
    exact ⟨_, hp.1, h.after (s' := (false, r)) hp.2, hp.2.2⟩
  · rename_i hr
    rw [hr]
    exact ⟨_, hp.1, h.after (s' := (true, [])) hp.2, hp.2.2⟩
theorem puint_any (hl : s.2.length ≤ 100000) (h : PS W w rb g s l d) : Calls Try.prog 59 #[.pointer (some ⟨rb, 0, none⟩)] w (PU W w rb g s l d) :=
  (uint_any w rb s.2 s.1 hl h.rds.rd).mono fun _ _ hp => pu_of h hp
theorem pruint_any (hl : s.2.length ≤ 100000) (ho : OKs s) (h : PS W w rb g s l d) : Calls Try.prog 64 #[.pointer (some ⟨rb, 0, none⟩)] w (PU W w rb g s l d) :=
  (ruint_any w rb s.2 s.1 hl ho h.rds.rd).mono fun _ _ hp => pu_of h hp
theorem pcount_any (most : Int) (hm : -9223372036854775808 ≤ most ∧ most ≤ 9223372036854775807) (hl : s.2.length ≤ 100000) (h : PS W w rb g s l d) : Calls Try.prog 60 #[.pointer (some ⟨rb, 0, none⟩), .int .i64 most] w (PC most W w rb g s l d) :=
  (count_any w rb s.2 s.1 most hm hl h.rds.rd).mono fun _ _ hp => by
    unfold ReadPost at hp
    unfold PC Lb.stC
    split at hp
    · rename_i x r hr
      rw [hr]
      obtain ⟨v, h1, h2, h3⟩ := hp
      have h2 : v = .int .i64 x := h2
      subst h2
      exact ⟨_, h1, h.after (s' := (false, r)) h3, h3.2⟩
    · rename_i hr
      rw [hr]
      exact ⟨_, hp.1, h.after (s' := (true, [])) hp.2, hp.2.2⟩
theorem pb_of {e : Ending} {w' : World} (h : PS W w rb g s l d) (hp : ReadPost IsBytes (.slice none 0 0) w rb (rdB s.1 s.2) e w') : PB W w rb g s l d e w' := by
  unfold ReadPost at hp
  unfold PB Lb.stB
  split at hp
  · rename_i x r hr
    rw [hr]
    obtain ⟨v, h1, h2, h3⟩ := hp
    exact ⟨v, _, h1, h2, h.after (s' := (false, r)) h3, h3.2⟩
  · rename_i hr
    rw [hr]
    exact ⟨_, _, hp.1, SliceAt.nil, h.after (s' := (true, [])) hp.2, hp.2.2⟩
theorem pbytes_any (hl : s.2.length ≤ 100000) (h : PS W w rb g s l d) : Calls Try.prog 61 #[.pointer (some ⟨rb, 0, none⟩)] w (PB W w rb g s l d) :=
  (bytes_any w rb s.2 s.1 hl h.rds.rd).mono fun _ _ hp => pb_of h hp
theorem prbytes_any (hl : s.2.length ≤ 100000) (ho : OKs s) (h : PS W w rb g s l d) : Calls Try.prog 65 #[.pointer (some ⟨rb, 0, none⟩)] w (PB W w rb g s l d) :=
  (rbytes_any w rb s.2 s.1 hl ho h.rds.rd).mono fun _ _ hp => pb_of h hp
end
/-- the same, the state behind under a name of its own -/
def PEnd (W w : World) (rb g : Nat) (v : Value) (s : Lb.St) (l : Lab) (d : Value) (e : Ending) (w' : World) : Prop := ∃ err : Int, e = .returned (.tuple #[v, .int .i64 err]) ∧ PS W w' rb g s l d ∧ w.grownBy w' (some rb)
section
variable {W w : World} {rb g : Nat} {s s' : Lb.St} {l : Lab} {d : Value}
theorem puint' {x : BitVec 64} (hst : Lb.stU s = (x, s')) (hl : s.2.length ≤ 100000) (h : PS W w rb g s l d) : Calls Try.prog 59 #[.pointer (some ⟨rb, 0, none⟩)] w (PEnd W w rb g (encU x) s' l d) := by
  have := puint_any hl h
  unfold PU at this
  rw [hst] at this
  exact this
theorem pruint' {x : BitVec 64} (hst : Lb.stU s = (x, s')) (ho : OKs s) (hl : s.2.length ≤ 100000) (h : PS W w rb g s l d) : Calls Try.prog 64 #[.pointer (some ⟨rb, 0, none⟩)] w (PEnd W w rb g (encU x) s' l d) := by
  have := pruint_any hl ho h
  unfold PU at this
  rw [hst] at this
  exact this
theorem pcount' {n : Int} (most : Int) (hm : -9223372036854775808 ≤ most ∧ most ≤ 9223372036854775807) (hst : Lb.stC most s = (n, s')) (hl : s.2.length ≤ 100000) (h : PS W w rb g s l d) : Calls Try.prog 60 #[.pointer (some ⟨rb, 0, none⟩), .int .i64 most] w (PEnd W w rb g (.int .i64 n) s' l d) := by
  have := pcount_any most hm hl h
  unfold PC at this
  rw [hst] at this
  exact this
theorem pbytes' {b : List (BitVec 8)} (hst : Lb.stB s = (b, s')) (hl : s.2.length ≤ 100000) (h : PS W w rb g s l d) : Calls Try.prog 61 #[.pointer (some ⟨rb, 0, none⟩)] w fun e w' => ∃ v, SliceAt encB w' v b ∧ PEnd W w rb g v s' l d e w' := by
  have := pbytes_any hl h
  unfold PB at this
  rw [hst] at this
  exact this.mono fun e w' ⟨v, er, h1, h2, h3, h4⟩ => ⟨v, h2, er, h1, h3, h4⟩
theorem prbytes' {b : List (BitVec 8)} (hst : Lb.stB s = (b, s')) (ho : OKs s) (hl : s.2.length ≤ 100000) (h : PS W w rb g s l d) : Calls Try.prog 65 #[.pointer (some ⟨rb, 0, none⟩)] w fun e w' => ∃ v, SliceAt encB w' v b ∧ PEnd W w rb g v s' l d e w' := by
  have := prbytes_any hl ho h
  unfold PB at this
  rw [hst] at this
  exact this.mono fun e w' ⟨v, er, h1, h2, h3, h4⟩ => ⟨v, h2, er, h1, h3, h4⟩
end
theorem stU_len' {s s' : Lb.St} {x : BitVec 64} (h : Lb.stU s = (x, s')) : s'.2.length ≤ s.2.length := by have := stU_len s; rw [h] at this; exact this
theorem stU_ok' {s s' : Lb.St} {x : BitVec 64} (h : Lb.stU s = (x, s')) : OKs s' := by have := stU_ok s; rw [h] at this; exact this
theorem stC_len' {s s' : Lb.St} {n m : Int} (h : Lb.stC m s = (n, s')) : s'.2.length ≤ s.2.length := by have := stC_len m s; rw [h] at this; exact this
theorem stB_len' {s s' : Lb.St} {b : List (BitVec 8)} (h : Lb.stB s = (b, s')) : s'.2.length ≤ s.2.length ∧ b.length ≤ s.2.length := by have := stB_len s; rw [h] at this; exact this
theorem stB_ok' {s s' : Lb.St} {b : List (BitVec 8)} (h : Lb.stB s = (b, s')) : OKs s' := by have := stB_ok s; rw [h] at this; exact this
theorem stN_len' {f : Lb.St → Int × Lb.St} (hf : ∀ s, (f s).2.2.length ≤ s.2.length) (s : Lb.St) : ∀ k, (Lb.stN f k s).2.2.length ≤ s.2.length
  | 0 => Nat.le_refl _
  | k + 1 => Nat.le_trans (hf _) (stN_len' hf s k)
theorem stN_next {f : Lb.St → Int × Lb.St} {s t t' : Lb.St} {k : Nat} {ns : List Int} {n : Int} (h : Lb.stN f k s = (ns, t)) (hf : f t = (n, t')) : Lb.stN f (k + 1) s = (ns ++ [n], t') := by
  rw [Lb.stN, h]; simp only; rw [hf]
theorem stN_facts {f : Lb.St → Int × Lb.St} (hf : ∀ s, (f s).2.2.length ≤ s.2.length) {s t : Lb.St} {k : Nat} {ns : List Int} (h : Lb.stN f k s = (ns, t)) : ns.length = k ∧ t.2.length ≤ s.2.length := by
  have h1 := Lb.stN_len f s k
  have h2 := stN_len' hf s k
  rw [h] at h1 h2
  exact ⟨h1, h2⟩
def LabOf (A : BitVec 64) (D : Int) (G P : BitVec 64) (ns : List Int) (z : Int) (su r : BitVec 64) : Lab := ⟨A, D, G, P, Lb.cfgOf ns, z, su, r⟩
theorem parseT_of {p : List (BitVec 8)} {s1 s2 s3 s4 s5 s6 s7 s8 s9 : Lb.St} {A G P su r : BitVec 64} {D z : Int} {ns : List Int} {B : List (BitVec 8)} (h1 : Lb.stU (false, p) = (A, s1)) (h2 : Lb.stC 60 s1 = (D, s2)) (h3 : Lb.stU s2 = (G, s3)) (h4 : Lb.stU s3 = (P, s4))
    (h5 : Lb.stN (Lb.stC 2147483647) 11 s4 = (ns, s5)) (h6 : Lb.stB s5 = (B, s6)) (h7 : Lb.stC 1048576 s6 = (z, s7)) (h8 : Lb.stU s7 = (su, s8)) (h9 : Lb.stU s8 = (r, s9)) :
    Lb.parseT p = ((⟨A, D, G, P, Lb.cfgOf ns, z, su, r⟩, Lb.deadP (Lb.cfgOf ns).d B), decide (fin s9.1 s9.2 = 0) && validL ⟨A, D, G, P, Lb.cfgOf ns, z, su, r⟩ (Lb.deadP (Lb.cfgOf ns).d B)) := by
  unfold Lb.parseT
  simp only [h1, h2, h3, h4, h5, h6, h7, h8, h9]
theorem readT_of {p : List (BitVec 8)} {s1 s2 s3 s4 s5 s6 s7 s8 s9 : Lb.St} {A G P su r : BitVec 64} {D z : Int} {ns : List Int} {B : List (BitVec 8)} (h1 : Lb.stU (false, p) = (A, s1)) (h2 : Lb.stI s1 = (D, s2)) (h3 : Lb.stU s2 = (G, s3)) (h4 : Lb.stU s3 = (P, s4))
    (h5 : Lb.stN Lb.stI 11 s4 = (ns, s5)) (h6 : Lb.stB s5 = (B, s6)) (h7 : Lb.stI s6 = (z, s7)) (h8 : Lb.stU s7 = (su, s8)) (h9 : Lb.stU s8 = (r, s9)) :
    Lb.readT p = ((⟨A, D, G, P, Lb.cfgOf ns, z, su, r⟩, Lb.deadP (Lb.cfgOf ns).d B), decide (fin s9.1 s9.2 = 0) && validL ⟨A, D, G, P, Lb.cfgOf ns, z, su, r⟩ (Lb.deadP (Lb.cfgOf ns).d B)) := by
  unfold Lb.readT
  simp only [h1, h2, h3, h4, h5, h6, h7, h8, h9]
def ParseEnd (w0 : World) (r : Lb.LX × Bool) (e : Ending) (w' : World) : Prop := ∃ dv, e = .returned (.tuple #[labV r.1.1 dv, .bool r.2]) ∧ SliceAt Value.bool w' dv r.1.2 ∧ Ext w0 w'
theorem fix_passE {P : Program} {l : List Oper} {Q : Exit → Act → World → Prop} {i : Nat} {o : Oper} {r : List (Nat × Bool)} {S : World → Prop} {a : Act} {w : World} (ho : nth l i = some o) (hw : Region.wanted o (yielded l.toArray a.tmps) = false) (hS : S w)
    (k : wpFix P l Q r S (a.put o.dst undef) w) : wpFix P l Q ((i, false) :: r) S a w := ord_passE (nth_get ho) hw hS k
/-- one more number of a Config -/
theorem cfg_snoc (ns : List Int) (n : Int) (i : Nat) (h : ns.length = i) (hi : i < 11) (A : BitVec 64) (D : Int) (G P : BitVec 64) (z : Int) (s r : BitVec 64) (d : Value) :
    (labA ⟨A, D, G, P, Lb.cfgOf ns, z, s, r⟩ d).setIfInBounds (4 + i) (.int .i64 n) = labA ⟨A, D, G, P, Lb.cfgOf (ns ++ [n]), z, s, r⟩ d := by
  subst h
  rcases ns with _ | ⟨x0, _ | ⟨x1, _ | ⟨x2, _ | ⟨x3, _ | ⟨x4, _ | ⟨x5, _ | ⟨x6, _ | ⟨x7, _ | ⟨x8, _ | ⟨x9, _ | ⟨x10, rest⟩⟩⟩⟩⟩⟩⟩⟩⟩⟩⟩
  all_goals first | rfl | (simp only [List.length_cons] at hi; omega)
/-! ### the flags of disks -/
def deadTo (b : List (BitVec 8)) (i : Nat) : List Bool := (List.range i).map fun i => (b.getD (i / 8) 0#8).getLsbD (i % 8)
theorem deadTo_len (b : List (BitVec 8)) (i : Nat) : (deadTo b i).length = i := by unfold deadTo; simp
theorem deadTo_next (b : List (BitVec 8)) (i : Nat) : deadTo b (i + 1) = deadTo b i ++ [(b.getD (i / 8) 0#8).getLsbD (i % 8)] := by unfold deadTo; rw [List.range_succ, List.map_append]; rfl
theorem deadP_to (D : Int) (b : List (BitVec 8)) : Lb.deadP D b = deadTo b (min D.toNat (8 * b.length)) := rfl
theorem grown_own {w0 wr w' : World} {row : Option Nat} {g : Nat} (h : w0.grownBy wr (some g)) (k : wr.grownBy w' row) (hr : ∀ q, row = some q → w0.heap.size ≤ q) : w0.grownBy w' (some g) :=
  ⟨k.os.trans h.os, k.tape.trans h.tape, k.output.trans h.output, Nat.le_trans h.size k.size, fun i hi hne => (k.block i (Nat.lt_of_lt_of_le hi h.size) (fun e => by have := hr i e.symm; omega)).trans (h.block i hi hne)⟩
/-- a bit of a byte, as the walk finds it -/
theorem and_ub1 (x : BitVec 8) : bits .and .u8 (ub x) 1 = ub (x &&& 1#8) := by
  have h1 : BitVec.ofInt 8 (ub x) = x := by unfold ub; rw [BitVec.ofInt_natCast]; simp
  show IntKind.u8.wrap ((BitVec.ofInt 8 (ub x) &&& BitVec.ofInt 8 1).toNat : Int) = _
  rw [h1]
  show IntKind.u8.wrap (ub (x &&& 1#8)) = _
  have := ub_bound (x &&& 1#8)
  have h2 : IntKind.u8.wrap (ub (x &&& 1#8)) = ub (x &&& 1#8) % 256 := by rfl
  rw [h2]; omega
theorem shr_ub (x : BitVec 8) (k : Nat) : ub x / (2 : Int) ^ k = ub (x >>> k) := by
  unfold ub; rw [BitVec.toNat_ushiftRight, Nat.shiftRight_eq_div_pow]; simp
theorem bit_shr (x : BitVec 8) (m : Nat) : (bits .and .u8 (ub x / (2 : Int) ^ m) 1 == 1) = x.getLsbD m := by
  rw [shr_ub, and_ub1, Bool.eq_iff_iff, beq_iff_eq]
  unfold ub
  rw [BitVec.toNat_and, show (1#8).toNat = 1 from rfl, Nat.and_one_is_mod, BitVec.toNat_ushiftRight, Nat.shiftRight_eq_div_pow, ← BitVec.testBit_toNat, Nat.testBit_eq_decide_div_mod_eq, decide_eq_true_eq]
  omega
theorem bit_mod (x : BitVec 8) (m : Nat) : (ub x / (2 : Int) ^ m % 2 == 1) = x.getLsbD m := by
  rw [shr_ub, Bool.eq_iff_iff, beq_iff_eq]
  unfold ub
  rw [BitVec.toNat_ushiftRight, Nat.shiftRight_eq_div_pow, ← BitVec.testBit_toNat, Nat.testBit_eq_decide_div_mod_eq, decide_eq_true_eq]
  omega
def PtrEnd (w : World) (g : Nat) (e : Ending) (w' : World) : Prop := ∃ t, e = .returned (.slice (some ⟨w.heap.size, 0, none⟩) 11 11) ∧ BoxAt w' w.heap.size ((List.range 11).map (encF g)).toArray t ∧ Ext w w'
set_option maxRecDepth 100000 in
set_option maxHeartbeats 1000000 in
theorem fields2_any (g : Nat) (w : World) (hg : g < w.heap.size) :
    Calls Try.prog 52 #[.pointer (some ⟨g, 4, none⟩)] w (PtrEnd w g) := by
  go_enter Try.func52, Try.ntmps52
  go_wp2_with fail
  refine wp_region_ext [(0, true), (1, true), (2, true), (3, true), (4, true), (5, true), (6, true), (7, true), (8, true), (9, true), (10, true), (11, true), (12, true), (13, true), (14, true), (15, true), (16, true), (17, true), (18, true), (19, true), (20, true), (21, true), (22, true), (23, true), (24, true), (25, true), (26, true), (27, true), (28, true), (29, true), (30, true), (31, true), (32, true), (33, false), (34, true)] (by kernel_rfl) (by kernel_rfl) ?_
  iterate 33 (first
   | (refine ext_move rfl rfl (by rfl) (by rfl) ?_; simp only [Act.put, List.setIfInBounds_toArray, List.set_cons_zero, List.set_cons_succ])
   | (refine ext_assign rfl rfl (by rfl) (by rfl) ?_; simp only [Act.put, List.setIfInBounds_toArray, List.set_cons_zero, List.set_cons_succ])
   | (refine ext_pick_t rfl rfl (by rfl) (by rfl) (by rfl) ?_; simp only [Act.put, List.setIfInBounds_toArray, List.set_cons_zero, List.set_cons_succ])
   | (refine ext_pick_f rfl rfl (by rfl) (by rfl) (by rfl) ?_; simp only [Act.put, List.setIfInBounds_toArray, List.set_cons_zero, List.set_cons_succ])
   | (apply ext_take rfl (by rfl)
      · intro w' hS
        have hSc := hS.cells
        (try simp only [World.size_drew, World.cell?_drew] at hSc)
        go_simp
        (try simp (disch := omega) only [i64_id, u64_id, ↓IntWalk.iteOmega, Int.tdiv_eq_ediv_of_nonneg, Int.tmod_eq_emod_of_nonneg])
        try rfl
      simp only [Act.put, List.setIfInBounds_toArray, List.set_cons_zero, List.set_cons_succ])
   | (refine ext_pass rfl (by rfl) ?_; simp only [Act.put, List.setIfInBounds_toArray, List.set_cons_zero, List.set_cons_succ]))
  (refine ext_do rfl (by rfl) (fun K hK => ?_)
   go_simp
   refine hK _ _ (by first | exact Ext.alloc _ _ | exact (Ext.drew _).trans (Ext.alloc _ _)) ?_
   clear hK K
   (try simp only [Act.put, List.setIfInBounds_toArray, List.set_cons_zero, List.set_cons_succ]))
  iterate 1 (first
   | (refine ext_move rfl rfl (by rfl) (by rfl) ?_; simp only [Act.put, List.setIfInBounds_toArray, List.set_cons_zero, List.set_cons_succ])
   | (refine ext_assign rfl rfl (by rfl) (by rfl) ?_; simp only [Act.put, List.setIfInBounds_toArray, List.set_cons_zero, List.set_cons_succ])
   | (refine ext_pick_t rfl rfl (by rfl) (by rfl) (by rfl) ?_; simp only [Act.put, List.setIfInBounds_toArray, List.set_cons_zero, List.set_cons_succ])
   | (refine ext_pick_f rfl rfl (by rfl) (by rfl) (by rfl) ?_; simp only [Act.put, List.setIfInBounds_toArray, List.set_cons_zero, List.set_cons_succ])
   | (apply ext_take rfl (by rfl)
      · intro w' hS
        have hSc := hS.cells
        (try simp only [World.size_drew, World.cell?_drew] at hSc)
        go_simp
        (try simp (disch := omega) only [i64_id, u64_id, ↓IntWalk.iteOmega, Int.tdiv_eq_ediv_of_nonneg, Int.tmod_eq_emod_of_nonneg])
        try rfl
      simp only [Act.put, List.setIfInBounds_toArray, List.set_cons_zero, List.set_cons_succ])
   | (refine ext_pass rfl (by rfl) ?_; simp only [Act.put, List.setIfInBounds_toArray, List.set_cons_zero, List.set_cons_succ]))
  refine ext_nil ?_
  go_wp2_with fail
  go_ret
  exact ⟨_, rfl, BoxAt.new w.drew _ _, (Ext.drew _).trans (Ext.alloc _ _)⟩
theorem ptr_cell {w : World} {fb g : Nat} {t : TypeId} (h : BoxAt w fb ((List.range 11).map (encF g)).toArray t) (i : Nat) (hi : i < 11) : w.cell? ⟨fb, i, none⟩ = some (.pointer (some ⟨g, 4 + i, none⟩)) := h.cell i (by simp [hi])
end Go.Proofs.Ythjcdikpomlpmaa
