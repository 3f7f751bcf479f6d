/-
  Chapter 31 (election): the closure of sides, and IndexFunc over it.
-/
import Derived.Test.YtpmbbeflgifgaaaElD
namespace Go.Proofs.Ytpmbbeflgifgaaa
open Go.RowKit
set_option linter.unusedVariables false

/-- a load whose run is known wherever all that was there is there still, in a region that draws its order -/
theorem ext_load {P : Program} {l : List Oper} {Q : Exit → Act → World → Prop} {i : Nat} {o : Oper} {r : List (Nat × Bool)} {a : Act} {b w : World} {p v : Value} (ty : TypeId) {x : Operand}
    (ho : nth l i = some o) (hw : Region.wanted o (yielded l.toArray a.tmps) = true) (hop : o.op = .load ty x) (hx : evalL a x = some p) (h : ∀ w', Ext b w' → (Instr.loadAt ty p).run P w' = .ok v w')
    (k : wpExt P l Q r b (a.put o.dst v) w) : wpExt P l Q ((i, true) :: r) b a w :=
  ext_take ho hw (fun w' hS => by
    unfold execOp
    simp only [hop, evalL_eq hx, Sem.run_bind, Sem.run_pure, Result.andThen_ok, h w' hS]) k
def eqN (ls : List LD) (i j : Nat) : Bool := eqL (ldN ls i).1 (ldN ls j).1 (ldN ls i).2 (ldN ls j).2
set_option maxRecDepth 100000 in
set_option maxHeartbeats 2000000 in
theorem sides1_any (vl vs : Value) (ls : List LD) (s : List Nat) (i g1 g2 : Nat) (w : World) (hn : ls.length ≤ 1000) (h0 : 0 < s.length) (hs0 : s.headD 0 < ls.length) (hi : i < ls.length) (hdl : ∀ i, (ldN ls i).2.length ≤ 100000)
    (h : LabsAt w vl ls) (hs : SliceAt encN w vs s) (hc1 : w.cell? ⟨g1, 0, none⟩ = some vl) (hg1 : g1 < w.heap.size) (hc2 : w.cell? ⟨g2, 0, none⟩ = some (encN i)) (hg2 : g2 < w.heap.size) :
    Calls Try.prog 40 #[vs, .pointer (some ⟨g1, 0, none⟩), .pointer (some ⟨g2, 0, none⟩)] w (BoolEnd w (eqN ls (s.headD 0) i)) := by
  obtain ⟨al, cl, rfl⟩ := h.shape
  obtain ⟨ad, cap, rfl⟩ := hs.shape
  rw [head_get h0] at hs0 ⊢
  obtain ⟨b, off, rfl, hb, hc⟩ := hs.get 0 h0
  rw [Nat.add_zero] at hc
  generalize s[0] = p at *
  obtain ⟨bl, ol, rfl, dv1, hA1, hD1⟩ := h.at p hs0
  obtain ⟨bl', ol', hbe, dv2, hA2, hD2⟩ := h.at i hi
  cases hbe
  have HE : Hid (∀ w', Ext w w' → Calls Try.prog 24 #[labV (ldN ls p).1 dv1, labV (ldN ls i).1 dv2] w' (BoolEnd w' (eqN ls p i))) := fun w' e => equal_any _ _ _ _ _ _ w' (hdl p) (hdl i) (hD1.ext e) (hD2.ext e)
  have HA1 := Lib.hid hA1
  have HA2 := Lib.hid hA2
  obtain ⟨z, hz⟩ : ∃ z, s.length = z := ⟨_, rfl⟩
  rw [hz] at h0 ⊢
  have hz0 : (0 : Int) < (z : Int) := by omega
  have hpi : (p : Int) < (ls.length : Int) := by omega
  have hii : (i : Int) < (ls.length : Int) := by omega
  have hp0 : (0 : Int) ≤ (p : Int) := by omega
  have hi0 : (0 : Int) ≤ (i : Int) := by omega
  have hblt := hA1.2
  generalize eqN ls p i = E at *
  clear h hs hA1 hA2 hD1 hD2 hz hdl
  go_enter Try.func40, Try.ntmps40
  go_wp2_with fail
  refine wp_region_ext [(0, true), (1, true), (2, true), (3, true), (4, true), (5, true), (6, true), (7, true), (8, true), (9, true), (10, false), (11, true)] (by kernel_rfl) (by kernel_rfl) ?_
  iterate 5 (first
   | (refine ext_move rfl rfl (by rfl) (by rfl) ?_; simp only [Act.put, List.setIfInBounds_toArray, List.set_cons_zero, List.set_cons_succ])
   | (refine ext_assign rfl rfl (by rfl) (by rfl) ?_; simp only [Act.put, List.setIfInBounds_toArray, List.set_cons_zero, List.set_cons_succ])
   | (refine ext_pick_t rfl rfl (by rfl) (by rfl) (by rfl) ?_; simp only [Act.put, List.setIfInBounds_toArray, List.set_cons_zero, List.set_cons_succ])
   | (refine ext_pick_f rfl rfl (by rfl) (by rfl) (by rfl) ?_; simp only [Act.put, List.setIfInBounds_toArray, List.set_cons_zero, List.set_cons_succ])
   | (apply ext_take rfl (by rfl)
      · intro w' hS
        have hSc := hS.cells
        (try simp only [World.size_drew, World.cell?_drew] at hSc)
        go_simp
        (try simp (disch := omega) only [i64_id, u64_id, ↓IntWalk.iteOmega, Int.tdiv_eq_ediv_of_nonneg, Int.tmod_eq_emod_of_nonneg])
        try rfl
      simp only [Act.put, List.setIfInBounds_toArray, List.set_cons_zero, List.set_cons_succ])
   | (refine ext_pass rfl (by rfl) ?_; simp only [Act.put, List.setIfInBounds_toArray, List.set_cons_zero, List.set_cons_succ]))
  (refine ext_load 32 rfl (by rfl) rfl (by rfl) (fun w' hS => (HA1.out.ext hS).load) ?_; simp only [Act.put, List.setIfInBounds_toArray, List.set_cons_zero, List.set_cons_succ])
  iterate 3 (first
   | (refine ext_move rfl rfl (by rfl) (by rfl) ?_; simp only [Act.put, List.setIfInBounds_toArray, List.set_cons_zero, List.set_cons_succ])
   | (refine ext_assign rfl rfl (by rfl) (by rfl) ?_; simp only [Act.put, List.setIfInBounds_toArray, List.set_cons_zero, List.set_cons_succ])
   | (refine ext_pick_t rfl rfl (by rfl) (by rfl) (by rfl) ?_; simp only [Act.put, List.setIfInBounds_toArray, List.set_cons_zero, List.set_cons_succ])
   | (refine ext_pick_f rfl rfl (by rfl) (by rfl) (by rfl) ?_; simp only [Act.put, List.setIfInBounds_toArray, List.set_cons_zero, List.set_cons_succ])
   | (apply ext_take rfl (by rfl)
      · intro w' hS
        have hSc := hS.cells
        (try simp only [World.size_drew, World.cell?_drew] at hSc)
        go_simp
        (try simp (disch := omega) only [i64_id, u64_id, ↓IntWalk.iteOmega, Int.tdiv_eq_ediv_of_nonneg, Int.tmod_eq_emod_of_nonneg])
        try rfl
      simp only [Act.put, List.setIfInBounds_toArray, List.set_cons_zero, List.set_cons_succ])
   | (refine ext_pass rfl (by rfl) ?_; simp only [Act.put, List.setIfInBounds_toArray, List.set_cons_zero, List.set_cons_succ]))
  (refine ext_load 32 rfl (by rfl) rfl (by rfl) (fun w' hS => (HA2.out.ext hS).load) ?_; simp only [Act.put, List.setIfInBounds_toArray, List.set_cons_zero, List.set_cons_succ])
  refine ext_do rfl (by rfl) (fun K hK => ?_)
  go_simp
  go_at_call 24
  refine (HE.out _ (Ext.drew _)).mono ?_
  rintro e w2 ⟨rfl, hb2⟩
  have HX2 : Hid (Ext w w2) := (Ext.drew _).trans hb2
  refine hK _ _ HX2.out ?_
  clear hK K hb2
  (try simp only [Act.put, List.setIfInBounds_toArray, List.set_cons_zero, List.set_cons_succ])
  (first
   | (refine ext_move rfl rfl (by rfl) (by rfl) ?_; simp only [Act.put, List.setIfInBounds_toArray, List.set_cons_zero, List.set_cons_succ])
   | (refine ext_assign rfl rfl (by rfl) (by rfl) ?_; simp only [Act.put, List.setIfInBounds_toArray, List.set_cons_zero, List.set_cons_succ])
   | (refine ext_pick_t rfl rfl (by rfl) (by rfl) (by rfl) ?_; simp only [Act.put, List.setIfInBounds_toArray, List.set_cons_zero, List.set_cons_succ])
   | (refine ext_pick_f rfl rfl (by rfl) (by rfl) (by rfl) ?_; simp only [Act.put, List.setIfInBounds_toArray, List.set_cons_zero, List.set_cons_succ])
   | (apply ext_take rfl (by rfl)
      · intro w' hS
        have hSc := hS.cells
        (try simp only [World.size_drew, World.cell?_drew] at hSc)
        go_simp
        (try simp (disch := omega) only [i64_id, u64_id, ↓IntWalk.iteOmega, Int.tdiv_eq_ediv_of_nonneg, Int.tmod_eq_emod_of_nonneg])
        try rfl
      simp only [Act.put, List.setIfInBounds_toArray, List.set_cons_zero, List.set_cons_succ])
   | (refine ext_pass rfl (by rfl) ?_; simp only [Act.put, List.setIfInBounds_toArray, List.set_cons_zero, List.set_cons_succ]))
  refine ext_nil ?_
  go_wp2_with fail
  go_ret
  exact ⟨rfl, HX2.out⟩

/-- the first group whose first place is equal -/
def idxZ (o : Option Nat) : Int := match o with | some k => k | none => -1
def IdxEnd (w0 : World) (o : Option Nat) (e : Ending) (w' : World) : Prop := e = .returned (.int .i64 (idxZ o)) ∧ Ext w0 w'
theorem findIdx_some {α : Type} {l : List α} {f : α → Bool} {k : Nat} (h : k < l.length) (hk : f l[k] = true) (hn : ∀ j (hj : j < k), f (l[j]'(by omega)) = false) : l.findIdx? f = some k := by
  rw [List.findIdx?_eq_some_iff_getElem]
  exact ⟨h, hk, fun j hj => by rw [hn j hj]; simp⟩
set_option maxRecDepth 100000 in
set_option maxHeartbeats 2000000 in
theorem index_any (vl va : Value) (ls : List LD) (gs : List (List Nat)) (i g1 g2 : Nat) (w : World) (hn : ls.length ≤ 1000) (hgs : gs.length ≤ 1000) (hgl : ∀ g, g ∈ gs → 0 < g.length ∧ g.headD 0 < ls.length) (hi : i < ls.length) (hdl : ∀ i, (ldN ls i).2.length ≤ 100000)
    (h : LabsAt w vl ls) (ha : RowsAt w va gs) (hc1 : w.cell? ⟨g1, 0, none⟩ = some vl) (hg1 : g1 < w.heap.size) (hc2 : w.cell? ⟨g2, 0, none⟩ = some (encN i)) (hg2 : g2 < w.heap.size) :
    Calls Try.prog 39 #[va, .func (.func 40) #[] #[.pointer (some ⟨g1, 0, none⟩), .pointer (some ⟨g2, 0, none⟩)]] w (IdxEnd w (gs.findIdx? fun g => eqN ls (g.headD 0) i)) := by
  obtain ⟨aa, ca, rfl⟩ := ha.shape
  have HCL : Hid (∀ (w' : World) (rv : Value) (s : List Nat), Ext w w' → 0 < s.length → s.headD 0 < ls.length → SliceAt encN w' rv s → Calls Try.prog 40 #[rv, .pointer (some ⟨g1, 0, none⟩), .pointer (some ⟨g2, 0, none⟩)] w' (BoolEnd w' (eqN ls (s.headD 0) i))) :=
    fun w' rv s e a b c => sides1_any vl rv ls s i g1 g2 w' hn a b hi hdl (h.ext e) c ((e.cell _ _ hg1).trans hc1) (Nat.lt_of_lt_of_le hg1 e.size) ((e.cell _ _ hg2).trans hc2) (Nat.lt_of_lt_of_le hg2 e.size)
  have HA := Lib.hid ha
  have HGL := Lib.hid hgl
  obtain ⟨f, hf⟩ : ∃ f : List Nat → Bool, (fun g => eqN ls (g.headD 0) i) = f := ⟨_, rfl⟩
  have hff : ∀ g, eqN ls (g.headD 0) i = f g := fun g => by rw [← hf]
  have HFF := Lib.hid hff
  rw [hf]
  obtain ⟨m, hm⟩ : ∃ m, gs.length = m := ⟨_, rfl⟩
  have HM := Lib.hid hm
  rw [hm] at HA hgs ⊢
  clear h ha hgl hdl hf hff hm hc1 hc2
  go_enter Try.func39, Try.ntmps39
  go_wp2_with fail
  go_loopw [8] (fun it wr => ∃ k : Nat, k ≤ m ∧ it = .int .i64 k ∧ Hid (∀ j (hj : j < k) (hl : j < gs.length), f gs[j] = false) ∧ Hid (Ext w wr)) (fun it _ => m - (intOf it).toNat)
  case atStart => exact ⟨0, Nat.zero_le _, rfl, Lib.hid fun j hj => absurd hj (Nat.not_lt_zero _), Lib.hid (Ext.refl _)⟩
  case round =>
    obtain ⟨k, hk, rfl, HN, HX⟩ := hrel
    by_cases hlt : k < m
    · have hin : (k : Int) < (m : Int) := by omega
      have hkl : k < gs.length := by rw [HM.out]; exact hlt
      obtain ⟨ba, oa, rfl, hba, rv, hcr, hro⟩ := (HA.out.ext HX.out).get k hkl
      obtain ⟨hq1, hq2⟩ := HGL.out _ (List.getElem_mem hkl)
      have HC := Lib.hid (HCL.out wr rv gs[k] HX.out hq1 hq2 hro)
      rw [HFF.out] at HC
      have HT : Hid (f gs[k] = true → gs.findIdx? f = some k) := fun e => findIdx_some hkl e fun j hj => HN.out j hj (by omega)
      have HNX : Hid (f gs[k] = false → ∀ j (hj : j < k + 1) (hl : j < gs.length), f gs[j] = false) := fun e j hj hl => by
        by_cases e2 : j = k
        · subst e2; exact e
        · exact HN.out j (by omega) hl
      generalize f gs[k] = u at *
      clear hq1 hq2 hro
      go_wp2_with fail
      refine HC.out.mono ?_
      rintro e w2 ⟨rfl, hb2⟩
      have HX2 : Hid (Ext w w2) := HX.out.trans hb2
      clear hb2
      cases u with
      | true =>
        go_wp2_with fail
        go_ret
        exact ⟨by rw [HT.out (by simp)]; rfl, HX2.out⟩
      | false =>
        go_wp2_with fail
        go_roundw
        case rel => exact ⟨k + 1, by omega, by go_num, HNX.out (by simp), HX2.out⟩
        case measure => simp [intOf]; omega
    · have hkm : k = m := by omega
      subst hkm
      have hin2 : ¬ ((k : Int) < (k : Int)) := by omega
      have HNO : Hid (gs.findIdx? f = none) := List.findIdx?_eq_none_iff.2 fun x hx => by
        obtain ⟨j, hj, rfl⟩ := List.getElem_of_mem hx
        exact HN.out j (by rw [← HM.out]; exact hj) hj
      go_wp2_with fail
      go_ret
      exact ⟨by rw [HNO.out]; rfl, HX.out⟩
end Go.Proofs.Ytpmbbeflgifgaaa
