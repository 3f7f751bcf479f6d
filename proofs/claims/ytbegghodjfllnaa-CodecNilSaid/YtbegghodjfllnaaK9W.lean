/-
  Chapter 9 (codec): the walk of CodecNil.
-/
import Derived.Test.YtbegghodjfllnaaK9V
namespace Go.Proofs.Ytbegghodjfllnaa
open Go.RowKit
set_option linter.unusedVariables false
attribute [local go_sem] eq_strE ne_strE eqB_self eq_block

/-- New: the reader's bytes are new -/
theorem new_own (v : Value) (l : List (BitVec 8)) (w : World) (hl : l.length ≤ 100000) (h : SliceAt encB w v l) :
    Calls Try.prog 20 #[v] w fun e w' => ∃ b v1, e = .returned (.pointer (some ⟨b, 0, none⟩)) ∧ w.heap.size ≤ b ∧ RdAt w' b l false ∧ w'.cell? ⟨b, 0, none⟩ = some v1 ∧ OwnB w' w.heap.size v1 l ∧ Below w.heap.size w w' := by
  have HA := Lib.hid h
  clear h
  go_enter Try.func20, Try.ntmps20
  go_wp2_with (go_at_call 32; refine (clone_any _ l _ hl HA.out).mono ?_; rintro e w1 ⟨v1, rfl, hown1, hb1⟩; have HO1 := Lib.hid hown1; have HS1 := Lib.hid (OwnB.slice hown1); obtain ⟨ad1, cap1, rfl, _, _⟩ := OwnB.slice hown1; clear hown1)
  go_ret
  have hs1 := HS1.out.ext (Ext.alloc w1 (.cells #[.slice ad1 l.length cap1, .bool false] 61))
  refine ⟨_, _, rfl, hb1.size, ⟨by simp, ⟨_, ?_, hs1⟩, ?_, fun j => by simp, fun j c => ?_⟩, ?_, World.ownsRow.alloc HO1.out _, hb1.alloc hb1.size _⟩
  · simp
  · simp
  · rw [cell_alloc_any]
    match j with
    | 0 => intro h; cases h
    | 1 => intro h; cases h
    | n + 2 => intro h; simp at h
  · simp
theorem OwnB.ext {w w' : World} {b : Nat} {v : Value} {l : List (BitVec 8)} (h : OwnB w b v l) (e : Ext w w') : OwnB w' b v l :=
  ⟨h.1, h.2.imp id (fun ⟨g, cap, cur, hv, hg, hh, r⟩ => ⟨g, cap, cur, hv, hg, (e.block g (Array.getElem?_eq_some_iff.1 hh).1).trans hh, r⟩)⟩
theorem owns_ext {w w' : World} {b n : Nat} {t : TypeId} {v : Value} {xs : List Value} (h : w.ownsRow b t 1 v n xs) (e : Ext w w') : w'.ownsRow b t 1 v n xs :=
  ⟨h.1, h.2.imp id (fun ⟨g, cap, cur, hv, hg, hh, r⟩ => ⟨g, cap, cur, hv, hg, (e.block g (Array.getElem?_eq_some_iff.1 hh).1).trans hh, r⟩)⟩
theorem OwnB.shape {w : World} {b : Nat} {v : Value} {l : List (BitVec 8)} (h : OwnB w b v l) (hl : 0 < l.length) : ∃ g cap, v = .slice (some ⟨g, 0, none⟩) l.length cap ∧ b ≤ g ∧ g < w.heap.size ∧ l.length ≤ cap := by
  rcases h.2 with ⟨_, h0⟩ | ⟨g, cap, cur, hv, hg, hh, hc, _⟩
  · omega
  · exact ⟨g, cap, hv, hg, (Array.getElem?_eq_some_iff.1 hh).1, hc⟩
/-- a reader whose bytes are its own stays where another own row is written -/
theorem RdAt.stored {w : World} {b base g : Nat} {l : List (BitVec 8)} {v1 : Value} (h : RdAt w b l false) (hv : w.cell? ⟨b, 0, none⟩ = some v1) (ho : OwnB w base v1 l) (hg : g < base) (hne : b ≠ g) (hnb : ∃ c j, w.cell? ⟨g, j, none⟩ = some (encB c)) (j : Nat) (x : BitVec 8) :
    RdAt (w.setCell ⟨g, j, none⟩ (encB x)) b l false := by
  have hgr := turn_set w g j (encB x)
  have hk := Below.heap_setCell w ⟨g, j, none⟩ (encB x) b hne
  have hk2 : ∀ o, (w.setCell ⟨g, j, none⟩ (encB x)).cell? ⟨b, o, none⟩ = w.cell? ⟨b, o, none⟩ := fun o => World.cell?_of_block (w := w) hk
  have ho2 : OwnB (w.setCell ⟨g, j, none⟩ (encB x)) base v1 l := World.ownsRow.kept ho hgr (by
    rcases ho.2 with ⟨h1, _⟩ | ⟨g1, cap, cur, h1, h2, _⟩
    · left; rw [h1]; rfl
    · right; rw [h1]; intro e; have : g1 = g := by simpa [Value.ownBlock] using e
      omega)
  exact ⟨by simpa using h.lt, ⟨v1, (hk2 0).trans hv, OwnB.slice ho2⟩, (hk2 1).trans h.flag, fun o => by simpa using h.free o, fun o c => by rw [hk2 o]; exact h.nb o c⟩
theorem add_ub (x y : BitVec 8) : IntKind.u8.wrap (ub x + ub y) = ub (x + y) := by
  unfold ub
  simp only [IntKind.wrap, IntKind.bits, IntKind.signed]
  simp [BitVec.toNat_add]
theorem add_one_ub (x : BitVec 8) : IntKind.u8.wrap (ub x + 1) = ub (x + 1#8) := add_ub x 1#8
attribute [local go_sem] add_one_ub

set_option maxHeartbeats 2000000 in
theorem codecNil_walk (v vk : Value) (l lk : List (BitVec 8)) (w : World) (hl : l.length ≤ maxLen) (hlk : lk.length ≤ maxLen) (h : SliceAt encB w v l) (hk : SliceAt encB w vk lk) :
    Calls Try.prog 9 #[v, vk] w fun e w' => e = .returned (.bool true) ∧ Below w.heap.size w w' := by
  have HA := Lib.hid h
  have HK := Lib.hid hk
  unfold maxLen at hl hlk
  obtain ⟨ad, cap, rfl, hca, _⟩ := h
  obtain ⟨adk, capk, rfl, hcak, hkc⟩ := hk
  by_cases hs : l.length ≤ 100 ∧ lk.length ≤ 10
  · obtain ⟨hs1, hs2⟩ := hs
    have HKC := Lib.hid hkc
    have HCK := Lib.hid hcak
    clear hkc hca hcak
    go_enter Try.func9, Try.ntmps9
    go_wp2_with fail
    go_at_call 10
    refine (awake_any _).mono ?_
    rintro e w1 ⟨rfl, hb1⟩
    go_wp2_with fail
    go_loopw [6] (fun i wr => ∃ k : Nat, k ≤ lk.length ∧ i = .int .i64 k ∧ Ext w wr) (fun i _ => lk.length - (intOf i).toNat)
    case atStart => exact ⟨0, by omega, rfl, hb1⟩
    case round =>
      obtain ⟨k, hkl, rfl, hx⟩ := hrel
      have hxs := hx.size
      by_cases hlt : k < lk.length
      · have hcell : ∃ g off, adk = some ⟨g, off, none⟩ ∧ wr.cell? ⟨g, off + k, none⟩ = some (encB (lk[k]'hlt)) ∧ g < wr.heap.size := by
          rcases HKC.out with ⟨h0, _⟩ | ⟨g, off, h1, h2, h3⟩
          · rw [h0] at hlt; simp at hlt
          · exact ⟨g, off, h1, (hx.cell g _ h2).trans (h3 k hlt), by omega⟩
        obtain ⟨g, off, rfl, hcg, hgl⟩ := hcell
        generalize lk[k]'hlt = c at *
        go_wp2_with fail
        refine wp_region_bel (wr.heap.size) (wr) ((Below.refl _ _)) [(0, true), (2, true), (3, true), (4, true), (5, true), (1, false), (6, false), (7, true), (8, true), (9, true), (10, false), (11, true), (12, true), (13, true), (14, true), (15, false), (16, true), (17, true)] (by kernel_rfl) (by kernel_rfl) ?_
        iterate 5 (first
         | (refine bel_move rfl rfl (by rfl) (by rfl) ?_; simp only [Act.put, List.setIfInBounds_toArray, List.set_cons_zero, List.set_cons_succ])
         | (apply bel_take rfl (by rfl)
            · intro w' hS
              have hSc := below_cellsB hS
              go_simp
              (try simp (disch := omega) only [i64_id, u64_id, ↓IntWalk.iteOmega, Int.tdiv_eq_ediv_of_nonneg, Int.tmod_eq_emod_of_nonneg])
              try rfl
            simp only [Act.put, List.setIfInBounds_toArray, List.set_cons_zero, List.set_cons_succ])
         | (refine bel_pass rfl (by rfl) ?_; simp only [Act.put, List.setIfInBounds_toArray, List.set_cons_zero, List.set_cons_succ]))
        (refine bel_do rfl (by rfl) (fun K hK => ?_)
         go_simp
         go_at_call 28
         refine (rnew_any _ [] _ (by simp) SliceAt.nil).mono ?_
         rintro e w2 ⟨b, rfl, hb, hr2, hb2⟩
         have HR2 := Lib.hid hr2
         have hbw : wr.heap.size ≤ b := hb
         have HB2 := Lib.hid (Ext.trans (Ext.drew wr) hb2)
         refine hK _ _ HB2.out ?_
         clear hK K hr2
         (try simp only [Act.put, List.setIfInBounds_toArray, List.set_cons_zero, List.set_cons_succ]))
        (refine bel_do rfl (by rfl) (fun K hK => ?_)
         go_simp
         go_at_call 29
         refine (readn_any _ b c HR2.out).mono ?_
         rintro e w3 ⟨rfl, hb3⟩
         have HB3 := Lib.hid (Below.trans HB2.out (hb3 wr.heap.size hbw (Ext.size HB2.out)))
         refine hK _ _ HB3.out ?_
         clear hK K hb3
         (try simp only [Act.put, List.setIfInBounds_toArray, List.set_cons_zero, List.set_cons_succ]))
        iterate 3 (first
         | (refine bel_move rfl rfl (by rfl) (by rfl) ?_; simp only [Act.put, List.setIfInBounds_toArray, List.set_cons_zero, List.set_cons_succ])
         | (apply bel_take rfl (by rfl)
            · intro w' hS
              have hSc := below_cellsB hS
              go_simp
              (try simp (disch := omega) only [i64_id, u64_id, ↓IntWalk.iteOmega, Int.tdiv_eq_ediv_of_nonneg, Int.tmod_eq_emod_of_nonneg])
              try rfl
            simp only [Act.put, List.setIfInBounds_toArray, List.set_cons_zero, List.set_cons_succ])
         | (refine bel_pass rfl (by rfl) ?_; simp only [Act.put, List.setIfInBounds_toArray, List.set_cons_zero, List.set_cons_succ]))
        (refine bel_do rfl (by rfl) (fun K hK => ?_)
         go_simp
         go_at_call 24
         refine (left_nil _).mono ?_
         rintro e w' ⟨rfl, rfl⟩
         refine hK _ _ HB3.out ?_
         clear hK K
         (try simp only [Act.put, List.setIfInBounds_toArray, List.set_cons_zero, List.set_cons_succ]))
        iterate 4 (first
         | (refine bel_move rfl rfl (by rfl) (by rfl) ?_; simp only [Act.put, List.setIfInBounds_toArray, List.set_cons_zero, List.set_cons_succ])
         | (apply bel_take rfl (by rfl)
            · intro w' hS
              have hSc := below_cellsB hS
              go_simp
              (try simp (disch := omega) only [i64_id, u64_id, ↓IntWalk.iteOmega, Int.tdiv_eq_ediv_of_nonneg, Int.tmod_eq_emod_of_nonneg])
              try rfl
            simp only [Act.put, List.setIfInBounds_toArray, List.set_cons_zero, List.set_cons_succ])
         | (refine bel_pass rfl (by rfl) ?_; simp only [Act.put, List.setIfInBounds_toArray, List.set_cons_zero, List.set_cons_succ]))
        (refine bel_do rfl (by rfl) (fun K hK => ?_)
         go_simp
         go_at_call 26
         refine (done_nil _).mono ?_
         rintro e w' ⟨rfl, rfl⟩
         refine hK _ _ HB3.out ?_
         clear hK K
         (try simp only [Act.put, List.setIfInBounds_toArray, List.set_cons_zero, List.set_cons_succ]))
        iterate 2 (first
         | (refine bel_move rfl rfl (by rfl) (by rfl) ?_; simp only [Act.put, List.setIfInBounds_toArray, List.set_cons_zero, List.set_cons_succ])
         | (apply bel_take rfl (by rfl)
            · intro w' hS
              have hSc := below_cellsB hS
              go_simp
              (try simp (disch := omega) only [i64_id, u64_id, ↓IntWalk.iteOmega, Int.tdiv_eq_ediv_of_nonneg, Int.tmod_eq_emod_of_nonneg])
              try rfl
            simp only [Act.put, List.setIfInBounds_toArray, List.set_cons_zero, List.set_cons_succ])
         | (refine bel_pass rfl (by rfl) ?_; simp only [Act.put, List.setIfInBounds_toArray, List.set_cons_zero, List.set_cons_succ]))
        refine bel_nil ?_
        go_wp2_with fail
        go_roundw
        case rel => exact ⟨k + 1, by omega, by go_num, Ext.trans hx HB3.out⟩
        case measure => simp [intOf]; omega
      · have hul := (uv_len l.length (by omega)).2
        have hul1 := (uv_len l.length (by omega)).1
        have HSL := Lib.hid (HA.out.ext hx)
        have hln : l.length < 18446744073709551616 := by omega
        have HLN := Lib.hid hln
        clear hln
        go_wp2_with fail
        go_at_call 16
        refine (appendBytes_any _ _ [] l _ (by simp) (by omega) SliceAt.nil HSL.out).mono ?_
        rintro e w2 ⟨v2, rfl, ho2, hb2⟩
        rw [List.nil_append] at ho2
        obtain ⟨L, hL⟩ : ∃ L, uv l.length ++ l = L := ⟨_, rfl⟩
        have hLl : L.length = (uv l.length).length + l.length := by rw [← hL, List.length_append]
        have hLr : rdB false L = some (l, []) := by
          rw [← hL]; have := rdB_uv l [] HLN.out; rwa [List.append_nil] at this
        rw [hL] at ho2
        have hL0 : 0 < L.length := by omega
        have hL1 : L.length ≤ 110 := by omega
        obtain ⟨g, cg, rfl, hg1, hg2, hcg⟩ := ho2.shape hL0
        have HLR := Lib.hid hLr
        have HO2 := Lib.hid ho2
        clear hLr ho2 hL hLl
        generalize hn : L.length = n at *
        have hgw : w.heap.size ≤ g := by omega
        go_wp2_with fail
        go_at_call 20
        refine (new_own _ L _ (by omega) (SliceAt.of_owns HO2.out)).mono ?_
        rintro e w3 ⟨b, v3, rfl, hb, hr3, hv3, ho3, hb3⟩
        have HR3 := Lib.hid hr3
        have HV3 := Lib.hid hv3
        have HO3 := Lib.hid ho3
        have hO2 := owns_ext HO2.out hb3
        rw [hn] at hO2
        obtain ⟨c, hc⟩ : ∃ c, L[n - 1]? = some c := ⟨L[n - 1]'(by omega), List.getElem?_eq_getElem (by omega)⟩
        have hcc : w3.cell? ⟨g, n - 1, none⟩ = some (encB c) := by rw [hO2.cellAt (n - 1) (by omega), List.getElem?_map, hc]; rfl
        have hfc : w3.frozen? ⟨g, n - 1, none⟩ = false := hO2.frozenAt (n - 1)
        have hgl : g < w3.heap.size := by have := Ext.size hb3; omega
        have HNE : Hid (b ≠ g) := Lib.hid (by omega)
        have HRS := Lib.hid (HR3.out.stored HV3.out HO3.out hg2 HNE.out ⟨c, _, hcc⟩ (n - 1) (c + 1#8))
        have hx3 : Ext w w3 := Ext.trans (Ext.trans hx hb2) hb3
        have HX3 := Lib.hid (Ext.setOwn (o := n - 1) (v := encB (c + 1#8)) hx3 hgw)
        have hn1 : (n : Int) - 1 = ((n - 1 : Nat) : Int) := by omega
        have hn2 : ((n - 1 : Nat) : Int) < (n : Int) := by omega
        have hn0 : ((n : Int) == 0) = false := by rw [beq_eq_false_iff_ne]; omega
        have hbw3 : w.heap.size ≤ b := by have := Ext.size (Ext.trans hx hb2); omega
        have HN := Lib.hid hn
        clear hr3 hv3 ho3 hO2 hn hc
        generalize n - 1 = m at *
        go_wp2_with fail
        go_at_call 23
        refine (bytes_any _ _ L false (by have := HN.out; omega) HRS.out).mono ?_
        intro e w4 hp
        rw [HLR.out] at hp
        obtain ⟨v4, rfl, hv4, hr4, hg4⟩ := hp
        have HV4 : Hid (SliceAt encB w4 v4 l) := hv4
        have HX4 := Lib.hid (Below.grown HX3.out hg4 (Ext.size HX3.out) (fun k hk => by cases hk; exact hbw3))
        have HB4 := Lib.hid (HA.out.ext HX4.out)
        have hcv1 := run_str (P := Try.prog) Try.underlying25 Try.underlying5 Try.underlying9 w4 _ _ HV4.out
        have hcv2 := run_str (P := Try.prog) Try.underlying25 Try.underlying5 Try.underlying9 w4 _ _ HB4.out
        clear hv4 hr4 hg4
        go_wp2_with fail
        go_ret
        exact ⟨rfl, HX4.out⟩
  · have hs' : (100 : Int) < (l.length : Int) ∨ (l.length : Int) ≤ 100 ∧ (10 : Int) < (lk.length : Int) := by omega
    clear hs hkc
    rcases hs' with h1 | ⟨h1, h2⟩
    all_goals
      go_enter Try.func9, Try.ntmps9
      go_wp2_with fail
      go_at_call 10
      refine (awake_any _).mono ?_
      rintro e w1 ⟨rfl, hb1⟩
      go_wp2_with fail
      go_ret
      exact ⟨rfl, hb1⟩
end Go.Proofs.Ytbegghodjfllnaa
