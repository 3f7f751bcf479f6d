/-
  Chapter 8 (crc64): the walk of Crc64Burst.
-/
import Derived.Test.YtmleonpecodimaaC8E
namespace Go.Proofs.Ytmleonpecodimaa
open Go.ChangeShapes Go.WideShapes Go.ChangeAt Go.RowKit
set_option linter.unusedVariables false

theorem wrap8_un (y : BitVec 64) : IntKind.u8.wrap (un y) = ub (y.setWidth 8) := by
  unfold un ub
  simp only [IntKind.wrap, IntKind.bits, IntKind.signed]
  simp [BitVec.toNat_setWidth]
theorem shl_ub (d : BitVec 8) (m : Nat) : IntKind.u8.wrap (ub d * (2 : Int) ^ m) = ub (d <<< m) := by
  unfold ub
  simp only [IntKind.wrap, IntKind.bits, IntKind.signed]
  simp [BitVec.toNat_shiftLeft, Nat.shiftLeft_eq]
attribute [local go_sem] wrap8_un shl_ub shr_un xor_un and_un and_one_un xor_poly_un half_un or_un not_un unsigned64 wrap_ub xor_ub

/-- what the law's loop makes of a byte string in k rounds -/
def burst (l : List (BitVec 8)) (first : Nat) (x : BitVec 64) : Nat → List (BitVec 8)
  | 0 => l
  | k + 1 => (burst l first x k).set ((first + k) / 8) ((burst l first x k).getD ((first + k) / 8) 0#8 ^^^ (((x >>> k).setWidth 8 &&& 1#8) <<< ((first + k) % 8)))
theorem burst_length (l : List (BitVec 8)) (first : Nat) (x : BitVec 64) (k : Nat) : (burst l first x k).length = l.length := by
  induction k with
  | zero => rfl
  | succ k ih => rw [burst, List.length_set, ih]
theorem bit_shift (x : BitVec 64) (k m j : Nat) (hm : m < 8) (hj : j < 8) : ((((x >>> k).setWidth 8 &&& 1#8) <<< m) : BitVec 8).getLsbD j = (decide (j = m) && x.getLsbD k) := by
  rw [BitVec.getLsbD_shiftLeft, BitVec.getLsbD_and, BitVec.getLsbD_setWidth, BitVec.getLsbD_ushiftRight, BitVec.getLsbD_one]
  by_cases h : j = m
  · subst h; simp [hj]
  · by_cases h2 : j < m
    · simp [h, h2]
    · have : ¬ j - m = 0 := by omega
      simp [h, this]
theorem burst_bits (l : List (BitVec 8)) (first : Nat) (x : BitVec 64) (hf : first + 64 ≤ 8 * l.length) (k : Nat) (hk : k ≤ 64) (i : Nat) :
    ((burst l first x k).getD (i / 8) 0#8).getLsbD (i % 8) = xor ((l.getD (i / 8) 0#8).getLsbD (i % 8)) (decide (first ≤ i) && decide (i < first + k) && x.getLsbD (i - first)) := by
  induction k with
  | zero =>
    have : (decide (first ≤ i) && decide (i < first + 0)) = false := by
      rw [Bool.and_eq_false_iff]; simp only [decide_eq_false_iff_not]; omega
    rw [this]; simp [burst]
  | succ k ih =>
    have ih := ih (by omega)
    rw [burst]
    generalize hc : burst l first x k = c at *
    have hlen : c.length = l.length := by rw [← hc]; exact burst_length _ _ _ _
    by_cases hb : i / 8 = (first + k) / 8
    · have hlt : (first + k) / 8 < c.length := by omega
      rw [← hb] at hlt ⊢
      have e1 : (c.set (i / 8) (c.getD (i / 8) 0#8 ^^^ (((x >>> k).setWidth 8 &&& 1#8) <<< ((first + k) % 8)))).getD (i / 8) 0#8 = c.getD (i / 8) 0#8 ^^^ (((x >>> k).setWidth 8 &&& 1#8) <<< ((first + k) % 8)) := by
        rw [List.getD_eq_getElem?_getD, List.getElem?_set_self hlt]; rfl
      rw [e1, BitVec.getLsbD_xor, ih, bit_shift _ _ _ _ (by omega) (by omega)]
      by_cases hi : i = first + k
      · subst hi
        simp
      · have h1 : decide (i % 8 = (first + k) % 8) = false := by rw [decide_eq_false_iff_not]; omega
        have h2 : decide (i < first + k) = decide (i < first + (k + 1)) := by rw [decide_eq_decide]; omega
        rw [h1, h2]; simp
    · have e1 : (c.set ((first + k) / 8) (c.getD ((first + k) / 8) 0#8 ^^^ (((x >>> k).setWidth 8 &&& 1#8) <<< ((first + k) % 8)))).getD (i / 8) 0#8 = c.getD (i / 8) 0#8 := by
        rw [List.getD_eq_getElem?_getD, List.getElem?_set_ne (Ne.symm hb), ← List.getD_eq_getElem?_getD]
      rw [e1, ih]
      have h2 : decide (i < first + k) = decide (i < first + (k + 1)) := by rw [decide_eq_decide]; omega
      rw [h2]
theorem burst_sum (l : List (BitVec 8)) (first : Nat) (x : BitVec 64) (hf : first + 64 ≤ 8 * l.length) (hx : x ≠ 0#64) : Crc.sum l ≠ Crc.sum (burst l first x 64) := by
  refine Crc.sum_burst (by rw [burst_length]) first hf x hx fun i hi => ?_
  rw [Crc.bitsOf_get, Crc.bitsOf_get, burst_bits l first x hf 64 (Nat.le_refl _)]

/-- block g holds the bytes l, which may be written -/
def RowAt (w : World) (g : Nat) (l : List (BitVec 8)) : Prop :=
  g < w.heap.size ∧ (∀ j, w.frozen? ⟨g, j, none⟩ = false) ∧ ∀ j (h : j < l.length), w.cell? ⟨g, j, none⟩ = some (encB l[j])
theorem RowAt.set {w : World} {g : Nat} {l : List (BitVec 8)} (h : RowAt w g l) {i : Nat} (hi : i < l.length) (x : BitVec 8) : RowAt (w.setCell ⟨g, i, none⟩ (encB x)) g (l.set i x) := by
  obtain ⟨h1, h2, h3⟩ := h
  refine ⟨by simpa using h1, fun j => by simpa using h2 j, fun j hj => ?_⟩
  have hj' : j < l.length := by simpa using hj
  by_cases e : j = i
  · subst e; rw [set_same (h3 j hj')]; simp
  · rw [set_off (Ne.symm e), h3 j hj']; simp [Ne.symm e]
theorem RowAt.drew {w : World} {g : Nat} {l : List (BitVec 8)} (h : RowAt w g l) : RowAt w.drew g l := by
  obtain ⟨h1, h2, h3⟩ := h
  exact ⟨by simpa using h1, fun j => by simpa using h2 j, fun j hj => by simpa using h3 j hj⟩
theorem RowAt.slice {w : World} {g : Nat} {l : List (BitVec 8)} (h : RowAt w g l) {cap : Nat} (hc : l.length ≤ cap) : SliceAt encB w (.slice (some ⟨g, 0, none⟩) l.length cap) l :=
  ⟨_, cap, rfl, hc, .inr ⟨g, 0, rfl, h.1, fun i hi => by rw [Nat.zero_add]; exact h.2.2 i hi⟩⟩
theorem RowAt.of_owns {w : World} {base : Nat} {e : TypeId} {v : Value} {n : Nat} {l : List (BitVec 8)} (h : w.ownsRow base e 1 v n (l.map encB)) (hl : 0 < l.length) :
    ∃ g cap, v = .slice (some ⟨g, 0, none⟩) l.length cap ∧ l.length ≤ cap ∧ base ≤ g ∧ RowAt w g l := by
  have hn : n = l.length := by simpa using h.1.symm
  subst hn
  rcases h.2 with ⟨rfl, hz⟩ | ⟨g, cap, cur, rfl, hb, hh, hc, hm, hs, ht⟩
  · omega
  · refine ⟨g, cap, rfl, hc, (h.lt g rfl).1, (h.lt g rfl).2, fun j => h.frozenAt j, fun j hj => ?_⟩
    rw [h.cellAt j (by omega)]; simp [hj]

set_option maxHeartbeats 1000000 in
theorem crc64Burst_walk (va : Value) (la : List (BitVec 8)) (at' : Nat) (x : BitVec 64) (w : World) (hla : la.length ≤ maxLen) (hat : at' ≤ 65535) (ha : SliceAt encB w va la) :
    Calls Try.prog 10 #[va, .int .u16 at', encU x] w fun e w' => e = .returned (.bool true) ∧ Below w.heap.size w w' := by
  obtain ⟨i0, hi, hz0, hz1, hz2⟩ := info_parts infoB
  have HA0 := Lib.hid ha
  obtain ⟨ada, capa, rfl, hca, _⟩ := ha
  unfold maxLen at hla
  by_cases h9 : la.length < 9
  · go_enter Try.func10, Try.ntmps10
    go_wp2_with (go_at_call 11; refine (awake_any _).mono ?_; rintro e w1 ⟨rfl, hb1⟩)
    go_ret
    exact ⟨rfl, hb1⟩
  · by_cases h200 : 200 < la.length
    · go_enter Try.func10, Try.ntmps10
      go_wp2_with (go_at_call 11; refine (awake_any _).mono ?_; rintro e w1 ⟨rfl, hb1⟩)
      go_ret
      exact ⟨rfl, hb1⟩
    · by_cases hx : x = 0#64
      · have hx0 : (un x == 0) = true := by rw [hx]; rfl
        clear hx
        go_enter Try.func10, Try.ntmps10
        go_wp2_with (go_at_call 11; refine (awake_any _).mono ?_; rintro e w1 ⟨rfl, hb1⟩)
        go_ret
        exact ⟨rfl, hb1⟩
      · have HX := Lib.hid hx
        have hx0 : (un x == 0) = false := by rw [eq_zero_un]; simp [hx]
        clear hx
        generalize hf : at' % (8 * la.length - 63) = first
        have hfl : first < 8 * la.length - 63 := by rw [← hf]; exact Nat.mod_lt _ (by omega)
        have hfi : (at' : Int) % (8 * (la.length : Int) - 63) = (first : Int) := by
          rw [← hf, Int.natCast_emod]
          congr 1
          omega
        clear hf
        have h63 : 0 < 8 * (la.length : Int) - 63 := by omega
        go_enter Try.func10, Try.ntmps10
        go_wp2_with (first
          | (go_at_call 11; refine (awake_any _).mono ?_; rintro e w1 ⟨rfl, hb1⟩; have HA1 := Lib.hid (HA0.out.ext hb1))
          | (at_builtin; refine wpList_append_slice (enc := encB) (fun _ => rfl) rfl (.tmp 32) (.tmp 33) 22 rfl w1.heap.size 5 i0 (.int .u8 0) 1 Try.underlying22 hi hz0 hz1 hz2 rfl _ 0 [] rfl (World.ownsRow_lit w1 #[] 0 (Nat.le_refl _) (by decide) rfl) _ la rfl (HA1.out.ext (Ext.alloc _ _)) (by unfold maxLen; omega) (by omega) (by simp) ?_; intro v2 w2 hown2 hgrow2; simp only [Nat.zero_add, List.nil_append] at hown2; have hx2 : Ext w1 w2 := ((Below.refl _ _).alloc (Nat.le_refl _) _).grown hgrow2 (by simp) (fun k hk => (by cases hk; exact Nat.le_refl _))))
        obtain ⟨g, cap, rfl, hcap, hg, hrow⟩ := RowAt.of_owns hown2 (by omega)
        have HRow := Lib.hid hrow
        clear hown2 hgrow2 hrow HA0
        go_loopw [9, 10] (fun i _ wr => ∃ k : Nat, k ≤ 64 ∧ i = .int .i64 k ∧ Below w1.heap.size w1 wr ∧ RowAt wr g (burst la first x k)) (fun i _ _ => 64 - (intOf i).toNat)
        case atStart => exact ⟨0, Nat.zero_le _, rfl, hx2, HRow.out⟩
        case round =>
          obtain ⟨k, hk, rfl, hxr, hrow⟩ := hrel
          have HR := Lib.hid hrow
          have hlen := burst_length la first x k
          by_cases hlt : k < 64
          · have hp : (first + k) / 8 < (burst la first x k).length := by omega
            have hset := hrow.set hp ((burst la first x k).getD ((first + k) / 8) 0#8 ^^^ (((x >>> k).setWidth 8 &&& 1#8) <<< ((first + k) % 8)))
            have HS : Hid (RowAt _ g (burst la first x (k + 1))) := hset
            have hcell := hrow.2.2 _ hp
            have hfz := hrow.2.1 ((first + k) / 8)
            have hgz := hrow.1
            rw [show (burst la first x k)[(first + k) / 8] = (burst la first x k).getD ((first + k) / 8) 0#8 by simp [hp]] at hcell
            generalize hc0 : (burst la first x k).getD ((first + k) / 8) 0#8 = c0 at *
            have hp2 : (first + k) / 8 < la.length := by omega
            have q0 : ((first : Int) + (k : Int)) = ((first + k : Nat) : Int) := by omega
            clear hset hrow hp hlen hc0
            generalize hpp : first + k = p at *
            have p0 : (0 : Int) ≤ (p : Int) / 8 := by omega
            have p1 : (p : Int) / 8 < (la.length : Int) := by omega
            have p2 : ((p : Int) / 8).toNat = p / 8 := by omega
            have p4 : ((p : Int) % 8).toNat = p % 8 := by omega
            have p3 : (0 : Int) ≤ (p : Int) % 8 := by omega
            go_wp2
            have hx0 := Ext.refl wr
            refine wp_region_ext [(0, true), (1, true), (2, true), (3, true), (4, true), (5, true), (6, true), (7, true), (8, true), (9, true), (10, true), (11, true), (12, true), (13, true), (14, true), (15, false)] (by kernel_rfl) (by kernel_rfl) ?_
            iterate 15 (first
             | (refine ext_move rfl rfl (by rfl) (by rfl) ?_; simp only [Act.put, List.setIfInBounds_toArray, List.set_cons_zero, List.set_cons_succ])
             | (refine ext_assign rfl rfl (by rfl) (by rfl) ?_; simp only [Act.put, List.setIfInBounds_toArray, List.set_cons_zero, List.set_cons_succ])
             | (refine ext_pick_t rfl rfl (by rfl) (by rfl) (by rfl) ?_; simp only [Act.put, List.setIfInBounds_toArray, List.set_cons_zero, List.set_cons_succ])
             | (refine ext_pick_f rfl rfl (by rfl) (by rfl) (by rfl) ?_; simp only [Act.put, List.setIfInBounds_toArray, List.set_cons_zero, List.set_cons_succ])
             | (apply ext_take rfl (by rfl)
                · intro w' hS
                  have hSc := hS.cells
                  (try simp only [World.size_drew, World.cell?_drew] at hSc)
                  go_simp
                  (try simp (disch := omega) only [i64_id, ↓IntWalk.iteOmega, Int.tdiv_eq_ediv_of_nonneg, Int.tmod_eq_emod_of_nonneg])
                  try rfl
                simp only [Act.put, List.setIfInBounds_toArray, List.set_cons_zero, List.set_cons_succ])
             | (refine ext_pass rfl (by rfl) ?_; simp only [Act.put, List.setIfInBounds_toArray, List.set_cons_zero, List.set_cons_succ]))
            (refine ext_last rfl (by rfl) (by kernel_rfl) (fun K hK => ?_)
             go_simp
             refine hK _ _ ?_
             clear hK K
             (try simp only [Act.put, List.setIfInBounds_toArray, List.set_cons_zero, List.set_cons_succ]))
            go_wp2
            go_roundw
            case rel => exact ⟨k + 1, by omega, by go_num, (hxr.setCell hg _).drew, HS.out.drew⟩
            case measure => simp [intOf]; omega
          · have hk64 : k = 64 := by omega
            subst hk64
            have HSl := Lib.hid (hrow.slice (cap := cap) (by rw [hlen]; exact hcap))
            rw [hlen] at HSl
            have HA2 := Lib.hid (HA1.out.ext hxr)
            have hne : (un (Crc.sum la) != un (Crc.sum (burst la first x 64))) = true := by
              rw [bne_iff_ne]; exact fun e => burst_sum la first x (by omega) HX.out (un_inj e)
            have HNE := Lib.hid hne
            clear hne hrow
            go_wp2_with (first
              | (go_at_call 12; (with_reducible refine (sum_any _ _ _ (by unfold maxLen; omega) HA2.out).mono ?_); rintro e w3 ⟨rfl, rfl⟩)
              | (go_at_call 12; (with_reducible refine (sum_any _ _ _ (by rw [burst_length]; unfold maxLen; omega) HSl.out).mono ?_); rintro e w3 ⟨rfl, rfl⟩))
            go_ret
            exact ⟨ret_bool HNE.out, Ext.trans hb1 hxr⟩
end Go.Proofs.Ytmleonpecodimaa
