/-
  Part 8 of the proof.
-/
import Derived.Test.YtjabgpejmnpamaaGreatDoorY04
set_option linter.unusedVariables false
namespace Go.Proofs.YtjabgpejmnpamaaGreatDoor
open Go.RowKit
structure RdK (K : Nat → Prop) (w : World) (b : Nat) (l : List (BitVec 8)) (bad : Bool) : Prop extends RdAt w b l bad where
  dat : ∀ v, w.cell? ⟨b, 0, none⟩ = some v → ∀ q, v.ownBlock = some q → K q
def IsBytesK (K : Nat → Prop) (w : World) (v : Value) (l : List (BitVec 8)) : Prop := SliceAt encB w v l ∧ ∀ q, v.ownBlock = some q → K q
section
variable {K : Nat → Prop}
theorem RdK.ext {w w' : World} {b : Nat} {l : List (BitVec 8)} {bad : Bool} (h : RdK K w b l bad) (e : Ext w w') : RdK K w' b l bad :=
  ⟨h.toRdAt.ext e, fun v hv => h.dat v (by rw [← hv]; exact (e.cell b 0 h.lt).symm)⟩
theorem RdK.failed {w : World} {b : Nat} {l : List (BitVec 8)} {bad : Bool} (h : RdK K w b l bad) : RdK K (failW w b) b [] true := by
  refine ⟨h.toRdAt.failed, fun v hv q hq => ?_⟩
  obtain ⟨u, hu, _⟩ := h.rest
  have h1 : (failW w b).cell? ⟨b, 0, none⟩ = some (.slice none 0 0) := by
    unfold failW
    rw [set_off (by decide)]; exact set_same hu
  rw [h1] at hv
  obtain rfl := Option.some.inj hv
  cases hq
theorem RdK.turn {w w' : World} {b g : Nat} {l : List (BitVec 8)} {bad : Bool} (h : RdK K w b l bad) (hg : w.grownBy w' (some g)) (hne : b ≠ g) (hK : ¬ K g) : RdK K w' b l bad := by
  have hk := hg.block b h.lt (fun e => hne (Option.some.inj e))
  obtain ⟨v, hv, hs⟩ := h.rest
  have hc : w'.cell? ⟨b, 0, none⟩ = w.cell? ⟨b, 0, none⟩ := World.cell?_of_block (w := w) hk
  refine ⟨⟨Nat.lt_of_lt_of_le h.lt hg.size, ⟨v, hc.trans hv, ?_⟩, (World.cell?_of_block (w := w) hk).trans h.flag, fun j => (World.frozen?_of_block (w := w) hk).trans (h.free j), fun j c => ?_⟩, fun u hu => h.dat u (hc ▸ hu)⟩
  · obtain ⟨ad, cap, rfl, hca, h3⟩ := hs
    refine ⟨ad, cap, rfl, hca, ?_⟩
    rcases h3 with h3 | ⟨q, off, rfl, hb, hcell⟩
    · exact .inl h3
    · have hq : K q := h.dat _ hv q rfl
      refine .inr ⟨q, off, rfl, Nat.lt_of_lt_of_le hb hg.size, fun i hi => ?_⟩
      rw [World.cell?_of_block (w := w) (hg.block q hb (fun e => by have := Option.some.inj e; subst this; exact hK hq))]
      exact hcell i hi
  · rw [World.cell?_of_block (w := w) hk]; exact h.nb j c
theorem RdK.more {w w' : World} {b : Nat} {l : List (BitVec 8)} {bad : Bool} (h : RdK K w b l bad) {B : Nat} (hx : Below B w w') (hb : b < B) (hK : ∀ q, K q → q < B) : RdK K w' b l bad := by
  have hk := hx.block b hb
  obtain ⟨v, hv, hs⟩ := h.rest
  have hc : w'.cell? ⟨b, 0, none⟩ = w.cell? ⟨b, 0, none⟩ := World.cell?_of_block (w := w) hk
  refine ⟨⟨Nat.lt_of_lt_of_le h.lt hx.size, ⟨v, hc.trans hv, ?_⟩, (World.cell?_of_block (w := w) hk).trans h.flag, fun j => (World.frozen?_of_block (w := w) hk).trans (h.free j), fun j c => ?_⟩, fun u hu => h.dat u (hc ▸ hu)⟩
  · obtain ⟨ad, cap, rfl, hca, h3⟩ := hs
    refine ⟨ad, cap, rfl, hca, ?_⟩
    rcases h3 with h3 | ⟨q, off, rfl, hb, hcell⟩
    · exact .inl h3
    · have hq : K q := h.dat _ hv q rfl
      refine .inr ⟨q, off, rfl, Nat.lt_of_lt_of_le hb hx.size, fun i hi => ?_⟩
      rw [World.cell?_of_block (w := w) (hx.block q (hK q hq))]
      exact hcell i hi
  · rw [World.cell?_of_block (w := w) hk]; exact h.nb j c
set_option maxHeartbeats 400000 in
theorem takeK_yes (w : World) (b : Nat) (l : List (BitVec 8)) (n : Nat) (hl : l.length ≤ maxLen) (h : RdK K w b l false) (hn : n ≤ l.length) :
    Calls Tryz.prog 187 #[.pointer (some ⟨b, 0, none⟩), .int .u64 n] w fun e w' => ∃ v v', e = .returned (.tuple #[v, .int .i64 0]) ∧ w' = w.setCell ⟨b, 0, none⟩ v' ∧ IsBytesK K w' v (l.take n) ∧ RdK K w' b (l.drop n) false := by
  obtain ⟨⟨hlt, ⟨v, hv, hs⟩, hf, hfr, hnb⟩, hdat⟩ := h
  have HS := Lib.hid hs
  obtain ⟨ad, cap, rfl, hca, hs⟩ := hs
  have hf0 := hfr 0
  have hf1 := hfr 1
  have HF := Lib.hid hfr
  unfold maxLen at hl
  have hn' : (n : Int) ≤ (l.length : Int) := by omega
  have hn2 : (n : Int) ≤ (cap : Int) := by omega
  have HT := Lib.hid (HS.out.take3 n hn)
  have hfin : ∀ x, SliceAt encB w x (l.drop n) → (∀ q, x.ownBlock = some q → (Value.slice ad l.length cap).ownBlock = some q) → IsBytesK K (w.setCell ⟨b, 0, none⟩ x) (.slice ad n n) (l.take n) ∧ RdK K (w.setCell ⟨b, 0, none⟩ x) b (l.drop n) false := by
    intro x hx hxo
    refine ⟨⟨HT.out.set hv (fun c h => by cases h), fun q hq => hdat _ hv q (by cases ad <;> simp_all [Value.ownBlock])⟩, ⟨by simpa using hlt, ⟨x, set_same hv, hx.set hv (fun c h => by cases h)⟩, ?_, fun j => by simpa using hfr j, nb_set hnb hv hx.ne⟩, fun u hu q hq => ?_⟩
    · rw [set_off (by decide)]; exact hf
    · rw [set_same hv] at hu
      obtain rfl := Option.some.inj hu
      exact hdat _ hv q (hxo q hq)
  have HFin := Lib.hid hfin
  clear hs hfr hfin hnb hdat
  go_enter Tryz.func187, Tryz.ntmps187
  go_wp2
  · go_ret2
    exact ⟨_, rfl, ⟨_, rfl⟩, HFin.out _ (HS.out.drop_all n hn (by assumption)) (fun q h => by cases ad <;> simp_all [Value.ownBlock])⟩
  · go_ret2
    exact ⟨_, rfl, ⟨_, rfl⟩, HFin.out _ (HS.out.drop n hn) (fun q h => by cases ad <;> simp_all [Value.ownBlock, Option.map, Addr.add] <;> (try split at h) <;> simp_all)⟩
theorem takeK_one (w : World) (b : Nat) (c : BitVec 8) (r : List (BitVec 8)) (hl : (c :: r).length ≤ maxLen) (h : RdK K w b (c :: r) false) :
    Calls Tryz.prog 187 #[.pointer (some ⟨b, 0, none⟩), .int .u64 1] w fun e w' => ∃ g o cap, e = .returned (.tuple #[.slice (some ⟨g, o, none⟩) 1 cap, .int .i64 0]) ∧ w'.cell? ⟨g, o, none⟩ = some (encB c) ∧ g < w'.heap.size ∧ RdK K w' b r false ∧ w.grownBy w' (some b) := by
  refine (takeK_yes w b _ 1 hl h (by simp)).mono ?_
  rintro e w1 ⟨v1, v2, rfl, rfl, hs, hr⟩
  obtain ⟨ad, cap, rfl, _, hs⟩ := hs.1
  rcases hs with ⟨hs, _⟩ | ⟨g, o, rfl, hg, hs⟩
  · simp at hs
  · exact ⟨g, o, cap, rfl, hs 0 (by simp), hg, hr, turn_set _ _ _ _⟩
def AfterK (K : Nat → Prop) (w w' : World) (b : Nat) (l : List (BitVec 8)) (bad : Bool) : Prop := RdK K w' b l bad ∧ w.grownBy w' (some b)
def UintPostK (K : Nat → Prop) (w : World) (b : Nat) (o : Option (BitVec 64 × List (BitVec 8))) (e : Ending) (w' : World) : Prop :=
  match o with
  | some (x, r) => e = .returned (.tuple #[encU x, .int .i64 0]) ∧ AfterK K w w' b r false
  | none => e = .returned (.tuple #[.int .u64 0, .int .i64 5]) ∧ AfterK K w w' b [] true
theorem uintPostK_none {w w' : World} {b : Nat} {o : Option (BitVec 64 × List (BitVec 8))} {e : Ending} (h : o = none) (he : e = .returned (.tuple #[.int .u64 0, .int .i64 5])) (ha : AfterK K w w' b [] true) : UintPostK K w b o e w' := by
  subst h; exact ⟨he, ha⟩
theorem uintPostK_some {w w' : World} {b : Nat} {o : Option (BitVec 64 × List (BitVec 8))} {e : Ending} {x : BitVec 64} {r : List (BitVec 8)} (h : o = some (x, r)) (he : e = .returned (.tuple #[encU x, .int .i64 0])) (ha : AfterK K w w' b r false) : UintPostK K w b o e w' := by
  subst h; exact ⟨he, ha⟩
section
attribute [local go_sem] and_127
set_option maxHeartbeats 800000 in
theorem uintK_any (w : World) (b : Nat) (l : List (BitVec 8)) (bad : Bool) (hl : l.length ≤ 100000) (h : RdK K w b l bad) :
    Calls Tryz.prog 124 #[.pointer (some ⟨b, 0, none⟩)] w fun e w' => UintPostK K w b (rd bad l) e w' := by
  generalize ho : rd bad l = o
  have HO : Hid (o = if bad then none else rdU 10 0 0#64 l) := ho.symm
  clear ho
  have HR := Lib.hid h
  go_enter Tryz.func124, Tryz.ntmps124
  go_wp2
  go_loopw [9, 4] (fun i acc wr => ∃ (k : Nat) (x : BitVec 64) (r : List (BitVec 8)), k ≤ 10 ∧ i = .int .i64 k ∧ acc = .int .u64 (un x) ∧ o = (if bad then none else rdU (10 - k) k x r) ∧ r.length ≤ l.length ∧ RdK K wr b r bad ∧ w.grownBy wr (some b)) (fun i _ _ => 10 - (intOf i).toNat)
  case atStart => exact ⟨0, 0#64, l, by omega, rfl, rfl, HO.out, Nat.le_refl _, HR.out, turn_refl _ _⟩
  case round =>
    obtain ⟨k, x, r, hk, rfl, rfl, hrd, hrl, hrr, hg⟩ := hrel
    have HRR := Lib.hid hrr
    have HD := Lib.hid hrd
    have HG := Lib.hid hg
    clear hrr hrd hg
    by_cases hlt : k < 10
    · cases bad with
      | true =>
        go_wp2_with (go_at_call 187; refine (take_no _ _ _ _ 1 (by omega) (by unfold maxLen; omega) HRR.out.toRdAt (.inl rfl)).mono ?_; rintro e w1 ⟨rfl, rfl⟩)
        go_ret2
        exact uintPostK_none HD.out rfl ⟨HRR.out.failed, turn_trans HG.out (turn_fail _ _)⟩
      | false =>
        cases r with
        | nil =>
          go_wp2_with (go_at_call 187; refine (take_no _ _ _ _ 1 (by omega) (by unfold maxLen; omega) HRR.out.toRdAt (.inr (by simp))).mono ?_; rintro e w1 ⟨rfl, rfl⟩)
          go_ret2
          exact uintPostK_none (by rw [HD.out, show 10 - k = (9 - k) + 1 by omega]; rfl) rfl ⟨HRR.out.failed, turn_trans HG.out (turn_fail _ _)⟩
        | cons c r =>
          have hl' : (c :: r).length ≤ maxLen := by unfold maxLen; omega
          have HL' := Lib.hid hl'
          clear hl'
          go_wp2_with fail
          go_at_call 187
          refine (takeK_one _ _ _ _ HL'.out HRR.out).mono ?_
          rintro e w1 ⟨g1, o1, cap1, rfl, hc1, hg1, hr1, ht1⟩
          have HR1 := Lib.hid hr1
          have HT1 := Lib.hid (turn_trans HG.out ht1)
          clear hr1 ht1
          have hcb := ub_bound c
          have hcn : ub c = (c.toNat : Int) := rfl
          have hand : bits .and .u64 (ub c) 127 = un (Crc.reg c &&& 127#64) := by rw [← reg_ub, and_127]
          have hc0 : c = 0#8 ↔ ub c = 0 := ⟨fun h => by rw [h]; rfl, fun h => ub_inj h⟩
          have HC0 := Lib.hid hc0
          have HCN := Lib.hid hcn
          clear hc0 hcn
          generalize hn : ub c = n at *
          have HL1 := Lib.hid (show r.length ≤ l.length by have := hrl; simp at this; omega)
          have hval : bits .or .u64 (un x) (IntKind.u64.wrap (un (Crc.reg c &&& 127#64) * 2 ^ (7 * k))) = un (x ||| ((Crc.reg c &&& 127#64) <<< (7 * k))) := by rw [shl_un, or_un]
          by_cases h9 : k = 9
          · have H9 := Lib.hid h9
            have hd : ((k : Int) == 9) = true := by rw [beq_iff_eq]; omega
            have hk0 : (0 : Int) < (k : Int) := by omega
            clear h9
            by_cases h1 : 1 < n
            · go_wp2_with (go_at_call 188; refine (fail_any _ _ _ _ HR1.out.toRdAt).mono ?_; rintro e w2 ⟨rfl, rfl⟩)
              go_ret2
              exact uintPostK_none (HD.out.trans (rdU_big H9.out (by have := HCN.out; omega))) rfl ⟨HR1.out.failed, turn_trans HT1.out (turn_fail _ _)⟩
            · by_cases h0 : n = 0
              · have H0 := Lib.hid h0
                have hq : (n == 0) = true := by rw [beq_iff_eq]; exact h0
                have hz128 : n < 128 := by omega
                clear h0
                go_wp2_with (go_at_call 188; refine (fail_any _ _ _ _ HR1.out.toRdAt).mono ?_; rintro e w2 ⟨rfl, rfl⟩)
                go_ret2
                exact uintPostK_none (HD.out.trans (rdU_zero hlt (HC0.out.2 H0.out) (by omega))) rfl ⟨HR1.out.failed, turn_trans HT1.out (turn_fail _ _)⟩
              · have H0 := Lib.hid h0
                have hq : (n == 0) = false := by rw [beq_eq_false_iff_ne]; exact h0
                have hz128 : n < 128 := by omega
                clear h0
                go_wp2
                go_ret2
                exact uintPostK_some (HD.out.trans (rdU_end hlt (by rintro ⟨_, h⟩; have := HCN.out; omega) (by have := HCN.out; omega) (by rintro ⟨h, _⟩; exact H0.out (HC0.out.1 h)))) rfl ⟨HR1.out, HT1.out⟩
          · have H9 := Lib.hid h9
            have hd : ((k : Int) == 9) = false := by rw [beq_eq_false_iff_ne]; omega
            clear h9
            by_cases h128 : n < 128
            · by_cases h0 : n = 0
              · have H0 := Lib.hid h0
                have hq : (n == 0) = true := by rw [beq_iff_eq]; exact h0
                have hz128 : n < 128 := by omega
                clear h0
                by_cases hk0 : 0 < k
                · go_wp2_with (go_at_call 188; refine (fail_any _ _ _ _ HR1.out.toRdAt).mono ?_; rintro e w2 ⟨rfl, rfl⟩)
                  go_ret2
                  exact uintPostK_none (HD.out.trans (rdU_zero hlt (HC0.out.2 H0.out) hk0)) rfl ⟨HR1.out.failed, turn_trans HT1.out (turn_fail _ _)⟩
                · have HK := Lib.hid hk0
                  go_wp2
                  go_ret2
                  exact uintPostK_some (HD.out.trans (rdU_end hlt (fun h => H9.out h.1) (by have := HCN.out; omega) (fun h => HK.out h.2))) rfl ⟨HR1.out, HT1.out⟩
              · have H0 := Lib.hid h0
                have hq : (n == 0) = false := by rw [beq_eq_false_iff_ne]; exact h0
                have hz128 : n < 128 := by omega
                clear h0
                go_wp2
                go_ret2
                exact uintPostK_some (HD.out.trans (rdU_end hlt (fun h => H9.out h.1) (by have := HCN.out; omega) (fun h => H0.out (HC0.out.1 h.1)))) rfl ⟨HR1.out, HT1.out⟩
            · go_wp2
              go_roundw
              case rel => exact ⟨k + 1, _, r, by omega, by go_num, rfl, HD.out.trans (rdU_next hlt H9.out (by have := HCN.out; omega)), HL1.out, HR1.out, HT1.out⟩
              case measure => simp [intOf]; omega
    · go_wp2_with (go_at_call 188; refine (fail_any _ _ _ _ HRR.out.toRdAt).mono ?_; rintro e w1 ⟨rfl, rfl⟩)
      go_ret2
      exact uintPostK_none (by rw [HD.out, show 10 - k = 0 by omega]; cases bad <;> rfl) rfl ⟨HRR.out.failed, turn_trans HG.out (turn_fail _ _)⟩
end
def ReadPostK (K : Nat → Prop) {α : Type} (P : World → Value → α → Prop) (zero : Value) (w : World) (b : Nat) (o : Option (α × List (BitVec 8))) (e : Ending) (w' : World) : Prop :=
  match o with
  | some (x, r) => ∃ v, e = .returned (.tuple #[v, .int .i64 0]) ∧ P w' v x ∧ AfterK K w w' b r false
  | none => e = .returned (.tuple #[zero, .int .i64 5]) ∧ AfterK K w w' b [] true
section
variable {α : Type} {P : World → Value → α → Prop} {zero : Value} {w w' : World} {b : Nat} {o : Option (α × List (BitVec 8))} {e : Ending}
theorem readPostK_none (h : o = none) (he : e = .returned (.tuple #[zero, .int .i64 5])) (ha : AfterK K w w' b [] true) : ReadPostK K P zero w b o e w' := by
  subst h; exact ⟨he, ha⟩
theorem readPostK_some {x : α} {r : List (BitVec 8)} {v : Value} (h : o = some (x, r)) (he : e = .returned (.tuple #[v, .int .i64 0])) (hp : P w' v x) (ha : AfterK K w w' b r false) : ReadPostK K P zero w b o e w' := by
  subst h; exact ⟨v, he, hp, ha⟩
end
section
attribute [local go_sem] xor_un and_un or_un not_un wrap_ub
set_option maxHeartbeats 400000 in
theorem intK_any (w : World) (b : Nat) (l : List (BitVec 8)) (bad : Bool) (hl : l.length ≤ 100000) (h : RdK K w b l bad) :
    Calls Tryz.prog 139 #[.pointer (some ⟨b, 0, none⟩)] w fun e w' => ReadPostK K IsInt (.int .i64 0) w b (rdI bad l) e w' := by
  have HR := Lib.hid h
  clear h
  generalize ho : rdI bad l = o
  unfold rdI at ho
  have HO := Lib.hid ho
  clear ho
  go_enter Tryz.func139, Tryz.ntmps139
  go_wp2_with fail
  go_at_call 124
  refine (uintK_any _ _ _ _ hl HR.out).mono ?_
  intro e w1 hu
  cases hr : rd bad l with
  | none =>
    rw [hr] at hu
    have hno : Hid (o = none) := by rw [hr] at HO; exact HO.out.symm
    obtain ⟨rfl, ha⟩ := hu
    have HA := Lib.hid ha
    clear ha hr
    have hand : bits .and .u64 0 1 = 0 := by decide
    have hxor : bits .xor .i64 0 0 = 0 := by decide
    go_wp2
    go_ret2
    exact readPostK_none hno.out rfl HA.out
  | some p =>
    obtain ⟨x, r⟩ := p
    rw [hr] at hu
    have hso : Hid (o = some (unz x, r)) := by rw [hr] at HO; exact HO.out.symm
    obtain ⟨rfl, ha⟩ := hu
    have HA := Lib.hid ha
    clear ha hr
    have hxb := un_bound x
    have hand := and_one_val x
    have hx0 := xor_i64_zero (un x / 2) (by omega)
    have hx1 := xor_i64_ones (un x / 2) (by omega)
    have HX0 := Lib.hid hx0
    have HX1 := Lib.hid hx1
    have hxn : un x = (x.toNat : Int) := rfl
    have HXN := Lib.hid hxn
    clear hxn hx0 hx1
    by_cases hm : un x % 2 = 0
    · have HU : Hid (bits .xor .i64 (un x / 2) 0 = unz x) := by
        show _ = _; rw [HX0.out]; unfold unz; rw [if_pos (by have := HXN.out; omega), HXN.out]; omega
      rw [hm] at hand
      clear hm
      go_wp2
      go_ret2
      exact readPostK_some hso.out rfl (show _ = _ by rw [HU.out]; rfl) HA.out
    · have hm : un x % 2 = 1 := by omega
      have HU : Hid (bits .xor .i64 (un x / 2) (-1) = unz x) := by
        show _ = _; rw [HX1.out]; unfold unz; rw [if_neg (by have := HXN.out; omega), HXN.out]; omega
      rw [hm] at hand
      clear hm
      go_wp2
      go_ret2
      exact readPostK_some hso.out rfl (show _ = _ by rw [HU.out]; rfl) HA.out
set_option maxHeartbeats 400000 in
theorem countK_any (w : World) (b : Nat) (l : List (BitVec 8)) (bad : Bool) (most : Int) (hm : -9223372036854775808 ≤ most ∧ most ≤ 9223372036854775807) (hl : l.length ≤ 100000) (h : RdK K w b l bad) :
    Calls Tryz.prog 125 #[.pointer (some ⟨b, 0, none⟩), .int .i64 most] w fun e w' => ReadPostK K IsInt (.int .i64 0) w b (rdC most bad l) e w' := by
  have HR := Lib.hid h
  clear h
  generalize ho : rdC most bad l = o
  unfold rdC at ho
  have HO := Lib.hid ho
  clear ho
  go_enter Tryz.func125, Tryz.ntmps125
  go_wp2_with fail
  go_at_call 124
  refine (uintK_any _ _ _ _ hl HR.out).mono ?_
  intro e w1 hu
  cases hr : rd bad l with
  | none =>
    rw [hr] at hu
    have hno : Hid (o = none) := by rw [hr] at HO; exact HO.out.symm
    obtain ⟨rfl, ha⟩ := hu
    have HA := Lib.hid ha
    clear ha hr
    go_wp2
    go_ret2
    exact readPostK_none hno.out rfl HA.out
  | some p =>
    obtain ⟨x, r⟩ := p
    rw [hr] at hu
    obtain ⟨rfl, ha⟩ := hu
    have HA := Lib.hid ha
    have HR1 := Lib.hid ha.1
    clear ha
    have hxb := un_bound x
    by_cases hc : 0 ≤ most ∧ un x ≤ most
    · have hso : Hid (o = some (un x, r)) := by rw [hr] at HO; simp only [if_pos hc] at HO; exact HO.out.symm
      obtain ⟨hc1, hc2⟩ := hc
      clear hr
      go_wp2
      go_ret2
      exact readPostK_some hso.out rfl rfl HA.out
    · have hno : Hid (o = none) := by rw [hr] at HO; simp only [if_neg hc] at HO; exact HO.out.symm
      clear hr
      by_cases hc0 : 0 ≤ most
      · have hc1 : most < un x := by omega
        clear hc
        go_wp2_with (go_at_call 188; refine (fail_any _ _ _ _ HR1.out.toRdAt).mono ?_; rintro e w2 ⟨rfl, rfl⟩)
        go_ret2
        exact readPostK_none hno.out rfl ⟨HR1.out.failed, turn_trans HA.out.2 (turn_fail _ _)⟩
      · clear hc
        go_wp2_with (go_at_call 188; refine (fail_any _ _ _ _ HR1.out.toRdAt).mono ?_; rintro e w2 ⟨rfl, rfl⟩)
        go_ret2
        exact readPostK_none hno.out rfl ⟨HR1.out.failed, turn_trans HA.out.2 (turn_fail _ _)⟩
set_option maxHeartbeats 400000 in
theorem bytesK_any (w : World) (b : Nat) (l : List (BitVec 8)) (bad : Bool) (hl : l.length ≤ 100000) (h : RdK K w b l bad) :
    Calls Tryz.prog 126 #[.pointer (some ⟨b, 0, none⟩)] w fun e w' => ReadPostK K (IsBytesK K) (.slice none 0 0) w b (rdB bad l) e w' := by
  have HR := Lib.hid h
  clear h
  generalize ho : rdB bad l = o
  unfold rdB at ho
  have HO := Lib.hid ho
  clear ho
  go_enter Tryz.func126, Tryz.ntmps126
  go_wp2_with fail
  go_at_call 124
  refine (uintK_any _ _ _ _ hl HR.out).mono ?_
  intro e w1 hu
  cases hr : rd bad l with
  | none =>
    rw [hr] at hu
    have hno : Hid (o = none) := by rw [hr] at HO; exact HO.out.symm
    obtain ⟨rfl, ha⟩ := hu
    have HA := Lib.hid ha
    clear ha hr
    go_wp2
    go_ret2
    exact readPostK_none hno.out rfl HA.out
  | some p =>
    obtain ⟨x, r⟩ := p
    have hrl := rd_len hr
    rw [hr] at hu
    obtain ⟨rfl, ha⟩ := hu
    have HA := Lib.hid ha
    have HR1 := Lib.hid ha.1
    clear ha
    by_cases hc : x.toNat ≤ r.length
    · have hso : Hid (o = some (r.take x.toNat, r.drop x.toNat)) := by rw [hr] at HO; simp only [if_pos hc] at HO; exact HO.out.symm
      clear hr
      have HT : Hid (∀ w', Calls Tryz.prog 187 #[.pointer (some ⟨b, 0, none⟩), .int .u64 (x.toNat : Int)] w1 w' → Calls Tryz.prog 187 #[.pointer (some ⟨b, 0, none⟩), encU x] w1 w') := fun _ h => h
      go_wp2_with fail
      go_at_call 187
      refine HT.out _ ((takeK_yes _ _ r x.toNat (by unfold maxLen; omega) HR1.out hc).mono ?_)
      rintro e w2 ⟨v, v', rfl, rfl, hs, hr2⟩
      have HS := Lib.hid hs
      have HR2 := Lib.hid hr2
      clear hs hr2
      go_wp2_with fail
      go_ret2
      exact readPostK_some hso.out rfl HS.out ⟨HR2.out, turn_trans HA.out.2 (turn_set _ _ _ _)⟩
    · have hno : Hid (o = none) := by rw [hr] at HO; simp only [if_neg hc] at HO; exact HO.out.symm
      clear hr
      have HT : Hid (∀ w', Calls Tryz.prog 187 #[.pointer (some ⟨b, 0, none⟩), .int .u64 (x.toNat : Int)] w1 w' → Calls Tryz.prog 187 #[.pointer (some ⟨b, 0, none⟩), encU x] w1 w') := fun _ h => h
      go_wp2_with fail
      go_at_call 187
      refine HT.out _ ((take_no _ _ r false x.toNat x.isLt (by unfold maxLen; omega) HR1.out.toRdAt (.inr (by omega))).mono ?_)
      rintro e w2 ⟨rfl, rfl⟩
      go_wp2_with fail
      go_ret2
      exact readPostK_none hno.out rfl ⟨HR1.out.failed, turn_trans HA.out.2 (turn_fail _ _)⟩
end
set_option maxRecDepth 100000 in
set_option maxHeartbeats 800000 in
theorem blockK_any (w : World) (b : Nat) (l : List (BitVec 8)) (bad : Bool) (hl : l.length ≤ 100000) (h : RdK K w b l bad) :
    Calls Tryz.prog 138 #[.pointer (some ⟨b, 0, none⟩)] w fun e w' => ReadPostK K IsBlock zeroX w b (rdX bad l) e w' := by
  have hlt := h.lt
  have hbf : b ≠ w.heap.size := by omega
  have HR := Lib.hid (h.ext (Ext.alloc w (.cells #[.int .u8 0, .int .u8 0, .int .u8 0, .int .u8 0, .int .u8 0, .int .u8 0, .int .u8 0, .int .u8 0] 76)))
  have HRW := Lib.hid h
  clear h
  generalize ho : rdX bad l = o
  unfold rdX at ho
  by_cases hc : bad = true ∨ l.length < 8
  · have hno : Hid (o = none) := by
      show _ = _
      rcases hc with hc | hc
      · rw [if_pos hc] at ho; exact ho.symm
      · split at ho
        · exact ho.symm
        · rw [if_neg (by omega)] at ho; exact ho.symm
    clear ho
    go_enter Tryz.func138, Tryz.ntmps138
    go_wp2_with fail
    go_at_call 187
    refine (take_no _ _ l bad 8 (by omega) (by unfold maxLen; omega) HR.out.toRdAt hc).mono ?_
    rintro e w1 ⟨rfl, rfl⟩
    have HF := Lib.hid (HRW.out.failed.ext (Ext.alloc _ (.cells #[.int .u8 0, .int .u8 0, .int .u8 0, .int .u8 0, .int .u8 0, .int .u8 0, .int .u8 0, .int .u8 0] 76)))
    have HG := Lib.hid (turn_trans (turn_fail w b) (turn_alloc (.cells #[.int .u8 0, .int .u8 0, .int .u8 0, .int .u8 0, .int .u8 0, .int .u8 0, .int .u8 0, .int .u8 0] 76) (some b)))
    clear hc
    unfold failW at HF HG ⊢
    go_wp2_with fail
    refine bodyPost_ret (v := .tuple #[zeroX, .int .i64 5]) ?_ rfl ?_
    · unfold zeroX
      simp only [results, Tryz.results138]
      go_simp
    · exact readPostK_none hno.out rfl ⟨HF.out, HG.out⟩
  · have hb : bad = false := by
      cases bad
      · rfl
      · exact absurd (.inl rfl) hc
    subst hb
    have hl8 : 8 ≤ l.length := by
      rcases Nat.lt_or_ge l.length 8 with h | h
      · exact absurd (.inr h) hc
      · exact h
    have hso : Hid (o = some (l.take 8, l.drop 8)) := by
      show _ = _
      rw [if_neg (by simp), if_pos hl8] at ho; exact ho.symm
    clear ho hc
    obtain ⟨⟨_, ⟨v, hv, hs⟩, hf, hfr, hnb⟩, hdat⟩ := HRW.out
    have HS := Lib.hid hs
    obtain ⟨g, off, cap, rfl, hca, hg, hcell⟩ := hs.some_of (by omega)
    have hgb : g ≠ b := fun e => by subst e; exact hnb _ _ (hcell 0 (by omega))
    have hbg : b ≠ g := Ne.symm hgb
    have HF := Lib.hid (take_at (w.alloc (.cells #[.int .u8 0, .int .u8 0, .int .u8 0, .int .u8 0, .int .u8 0, .int .u8 0, .int .u8 0, .int .u8 0] 76)) b g off l.length cap 8 (by simp; omega)
      (((Ext.alloc w _).cell b 0 hlt).trans hv) (((Ext.alloc w _).cell b 1 hlt).trans hf) (fun j => ((Ext.alloc w _).frozen b j hlt).trans (hfr j)) hl8 hca hl)
    have hfin : ∀ v' : Value, (v' = .slice (some ⟨g, off + 8, none⟩) (l.length - 8) (cap - 8) ∨ cap = 8 ∧ v' = .slice (some ⟨g, off, none⟩) (l.length - 8) 0) → RdK K (w.setCell ⟨b, 0, none⟩ v') b (l.drop 8) false := by
      intro v' hv'
      have hx : SliceAt encB w v' (l.drop 8) := by
        rcases hv' with rfl | ⟨hc, rfl⟩
        · exact hs.drop 8 hl8
        · exact hs.drop_all 8 hl8 hc
      refine ⟨⟨by simpa using hlt, ⟨v', set_same hv, hx.set hv slice_ne⟩, ?_, fun j => by simpa using hfr j, nb_set hnb hv hx.ne⟩, fun u hu q hq => ?_⟩
      · rw [set_off (by decide)]; exact hf
      · rw [set_same hv] at hu
        obtain rfl := Option.some.inj hu
        refine hdat _ hv q ?_
        rcases hv' with rfl | ⟨_, rfl⟩ <;> exact hq
    have HFin := Lib.hid hfin
    have k0 : w.cell? ⟨g, off, none⟩ = some (encB (l[0]'(by omega))) := hcell 0 (by omega)
    have k1 : w.cell? ⟨g, off + 1, none⟩ = some (encB (l[1]'(by omega))) := hcell 1 (by omega)
    have k2 : w.cell? ⟨g, off + 2, none⟩ = some (encB (l[2]'(by omega))) := hcell 2 (by omega)
    have k3 : w.cell? ⟨g, off + 3, none⟩ = some (encB (l[3]'(by omega))) := hcell 3 (by omega)
    have k4 : w.cell? ⟨g, off + 4, none⟩ = some (encB (l[4]'(by omega))) := hcell 4 (by omega)
    have k5 : w.cell? ⟨g, off + 5, none⟩ = some (encB (l[5]'(by omega))) := hcell 5 (by omega)
    have k6 : w.cell? ⟨g, off + 6, none⟩ = some (encB (l[6]'(by omega))) := hcell 6 (by omega)
    have k7 : w.cell? ⟨g, off + 7, none⟩ = some (encB (l[7]'(by omega))) := hcell 7 (by omega)
    have hte : [l[0]'(by omega), l[1]'(by omega), l[2]'(by omega), l[3]'(by omega), l[4]'(by omega), l[5]'(by omega), l[6]'(by omega), l[7]'(by omega)] = l.take 8 := by
      obtain ⟨x0, x1, x2, x3, x4, x5, x6, x7, r, rfl⟩ := ten hl8
      rfl
    generalize l[0]'(by omega) = x0 at *
    generalize l[1]'(by omega) = x1 at *
    generalize l[2]'(by omega) = x2 at *
    generalize l[3]'(by omega) = x3 at *
    generalize l[4]'(by omega) = x4 at *
    generalize l[5]'(by omega) = x5 at *
    generalize l[6]'(by omega) = x6 at *
    generalize l[7]'(by omega) = x7 at *
    have HTE := Lib.hid hte
    have hgs : g ≠ w.heap.size := by omega
    clear hfin hcell hfr hnb hs hte hca hf hdat
    go_enter Tryz.func138, Tryz.ntmps138
    go_wp2_with fail
    go_at_call 187
    refine HF.out.mono ?_
    rintro e w1 ⟨v', rfl, rfl, hv'⟩
    have HRF := Lib.hid (HFin.out v' hv')
    clear hv' hv
    have harr : ∀ w : World, (Instr.arrayAt 76 (.slice (some ⟨g, off, none⟩) 8 8)).run Tryz.prog w = .ok (.pointer (some ⟨g, off, none⟩)) w := fun _ => rfl
    go_wp2_with fail
    refine bodyPost_ret (v := .tuple #[.agg #[encB x0, encB x1, encB x2, encB x3, encB x4, encB x5, encB x6, encB x7], .int .i64 0]) ?_ rfl ?_
    · simp only [results, Tryz.results138]
      go_simp
    · exact readPostK_some hso.out rfl ⟨by rw [← HTE.out]; rfl, by rw [← HTE.out]; rfl⟩ ⟨HRF.out.ext (Ext.alloc _ _), turn_trans (turn_set _ _ _ _) (turn_alloc _ _)⟩
end
end Go.Proofs.YtjabgpejmnpamaaGreatDoor
