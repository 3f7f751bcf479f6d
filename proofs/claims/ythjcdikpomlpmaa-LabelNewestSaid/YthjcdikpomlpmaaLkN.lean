/-
  Chapter 9 (codec): a reader of the reference.
-/
import Derived.Test.YthjcdikpomlpmaaLkM
namespace Go.Proofs.Ythjcdikpomlpmaa
open Go.RowKit
set_option linter.unusedVariables false
attribute [local go_sem] xor_un and_un or_un not_un wrap_ub

theorem rfail_any (w : World) (b : Nat) (l : List (BitVec 8)) (bad : Bool) (h : RdAt w b l bad) :
    Calls Try.prog 71 #[.pointer (some ⟨b, 0, none⟩)] w fun e w' => e = .returned (.int .i64 5) ∧ w' = failW w b := by
  obtain ⟨hlt, ⟨v, hv, hs⟩, hf, hfr, hnb⟩ := h
  have hf0 := hfr 0
  have hf1 := hfr 1
  have HS := Lib.hid hs
  clear hs hfr hnb
  unfold failW
  go_enter Try.func71, Try.ntmps71
  go_wp2
  go_ret
  exact ⟨rfl, rfl⟩
theorem rdone_any (w : World) (b : Nat) (l : List (BitVec 8)) (bad : Bool) (hl : l.length ≤ 100000) (h : RdAt w b l bad) :
    Calls Try.prog 66 #[.pointer (some ⟨b, 0, none⟩)] w fun e w' => e = .returned (.int .i64 (fin bad l)) ∧ w = w' := by
  obtain ⟨hlt, ⟨v, hv, hs⟩, hf, hfr, hnb⟩ := h
  obtain ⟨ad, cap, rfl, hca, hs⟩ := hs
  clear hs hnb hfr
  cases bad with
  | true =>
    go_enter Try.func66, Try.ntmps66
    go_wp2
    go_ret
    exact ⟨rfl, rfl⟩
  | false =>
    cases l with
    | nil =>
      simp only [List.length_nil] at hv
      go_enter Try.func66, Try.ntmps66
      go_wp2
      go_ret
      exact ⟨rfl, rfl⟩
    | cons c l =>
      have hp : 0 < (c :: l).length := by simp
      generalize hn : (c :: l).length = n at *
      go_enter Try.func66, Try.ntmps66
      go_wp2
      go_ret
      exact ⟨rfl, rfl⟩

/-- the groups of seven bits add up -/
theorem add_or (x y : BitVec 64) (k : Nat) (hk : k ≤ 9) (hx : x.toNat < 2 ^ (7 * k)) : un x + un (y <<< (7 * k)) = un (x ||| y <<< (7 * k)) := by
  have h0 : x &&& y <<< (7 * k) = 0#64 := by
    apply BitVec.eq_of_getLsbD_eq
    intro i hi
    rw [BitVec.getLsbD_and, BitVec.getLsbD_shiftLeft]
    by_cases h : i < 7 * k
    · simp [h]
    · have : x.getLsbD i = false := by
        rw [BitVec.getLsbD]; exact Nat.testBit_lt_two_pow (Nat.lt_of_lt_of_le hx (Nat.pow_le_pow_right (by decide) (by omega)))
      simp [this]
  have h1 := BitVec.add_eq_or_of_and_eq_zero x (y <<< (7 * k)) h0
  rw [← h1]
  unfold un
  have h2 : x.toNat + (y <<< (7 * k)).toNat < 2 ^ 64 := by
    have h3 : x.toNat &&& (y <<< (7 * k)).toNat = 0 := by rw [← BitVec.toNat_and, h0]; rfl
    have h4 : x.toNat + (y <<< (7 * k)).toNat = x.toNat ||| (y <<< (7 * k)).toNat := by
      have h5 : (y <<< (7 * k)).toNat = 2 ^ (7 * k) * (y.toNat % 2 ^ (64 - 7 * k)) := by
        rw [BitVec.toNat_shiftLeft, Nat.shiftLeft_eq, Nat.mul_comm, show (2 : Nat) ^ 64 = 2 ^ (7 * k) * 2 ^ (64 - 7 * k) by rw [← Nat.pow_add]; congr 1; omega, Nat.mul_mod_mul_left]
      rw [h5, Nat.add_comm, Nat.or_comm]
      exact Nat.two_pow_add_eq_or_of_lt hx _
    rw [h4, ← BitVec.toNat_or]; exact BitVec.isLt _
  rw [BitVec.toNat_add]
  omega
theorem or_lt (x y : BitVec 64) (k : Nat) (hk : k < 9) (hx : x.toNat < 2 ^ (7 * k)) (hy : y.toNat < 128) : (x ||| y <<< (7 * k)).toNat < 2 ^ (7 * (k + 1)) := by
  rw [BitVec.toNat_or, show 7 * (k + 1) = 7 * k + 7 by omega]
  have h1 : (y <<< (7 * k)).toNat < 2 ^ (7 * k + 7) := by
    rw [BitVec.toNat_shiftLeft, Nat.shiftLeft_eq]
    refine Nat.lt_of_le_of_lt (Nat.mod_le _ _) ?_
    rw [Nat.pow_add, Nat.mul_comm]
    exact Nat.mul_lt_mul_of_pos_left hy (Nat.two_pow_pos _)
  exact Nat.or_lt_two_pow (Nat.lt_of_lt_of_le hx (Nat.pow_le_pow_right (by decide) (by omega))) h1
theorem low7 (c : BitVec 8) : un (Crc.reg c &&& 127#64) = ub c % 128 := by
  rw [← reg_ub]
  unfold un
  rw [BitVec.toNat_and, show (127#64).toNat = 2 ^ 7 - 1 from rfl, Nat.and_two_pow_sub_one_eq_mod]
  omega

set_option maxHeartbeats 800000 in
theorem ruint_any (w : World) (b : Nat) (l : List (BitVec 8)) (bad : Bool) (hl : l.length ≤ 100000) (hbl : bad = true → l = []) (h : RdAt w b l bad) :
    Calls Try.prog 64 #[.pointer (some ⟨b, 0, none⟩)] w fun e w' => UintPost w b (rd bad l) e w' := by
  have hrd : rd bad l = rdU 10 0 0#64 l := by
    unfold rd
    cases bad with
    | false => rfl
    | true => rw [hbl rfl]; rfl
  generalize ho : rd bad l = o
  have HO : Hid (o = rdU 10 0 0#64 l) := by show _ = _; rw [← ho, hrd]
  have HR := Lib.hid h
  obtain ⟨hlt, ⟨v, hv, hs⟩, hf, hfr, hnb⟩ := h
  have HS := Lib.hid hs
  obtain ⟨ad, cap, rfl, hca, hcell⟩ := hs
  have hf0 := hfr 0
  have HCA := Lib.hid hca
  have HCE := Lib.hid hcell
  have HNB := Lib.hid hnb
  have HBL := Lib.hid hbl
  have HFR := Lib.hid hfr
  clear ho hrd hcell hnb hfr hbl hca
  go_enter Try.func64, Try.ntmps64
  go_wp2
  go_loop [4, 5] (fun acc i => ∃ (k : Nat) (x : BitVec 64), k ≤ 10 ∧ k ≤ l.length ∧ i = .int .i64 k ∧ acc = .int .u64 (un x) ∧ o = rdU (10 - k) k x (l.drop k) ∧ (k ≤ 9 → x.toNat < 2 ^ (7 * k))) (fun _ i => 10 - (intOf i).toNat)
  case atStart => exact ⟨0, 0#64, by omega, by omega, rfl, rfl, HO.out, fun _ => by decide⟩
  case round =>
    obtain ⟨k, x, hk, hkl, rfl, rfl, hrd, hx⟩ := hrel
    have HD := Lib.hid hrd
    have HX := Lib.hid hx
    clear hrd hx
    by_cases hlt2 : k < l.length
    · have hb : bad = false := by
        cases bad with
        | false => rfl
        | true => have := HBL.out rfl; rw [this] at hlt2; simp at hlt2
      subst hb
      have hfin : ∃ g off, ad = some ⟨g, off, none⟩ ∧ w.cell? ⟨g, off + k, none⟩ = some (encB (l[k]'hlt2)) ∧ g < w.heap.size ∧ ∀ v' : Value, (v' = .slice (some ⟨g, off + (k + 1), none⟩) (l.length - (k + 1)) (cap - (k + 1)) ∨ cap = k + 1 ∧ v' = .slice (some ⟨g, off, none⟩) (l.length - (k + 1)) 0) → After w (w.setCell ⟨b, 0, none⟩ v') b (l.drop (k + 1)) false := by
        rcases HCE.out with ⟨h1, _⟩ | ⟨g, off, h1, h2, h3⟩
        · rw [h1] at hlt2; simp at hlt2
        · subst h1
          refine ⟨g, off, rfl, h3 k hlt2, h2, fun v' hv' => ⟨?_, turn_set _ _ _ _⟩⟩
          have hx : SliceAt encB w v' (l.drop (k + 1)) := by
            rcases hv' with rfl | ⟨hc, rfl⟩
            · exact HS.out.drop (k + 1) hlt2
            · exact HS.out.drop_all (k + 1) hlt2 hc
          refine ⟨by simpa using hlt, ⟨v', set_same hv, hx.set hv slice_ne⟩, ?_, fun j => by simpa using HFR.out j, nb_set HNB.out hv hx.ne⟩
          rw [set_off (by decide)]; exact hf
      obtain ⟨g, off, rfl, hcg, hg, hfin⟩ := hfin
      have HFin := Lib.hid hfin
      have hdr : Hid (l.drop k = l[k]'hlt2 :: l.drop (k + 1)) := List.drop_eq_getElem_cons hlt2
      generalize l[k]'hlt2 = c at *
      have hkc : (k : Int) + 1 ≤ (cap : Int) := by have := HCA.out; omega
      have HD : Hid (o = rdU (10 - k) k x (c :: l.drop (k + 1))) := by rw [← hdr.out]; exact HD.out
      have hk10 : k < 10 ∨ k = 10 := by omega
      clear hfin
      rcases hk10 with hlt10 | h10
      · have hcb := ub_bound c
        have hcn : ub c = (c.toNat : Int) := rfl
        have hc0 : c = 0#8 ↔ ub c = 0 := ⟨fun h => by rw [h]; rfl, fun h => ub_inj h⟩
        have hl7 := low7 c
        have hsh := shl_un (Crc.reg c &&& 127#64) (7 * k)
        have hor := add_or x (Crc.reg c &&& 127#64) k (by omega) (HX.out (by omega))
        have hob := un_bound (x ||| (Crc.reg c &&& 127#64) <<< (7 * k))
        have HL7 := Lib.hid hl7
        have HC0 := Lib.hid hc0
        have HCN := Lib.hid hcn
        rw [hl7] at hsh
        clear hl7 hc0 hcn
        generalize hn : ub c = n at *
        by_cases h9 : k = 9
        · have H9 := Lib.hid h9
          have hd : ((k : Int) == 9) = true := by rw [beq_iff_eq]; omega
          have hk0 : (0 : Int) < (k : Int) := by omega
          clear h9
          by_cases h1 : 1 < n
          · go_wp2_with (go_at_call 71; refine (rfail_any _ _ _ _ HR.out).mono ?_; rintro e w2 ⟨rfl, rfl⟩)
            go_ret2
            exact uintPost_none (HD.out.trans (rdU_big H9.out (by have := HCN.out; omega))) rfl ⟨HR.out.failed, turn_fail _ _⟩
          · by_cases h0 : n = 0
            · have H0 := Lib.hid h0
              have hq : (n == 0) = true := by rw [beq_iff_eq]; exact h0
              have hz128 : n < 128 := by omega
              clear h0
              go_wp2_with (go_at_call 71; refine (rfail_any _ _ _ _ HR.out).mono ?_; rintro e w2 ⟨rfl, rfl⟩)
              go_ret2
              exact uintPost_none (HD.out.trans (rdU_zero hlt10 (HC0.out.2 H0.out) (by omega))) rfl ⟨HR.out.failed, turn_fail _ _⟩
            · have H0 := Lib.hid h0
              have hq : (n == 0) = false := by rw [beq_eq_false_iff_ne]; exact h0
              have hz128 : n < 128 := by omega
              clear h0
              go_wp2
              all_goals
                go_ret2
                first
                  | exact uintPost_some (HD.out.trans (rdU_end hlt10 (by rintro ⟨_, h⟩; have := HCN.out; omega) (by have := HCN.out; omega) (by rintro ⟨h, _⟩; exact H0.out (HC0.out.1 h)))) rfl (HFin.out _ (.inl rfl))
                  | exact uintPost_some (HD.out.trans (rdU_end hlt10 (by rintro ⟨_, h⟩; have := HCN.out; omega) (by have := HCN.out; omega) (by rintro ⟨h, _⟩; exact H0.out (HC0.out.1 h)))) rfl (HFin.out _ (.inr ⟨by omega, rfl⟩))
        · have H9 := Lib.hid h9
          have hd : ((k : Int) == 9) = false := by rw [beq_eq_false_iff_ne]; omega
          clear h9
          by_cases h128 : n < 128
          · by_cases h0 : n = 0
            · have H0 := Lib.hid h0
              have hq : (n == 0) = true := by rw [beq_iff_eq]; exact h0
              have hz128 : n < 128 := by omega
              clear h0
              by_cases hk0 : 0 < k
              · go_wp2_with (go_at_call 71; refine (rfail_any _ _ _ _ HR.out).mono ?_; rintro e w2 ⟨rfl, rfl⟩)
                go_ret2
                exact uintPost_none (HD.out.trans (rdU_zero hlt10 (HC0.out.2 H0.out) hk0)) rfl ⟨HR.out.failed, turn_fail _ _⟩
              · have HK := Lib.hid hk0
                go_wp2
                all_goals
                  go_ret2
                  first
                    | exact uintPost_some (HD.out.trans (rdU_end hlt10 (fun h => H9.out h.1) (by have := HCN.out; omega) (fun h => HK.out h.2))) rfl (HFin.out _ (.inl rfl))
                    | exact uintPost_some (HD.out.trans (rdU_end hlt10 (fun h => H9.out h.1) (by have := HCN.out; omega) (fun h => HK.out h.2))) rfl (HFin.out _ (.inr ⟨by omega, rfl⟩))
            · have H0 := Lib.hid h0
              have hq : (n == 0) = false := by rw [beq_eq_false_iff_ne]; exact h0
              have hz128 : n < 128 := by omega
              clear h0
              go_wp2
              all_goals
                go_ret2
                first
                  | exact uintPost_some (HD.out.trans (rdU_end hlt10 (fun h => H9.out h.1) (by have := HCN.out; omega) (fun h => H0.out (HC0.out.1 h.1)))) rfl (HFin.out _ (.inl rfl))
                  | exact uintPost_some (HD.out.trans (rdU_end hlt10 (fun h => H9.out h.1) (by have := HCN.out; omega) (fun h => H0.out (HC0.out.1 h.1)))) rfl (HFin.out _ (.inr ⟨by omega, rfl⟩))
          · go_wp2
            go_round
            case rel => exact ⟨k + 1, _, by omega, by omega, by go_num, rfl, HD.out.trans (rdU_next hlt10 H9.out (by have := HCN.out; omega)), fun hk9 => or_lt _ _ _ (by omega) (HX.out (by omega)) (by have := HL7.out; unfold un at this; omega)⟩
            case measure => simp [intOf]; omega
      · subst h10
        go_wp2_with (go_at_call 71; refine (rfail_any _ _ _ _ HR.out).mono ?_; rintro e w2 ⟨rfl, rfl⟩)
        go_ret2
        exact uintPost_none HD.out rfl ⟨HR.out.failed, turn_fail _ _⟩
    · have hkl' : k = l.length := by omega
      have hno : Hid (o = none) := by
        show _ = _
        rw [HD.out, List.drop_eq_nil_of_le (by omega)]
        rcases (show k = 10 ∨ k < 10 by omega) with h | h
        · rw [h]; rfl
        · rw [show 10 - k = (9 - k) + 1 by omega]; rfl
      clear hkl'
      go_wp2_with (go_at_call 71; refine (rfail_any _ _ _ _ HR.out).mono ?_; rintro e w2 ⟨rfl, rfl⟩)
      go_ret2
      exact uintPost_none hno.out rfl ⟨HR.out.failed, turn_fail _ _⟩
end Go.Proofs.Ythjcdikpomlpmaa
