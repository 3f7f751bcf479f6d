/-
  Part 10 of the proof.
-/
import Derived.Test.YtjabgpejmnpamaaGreatDoorY09
set_option linter.unusedVariables false
namespace Go.Proofs.YtjabgpejmnpamaaGreatDoor
open Go.RowKit
attribute [local go_sem] wrap8_un
theorem le_snoc (k : Nat) (x : BitVec 64) : le (k + 1) x = le k x ++ [(x >>> (8 * k)).setWidth 8] := by
  induction k generalizing x with
  | zero => simp [le]
  | succ k ih =>
    rw [le, ih (x >>> 8), le, ← BitVec.shiftRight_add, show 8 + 8 * k = 8 * (k + 1) by omega]
    simp
structure BufAt (B g : Nat) (l : List (BitVec 8)) (w0 w : World) : Prop where
  at_ : ∃ vb, BoxAt w g #[vb] 47 ∧ OwnG encB 5 w B vb l
  bl : Below B w0 w
set_option maxHeartbeats 800000 in
theorem cput_any (B g : Nat) (l : List (BitVec 8)) (x : BitVec 64) (m : Nat) (w0 w : World) (hm : m ≤ 8) (hl : l.length ≤ 100000) (hB : B ≤ g) (h : BufAt B g l w0 w) :
    Calls Tryz.prog 44 #[encU x, .int .i64 m, .pointer (some ⟨g, 0, none⟩)] w fun e w' => e = .returned (.tuple #[]) ∧ BufAt B g (l ++ le m x) w0 w' := by
  obtain ⟨i0, hi, hi0, hi1, hi2⟩ := info_parts rpinfoB
  have HB := Lib.hid h
  clear h
  go_enter Tryz.func44, Tryz.ntmps44
  go_wp2_with fail
  go_loopw [7] (fun i wr => ∃ k : Nat, k ≤ m ∧ i = .int .i64 k ∧ BufAt B g (l ++ le k x) w0 wr) (fun i _ => m - (intOf i).toNat)
  case atStart => exact ⟨0, by omega, rfl, by rw [le, List.append_nil]; exact HB.out⟩
  case round =>
    obtain ⟨k, hk, rfl, hr⟩ := hrel
    have HR := Lib.hid hr
    clear hr
    by_cases hlt : k < m
    · obtain ⟨vb, hbx, ho⟩ := HR.out.at_
      have HBX := Lib.hid hbx
      have HO := Lib.hid ho
      obtain ⟨av, cv, hv⟩ := ho.shape
      have HLE : Hid ((l ++ le k x).length = l.length + k) := by show _ = _; rw [List.length_append, le_length]
      rw [HLE.out] at hv
      subst hv
      have hgl := hbx.lt
      have hc0 := hbx.cell 0 rfl
      have hf0 := hbx.free 0
      have hsh := shr_un x (8 * k)
      have hn8 : (8 * (k : Int)).toNat = 8 * k := by omega
      have hBs := HR.out.bl.size
      have hBw : B ≤ wr.heap.size := by omega
      clear hbx ho
      go_wp2_with fail
      refine wp_region_fix (fun x => x.cell? ⟨g, 0, none⟩ = some (.slice av (l.length + k) cv)) [(0, true), (1, true), (2, true), (3, true), (4, true), (5, true), (6, false), (7, false), (8, false)] (by kernel_rfl) (by kernel_rfl) ?_ ?_
      · exact hc0
      iterate 6 ((first
       | refine fix_move rfl rfl (by rfl) (by rfl) ?_
       | (apply fix_take rfl (by rfl)
          · intro w' hSc
            go_simp
            (try simp (disch := omega) only [i64_id])
            try rfl)
       | refine fix_pass rfl (by rfl) ?_); simp only [Act.put, setZa, setZ0, setZ1])
      have hgd : g < wr.drew.heap.size := hgl
      (refine fix_do rfl (by rfl) (fun K hK => ?_)
       go_simp
       refine hK _ _ (((Ext.alloc wr _).cell g 0 hgl).trans hc0) ?_
       clear hK K
       (try simp only [Act.put, setZa, setZ0, setZ1]))
      have HX1 : Hid (Ext wr (wr.alloc (.cells #[encB ((x >>> (8 * k)).setWidth 8)] 5)).drew) := (Ext.alloc _ _).trans (Ext.drew _)
      (refine fix_do rfl (by rfl) (fun K hK => ?_)
       refine wp_of_list rfl ?_
       refine wpList_append_one rfl _ _ _ rfl B 5 i0 (.int .u8 0) 1 Tryz.underlying47 hi hi0 hi1 hi2 rfl _ _ _ rfl (HO.out.ext HX1.out) _ _ rfl rfl (cell_new1 wr _ _) (by rw [HLE.out]; unfold maxLen; omega) (by rw [HLE.out]; omega) (Nat.le_trans hBw HX1.out.size) ?_
       intro v4 w4 ho4 hg4 hat4
       have HO4 : Hid (OwnG encB 5 w4 B v4 (l ++ le k x ++ [(x >>> (8 * k)).setWidth 8])) := OwnG.snoc (enc := encB) ho4
       have hne := HO.out.not_box HBX.out (by decide)
       have HBX4 := Lib.hid ((HBX.out.ext HX1.out).grown hg4 (fun e => hne e.symm))
       have HBL4 : Hid (Below B w0 w4) := (HR.out.bl.trans (Below.mono HX1.out hBw)).grown hg4 (Nat.le_trans hBw HX1.out.size) (fun q hq => (HO.out.lt q hq).1)
       refine hK _ _ (HBX4.out.cell 0 rfl) ?_
       clear hK K ho4 hg4 hat4 hne
       (try simp only [Act.put, setZa, setZ0, setZ1]))
      obtain ⟨a4, c4, e4⟩ := HO4.out.shape
      rw [show (l ++ le k x ++ [(x >>> (8 * k)).setWidth 8]).length = l.length + k + 1 by rw [List.length_append, HLE.out]; rfl] at e4
      subst e4
      have hc4 := HBX4.out.cell 0 rfl
      have hf4 := HBX4.out.free 0
      (refine fix_last rfl (by rfl) (by kernel_rfl) (fun K hK => ?_)
       go_simp
       refine hK _ _ ?_
       clear hK K
       (try simp only [Act.put, setZa, setZ0, setZ1]))
      have HN : Hid (BufAt B g (l ++ le (k + 1) x) w0 (w4.setCell ⟨g, 0, none⟩ (.slice a4 (l.length + k + 1) c4))) :=
        ⟨⟨_, HBX4.out.set 0 _, by rw [le_snoc, ← List.append_assoc]; exact HO4.out.off (HO4.out.not_box HBX4.out (by decide)) _ _⟩, bel_set HBL4.out hB _ _⟩
      go_wp2
      go_roundw
      case rel => exact ⟨k + 1, by omega, by go_num, HN.out⟩
      case measure => show m - (intOf (.int .i64 ((k : Int) + 1))).toNat < m - (intOf (.int .i64 (k : Int))).toNat; unfold intOf; simp only; omega
    · have hkm : k = m := by omega
      subst hkm
      go_wp2_with fail
      go_end0
      exact ⟨rfl, HR.out⟩
set_option maxRecDepth 100000 in
set_option maxHeartbeats 800000 in
theorem chunks_any (gen : BitVec 64) (v : Value) (l : List (BitVec 8)) (w : World) (hl : l.length ≤ 1048576) (h : SliceAt encB w v l) :
    Calls Tryz.prog 15 #[v, encU gen] w (ChunksEnd w gen l) := by
  obtain ⟨i0, hi, hi0, hi1, hi2⟩ := info_parts rpinfoS
  obtain ⟨j0, hj, hj0, hj1, hj2⟩ := info_parts rpinfoB
  have HS := Lib.hid h
  obtain ⟨ad, cap, rfl, hca, _⟩ := h
  obtain ⟨n, hn⟩ : ∃ n, l.length = n := ⟨_, rfl⟩
  obtain ⟨m, hm⟩ : ∃ m, numL n = m := ⟨_, rfl⟩
  have hm1 : 1 ≤ m := by rw [← hm]; unfold numL; omega
  have hm2 : 32 * (m - 1) ≤ n := by rw [← hm]; unfold numL; omega
  have hm3 : m ≤ 32768 := by rw [← hm]; unfold numL; omega
  have hm4 : n ≤ 32 * m := by rw [← hm]; unfold numL; omega
  have hMax := fun (w : World) (ts : Array TypeId) (t : TypeId) => run_max2 (P := Tryz.prog) w ts t 1 (((n : Int) + 32 - 1) / 32)
  rw [show max (1 : Int) (((n : Int) + 32 - 1) / 32) = (m : Int) by rw [← hm]; unfold numL; omega] at hMax
  have HN := Lib.hid hn
  have HM := Lib.hid hm
  rw [hn] at HS hca hl ⊢
  have hbig : decide ((1048576 : Int) < (n : Int)) = false := by rw [decide_eq_false_iff_not]; omega
  have hn9 : n ≤ 2000000 := by omega
  clear hn hm hl
  go_enter Tryz.func15, Tryz.ntmps15
  go_wp2_with fail
  go_loopw [22, 7] (fun i vo wr => ∃ k : Nat, k ≤ m ∧ i = .int .i64 k ∧ rpOwnL wr w.heap.size vo (chunksK gen l k) ∧ Below w.heap.size w wr) (fun i _ _ => m - (intOf i).toNat)
  case atStart => exact ⟨0, by omega, rfl, rpOwnL.nil _ _, Below.refl _ _⟩
  case round =>
    obtain ⟨k, hk, rfl, ho, hx⟩ := hrel
    obtain ⟨ao, co, hvo⟩ := ho.shape
    rw [chunksK_len] at hvo
    subst hvo
    have HO := Lib.hid ho
    have hsx := hx.size
    clear ho
    by_cases hlt : k < m
    · have hlo : 32 * k ≤ n := by omega
      obtain ⟨hi_, hhi⟩ : ∃ hi_, min (32 * k + 32) n = hi_ := ⟨_, rfl⟩
      have hMin1 := fun (w : World) (ts : Array TypeId) (t : TypeId) => rprun_min2 (P := Tryz.prog) w ts t ((k : Int) * 32) (n : Int)
      rw [show min ((k : Int) * 32) (n : Int) = (k : Int) * 32 by omega] at hMin1
      have hMin2 := fun (w : World) (ts : Array TypeId) (t : TypeId) => rprun_min2 (P := Tryz.prog) w ts t (((k : Int) + 1) * 32) (n : Int)
      rw [show min (((k : Int) + 1) * 32) (n : Int) = (hi_ : Int) by omega] at hMin2
      have hb1 : k * 32 ≤ hi_ := by omega
      have hb2 : hi_ ≤ n := by omega
      have n1 : ((k : Int) * 32).toNat = k * 32 := by omega
      obtain ⟨A, hA, HC⟩ := HS.out.cutA (k * 32) hi_ hb1 (by rw [HN.out]; exact hb2)
      have HCE : Hid ((l.drop (k * 32)).take (hi_ - k * 32) = chunkL l k) := by
        show _ = _; unfold chunkL
        rw [Nat.mul_comm 32 k]
        rcases Nat.le_total (32 * k + 32) n with h' | h'
        · rw [show hi_ - k * 32 = 32 by omega]
        · rw [List.take_of_length_le (by rw [List.length_drop, HN.out]; omega), List.take_of_length_le (by rw [List.length_drop, HN.out]; omega)]
      rw [HCE.out] at HC
      have HC := Lib.hid HC
      clear hhi
      have hwk : IntKind.u64.wrap (k : Int) = un (BitVec.ofNat 64 k) := by unfold un; simp only [IntKind.wrap, IntKind.bits, IntKind.signed]; simp
      have hwm : IntKind.u64.wrap (m : Int) = un (BitVec.ofNat 64 m) := by unfold un; simp only [IntKind.wrap, IntKind.bits, IntKind.signed]; simp
      have HCL : Hid (hi_ - k * 32 = (chunkL l k).length) := by
        obtain ⟨_, _, e, _⟩ := HC.out
        injection e with _ e _
      have hcl32 : (chunkL l k).length ≤ 32 := chunkL_len l k
      have HBODY : Hid ([] ++ le 8 gen ++ le 4 (BitVec.ofNat 64 k) ++ le 4 (BitVec.ofNat 64 m) ++ le 1 (BitVec.ofNat 64 (chunkL l k).length) ++ chunkL l k = rpbodyL gen (BitVec.ofNat 64 k) (BitVec.ofNat 64 m) (chunkL l k)) := by
        show _ = _; unfold rpbodyL; simp [le]
      have hwc : IntKind.u64.wrap ((chunkL l k).length : Int) = un (BitVec.ofNat 64 (chunkL l k).length) := by unfold un; simp only [IntKind.wrap, IntKind.bits, IntKind.signed]; simp
      have hcne := HCL.out
      rw [hcne] at HC
      go_wp2_with fail
      have HP0 : Hid (BufAt wr.heap.size wr.heap.size [] wr (wr.alloc (.cells #[.slice none 0 0] 47))) := ⟨⟨_, BoxAt.new _ _ _, OwnG.nil⟩, (Below.refl _ _).alloc (Nat.le_refl _) _⟩
      generalize wr.alloc (.cells #[.slice none 0 0] 47) = w0 at *
      go_at_call 44
      refine (cput_any wr.heap.size wr.heap.size ([]) gen 8 wr _ (by omega) (by simp <;> omega) (Nat.le_refl _) HP0.out).mono ?_
      rintro e w1 ⟨rfl, hp1⟩
      have HP1 := Lib.hid hp1
      clear hp1
      go_wp2_with fail
      go_at_call 44
      refine (cput_any wr.heap.size wr.heap.size ([] ++ le 8 gen) (BitVec.ofNat 64 k) 4 wr _ (by omega) (by simp [le_length] <;> omega) (Nat.le_refl _) HP1.out).mono ?_
      rintro e w2 ⟨rfl, hp2⟩
      have HP2 := Lib.hid hp2
      clear hp2
      go_wp2_with fail
      go_at_call 44
      refine (cput_any wr.heap.size wr.heap.size ([] ++ le 8 gen ++ le 4 (BitVec.ofNat 64 k)) (BitVec.ofNat 64 m) 4 wr _ (by omega) (by simp [le_length] <;> omega) (Nat.le_refl _) HP2.out).mono ?_
      rintro e w3 ⟨rfl, hp3⟩
      have HP3 := Lib.hid hp3
      clear hp3
      go_wp2_with fail
      go_at_call 44
      refine (cput_any wr.heap.size wr.heap.size ([] ++ le 8 gen ++ le 4 (BitVec.ofNat 64 k) ++ le 4 (BitVec.ofNat 64 m)) (BitVec.ofNat 64 (chunkL l k).length) 1 wr _ (by omega) (by simp [le_length] <;> omega) (Nat.le_refl _) HP3.out).mono ?_
      rintro e w4 ⟨rfl, hp4⟩
      have HP4 := Lib.hid hp4
      obtain ⟨v4, hbx4, ho4⟩ := hp4.at_
      have HBX4 := Lib.hid hbx4
      have HO4 := Lib.hid ho4
      have hlen4 : Hid (([] ++ le 8 gen ++ le 4 (BitVec.ofNat 64 k) ++ le 4 (BitVec.ofNat 64 m) ++ le 1 (BitVec.ofNat 64 (chunkL l k).length)).length = 17) := by show _ = _; simp [le_length]
      obtain ⟨a4, c4, e4⟩ := ho4.shape
      rw [hlen4.out] at e4
      subst e4
      have hd0 := hbx4.cell 0 rfl
      have hgl4 := hbx4.lt
      have HX4 := Lib.hid hp4.bl
      clear hp4 hbx4 ho4
      go_wp2_with (at_builtin; refine Classical.byContradiction (fun hN => ?_))
      refine hN ?_
      clear hN
      refine wpList_append_slice (enc := encB) (fun _ => rfl) rfl _ _ _ rfl wr.heap.size 5 j0 (.int .u8 0) 1 Tryz.underlying47 hj hj0 hj1 hj2 rfl _ _ _ rfl HO4.out _ (chunkL l k) rfl (SliceAt.ext HC.out (Ext.trans hx HX4.out)) (by rw [hlen4.out]; unfold maxLen; omega) (by rw [hlen4.out]; omega) (by omega) ?_
      intro v5 w5 ho5 hg5
      have HO5 : Hid (OwnG encB 5 w5 wr.heap.size v5 (rpbodyL gen (BitVec.ofNat 64 k) (BitVec.ofNat 64 m) (chunkL l k))) := by
        have := OwnG.app (enc := encB) ho5
        rw [HBODY.out] at this
        exact this
      have hne4 := HO4.out.not_box HBX4.out (by decide)
      have HBX5 := Lib.hid (HBX4.out.grown hg5 (fun e => hne4 e.symm))
      have HX5 : Hid (Below wr.heap.size wr w5) := Below.grown HX4.out hg5 (by omega) (fun q hq => (HO4.out.lt q hq).1)
      have HLB : Hid ((rpbodyL gen (BitVec.ofNat 64 k) (BitVec.ofNat 64 m) (chunkL l k)).length = 17 + (chunkL l k).length) := bodyL_len _ _ _ _
      obtain ⟨a5, c5, e5⟩ := HO5.out.shape
      rw [HLB.out] at e5
      subst e5
      have hd5 := HBX5.out.cell 0 rfl
      have hf5 := HBX5.out.free 0
      have hgl5 := HBX5.out.lt
      clear ho5 hg5 hne4 hd0
      go_wp2_with fail
      have HP6 : Hid (BufAt wr.heap.size wr.heap.size (rpbodyL gen (BitVec.ofNat 64 k) (BitVec.ofNat 64 m) (chunkL l k)) wr (w5.setCell ⟨wr.heap.size, 0, none⟩ (.slice a5 (17 + (chunkL l k).length) c5))) :=
        ⟨⟨_, HBX5.out.set 0 _, HO5.out.off (HO5.out.not_box HBX5.out (by decide)) _ _⟩, bel_set HX5.out (Nat.le_refl _) _ _⟩
      have HS6 : Hid (SliceAt encB (w5.setCell ⟨wr.heap.size, 0, none⟩ (.slice a5 (17 + (chunkL l k).length) c5)) (.slice a5 (17 + (chunkL l k).length) c5) (rpbodyL gen (BitVec.ofNat 64 k) (BitVec.ofNat 64 m) (chunkL l k))) :=
        OwnG.slice (HO5.out.off (HO5.out.not_box HBX5.out (by decide)) _ _)
      generalize w5.setCell ⟨wr.heap.size, 0, none⟩ (.slice a5 (17 + (chunkL l k).length) c5) = w6 at *
      go_at_call 45
      refine (rpsum_as (Crc.sum (rpbodyL gen (BitVec.ofNat 64 k) (BitVec.ofNat 64 m) (chunkL l k))) _ _ _ rfl (by rw [HLB.out]; unfold maxLen; omega) HS6.out).mono ?_
      rintro e w7 ⟨rfl, rfl⟩
      go_wp2_with fail
      go_at_call 44
      refine (cput_any wr.heap.size wr.heap.size (rpbodyL gen (BitVec.ofNat 64 k) (BitVec.ofNat 64 m) (chunkL l k)) (Crc.sum (rpbodyL gen (BitVec.ofNat 64 k) (BitVec.ofNat 64 m) (chunkL l k))) 8 wr _ (by omega) (by rw [HLB.out]; omega) (Nat.le_refl _) HP6.out).mono ?_
      rintro e w8 ⟨rfl, hp8⟩
      obtain ⟨v8, hbx8, ho8⟩ := hp8.at_
      have HO8 : Hid (OwnG encB 5 w8 wr.heap.size v8 (rpsectorL gen (BitVec.ofNat 64 k) (BitVec.ofNat 64 m) (chunkL l k))) := ho8
      have HX8 := Lib.hid hp8.bl
      obtain ⟨a8, c8, e8⟩ := HO8.out.shape
      subst e8
      have hd8 := hbx8.cell 0 rfl
      have hgl8 := hbx8.lt
      clear hp8 hbx8 ho8 hd5 hf5
      obtain ⟨vs, hvs1, hvs2, hvs3⟩ := HO.out.ext HX8.out
      have HB8 : Hid (Below w.heap.size w w8) := hx.trans (Below.mono HX8.out hsx)
      have hlv : Hid (vs.length = k) := by show _ = _; rw [hvs2, chunksK_len]
      have HV1 := Lib.hid hvs1
      have HV2 := Lib.hid hvs2
      have HV3 := Lib.hid hvs3
      clear hvs1 hvs2 hvs3
      go_wp2_with (at_builtin; refine Classical.byContradiction (fun hN => ?_))
      refine hN ?_
      clear hN
      refine wpList_append_one rfl _ _ _ rfl w.heap.size 47 i0 (.slice none 0 0) 24 Tryz.underlying33 hi hi0 hi1 hi2 rfl _ _ _ rfl (World.ownsRow.alloc HV1.out _) _ _ rfl rfl (cell_new1 _ _ _) (by rw [hlv.out]; unfold maxLen; omega) (by rw [hlv.out]; omega) (by have := HB8.out.size; simp; omega) ?_
      intro v9 w9 ho9 hg9 hat9
      have HO9 := Lib.hid (rpOwnL.snoc vs (HV1.out.ext (Ext.alloc _ _)) HV2.out (fun i a b => (HV3.out i a b).ext (Ext.alloc _ _)) ((HO8.out.lower hsx).ext (Ext.alloc _ _)) ho9 hg9)
      have hb9 : Below w.heap.size w w9 := (HB8.out.alloc HB8.out.size _).grown hg9 (by have := HB8.out.size; simp; omega) (fun q hq => (HV1.out.lt q hq).1)
      clear ho9 hg9 hat9
      go_wp2
      go_roundw
      case rel => exact ⟨k + 1, by omega, by go_num, by rw [chunksK_succ, HN.out, HM.out]; exact HO9.out, hb9⟩
      case measure => show m - (intOf (.int .i64 ((k : Int) + 1))).toNat < m - (intOf (.int .i64 (k : Int))).toNat; unfold intOf; simp only; omega
    · have hkm : k = m := by omega
      subst hkm
      have HE : Hid (chunksK gen l k = chunksL gen l) := by show _ = _; unfold chunksL; rw [HN.out, HM.out]
      go_wp2_with fail
      go_ret2
      exact ⟨_, rfl, HE.out ▸ HO.out, hx⟩
end Go.Proofs.YtjabgpejmnpamaaGreatDoor
