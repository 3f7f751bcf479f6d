/-
  Chapter 31 (election): mapped and lowest.
-/
import Derived.Test.YtpmbbeflgifgaaaElB
namespace Go.Proofs.Ytpmbbeflgifgaaa
open Go.RowKit
set_option linter.unusedVariables false

set_option maxRecDepth 100000 in
set_option maxHeartbeats 1000000 in
theorem mapped_any (vl vs : Value) (ls : List LD) (s : List Nat) (g : Nat) (w : World) (hn : ls.length ≤ 1000) (hls : s.length ≤ 1000) (hi : ∀ i, i ∈ s → i < ls.length ∧ 0 ≤ (ldN ls i).1.disk) (h : LabsAt w vl ls) (hs : SliceAt encN w vs s) (hc : w.cell? ⟨g, 0, none⟩ = some vl) (hg : g < w.heap.size) :
    Calls Try.prog 42 #[vs, .func (.func 43) #[] #[.pointer (some ⟨g, 0, none⟩)]] w fun e w' => ∃ v, e = .returned v ∧ OwnG encN 3 w' w.heap.size v (s.map (diskN ls)) ∧ Below w.heap.size w w' := by
  obtain ⟨j0, hj, hj0, hj1, hj2⟩ := info_parts infoI
  obtain ⟨ad, cap, rfl⟩ := hs.shape
  have HL := Lib.hid h
  have HS := Lib.hid hs
  have HC := Lib.hid hc
  have HI := Lib.hid hi
  obtain ⟨n, hnn⟩ : ∃ n, s.length = n := ⟨_, rfl⟩
  have HN := Lib.hid hnn
  rw [hnn] at HS hls ⊢
  clear h hs hc hi hnn
  go_enter Try.func42, Try.ntmps42
  go_wp2_with fail
  go_loopw [5, 10] (fun vt it wr => ∃ i : Nat, i ≤ n ∧ it = .int .i64 i ∧ Hid (OwnG encN 3 wr w.heap.size vt ((s.take i).map (diskN ls))) ∧ Hid (Ext w wr)) (fun _ it _ => n - (intOf it).toNat)
  case atStart => exact ⟨0, Nat.zero_le _, rfl, Lib.hid OwnG.nil, Lib.hid (Ext.refl _)⟩
  case round =>
    obtain ⟨i, hi, rfl, HO, HX⟩ := hrel
    by_cases hlt : i < n
    · have hin : (i : Int) < (n : Int) := by omega
      have hil : i < s.length := by rw [HN.out]; exact hlt
      obtain ⟨b, off, rfl, hb, hc⟩ := (HS.out.ext HX.out).get i hil
      have hlen : ((s.take i).map (diskN ls)).length = i := by rw [List.length_map, List.length_take]; omega
      have HT : Hid ((s.take (i + 1)).map (diskN ls) = (s.take i).map (diskN ls) ++ [diskN ls s[i]]) := by
        show _ = _
        rw [List.take_succ_eq_append_getElem hil, List.map_append]; rfl
      have hq := HI.out s[i] (List.getElem_mem hil)
      generalize s[i] = y at *
      generalize (s.take i).map (diskN ls) = L at *
      obtain ⟨hq1, hq2⟩ := hq
      have HLEN := Lib.hid hlen
      obtain ⟨av, cv, rfl⟩ := HO.out.shape
      rw [hlen] at HO ⊢
      clear hlen
      go_wp2_with fail
      refine (lowest1_any vl ls g y _ (by omega) hq1 hq2 (HL.out.ext HX.out) ((HX.out.cell _ _ hg).trans HC.out) (Nat.lt_of_lt_of_le hg HX.out.size)).mono ?_
      rintro e w2 ⟨rfl, rfl⟩
      generalize diskN ls y = dk at *
      go_wp2_with (at_builtin; refine Classical.byContradiction (fun hN => ?_))
      refine hN ?_
      clear hN
      have e1 : Ext wr (wr.alloc (.cells #[.int .i64 dk] 3)) := Ext.alloc _ _
      have hown := HO.out.ext e1
      have hsz := HX.out.size
      refine wpList_append_one rfl _ _ _ rfl w.heap.size 3 j0 (.int .i64 0) 8 Try.underlying33 hj hj0 hj1 hj2 rfl _ _ _ rfl hown _ (encN dk) rfl rfl (cell_new1 _ _ _) (by rw [HLEN.out]; unfold maxLen; omega) (by rw [HLEN.out]; omega) (by simp; omega) ?_
      intro v6 w6 ho6 hg6 _
      have HO6 : Hid (OwnG encN 3 w6 w.heap.size v6 ((s.take (i + 1)).map (diskN ls))) := by
        show OwnG _ _ _ _ _ _
        rw [HT.out]
        exact OwnG.snoc (enc := encN) (x := dk) ho6
      have HX6 : Hid (Ext w w6) := (HX.out.trans e1).grown hg6 (by simp; omega) (fun q hq => (hown.lt q hq).1)
      clear ho6 hg6 hown e1
      go_wp2
      go_roundw
      case rel => exact ⟨i + 1, by omega, by go_num, HO6, HX6⟩
      case measure => simp [intOf]; omega
    · have hin : i = n := by omega
      subst hin
      have hin2 : ¬ ((i : Int) < (i : Int)) := by omega
      go_wp2_with fail
      rw [show s.take i = s by rw [← HN.out, List.take_length]] at HO
      refine bodyPost_ret ?_ rfl ⟨_, rfl, HO.out, HX.out⟩
      simp only [results, Try.results42]
      go_simp

set_option maxRecDepth 100000 in
set_option maxHeartbeats 1000000 in
theorem lowest_any (vl vs : Value) (ls : List LD) (s : List Nat) (w : World) (hn : ls.length ≤ 1000) (hls : s.length ≤ 1000) (h0 : 0 < s.length) (hi : ∀ i, i ∈ s → i < ls.length ∧ 0 ≤ (ldN ls i).1.disk) (h : LabsAt w vl ls) (hs : SliceAt encN w vs s) :
    Calls Try.prog 33 #[vl, vs] w (NatEnd w (El.lowG (diskN ls) s)) := by
  obtain ⟨ad, cap, rfl⟩ := hs.shape
  obtain ⟨al, cl, rfl⟩ := h.shape
  have HL := Lib.hid h
  have HS := Lib.hid hs
  have HI := Lib.hid hi
  rw [← minL_map]
  obtain ⟨R, hR⟩ : ∃ R, minL (s.map (diskN ls)) = R := ⟨_, rfl⟩
  have HR := Lib.hid hR
  rw [hR]
  obtain ⟨n, hnn⟩ : ∃ n, s.length = n := ⟨_, rfl⟩
  have HN := Lib.hid hnn
  rw [hnn] at HS ⊢
  clear h hs hi hR
  go_enter Try.func33, Try.ntmps33
  go_wp2_with fail
  go_at_call 42
  refine (mapped_any _ _ ls s w.heap.size _ hn hls HI.out (HL.out.ext (Ext.alloc _ _)) (HS.out.ext (Ext.alloc _ _)) (cell_new1 _ _ _) (by simp)).mono ?_
  rintro e w2 ⟨v, rfl, ho, hb⟩
  have HX2 : Hid (Ext w w2) := (Ext.alloc _ _).trans hb
  obtain ⟨a2, c2, rfl⟩ := ho.shape
  have HO := Lib.hid ho
  rw [List.length_map] at HO ⊢
  rw [HN.out] at HO ⊢
  clear hb ho
  go_wp2_with fail
  go_at_call 41
  refine (min_any _ _ _ (by rw [List.length_map]; omega) (by rw [List.length_map]; exact h0) HO.out.slice).mono ?_
  rintro e w3 ⟨rfl, hb3⟩
  have HX3 : Hid (Ext w w3) := HX2.out.trans hb3
  rw [HR.out]
  clear hb3
  go_wp2_with fail
  go_ret
  exact ⟨rfl, HX3.out⟩
end Go.Proofs.Ytpmbbeflgifgaaa
