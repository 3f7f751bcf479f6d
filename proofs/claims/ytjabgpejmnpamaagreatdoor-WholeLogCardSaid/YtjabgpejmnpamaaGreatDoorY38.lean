/-
  Part 38 of the proof.
-/
import Derived.Test.YtjabgpejmnpamaaGreatDoorY37
set_option linter.unusedVariables false
namespace Go.Proofs.YtjabgpejmnpamaaGreatDoor
open Go.RowKit
theorem RowsB.dropS {w : World} {b off n cap lo : Nat} {S : List (List (BitVec 8))} (h : RowsB w (.slice (some ⟨b, off, none⟩) n cap) S) (h1 : lo ≤ S.length) (h2 : lo < cap) : RowsB w (.slice (some ⟨b, off + lo, none⟩) (n - lo) (cap - lo)) (S.drop lo) := by
  obtain ⟨vs, h3, h4, h5⟩ := h
  refine ⟨vs.drop lo, h3.dropS (by omega) h2, by rw [List.length_drop, List.length_drop, h4], fun i a b => ?_⟩
  rw [List.getElem_drop, List.getElem_drop]
  rw [List.length_drop] at a b
  exact h5 (lo + i) (by omega) (by omega)
theorem offN_le {l : List Lg.Rec} : ∀ {c : Nat}, Lg.offN l c ≤ (Lg.secsL l).length := by
  intro c
  have e : Lg.secsL l = Lg.secsL (l.take c) ++ Lg.secsL (l.drop c) := by
    unfold Lg.secsL
    rw [← List.flatMap_append, List.take_append_drop]
  unfold Lg.offN
  rw [e, List.length_append]
  have : Lg.secsL (l.take c) ++ Lg.secsL (l.drop c) = Lg.secsL l := e.symm
  simp
def ScanEnd (w : World) (l : List Lg.Rec) (k : Nat) (e : Ending) (w' : World) : Prop :=
  ∃ (v' : Value) (c : Nat) (n : Int), e = .returned (.tuple #[v', .int .i64 n]) ∧ c ≤ l.length ∧ ((Lg.secsL l).length ≤ k → c = l.length) ∧ LogB w.heap.size w'.heap.size w' v' (l.take c) ∧ Ext w w'
set_option maxRecDepth 100000 in
set_option maxHeartbeats 3000000 in
theorem scan_any (gen : BitVec 64) (l : List Lg.Rec) (k : Nat) (v : Value) (w : World) (hok : LogOk gen l) (hB : ∀ i (h : i < l.length), Lg.Blk l[i]) (h : RowsB w v ((Lg.secsL l).take k)) :
    Calls Tryz.prog 16 #[v, encU gen] w (ScanEnd w l k) := by
  obtain ⟨n, hn⟩ : ∃ n, l.length = n := ⟨_, rfl⟩
  have HN := Lib.hid hn
  have HOK := Lib.hid hok
  have HBK := Lib.hid hB
  have hn6 : n ≤ 6 := by rw [← hn]; exact hok.1
  have HPL : Hid (∀ i (hi : i < l.length), 1 ≤ (Lg.secsR l[i]).length ∧ (Lg.secsR l[i]).length ≤ 193) := fun i hi => by
    rw [Lg.secs_len]
    exact Lg.parts_len (Lg.fine_of (hok.2 i hi).1) (hB i hi)
  have hTl : (Lg.secsL l).length ≤ 1158 := by
    have := secsL_len (l := l) (fun i hi => (HPL.out i hi).2) l.length (Nat.le_refl _)
    rw [List.take_length] at this; omega
  obtain ⟨T, hT⟩ : ∃ T, (Lg.secsL l).length = T := ⟨_, rfl⟩
  have HT := Lib.hid hT
  obtain ⟨A, hA⟩ : ∃ A, (Lg.secsL l).take k = A := ⟨_, rfl⟩
  have HA := Lib.hid hA
  obtain ⟨m, hm⟩ : ∃ m, A.length = m := ⟨_, rfl⟩
  have HM := Lib.hid hm
  have hmk : m = min k T := by rw [← hm, ← hA, List.length_take, hT]
  rw [hA] at h
  obtain ⟨ad, cap, rfl, hcap⟩ := h.shape
  have HS := Lib.hid h
  have HAL : Hid (∀ s, s ∈ A → s.length ≤ 1000) := fun s hs => by
    rw [← hA] at hs
    have hs2 := List.mem_of_mem_take hs
    unfold Lg.secsL at hs2
    obtain ⟨x, hx, hsx⟩ := List.mem_flatMap.1 hs2
    obtain ⟨i, hi, rfl⟩ := List.mem_iff_getElem.1 hx
    exact Nat.le_trans (Lg.secs_bound (Lg.fine_of (hok.2 i hi).1) (hB i hi) s hsx) (by decide)
  rw [hm] at HS hcap ⊢
  rw [hT] at hTl
  have HMK := Lib.hid hmk
  clear h hok hB hn hT hA hm hmk
  go_enter Tryz.func16, Tryz.ntmps16
  go_wp2_with fail
  go_step3
  go_wp2_with fail
  go_step3
  go_wp2_with fail
  go_loopw [6, 7] (fun ov at_ wr => ∃ (c o : Nat), c ≤ n ∧ at_ = .int .i64 o ∧ o ≤ m ∧ Hid (Lg.offN l c = o) ∧ Hid (OutR wr w.heap.size ov (l.take c)) ∧ Hid (Ext w wr)) (fun _ at_ _ => m + 1 - (intOf at_).toNat)
  case atStart => exact ⟨0, 0, Nat.zero_le _, rfl, Nat.zero_le _, Lib.hid rfl, Lib.hid OutR.nil, Lib.hid (Ext.refl _)⟩
  case round =>
    obtain ⟨c, o, hcn, rfl, hom, HC, HO, HX⟩ := hrel
    by_cases hlt : o < m
    · have hin : (o : Int) < (m : Int) := by omega
      have hcl : c < l.length := by
        rcases Nat.lt_or_ge c l.length with h' | h'
        · exact h'
        · exfalso
          have h1 := Lg.offN_all (l := l) h'
          rw [HC.out, HT.out] at h1
          have := HMK.out
          omega
      have hclI : c < n := by rw [← HN.out]; exact hcl
      have HDR := Lg.part_drop (l := l) (c := c) (k := k) hcl (by rw [HC.out]; have := HMK.out; omega)
      rw [HA.out, HC.out] at HDR
      obtain ⟨hv, hg, hq⟩ := HOK.out.2 c hcl
      have h8 := HBK.out c hcl
      obtain ⟨hp1, hp2⟩ := HPL.out c hcl
      have HON := Lib.hid (Lg.offN_next hcl)
      have HTK := Lib.hid (List.take_succ_eq_append_getElem hcl)
      have hofl := offN_le (l := l) (c := c + 1)
      have hAl : ∀ (b off : Nat), ad = some ⟨b, off, none⟩ → RowsB wr (.slice (some ⟨b, off + o, none⟩) (m - o) (cap - o)) (A.drop o) := fun b off e => by
        have := HS.out.ext HX.out
        rw [e] at this
        exact this.dropS (by rw [HM.out]; omega) (by omega)
      have hA0 : 0 < A.length := by rw [HM.out]; omega
      obtain ⟨b, off, hbe, _⟩ := HS.out.get 0 hA0
      have HRB := Lib.hid (hAl b off hbe)
      subst hbe
      have hdl : (A.drop o).length = m - o := by rw [List.length_drop, HM.out]
      have hsl := Lg.secs_len l[c]
      have hget : ∀ i, i < Lb.partsN (Lg.payR l[c]) → i < (A.drop o).length → (A.drop o)[i]? = (Lg.secsR l[c])[i]? := fun i h1 h2 => by
        rw [HDR]
        rw [HDR, List.length_take] at h2
        rw [List.getElem?_take_of_lt (by omega), List.getElem?_append_left (by rw [hsl]; exact h1)]
      have HDC := Lib.hid (recdecode_any l[c] _ (A.drop o) wr hv h8 (by rw [hdl]; have := HMK.out; omega) (fun s hs => HAL.out s (List.mem_of_mem_drop hs)) hget HRB.out)
      rw [hdl] at HDC
      rw [HC.out, hsl] at HON
      rw [hsl] at hp1 hp2
      generalize l[c] = x at *
      obtain ⟨N, hN⟩ : ∃ N, Lb.partsN (Lg.payR x) = N := ⟨_, rfl⟩
      have HNE := Lib.hid hN
      rw [hN] at HDC HON hp1 hp2
      rw [HON.out, HT.out] at hofl
      have hsq : un x.seq = (c : Int) + 1 := by unfold un; omega
      obtain ⟨ao, co, rfl⟩ := HO.out.shape
      have hLl : (l.take c).length = c := by rw [List.length_take]; omega
      have hcap2 : (o : Int) ≤ (cap : Int) := by omega
      have hom2 : (o : Int) ≤ (m : Int) := by omega
      rw [hLl] at HO ⊢
      clear HDR hget hAl hdl hv h8 hq hN hsl
      go_wp2_with fail
      go_at_call 46
      refine HDC.out.mono ?_
      intro e w2 he
      unfold RdecEnd at he
      by_cases hfit : N ≤ m - o
      · rw [decide_eq_true hfit, if_pos rfl, HNE.out] at he
        obtain ⟨wv, mv, nv, rfl, hro, hx2⟩ := he
        obtain ⟨aw, cw, am, cm, an, cn, rfl, rfl, rfl⟩ := hro.rin.shape
        have HRO := Lib.hid hro
        have HX2 := Lib.hid hx2
        have HG := Lib.hid hg
        have HSQ := Lib.hid hsq
        clear hro hx2 hg hsq HDC
        go_wp2_with first | (refine wpList_store_box 52 _ _ rfl (by rfl) rfl rfl (BoxAt.new w2 recZ0 52) rfl (by kernel_rfl) (by simp [Value.oneCell']) ?_; intro W3 hS; have HX3 := Lib.hid (HX2.out.trans (hS.fresh rfl)); have HB3 : Hid (BoxAt W3 w2.heap.size (recA x (.slice aw x.ws.length cw) (.slice am x.ms.length cm) (.slice an x.note.length cn)) 52) := hS.box; have HRO3 := Lib.hid (HRO.out.ext (hS.fresh rfl)); clear hS; have k0 := HB3.out.cell 0 (v := encU gen) (by rw [← HG.out]; rfl); have k1 := HB3.out.cell 1 (v := .int .u64 ((c : Int) + 1)) (by rw [← HSQ.out]; rfl); have kl := HB3.out.lt) | (refine wpList_loadR 52 _ rfl (by rfl) rfl (rec_load (r := x) (box_range HB3.out)) ?_) | (at_builtin; refine Classical.byContradiction (fun hN => ?_))
        refine hN ?_
        clear hN
        have hRB : RecB w.heap.size (W3.alloc (.cells (recA x (.slice aw x.ws.length cw) (.slice am x.ms.length cm) (.slice an x.note.length cn)) 52)).heap.size (W3.alloc (.cells (recA x (.slice aw x.ws.length cw) (.slice am x.ms.length cm) (.slice an x.note.length cn)) 52)) (.slice aw x.ws.length cw) (.slice am x.ms.length cm) (.slice an x.note.length cn) x := by
          have h1 := HRO3.out.ext (Ext.alloc W3 (.cells (recA x (.slice aw x.ws.length cw) (.slice am x.ms.length cm) (.slice an x.note.length cn)) 52))
          exact (RecB.mk h1.rin h1.fw h1.fm h1.fn).wide HX.out.size (Nat.le_refl _)
        have hap : ∀ q, (Value.slice ao c co).ownBlock = some q → (Value.slice aw x.ws.length cw).ownBlock ≠ some q ∧ (Value.slice am x.ms.length cm).ownBlock ≠ some q ∧ (Value.slice an x.note.length cn).ownBlock ≠ some q := fun q hq => by
          have h0 := (HO.out.lt q hq).2
          exact ⟨fun e => by have := (HRO3.out.fw q e).1; omega, fun e => by have := (HRO3.out.fm q e).1; omega, fun e => by have := (HRO3.out.fn q e).1; omega⟩
        have hO4 := HO.out.ext (HX3.out.trans (Ext.alloc W3 (.cells (recA x (.slice aw x.ws.length cw) (.slice am x.ms.length cm) (.slice an x.note.length cn)) 52)))
        have hX4 := HX.out.trans (HX3.out.trans (Ext.alloc W3 (.cells (recA x (.slice aw x.ws.length cw) (.slice am x.ms.length cm) (.slice an x.note.length cn)) 52)))
        refine wpList_append_rec rfl _ _ rfl w.heap.size (.slice ao c co) (l.take c) rfl hO4 x (.slice aw x.ws.length cw) (.slice am x.ms.length cm) (.slice an x.note.length cn) rfl rfl rfl hRB hap rfl rfl rfl (by rw [hLl]; omega) hX4.size ?_
        intro v5 w5 ho5 hg5 _
        rw [← HTK.out] at ho5
        have HO5 := Lib.hid ho5
        have HX5 : Hid (Ext w w5) := Below.grown hX4 hg5 hX4.size (fun g hg => (hO4.lt g hg).1)
        clear ho5 hg5 hO4 hX4 hRB hap
        go_wp2_with fail
        go_roundw
        case rel => exact ⟨c + 1, o + N, by omega, by go_num, by omega, HON, HO5, HX5⟩
        case measure => simp [intOf]; omega
      · rw [decide_eq_false hfit, if_neg (by decide)] at he
        obtain ⟨rfl, hx2⟩ := he
        have HX2 := Lib.hid hx2
        have hce : T ≤ k → c = l.length := fun hk => by have := HMK.out; omega
        have HCE := Lib.hid hce
        clear hx2 HDC hce
        go_wp2_with (refine wpList_store_box 52 _ _ rfl (by rfl) rfl rfl (BoxAt.new w2 recZ0 52) rfl (by kernel_rfl) (by simp [Value.oneCell']) ?_; intro W3 hS; have HX3 := Lib.hid (HX2.out.trans (hS.fresh rfl)); clear hS)
        go_ret2
        exact ⟨_, c, _, rfl, by rw [HN.out]; exact hcn, by rw [HT.out]; exact HCE.out, (HO.out.ext HX3.out).log, HX.out.trans HX3.out⟩
    · have hom3 : o = m := by omega
      have hin : ¬ ((o : Int) < (m : Int)) := by omega
      have hce : T ≤ k → c = l.length := fun hk => by
        rcases Nat.lt_or_ge c l.length with h' | h'
        · exfalso
          have h1 := Lg.offN_next h'
          have h2 := (HPL.out c h').1
          have h3 := offN_le (l := l) (c := c + 1)
          rw [HC.out] at h1
          rw [HT.out] at h3
          have := HMK.out
          omega
        · have := HN.out; omega
      go_wp2_with fail
      go_ret2
      exact ⟨_, c, _, rfl, by rw [HN.out]; exact hcn, by rw [HT.out]; exact hce, HO.out.log, HX.out⟩
end Go.Proofs.YtjabgpejmnpamaaGreatDoor
