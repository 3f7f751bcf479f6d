/-
  Chapter 26 (sumtree): a tree in memory; join.
-/
import Derived.Test.YtdhlikjdcnfkpaaStA
namespace Go.Proofs.Ytdhlikjdcnfkpaa
open Go.RowKit
set_option linter.unusedVariables false

/-- a pointer to a block -/
def encP (q : Nat) : Value := .pointer (some ⟨q, 0, none⟩)
theorem infoP : (Try.prog.info? 27).map (fun i => (i.zero, i.size, i.bytes)) = some (some (.pointer none), 1, 8) := by kernel_rfl
/-- a block of cells of which nothing is frozen -/
def Plain (w : World) (p : Nat) : Prop := ∃ cs t, w.heap[p]? = some (.cells cs t (0, 0))
theorem BoxAt.plain {w : World} {p : Nat} {cs : Array Value} {t : TypeId} (h : BoxAt w p cs t) : Plain w p := ⟨cs, t, h⟩
theorem Plain.ext {w w' : World} {p : Nat} (h : Plain w p) (e : Ext w w') : Plain w' p := by
  obtain ⟨cs, t, h⟩ := h
  exact ⟨cs, t, (BoxAt.ext (show BoxAt w p cs t from h) e)⟩
theorem Plain.set {w : World} {p : Nat} (h : Plain w p) (b o : Nat) (v : Value) : Plain (w.setCell ⟨b, o, none⟩ v) p := by
  obtain ⟨cs, t, h⟩ := h
  have hb : BoxAt w p cs t := h
  by_cases hp : p = b
  · subst hp; exact ⟨_, _, hb.set o v⟩
  · exact ⟨_, _, hb.set_off hp o v⟩
/-- a node's sum -/
def NodeS (w : World) (p : Nat) (s : BitVec 64) : Prop := p < w.heap.size ∧ w.cell? ⟨p, 0, none⟩ = some (encU s) ∧ Plain w p
theorem NodeS.ext {w w' : World} {p : Nat} {s : BitVec 64} (h : NodeS w p s) (e : Ext w w') : NodeS w' p s := ⟨Nat.lt_of_lt_of_le h.1 e.size, (e.cell _ _ h.1).trans h.2.1, h.2.2.ext e⟩
def kidsL (P : Nat → Nat → Nat) (n k j : Nat) : List Nat := (List.range (kidN n k j)).map fun t => P k (4 * j + t)
theorem kidsL_len (P : Nat → Nat → Nat) (n k j : Nat) : (kidsL P n k j).length = kidN n k j := by simp [kidsL]
def KidsAt (w : World) (P : Nat → Nat → Nat) (n : Nat) : Nat → Nat → Prop
  | 0, j => w.cell? ⟨P 0 j, 1, none⟩ = some (.slice none 0 0)
  | k + 1, j => ∃ v, w.cell? ⟨P (k + 1) j, 1, none⟩ = some v ∧ SliceAt encP w v (kidsL P n k j)
/-- the levels up to K of a tree -/
def TreeTo (w : World) (l : List (BitVec 64)) (P : Nat → Nat → Nat) (K : Nat) : Prop :=
  ∀ k j, k ≤ K → j < sz l.length k → NodeS w (P k j) ((lvl l k).getD j 0#64) ∧ KidsAt w P l.length k j
def TreeAt (w : World) (l : List (BitVec 64)) (P : Nat → Nat → Nat) : Prop := TreeTo w l P (hgt l.length)
theorem TreeTo.ext {w w' : World} {l : List (BitVec 64)} {P : Nat → Nat → Nat} {K : Nat} (h : TreeTo w l P K) (e : Ext w w') : TreeTo w' l P K := by
  intro k j hk hj
  obtain ⟨h1, h2⟩ := h k j hk hj
  refine ⟨h1.ext e, ?_⟩
  cases k with
  | zero => exact (e.cell _ _ h1.1).trans h2
  | succ k =>
    obtain ⟨v, h3, h4⟩ := h2
    exact ⟨v, (e.cell _ _ h1.1).trans h3, h4.ext e⟩
theorem TreeAt.ext {w w' : World} {l : List (BitVec 64)} {P : Nat → Nat → Nat} (h : TreeAt w l P) (e : Ext w w') : TreeAt w' l P := TreeTo.ext h e
def topP (n : Nat) (P : Nat → Nat → Nat) : Value := if n = 0 then .pointer none else encP (P (hgt n) 0)
/-- a tree's value -/
def treeV (n : Nat) (P : Nat → Nat → Nat) : Value := .agg #[.int .i64 n, .int .i64 (hgt n), topP n P]

def JoinEnd (W : World) (kv : Value) (ss : List (BitVec 64)) (e : Ending) (w' : World) : Prop :=
  ∃ q, e = .returned (encP q) ∧ W.heap.size ≤ q ∧ BoxAt w' q #[encU (runL ss), kv] 60 ∧ Below W.heap.size W w'

set_option maxHeartbeats 800000 in
theorem join_any (kv : Value) (ps : List Nat) (ss : List (BitVec 64)) (w : World) (hl : ps.length ≤ 100000) (h : SliceAt encP w kv ps) (hs : ps.length = ss.length) (hn : ∀ i (a : i < ps.length) (b : i < ss.length), NodeS w ps[i] ss[i]) :
    Calls Try.prog 29 #[kv] w (JoinEnd w kv ss) := by
  obtain ⟨i0, hi, hz0, hz1, hz2⟩ := info_parts infoU
  obtain ⟨ad, cap, rfl⟩ := h.shape
  have HS := Lib.hid h
  have HN := Lib.hid hn
  have HL := Lib.hid hs
  obtain ⟨n, hpn⟩ : ∃ n, ps.length = n := ⟨_, rfl⟩
  have HPN := Lib.hid hpn
  rw [hpn] at HS hl ⊢
  clear h hn hs hpn
  go_enter Try.func29, Try.ntmps29
  go_wp2_with fail
  go_loopw [3, 8] (fun vo x wr => ∃ k : Nat, k ≤ n ∧ x = .int .i64 k ∧ Hid (OwnG encU 34 wr w.heap.size vo (ss.take k)) ∧ Below w.heap.size w wr) (fun _ x _ => n - (intOf x).toNat)
  case atStart => exact ⟨0, Nat.zero_le _, rfl, Lib.hid (by rw [List.take_zero]; exact OwnG.nil), Below.refl _ _⟩
  case round =>
    obtain ⟨k, hk, rfl, HO, hx⟩ := hrel
    have HX : Hid (Ext w wr) := hx
    by_cases hlt : k < n
    · have hin : (k : Int) < (n : Int) := by omega
      have k1 : k < ps.length := by rw [HPN.out]; exact hlt
      have k2 : k < ss.length := by rw [← HL.out]; exact k1
      obtain ⟨b, off, rfl, hb, hc⟩ := (HS.out.ext hx).get k k1
      obtain ⟨hp, hcp, _⟩ := (HN.out k k1 k2).ext hx
      have HT : Hid (ss.take (k + 1) = ss.take k ++ [ss[k]]) := by
        show _ = _
        rw [List.take_add_one, List.getElem?_eq_getElem k2]; rfl
      have hlen : (ss.take k).length = k := by rw [List.length_take]; omega
      have HLEN := Lib.hid hlen
      obtain ⟨av, cv, rfl⟩ := HO.out.shape
      rw [hlen] at HO ⊢
      unfold encP at hc
      generalize ps[k] = p at *
      generalize hsk : ss[k] = s at *
      have hsx := hx.size
      clear hx k1 k2 hlen hsk
      go_wp2_with (at_builtin; refine Classical.byContradiction (fun hN => ?_))
      refine hN ?_
      clear hN
      refine wpList_append_one rfl _ _ _ rfl w.heap.size 34 i0 (.int .u64 0) 8 Try.underlying22 hi hz0 hz1 hz2 rfl _ _ _ rfl (World.ownsRow.alloc HO.out _) _ (encU s) rfl rfl (cell_new1 _ _ _) (by rw [HLEN.out]; unfold maxLen; omega) (by rw [HLEN.out]; omega) (by simp; omega) ?_
      intro v2 w2 ho2 hg2 _
      have HO2 : Hid (OwnG encU 34 w2 w.heap.size v2 (ss.take (k + 1))) := by
        show OwnG _ _ _ _ _ _
        rw [HT.out]
        exact OwnG.snoc (enc := encU) (x := s) ho2
      have hx2 : Below w.heap.size w w2 := (Below.alloc HX.out hsx _).grown hg2 (by simp; omega) (fun q hq => (HO.out.lt q hq).1)
      clear ho2 hg2
      go_wp2
      go_roundw
      case rel => exact ⟨k + 1, by omega, by go_num, HO2, hx2⟩
      case measure => simp [intOf]; omega
    · have hkn : k = n := by omega
      subst hkn
      have hlen : ss.length = k := by rw [← HL.out, HPN.out]
      rw [List.take_of_length_le (by omega)] at HO
      have hll : ss.length ≤ 100000 := by omega
      clear hlen
      go_wp2_with fail
      go_at_call 31
      refine (run_any _ ss _ hll HO.out.slice).mono ?_
      rintro e w2 ⟨rfl, hb2⟩
      have HX2 : Hid (Ext w w2) := HX.out.trans hb2
      have HXA : Hid (Ext w2 (w2.alloc (.cells #[encU (runL ss), .slice ad k cap] 60))) := Ext.alloc _ _
      have HBA : Hid (BoxAt (w2.alloc (.cells #[encU (runL ss), .slice ad k cap] 60)) w2.heap.size #[encU (runL ss), .slice ad k cap] 60) := BoxAt.new _ _ _
      clear hb2 hx
      go_wp2_with fail
      go_ret
      exact ⟨_, rfl, HX2.out.size, HBA.out, HX2.out.trans HXA.out⟩
end Go.Proofs.Ytdhlikjdcnfkpaa
