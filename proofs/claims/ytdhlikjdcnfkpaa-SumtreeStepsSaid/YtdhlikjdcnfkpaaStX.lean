/-
  Chapter 26 (sumtree): a tree and a box that holds a tree; the openers of SumtreeSteps.
-/
import Derived.Test.YtdhlikjdcnfkpaaStU
namespace Go.Proofs.Ytdhlikjdcnfkpaa
open Go.ChangeShapes Go.WideShapes Go.ChangeAt Go.RowKit
set_option linter.unusedVariables false

theorem SliceAt.same_get {w : World} {v : Value} {ps qs : List Nat} (h1 : SliceAt encP w v ps) (h2 : SliceAt encP w v qs) (k1 : 0 < ps.length) (k2 : 0 < qs.length) : ps[0] = qs[0] := by
  obtain ⟨a1, p1, e1, _, d1⟩ := h1
  obtain ⟨a2, p2, e2, _, d2⟩ := h2
  rcases d1 with ⟨n1, _⟩ | ⟨b1, o1, f1, _, c1⟩
  · rw [n1] at k1; exact absurd k1 (by simp)
  rcases d2 with ⟨n2, _⟩ | ⟨b2, o2, f2, _, c2⟩
  · rw [n2] at k2; exact absurd k2 (by simp)
  rw [e1, f1, f2] at e2
  injection e2 with e3 _ _
  injection e3 with e4
  injection e4 with e5 e6 _
  subst e5 e6
  have c3 := (c1 0 k1).symm.trans (c2 0 k2)
  unfold encP at c3
  injection c3 with c4
  injection c4 with c5
  injection c5 with c6
  injection c6
theorem level_ne {w : World} {l lq : List (BitVec 64)} {P Q : Nat → Nat → Nat} (hp : TreeAt w l P) (hq : TreeAt w lq Q) (he : lq.length = l.length) :
    ∀ k j m j', k < m + 1 → m + 1 ≤ hgt l.length → j < sz l.length k → j' < sz l.length (m + 1) → P k j ≠ Q (m + 1) j'
  | 0, j, m, j', hk, hm, hj, hj', e => by
    have h1 : w.cell? ⟨P 0 j, 1, none⟩ = some (.slice none 0 0) := (hp 0 j (by omega) hj).2
    obtain ⟨v, h2, h3⟩ := (hq (m + 1) j' (by rw [he]; exact hm) (by rw [he]; exact hj')).2
    rw [e, h2] at h1
    injection h1 with h1
    subst h1
    obtain ⟨a, c, h4⟩ := h3.shape
    injection h4 with _ h5 _
    rw [kidsL_len, he] at h5
    have := kidN_pos hj'
    omega
  | k + 1, j, m, j', hk, hm, hj, hj', e => by
    obtain ⟨v1, h1, h2⟩ := (hp (k + 1) j (by omega) hj).2
    obtain ⟨v2, h3, h4⟩ := (hq (m + 1) j' (by rw [he]; exact hm) (by rw [he]; exact hj')).2
    rw [e, h3] at h1
    injection h1 with h1
    subst h1
    rw [he] at h4
    have n1 := kidN_pos hj
    have n2 := kidN_pos hj'
    have h5 := h2.same_get h4 (by rw [kidsL_len]; exact n1) (by rw [kidsL_len]; exact n2)
    simp only [kidsL, List.getElem_map, List.getElem_range] at h5
    cases m with
    | zero => omega
    | succ m => exact level_ne hp hq he k (4 * j + 0) m (4 * j' + 0) (by omega) (by omega) (kid_lt n1) (kid_lt n2) h5
/-- a block that holds numbers and one node's address -/
def InBox (w : World) (q r : Nat) : Prop := ∀ o v, w.cell? ⟨q, o, none⟩ = some v → (∃ z, v = .int .i64 z) ∨ v = encP r
theorem InBox.of {w : World} {q r : Nat} {t : TypeId} {z1 z2 : Int} (h : BoxAt w q #[.int .i64 z1, .int .i64 z2, encP r] t) : InBox w q r := by
  intro o v hv
  match o with
  | 0 => rw [h.cell 0 rfl] at hv; exact .inl ⟨_, (Option.some.inj hv).symm⟩
  | 1 => rw [h.cell 1 rfl] at hv; exact .inl ⟨_, (Option.some.inj hv).symm⟩
  | 2 => rw [h.cell 2 rfl] at hv; exact .inr (Option.some.inj hv).symm
  | o + 3 =>
    unfold World.cell? at hv
    simp only [show w.heap[q]? = _ from h, Option.isSome_none, Bool.false_eq_true, if_false] at hv
    simp at hv
theorem TreeAt.box {w : World} {l lq : List (BitVec 64)} {P Q : Nat → Nat → Nat} {q o : Nat} {x : Value} (h : TreeAt w l P) (hq : TreeAt w lq Q) (he : lq.length = l.length) (hn : 0 < l.length) (hb : InBox w q (Q (hgt l.length) 0)) : TreeAt (w.setCell ⟨q, o, none⟩ x) l P := by
  intro k j hk hj
  obtain ⟨⟨h0, h1, hpl⟩, h2⟩ := h k j hk hj
  have hne : q ≠ P k j := by
    intro e
    subst e
    rcases hb 0 _ h1 with ⟨z, hz⟩ | hz
    · unfold encU at hz; injection hz with h3; cases h3
    · unfold encU encP at hz; cases hz
  refine ⟨⟨by simpa using h0, by rw [cell_off hne]; exact h1, hpl.set _ _ _⟩, ?_⟩
  cases k with
  | zero => show _ = _; rw [cell_off hne]; exact h2
  | succ k =>
    obtain ⟨v, h3, h4⟩ := h2
    refine ⟨v, by rw [cell_off hne]; exact h3, ?_⟩
    obtain ⟨ad, cap, hv, hca, hc⟩ := h4
    refine ⟨ad, cap, hv, hca, hc.imp id ?_⟩
    rintro ⟨b, off, h5, h6, h7⟩
    refine ⟨b, off, h5, by simpa using h6, fun i hi2 => ?_⟩
    have h8 := h7 i hi2
    have hqb : q ≠ b := by
      intro e
      subst e
      rcases hb _ _ h8 with ⟨z, hz⟩ | hz
      · unfold encP at hz; cases hz
      · simp only [kidsL, List.getElem_map, List.getElem_range] at hz
        rw [kidsL_len] at hi2
        unfold encP at hz
        injection hz with c3
        injection c3 with c4
        injection c4 with c5 _ _
        obtain ⟨m, hm⟩ : ∃ m, hgt l.length = m + 1 := ⟨hgt l.length - 1, by omega⟩
        rw [hm] at c5
        have hs := sz_pos hn (m + 1)
        exact level_ne h hq he k (4 * j + i) m 0 (by omega) (by omega) (kid_lt hi2) hs c5
    rw [cell_off hqb]; exact h8
/-- a tree is laid into a box that held a tree -/
def boxed (w : World) (q : Nat) (n H : Int) (r : Nat) : World := ((w.setCell ⟨q, 0, none⟩ (.int .i64 n)).setCell ⟨q, 1, none⟩ (.int .i64 H)).setCell ⟨q, 2, none⟩ (encP r)
theorem TreeAt.boxed {w : World} {l lq : List (BitVec 64)} {P Q : Nat → Nat → Nat} {q r : Nat} {t : TypeId} {z1 z2 n H : Int} (h : TreeAt w l P) (hq : TreeAt w lq Q) (he : lq.length = l.length) (hn : 0 < l.length) (hb : BoxAt w q #[.int .i64 z1, .int .i64 z2, encP (Q (hgt l.length) 0)] t) : TreeAt (boxed w q n H r) l P := by
  have b1 : BoxAt (w.setCell ⟨q, 0, none⟩ (.int .i64 n)) q #[.int .i64 n, .int .i64 z2, encP (Q (hgt l.length) 0)] t := hb.set 0 (.int .i64 n)
  have b2 : BoxAt ((w.setCell ⟨q, 0, none⟩ (.int .i64 n)).setCell ⟨q, 1, none⟩ (.int .i64 H)) q #[.int .i64 n, .int .i64 H, encP (Q (hgt l.length) 0)] t := b1.set 1 (.int .i64 H)
  have hq1 : TreeAt (w.setCell ⟨q, 0, none⟩ (.int .i64 n)) lq Q := hq.box hq rfl (by omega) (by rw [he]; exact .of hb)
  have hq2 : TreeAt ((w.setCell ⟨q, 0, none⟩ (.int .i64 n)).setCell ⟨q, 1, none⟩ (.int .i64 H)) lq Q := hq1.box hq1 rfl (by omega) (by rw [he]; exact .of b1)
  exact ((h.box hq he hn (.of hb)).box hq1 he hn (.of b1)).box hq2 he hn (.of b2)
theorem boxed_box {w : World} {q r0 r : Nat} {t : TypeId} {z1 z2 n H : Int} (hb : BoxAt w q #[.int .i64 z1, .int .i64 z2, encP r0] t) : BoxAt (boxed w q n H r) q #[.int .i64 n, .int .i64 H, encP r] t := by
  have b1 : BoxAt (w.setCell ⟨q, 0, none⟩ (.int .i64 n)) q #[.int .i64 n, .int .i64 z2, encP r0] t := hb.set 0 (.int .i64 n)
  have b2 : BoxAt ((w.setCell ⟨q, 0, none⟩ (.int .i64 n)).setCell ⟨q, 1, none⟩ (.int .i64 H)) q #[.int .i64 n, .int .i64 H, encP r0] t := b1.set 1 (.int .i64 H)
  exact b2.set 2 (encP r)
theorem boxed_off {w : World} {q r g : Nat} {t : TypeId} {cs : Array Value} {n H : Int} (hb : BoxAt w g cs t) (h : g ≠ q) : BoxAt (boxed w q n H r) g cs t := ((hb.set_off h _ _).set_off h _ _).set_off h _ _
theorem boxed_size (w : World) (q r : Nat) (n H : Int) : (boxed w q n H r).heap.size = w.heap.size := by unfold boxed; simp
theorem boxed_bel {B : Nat} {w w' : World} {q r : Nat} {n H : Int} (h : Below B w w') (hq : B ≤ q) : Below B w (boxed w' q n H r) := bel_set (bel_set (bel_set h hq _ _) hq _ _) hq _ _
theorem boxed_own {w : World} {q r base : Nat} {n H : Int} {v : Value} {l : List (BitVec 64)} (h : OwnG encU 34 w base v l) (hne : v.ownBlock ≠ some q) : OwnG encU 34 (boxed w q n H r) base v l := ((h.off hne _ _).off hne _ _).off hne _ _
theorem boxed_ints {w : World} {q r g : Nat} {n H : Int} (h : IntsAt w g) (hne : q ≠ g) : IntsAt (boxed w q n H r) g := by
  intro o v hv
  unfold boxed at hv
  rw [set_block hne, set_block hne, set_block hne] at hv
  exact h o v hv

/-- a block without sums and without addresses of nodes -/
def NoTree (w : World) (q : Nat) : Prop := ∀ o v, w.cell? ⟨q, o, none⟩ = some v → (∃ z, v = .int .i64 z) ∨ v = .pointer none
theorem NoTree.of {w : World} {q : Nat} {t : TypeId} {z1 z2 : Int} (h : BoxAt w q #[.int .i64 z1, .int .i64 z2, .pointer none] t) : NoTree w q := by
  intro o v hv
  match o with
  | 0 => rw [h.cell 0 rfl] at hv; exact .inl ⟨_, (Option.some.inj hv).symm⟩
  | 1 => rw [h.cell 1 rfl] at hv; exact .inl ⟨_, (Option.some.inj hv).symm⟩
  | 2 => rw [h.cell 2 rfl] at hv; exact .inr (Option.some.inj hv).symm
  | o + 3 =>
    unfold World.cell? at hv
    simp only [show w.heap[q]? = _ from h, Option.isSome_none, Bool.false_eq_true, if_false] at hv
    simp at hv
theorem TreeAt.off {w : World} {l : List (BitVec 64)} {P : Nat → Nat → Nat} {q o : Nat} {x : Value} (h : TreeAt w l P) (hb : NoTree w q) : TreeAt (w.setCell ⟨q, o, none⟩ x) l P := by
  intro k j hk hj
  obtain ⟨⟨h0, h1, hpl⟩, h2⟩ := h k j hk hj
  have hne : q ≠ P k j := by
    intro e
    subst e
    rcases hb 0 _ h1 with ⟨z, hz⟩ | hz
    · unfold encU at hz; injection hz with h3; cases h3
    · unfold encU at hz; cases hz
  refine ⟨⟨by simpa using h0, by rw [cell_off hne]; exact h1, hpl.set _ _ _⟩, ?_⟩
  cases k with
  | zero => show _ = _; rw [cell_off hne]; exact h2
  | succ k =>
    obtain ⟨v, h3, h4⟩ := h2
    refine ⟨v, by rw [cell_off hne]; exact h3, ?_⟩
    obtain ⟨ad, cap, hv, hca, hc⟩ := h4
    refine ⟨ad, cap, hv, hca, hc.imp id ?_⟩
    rintro ⟨b, off, h5, h6, h7⟩
    refine ⟨b, off, h5, by simpa using h6, fun i hi2 => ?_⟩
    have h8 := h7 i hi2
    have hqb : q ≠ b := by
      intro e
      subst e
      rcases hb _ _ h8 with ⟨z, hz⟩ | hz
      · unfold encP at hz; cases hz
      · unfold encP at hz; cases hz
    rw [cell_off hqb]; exact h8
theorem TreeAt.filled {w : World} {l : List (BitVec 64)} {P : Nat → Nat → Nat} {q r : Nat} {t : TypeId} {z1 z2 n H : Int} (h : TreeAt w l P) (hb : BoxAt w q #[.int .i64 z1, .int .i64 z2, .pointer none] t) : TreeAt (Go.Proofs.Ytdhlikjdcnfkpaa.boxed w q n H r) l P := by
  have b1 : BoxAt (w.setCell ⟨q, 0, none⟩ (.int .i64 n)) q #[.int .i64 n, .int .i64 z2, .pointer none] t := hb.set 0 (.int .i64 n)
  have b2 : BoxAt ((w.setCell ⟨q, 0, none⟩ (.int .i64 n)).setCell ⟨q, 1, none⟩ (.int .i64 H)) q #[.int .i64 n, .int .i64 H, .pointer none] t := b1.set 1 (.int .i64 H)
  exact ((h.off (.of hb)).off (.of b1)).off (.of b2)
theorem filled_box {w : World} {q r : Nat} {t : TypeId} {z1 z2 n H : Int} (hb : BoxAt w q #[.int .i64 z1, .int .i64 z2, .pointer none] t) : BoxAt (Go.Proofs.Ytdhlikjdcnfkpaa.boxed w q n H r) q #[.int .i64 n, .int .i64 H, encP r] t := by
  have b1 : BoxAt (w.setCell ⟨q, 0, none⟩ (.int .i64 n)) q #[.int .i64 n, .int .i64 z2, .pointer none] t := hb.set 0 (.int .i64 n)
  have b2 : BoxAt ((w.setCell ⟨q, 0, none⟩ (.int .i64 n)).setCell ⟨q, 1, none⟩ (.int .i64 H)) q #[.int .i64 n, .int .i64 H, .pointer none] t := b1.set 1 (.int .i64 H)
  exact b2.set 2 (encP r)
theorem tree_pos {n : Nat} (h : 0 < n) (P : Nat → Nat → Nat) : treeV n P = .agg #[.int .i64 n, .int .i64 (hgt n), .pointer (some ⟨P (hgt n) 0, 0, none⟩)] := by
  unfold treeV topP encP
  rw [if_neg (by omega)]
theorem step_un (y : BitVec 64) (a : Nat) : IntKind.u64.wrap (IntKind.u64.wrap (un y * 3) + (a : Int)) = un (y * 3#64 + BitVec.ofNat 64 a) := by
  have h := y.isLt
  show (((((y.toNat : Nat) : Int) * 3) % 18446744073709551616 + (a : Int)) % 18446744073709551616 : Int) = (((y * 3#64 + BitVec.ofNat 64 a).toNat : Nat) : Int)
  rw [BitVec.toNat_add, BitVec.toNat_mul, BitVec.toNat_ofNat, BitVec.toNat_ofNat]
  omega

/-- a number of 16 bits -/
def encH (n : Nat) : Value := .int .u16 (n : Int)
def Pat.u16 : Pat Nat := Pat.one encH fun n => n ≤ 65535
theorem opU16 : Opens Try.prog 50 Pat.u16 :=
  ⟨by kernel_rfl, fun enc w base spare held fuel cs y h => by
    obtain ⟨n, rfl, _, hw⟩ := DataW.trod_int Try.underlying50 h
    simp [Lit.wf, IntKind.min, IntKind.max, IntKind.signed, IntKind.bits] at hw
    refine ⟨n.toNat, ?_, by show n.toNat ≤ 65535; omega⟩
    show [Value.int .u16 n] = [.int .u16 _]
    rw [show (n.toNat : Int) = n by omega]⟩
theorem opShorts : Opens Try.prog 49 (Pat.slice Pat.u16) := Opens.slice opU16 Try.underlying49 (by kernel_rfl) (by kernel_rfl)
theorem open_u16s {H : Type} {enc : TypeId × Value → H} {w : World} {r : Reach} {b0 : Nat} {v : Value} {d : DataW H} {ps : List MemPlace} (hval : Value.okWide Try.prog w r b0 49 v) (h : DataW.Trod enc Try.prog w 0 (fun _ => true) true 49 v d ps) :
    ∃ l : List Nat, (∀ x ∈ l, x ≤ 65535) ∧ SliceAt encH w v l := by
  obtain ⟨l, hl⟩ := opShorts.cell (by kernel_rfl) hval h
  obtain ⟨h1, h2⟩ := holds_slice hl
  exact ⟨l, h1.at.2, h1.at.1⟩
end Go.Proofs.Ytdhlikjdcnfkpaa
