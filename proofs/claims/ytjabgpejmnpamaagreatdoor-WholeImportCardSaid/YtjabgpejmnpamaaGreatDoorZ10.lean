/-
  Part 10 of the proof: Chapter 30 (label): Equal of both packages. Chapter 9 (codec): the appending functions of the reference; integers. Chapter 9 (codec): a reader of package codec: New, fail, take. Chapter 9 (codec): reading a natural number. Chapter 9 (codec): a reader of package codec: Int, Count, Bytes, Block Chapter 9 (codec): a reader of the reference. Chapter 9 (codec): what is read of an encoding, and what an encoding i Chapter 30 (label): the plain law of a label's sectors: payload, seal, Chapter 30 (label): the plain law of decoding: a list of sectors is de Chapter 9 (codec): AppendBytes, the law's own f
-/
import Derived.Test.YtjabgpejmnpamaaGreatDoorZ09
import Derived.Test.YtjabgpejmnpamaaGreatDoorZ01
import Derived.Test.YtjabgpejmnpamaaGreatDoorZ02
import Derived.Test.YtjabgpejmnpamaaGreatDoorZ08
set_option linter.unusedVariables false
namespace Go.Proofs.YtjabgpejmnpamaaGreatDoor
open Go.RowKit
def eqL (a b : Lab) (x y : List Bool) : Bool := (un a.array == un b.array) && ((un a.gen == un b.gen) && ((un a.prev == un b.prev) && (eqCfg a.c b.c && (eqD x y && ((a.blob == b.blob) && ((un a.sum == un b.sum) && (un a.root == un b.root)))))))
theorem eqCfg_iff {a b : Cfg} : eqCfg a b = true ↔ a = b := by
  unfold eqCfg cfgL
  rw [decide_eq_true_eq]
  cases a; cases b
  simp
theorem eqL_iff {a b : Lab} {x y : List Bool} : eqL a b x y = true ↔ { a with disk := b.disk } = b ∧ x = y := by
  unfold eqL
  simp only [Bool.and_eq_true, eq_un, eqCfg_iff, eqD, decide_eq_true_eq, beq_iff_eq]
  obtain ⟨a1, a2, a3, a4, a5, a6, a7, a8⟩ := a
  obtain ⟨b1, b2, b3, b4, b5, b6, b7, b8⟩ := b
  simp only [Lab.mk.injEq, true_and]
  constructor
  · rintro ⟨h1, h2, h3, h4, h5, h6, h7, h8⟩; exact ⟨⟨h1, h2, h3, h4, h6, h7, h8⟩, h5⟩
  · rintro ⟨⟨h1, h2, h3, h4, h6, h7, h8⟩, h5⟩; exact ⟨h1, h2, h3, h4, h5, h6, h7, h8⟩
set_option maxRecDepth 100000 in
set_option maxHeartbeats 4000000 in
theorem equal_any (a b : Lab) (v1 v2 : Value) (x y : List Bool) (w : World) (hlx : x.length ≤ 100000) (hly : y.length ≤ 100000) (hx : SliceAt Value.bool w v1 x) (hy : SliceAt Value.bool w v2 y) :
    Calls Tryz.prog 10 #[labV a v1, labV b v2] w (BoolEnd w (eqL a b x y)) := by
  obtain ⟨ad1, cap1, rfl⟩ := hx.shape
  obtain ⟨ad2, cap2, rfl⟩ := hy.shape
  have HED := Lib.hid fun w' (e : Ext w w') => eqsl_any _ _ x y w' hlx hly (hx.ext e) (hy.ext e)
  have HC := Lib.hid (run_eq_cfg a.c b.c)
  have HX : Hid (eqL a b x y = ((un a.array == un b.array) && ((un a.gen == un b.gen) && ((un a.prev == un b.prev) && (eqCfg a.c b.c && (eqD x y && ((a.blob == b.blob) && ((un a.sum == un b.sum) && (un a.root == un b.root))))))))) := rfl
  obtain ⟨X, hX⟩ : ∃ X, eqL a b x y = X := ⟨_, rfl⟩
  rw [hX] at HX ⊢
  obtain ⟨x1, h1⟩ : ∃ z, (un a.array == un b.array) = z := ⟨_, rfl⟩
  obtain ⟨x2, h2⟩ : ∃ z, (un a.gen == un b.gen) = z := ⟨_, rfl⟩
  obtain ⟨x3, h3⟩ : ∃ z, (un a.prev == un b.prev) = z := ⟨_, rfl⟩
  obtain ⟨x4, h4⟩ : ∃ z, eqCfg a.c b.c = z := ⟨_, rfl⟩
  obtain ⟨x5, h5⟩ : ∃ z, eqD x y = z := ⟨_, rfl⟩
  obtain ⟨x6, h6⟩ : ∃ z, (a.blob == b.blob) = z := ⟨_, rfl⟩
  obtain ⟨x7, h7⟩ : ∃ z, (un a.sum == un b.sum) = z := ⟨_, rfl⟩
  obtain ⟨x8, h8⟩ : ∃ z, (un a.root == un b.root) = z := ⟨_, rfl⟩
  rw [h1, h2, h3, h4, h5, h6, h7, h8] at HX
  rw [h5] at HED
  rw [h4] at HC
  have hXe := HX.out
  have hcond : x1 = false ∧ X = false ∨ x1 = true ∧ (x2 = false ∧ X = false ∨ x2 = true ∧ (x3 = false ∧ X = false ∨ x3 = true ∧ (x4 = false ∧ X = false ∨ x4 = true ∧ (x5 = false ∧ X = false ∨ x5 = true ∧ (x6 = false ∧ X = false ∨ x6 = true ∧ (x7 = false ∧ X = false ∨ x7 = true ∧ X = x8)))))) := by
    rw [hXe]
    cases x1 <;> cases x2 <;> cases x3 <;> cases x4 <;> cases x5 <;> cases x6 <;> cases x7 <;> simp
  clear hXe HX hX hx hy h4 h5
  rcases hcond with ⟨rfl, rfl⟩ | ⟨rfl, ⟨rfl, rfl⟩ | ⟨rfl, ⟨rfl, rfl⟩ | ⟨rfl, ⟨rfl, rfl⟩ | ⟨rfl, ⟨rfl, rfl⟩ | ⟨rfl, ⟨rfl, rfl⟩ | ⟨rfl, ⟨rfl, rfl⟩ | ⟨rfl, rfl⟩⟩⟩⟩⟩⟩⟩
  all_goals
    have HA : Hid (LabAt ((w.alloc (.cells (labA a (.slice ad1 x.length cap1)) 29)).alloc (.cells (labA b (.slice ad2 y.length cap2)) 29)) w.heap.size 0 a (.slice ad1 x.length cap1)) := (LabAt.of_box (BoxAt.new w _ _)).ext (Ext.alloc _ _)
    have HB : Hid (LabAt ((w.alloc (.cells (labA a (.slice ad1 x.length cap1)) 29)).alloc (.cells (labA b (.slice ad2 y.length cap2)) 29)) (w.heap.size + 1) 0 b (.slice ad2 y.length cap2)) := by
      have := LabAt.of_box (l := b) (d := .slice ad2 y.length cap2) (BoxAt.new (w.alloc (.cells (labA a (.slice ad1 x.length cap1)) 29)) (labA b (.slice ad2 y.length cap2)) 29)
      simp only [World.size_alloc] at this
      exact this
    have HE : Hid (Ext w ((w.alloc (.cells (labA a (.slice ad1 x.length cap1)) 29)).alloc (.cells (labA b (.slice ad2 y.length cap2)) 29))) := (Ext.alloc _ _).trans (Ext.alloc _ _)
    go_enter Tryz.func10, Tryz.ntmps10
    have hcq := HC.out
    go_wp2_with (first | (refine wpList_loadR 26 _ rfl (by rfl) rfl HA.out.cfg ?_) | (refine wpList_loadR 26 _ rfl (by rfl) rfl HB.out.cfg ?_))
  iterate 4
    · go_ret
      exact ⟨rfl, HE.out⟩
  all_goals
    go_at_call 40
    refine (HED.out _ HE.out).mono ?_
    rintro e w2 ⟨rfl, hb2⟩
    have HLA := HA.out.ext hb2
    have HLB := HB.out.ext hb2
    have HX2 : Hid (Ext w w2) := HE.out.trans hb2
    have a16 := HLA.cell0 16 (v := .int .i64 a.blob) rfl
    have a17 := HLA.cell0 17 (v := encU a.sum) rfl
    have a18 := HLA.cell0 18 (v := encU a.root) rfl
    have b16 := HLB.cell0 16 (v := .int .i64 b.blob) rfl
    have b17 := HLB.cell0 17 (v := encU b.sum) rfl
    have b18 := HLB.cell0 18 (v := encU b.root) rfl
    have hl1 := HLA.2
    have hl2 := HLB.2
    clear hb2 HLA HLB
    go_wp2_with fail
    go_ret
    exact ⟨by first | rfl | rw [h8], HX2.out⟩
end Go.Proofs.YtjabgpejmnpamaaGreatDoor

namespace Go.Proofs.YtjabgpejmnpamaaGreatDoor
open Go.RowKit
attribute [local go_sem] wrap8_nat or_high
theorem or_table : ∀ k : Fin 256, (k.val ||| 128) = k.val % 128 + 128 := by decide +kernel
theorem wrap64 (x : Int) : IntKind.u64.wrap x = x % 18446744073709551616 := by
  simp only [IntKind.wrap, IntKind.bits, IntKind.signed]; simp
end Go.Proofs.YtjabgpejmnpamaaGreatDoor

namespace Go.Proofs.YtjabgpejmnpamaaGreatDoor
open Go.RowKit
attribute [local go_sem] wrap8_nat or_high
structure RdAt (w : World) (b : Nat) (l : List (BitVec 8)) (bad : Bool) : Prop where
  lt : b < w.heap.size
  rest : ∃ v, w.cell? ⟨b, 0, none⟩ = some v ∧ SliceAt encB w v l
  flag : w.cell? ⟨b, 1, none⟩ = some (.bool bad)
  free : ∀ j, w.frozen? ⟨b, j, none⟩ = false
  nb : ∀ j c, w.cell? ⟨b, j, none⟩ ≠ some (encB c)
theorem nb_set {w : World} {b o : Nat} {x u : Value} (h : ∀ j c, w.cell? ⟨b, j, none⟩ ≠ some (encB c)) (hc : w.cell? ⟨b, o, none⟩ = some u) (hx : ∀ c, x ≠ encB c) : ∀ j c, (w.setCell ⟨b, o, none⟩ x).cell? ⟨b, j, none⟩ ≠ some (encB c) := by
  intro j c
  by_cases e : o = j
  · subst e
    rw [set_same hc]
    intro h'
    exact hx c (Option.some.inj h')
  · rw [set_off e]; exact h j c
theorem slice_ne {ad : Option Addr} {n m : Nat} : ∀ c : BitVec 8, Value.slice ad n m ≠ encB c := fun c h => by cases h
theorem SliceAt.ne {w : World} {v : Value} {l : List (BitVec 8)} (h : SliceAt encB w v l) : ∀ c, v ≠ encB c := by
  obtain ⟨ad, cap, rfl, _⟩ := h; exact slice_ne
theorem SliceAt.set {w : World} {v x u : Value} {l : List (BitVec 8)} {b o : Nat} (h : SliceAt encB w v l) (hc : w.cell? ⟨b, o, none⟩ = some u) (hu : ∀ c, u ≠ encB c) : SliceAt encB (w.setCell ⟨b, o, none⟩ x) v l := by
  obtain ⟨ad, cap, hv, hca, h⟩ := h
  refine ⟨ad, cap, hv, hca, h.imp id ?_⟩
  rintro ⟨b1, off, ha, hb, hk⟩
  refine ⟨b1, off, ha, by simpa using hb, fun i hi => ?_⟩
  have := hk i hi
  by_cases e1 : b = b1
  · subst e1
    by_cases e2 : o = off + i
    · subst e2
      rw [hc] at this
      exact absurd (Option.some.inj this) (hu _)
    · rw [set_off e2]; exact this
  · rw [set_block e1]; exact this
theorem SliceAt.take3 {w : World} {ad : Option Addr} {m cap : Nat} {l : List (BitVec 8)} (h : SliceAt encB w (.slice ad m cap) l) (n : Nat) (hn : n ≤ m) : SliceAt encB w (.slice ad n n) (l.take n) := by
  obtain ⟨ad', cap', hv, hca, h⟩ := h.take n hn
  injection hv with h1 h2 h3
  subst h1; subst h3
  refine ⟨ad, n, by rw [← h2], by omega, h.imp (fun ⟨h4, _⟩ => ⟨h4, fun _ => ?_⟩) id⟩
  rw [h4] at h2; exact h2
theorem SliceAt.drop {w : World} {ad : Option Addr} {cap : Nat} {l : List (BitVec 8)} (h : SliceAt encB w (.slice ad l.length cap) l) (n : Nat) (hn : n ≤ l.length) :
    SliceAt encB w (.slice (ad.map (·.add n)) (l.length - n) (cap - n)) (l.drop n) := by
  obtain ⟨ad', cap', hv, hca, h⟩ := h
  cases hv
  refine ⟨_, cap - n, by rw [List.length_drop], by rw [List.length_drop]; omega, ?_⟩
  rcases h with ⟨h1, h2⟩ | ⟨b', off', h1, h2, h3⟩
  · left; refine ⟨by rw [h1]; simp, fun h => ?_⟩
    cases ad with
    | none => rw [h2 rfl]; omega
    | some _ => cases h
  · subst h1
    refine .inr ⟨b', off' + n, by rw [Option.map_some, add_plain], h2, fun i hi => ?_⟩
    have hi' : n + i < l.length := by rw [List.length_drop] at hi; omega
    have := h3 (n + i) hi'
    rw [Nat.add_assoc, this]; simp
theorem SliceAt.drop_all {w : World} {ad : Option Addr} {cap : Nat} {l : List (BitVec 8)} (h : SliceAt encB w (.slice ad l.length cap) l) (n : Nat) (hn : n ≤ l.length) (hc : cap = n) :
    SliceAt encB w (.slice ad (l.length - n) 0) (l.drop n) := by
  obtain ⟨ad', cap', hv, hca, h⟩ := h
  cases hv
  have hl : l.length = n := by omega
  exact ⟨_, 0, by rw [List.length_drop], by rw [List.length_drop]; omega, .inl ⟨List.drop_eq_nil_of_le (by omega), fun _ => rfl⟩⟩
theorem RdAt.ext {w w' : World} {b : Nat} {l : List (BitVec 8)} {bad : Bool} (h : RdAt w b l bad) (e : Ext w w') : RdAt w' b l bad := by
  obtain ⟨hlt, ⟨v, hv, hs⟩, hf, hfr, hnb⟩ := h
  refine ⟨Nat.lt_of_lt_of_le hlt e.below.size, ⟨v, (e.cell b 0 hlt).trans hv, hs.ext e⟩, (e.cell b 1 hlt).trans hf, fun j => (e.frozen b j hlt).trans (hfr j), fun j c => ?_⟩
  rw [e.cell b j hlt]; exact hnb j c
theorem SliceAt.turn {w w' : World} {b : Nat} {v : Value} {l : List (BitVec 8)} (h : SliceAt encB w v l) (hnb : ∀ j c, w.cell? ⟨b, j, none⟩ ≠ some (encB c)) (hg : w.grownBy w' (some b)) : SliceAt encB w' v l := by
  obtain ⟨ad, cap, hv, hca, h⟩ := h
  refine ⟨ad, cap, hv, hca, ?_⟩
  rcases h with h | ⟨g, off, ha, hb, hc⟩
  · exact .inl h
  · rcases Nat.eq_zero_or_pos l.length with h0 | h0
    · have hl := List.eq_nil_of_length_eq_zero h0
      exact .inl ⟨hl, fun h => by rw [ha] at h; cases h⟩
    · have hne : g ≠ b := fun e => by subst e; exact hnb _ _ (hc 0 h0)
      refine .inr ⟨g, off, ha, Nat.lt_of_lt_of_le hb hg.size, fun i hi => ?_⟩
      rw [World.cell?_of_block (w := w) (hg.block g hb (fun e => hne (Option.some.inj e)))]
      exact hc i hi
theorem RdAt.turn {w w' : World} {b g : Nat} {l : List (BitVec 8)} {bad : Bool} (h : RdAt w b l bad) (hnb : ∀ j c, w.cell? ⟨g, j, none⟩ ≠ some (encB c)) (hg : w.grownBy w' (some g)) (hne : b ≠ g) : RdAt w' b l bad := by
  obtain ⟨hlt, ⟨v, hv, hs⟩, hf, hfr, hb⟩ := h
  have hk := hg.block b hlt (fun e => hne (Option.some.inj e))
  refine ⟨Nat.lt_of_lt_of_le hlt hg.size, ⟨v, (World.cell?_of_block (w := w) hk).trans hv, hs.turn hnb hg⟩, (World.cell?_of_block (w := w) hk).trans hf, fun j => (World.frozen?_of_block (w := w) hk).trans (hfr j), fun j c => ?_⟩
  rw [World.cell?_of_block (w := w) hk]; exact hb j c
theorem fail_any (w : World) (b : Nat) (l : List (BitVec 8)) (bad : Bool) (h : RdAt w b l bad) :
    Calls Tryz.prog 188 #[.pointer (some ⟨b, 0, none⟩)] w fun e w' => e = .returned (.int .i64 5) ∧ w' = (w.setCell ⟨b, 0, none⟩ (.slice none 0 0)).setCell ⟨b, 1, none⟩ (.bool true) := by
  obtain ⟨hlt, ⟨v, hv, hs⟩, hf, hfr, hnb⟩ := h
  have hf0 := hfr 0
  have hf1 := hfr 1
  have HS := Lib.hid hs
  clear hs hfr hnb
  go_enter Tryz.func188, Tryz.ntmps188
  go_wp2
  go_ret
  exact ⟨rfl, rfl⟩
def failW (w : World) (b : Nat) : World := (w.setCell ⟨b, 0, none⟩ (.slice none 0 0)).setCell ⟨b, 1, none⟩ (.bool true)
theorem RdAt.failed {w : World} {b : Nat} {l : List (BitVec 8)} {bad : Bool} (h : RdAt w b l bad) : RdAt (failW w b) b [] true := by
  obtain ⟨hlt, ⟨v, hv, hs⟩, hf, hfr, hnb⟩ := h
  have h1 : (w.setCell ⟨b, 0, none⟩ (.slice none 0 0)).cell? ⟨b, 1, none⟩ = some (.bool bad) := by rw [set_off (by decide)]; exact hf
  unfold failW
  refine ⟨by simpa using hlt, ⟨.slice none 0 0, ?_, SliceAt.nil⟩, set_same h1, fun j => by simpa using hfr j, nb_set (nb_set hnb hv slice_ne) h1 (fun c h => by cases h)⟩
  rw [set_off (by decide)]; exact set_same hv
theorem new_any (v : Value) (l : List (BitVec 8)) (w : World) (hl : l.length ≤ 100000) (h : SliceAt encB w v l) :
    Calls Tryz.prog 123 #[v] w fun e w' => ∃ b, e = .returned (.pointer (some ⟨b, 0, none⟩)) ∧ w.heap.size ≤ b ∧ RdAt w' b l false ∧ Below w.heap.size w w' := by
  have HA := Lib.hid h
  clear h
  go_enter Tryz.func123, Tryz.ntmps123
  go_wp2_with (go_at_call 122; refine (clone_any _ l _ hl HA.out).mono ?_; rintro e w1 ⟨v1, rfl, hown1, hb1⟩; have HS1 := Lib.hid (OwnB.slice hown1); obtain ⟨ad1, cap1, rfl, _, _⟩ := OwnB.slice hown1; clear hown1)
  go_ret
  have hs1 := HS1.out.ext (Ext.alloc w1 (.cells #[.slice ad1 l.length cap1, .bool false] 288))
  refine ⟨_, rfl, hb1.size, ⟨by simp, ⟨_, ?_, hs1⟩, ?_, fun j => by simp, fun j c => ?_⟩, hb1.alloc hb1.size _⟩
  · simp
  · simp
  · rw [cell_alloc_any]
    match j with
    | 0 => intro h; cases h
    | 1 => intro h; cases h
    | n + 2 => intro h; simp at h
set_option maxHeartbeats 400000 in
theorem take_no (w : World) (b : Nat) (l : List (BitVec 8)) (bad : Bool) (n : Nat) (hn : n < 18446744073709551616) (hl : l.length ≤ maxLen) (h : RdAt w b l bad) (hno : bad = true ∨ l.length < n) :
    Calls Tryz.prog 187 #[.pointer (some ⟨b, 0, none⟩), .int .u64 n] w fun e w' => e = .returned (.tuple #[.slice none 0 0, .int .i64 5]) ∧ w' = failW w b := by
  have HR := Lib.hid h
  obtain ⟨hlt, ⟨v, hv, hs⟩, hf, hfr, hnb⟩ := h
  obtain ⟨ad, cap, rfl, _, hs⟩ := hs
  have hf0 := hfr 0
  have hf1 := hfr 1
  unfold maxLen at hl
  clear hs hfr hnb
  cases bad with
  | true =>
    clear hno
    go_enter Tryz.func187, Tryz.ntmps187
    go_wp2_with (go_at_call 188; refine (fail_any _ _ _ _ HR.out).mono ?_; rintro e w1 ⟨rfl, rfl⟩)
    go_ret2
    exact ⟨rfl, rfl⟩
  | false =>
    have hno' : (l.length : Int) < (n : Int) := by
      rcases hno with h | h
      · cases h
      · omega
    clear hno
    go_enter Tryz.func187, Tryz.ntmps187
    go_wp2_with (go_at_call 188; refine (fail_any _ _ _ _ HR.out).mono ?_; rintro e w1 ⟨rfl, rfl⟩)
    go_ret2
    exact ⟨rfl, rfl⟩
set_option maxHeartbeats 400000 in
theorem take_yes (w : World) (b : Nat) (l : List (BitVec 8)) (n : Nat) (hl : l.length ≤ maxLen) (h : RdAt w b l false) (hn : n ≤ l.length) :
    Calls Tryz.prog 187 #[.pointer (some ⟨b, 0, none⟩), .int .u64 n] w fun e w' => ∃ v v', e = .returned (.tuple #[v, .int .i64 0]) ∧ w' = w.setCell ⟨b, 0, none⟩ v' ∧ SliceAt encB w' v (l.take n) ∧ RdAt w' b (l.drop n) false := by
  obtain ⟨hlt, ⟨v, hv, hs⟩, hf, hfr, hnb⟩ := h
  have HS := Lib.hid hs
  obtain ⟨ad, cap, rfl, hca, hs⟩ := hs
  have hf0 := hfr 0
  have hf1 := hfr 1
  have HF := Lib.hid hfr
  unfold maxLen at hl
  have hn' : (n : Int) ≤ (l.length : Int) := by omega
  have hn2 : (n : Int) ≤ (cap : Int) := by omega
  have HT := Lib.hid (HS.out.take3 n hn)
  have hfin : ∀ x, SliceAt encB w x (l.drop n) → SliceAt encB (w.setCell ⟨b, 0, none⟩ x) (.slice ad n n) (l.take n) ∧ RdAt (w.setCell ⟨b, 0, none⟩ x) b (l.drop n) false := by
    intro x hx
    refine ⟨HT.out.set hv (fun c h => by cases h), by simpa using hlt, ⟨x, set_same hv, hx.set hv (fun c h => by cases h)⟩, ?_, fun j => by simpa using hfr j, nb_set hnb hv hx.ne⟩
    rw [set_off (by decide)]; exact hf
  have HFin := Lib.hid hfin
  clear hs hfr hfin hnb
  go_enter Tryz.func187, Tryz.ntmps187
  go_wp2
  · go_ret2
    exact ⟨_, rfl, ⟨_, rfl⟩, HFin.out _ (HS.out.drop_all n hn (by assumption))⟩
  · go_ret2
    exact ⟨_, rfl, ⟨_, rfl⟩, HFin.out _ (HS.out.drop n hn)⟩
end Go.Proofs.YtjabgpejmnpamaaGreatDoor

namespace Go.Proofs.YtjabgpejmnpamaaGreatDoor
open Go.RowKit
attribute [local go_sem] xor_un and_un or_un not_un wrap_ub
def rdU : Nat → Nat → BitVec 64 → List (BitVec 8) → Option (BitVec 64 × List (BitVec 8))
  | 0, _, _, _ => none
  | _ + 1, _, _, [] => none
  | f + 1, k, x, c :: r =>
    if k = 9 ∧ 1 < c.toNat then none
    else if c.toNat < 128 then (if c = 0#8 ∧ 0 < k then none else some (x ||| ((Crc.reg c &&& 127#64) <<< (7 * k)), r))
    else rdU f (k + 1) (x ||| ((Crc.reg c &&& 127#64) <<< (7 * k))) r
theorem rdU_big {k : Nat} {x : BitVec 64} {c : BitVec 8} {r : List (BitVec 8)} (h9 : k = 9) (h1 : 1 < c.toNat) : rdU (10 - k) k x (c :: r) = none := by
  subst h9; show rdU 1 9 x (c :: r) = none
  unfold rdU; rw [if_pos ⟨rfl, h1⟩]
theorem rdU_zero {k : Nat} {x : BitVec 64} {c : BitVec 8} {r : List (BitVec 8)} (hk : k < 10) (hc : c = 0#8) (h0 : 0 < k) : rdU (10 - k) k x (c :: r) = none := by
  rw [show 10 - k = (9 - k) + 1 by omega]; unfold rdU
  subst hc
  rw [if_neg (by rintro ⟨_, h⟩; exact absurd h (by decide)), if_pos (by decide), if_pos ⟨rfl, h0⟩]
theorem rdU_end {k : Nat} {x : BitVec 64} {c : BitVec 8} {r : List (BitVec 8)} (hk : k < 10) (h9 : ¬ (k = 9 ∧ 1 < c.toNat)) (hc : c.toNat < 128) (h0 : ¬ (c = 0#8 ∧ 0 < k)) :
    rdU (10 - k) k x (c :: r) = some (x ||| ((Crc.reg c &&& 127#64) <<< (7 * k)), r) := by
  rw [show 10 - k = (9 - k) + 1 by omega]; unfold rdU
  rw [if_neg h9, if_pos hc, if_neg h0]
theorem rdU_next {k : Nat} {x : BitVec 64} {c : BitVec 8} {r : List (BitVec 8)} (hk : k < 10) (h9 : k ≠ 9) (hc : ¬ c.toNat < 128) :
    rdU (10 - k) k x (c :: r) = rdU (10 - (k + 1)) (k + 1) (x ||| ((Crc.reg c &&& 127#64) <<< (7 * k))) r := by
  rw [show 10 - k = (10 - (k + 1)) + 1 by omega, rdU]
  rw [if_neg (fun h => h9 h.1), if_neg hc]
def rd (bad : Bool) (l : List (BitVec 8)) : Option (BitVec 64 × List (BitVec 8)) := if bad then none else rdU 10 0 0#64 l
theorem and_127 (x : BitVec 64) : bits .and .u64 (un x) 127 = un (x &&& 127#64) := and_un x 127#64
theorem shl_un (x : BitVec 64) (k : Nat) : IntKind.u64.wrap (un x * (2 : Int) ^ k) = un (x <<< k) := by
  rw [wrap64]; unfold un
  rw [BitVec.toNat_shiftLeft, Nat.shiftLeft_eq]; simp
attribute [local go_sem] and_127
theorem turn_refl (w : World) (o : Option Nat) : w.grownBy w o := ⟨rfl, rfl, rfl, Nat.le_refl _, fun _ _ _ => rfl⟩
theorem turn_trans {w w1 w2 : World} {o : Option Nat} (h : w.grownBy w1 o) (k : w1.grownBy w2 o) : w.grownBy w2 o :=
  ⟨k.os.trans h.os, k.tape.trans h.tape, k.output.trans h.output, Nat.le_trans h.size k.size, fun i hi hne => (k.block i (Nat.lt_of_lt_of_le hi h.size) hne).trans (h.block i hi hne)⟩
theorem turn_set (w : World) (b o : Nat) (v : Value) : w.grownBy (w.setCell ⟨b, o, none⟩ v) (some b) :=
  ⟨rfl, rfl, rfl, by simp, fun k _ hk => Below.heap_setCell _ _ _ k (fun e => hk (by rw [e]))⟩
theorem turn_fail (w : World) (b : Nat) : w.grownBy (failW w b) (some b) := turn_trans (turn_set _ _ _ _) (turn_set _ _ _ _)
theorem take_one (w : World) (b : Nat) (c : BitVec 8) (r : List (BitVec 8)) (hl : (c :: r).length ≤ maxLen) (h : RdAt w b (c :: r) false) :
    Calls Tryz.prog 187 #[.pointer (some ⟨b, 0, none⟩), .int .u64 1] w fun e w' => ∃ g o cap, e = .returned (.tuple #[.slice (some ⟨g, o, none⟩) 1 cap, .int .i64 0]) ∧ w'.cell? ⟨g, o, none⟩ = some (encB c) ∧ g < w'.heap.size ∧ RdAt w' b r false ∧ w.grownBy w' (some b) := by
  refine (take_yes w b _ 1 hl h (by simp)).mono ?_
  rintro e w1 ⟨v1, v2, rfl, rfl, hs, hr⟩
  obtain ⟨ad, cap, rfl, _, hs⟩ := hs
  rcases hs with ⟨hs, _⟩ | ⟨g, o, rfl, hg, hs⟩
  · simp at hs
  · exact ⟨g, o, cap, rfl, hs 0 (by simp), hg, hr, turn_set _ _ _ _⟩
def After (w w' : World) (b : Nat) (l : List (BitVec 8)) (bad : Bool) : Prop := RdAt w' b l bad ∧ w.grownBy w' (some b)
def UintPost (w : World) (b : Nat) (o : Option (BitVec 64 × List (BitVec 8))) (e : Ending) (w' : World) : Prop :=
  match o with
  | some (x, r) => e = .returned (.tuple #[encU x, .int .i64 0]) ∧ After w w' b r false
  | none => e = .returned (.tuple #[.int .u64 0, .int .i64 5]) ∧ After w w' b [] true
theorem uintPost_none {w w' : World} {b : Nat} {o : Option (BitVec 64 × List (BitVec 8))} {e : Ending} (h : o = none) (he : e = .returned (.tuple #[.int .u64 0, .int .i64 5])) (ha : After w w' b [] true) : UintPost w b o e w' := by
  subst h; exact ⟨he, ha⟩
theorem uintPost_some {w w' : World} {b : Nat} {o : Option (BitVec 64 × List (BitVec 8))} {e : Ending} {x : BitVec 64} {r : List (BitVec 8)} (h : o = some (x, r)) (he : e = .returned (.tuple #[encU x, .int .i64 0])) (ha : After w w' b r false) : UintPost w b o e w' := by
  subst h; exact ⟨he, ha⟩
set_option maxHeartbeats 800000 in
theorem uint_any (w : World) (b : Nat) (l : List (BitVec 8)) (bad : Bool) (hl : l.length ≤ 100000) (h : RdAt w b l bad) :
    Calls Tryz.prog 124 #[.pointer (some ⟨b, 0, none⟩)] w fun e w' => UintPost w b (rd bad l) e w' := by
  generalize ho : rd bad l = o
  have HO : Hid (o = if bad then none else rdU 10 0 0#64 l) := ho.symm
  clear ho
  have HR := Lib.hid h
  go_enter Tryz.func124, Tryz.ntmps124
  go_wp2
  go_loopw [9, 4] (fun i acc wr => ∃ (k : Nat) (x : BitVec 64) (r : List (BitVec 8)), k ≤ 10 ∧ i = .int .i64 k ∧ acc = .int .u64 (un x) ∧ o = (if bad then none else rdU (10 - k) k x r) ∧ r.length ≤ l.length ∧ RdAt wr b r bad ∧ w.grownBy wr (some b)) (fun i _ _ => 10 - (intOf i).toNat)
  case atStart => exact ⟨0, 0#64, l, by omega, rfl, rfl, HO.out, Nat.le_refl _, HR.out, turn_refl _ _⟩
  case round =>
    obtain ⟨k, x, r, hk, rfl, rfl, hrd, hrl, hrr, hg⟩ := hrel
    have HRR := Lib.hid hrr
    have HD := Lib.hid hrd
    have HG := Lib.hid hg
    clear hrr hrd hg
    by_cases hlt : k < 10
    · cases bad with
      | true =>
        go_wp2_with (go_at_call 187; refine (take_no _ _ _ _ 1 (by omega) (by unfold maxLen; omega) HRR.out (.inl rfl)).mono ?_; rintro e w1 ⟨rfl, rfl⟩)
        go_ret2
        exact uintPost_none HD.out rfl ⟨HRR.out.failed, turn_trans HG.out (turn_fail _ _)⟩
      | false =>
        cases r with
        | nil =>
          go_wp2_with (go_at_call 187; refine (take_no _ _ _ _ 1 (by omega) (by unfold maxLen; omega) HRR.out (.inr (by simp))).mono ?_; rintro e w1 ⟨rfl, rfl⟩)
          go_ret2
          exact uintPost_none (by rw [HD.out, show 10 - k = (9 - k) + 1 by omega]; rfl) rfl ⟨HRR.out.failed, turn_trans HG.out (turn_fail _ _)⟩
        | cons c r =>
          have hl' : (c :: r).length ≤ maxLen := by unfold maxLen; omega
          have HL' := Lib.hid hl'
          clear hl'
          go_wp2_with fail
          go_at_call 187
          refine (take_one _ _ _ _ HL'.out HRR.out).mono ?_
          rintro e w1 ⟨g1, o1, cap1, rfl, hc1, hg1, hr1, ht1⟩
          have HR1 := Lib.hid hr1
          have HT1 := Lib.hid (turn_trans HG.out ht1)
          clear hr1 ht1
          have hcb := ub_bound c
          have hcn : ub c = (c.toNat : Int) := rfl
          have hand : bits .and .u64 (ub c) 127 = un (Crc.reg c &&& 127#64) := by rw [← reg_ub, and_127]
          have hc0 : c = 0#8 ↔ ub c = 0 := ⟨fun h => by rw [h]; rfl, fun h => ub_inj h⟩
          have HC0 := Lib.hid hc0
          have HCN := Lib.hid hcn
          clear hc0 hcn
          generalize hn : ub c = n at *
          have HL1 := Lib.hid (show r.length ≤ l.length by have := hrl; simp at this; omega)
          have hval : bits .or .u64 (un x) (IntKind.u64.wrap (un (Crc.reg c &&& 127#64) * 2 ^ (7 * k))) = un (x ||| ((Crc.reg c &&& 127#64) <<< (7 * k))) := by rw [shl_un, or_un]
          by_cases h9 : k = 9
          · have H9 := Lib.hid h9
            have hd : ((k : Int) == 9) = true := by rw [beq_iff_eq]; omega
            have hk0 : (0 : Int) < (k : Int) := by omega
            clear h9
            by_cases h1 : 1 < n
            · go_wp2_with (go_at_call 188; refine (fail_any _ _ _ _ HR1.out).mono ?_; rintro e w2 ⟨rfl, rfl⟩)
              go_ret2
              exact uintPost_none (HD.out.trans (rdU_big H9.out (by have := HCN.out; omega))) rfl ⟨HR1.out.failed, turn_trans HT1.out (turn_fail _ _)⟩
            · by_cases h0 : n = 0
              · have H0 := Lib.hid h0
                have hq : (n == 0) = true := by rw [beq_iff_eq]; exact h0
                have hz128 : n < 128 := by omega
                clear h0
                go_wp2_with (go_at_call 188; refine (fail_any _ _ _ _ HR1.out).mono ?_; rintro e w2 ⟨rfl, rfl⟩)
                go_ret2
                exact uintPost_none (HD.out.trans (rdU_zero hlt (HC0.out.2 H0.out) (by omega))) rfl ⟨HR1.out.failed, turn_trans HT1.out (turn_fail _ _)⟩
              · have H0 := Lib.hid h0
                have hq : (n == 0) = false := by rw [beq_eq_false_iff_ne]; exact h0
                have hz128 : n < 128 := by omega
                clear h0
                go_wp2
                go_ret2
                exact uintPost_some (HD.out.trans (rdU_end hlt (by rintro ⟨_, h⟩; have := HCN.out; omega) (by have := HCN.out; omega) (by rintro ⟨h, _⟩; exact H0.out (HC0.out.1 h)))) rfl ⟨HR1.out, HT1.out⟩
          · have H9 := Lib.hid h9
            have hd : ((k : Int) == 9) = false := by rw [beq_eq_false_iff_ne]; omega
            clear h9
            by_cases h128 : n < 128
            · by_cases h0 : n = 0
              · have H0 := Lib.hid h0
                have hq : (n == 0) = true := by rw [beq_iff_eq]; exact h0
                have hz128 : n < 128 := by omega
                clear h0
                by_cases hk0 : 0 < k
                · go_wp2_with (go_at_call 188; refine (fail_any _ _ _ _ HR1.out).mono ?_; rintro e w2 ⟨rfl, rfl⟩)
                  go_ret2
                  exact uintPost_none (HD.out.trans (rdU_zero hlt (HC0.out.2 H0.out) hk0)) rfl ⟨HR1.out.failed, turn_trans HT1.out (turn_fail _ _)⟩
                · have HK := Lib.hid hk0
                  go_wp2
                  go_ret2
                  exact uintPost_some (HD.out.trans (rdU_end hlt (fun h => H9.out h.1) (by have := HCN.out; omega) (fun h => HK.out h.2))) rfl ⟨HR1.out, HT1.out⟩
              · have H0 := Lib.hid h0
                have hq : (n == 0) = false := by rw [beq_eq_false_iff_ne]; exact h0
                have hz128 : n < 128 := by omega
                clear h0
                go_wp2
                go_ret2
                exact uintPost_some (HD.out.trans (rdU_end hlt (fun h => H9.out h.1) (by have := HCN.out; omega) (fun h => H0.out (HC0.out.1 h.1)))) rfl ⟨HR1.out, HT1.out⟩
            · go_wp2
              go_roundw
              case rel => exact ⟨k + 1, _, r, by omega, by go_num, rfl, HD.out.trans (rdU_next hlt H9.out (by have := HCN.out; omega)), HL1.out, HR1.out, HT1.out⟩
              case measure => simp [intOf]; omega
    · go_wp2_with (go_at_call 188; refine (fail_any _ _ _ _ HRR.out).mono ?_; rintro e w1 ⟨rfl, rfl⟩)
      go_ret2
      exact uintPost_none (by rw [HD.out, show 10 - k = 0 by omega]; cases bad <;> rfl) rfl ⟨HRR.out.failed, turn_trans HG.out (turn_fail _ _)⟩
end Go.Proofs.YtjabgpejmnpamaaGreatDoor

namespace Go.Proofs.YtjabgpejmnpamaaGreatDoor
open Go.RowKit
attribute [local go_sem] xor_un and_un or_un not_un wrap_ub
theorem i64_wrap (n : Int) : IntKind.i64.wrap n = (n + 9223372036854775808) % 18446744073709551616 - 9223372036854775808 := by
  simp only [IntKind.wrap, IntKind.bits, IntKind.signed]; simp; omega
def ReadPost {α : Type} (P : World → Value → α → Prop) (zero : Value) (w : World) (b : Nat) (o : Option (α × List (BitVec 8))) (e : Ending) (w' : World) : Prop :=
  match o with
  | some (x, r) => ∃ v, e = .returned (.tuple #[v, .int .i64 0]) ∧ P w' v x ∧ After w w' b r false
  | none => e = .returned (.tuple #[zero, .int .i64 5]) ∧ After w w' b [] true
section
variable {α : Type} {P : World → Value → α → Prop} {zero : Value} {w w' : World} {b : Nat} {o : Option (α × List (BitVec 8))} {e : Ending}
theorem readPost_none (h : o = none) (he : e = .returned (.tuple #[zero, .int .i64 5])) (ha : After w w' b [] true) : ReadPost P zero w b o e w' := by
  subst h; exact ⟨he, ha⟩
theorem readPost_some {x : α} {r : List (BitVec 8)} {v : Value} (h : o = some (x, r)) (he : e = .returned (.tuple #[v, .int .i64 0])) (hp : P w' v x) (ha : After w w' b r false) : ReadPost P zero w b o e w' := by
  subst h; exact ⟨v, he, hp, ha⟩
end
def rdC (most : Int) (bad : Bool) (l : List (BitVec 8)) : Option (Int × List (BitVec 8)) :=
  match rd bad l with
  | some (x, r) => if 0 ≤ most ∧ un x ≤ most then some (un x, r) else none
  | none => none
def rdB (bad : Bool) (l : List (BitVec 8)) : Option (List (BitVec 8) × List (BitVec 8)) :=
  match rd bad l with
  | some (x, r) => if x.toNat ≤ r.length then some (r.take x.toNat, r.drop x.toNat) else none
  | none => none
def IsInt (w : World) (v : Value) (x : Int) : Prop := v = .int .i64 x
def IsBytes (w : World) (v : Value) (l : List (BitVec 8)) : Prop := SliceAt encB w v l
theorem rd_len {bad : Bool} {l : List (BitVec 8)} {x : BitVec 64} {r : List (BitVec 8)} (h : rd bad l = some (x, r)) : r.length ≤ l.length := by
  have key : ∀ (f k : Nat) (y : BitVec 64) (l : List (BitVec 8)), rdU f k y l = some (x, r) → r.length ≤ l.length := by
    intro f
    induction f with
    | zero => intro k y l h; simp [rdU] at h
    | succ f ih =>
      intro k y l h
      cases l with
      | nil => simp [rdU] at h
      | cons c l =>
        unfold rdU at h
        split at h
        · cases h
        split at h
        · split at h
          · cases h
          · cases h; simp
        · have := ih _ _ _ h
          simp; omega
  unfold rd at h
  split at h
  · cases h
  · exact key _ _ _ _ h
set_option maxHeartbeats 400000 in
theorem count_any (w : World) (b : Nat) (l : List (BitVec 8)) (bad : Bool) (most : Int) (hm : -9223372036854775808 ≤ most ∧ most ≤ 9223372036854775807) (hl : l.length ≤ 100000) (h : RdAt w b l bad) :
    Calls Tryz.prog 125 #[.pointer (some ⟨b, 0, none⟩), .int .i64 most] w fun e w' => ReadPost IsInt (.int .i64 0) w b (rdC most bad l) e w' := by
  have HR := Lib.hid h
  clear h
  generalize ho : rdC most bad l = o
  unfold rdC at ho
  have HO := Lib.hid ho
  clear ho
  go_enter Tryz.func125, Tryz.ntmps125
  go_wp2_with fail
  go_at_call 124
  refine (uint_any _ _ _ _ hl HR.out).mono ?_
  intro e w1 hu
  cases hr : rd bad l with
  | none =>
    rw [hr] at hu
    have hno : Hid (o = none) := by rw [hr] at HO; exact HO.out.symm
    obtain ⟨rfl, ha⟩ := hu
    have HA := Lib.hid ha
    clear ha hr
    go_wp2
    go_ret2
    exact readPost_none hno.out rfl HA.out
  | some p =>
    obtain ⟨x, r⟩ := p
    rw [hr] at hu
    obtain ⟨rfl, ha⟩ := hu
    have HA := Lib.hid ha
    have HR1 := Lib.hid ha.1
    clear ha
    have hxb := un_bound x
    by_cases hc : 0 ≤ most ∧ un x ≤ most
    · have hso : Hid (o = some (un x, r)) := by rw [hr] at HO; simp only [if_pos hc] at HO; exact HO.out.symm
      obtain ⟨hc1, hc2⟩ := hc
      clear hr
      go_wp2
      go_ret2
      exact readPost_some hso.out rfl rfl HA.out
    · have hno : Hid (o = none) := by rw [hr] at HO; simp only [if_neg hc] at HO; exact HO.out.symm
      clear hr
      by_cases hc0 : 0 ≤ most
      · have hc1 : most < un x := by omega
        clear hc
        go_wp2_with (go_at_call 188; refine (fail_any _ _ _ _ HR1.out).mono ?_; rintro e w2 ⟨rfl, rfl⟩)
        go_ret2
        exact readPost_none hno.out rfl ⟨HR1.out.failed, turn_trans HA.out.2 (turn_fail _ _)⟩
      · clear hc
        go_wp2_with (go_at_call 188; refine (fail_any _ _ _ _ HR1.out).mono ?_; rintro e w2 ⟨rfl, rfl⟩)
        go_ret2
        exact readPost_none hno.out rfl ⟨HR1.out.failed, turn_trans HA.out.2 (turn_fail _ _)⟩
set_option maxHeartbeats 400000 in
theorem bytes_any (w : World) (b : Nat) (l : List (BitVec 8)) (bad : Bool) (hl : l.length ≤ 100000) (h : RdAt w b l bad) :
    Calls Tryz.prog 126 #[.pointer (some ⟨b, 0, none⟩)] w fun e w' => ReadPost IsBytes (.slice none 0 0) w b (rdB bad l) e w' := by
  have HR := Lib.hid h
  clear h
  generalize ho : rdB bad l = o
  unfold rdB at ho
  have HO := Lib.hid ho
  clear ho
  go_enter Tryz.func126, Tryz.ntmps126
  go_wp2_with fail
  go_at_call 124
  refine (uint_any _ _ _ _ hl HR.out).mono ?_
  intro e w1 hu
  cases hr : rd bad l with
  | none =>
    rw [hr] at hu
    have hno : Hid (o = none) := by rw [hr] at HO; exact HO.out.symm
    obtain ⟨rfl, ha⟩ := hu
    have HA := Lib.hid ha
    clear ha hr
    go_wp2
    go_ret2
    exact readPost_none hno.out rfl HA.out
  | some p =>
    obtain ⟨x, r⟩ := p
    have hrl := rd_len hr
    rw [hr] at hu
    obtain ⟨rfl, ha⟩ := hu
    have HA := Lib.hid ha
    have HR1 := Lib.hid ha.1
    clear ha
    by_cases hc : x.toNat ≤ r.length
    · have hso : Hid (o = some (r.take x.toNat, r.drop x.toNat)) := by rw [hr] at HO; simp only [if_pos hc] at HO; exact HO.out.symm
      clear hr
      have HT : Hid (∀ w', Calls Tryz.prog 187 #[.pointer (some ⟨b, 0, none⟩), .int .u64 (x.toNat : Int)] w1 w' → Calls Tryz.prog 187 #[.pointer (some ⟨b, 0, none⟩), encU x] w1 w') := fun _ h => h
      go_wp2_with fail
      go_at_call 187
      refine HT.out _ ((take_yes _ _ r x.toNat (by unfold maxLen; omega) HR1.out hc).mono ?_)
      rintro e w2 ⟨v, v', rfl, rfl, hs, hr2⟩
      have HS := Lib.hid hs
      have HR2 := Lib.hid hr2
      clear hs hr2
      go_wp2_with fail
      go_ret2
      exact readPost_some hso.out rfl HS.out ⟨HR2.out, turn_trans HA.out.2 (turn_set _ _ _ _)⟩
    · have hno : Hid (o = none) := by rw [hr] at HO; simp only [if_neg hc] at HO; exact HO.out.symm
      clear hr
      have HT : Hid (∀ w', Calls Tryz.prog 187 #[.pointer (some ⟨b, 0, none⟩), .int .u64 (x.toNat : Int)] w1 w' → Calls Tryz.prog 187 #[.pointer (some ⟨b, 0, none⟩), encU x] w1 w') := fun _ h => h
      go_wp2_with fail
      go_at_call 187
      refine HT.out _ ((take_no _ _ r false x.toNat x.isLt (by unfold maxLen; omega) HR1.out (.inr (by omega))).mono ?_)
      rintro e w2 ⟨rfl, rfl⟩
      go_wp2_with fail
      go_ret2
      exact readPost_none hno.out rfl ⟨HR1.out.failed, turn_trans HA.out.2 (turn_fail _ _)⟩
def fin (bad : Bool) (l : List (BitVec 8)) : Int := if bad = true ∨ l ≠ [] then 5 else 0
theorem done_any (w : World) (b : Nat) (l : List (BitVec 8)) (bad : Bool) (hl : l.length ≤ 100000) (h : RdAt w b l bad) :
    Calls Tryz.prog 127 #[.pointer (some ⟨b, 0, none⟩)] w fun e w' => e = .returned (.int .i64 (fin bad l)) ∧ w = w' := by
  obtain ⟨hlt, ⟨v, hv, hs⟩, hf, hfr, hnb⟩ := h
  obtain ⟨ad, cap, rfl, hca, hs⟩ := hs
  clear hs hnb hfr
  cases bad with
  | true =>
    go_enter Tryz.func127, Tryz.ntmps127
    go_wp2
    go_ret
    exact ⟨rfl, rfl⟩
  | false =>
    cases l with
    | nil =>
      simp only [List.length_nil] at hv
      go_enter Tryz.func127, Tryz.ntmps127
      go_wp2
      go_ret
      exact ⟨rfl, rfl⟩
    | cons c l =>
      have hp : 0 < (c :: l).length := by simp
      generalize hn : (c :: l).length = n at *
      go_enter Tryz.func127, Tryz.ntmps127
      go_wp2
      go_ret
      exact ⟨rfl, rfl⟩
end Go.Proofs.YtjabgpejmnpamaaGreatDoor

namespace Go.Proofs.YtjabgpejmnpamaaGreatDoor
open Go.RowKit
attribute [local go_sem] xor_un and_un or_un not_un wrap_ub
theorem low7 (c : BitVec 8) : un (Crc.reg c &&& 127#64) = ub c % 128 := by
  rw [← reg_ub]
  unfold un
  rw [BitVec.toNat_and, show (127#64).toNat = 2 ^ 7 - 1 from rfl, Nat.and_two_pow_sub_one_eq_mod]
  omega
end Go.Proofs.YtjabgpejmnpamaaGreatDoor

namespace Go.Proofs.YtjabgpejmnpamaaGreatDoor
open Go.RowKit
theorem grp (a b : Nat) (h : a < 128) : BitVec.ofNat 64 a ||| BitVec.ofNat 64 b <<< 7 = BitVec.ofNat 64 (a + 128 * b) := by
  apply BitVec.eq_of_getLsbD_eq
  intro i hi
  rw [BitVec.getLsbD_or, BitVec.getLsbD_shiftLeft, BitVec.getLsbD_ofNat, BitVec.getLsbD_ofNat, BitVec.getLsbD_ofNat]
  have e : (a + 128 * b).testBit i = if i < 7 then a.testBit i else b.testBit (i - 7) := by
    rw [Nat.add_comm]; exact Nat.testBit_two_pow_mul_add b (show a < 2 ^ 7 from h) i
  rw [e]
  by_cases h7 : i < 7
  · simp [h7, hi]
  · have ha : a.testBit i = false := Nat.testBit_lt_two_pow (Nat.lt_of_lt_of_le h (by
      have : 2 ^ 7 ≤ 2 ^ i := Nat.pow_le_pow_right (by decide) (by omega)
      omega))
    simp [h7, hi, ha]
    omega
theorem reg_low (c : BitVec 8) : Crc.reg c &&& 127#64 = BitVec.ofNat 64 (c.toNat % 128) := by
  apply BitVec.eq_of_toNat_eq
  have h := low7 c
  unfold un ub at h
  rw [BitVec.toNat_ofNat]
  omega
theorem grp_shift (x : BitVec 64) (c : BitVec 8) (m k : Nat) : (x ||| (Crc.reg c &&& 127#64) <<< (7 * k)) ||| BitVec.ofNat 64 m <<< (7 * (k + 1)) = x ||| BitVec.ofNat 64 (c.toNat % 128 + 128 * m) <<< (7 * k) := by
  rw [← grp _ _ (Nat.mod_lt _ (by decide)), reg_low, BitVec.or_assoc, BitVec.shiftLeft_or_distrib, ← BitVec.shiftLeft_add, show 7 + 7 * k = 7 * (k + 1) by omega]
theorem rdU_uv : ∀ (f k : Nat) (x : BitVec 64) (m : Nat) (r : List (BitVec 8)), f + k = 10 → m < 2 ^ (64 - 7 * k) → (k = 0 ∨ m ≠ 0) → k ≤ 9 →
    rdU f k x (uv m ++ r) = some (x ||| BitVec.ofNat 64 m <<< (7 * k), r)
  | 0, k, x, m, r, hf, hm, h0, hk => by omega
  | f + 1, k, x, m, r, hf, hm, h0, hk => by
    by_cases h128 : m < 128
    · rw [uv_low h128, List.singleton_append]
      have hc : (BitVec.ofNat 8 m).toNat = m := by rw [BitVec.toNat_ofNat]; omega
      unfold rdU
      rw [if_neg, if_pos (by omega), if_neg, reg_low, hc, Nat.mod_eq_of_lt h128]
      · rintro ⟨e, h⟩
        have := congrArg BitVec.toNat e
        rw [hc] at this
        rcases h0 with h0 | h0
        · omega
        · exact h0 this
      · rintro ⟨e, h⟩
        subst e
        have : m < 2 := hm
        omega
    · rw [uv_high h128, List.cons_append]
      have hc : (BitVec.ofNat 8 m ||| 128#8).toNat = m % 128 + 128 := by
        rw [BitVec.toNat_or, BitVec.toNat_ofNat]
        have h1 := or_table ⟨m % 2 ^ 8, Nat.mod_lt _ (by decide)⟩
        simp only at h1
        rw [show (128#8).toNat = 128 from rfl, h1]
        omega
      have hk9 : k ≠ 9 := by
        rintro rfl
        have : m < 2 := hm
        omega
      unfold rdU
      rw [if_neg (fun h => hk9 h.1), if_neg (by omega)]
      have e : 2 ^ (64 - 7 * k) = 128 * 2 ^ (64 - 7 * (k + 1)) := by
        rw [show 64 - 7 * k = 7 + (64 - 7 * (k + 1)) by omega, Nat.pow_add]
      rw [rdU_uv f (k + 1) _ (m / 128) r (by omega) (by omega) (.inr (by omega)) (by omega), grp_shift, hc]
      rw [show (m % 128 + 128) % 128 + 128 * (m / 128) = m by omega]
theorem rd_uv (m : Nat) (r : List (BitVec 8)) (h : m < 18446744073709551616) : rd false (uv m ++ r) = some (BitVec.ofNat 64 m, r) := by
  unfold rd
  rw [if_neg (by simp), rdU_uv 10 0 0#64 m r rfl h (.inl rfl) (by omega)]
  simp
theorem rdB_uv (l r : List (BitVec 8)) (h : l.length < 18446744073709551616) : rdB false (uv l.length ++ (l ++ r)) = some (l, r) := by
  unfold rdB
  rw [rd_uv _ _ h]
  simp only [BitVec.toNat_ofNat]
  rw [Nat.mod_eq_of_lt (by omega), if_pos (by simp)]
  simp
end Go.Proofs.YtjabgpejmnpamaaGreatDoor

namespace Go.Proofs.YtjabgpejmnpamaaGreatDoor.Lb
abbrev Bts := List (BitVec 8)
theorem getD_set {α : Type} {l : List α} {i j : Nat} {x d : α} (h : i < l.length) : (l.set i x).getD j d = if i = j then x else l.getD j d := by
  rw [List.getD_eq_getElem?_getD, List.getD_eq_getElem?_getD]
  by_cases e : i = j
  · subst e
    rw [if_pos rfl, List.getElem?_set_self h]; rfl
  · rw [if_neg e, List.getElem?_set_ne e]
def bitsTo (x : List Bool) : Nat → Bts
  | 0 => List.replicate ((x.length + 7) / 8) 0#8
  | i + 1 => if x.getD i false then (bitsTo x i).set (i / 8) ((bitsTo x i).getD (i / 8) 0#8 ||| 1#8 <<< (i % 8)) else bitsTo x i
def bitsL (x : List Bool) : Bts := bitsTo x x.length
theorem bitsTo_len (x : List Bool) : ∀ i, (bitsTo x i).length = (x.length + 7) / 8
  | 0 => by rw [bitsTo, List.length_replicate]
  | i + 1 => by rw [bitsTo]; split <;> simp [bitsTo_len x i]
theorem one_bit (m j : Nat) (hm : m < 8) (hj : j < 8) : (1#8 <<< m).getLsbD j = decide (j = m) := by
  match m, hm, j, hj with
  | 0, _, j, hj | 1, _, j, hj | 2, _, j, hj | 3, _, j, hj | 4, _, j, hj | 5, _, j, hj | 6, _, j, hj | 7, _, j, hj =>
    match j, hj with
    | 0, _ | 1, _ | 2, _ | 3, _ | 4, _ | 5, _ | 6, _ | 7, _ => decide
theorem bitsTo_bit (x : List Bool) : ∀ i, i ≤ x.length → ∀ k j, j < 8 → ((bitsTo x i).getD k 0#8).getLsbD j = (decide (8 * k + j < i) && x.getD (8 * k + j) false)
  | 0, _, k, j, hj => by
    rw [bitsTo, List.getD_eq_getElem?_getD, List.getElem?_replicate]
    split <;> simp
  | i + 1, hi, k, j, hj => by
    have ih := bitsTo_bit x i (by omega)
    rw [bitsTo]
    by_cases hx : x.getD i false = true
    · rw [if_pos hx, getD_set (by rw [bitsTo_len]; omega)]
      by_cases hk : i / 8 = k
      · subst hk
        rw [if_pos rfl, BitVec.getLsbD_or, ih _ j hj, one_bit _ _ (by omega) hj]
        by_cases hji : j = i % 8
        · have e : 8 * (i / 8) + j = i := by omega
          rw [e, hx, decide_eq_true hji, decide_eq_true (show i < i + 1 by omega)]; simp
        · rw [decide_eq_false hji, Bool.or_false]
          congr 1
          exact decide_eq_decide.2 (by omega)
      · rw [if_neg hk, ih k j hj]
        congr 1
        exact decide_eq_decide.2 (by omega)
    · rw [if_neg hx, ih k j hj]
      by_cases e : 8 * k + j = i
      · have : x.getD i false = false := by simpa using hx
        rw [e, this]; simp
      · congr 1
        exact decide_eq_decide.2 (by omega)
def deadP (D : Int) (b : Bts) : List Bool := (List.range (min D.toNat (8 * b.length))).map fun i => (b.getD (i / 8) 0#8).getLsbD (i % 8)
theorem deadP_bits (x : List Bool) {D : Int} (h : D = x.length) : deadP D (bitsL x) = x := by
  subst h
  unfold deadP bitsL
  rw [bitsTo_len]
  apply List.ext_getElem
  · rw [List.length_map, List.length_range]; omega
  · intro i h1 h2
    rw [List.getElem_map, List.getElem_range, bitsTo_bit x _ (Nat.le_refl _) _ _ (Nat.mod_lt _ (by decide)), show 8 * (i / 8) + i % 8 = i by omega, decide_eq_true h2, Bool.true_and]
    exact Go.Proofs.YtjabgpejmnpamaaGreatDoor.getD_in h2
def numsL (ns : List Nat) : Bts := ns.flatMap uv
def cfgBytes (c : Cfg) : Bts := (cfgL c).flatMap fun n => uv n.toNat
def payL (l : Lab) (x : List Bool) : Bts :=
  numsL [l.array.toNat, l.disk.toNat, l.gen.toNat, l.prev.toNat] ++ cfgBytes l.c ++ uv (bitsL x).length ++ bitsL x ++ numsL [l.blob.toNat, l.sum.toNat, l.root.toNat]
def be8 (s : BitVec 64) (k : Nat) : Bts := (List.range k).map fun i => (s >>> (56 - 8 * i)).setWidth 8
theorem be8_next (s : BitVec 64) (k : Nat) : be8 s (k + 1) = be8 s k ++ [(s >>> (56 - 8 * k)).setWidth 8] := by unfold be8; rw [List.range_succ, List.map_append]; rfl
theorem be8_len (s : BitVec 64) (k : Nat) : (be8 s k).length = k := by unfold be8; simp
def sealL (b : Bts) : Bts := b ++ be8 (Crc.sum b) 8
theorem sealL_len (b : Bts) : (sealL b).length = b.length + 8 := by unfold sealL; rw [List.length_append, be8_len]
def bodyL (g d i n : Nat) (c : Bts) : Bts := [76#8] ++ numsL [g, d, i, n] ++ uv c.length ++ c
def sectorL (g d i n : Nat) (c : Bts) : Bts := sealL (bodyL g d i n c)
def partsN (p : Bts) : Nat := (p.length + 27) / 28
def partAt (p : Bts) (i : Nat) : Bts := (p.drop (28 * i)).take 28
def cutL (g d : Nat) (p : Bts) : List Bts := (List.range (partsN p)).map fun i => sectorL g d i (partsN p) (partAt p i)
def encL (l : Lab) (x : List Bool) : List Bts := cutL l.gen.toNat l.disk.toNat (payL l x)
theorem cutL_len (g d : Nat) (p : Bts) : (cutL g d p).length = partsN p := by unfold cutL; simp
theorem cutL_get {g d : Nat} {p : Bts} {i : Nat} (h : i < partsN p) : (cutL g d p)[i]? = some (sectorL g d i (partsN p) (partAt p i)) := by
  unfold cutL
  rw [List.getElem?_map, List.getElem?_range h]; rfl
theorem partAt_len (p : Bts) (i : Nat) : (partAt p i).length ≤ 28 := by unfold partAt; rw [List.length_take]; omega
theorem parts_take (p : Bts) : ∀ k, (List.range k).flatMap (partAt p) = p.take (28 * k)
  | 0 => by simp
  | k + 1 => by
    rw [List.range_succ, List.flatMap_append, parts_take p k, show 28 * (k + 1) = 28 * k + 28 by omega, List.take_add]
    simp [partAt]
theorem parts_join (p : Bts) : (List.range (partsN p)).flatMap (partAt p) = p := by
  rw [parts_take, List.take_of_length_le]
  unfold partsN; omega
abbrev St := Bool × Bts
def stU (s : St) : BitVec 64 × St := match rd s.1 s.2 with
  | some (x, r) => (x, (false, r))
  | none => (0#64, (true, []))
def stC (most : Int) (s : St) : Int × St := match rdC most s.1 s.2 with
  | some (n, r) => (n, (false, r))
  | none => (0, (true, []))
def stB (s : St) : Bts × St := match rdB s.1 s.2 with
  | some (b, r) => (b, (false, r))
  | none => ([], (true, []))
def stN (f : St → Int × St) : Nat → St → List Int × St
  | 0, s => ([], s)
  | k + 1, s => ((stN f k s).1 ++ [(f (stN f k s).2).1], (f (stN f k s).2).2)
theorem stN_len (f : St → Int × St) (s : St) : ∀ k, (stN f k s).1.length = k
  | 0 => rfl
  | k + 1 => by rw [stN, List.length_append, stN_len f s k]; rfl
def cfgOf (n : List Int) : Cfg := ⟨n.getD 0 0, n.getD 1 0, n.getD 2 0, n.getD 3 0, n.getD 4 0, n.getD 5 0, n.getD 6 0, n.getD 7 0, n.getD 8 0, n.getD 9 0, n.getD 10 0⟩
theorem stU_un (x : BitVec 64) (r : Bts) : stU (false, uv x.toNat ++ r) = (x, (false, r)) := by
  unfold stU
  rw [rd_uv x.toNat r (by have := x.isLt; omega)]
  simp
theorem stU_uv {n : Nat} (h : n < 18446744073709551616) (r : Bts) : stU (false, uv n ++ r) = (BitVec.ofNat 64 n, (false, r)) := by
  unfold stU
  rw [rd_uv n r h]
theorem stC_uv {n most : Int} (h0 : 0 ≤ n) (h1 : n ≤ most) (h2 : most < 9223372036854775808) (r : Bts) : stC most (false, uv n.toNat ++ r) = (n, (false, r)) := by
  unfold stC rdC
  rw [rd_uv n.toNat r (by omega)]
  have e : un (BitVec.ofNat 64 n.toNat) = n := by
    unfold un
    rw [BitVec.toNat_ofNat, Nat.mod_eq_of_lt (by omega)]; omega
  simp only [e]
  rw [if_pos ⟨by omega, h1⟩]
theorem stB_uv (b r : Bts) (h : b.length < 18446744073709551616) : stB (false, uv b.length ++ (b ++ r)) = (b, (false, r)) := by
  unfold stB
  rw [rdB_uv b r h]
theorem stN_uv {f : St → Int × St} (ns : List Int) (r : Bts) (hf : ∀ n, n ∈ ns → ∀ r, f (false, uv n.toNat ++ r) = (n, (false, r))) : ∀ k, k ≤ ns.length →
    stN f k (false, (ns.flatMap fun n => uv n.toNat) ++ r) = (ns.take k, (false, ((ns.drop k).flatMap fun n => uv n.toNat) ++ r))
  | 0, _ => by simp [stN]
  | k + 1, hk => by
    have ih := stN_uv ns r hf k (by omega)
    have hlt : k < ns.length := by omega
    rw [stN, ih, List.drop_eq_getElem_cons hlt, List.flatMap_cons, List.append_assoc]
    simp only
    rw [hf _ (List.getElem_mem hlt), List.take_succ_eq_append_getElem hlt]
def parseT (b : Bts) : (Lab × List Bool) × Bool :=
  let a := stU (false, b)
  let d := stC 60 a.2
  let g := stU d.2
  let p := stU g.2
  let c := stN (stC 2147483647) 11 p.2
  let t := stB c.2
  let z := stC 1048576 t.2
  let s := stU z.2
  let r := stU s.2
  ((⟨a.1, d.1, g.1, p.1, cfgOf c.1, z.1, s.1, r.1⟩, deadP (cfgOf c.1).d t.1), decide (fin r.2.1 r.2.2 = 0) && validL ⟨a.1, d.1, g.1, p.1, cfgOf c.1, z.1, s.1, r.1⟩ (deadP (cfgOf c.1).d t.1))
theorem parse_valid {b : Bts} (h : (parseT b).2 = true) : validL (parseT b).1.1 (parseT b).1.2 = true := by
  unfold parseT at h ⊢
  simp only [Bool.and_eq_true] at h
  exact h.2
structure Fine (l : Lab) (x : List Bool) : Prop where
  disk : 0 ≤ l.disk ∧ l.disk < 60
  gen : 1 ≤ l.gen.toNat ∧ l.gen.toNat ≤ 4294967295
  prev : l.prev.toNat < l.gen.toNat
  cfg : ∀ n, n ∈ cfgL l.c → 0 ≤ n ∧ n ≤ 65535
  d : l.c.d = x.length
  len : x.length ≤ 60
  blob : 0 ≤ l.blob ∧ l.blob ≤ 1048576
theorem fine_of {l : Lab} {x : List Bool} (h : validL l x = true) : Fine l x := by
  unfold validL cfgB cfgHead labHead validB at h
  simp only [Bool.and_eq_true, decide_eq_true_eq] at h
  obtain ⟨⟨⟨⟨h1, h4⟩, h5⟩, h2⟩, h3⟩ := h
  have e1 : un l.gen = (l.gen.toNat : Int) := rfl
  have e2 : un l.prev = (l.prev.toNat : Int) := rfl
  rw [e1, e2] at h2
  refine ⟨⟨h2.1, by omega⟩, by omega, by omega, ?_, by omega, by omega, h3.2.2.2⟩
  intro n hn
  simp only [cfgL, List.mem_cons, List.not_mem_nil, or_false] at hn
  omega
theorem pay_right (l : Lab) (x : List Bool) : payL l x = uv l.array.toNat ++ (uv l.disk.toNat ++ (uv l.gen.toNat ++ (uv l.prev.toNat ++ (((cfgL l.c).flatMap fun n => uv n.toNat) ++ (uv (bitsL x).length ++ (bitsL x ++ (uv l.blob.toNat ++ (uv l.sum.toNat ++ (uv l.root.toNat ++ []))))))))) := by
  simp [payL, numsL, cfgBytes]
theorem cfgOf_L (c : Cfg) : cfgOf (cfgL c) = c := rfl
theorem fin_nil : fin false [] = 0 := by unfold fin; simp
theorem parse_pay {l : Lab} {x : List Bool} (h : validL l x = true) : parseT (payL l x) = ((l, x), true) := by
  have F := fine_of h
  have hb : (bitsL x).length < 18446744073709551616 := by unfold bitsL; rw [bitsTo_len]; have := F.len; omega
  have hN := stN_uv (f := stC 2147483647) (cfgL l.c) (uv (bitsL x).length ++ (bitsL x ++ (uv l.blob.toNat ++ (uv l.sum.toNat ++ (uv l.root.toNat ++ []))))) (fun n hn r => stC_uv (F.cfg n hn).1 (by have := (F.cfg n hn).2; omega) (by decide) r) 11 (Nat.le_refl _)
  have hN2 : stN (stC 2147483647) 11 (false, ((cfgL l.c).flatMap fun n => uv n.toNat) ++ (uv (bitsL x).length ++ (bitsL x ++ (uv l.blob.toNat ++ (uv l.sum.toNat ++ (uv l.root.toNat ++ [])))))) = (cfgL l.c, (false, uv (bitsL x).length ++ (bitsL x ++ (uv l.blob.toNat ++ (uv l.sum.toNat ++ (uv l.root.toNat ++ [])))))) := hN
  unfold parseT
  rw [pay_right]
  simp only [stU_un, stC_uv F.disk.1 (show l.disk ≤ 60 by have := F.disk.2; omega) (by decide), hN2, stB_uv _ _ hb, stC_uv F.blob.1 F.blob.2 (by decide), cfgOf_L, deadP_bits x F.d, fin_nil, h]
  rfl
theorem cfgB_len (c : Cfg) (h : ∀ n, n ∈ cfgL c → 0 ≤ n ∧ n ≤ 65535) : (cfgBytes c).length ≤ 33 := by
  have key : ∀ l : List Int, (∀ n, n ∈ l → 0 ≤ n ∧ n ≤ 65535) → (l.flatMap fun n => uv n.toNat).length ≤ 3 * l.length := by
    intro l
    induction l with
    | nil => intro _; simp
    | cons a t ih =>
      intro h
      rw [List.flatMap_cons, List.length_append, List.length_cons]
      have := (uv_length 3 a.toNat (by decide) (by have := (h a (by simp)).2; omega)).2
      have := ih fun n hn => h n (by simp [hn])
      omega
  exact key (cfgL c) h
theorem pay_len {l : Lab} {x : List Bool} (F : Fine l x) : 1 ≤ (payL l x).length ∧ (payL l x).length ≤ 86 := by
  rw [pay_right]
  have h1 := uv_len l.array.toNat (by have := l.array.isLt; omega)
  have h2 := uv_length 1 l.disk.toNat (by decide) (by have := F.disk.2; omega)
  have h3 := uv_length 5 l.gen.toNat (by decide) (by have := F.gen.2; omega)
  have h4 := uv_length 5 l.prev.toNat (by decide) (by have := F.prev; have := F.gen.2; omega)
  have h5 := cfgB_len l.c F.cfg
  unfold cfgBytes at h5
  have h6 : (bitsL x).length ≤ 8 := by unfold bitsL; rw [bitsTo_len]; have := F.len; omega
  have h7 := uv_length 1 (bitsL x).length (by decide) (by omega)
  have h8 := uv_length 3 l.blob.toNat (by decide) (by have := F.blob.2; omega)
  have h9 := uv_len l.sum.toNat (by have := l.sum.isLt; omega)
  have h10 := uv_len l.root.toNat (by have := l.root.isLt; omega)
  simp only [List.length_append, List.length_nil]
  omega
theorem enc_len {l : Lab} {x : List Bool} (F : Fine l x) : 1 ≤ (encL l x).length ∧ (encL l x).length ≤ 4 := by
  unfold encL
  rw [cutL_len]
  have := pay_len F
  unfold partsN
  omega
theorem numsL_4 (a b c d : Nat) : numsL [a, b, c, d] = uv a ++ (uv b ++ (uv c ++ uv d)) := by simp [numsL]
theorem body_right (g d i n : Nat) (c : Bts) : bodyL g d i n c = 76#8 :: (uv g ++ (uv d ++ (uv i ++ (uv n ++ (uv c.length ++ (c ++ [])))))) := by
  unfold bodyL
  rw [numsL_4]
  simp
theorem sector_len {l : Lab} {x : List Bool} (F : Fine l x) {i : Nat} (hi : i < partsN (payL l x)) : (sectorL l.gen.toNat l.disk.toNat i (partsN (payL l x)) (partAt (payL l x) i)).length ≤ 64 := by
  unfold sectorL
  rw [sealL_len, body_right]
  have hp := pay_len F
  have hn : partsN (payL l x) ≤ 4 := by unfold partsN; omega
  have h1 := uv_length 5 l.gen.toNat (by decide) (by have := F.gen.2; omega)
  have h2 := uv_length 1 l.disk.toNat (by decide) (by have := F.disk.2; omega)
  have h3 := uv_length 1 i (by decide) (by omega)
  have h4 := uv_length 1 (partsN (payL l x)) (by decide) (by omega)
  have h5 := partAt_len (payL l x) i
  have h6 := uv_length 1 (partAt (payL l x) i).length (by decide) (by omega)
  simp only [List.length_cons, List.length_append, List.length_nil]
  omega
end Go.Proofs.YtjabgpejmnpamaaGreatDoor.Lb

namespace Go.Proofs.YtjabgpejmnpamaaGreatDoor.Lb
def sealedB (b : Bts) : Bool := decide (9 ≤ b.length) && (b.headD 0#8 == 76#8) && decide (sealL (b.take (b.length - 8)) = b)
def partT (b : Bts) : Option (Bts × Int) :=
  if sealedB b then
    let s := (stU (stU (stU (false, (b.take (b.length - 8)).drop 1)).2).2).2
    let n := stC 6 s
    let d := stB n.2
    if fin d.2.1 d.2.2 = 0 ∧ 1 ≤ n.1 then some (d.1, n.1) else none
  else none
theorem sealed_sector (b : Bts) (h : 1 ≤ b.length) (h1 : b.headD 0#8 = 76#8) : sealedB (sealL b) = true ∧ (sealL b).take ((sealL b).length - 8) = b := by
  have ht : (sealL b).take ((sealL b).length - 8) = b := by
    rw [sealL_len, Nat.add_sub_cancel]
    unfold sealL
    rw [List.take_left']
    rfl
  refine ⟨?_, ht⟩
  unfold sealedB
  rw [ht]
  have hh : (sealL b).headD 0#8 = b.headD 0#8 := by
    unfold sealL
    cases b with
    | nil => simp at h
    | cons a t => rfl
  rw [hh, h1, sealL_len]
  simp; omega
theorem part_sector {g d i n : Nat} {c : Bts} (hg : g < 18446744073709551616) (hd : d < 18446744073709551616) (hi : i < 18446744073709551616) (h1 : 1 ≤ n) (h6 : n ≤ 6) (hc : c.length < 18446744073709551616) : partT (sectorL g d i n c) = some (c, (n : Int)) := by
  obtain ⟨hs, ht⟩ := sealed_sector (bodyL g d i n c) (by rw [body_right]; simp) (by rw [body_right]; rfl)
  unfold partT sectorL
  rw [if_pos hs, ht, body_right]
  have hn : stC 6 (false, uv n ++ (uv c.length ++ (c ++ []))) = ((n : Int), (false, uv c.length ++ (c ++ []))) := stC_uv (n := (n : Int)) (by omega) (by omega) (by decide) _
  simp only [List.drop_succ_cons, List.drop_zero, stU_uv hg, stU_uv hd, stU_uv hi, hn, stB_uv c [] hc, fin_nil]
  rw [if_pos ⟨by simp, by omega⟩]
theorem sector_inj {g d i n g' d' i' n' : Nat} {c c' : Bts} (h : sectorL g d i n c = sectorL g' d' i' n' c') : g = g' ∧ d = d' ∧ i = i' ∧ n = n' ∧ c = c' := by
  unfold sectorL sealL at h
  have hb : bodyL g d i n c = bodyL g' d' i' n' c' := (List.append_inj' h (by rw [be8_len, be8_len])).1
  rw [body_right, body_right] at hb
  injection hb with _ hb
  obtain ⟨h1, hb⟩ := uv_prefix hb
  obtain ⟨h2, hb⟩ := uv_prefix hb
  obtain ⟨h3, hb⟩ := uv_prefix hb
  obtain ⟨h4, hb⟩ := uv_prefix hb
  obtain ⟨h5, hb⟩ := uv_prefix hb
  exact ⟨h1, h2, h3, h4, by simpa using hb⟩
def joinT (pt : Bts → Option (Bts × Int)) (S : List Bts) : Nat → Option Bts
  | 0 => some []
  | k + 1 => match joinT pt S k, (S[k]?).bind pt with
    | some a, some d => some (a ++ d.1)
    | _, _ => none
abbrev LX := Lab × List Bool
def decG (pt : Bts → Option (Bts × Int)) (ps : Bts → LX × Bool) (S : List Bts) : Option LX :=
  match (S[0]?).bind pt with
  | none => none
  | some d => match joinT pt S d.2.toNat with
    | none => none
    | some b => if (ps b).2 = true ∧ encL (ps b).1.1 (ps b).1.2 = S.take d.2.toNat then some (ps b).1 else none
def decT (S : List Bts) : Option LX := decG partT parseT S
def Begins (S : List Bts) (p : LX) : Prop := validL p.1 p.2 = true ∧ encL p.1 p.2 <+: S
theorem dec_sound {pt : Bts → Option (Bts × Int)} {ps : Bts → LX × Bool} {S : List Bts} {p : LX} (hv : ∀ b, (ps b).2 = true → validL (ps b).1.1 (ps b).1.2 = true) (h : decG pt ps S = some p) : Begins S p := by
  unfold decG at h
  split at h
  · cases h
  · split at h
    · cases h
    · rename_i d _ _ b _
      split at h
      · rename_i hc
        obtain rfl := Option.some.inj h
        exact ⟨hv b hc.1, by rw [hc.2]; exact List.take_prefix _ _⟩
      · cases h
theorem dec_complete {pt : Bts → Option (Bts × Int)} {ps : Bts → LX × Bool} {S : List Bts} {p : LX} (hp : validL p.1 p.2 = true → ps (payL p.1 p.2) = (p, true))
    (ht : ∀ i, i < partsN (payL p.1 p.2) → pt (sectorL p.1.gen.toNat p.1.disk.toNat i (partsN (payL p.1 p.2)) (partAt (payL p.1 p.2) i)) = some (partAt (payL p.1 p.2) i, (partsN (payL p.1 p.2) : Int)))
    (h : Begins S p) : decG pt ps S = some p := by
  obtain ⟨hv, T, rfl⟩ := h
  have F := fine_of hv
  have hl := enc_len F
  have hN : (encL p.1 p.2).length = partsN (payL p.1 p.2) := cutL_len _ _ _
  have hget : ∀ i, i < partsN (payL p.1 p.2) → ((encL p.1 p.2 ++ T)[i]?).bind pt = some (partAt (payL p.1 p.2) i, (partsN (payL p.1 p.2) : Int)) := by
    intro i hi
    rw [List.getElem?_append_left (by rw [hN]; exact hi)]
    unfold encL
    rw [cutL_get hi]
    exact ht i hi
  have hj : ∀ k, k ≤ partsN (payL p.1 p.2) → joinT pt (encL p.1 p.2 ++ T) k = some ((List.range k).flatMap (partAt (payL p.1 p.2))) := by
    intro k
    induction k with
    | zero => intro _; rfl
    | succ k ih =>
      intro hk
      rw [joinT, ih (by omega), hget k (by omega), List.range_succ, List.flatMap_append]
      simp
  unfold decG
  rw [hget 0 (by omega)]
  simp only [Int.toNat_natCast]
  rw [hj _ (Nat.le_refl _), parts_join]
  simp only [hp hv]
  rw [if_pos ⟨trivial, by rw [List.take_left' hN]⟩]
theorem dec_iff {S : List Bts} {p : LX} : decT S = some p ↔ Begins S p := by
  refine ⟨fun h => dec_sound (fun b => parse_valid) h, fun h => dec_complete (fun hv => parse_pay hv) (fun i hi => ?_) h⟩
  have F := fine_of h.1
  have hp := pay_len F
  have hn : partsN (payL p.1 p.2) ≤ 4 := by unfold partsN; omega
  have := F.gen.2
  have := F.disk.2
  exact part_sector (by omega) (by omega) (by omega) (by omega) (by omega) (by have := partAt_len (payL p.1 p.2) i; omega)
theorem begins_parts {S S' : List Bts} {p q : LX} (h : Begins S p) (g : Begins S' q) (h0 : S[0]? = S'[0]?) : (encL p.1 p.2).length = (encL q.1 q.2).length := by
  obtain ⟨hv, T, rfl⟩ := h
  obtain ⟨gv, U, rfl⟩ := g
  have h1 := enc_len (fine_of hv)
  have h2 := enc_len (fine_of gv)
  rw [List.getElem?_append_left (by omega), List.getElem?_append_left (by omega)] at h0
  unfold encL at h0 h1 h2 ⊢
  rw [cutL_len] at h1 h2 ⊢
  rw [cutL_len]
  rw [cutL_get (by omega), cutL_get (by omega)] at h0
  exact (sector_inj (Option.some.inj h0)).2.2.2.1
theorem dec_lost {l : Lab} {x : List Bool} {T : List Bts} {k : Nat} (hv : validL l x = true) (hk : k < (encL l x).length) (hp : ∀ i, i < k → T[i]? = (encL l x)[i]?) (hl : T[k]? = none ∨ T[k]? = some []) : decT T = none := by
  cases h : decT T with
  | none => rfl
  | some q =>
    exfalso
    have hb := dec_iff.1 h
    have hbl : Begins (encL l x) (l, x) := ⟨hv, List.prefix_refl _⟩
    obtain ⟨gv, U, rfl⟩ := hb
    have h2 := enc_len (fine_of gv)
    have hne : (encL q.1 q.2).length ≤ k := by
      rcases Nat.lt_or_ge k (encL q.1 q.2).length with h3 | h3
      · exfalso
        rw [List.getElem?_append_left h3] at hl
        rcases hl with hl | hl
        · rw [List.getElem?_eq_getElem h3] at hl; cases hl
        · unfold encL at hl h3
          rw [cutL_len] at h3
          rw [cutL_get h3] at hl
          have := congrArg (fun o : Option Bts => (o.getD []).length) hl
          simp only [Option.getD_some, List.length_nil] at this
          unfold sectorL at this
          rw [sealL_len] at this
          omega
      · exact h3
    have := begins_parts ⟨gv, List.prefix_append _ U⟩ hbl (hp 0 (by omega))
    simp only at this
    omega
end Go.Proofs.YtjabgpejmnpamaaGreatDoor.Lb

namespace Go.Proofs.YtjabgpejmnpamaaGreatDoor
open Go.RowKit
attribute [local go_sem] eq_strB
theorem appendBytes_any (v vx : Value) (l lx : List (BitVec 8)) (w : World) (hl : l.length ≤ 50000) (hlx : lx.length ≤ 50000) (h : SliceAt encB w v l) (hx : SliceAt encB w vx lx) :
    Calls Tryz.prog 36 #[v, vx] w fun e w' => ∃ v', e = .returned v' ∧ OwnB w' w.heap.size v' (l ++ uv lx.length ++ lx) ∧ Below w.heap.size w w' := by
  obtain ⟨i0, hi, hz0, hz1, hz2⟩ := info_parts infoB
  have HA := Lib.hid h
  have HX := Lib.hid hx
  have hul := (uv_len lx.length (by omega)).2
  obtain ⟨adx, capx, rfl, _, _⟩ := hx
  clear h
  go_enter Tryz.func36, Tryz.ntmps36
  go_wp2_with (first
    | (go_at_call 75; refine (appendUint_any _ l _ _ hl (by omega) HA.out).mono ?_; rintro e w1 ⟨v1, rfl, hown1, hb1⟩; have HO := Lib.hid hown1; clear hown1)
    | (at_builtin; refine wpList_append_slice (enc := encB) (fun _ => rfl) rfl (.tmp 9) (.tmp 10) 47 rfl w.heap.size 5 i0 (.int .u8 0) 1 Tryz.underlying47 hi hz0 hz1 hz2 rfl _ _ _ rfl HO.out _ lx rfl (HX.out.ext hb1) (by unfold maxLen; rw [List.length_append]; omega) (by rw [List.length_append]; omega) hb1.size ?_; intro v2 w2 hown2 hgrow2; have hx2 : Below w.heap.size w w2 := Below.grown hb1 hgrow2 hb1.size (fun k hk => (World.ownsRow.lt HO.out k hk).1); have HO2 := Lib.hid hown2; clear hown2 hgrow2))
  go_ret
  refine ⟨_, rfl, ?_, hx2⟩
  have h2 := HO2.out
  show World.ownsRow _ _ _ _ _ _ _
  rw [List.length_append, List.map_append]
  exact h2
end Go.Proofs.YtjabgpejmnpamaaGreatDoor

namespace Go.Proofs.YtjabgpejmnpamaaGreatDoor
open Go.RowKit
attribute [local go_sem] wrap8_un
abbrev encM (n : Nat) : Value := .int .u64 n
theorem numsL_next {ns : List Nat} {i : Nat} (h : i < ns.length) : Lb.numsL (ns.take (i + 1)) = Lb.numsL (ns.take i) ++ uv ns[i] := by
  unfold Lb.numsL
  rw [List.take_succ_eq_append_getElem h, List.flatMap_append]
  simp
theorem numsL_len (ns : List Nat) (hn : ∀ n, n ∈ ns → n < 18446744073709551616) : (Lb.numsL ns).length ≤ 10 * ns.length := by
  induction ns with
  | nil => simp [Lb.numsL]
  | cons a t ih =>
    have h1 := (uv_len a (hn a (by simp))).2
    have h2 := ih fun n h => hn n (by simp [h])
    unfold Lb.numsL at h2 ⊢
    rw [List.flatMap_cons, List.length_append, List.length_cons]
    omega
set_option maxRecDepth 100000 in
set_option maxHeartbeats 1000000 in
theorem numbers_any (v vn : Value) (l : List (BitVec 8)) (ns : List Nat) (w : World) (hl : l.length ≤ 10000) (hnl : ns.length ≤ 1000) (hn : ∀ n, n ∈ ns → n < 18446744073709551616) (h : SliceAt encB w v l) (hv : SliceAt encM w vn ns) :
    Calls Tryz.prog 34 #[v, vn] w fun e w' => ∃ v', e = .returned v' ∧ SliceAt encB w' v' (l ++ Lb.numsL ns) ∧ Ext w w' := by
  obtain ⟨an, cn, rfl⟩ := hv.shape
  obtain ⟨m, hm⟩ : ∃ m, ns.length = m := ⟨_, rfl⟩
  have HM := Lib.hid hm
  have HV := Lib.hid hv
  have HN := Lib.hid hn
  have HS : Hid (SliceAt encB w v (l ++ Lb.numsL (ns.take 0))) := by
    show SliceAt _ _ _ _
    simpa [Lb.numsL] using h
  have HX : Hid (Ext w w) := Ext.refl _
  rw [hm] at HV hnl ⊢
  clear h hv hn hm
  go_enter Tryz.func34, Tryz.ntmps34
  go_wp2_with fail
  go_loopw [0, 9] (fun vo it wr => ∃ i : Nat, i ≤ m ∧ it = .int .i64 i ∧ Hid (SliceAt encB wr vo (l ++ Lb.numsL (ns.take i))) ∧ Hid (Ext w wr)) (fun _ it _ => m - (intOf it).toNat)
  case atStart => exact ⟨0, Nat.zero_le _, rfl, HS, HX⟩
  case round =>
    obtain ⟨i, hi, rfl, HSr, HXr⟩ := hrel
    by_cases hlt : i < m
    · have hin : (i : Int) < (m : Int) := by omega
      have hil : i < ns.length := by rw [HM.out]; exact hlt
      obtain ⟨b, off, rfl, hb, hc⟩ := (HV.out.ext HXr.out).get i hil
      have hlen := numsL_len (ns.take i) (fun n hn => HN.out n (List.mem_of_mem_take hn))
      rw [List.length_take] at hlen
      have hyl : (l ++ Lb.numsL (ns.take i)).length ≤ 50000 := by rw [List.length_append]; omega
      have HNX := Lib.hid (numsL_next hil)
      have hnb := HN.out _ (List.getElem_mem hil)
      obtain ⟨y, hy⟩ : ∃ y, l ++ Lb.numsL (ns.take i) = y := ⟨_, rfl⟩
      have HY := Lib.hid hy
      rw [hy] at HSr hyl
      generalize ns[i] = x at *
      clear hlen hy
      go_wp2_with fail
      go_at_call 75
      refine (appendUint_any _ y x _ hyl hnb HSr.out).mono ?_
      rintro e w2 ⟨v2, rfl, ho2, hx2⟩
      have HS2 : Hid (SliceAt encB w2 v2 (l ++ Lb.numsL (ns.take (i + 1)))) := by
        show SliceAt _ _ _ _
        rw [HNX.out, ← List.append_assoc, HY.out]; exact OwnB.slice ho2
      have HX2 : Hid (Ext w w2) := HXr.out.trans hx2
      clear ho2 hx2
      go_wp2_with fail
      go_roundw
      case rel => exact ⟨i + 1, by omega, by go_num, HS2, HX2⟩
      case measure => simp [intOf]; omega
    · have hin : m = i := by omega
      subst hin
      have hin2 : ¬ ((m : Int) < (m : Int)) := by omega
      rw [show ns.take m = ns by rw [← HM.out, List.take_length]] at HSr
      go_wp2_with fail
      go_ret
      exact ⟨_, rfl, HSr.out, HXr.out⟩
theorem seal_shift (x : BitVec 64) (j : Nat) : IntKind.u8.wrap (un x / (2 : Int) ^ j) = ub ((x >>> j).setWidth 8) := by rw [shr_un]; exact wrap8_un _
theorem own_snoc {w : World} {base : Nat} {v : Value} {l : List (BitVec 8)} {x : BitVec 8} (h : w.ownsRow base 5 1 v (l.length + 1) (l.map encB ++ [encB x])) : OwnB w base v (l ++ [x]) := by
  show World.ownsRow _ _ _ _ _ _ _
  rw [List.length_append, List.map_append]; exact h
def SealEnd (w : World) (B : Nat) (l : List (BitVec 8)) (e : Ending) (w' : World) : Prop := ∃ v', e = .returned v' ∧ OwnB w' B v' l ∧ Below B w w'
set_option maxRecDepth 100000 in
set_option maxHeartbeats 1000000 in
theorem sealed_any (v : Value) (l : List (BitVec 8)) (B : Nat) (w : World) (hl : l.length ≤ 40000) (hB : B ≤ w.heap.size) (h : OwnB w B v l) :
    Calls Tryz.prog 35 #[v] w (SealEnd w B (Lb.sealL l)) := by
  obtain ⟨i0, hi, hz0, hz1, hz2⟩ := info_parts infoB
  have HSL := Lib.hid (OwnB.slice h)
  have HSM := Lib.hid (sum_any v l w (by unfold maxLen; omega) (OwnB.slice h))
  have HE : Hid (Lb.sealL l = l ++ Lb.be8 (Crc.sum l) 8) := rfl
  rw [HE.out]
  generalize Crc.sum l = s at *
  have HO0 : Hid (OwnB w B v (l ++ Lb.be8 s 0)) := by
    have : l ++ Lb.be8 s 0 = l := by simp [Lb.be8]
    rw [this]; exact h
  have HX0 : Hid (Below B w w) := Below.refl _ _
  clear h
  go_enter Tryz.func35, Tryz.ntmps35
  go_wp2_with fail
  go_at_call 45
  refine HSM.out.mono ?_
  rintro e w' ⟨rfl, rfl⟩
  go_wp2_with fail
  go_loopw [0, 4] (fun vo it wr => ∃ k : Nat, k ≤ 8 ∧ (∃ z : Int, it = .int .i64 z ∧ z = 56 - 8 * (k : Int)) ∧ Hid (OwnB wr B vo (l ++ Lb.be8 s k)) ∧ Hid (Below B w wr)) (fun _ it _ => (intOf it + 8).toNat)
  case atStart => exact ⟨0, by decide, ⟨_, rfl, rfl⟩, HO0, HX0⟩
  case round =>
    obtain ⟨k, hk, ⟨z, rfl, hz⟩, HO, HX⟩ := hrel
    by_cases hlt : k < 8
    · obtain ⟨j, hj⟩ : ∃ j : Nat, 56 - 8 * k = j := ⟨_, rfl⟩
      have hz2 : z = (j : Int) := by omega
      have HJ := Lib.hid hj
      have HZJ : Hid ((j : Int) = 56 - 8 * (k : Int)) := by show _ = _; omega
      subst hz2
      have HNX := Lib.hid (Lb.be8_next s k)
      rw [hj] at HNX
      have hsh := seal_shift s j
      have hlen : (l ++ Lb.be8 s k).length ≤ 41000 := by rw [List.length_append, Lb.be8_len]; omega
      have hBw : B ≤ wr.heap.size := Nat.le_trans hB (Below.size HX.out)
      have hj0 : (0 : Int) ≤ (j : Int) := by omega
      have hjs : j ≤ 56 := by omega
      obtain ⟨y, hy⟩ : ∃ y, l ++ Lb.be8 s k = y := ⟨_, rfl⟩
      have HYE := Lib.hid hy
      rw [hy] at HO hlen
      clear hz hj hy
      go_wp2_with (at_builtin; refine Classical.byContradiction (fun hN => ?_))
      refine hN ?_
      clear hN
      have e1 : Ext wr (wr.alloc (.cells #[encB ((s >>> j).setWidth 8)] 5)) := Ext.alloc _ _
      have hown : OwnG encB 5 (wr.alloc (.cells #[encB ((s >>> j).setWidth 8)] 5)) B u0 y := OwnG.ext (enc := encB) HO.out e1
      have hx1 : Below B w (wr.alloc (.cells #[encB ((s >>> j).setWidth 8)] 5)) := Below.alloc HX.out hBw _
      have hs1 : B ≤ (wr.alloc (.cells #[encB ((s >>> j).setWidth 8)] 5)).heap.size := by simp; omega
      refine wpList_append_one rfl _ _ _ rfl B 5 i0 (.int .u8 0) 1 Tryz.underlying47 hi hz0 hz1 hz2 rfl _ _ _ rfl hown _ (encB ((s >>> j).setWidth 8)) rfl rfl (cell_new1 _ _ _) (by unfold maxLen; omega) (by omega) hs1 ?_
      intro v6 w6 ho6 hg6 _
      have HX6 : Hid (Below B w w6) := Below.grown hx1 hg6 hs1 (fun q hq => (hown.lt q hq).1)
      have HO6 : Hid (OwnB w6 B v6 (l ++ Lb.be8 s (k + 1))) := by
        show World.ownsRow _ _ _ _ _ _ _
        rw [HNX.out, ← List.append_assoc, HYE.out]; exact own_snoc ho6
      clear ho6 hg6 hown e1 hx1 hs1
      go_wp2
      go_roundw
      case rel => exact ⟨k + 1, by omega, ⟨_, rfl, by have := HZJ.out; omega⟩, HO6, HX6⟩
      case measure => have := HZJ.out; first | (simp [intOf]; done) | (simp [intOf]; omega)
    · have hz2 : z = -8 := by omega
      clear hz
      subst hz2
      have hk8 : k = 8 := by omega
      subst hk8
      go_wp2_with fail
      go_ret
      exact ⟨_, rfl, HO.out, HX.out⟩
end Go.Proofs.YtjabgpejmnpamaaGreatDoor

namespace Go.Proofs.YtjabgpejmnpamaaGreatDoor
open Go.RowKit
attribute [local go_sem] wrap8_un or_ub
abbrev encF (g : Nat) (i : Nat) : Value := .pointer (some ⟨g, 4 + i, none⟩)
def FieldsEnd (w : World) (g : Nat) (e : Ending) (w' : World) : Prop := ∃ v', e = .returned v' ∧ SliceAt (encF g) w' v' (List.range 11) ∧ Ext w w'
set_option maxRecDepth 100000 in
set_option maxHeartbeats 1000000 in
theorem fields_any (g : Nat) (w : World) (hg : g < w.heap.size) :
    Calls Tryz.prog 73 #[.pointer (some ⟨g, 4, none⟩)] w (FieldsEnd w g) := by
  go_enter Tryz.func73, Tryz.ntmps73
  go_wp2_with fail
  refine wp_region_ext [(0, true), (1, true), (2, true), (3, true), (4, true), (5, true), (6, true), (7, true), (8, true), (9, true), (10, true), (11, true), (12, true), (13, true), (14, true), (15, true), (16, true), (17, true), (18, true), (19, true), (20, true), (21, true), (22, true), (23, true), (24, true), (25, true), (26, true), (27, true), (28, true), (29, true), (30, true), (31, true), (32, true), (33, false), (34, true)] (by kernel_rfl) (by kernel_rfl) ?_
  iterate 33 ((first
   | refine ext_move rfl rfl (by rfl) (by rfl) ?_
   | refine ext_assign rfl rfl (by rfl) (by rfl) ?_
   | refine ext_pick_t rfl rfl (by rfl) (by rfl) (by rfl) ?_
   | refine ext_pick_f rfl rfl (by rfl) (by rfl) (by rfl) ?_
   | (apply ext_take rfl (by rfl)
      · intro w' hS
        have hSc := hS.cells
        (try simp only [World.size_drew, World.cell?_drew] at hSc)
        go_simp
        (try simp (disch := omega) only [i64_id, u64_id, ↓IntWalk.iteOmega, Int.tdiv_eq_ediv_of_nonneg, Int.tmod_eq_emod_of_nonneg])
        try rfl)
   | refine ext_pass rfl (by rfl) ?_); simp only [Act.put, setZa, setZ0, setZ1])
  (refine ext_do rfl (by rfl) (fun K hK => ?_)
   go_simp
   refine hK _ _ (by first | exact Ext.alloc _ _ | exact (Ext.drew _).trans (Ext.alloc _ _)) ?_
   clear hK K
   (try simp only [Act.put, setZa, setZ0, setZ1]))
  iterate 1 ((first
   | refine ext_move rfl rfl (by rfl) (by rfl) ?_
   | refine ext_assign rfl rfl (by rfl) (by rfl) ?_
   | refine ext_pick_t rfl rfl (by rfl) (by rfl) (by rfl) ?_
   | refine ext_pick_f rfl rfl (by rfl) (by rfl) (by rfl) ?_
   | (apply ext_take rfl (by rfl)
      · intro w' hS
        have hSc := hS.cells
        (try simp only [World.size_drew, World.cell?_drew] at hSc)
        go_simp
        (try simp (disch := omega) only [i64_id, u64_id, ↓IntWalk.iteOmega, Int.tdiv_eq_ediv_of_nonneg, Int.tmod_eq_emod_of_nonneg])
        try rfl)
   | refine ext_pass rfl (by rfl) ?_); simp only [Act.put, setZa, setZ0, setZ1])
  refine ext_nil ?_
  go_wp2_with fail
  go_ret
  exact ⟨_, rfl, SliceAt.lit (enc := encF g) w.drew (List.range 11) _ (0, 0) _ rfl, (Ext.drew _).trans (Ext.alloc _ _)⟩
theorem lab_field (l : Lab) (d : Value) (i : Nat) (h : i < 11) : (labA l d)[4 + i]? = some (.int .i64 ((cfgL l.c).getD i 0)) := by
  match i, h with
  | 0, _ => rfl
  | 1, _ => rfl
  | 2, _ => rfl
  | 3, _ => rfl
  | 4, _ => rfl
  | 5, _ => rfl
  | 6, _ => rfl
  | 7, _ => rfl
  | 8, _ => rfl
  | 9, _ => rfl
  | 10, _ => rfl
theorem wrap_bit (m : Nat) (h : m < 8) : IntKind.u8.wrap ((2 : Int) ^ m) = ub (1#8 <<< m) := by
  match m, h with
  | 0, _ => rfl
  | 1, _ => rfl
  | 2, _ => rfl
  | 3, _ => rfl
  | 4, _ => rfl
  | 5, _ => rfl
  | 6, _ => rfl
  | 7, _ => rfl
def BitEnd (w : World) (g k : Nat) (y : BitVec 8) (e : Ending) (w' : World) : Prop := e = .returned (.tuple #[]) ∧ w' = (w.setCell ⟨g, k, none⟩ (encB y)).drew
set_option maxRecDepth 100000 in
set_option maxHeartbeats 1000000 in
theorem bit_any (i b g n : Nat) (y : BitVec 8) (w : World) (hi : i / 8 < n) (hi2 : i ≤ 1000) (hb : b < w.heap.size) (hc : w.cell? ⟨b, 0, none⟩ = some (.slice (some ⟨g, 0, none⟩) n n)) (hg : g < w.heap.size) (hy : w.cell? ⟨g, i / 8, none⟩ = some (encB y)) (hf : w.frozen? ⟨g, i / 8, none⟩ = false) :
    Calls Tryz.prog 74 #[.int .i64 i, .pointer (some ⟨b, 0, none⟩)] w (BitEnd w g (i / 8) (y ||| 1#8 <<< (i % 8))) := by
  have hq : ((i : Int) / 8).toNat = i / 8 := by omega
  have hr : ((i : Int) % 8).toNat = i % 8 := by omega
  have hs := wrap_bit (i % 8) (Nat.mod_lt _ (by decide))
  have hfd : w.drew.frozen? ⟨g, i / 8, none⟩ = false := by simpa using hf
  go_enter Tryz.func74, Tryz.ntmps74
  refine wp_region_ext [(0, true), (1, true), (2, true), (3, true), (4, true), (5, true), (6, true), (7, true), (8, true), (9, true), (10, false)] (by kernel_rfl) (by kernel_rfl) ?_
  iterate 10 ((first
   | refine ext_move rfl rfl (by rfl) (by rfl) ?_
   | refine ext_assign rfl rfl (by rfl) (by rfl) ?_
   | refine ext_pick_t rfl rfl (by rfl) (by rfl) (by rfl) ?_
   | refine ext_pick_f rfl rfl (by rfl) (by rfl) (by rfl) ?_
   | (apply ext_take rfl (by rfl)
      · intro w' hS
        have hSc := hS.cells
        (try simp only [World.size_drew, World.cell?_drew] at hSc)
        go_simp
        (try simp (disch := omega) only [i64_id, ↓IntWalk.iteOmega, Int.tmod_eq_emod_of_nonneg])
        try rfl)
   | refine ext_pass rfl (by rfl) ?_); simp only [Act.put, setZa, setZ0, setZ1])
  (refine ext_last rfl (by rfl) (by kernel_rfl) (fun K hK => ?_)
   go_simp
   refine hK _ _ ?_
   clear hK K
   (try simp only [Act.put, setZa, setZ0, setZ1]))
  go_end0
  exact ⟨rfl, rfl⟩
end Go.Proofs.YtjabgpejmnpamaaGreatDoor

namespace Go.Proofs.YtjabgpejmnpamaaGreatDoor
open Go.RowKit
theorem OwnB.made (w : World) (n base : Nat) (hb : base ≤ w.heap.size) (hm : n ≤ maxLen) : OwnG encB 5 (w.alloc (.cells (madeCells #[.int .u8 0] n) 5)) base (.slice (some ⟨w.heap.size, 0, none⟩) n n) (List.replicate n 0#8) := by
  have hl : (List.replicate n 0#8).length = n := List.length_replicate
  have hc : madeCells #[.int .u8 0] n = ((List.replicate n 0#8).map encB).toArray := by
    obtain ⟨c, h, hs, hc⟩ := World.rowIs_made w (.int .u8 0) n 5
    have h2 : (w.alloc (.cells (madeCells #[.int .u8 0] n) 5)).heap[w.heap.size]? = some (.cells (madeCells #[.int .u8 0] n) 5 (0, 0)) := heap_alloc_new _ _
    rw [h2] at h
    injection h with h
    injection h with h _ _
    subst h
    refine Array.ext_getElem? fun i => ?_
    by_cases hi : i < n
    · rw [hc i hi]; simp [hi]; rfl
    · rw [Array.getElem?_eq_none (by omega)]; simp; omega
  have := OwnG.lit (enc := encB) w (List.replicate n 0#8) 5 base hb (by rw [hl]; exact hm) _ hc
  rwa [hl] at this
def PayEnd (w : World) (l : List (BitVec 8)) (e : Ending) (w' : World) : Prop := ∃ v', e = .returned v' ∧ SliceAt encB w' v' l ∧ Ext w w'
theorem cfg_next (c : Cfg) {i : Nat} (h : i < 11) : ((cfgL c).take (i + 1)).flatMap (fun n => uv n.toNat) = ((cfgL c).take i).flatMap (fun n => uv n.toNat) ++ Lb.numsL [((cfgL c).getD i 0).toNat] := by
  have hl : i < (cfgL c).length := h
  rw [List.take_succ_eq_append_getElem hl, List.flatMap_append, getD_in hl]
  simp [Lb.numsL]
theorem cfg_short {c : Cfg} (h : ∀ n, n ∈ cfgL c → 0 ≤ n ∧ n ≤ 65535) (i : Nat) : (((cfgL c).take i).flatMap (fun n => uv n.toNat)).length ≤ 33 := by
  have key : ∀ l : List Int, (∀ n, n ∈ l → 0 ≤ n ∧ n ≤ 65535) → (l.flatMap fun n => uv n.toNat).length ≤ 3 * l.length := by
    intro l
    induction l with
    | nil => intro _; simp
    | cons a t ih =>
      intro h
      rw [List.flatMap_cons, List.length_append, List.length_cons]
      have := (uv_length 3 a.toNat (by decide) (by have := (h a (by simp)).2; omega)).2
      have := ih fun n hn => h n (by simp [hn])
      omega
  have h1 := key ((cfgL c).take i) fun n hn => h n (List.mem_of_mem_take hn)
  have h2 : ((cfgL c).take i).length ≤ 11 := by rw [List.length_take]; exact Nat.le_trans (Nat.min_le_right _ _) (Nat.le_refl _)
  omega
set_option maxRecDepth 100000 in
set_option maxHeartbeats 4000000 in
theorem payload_any (l : Lab) (dv : Value) (x : List Bool) (w : World) (F : Lb.Fine l x) (h : SliceAt Value.bool w dv x) :
    Calls Tryz.prog 33 #[labV l dv] w (PayEnd w (Lb.payL l x)) := by
  obtain ⟨ad, cd, rfl⟩ := h.shape
  have HD := Lib.hid h
  have HF := Lib.hid F
  obtain ⟨dk, hdk⟩ := Int.eq_ofNat_of_zero_le F.disk.1
  obtain ⟨bk, hbk⟩ := Int.eq_ofNat_of_zero_le F.blob.1
  have HBK : Hid ((bk : Int) = l.blob) := hbk.symm
  have hdk60 : dk < 60 := by have := F.disk.2; omega
  have hbk60 : bk ≤ 1048576 := by have := F.blob.2; omega
  have hP : Lb.payL l x = Lb.numsL [l.array.toNat, dk, l.gen.toNat, l.prev.toNat] ++ Lb.cfgBytes l.c ++ uv (Lb.bitsL x).length ++ Lb.bitsL x ++ Lb.numsL [bk, l.sum.toNat, l.root.toNat] := by
    unfold Lb.payL; rw [hdk, hbk]; rfl
  have HP := Lib.hid hP
  obtain ⟨n, hn⟩ : ∃ n, x.length = n := ⟨_, rfl⟩
  have HN := Lib.hid hn
  have hn60 : n ≤ 60 := by have := F.len; omega
  rw [hn] at HD ⊢
  have HB1 : Hid (BoxAt (w.alloc (.cells (labA l (.slice ad n cd)) 29)) w.heap.size (labA l (.slice ad n cd)) 29) := BoxAt.new _ _ _
  have HX1 : Hid (Ext w (w.alloc (.cells (labA l (.slice ad n cd)) 29))) := Ext.alloc _ _
  have k0 := HB1.out.cell 0 (v := encU l.array) rfl
  have k1 := HB1.out.cell 1 (v := .int .i64 dk) (by rw [show (dk : Int) = l.disk from hdk.symm]; rfl)
  have k2 := HB1.out.cell 2 (v := encU l.gen) rfl
  have k3 := HB1.out.cell 3 (v := encU l.prev) rfl
  have hl1 := HB1.out.lt
  clear h hP hn F hdk hbk
  go_enter Tryz.func33, Tryz.ntmps33
  go_upto_region 1 with fail
  generalize w.alloc (.cells (labA l (.slice ad n cd)) 29) = w1 at *
  go_wp2_with fail
  go_at_call 34
  have hnm : ∀ n, n ∈ [l.array.toNat, dk, l.gen.toNat, l.prev.toNat] → n < 18446744073709551616 := by
    intro n hn
    simp only [List.mem_cons, List.not_mem_nil, or_false] at hn
    have := l.array.isLt
    have := l.gen.isLt
    have := l.prev.isLt
    omega
  refine (numbers_any _ _ [] [l.array.toNat, dk, l.gen.toNat, l.prev.toNat] _ (by simp) (by simp) hnm SliceAt.nil (SliceAt.lit (enc := encM) w1 [l.array.toNat, dk, l.gen.toNat, l.prev.toNat] _ (0, 0) _ rfl)).mono ?_
  rintro e w2 ⟨v2, rfl, hs2, hx2⟩
  rw [List.nil_append] at hs2
  have hA : (Lb.numsL [l.array.toNat, dk, l.gen.toNat, l.prev.toNat]).length ≤ 40 := numsL_len _ hnm
  generalize Lb.numsL [l.array.toNat, dk, l.gen.toNat, l.prev.toNat] = A at *
  have HS2 := Lib.hid hs2
  have HX2 : Hid (Ext w w2) := HX1.out.trans ((Ext.alloc _ _).trans hx2)
  have HB2 := Lib.hid (HB1.out.ext ((Ext.alloc _ _).trans hx2))
  have hg2 := HB2.out.lt
  clear hs2 hx2 k0 k1 k2 k3 hl1 HB1 HX1 hnm
  go_wp2_with fail
  go_at_call 73
  refine (fields_any _ _ hg2).mono ?_
  rintro e w3 ⟨v3, rfl, hs3, hx3⟩
  obtain ⟨af, cf, rfl⟩ := hs3.shape
  have HS3 := Lib.hid hs3
  have HB3 := Lib.hid (HB2.out.ext hx3)
  have HX3 : Hid (Ext w w3) := HX2.out.trans hx3
  have HST : Hid (SliceAt encB w3 v2 (A ++ ((cfgL l.c).take 0).flatMap fun n => uv n.toNat)) := by
    show SliceAt _ _ _ _
    rw [List.take_zero, List.flatMap_nil, List.append_nil]; exact HS2.out.ext hx3
  rw [show (List.range 11).length = 11 from rfl] at HS3 ⊢
  clear hs3 hx3 HS2 HB2 HX2 hg2
  go_wp2_with fail
  go_loopw [3, 24] (fun vo it wr => ∃ i : Nat, i ≤ 11 ∧ it = .int .i64 i ∧ Hid (SliceAt encB wr vo (A ++ ((cfgL l.c).take i).flatMap fun n => uv n.toNat)) ∧ Hid (Ext w3 wr)) (fun _ it _ => 11 - (intOf it).toNat)
  case atStart => exact ⟨0, by decide, rfl, HST, Lib.hid (Ext.refl _)⟩
  case round =>
    obtain ⟨i, hi, rfl, HS, HX⟩ := hrel
    by_cases hlt : i < 11
    · have hin : (i : Int) < 11 := by omega
      obtain ⟨bp, op, rfl, hbp, hcp⟩ := (HS3.out.ext HX.out).get i (by simpa using hlt)
      rw [List.getElem_range] at hcp
      have hcl := (HB3.out.ext HX.out).cell (4 + i) (lab_field l _ i hlt)
      have hgl := (HB3.out.ext HX.out).lt
      have hcm : 0 ≤ (cfgL l.c).getD i 0 ∧ (cfgL l.c).getD i 0 ≤ 65535 := HF.out.cfg _ (by rw [getD_in (show i < (cfgL l.c).length from hlt)]; exact List.getElem_mem _)
      have HNX := Lib.hid (cfg_next l.c hlt)
      have hsl := cfg_short HF.out.cfg i
      obtain ⟨q, hq⟩ := Int.eq_ofNat_of_zero_le hcm.1
      have hq6 : q ≤ 65535 := by omega
      rw [hq, Int.toNat_natCast] at HNX
      rw [hq] at hcl
      have hyl : (A ++ ((cfgL l.c).take i).flatMap fun n => uv n.toNat).length ≤ 10000 := by rw [List.length_append]; omega
      obtain ⟨y, hy⟩ : ∃ y, (A ++ ((cfgL l.c).take i).flatMap fun n => uv n.toNat) = y := ⟨_, rfl⟩
      have HY := Lib.hid hy
      rw [hy] at HS hyl
      clear hq hcm hsl hy
      go_wp2_with fail
      go_at_call 34
      refine (numbers_any _ _ y [q] _ hyl (by simp) (fun n hn => by rw [List.mem_singleton] at hn; omega) (HS.out.ext (Ext.alloc _ _)) (SliceAt.lit (enc := encM) wr [q] _ (0, 0) _ rfl)).mono ?_
      rintro e w5 ⟨v5, rfl, hs5, hx5⟩
      have HS5 : Hid (SliceAt encB w5 v5 (A ++ ((cfgL l.c).take (i + 1)).flatMap fun n => uv n.toNat)) := by
        show SliceAt _ _ _ _
        rw [HNX.out, ← List.append_assoc, HY.out]; exact hs5
      have HX5 : Hid (Ext w3 w5) := HX.out.trans ((Ext.alloc _ _).trans hx5)
      clear hs5 hx5 hcl hgl hcp hbp
      go_wp2_with fail
      go_roundw
      case rel => exact ⟨i + 1, by omega, by go_num, HS5, HX5⟩
      case measure => simp [intOf]; omega
    · have hin : i = 11 := by omega
      subst hin
      rw [show (cfgL l.c).take 11 = cfgL l.c from rfl, show ((cfgL l.c).flatMap fun n => uv n.toNat) = Lb.cfgBytes l.c from rfl] at HS
      have hyl : (A ++ Lb.cfgBytes l.c).length ≤ 10000 := by rw [List.length_append]; have := Lb.cfgB_len l.c HF.out.cfg; omega
      obtain ⟨y, hy⟩ : ∃ y, A ++ Lb.cfgBytes l.c = y := ⟨_, rfl⟩
      have HY := Lib.hid hy
      rw [hy] at HS hyl HP
      have HB := Lib.hid (HB3.out.ext HX.out)
      have HXw := Lib.hid (HX3.out.trans HX.out)
      clear hy HB3 HX3 HX HS3
      have m15 := HB.out.cell 15 (v := .slice ad n cd) rfl
      have hgl := HB.out.lt
      obtain ⟨nb, hnb⟩ : ∃ nb, (n + 7) / 8 = nb := ⟨_, rfl⟩
      have hnbI : ((n : Int) + 7) / 8 = (nb : Int) := by omega
      have hnb8 : nb ≤ 8 := by omega
      have HNB := Lib.hid hnb
      clear hnb
      have hmk : ∀ w : World, (Instr.makeSlice 47 (.int .i64 (nb : Int)) (.int .i64 (nb : Int))).run Tryz.prog w = .ok (.slice (some ⟨w.heap.size, 0, none⟩) nb nb) (w.alloc (.cells (madeCells #[.int .u8 0] nb) 5)) :=
        run_make_row' 47 5 (.int .u8 0) 1 Tryz.underlying47 infoB rfl .i64 .i64 nb (by omega) (by first | omega | (unfold maxLen; omega))
      go_upto_region 8 with fail
      have HNBI := Lib.hid hnbI
      clear hnbI
      have HO0 : Hid (OwnG encB 5 ((wr.alloc (.cells (madeCells #[.int .u8 0] nb) 5)).alloc (.cells #[.slice (some ⟨wr.heap.size, 0, none⟩) nb nb] 47)) wr.heap.size (.slice (some ⟨wr.heap.size, 0, none⟩) nb nb) (Lb.bitsTo x 0)) := by
        have := (OwnB.made wr nb wr.heap.size (Nat.le_refl _) (by unfold maxLen; omega)).ext (Ext.alloc _ (.cells #[.slice (some ⟨wr.heap.size, 0, none⟩) nb nb] 47))
        show OwnG _ _ _ _ _ _
        rw [Lb.bitsTo, HN.out, HNB.out]; exact this
      have HBB : Hid (BoxAt ((wr.alloc (.cells (madeCells #[.int .u8 0] nb) 5)).alloc (.cells #[.slice (some ⟨wr.heap.size, 0, none⟩) nb nb] 47)) (wr.heap.size + 1) #[.slice (some ⟨wr.heap.size, 0, none⟩) nb nb] 47) := by
        have := BoxAt.new (wr.alloc (.cells (madeCells #[.int .u8 0] nb) 5)) #[.slice (some ⟨wr.heap.size, 0, none⟩) nb nb] 47
        rwa [World.size_alloc] at this
      have HX4 : Hid (Ext wr ((wr.alloc (.cells (madeCells #[.int .u8 0] nb) 5)).alloc (.cells #[.slice (some ⟨wr.heap.size, 0, none⟩) nb nb] 47))) := (Ext.alloc _ _).trans (Ext.alloc _ _)
      generalize (wr.alloc (.cells (madeCells #[.int .u8 0] nb) 5)).alloc (.cells #[.slice (some ⟨wr.heap.size, 0, none⟩) nb nb] 47) = w4 at *
      clear hmk m15 hgl
      generalize wr = wo at *
      have m15 := (HB.out.ext HX4.out).cell 15 (v := .slice ad n cd) rfl
      have hgl := (HB.out.ext HX4.out).lt
      have HBL : Hid (∀ i, (Lb.bitsTo x i).length = nb) := fun i => by rw [Lb.bitsTo_len, HN.out, HNB.out]
      go_wp2_with fail
      clear m15 hgl
      go_loopw [46] (fun it wr => ∃ i : Nat, i ≤ n ∧ it = .int .i64 i ∧ Hid (OwnG encB 5 wr wo.heap.size (.slice (some ⟨wo.heap.size, 0, none⟩) nb nb) (Lb.bitsTo x i)) ∧ Hid (BoxAt wr (wo.heap.size + 1) #[.slice (some ⟨wo.heap.size, 0, none⟩) nb nb] 47) ∧ Hid (Ext wo wr)) (fun it _ => n - (intOf it).toNat)
      case atStart => exact ⟨0, Nat.zero_le _, rfl, HO0, HBB, HX4⟩
      case round =>
        obtain ⟨i, hi, rfl, HO, HBX, HX⟩ := hrel
        by_cases hlt : i < n
        · have hin : (i : Int) < (n : Int) := by omega
          have hxl : i < x.length := by rw [HN.out]; exact hlt
          obtain ⟨bd, od, rfl, hbd, hcd⟩ := (HD.out.ext (HXw.out.trans HX.out)).get i hxl
          rw [← getD_in (d := false) hxl] at hcd
          have HNX : Hid (Lb.bitsTo x (i + 1) = if x.getD i false then (Lb.bitsTo x i).set (i / 8) ((Lb.bitsTo x i).getD (i / 8) 0#8 ||| 1#8 <<< (i % 8)) else Lb.bitsTo x i) := rfl
          cases hxi : x.getD i false with
          | false =>
            rw [hxi] at hcd HNX
            have HN2 : Hid (Lb.bitsTo x (i + 1) = Lb.bitsTo x i) := HNX.out
            go_wp2_with fail
            go_roundw
            case rel => exact ⟨i + 1, by omega, by go_num, by rw [HN2.out]; exact HO, HBX, HX⟩
            case measure => simp [intOf]; omega
          | true =>
            rw [hxi] at hcd HNX
            have HN2 : Hid (Lb.bitsTo x (i + 1) = (Lb.bitsTo x i).set (i / 8) ((Lb.bitsTo x i).getD (i / 8) 0#8 ||| 1#8 <<< (i % 8))) := HNX.out
            have hi8 : i / 8 < nb := by have := HNB.out; omega
            have hbl := HBL.out i
            have hcy := HO.out.at hbl.symm (show i / 8 < (Lb.bitsTo x i).length by rw [hbl]; exact hi8)
            rw [← getD_in (d := 0#8) (show i / 8 < (Lb.bitsTo x i).length by rw [hbl]; exact hi8)] at hcy
            have hfy := HO.out.frees hbl.symm (i / 8)
            have hlo : wo.heap.size < wr.heap.size := (OwnG.lt HO.out wo.heap.size (by simp [Value.ownBlock])).2
            have HC := Lib.hid (bit_any i (wo.heap.size + 1) wo.heap.size nb _ wr hi8 (by omega) HBX.out.lt (HBX.out.cell 0 rfl) hlo hcy hfy)
            have HO2 : Hid (OwnG encB 5 ((wr.setCell ⟨wo.heap.size, i / 8, none⟩ (encB ((Lb.bitsTo x i).getD (i / 8) 0#8 ||| 1#8 <<< (i % 8)))).drew) wo.heap.size (.slice (some ⟨wo.heap.size, 0, none⟩) nb nb) (Lb.bitsTo x (i + 1))) := by
              show OwnG _ _ _ _ _ _
              rw [HN2.out]; exact (HO.out.put hbl.symm (i / 8) _).ext (Ext.drew _)
            generalize (Lb.bitsTo x i).getD (i / 8) 0#8 ||| 1#8 <<< (i % 8) = yb at *
            clear hcy hfy hlo hbl
            go_wp2_with fail
            refine HC.out.mono ?_
            rintro e w5 ⟨rfl, rfl⟩
            go_wp2_with fail
            refine ⟨?_, ?measure⟩
            apply Exists.intro
            repeat apply Exists.intro
            refine ⟨?rel, rfl⟩
            case rel => exact ⟨i + 1, by omega, by go_num, HO2, (HBX.out.set_off (by omega) _ _).ext (Ext.drew _), (HX.out.setOwn (Nat.le_refl _)).trans (Ext.drew _)⟩
            case measure => simp [intOf]; omega
        · have hin : i = n := by omega
          subst hin
          have hin2 : ¬ ((i : Int) < (i : Int)) := by omega
          have HBS : Hid (SliceAt encB wr (.slice (some ⟨wo.heap.size, 0, none⟩) nb nb) (Lb.bitsL x)) := by
            have := HO.out.slice
            rw [show Lb.bitsTo x i = Lb.bitsL x by unfold Lb.bitsL; rw [HN.out]] at this
            exact this
          have hbs8 : (Lb.bitsL x).length ≤ 50000 := by unfold Lb.bitsL; rw [HBL.out]; omega
          have HSy := Lib.hid (HS.out.ext HX.out)
          obtain ⟨Y, hYe⟩ : ∃ Y, y ++ uv (Lb.bitsL x).length ++ Lb.bitsL x = Y := ⟨_, rfl⟩
          have HYE := Lib.hid hYe
          have hYl : Y.length ≤ 10000 := by
            rw [← hYe, List.length_append, List.length_append]
            have h1 : (Lb.bitsL x).length ≤ 8 := by unfold Lb.bitsL; rw [HBL.out]; omega
            have h2 := (uv_len (Lb.bitsL x).length (by omega)).2
            have h3 : y.length ≤ 73 := by rw [← HY.out, List.length_append]; have := Lb.cfgB_len l.c HF.out.cfg; omega
            omega
          rw [hYe] at HP
          have hnm : ∀ n, n ∈ [bk, l.sum.toNat, l.root.toNat] → n < 18446744073709551616 := by
            intro n hn
            simp only [List.mem_cons, List.not_mem_nil, or_false] at hn
            have := l.sum.isLt
            have := l.root.isLt
            omega
          have hbx0 := HBX.out.cell 0 (v := .slice (some ⟨wo.heap.size, 0, none⟩) nb nb) rfl
          have hbxl := HBX.out.lt
          have HBq := Lib.hid (HB.out.ext HX.out)
          have k16 := HBq.out.cell 16 (v := .int .i64 bk) (by rw [HBK.out]; rfl)
          have k17 := HBq.out.cell 17 (v := encU l.sum) rfl
          have k18 := HBq.out.cell 18 (v := encU l.root) rfl
          have hgl := HBq.out.lt
          have HXw4 := Lib.hid (HXw.out.trans HX.out)
          generalize Lb.bitsL x = bs at *
          clear hYe HBL
          go_upto_region 15 with fail
          refine wp_region_extT (.take 0 (.take 1 (.take 3 (.take 4 (.take 5 (.take 6 (.take 7 (.take 8 (.take 9 (.two 2 10 (.one 10 (.one 11 (.take 12 .done))) (.one 2 (.one 11 (.take 12 .done))))))))))))) (by kernel_rfl) (by kernel_rfl) ?_
          iterate 9 ((first
           | refine extT_move rfl rfl (by rfl) (by rfl) ?_
           | refine extT_assign rfl rfl (by rfl) (by rfl) ?_
           | refine extT_pick_t rfl rfl (by rfl) (by rfl) (by rfl) ?_
           | refine extT_pick_f rfl rfl (by rfl) (by rfl) (by rfl) ?_
           | (apply extT_take rfl (by rfl)
              · intro w' hS
                have hSc := hS.cells
                (try simp only [World.size_drew, World.cell?_drew] at hSc)
                go_simp
                (try simp (disch := omega) only [u64_id])
                try rfl)
           | refine extT_pass rfl (by rfl) ?_); simp only [Act.put, setZa, setZ0, setZ1])
          refine extT_two rfl rfl (by rfl) (by rfl) (fun K hK => ?_) (fun K hK => ?_)
          go_simp
          go_at_call 36
          refine (appendBytes_any _ _ y bs _ (by omega) hbs8 (HSy.out.ext (Ext.drew _)) (HBS.out.ext (Ext.drew _))).mono ?_
          rintro e wb ⟨vb, rfl, hob, hxb⟩
          rw [HYE.out] at hob
          have HOB := Lib.hid (OwnB.slice hob)
          have HXB := Lib.hid hxb
          refine hK _ _ (by first | exact hxb | exact (Ext.drew _).trans hxb) ?_
          clear hK K hob hxb
          (try simp only [Act.put, setZa, setZ0, setZ1])
          refine extT_do rfl (by rfl) (fun K hK => ?_)
          go_simp
          refine hK _ _ (by first | exact Ext.alloc _ _ | exact (Ext.drew _).trans (Ext.alloc _ _) | exact (Ext.alloc _ _).trans (Ext.drew _)) ?_
          clear hK K
          (try simp only [Act.put, setZa, setZ0, setZ1])
          refine extT_do rfl (by rfl) (fun K hK => ?_)
          go_simp
          go_at_call 34
          refine (numbers_any _ _ Y [bk, l.sum.toNat, l.root.toNat] _ hYl (by simp) hnm (by first | exact HOB.out.ext (Ext.alloc _ _) | exact HOB.out) (by first | exact (SliceAt.lit (enc := encM) wr.drew [bk, l.sum.toNat, l.root.toNat] _ (0, 0) _ rfl).ext HXB.out | exact SliceAt.lit (enc := encM) wb [bk, l.sum.toNat, l.root.toNat] _ (0, 0) _ rfl)).mono ?_
          rintro e wf ⟨vf, rfl, hsf, hxf⟩
          have HSF := Lib.hid hsf
          have HXF : Hid (Ext w wf) := Ext.trans HXw4.out (by first | exact Ext.trans (Ext.drew _) (Ext.trans HXB.out (Ext.trans (Ext.alloc _ _) hxf)) | exact Ext.trans (Ext.trans (Ext.drew _) (Ext.alloc _ _)) (Ext.trans HXB.out hxf))
          refine hK _ _ (by first | exact hxf | exact Ext.trans (Ext.alloc _ _) hxf) ?_
          clear hK K hsf hxf
          (try simp only [Act.put, setZa, setZ0, setZ1])
          iterate 1 ((first
           | refine extT_move rfl rfl (by rfl) (by rfl) ?_
           | refine extT_assign rfl rfl (by rfl) (by rfl) ?_
           | refine extT_pick_t rfl rfl (by rfl) (by rfl) (by rfl) ?_
           | refine extT_pick_f rfl rfl (by rfl) (by rfl) (by rfl) ?_
           | (apply extT_take rfl (by rfl)
              · intro w' hS
                have hSc := hS.cells
                (try simp only [World.size_drew, World.cell?_drew] at hSc)
                go_simp
                (try simp (disch := omega) only [i64_id, u64_id, ↓IntWalk.iteOmega, Int.tdiv_eq_ediv_of_nonneg, Int.tmod_eq_emod_of_nonneg])
                try rfl)
           | refine extT_pass rfl (by rfl) ?_); simp only [Act.put, setZa, setZ0, setZ1])
          refine extT_nil ?_
          skip
          rotate_left
          go_simp
          refine hK _ _ (by first | exact Ext.alloc _ _ | exact (Ext.drew _).trans (Ext.alloc _ _) | exact (Ext.alloc _ _).trans (Ext.drew _)) ?_
          clear hK K
          (try simp only [Act.put, setZa, setZ0, setZ1])
          refine extT_do rfl (by rfl) (fun K hK => ?_)
          go_simp
          go_at_call 36
          refine (appendBytes_any _ _ y bs _ (by omega) hbs8 (HSy.out.ext ((Ext.drew _).trans (Ext.alloc _ _))) (HBS.out.ext ((Ext.drew _).trans (Ext.alloc _ _)))).mono ?_
          rintro e wb ⟨vb, rfl, hob, hxb⟩
          rw [HYE.out] at hob
          have HOB := Lib.hid (OwnB.slice hob)
          have HXB := Lib.hid hxb
          refine hK _ _ (by first | exact hxb | exact (Ext.drew _).trans hxb) ?_
          clear hK K hob hxb
          (try simp only [Act.put, setZa, setZ0, setZ1])
          refine extT_do rfl (by rfl) (fun K hK => ?_)
          go_simp
          go_at_call 34
          refine (numbers_any _ _ Y [bk, l.sum.toNat, l.root.toNat] _ hYl (by simp) hnm (by first | exact HOB.out.ext (Ext.alloc _ _) | exact HOB.out) (by first | exact (SliceAt.lit (enc := encM) wr.drew [bk, l.sum.toNat, l.root.toNat] _ (0, 0) _ rfl).ext HXB.out | exact SliceAt.lit (enc := encM) wb [bk, l.sum.toNat, l.root.toNat] _ (0, 0) _ rfl)).mono ?_
          rintro e wf ⟨vf, rfl, hsf, hxf⟩
          have HSF := Lib.hid hsf
          have HXF : Hid (Ext w wf) := Ext.trans HXw4.out (by first | exact Ext.trans (Ext.drew _) (Ext.trans HXB.out (Ext.trans (Ext.alloc _ _) hxf)) | exact Ext.trans (Ext.trans (Ext.drew _) (Ext.alloc _ _)) (Ext.trans HXB.out hxf))
          refine hK _ _ (by first | exact hxf | exact Ext.trans (Ext.alloc _ _) hxf) ?_
          clear hK K hsf hxf
          (try simp only [Act.put, setZa, setZ0, setZ1])
          iterate 1 ((first
           | refine extT_move rfl rfl (by rfl) (by rfl) ?_
           | refine extT_assign rfl rfl (by rfl) (by rfl) ?_
           | refine extT_pick_t rfl rfl (by rfl) (by rfl) (by rfl) ?_
           | refine extT_pick_f rfl rfl (by rfl) (by rfl) (by rfl) ?_
           | (apply extT_take rfl (by rfl)
              · intro w' hS
                have hSc := hS.cells
                (try simp only [World.size_drew, World.cell?_drew] at hSc)
                go_simp
                (try simp (disch := omega) only [i64_id, u64_id, ↓IntWalk.iteOmega, Int.tdiv_eq_ediv_of_nonneg, Int.tmod_eq_emod_of_nonneg])
                try rfl)
           | refine extT_pass rfl (by rfl) ?_); simp only [Act.put, setZa, setZ0, setZ1])
          refine extT_nil ?_
          skip
          rotate_left
          all_goals
            go_wp2_with fail
            go_ret
            exact ⟨_, rfl, by rw [HP.out]; exact HSF.out, HXF.out⟩
end Go.Proofs.YtjabgpejmnpamaaGreatDoor

namespace Go.Proofs.YtjabgpejmnpamaaGreatDoor
open Go.RowKit
theorem box_new2 (w : World) (o : Obj) (cs : Array Value) (t : TypeId) : BoxAt ((w.alloc o).alloc (.cells cs t)) (w.heap.size + 1) cs t := by
  have := BoxAt.new (w.alloc o) cs t
  rwa [World.size_alloc] at this
end Go.Proofs.YtjabgpejmnpamaaGreatDoor
