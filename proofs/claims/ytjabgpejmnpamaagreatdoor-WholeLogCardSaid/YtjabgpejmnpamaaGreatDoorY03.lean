/-
  Part 3 of the proof.
-/
import Derived.Test.YtjabgpejmnpamaaGreatDoorY01
set_option linter.unusedVariables false
namespace Go.Proofs.YtjabgpejmnpamaaGreatDoor
open Go.ChangeShapes Go.WideShapes Go.ChangeAt Go.RowKit
structure Pat (α : Type) where
  size : Nat
  holds : World → List Value → α → Prop
  ext : ∀ {w w' : World} {cs : List Value} {x : α}, Ext w w' → holds w cs x → holds w' cs x
  len : ∀ {w : World} {cs : List Value} {x : α}, holds w cs x → cs.length = size
def Pat.one {α : Type} (f : α → Value) (ok : α → Prop) : Pat α where
  size := 1
  holds := fun _ cs x => cs = [f x] ∧ ok x
  ext := fun _ h => h
  len := fun h => by rw [h.1]; rfl
def Pat.u64 : Pat (BitVec 64) := Pat.one encU fun _ => True
def Pat.u8 : Pat (BitVec 8) := Pat.one encB fun _ => True
def I64 (n : Int) : Prop := -9223372036854775808 ≤ n ∧ n ≤ 9223372036854775807
def Pat.i64 : Pat Int := Pat.one encI I64
def Pat.pair {α β : Type} (p : Pat α) (q : Pat β) : Pat (α × β) where
  size := p.size + q.size
  holds := fun w cs x => ∃ c d, cs = c ++ d ∧ p.holds w c x.1 ∧ q.holds w d x.2
  ext := fun e ⟨c, d, h1, h2, h3⟩ => ⟨c, d, h1, p.ext e h2, q.ext e h3⟩
  len := fun ⟨c, d, h1, h2, h3⟩ => by rw [h1, List.length_append, p.len h2, q.len h3]
def Pat.rep {α : Type} (n : Nat) (p : Pat α) : Pat (List α) where
  size := n * p.size
  holds := fun w cs l => l.length = n ∧ cs.length = n * p.size ∧ ∀ i (h : i < l.length), p.holds w ((cs.drop (i * p.size)).take p.size) l[i]
  ext := fun e ⟨h1, h2, h3⟩ => ⟨h1, h2, fun i h => p.ext e (h3 i h)⟩
  len := fun h => h.2.1
def SliceR {α : Type} (p : Pat α) (w : World) (v : Value) (l : List α) : Prop :=
  ∃ ad cap, v = .slice ad l.length cap ∧ l.length ≤ cap ∧ (l = [] ∧ (ad = none → cap = 0) ∨ ∃ b off, ad = some ⟨b, off, none⟩ ∧ b < w.heap.size ∧ ∀ i (h : i < l.length), ∃ cs, p.holds w cs l[i] ∧ ∀ j (hj : j < cs.length), w.cell? ⟨b, off + i * p.size + j, none⟩ = some cs[j])
theorem SliceR.ext {α : Type} {p : Pat α} {w w' : World} {v : Value} {l : List α} (h : SliceR p w v l) (e : Ext w w') : SliceR p w' v l := by
  obtain ⟨ad, cap, hv, hca, h⟩ := h
  refine ⟨ad, cap, hv, hca, h.imp id ?_⟩
  rintro ⟨b, off, ha, hb, hc⟩
  refine ⟨b, off, ha, Nat.lt_of_lt_of_le hb e.below.size, fun i hi => ?_⟩
  obtain ⟨cs, h1, h2⟩ := hc i hi
  exact ⟨cs, p.ext e h1, fun j hj => (e.cell b _ hb).trans (h2 j hj)⟩
def Pat.slice {α : Type} (p : Pat α) : Pat (List α) where
  size := 1
  holds := fun w cs l => ∃ v, cs = [v] ∧ SliceR p w v l ∧ l.length ≤ maxLen
  ext := fun e ⟨v, h1, h2, h3⟩ => ⟨v, h1, h2.ext e, h3⟩
  len := fun ⟨v, h1, _⟩ => by rw [h1]; rfl
theorem SliceR.at {α : Type} {f : α → Value} {ok : α → Prop} {w : World} {v : Value} {l : List α} (h : SliceR (Pat.one f ok) w v l) : SliceAt f w v l ∧ ∀ x ∈ l, ok x := by
  obtain ⟨ad, cap, hv, hca, h⟩ := h
  rcases h with ⟨h1, h2⟩ | ⟨b, off, h1, h2, h3⟩
  · exact ⟨⟨ad, cap, hv, hca, .inl ⟨h1, h2⟩⟩, by rw [h1]; simp⟩
  · have key : ∀ i (h : i < l.length), w.cell? ⟨b, off + i, none⟩ = some (f l[i]) ∧ ok l[i] := by
      intro i hi
      obtain ⟨cs, ⟨rfl, hk⟩, hc⟩ := h3 i hi
      have h0 := hc 0 (by simp)
      rw [show (Pat.one f ok).size = 1 from rfl] at h0
      simp only [Nat.mul_one, Nat.add_zero] at h0
      exact ⟨h0, hk⟩
    refine ⟨⟨ad, cap, hv, hca, .inr ⟨b, off, h1, h2, fun i hi => (key i hi).1⟩⟩, fun x hx => ?_⟩
    obtain ⟨i, hi, rfl⟩ := List.getElem_of_mem hx
    exact (key i hi).2
theorem rep_one {α : Type} {f : α → Value} {ok : α → Prop} {n : Nat} {w : World} {cs : List Value} {l : List α} (h : (Pat.rep n (Pat.one f ok)).holds w cs l) : cs = l.map f ∧ l.length = n ∧ ∀ x ∈ l, ok x := by
  obtain ⟨h1, h2, h3⟩ := h
  rw [show (Pat.one f ok).size = 1 from rfl] at h2 h3
  have key : ∀ i (h : i < l.length), cs[i]? = some (f l[i]) ∧ ok l[i] := by
    intro i hi
    obtain ⟨h4, h5⟩ := h3 i hi
    refine ⟨?_, h5⟩
    have h6 := congrArg (fun q : List Value => q[0]?) h4
    simpa [List.getElem?_take, List.getElem?_drop] using h6
  refine ⟨List.ext_getElem? fun i => ?_, h1, fun x hx => ?_⟩
  · by_cases hi : i < l.length
    · rw [(key i hi).1]; simp [hi]
    · rw [List.getElem?_eq_none (by omega), List.getElem?_eq_none (by simp; omega)]
  · obtain ⟨i, hi, rfl⟩ := List.getElem_of_mem hx
    exact (key i hi).2
theorem list_of {α : Type} {n : Nat} {R : Nat → α → Prop} (each : ∀ i, i < n → ∃ x, R i x) : ∃ l : List α, l.length = n ∧ ∀ i (h : i < l.length), R i l[i] := by
  induction n with
  | zero => exact ⟨[], rfl, fun i h => absurd h (by simp)⟩
  | succ k ih =>
    obtain ⟨l, h1, h2⟩ := ih (fun i hi => each i (by omega))
    obtain ⟨x, hx⟩ := each k (by omega)
    refine ⟨l ++ [x], by simp [h1], fun i hi => ?_⟩
    by_cases hk : i < l.length
    · rw [List.getElem_append_left hk]; exact h2 i hk
    · have : i = k := by simp at hi; omega
      subst this
      rw [List.getElem_append_right (by omega)]
      simp only [h1, Nat.sub_self, List.getElem_singleton]
      exact hx
def Opens (P : Program) (t : TypeId) {α : Type} (p : Pat α) : Prop :=
  p.size = P.cellsOf t ∧ ∀ {H : Type} (enc : TypeId × Value → H) (w : World) (base : Nat) (spare : Nat → Bool) (held : Bool) (fuel : Nat) (cs : List Value) (y : DataW H × List MemPlace),
    DataW.trod enc P w base spare held fuel t cs = some y → ∃ x, p.holds w cs x
section
variable {P : Program} {t e : TypeId} {α β : Type} {p : Pat α} {q : Pat β}
theorem Opens.i64 (ht : P.underlying t = some (.int .i64)) (hc : 1 = P.cellsOf t) : Opens P t Pat.i64 :=
  ⟨hc, fun enc w base spare held fuel cs y h => by
    obtain ⟨n, rfl, _, hw⟩ := DataW.trod_int ht h
    simp [Lit.wf, IntKind.min, IntKind.max, IntKind.signed, IntKind.bits] at hw
    exact ⟨n, rfl, hw⟩⟩
theorem Opens.u64 (ht : P.underlying t = some (.int .u64)) (hc : 1 = P.cellsOf t) : Opens P t Pat.u64 :=
  ⟨hc, fun enc w base spare held fuel cs y h => by
    obtain ⟨n, rfl, _, hw⟩ := DataW.trod_int ht h
    simp [Lit.wf, IntKind.min, IntKind.max, IntKind.signed, IntKind.bits] at hw
    exact ⟨BitVec.ofInt 64 n, by show [Value.int .u64 n] = [.int .u64 _]; rw [un_ofInt n (by omega)], trivial⟩⟩
theorem Opens.u8 (ht : P.underlying t = some (.int .u8)) (hc : 1 = P.cellsOf t) : Opens P t Pat.u8 :=
  ⟨hc, fun enc w base spare held fuel cs y h => by
    obtain ⟨n, rfl, _, hw⟩ := DataW.trod_int ht h
    simp [Lit.wf, IntKind.min, IntKind.max, IntKind.signed, IntKind.bits] at hw
    exact ⟨BitVec.ofInt 8 n, by show [Value.int .u8 n] = [.int .u8 _]; rw [ub_ofInt n (by omega)], trivial⟩⟩
theorem cell_spot {w : World} {a : Addr} {v : Value} (h : w.cell? a = some v) : a.spot = none := by
  cases hsp : a.spot with
  | none => rfl
  | some s =>
    simp only [World.cell?] at h
    split at h
    · simp [hsp] at h
    · cases h
theorem add_at {a : Addr} {i j : Nat} (h : ((a.add i).add j).spot = none) : (a.add i).add j = ⟨a.block, a.off + i + j, none⟩ := by
  obtain ⟨b, o, s⟩ := a
  unfold Addr.add at h ⊢
  by_cases h1 : i = 0 <;> by_cases h2 : j = 0 <;> simp_all
theorem Opens.slice (he : Opens P e p) (ht : P.underlying t = some (.slice e)) (hc : 1 = P.cellsOf t) (h0 : decide (0 < P.cellsOf e) = true) : Opens P t (Pat.slice p) :=
  ⟨hc, fun enc w base spare held fuel cs y h => by
    have h0 : 0 < P.cellsOf e := of_decide_eq_true h0
    rcases DataW.trod_slice ht h with ⟨rfl, _⟩ | ⟨a, len, cap, elems, rest, n, _, rfl, _, hb, hl, hm, hlen, hel, _, _⟩
    · exact ⟨[], _, rfl, ⟨none, 0, rfl, Nat.le_refl _, .inl ⟨rfl, fun _ => rfl⟩⟩, by simp⟩
    · have each : ∀ i, i < len → ∃ cs x, p.holds w cs x ∧ ∀ j (hj : j < cs.length), w.cell? ⟨a.block, a.off + i * p.size + j, none⟩ = some cs[j] := by
        intro i hi
        have h1 := hel i hi
        rw [List.getElem?_eq_getElem (by omega), Option.bind_eq_some_iff] at h1
        obtain ⟨cs, hcs, htr⟩ := h1
        obtain ⟨x, hx⟩ := he.2 _ _ _ _ _ _ _ _ htr
        obtain ⟨_, hcl, hcell⟩ := World.cells?_some hcs
        refine ⟨cs, x, hx, fun j hj => ?_⟩
        have h2 := hcell j (by omega)
        rw [List.getElem?_eq_getElem hj, ← he.1] at h2
        rw [← h2, add_at (cell_spot h2)]
      have each : ∀ i, i < len → ∃ x cs, p.holds w cs x ∧ ∀ j (hj : j < cs.length), w.cell? ⟨a.block, a.off + i * p.size + j, none⟩ = some cs[j] := fun i hi => by
        obtain ⟨cs, x, h⟩ := each i hi
        exact ⟨x, cs, h⟩
      obtain ⟨l, hl1, hl2⟩ := list_of each
      refine ⟨l, _, rfl, ?_, by omega⟩
      rcases Nat.eq_zero_or_pos len with hz | hz
      · subst hz
        obtain rfl := List.eq_nil_of_length_eq_zero hl1
        exact ⟨some a, cap, rfl, by simp, .inl ⟨rfl, fun h => by cases h⟩⟩
      · obtain ⟨cs, h1, h2⟩ := hl2 0 (by omega)
        have hcl : 0 < cs.length := by rw [p.len h1, he.1]; exact h0
        have h3 := h2 0 hcl
        have hb : a.block < w.heap.size := by
          rcases Nat.lt_or_ge a.block w.heap.size with h' | h'
          · exact h'
          · simp [World.cell?, Array.getElem?_eq_none h'] at h3
        have hsp : a.spot = none := by
          have h4 := hel 0 hz
          rw [List.getElem?_eq_getElem (by omega), Option.bind_eq_some_iff] at h4
          obtain ⟨cs', hcs, htr⟩ := h4
          obtain ⟨_, hcl', hcell⟩ := World.cells?_some hcs
          have h5 := hcell 0 h0
          rw [List.getElem?_eq_getElem (by omega)] at h5
          have := cell_spot h5
          simpa [Addr.add] using this
        refine ⟨some a, cap, by rw [hl1], by omega, .inr ⟨a.block, a.off, ?_, hb, hl2⟩⟩
        obtain ⟨b, o, s⟩ := a
        cases hsp; rfl⟩
structure OpensF (P : Program) (fs : List Field) (off : Nat) (p : Pat α) : Prop where
  out : ∀ (H : Type) (enc : TypeId × Value → H) (w : World) (base : Nat) (spare : Nat → Bool) (held : Bool) (fuel : Nat) (cs : List Value), cs.length = off + p.size →
    (∀ f ∈ fs, ∃ y : DataW H × List MemPlace, DataW.trod enc P w base spare held fuel f.type ((cs.drop f.offset).take (P.cellsOf f.type)) = some y) → ∃ x, p.holds w (cs.drop off) x
theorem OpensF.last {f : Field} {off : Nat} (h : Opens P f.type p) (ho : f.offset = off) : OpensF P [f] off p := by
  refine ⟨?_⟩
  intro H enc w base spare held fuel cs hl hf
  obtain ⟨y, hy⟩ := hf f (by simp)
  rw [ho, ← h.1, List.take_of_length_le (by simp; omega)] at hy
  exact h.2 _ _ _ _ _ _ _ _ hy
theorem OpensF.cons {f : Field} {fs : List Field} {off : Nat} (h : Opens P f.type p) (ho : f.offset = off) (k : OpensF P fs (off + p.size) q) : OpensF P (f :: fs) off (Pat.pair p q) := by
  refine ⟨?_⟩
  intro H enc w base spare held fuel cs hl hf
  obtain ⟨y, hy⟩ := hf f (by simp)
  rw [ho, ← h.1] at hy
  obtain ⟨x, hx⟩ := h.2 _ _ _ _ _ _ _ _ hy
  obtain ⟨z, hz⟩ := k.out _ enc w base spare held fuel cs (by rw [hl]; show off + (p.size + q.size) = _; omega) (fun g hg => hf g (by simp [hg]))
  refine ⟨(x, z), _, _, ?_, hx, hz⟩
  rw [← List.drop_drop, List.take_append_drop]
theorem Opens.struct {fs : Array Field} (ht : P.underlying t = some (.struct fs)) (hf : OpensF P fs.toList 0 p) (hc : p.size = P.cellsOf t) : Opens P t p :=
  ⟨hc, fun enc w base spare held fuel cs y h => by
    obtain ⟨xs, n, _, _, hl, hxl, hfs⟩ := DataW.trod_struct ht h
    have := hf.out _ enc w base spare held n cs (by omega) (fun f hf => by
      obtain ⟨i, hi, rfl⟩ := List.getElem_of_mem hf
      have hi' : i < fs.size := by simpa using hi
      have h1 := hfs i fs[i] (Array.getElem?_eq_getElem hi')
      rw [List.getElem?_eq_getElem (by omega)] at h1
      exact ⟨_, by simpa using h1⟩)
    simpa using this⟩
theorem Opens.array {n : Nat} (he : Opens P e p) (ht : P.underlying t = some (.array n e)) (hc : n * p.size = P.cellsOf t) : Opens P t (Pat.rep n p) :=
  ⟨hc, fun enc w base spare held fuel cs y h => by
    obtain ⟨xs, m, _, _, hl, hxl, hfs⟩ := DataW.trod_array ht h
    have each : ∀ i, i < n → ∃ x, p.holds w ((cs.drop (i * p.size)).take p.size) x := by
      intro i hi
      have h1 := hfs i hi
      rw [List.getElem?_eq_getElem (by omega), ← he.1] at h1
      exact he.2 _ _ _ _ _ _ _ _ h1
    obtain ⟨l, h1, h2⟩ := list_of each
    exact ⟨l, h1, by rw [hl, hc], h2⟩⟩
theorem Opens.agg {H : Type} {enc : TypeId × Value → H} {w : World} {r : Reach} {b0 base : Nat} {spare : Nat → Bool} {held : Bool} {v : Value} {d : DataW H} {ps : List MemPlace}
    (ho : Opens P t p) (ht : (match P.underlying t with | some (.struct _) | some (.array _ _) => true | _ => false) = true)
    (hv : Value.okWide P w r b0 t v) (h : DataW.Trod enc P w base spare held t v d ps) : ∃ cs x, v = .agg cs.toArray ∧ p.holds w cs x := by
  have key : ∃ cs : Array Value, v = .agg cs := by
    unfold Value.okWide at hv
    revert hv ht
    cases P.underlying t with
    | none => simp
    | some d => cases d <;> simp <;> intro x hx <;> intros <;> exact ⟨x, hx⟩
  obtain ⟨cs, rfl⟩ := key
  obtain ⟨fuel, hf⟩ := h
  obtain ⟨x, hx⟩ := ho.2 _ _ _ _ _ _ _ _ hf
  exact ⟨cs.toList, x, rfl, hx⟩
theorem Opens.cell {H : Type} {enc : TypeId × Value → H} {w : World} {r : Reach} {b0 base : Nat} {spare : Nat → Bool} {held : Bool} {v : Value} {d : DataW H} {ps : List MemPlace}
    (ho : Opens P t p) (ht : (match P.underlying t with | some (.slice _) | some (.int _) | some .bool => true | _ => false) = true)
    (hv : Value.okWide P w r b0 t v) (h : DataW.Trod enc P w base spare held t v d ps) : ∃ x, p.holds w [v] x := by
  have key : v.cells = #[v] := by
    unfold Value.okWide at hv
    revert hv ht
    cases hu : P.underlying t with
    | none => simp
    | some d => cases d <;> simp [Cell.okWide, hu, Cell.ok] <;> cases v <;> simp [Value.cells]
  obtain ⟨fuel, hf⟩ := h
  obtain ⟨x, hx⟩ := ho.2 _ _ _ _ _ _ _ _ hf
  rw [key] at hx
  exact ⟨x, hx⟩
end
theorem holds_u64 {w : World} {v : Value} {x : BitVec 64} (h : Pat.u64.holds w [v] x) : v = encU x := List.singleton_inj.1 h.1
theorem holds_u8 {w : World} {v : Value} {x : BitVec 8} (h : Pat.u8.holds w [v] x) : v = encB x := List.singleton_inj.1 h.1
theorem holds_slice {α : Type} {p : Pat α} {w : World} {v : Value} {l : List α} (h : (Pat.slice p).holds w [v] l) : SliceR p w v l ∧ l.length ≤ maxLen := by
  obtain ⟨v', h1, h2, h3⟩ := h
  obtain rfl := List.singleton_inj.1 h1
  exact ⟨h2, h3⟩
end Go.Proofs.YtjabgpejmnpamaaGreatDoor
