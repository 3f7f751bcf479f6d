/-
  Chapter 31 (election): lists of labels in memory; a label stored in a box.
-/
import Derived.Test.YtpmbbeflgifgaaaLbJ
import Derived.Test.YtpmbbeflgifgaaaElP
namespace Go.Proofs.Ytpmbbeflgifgaaa
open Go.RowKit
set_option linter.unusedVariables false

/-- a label and its list of disks out of service -/
abbrev LD := Lab × List Bool
/-- v is a slice of labels that reads as ls -/
def LabsAt (w : World) (v : Value) (ls : List LD) : Prop :=
  ∃ ad cap, v = .slice ad ls.length cap ∧ ls.length ≤ cap ∧ (ls = [] ∨ ∃ b off, ad = some ⟨b, off, none⟩ ∧ ∀ i (h : i < ls.length), ∃ dv, LabAt w b (off + i * 19) ls[i].1 dv ∧ SliceAt Value.bool w dv ls[i].2)
theorem LabsAt.ext {w w' : World} {v : Value} {ls : List LD} (h : LabsAt w v ls) (e : Ext w w') : LabsAt w' v ls := by
  obtain ⟨ad, cap, hv, hc, h⟩ := h
  refine ⟨ad, cap, hv, hc, h.imp id ?_⟩
  rintro ⟨b, off, ha, hi⟩
  refine ⟨b, off, ha, fun i h => ?_⟩
  obtain ⟨dv, h1, h2⟩ := hi i h
  exact ⟨dv, h1.ext e, h2.ext e⟩
theorem LabsAt.shape {w : World} {v : Value} {ls : List LD} (h : LabsAt w v ls) : ∃ ad cap, v = .slice ad ls.length cap := by
  obtain ⟨ad, cap, hv, _⟩ := h
  exact ⟨ad, cap, hv⟩
theorem LabsAt.get {w : World} {ad : Option Addr} {n cap : Nat} {ls : List LD} (h : LabsAt w (.slice ad n cap) ls) (i : Nat) (hi : i < ls.length) :
    ∃ b off, ad = some ⟨b, off, none⟩ ∧ ∃ dv, LabAt w b (off + i * 19) ls[i].1 dv ∧ SliceAt Value.bool w dv ls[i].2 := by
  obtain ⟨ad', cap', hv, _, h⟩ := h
  injection hv with h1 _ _
  rcases h with h0 | ⟨b, off, h2, h3⟩
  · subst h0; exact absurd hi (by simp)
  · exact ⟨b, off, h1.trans h2, h3 i hi⟩
/-- places -/
abbrev encN (i : Nat) : Value := .int .i64 i

theorem setCells_size (b : Nat) : ∀ (vs : List Value) (o : Nat) (w : World), (w.setCells b o vs).heap.size = w.heap.size
  | [], _, _ => rfl
  | v :: r, o, w => by rw [World.setCells, setCells_size b r, World.size_setCell]
theorem Ext.setCells {w0 : World} {b : Nat} (hb : w0.heap.size ≤ b) : ∀ (vs : List Value) (o : Nat) (w : World), Ext w0 w → Ext w0 (w.setCells b o vs)
  | [], _, _, h => h
  | v :: r, o, w, h => by rw [World.setCells]; exact Ext.setCells hb r _ _ (Ext.setOwn h hb)
theorem box_setCells {b : Nat} {t : TypeId} : ∀ (vs : List Value) (o : Nat) (w : World) (cs : Array Value), BoxAt w b cs t → o + vs.length ≤ cs.size → ∃ cs' : Array Value, BoxAt (w.setCells b o vs) b cs' t ∧ cs'.size = cs.size ∧ (∀ i, i < o → cs'[i]? = cs[i]?) ∧ ∀ i, i < vs.length → cs'[o + i]? = vs[i]?
  | [], o, w, cs, h, _ => ⟨cs, h, rfl, fun _ _ => rfl, fun i hi => absurd hi (by simp)⟩
  | v :: r, o, w, cs, h, hl => by
    rw [World.setCells]
    simp only [List.length_cons] at hl
    obtain ⟨cs', h1, h2, h3, h4⟩ := box_setCells r (o + 1) _ _ (h.set o v) (by simp; omega)
    refine ⟨cs', h1, by rw [h2]; simp, fun i hi => ?_, fun i hi => ?_⟩
    · rw [h3 i (by omega), Array.getElem?_setIfInBounds_ne (by omega)]
    · cases i with
      | zero =>
        rw [Nat.add_zero, h3 o (by omega), Array.getElem?_setIfInBounds_self]
        simp [show o < cs.size by omega]
      | succ i =>
        have := h4 i (by simpa using hi)
        rw [show o + 1 + i = o + (i + 1) by omega] at this
        rw [this]; rfl
theorem BoxAt.setCells {w : World} {b : Nat} {t : TypeId} {cs : Array Value} (h : BoxAt w b cs t) (vs : List Value) (hl : vs.length = cs.size) : BoxAt (w.setCells b 0 vs) b vs.toArray t := by
  obtain ⟨cs', h1, h2, _, h4⟩ := box_setCells vs 0 w cs h (by omega)
  have : cs' = vs.toArray := by
    apply Array.ext_getElem?
    intro i
    by_cases hi : i < vs.length
    · have := h4 i hi
      rw [Nat.zero_add] at this
      rw [this]; simp
    · rw [Array.getElem?_eq_none (by omega), Array.getElem?_eq_none (by simp; omega)]
  rw [← this]; exact h1
theorem labA_one {l : Lab} {d : Value} (hd : d.oneCell' = true) : (labA l d).all (·.oneCell') = true := by
  cases d <;> simp_all [labA, Value.oneCell']
theorem lab_store {w : World} {g : Nat} {cs : Array Value} {t : TypeId} {l : Lab} {d : Value} (h : BoxAt w g cs t) (hs : cs.size = 19) (hd : d.oneCell' = true) :
    (Instr.storeAt 32 (.pointer (some ⟨g, 0, none⟩)) (labV l d)).run Try.prog w = .ok () (w.setCells g 0 (labA l d).toList) :=
  run_storeAt_mid w g 0 _ (labA l d) (fun j hj => ⟨by rw [Nat.zero_add]; obtain ⟨v, hv⟩ : ∃ v, cs[j]? = some v := ⟨_, Array.getElem?_eq_getElem (by rw [hs]; exact hj)⟩; rw [h.cell j hv]; rfl, by rw [Nat.zero_add]; exact h.free j⟩) info_lab (labA_one hd)
/-- a label is stored in a box of the call's own: at a list of operations -/
theorem wpList_store_lab {ops : Array Oper} {rest : List Oper} {o : Oper} {a : Act} {w w0 : World} {Q : Exit → Act → World → Prop} (x y : Operand) (ho : o.op = .store 32 x y)
    (hw : Region.wanted o (yielded ops a.tmps) = true) {g : Nat} {cs : Array Value} {t : TypeId} {l : Lab} {d : Value} (hx : a.eval x = .pointer (some ⟨g, 0, none⟩)) (hy : a.eval y = labV l d) (hb : BoxAt w g cs t) (hs : cs.size = 19) (hd : d.oneCell' = true)
    (he : Ext w0 w) (hg : w0.heap.size ≤ g)
    (h : ∀ w', Ext w0 w' → BoxAt w' g (labA l d) t → w'.heap.size = w.heap.size → wpList Try.prog ops Q rest (a.put o.dst undef) w') : wpList Try.prog ops Q (o :: rest) a w := by
  refine wpList_step fun K hK => ?_
  rw [if_pos hw]
  unfold Oper.wp execOp
  simp only [ho, hx, hy, Sem.run_bind, Sem.run_pure, Result.andThen_ok, lab_store hb hs hd]
  refine hK _ _ (h _ (Ext.setCells hg _ _ _ he) ?_ (setCells_size _ _ _ _))
  have := hb.setCells (labA l d).toList (by rw [hs]; rfl)
  simpa using this
end Go.Proofs.Ytpmbbeflgifgaaa
