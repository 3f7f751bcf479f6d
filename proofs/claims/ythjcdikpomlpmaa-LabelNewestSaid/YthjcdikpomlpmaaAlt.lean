/-
  A region that draws its order, walked in a tree of orders: where two operations may come up, both are gone through. No program is named here.
-/
import Derived.Test.YthjcdikpomlpmaaOrd
namespace Go.Proofs.Ythjcdikpomlpmaa
open Go.RowKit

inductive OT where
  | done
  | take (i : Nat) (t : OT)
  | one (i : Nat) (t : OT)
  | two (i j : Nat) (t u : OT)
def OT.size : OT → Nat
  | .done => 0
  | .take _ t => t.size + 1
  | .one _ t => t.size + 1
  | .two _ _ t _ => t.size + 1

section
variable {P : Program} {ops : Array Oper} {Q : Exit → Act → World → Prop}
def ordT (md : Region.Mode) (ops : Array Oper) : OT → Array Bool → Bool
  | .done, listed => (Region.ready md ops listed).isEmpty
  | .take i t, listed => (ops[i]?).isSome && Region.free md ops listed i && (Region.ready md ops listed).contains i && ordT md ops t (listed.setIfInBounds i true)
  | .one i t, listed => (Region.ready md ops listed == [i]) && ordT md ops t (listed.setIfInBounds i true)
  | .two i j t u, listed => (Region.ready md ops listed == [i, j]) && ordT md ops t (listed.setIfInBounds i true) && ordT md ops u (listed.setIfInBounds j true) && (t.size == u.size)

def wpT (P : Program) (ops : Array Oper) (Q : Exit → Act → World → Prop) : OT → (World → Prop) → Act → World → Prop
  | .done, _, a, w => Q .normal a w
  | .take i t, S, a, w => ∃ v o, ops[i]? = some o ∧ YieldsIf P ops S o v a ∧ wpT P ops Q t S (a.put o.dst v) w
  | .one i t, S, a, w => wpOp P ops Q i (fun a' w' => ∃ S' : World → Prop, ((∀ x, S' x → S x) ∨ coversB .any ops i = true) ∧ S' w' ∧ wpT P ops Q t S' a' w') a w
  | .two i j t u, S, a, w => wpOp P ops Q i (fun a' w' => ∃ S' : World → Prop, (∀ x, S' x → S x) ∧ S' w' ∧ wpT P ops Q t S' a' w') a w ∧
      wpOp P ops Q j (fun a' w' => ∃ S' : World → Prop, (∀ x, S' x → S x) ∧ S' w' ∧ wpT P ops Q u S' a' w') a w

theorem wpAnyG_of_T (hs : Region.noSelect ops = true) (hQ : ∀ c a (d : Option Tmp) v w, Q (.panic c) (a.put d v) w → Q (.panic c) a w) : ∀ (t : OT) (S : World → Prop) (listed : Array Bool) (a : Act) (w : World),
    Closed .any ops listed → ordT .any ops t listed = true → S w → wpT P ops Q t S a w → wpAnyG P .any ops Q t.size S listed a w
  | .done, S, listed, a, w, _, hB, _, h => ⟨by simpa [ordT] using hB, h⟩
  | .take i r, S, listed, a, w, hcl, hB, hS, h => by
    simp only [ordT, Bool.and_eq_true] at hB
    obtain ⟨⟨⟨_, hf⟩, hr⟩, hB'⟩ := hB
    obtain ⟨v, o, ho, hy, hk⟩ := h
    exact wpAnyG_first ho (Region.noSelect_spec hs) (fun c a w => hQ c a _ v w) r.size S listed a w hcl (Region.free_spec ho hf) (by simpa using hr) hy hS (wpAnyG_of_T hs hQ r S _ _ _ (hcl.set (by simpa using hr)) hB' hS hk)
  | .one i r, S, listed, a, w, hcl, hB, hS, h => by
    simp only [ordT, Bool.and_eq_true, beq_iff_eq] at hB
    obtain ⟨hr, hB'⟩ := hB
    refine ⟨(fun h0 => absurd (hr.symm.trans h0) (by simp)), fun j hj => ?_⟩
    rw [hr] at hj
    obtain rfl : j = i := by simpa using hj
    exact wpOp_mono (fun a' w' ⟨S', hs', hS', hk⟩ => ⟨S', hs', hS', wpAnyG_of_T hs hQ r S' _ _ _ (hcl.set (by rw [hr]; simp)) hB' hS' hk⟩) h
  | .two i j t u, S, listed, a, w, hcl, hB, hS, h => by
    simp only [ordT, Bool.and_eq_true, beq_iff_eq] at hB
    obtain ⟨⟨⟨hr, hB1⟩, hB2⟩, hsz⟩ := hB
    refine ⟨(fun h0 => absurd (hr.symm.trans h0) (by simp)), fun k hk => ?_⟩
    rw [hr] at hk
    have hk : k = i ∨ k = j := by simpa using hk
    rcases hk with rfl | rfl
    · exact wpOp_mono (fun a' w' ⟨S', hs', hS', hk⟩ => ⟨S', .inl hs', hS', wpAnyG_of_T hs hQ t S' _ _ _ (hcl.set (by rw [hr]; simp)) hB1 hS' hk⟩) h.1
    · exact wpOp_mono (fun a' w' ⟨S', hs', hS', hk⟩ => ⟨S', .inl hs', hS', by
        show wpAnyG P .any ops Q t.size S' _ _ _
        rw [hsz]
        exact wpAnyG_of_T hs hQ u S' _ _ _ (hcl.set (by rw [hr]; simp)) hB2 hS' hk⟩) h.2

theorem wp_region_T {id : Nat} {a : Act} {w : World} {l : List Oper} (t : OT) (S : World → Prop) (hm : P.follows .mixedOrders = true)
    (hB : (Region.noSelect l.toArray && ordT .any l.toArray t (Array.replicate l.length false) && (t.size == l.length)) = true)
    (hS : S w.drew) (h : wpT P l.toArray (Calm Q) t S a w.drew) : (Code.region id l.toArray true).wp P Q a w := by
  simp only [Bool.and_eq_true, beq_iff_eq] at hB
  obtain ⟨⟨h1, h2⟩, h3⟩ := hB
  refine Code.wp_mono (Q := Calm Q) (fun e a w hq => ?_) (wp_region_any hm ?_)
  · cases e <;> first | exact hq | exact (hq : False).elim
  · have := wpAny_of_G _ _ _ _ _ (wpAnyG_of_T h1 (fun _ _ _ _ _ h => h) t S _ a _ Closed.none h2 hS h)
    rw [h3] at this
    simpa using this
end

section
variable {P : Program} {l : List Oper} {Q : Exit → Act → World → Prop} {i : Nat} {o : Oper} {r : OT} {a : Act} {b w : World} {v : Value}
def wpExtT (P : Program) (l : List Oper) (Q : Exit → Act → World → Prop) (t : OT) (b : World) (a : Act) (w : World) : Prop := wpT P l.toArray (Calm Q) t (Ext b) a w
theorem wp_region_extT {id : Nat} (t : OT) (hm : P.follows .mixedOrders = true)
    (hB : (Region.noSelect l.toArray && ordT .any l.toArray t (Array.replicate l.length false) && (t.size == l.length)) = true)
    (h : wpExtT P l Q t w a w.drew) : (Code.region id l.toArray true).wp P Q a w := wp_region_T t (Ext w) hm hB (Ext.drew _) h
theorem extT_nil (h : Q .normal a w) : wpExtT P l Q .done b a w := h
theorem extT_take (ho : nth l i = some o) (hw : Region.wanted o (yielded l.toArray a.tmps) = true) (h : ∀ w', Ext b w' → (execOp a.eval o).run P w' = .ok (.value v) w')
    (k : wpExtT P l Q r b (a.put o.dst v) w) : wpExtT P l Q (.take i r) b a w := ⟨v, o, nth_get ho, .inl ⟨hw, h⟩, k⟩
theorem extT_move {x : Operand} (ho : nth l i = some o) (hop : o.op = .move x) (hw : Region.wanted o (yielded l.toArray a.tmps) = true) (hv : evalL a x = some v)
    (k : wpExtT P l Q r b (a.put o.dst v) w) : wpExtT P l Q (.take i r) b a w := extT_take ho hw (fun w' _ => by unfold execOp; rw [hop, ← evalL_eq hv]; rfl) k
theorem extT_assign {x : Operand} (ho : nth l i = some o) (hop : o.op = .assign x) (hw : Region.wanted o (yielded l.toArray a.tmps) = true) (hv : evalL a x = some v)
    (k : wpExtT P l Q r b (a.put o.dst v) w) : wpExtT P l Q (.take i r) b a w := extT_take ho hw (fun w' _ => by unfold execOp; rw [hop, ← evalL_eq hv]; rfl) k
theorem extT_pick_t {c x y : Operand} (ho : nth l i = some o) (hop : o.op = .pick c x y) (hw : Region.wanted o (yielded l.toArray a.tmps) = true) (hc : evalL a c = some (.bool true)) (hv : evalL a x = some v)
    (k : wpExtT P l Q r b (a.put o.dst v) w) : wpExtT P l Q (.take i r) b a w := extT_take ho hw (fun w' _ => by unfold execOp; rw [hop, ← evalL_eq hv]; simp only [evalL_eq hc]; rfl) k
theorem extT_pick_f {c x y : Operand} (ho : nth l i = some o) (hop : o.op = .pick c x y) (hw : Region.wanted o (yielded l.toArray a.tmps) = true) (hc : evalL a c = some (.bool false)) (hv : evalL a y = some v)
    (k : wpExtT P l Q r b (a.put o.dst v) w) : wpExtT P l Q (.take i r) b a w := extT_take ho hw (fun w' _ => by unfold execOp; rw [hop, ← evalL_eq hv]; simp only [evalL_eq hc]; rfl) k
theorem extT_pass (ho : nth l i = some o) (hw : Region.wanted o (yielded l.toArray a.tmps) = false)
    (k : wpExtT P l Q r b (a.put o.dst undef) w) : wpExtT P l Q (.take i r) b a w := ⟨undef, o, nth_get ho, .inr ⟨hw, rfl⟩, k⟩
theorem opT_do (hw : Region.wanted o (yielded l.toArray a.tmps) = true) (ho : nth l i = some o) {K : Act → World → Prop} (k : o.wp P a w K (Calm Q)) : wpOp P l.toArray (Calm Q) i K a w := by
  unfold wpOp; rw [nth_get ho]; simp only [hw, if_true]
  exact .inl k
theorem extT_do (ho : nth l i = some o) (hw : Region.wanted o (yielded l.toArray a.tmps) = true)
    (k : ∀ K : Act → World → Prop, (∀ a' w', Ext b w' → wpExtT P l Q r w' a' w' → K a' w') → o.wp P a w K (Calm Q)) : wpExtT P l Q (.one i r) b a w := by
  unfold wpExtT wpT
  exact opT_do hw ho (k _ fun _ w' h1 h2 => ⟨Ext w', .inl fun _ hx => h1.trans hx, Ext.refl _, h2⟩)
/-- two may come up: each in its turn -/
theorem extT_two {j : Nat} {p : Oper} {t u : OT} (ho : nth l i = some o) (hp : nth l j = some p) (hw : Region.wanted o (yielded l.toArray a.tmps) = true) (hv : Region.wanted p (yielded l.toArray a.tmps) = true)
    (k : ∀ K : Act → World → Prop, (∀ a' w', Ext b w' → wpExtT P l Q t w' a' w' → K a' w') → o.wp P a w K (Calm Q))
    (m : ∀ K : Act → World → Prop, (∀ a' w', Ext b w' → wpExtT P l Q u w' a' w' → K a' w') → p.wp P a w K (Calm Q)) : wpExtT P l Q (.two i j t u) b a w :=
  ⟨opT_do hw ho (k _ fun _ w' h1 h2 => ⟨Ext w', fun _ hx => h1.trans hx, Ext.refl _, h2⟩), opT_do hv hp (m _ fun _ w' h1 h2 => ⟨Ext w', fun _ hx => h1.trans hx, Ext.refl _, h2⟩)⟩
/-- a last operation that nothing is held over behind: it may change what was there -/
theorem extT_last (ho : nth l i = some o) (hw : Region.wanted o (yielded l.toArray a.tmps) = true) (hc : coversB .any l.toArray i = true)
    (k : ∀ K : Act → World → Prop, (∀ a' w', Q .normal a' w' → K a' w') → o.wp P a w K (Calm Q)) : wpExtT P l Q (.one i .done) b a w := by
  unfold wpExtT wpT
  exact opT_do hw ho (k _ fun _ w' h2 => ⟨fun _ => True, .inr hc, trivial, h2⟩)
end
end Go.Proofs.Ythjcdikpomlpmaa
