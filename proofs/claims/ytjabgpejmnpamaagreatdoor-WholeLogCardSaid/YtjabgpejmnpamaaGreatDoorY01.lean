/-
  Part 1 of the proof.
-/
import Derived.OrdersHeld
import Derived.WalkKit
import Derived.KernelRfl
import Derived.Lib.Hide
import Derived.Laws.AppendOwnNone
import Derived.Test.YtjabgpejmnpamaaGreatDoorRows
import Derived.ProofKit
import Derived.WalkSpells
import Derived.WalkLawsBesides
import Derived.SizedLaws
import Derived.OpenShut
import Derived.RangeFuncNested
import Derived.RangeFuncBound
import Derived.RangeFuncCalls
import Derived.RangeFuncLeaves
import Derived.RangeFuncBox
import Derived.OrdersIn
import Derived.TacticsInMore
import Derived.Deep.RegionHeld3
import Derived.Deep.DrawnRows
set_option linter.unusedVariables false
namespace Go.Proofs.YtjabgpejmnpamaaGreatDoor
theorem setZa {α : Type} {l : List α} {i : Nat} {a : α} : l.toArray.setIfInBounds i a = (l.set i a).toArray := List.setIfInBounds_toArray ..
theorem setZ0 {α : Type} {a b : α} {l : List α} : (a :: l).set 0 b = b :: l := rfl
theorem setZ1 {α : Type} {a b : α} {l : List α} {n : Nat} : (a :: l).set (n + 1) b = a :: l.set n b := rfl
end Go.Proofs.YtjabgpejmnpamaaGreatDoor
namespace Go.Proofs.YtjabgpejmnpamaaGreatDoor
open Go.RowKit
section
variable {P : Program} {ops : Array Oper} {Q : Exit → Act → World → Prop} {md : Region.Mode}
def bef (md : Region.Mode) (ops : Array Oper) : Nat → Nat → Nat → Bool
  | 0, _, _ => false
  | f + 1, k, i => match ops[i]? with
    | some o => o.after.any fun e => Region.binds md e && (e.on == k || bef md ops f k e.on)
    | none => false
def coversB (md : Region.Mode) (ops : Array Oper) (i : Nat) : Bool :=
  (List.range ops.size).all fun k => k == i || bef md ops ops.size k i || bef md ops ops.size i k
def Closed (md : Region.Mode) (ops : Array Oper) (listed : Array Bool) : Prop :=
  ∀ m o, listed.getD m false = true → ops[m]? = some o → ∀ e ∈ o.after, Region.binds md e = true → listed.getD e.on false = true
theorem set_inv {listed : Array Bool} {i k : Nat} (h : (listed.setIfInBounds i true).getD k false = true) : k = i ∨ listed.getD k false = true := by
  by_cases e : k = i
  · exact .inl e
  · exact .inr (by rwa [getD_set_ne false (Ne.symm e)] at h)
theorem set_mono {listed : Array Bool} {i k : Nat} (h : listed.getD k false = true) : (listed.setIfInBounds i true).getD k false = true := by
  by_cases e : i = k
  · subst e
    have hlt : i < listed.size := by
      rcases Nat.lt_or_ge i listed.size with h' | h'
      · exact h'
      · simp [Array.getElem?_eq_none h'] at h
    simp [hlt]
  · rwa [getD_set_ne false e]
theorem Closed.set {md : Region.Mode} {ops : Array Oper} {listed : Array Bool} {i : Nat} (hc : Closed md ops listed) (hi : i ∈ Region.ready md ops listed) : Closed md ops (listed.setIfInBounds i true) := by
  intro m o hm ho e he hb
  refine set_mono ?_
  rcases set_inv hm with rfl | hm
  · obtain ⟨_, o', ho', hall⟩ := mem_ready.1 hi
    rw [ho] at ho'
    obtain rfl := Option.some.inj ho'
    exact hall e he hb
  · exact hc m o hm ho e he hb
theorem Closed.none {md : Region.Mode} {ops : Array Oper} {n : Nat} : Closed md ops (Array.replicate n false) := by
  intro m o hm
  rcases Nat.lt_or_ge m n with h | h
  · simp [h] at hm
  · simp [Array.getElem?_eq_none (show (Array.replicate n false).size ≤ m by simpa using h)] at hm
theorem bef_listed {md : Region.Mode} {ops : Array Oper} {listed : Array Bool} (hc : Closed md ops listed) {k : Nat} :
    ∀ (f i : Nat), (∀ o, ops[i]? = some o → ∀ e ∈ o.after, Region.binds md e = true → listed.getD e.on false = true) → bef md ops f k i = true → listed.getD k false = true
  | 0, _, _, h => by simp [bef] at h
  | f + 1, i, hp, h => by
    simp only [bef] at h
    cases ho : ops[i]? with
    | none => rw [ho] at h; cases h
    | some o =>
      rw [ho] at h
      simp only [Array.any_eq_true] at h
      obtain ⟨n, hn, hb⟩ := h
      rw [Bool.and_eq_true, Bool.or_eq_true, beq_iff_eq] at hb
      have hl := hp o ho _ (Array.getElem_mem hn) hb.1
      rcases hb.2 with h1 | h1
      · rw [h1] at hl; exact hl
      · exact bef_listed hc f _ (fun o' ho' e he hbe => hc _ o' hl ho' e he hbe) h1
theorem ready_preds {md : Region.Mode} {ops : Array Oper} {i : Nat} {listed : Array Bool} (hi : i ∈ Region.ready md ops listed) : ∀ o, ops[i]? = some o → ∀ e ∈ o.after, Region.binds md e = true → listed.getD e.on false = true := by
  intro o ho e he hb
  obtain ⟨_, o', ho', hall⟩ := mem_ready.1 hi
  rw [ho] at ho'
  obtain rfl := Option.some.inj ho'
  exact hall e he hb
theorem ready_not {md : Region.Mode} {ops : Array Oper} {i : Nat} {listed : Array Bool} (hi : i ∈ Region.ready md ops listed) (h1 : listed.getD i false = true) : False := by
  have h0 := (mem_ready.1 hi).1
  rcases Nat.lt_or_ge i listed.size with h' | h'
  · simp [h'] at h0 h1; rw [h0] at h1; cases h1
  · simp [Array.getElem?_eq_none h'] at h1
theorem covers_alone {i j : Nat} {listed : Array Bool} (hcl : Closed md ops listed) (h : coversB md ops j = true) (hj : j ∈ Region.ready md ops listed) (hi : i ∈ Region.ready md ops listed) (hne : i ≠ j) : False := by
  obtain ⟨_, p, hp, _⟩ := mem_ready.1 hi
  have hil : i < ops.size := (Array.getElem?_eq_some_iff.1 hp).1
  unfold coversB at h
  simp only [List.all_eq_true, List.mem_range, Bool.or_eq_true, beq_iff_eq] at h
  rcases h i hil with (h | h) | h
  · exact hne h
  · exact ready_not hi (bef_listed hcl _ _ (ready_preds hj) h)
  · exact ready_not hj (bef_listed hcl _ _ (ready_preds hi) h)
def wpAnyG (P : Program) (md : Region.Mode) (ops : Array Oper) (Q : Exit → Act → World → Prop) : Nat → (World → Prop) → Array Bool → Act → World → Prop
  | 0, _, listed, a, w => Region.ready md ops listed = [] ∧ Q .normal a w
  | fuel + 1, S, listed, a, w =>
    (Region.ready md ops listed = [] → Q .normal a w) ∧
    ∀ i ∈ Region.ready md ops listed, wpOp P ops Q i (fun a' w' => ∃ S' : World → Prop, ((∀ x, S' x → S x) ∨ coversB md ops i = true) ∧ S' w' ∧ wpAnyG P md ops Q fuel S' (listed.setIfInBounds i true) a' w') a w
theorem wpAny_of_G : ∀ (fuel : Nat) (S : World → Prop) (listed : Array Bool) (a : Act) (w : World), wpAnyG P md ops Q fuel S listed a w → wpAny P md ops Q fuel listed a w
  | 0, _, _, _, _, h => h
  | fuel + 1, _, _, _, _, h => ⟨h.1, fun i hi => wpOp_mono (fun a' w' ⟨S', _, _, h'⟩ => wpAny_of_G fuel S' _ a' w' h') (h.2 i hi)⟩
theorem YieldsIf.weaken {S S' : World → Prop} {o : Oper} {v : Value} {a : Act} (h : YieldsIf P ops S o v a) (hs : ∀ x, S' x → S x) : YieldsIf P ops S' o v a :=
  h.imp (fun ⟨hw, hv⟩ => ⟨hw, fun w hw' => hv w (hs w hw')⟩) id
theorem wpAnyG_first {i : Nat} {oi : Oper} {v : Value} (hi : ops[i]? = some oi) (hsel : ∀ (j : Nat) (o : Oper) cs b, ops[j]? = some o → o.op ≠ .select cs b)
    (hQ : ∀ c a w, Q (.panic c) (a.put oi.dst v) w → Q (.panic c) a w) :
    ∀ (fuel : Nat) (S : World → Prop) (listed : Array Bool) (a : Act) (w : World), Closed md ops listed →
      (∀ j oj, ops[j]? = some oj → j ≠ i → listed.getD j true = false → (∀ e ∈ oj.after, Region.binds md e = true → e.on ≠ i) → oi.apart ops oj = true) →
      i ∈ Region.ready md ops listed → YieldsIf P ops S oi v a → S w →
      wpAnyG P md ops Q fuel S (listed.setIfInBounds i true) (a.put oi.dst v) w → wpAnyG P md ops Q (fuel + 1) S listed a w := by
  intro fuel
  induction fuel with
  | zero =>
    intro S listed a w _ _ hr hy hS H
    refine ⟨fun h => (by rw [h] at hr; cases hr), fun j hj => ?_⟩
    by_cases hji : j = i
    · subst hji; exact hy.wpOp hi hS ⟨S, .inl fun _ h => h, hS, H⟩
    · have := ready_mono hj hji
      rw [H.1] at this
      cases this
  | succ fuel ih =>
    intro S listed a w hcl hfree hr hy hS H
    refine ⟨fun h => (by rw [h] at hr; cases hr), fun j hj => ?_⟩
    by_cases hji : j = i
    · subst hji; exact hy.wpOp hi hS ⟨S, .inl fun _ h => h, hS, H⟩
    · have h1 := H.2 j (ready_mono hj hji)
      obtain ⟨hjun, oj, hoj, hall⟩ := mem_ready.1 hj
      have hnot : ∀ e ∈ oj.after, Region.binds md e = true → e.on ≠ i := fun e he hb heq => by
        have h1 := hall e he hb
        have h0 := (mem_ready.1 hr).1
        rw [heq] at h1
        rcases Nat.lt_or_ge i listed.size with h' | h'
        · simp [h'] at h0 h1; rw [h0] at h1; cases h1
        · simp [Array.getElem?_eq_none h'] at h1
      have h2 := wpOp_putIf hoj (hfree j oj hoj hji hjun hnot) (fun cs b => hsel i oi cs b hi) (fun cs b => hsel j oj cs b hoj) hQ hy h1
      have hfree' : ∀ k ok, ops[k]? = some ok → k ≠ i → (listed.setIfInBounds j true).getD k true = false →
          (∀ e ∈ ok.after, Region.binds md e = true → e.on ≠ i) → oi.apart ops ok = true := fun k ok hk hki hun hno => by
        refine hfree k ok hk hki ?_ hno
        by_cases hjk : j = k
        · subst hjk; exact hjun
        · rw [getD_set_ne true hjk] at hun; exact hun
      refine wpOp_mono (fun a' w' h3 => ?_) h2
      obtain ⟨hy', S', hs, hS', h4⟩ := h3
      have hs : ∀ x, S' x → S x := by
        rcases hs with hs | hc
        · exact hs
        · exact (covers_alone hcl hc hj hr (Ne.symm hji)).elim
      refine ⟨S', .inl hs, hS', ih S' (listed.setIfInBounds j true) a' w' (hcl.set hj) hfree' (ready_mono hr (Ne.symm hji)) (YieldsIf.weaken hy' hs) hS' ?_⟩
      rw [Array.setIfInBounds_comm _ _ hji]
      exact h4
def ordB (md : Region.Mode) (ops : Array Oper) : List (Nat × Bool) → Array Bool → Bool
  | [], listed => (Region.ready md ops listed).isEmpty
  | (i, true) :: r, listed => (ops[i]?).isSome && Region.free md ops listed i && (Region.ready md ops listed).contains i && ordB md ops r (listed.setIfInBounds i true)
  | (i, false) :: r, listed => (Region.ready md ops listed == [i]) && ordB md ops r (listed.setIfInBounds i true)
def wpOrd (P : Program) (ops : Array Oper) (Q : Exit → Act → World → Prop) : List (Nat × Bool) → (World → Prop) → Act → World → Prop
  | [], _, a, w => Q .normal a w
  | (i, true) :: r, S, a, w => ∃ v o, ops[i]? = some o ∧ YieldsIf P ops S o v a ∧ wpOrd P ops Q r S (a.put o.dst v) w
  | (i, false) :: r, S, a, w => wpOp P ops Q i (fun a' w' => ∃ S' : World → Prop, ((∀ x, S' x → S x) ∨ coversB .any ops i = true) ∧ S' w' ∧ wpOrd P ops Q r S' a' w') a w
def Calm (Q : Exit → Act → World → Prop) : Exit → Act → World → Prop
  | .normal, a, w => Q .normal a w
  | _, _, _ => False
theorem wpAnyG_of_ord (hs : Region.noSelect ops = true) (hQ : ∀ c a (d : Option Tmp) v w, Q (.panic c) (a.put d v) w → Q (.panic c) a w) : ∀ (ord : List (Nat × Bool)) (S : World → Prop) (listed : Array Bool) (a : Act) (w : World),
    Closed .any ops listed → ordB .any ops ord listed = true → S w → wpOrd P ops Q ord S a w → wpAnyG P .any ops Q ord.length S listed a w
  | [], S, listed, a, w, _, hB, _, h => ⟨by simpa [ordB] using hB, h⟩
  | (i, true) :: r, S, listed, a, w, hcl, hB, hS, h => by
    simp only [ordB, Bool.and_eq_true] at hB
    obtain ⟨⟨⟨_, hf⟩, hr⟩, hB'⟩ := hB
    obtain ⟨v, o, ho, hy, hk⟩ := h
    exact wpAnyG_first ho (Region.noSelect_spec hs) (fun c a w => hQ c a _ v w) r.length S listed a w hcl (Region.free_spec ho hf) (by simpa using hr) hy hS (wpAnyG_of_ord hs hQ r S _ _ _ (hcl.set (by simpa using hr)) hB' hS hk)
  | (i, false) :: r, S, listed, a, w, hcl, hB, hS, h => by
    simp only [ordB, Bool.and_eq_true, beq_iff_eq] at hB
    obtain ⟨hr, hB'⟩ := hB
    refine ⟨(fun h0 => absurd (hr.symm.trans h0) (by simp)), fun j hj => ?_⟩
    rw [hr] at hj
    obtain rfl : j = i := by simpa using hj
    exact wpOp_mono (fun a' w' ⟨S', hs', hS', hk⟩ => ⟨S', hs', hS', wpAnyG_of_ord hs hQ r S' _ _ _ (hcl.set (by rw [hr]; simp)) hB' hS' hk⟩) h
theorem wp_region_ord {id : Nat} {a : Act} {w : World} {l : List Oper} (ord : List (Nat × Bool)) (S : World → Prop) (hm : P.follows .mixedOrders = true)
    (hB : (Region.noSelect l.toArray && ordB .any l.toArray ord (Array.replicate l.length false) && (ord.length == l.length)) = true)
    (hS : S w.drew) (h : wpOrd P l.toArray (Calm Q) ord S a w.drew) : (Code.region id l.toArray true).wp P Q a w := by
  simp only [Bool.and_eq_true, beq_iff_eq] at hB
  obtain ⟨⟨h1, h2⟩, h3⟩ := hB
  refine Code.wp_mono (Q := Calm Q) (fun e a w hq => ?_) (wp_region_any hm ?_)
  · cases e <;> first | exact hq | exact (hq : False).elim
  · have := wpAny_of_G _ _ _ _ _ (wpAnyG_of_ord h1 (fun _ _ _ _ _ h => h) ord S _ a _ Closed.none h2 hS h)
    rw [h3] at this
    simpa using this
variable {i : Nat} {o : Oper} {r : List (Nat × Bool)} {S : World → Prop} {a : Act} {w : World} {v : Value}
theorem ord_take (ho : ops[i]? = some o) (hw : Region.wanted o (yielded ops a.tmps) = true) (h : ∀ w', S w' → (execOp a.eval o).run P w' = .ok (.value v) w')
    (k : wpOrd P ops Q r S (a.put o.dst v) w) : wpOrd P ops Q ((i, true) :: r) S a w := ⟨v, o, ho, .inl ⟨hw, h⟩, k⟩
theorem ord_pass (ho : ops[i]? = some o) (hw : Region.wanted o (yielded ops a.tmps) = false)
    (k : wpOrd P ops Q r S (a.put o.dst undef) w) : wpOrd P ops Q ((i, true) :: r) S a w := ⟨undef, o, ho, .inr ⟨hw, rfl⟩, k⟩
theorem ord_passE (ho : ops[i]? = some o) (hw : Region.wanted o (yielded ops a.tmps) = false) (hS : S w)
    (k : wpOrd P ops Q r S (a.put o.dst undef) w) : wpOrd P ops Q ((i, false) :: r) S a w := by
  show wpOp _ _ _ _ _ _ _
  unfold wpOp; rw [ho]; simp only [hw]
  exact ⟨S, .inl fun _ h => h, hS, k⟩
theorem ord_do (ho : ops[i]? = some o) (hw : Region.wanted o (yielded ops a.tmps) = true)
    (k : ∀ K : Act → World → Prop, (∀ (S' : World → Prop) a' w', ((∀ x, S' x → S x) ∨ coversB .any ops i = true) → S' w' → wpOrd P ops Q r S' a' w' → K a' w') → o.wp P a w K Q) : wpOrd P ops Q ((i, false) :: r) S a w := by
  show wpOp _ _ _ _ _ _ _
  unfold wpOp; rw [ho]; simp only [hw, if_true]
  exact .inl (k _ fun S' _ _ h1 h2 h3 => ⟨S', h1, h2, h3⟩)
end
def nthV : List Value → Nat → Option Value
  | [], _ => none
  | v :: _, 0 => some v
  | _ :: r, i + 1 => nthV r i
theorem nthV_get {l : List Value} {i : Nat} {v : Value} (h : nthV l i = some v) : l[i]? = some v := by
  induction l generalizing i with
  | nil => simp [nthV] at h
  | cons x r ih =>
    cases i with
    | zero => simpa [nthV] using h
    | succ i => simpa [nthV] using ih h
def evalL (a : Act) : Operand → Option Value
  | .tmp t => nthV a.tmps.toList t
  | .const c => some c
  | _ => none
theorem evalL_eq {a : Act} {x : Operand} {v : Value} (h : evalL a x = some v) : a.eval x = v := by
  cases x <;> simp only [evalL] at h
  · have := nthV_get h
    rw [Array.getElem?_toList] at this
    simp only [Act.eval]
    rw [Array.getD_eq_getD_getElem?, this]; rfl
  · exact Option.some.inj h
  all_goals cases h
def Ext (w w' : World) : Prop := Below w.heap.size w w'
theorem Ext.below {w w' : World} (h : Ext w w') : Below w.heap.size w w' := h
theorem Ext.refl (w : World) : Ext w w := Below.refl _ _
theorem Ext.trans {a b c : World} (h : Ext a b) (k : Ext b c) : Ext a c := Below.trans h (Below.mono k (Below.size h))
theorem Ext.alloc (w : World) (o : Obj) : Ext w (w.alloc o) := (Below.refl _ _).alloc (Nat.le_refl _) _
theorem Ext.drew (w : World) : Ext w w.drew := (Below.refl _ _).drew
theorem Ext.cell {w w' : World} (h : Ext w w') (b o : Nat) (hb : b < w.heap.size) : w'.cell? ⟨b, o, none⟩ = w.cell? ⟨b, o, none⟩ := Below.cell (p := ⟨b, o, none⟩) h hb
theorem Ext.frozen {w w' : World} (h : Ext w w') (b o : Nat) (hb : b < w.heap.size) : w'.frozen? ⟨b, o, none⟩ = w.frozen? ⟨b, o, none⟩ := Below.frozen (p := ⟨b, o, none⟩) h hb
theorem Ext.cells {w w' : World} (h : Ext w w') : ∀ b o, b < w.heap.size → w'.cell? ⟨b, o, none⟩ = w.cell? ⟨b, o, none⟩ := h.cell
theorem Ext.frozens {w w' : World} (h : Ext w w') : ∀ b o, b < w.heap.size → w'.frozen? ⟨b, o, none⟩ = w.frozen? ⟨b, o, none⟩ := h.frozen
theorem results_tmp4 {fn : Func} {t u v x : Tmp} (h : fn.results = #[.tmp t, .tmp u, .tmp v, .tmp x]) (tmps : Array Value) (P : Program) (w : World) :
    (results fn tmps).run P w = .ok (.tuple #[tmps.getD t undef, tmps.getD u undef, tmps.getD v undef, tmps.getD x undef]) w := by
  simp [results, h]
theorem i64_id (x : Int) (h : -9223372036854775808 ≤ x ∧ x ≤ 9223372036854775807) : IntKind.i64.wrap x = x := by
  simp only [IntKind.wrap, IntKind.bits, IntKind.signed]; simp; omega
theorem u64_id (x : Int) (h : 0 ≤ x ∧ x ≤ 18446744073709551615) : IntKind.u64.wrap x = x := by
  simp only [IntKind.wrap, IntKind.bits, IntKind.signed]; simp; omega
def nth : List Oper → Nat → Option Oper
  | [], _ => none
  | o :: _, 0 => some o
  | _ :: r, i + 1 => nth r i
theorem nth_get {l : List Oper} {i : Nat} {o : Oper} (h : nth l i = some o) : l.toArray[i]? = some o := by
  rw [List.getElem?_toArray]
  induction l generalizing i with
  | nil => simp [nth] at h
  | cons x r ih =>
    cases i with
    | zero => simpa [nth] using h
    | succ i => simpa [nth] using ih h
section
variable {P : Program} {l : List Oper} {Q : Exit → Act → World → Prop} {i : Nat} {o : Oper} {r : List (Nat × Bool)} {a : Act} {b w : World} {v : Value}
def wpExt (P : Program) (l : List Oper) (Q : Exit → Act → World → Prop) (r : List (Nat × Bool)) (b : World) (a : Act) (w : World) : Prop := wpOrd P l.toArray (Calm Q) r (Ext b) a w
theorem wp_region_ext {id : Nat} (ord : List (Nat × Bool)) (hm : P.follows .mixedOrders = true)
    (hB : (Region.noSelect l.toArray && ordB .any l.toArray ord (Array.replicate l.length false) && (ord.length == l.length)) = true)
    (h : wpExt P l Q ord w a w.drew) : (Code.region id l.toArray true).wp P Q a w := wp_region_ord ord (Ext w) hm hB (Ext.drew _) h
theorem ext_nil (h : Q .normal a w) : wpExt P l Q [] b a w := h
theorem ext_take (ho : nth l i = some o) (hw : Region.wanted o (yielded l.toArray a.tmps) = true) (h : ∀ w', Ext b w' → (execOp a.eval o).run P w' = .ok (.value v) w')
    (k : wpExt P l Q r b (a.put o.dst v) w) : wpExt P l Q ((i, true) :: r) b a w := ord_take (nth_get ho) hw h k
theorem ext_move {x : Operand} (ho : nth l i = some o) (hop : o.op = .move x) (hw : Region.wanted o (yielded l.toArray a.tmps) = true) (hv : evalL a x = some v)
    (k : wpExt P l Q r b (a.put o.dst v) w) : wpExt P l Q ((i, true) :: r) b a w := ord_take (nth_get ho) hw (fun w' _ => by unfold execOp; rw [hop, ← evalL_eq hv]; rfl) k
theorem ext_assign {x : Operand} (ho : nth l i = some o) (hop : o.op = .assign x) (hw : Region.wanted o (yielded l.toArray a.tmps) = true) (hv : evalL a x = some v)
    (k : wpExt P l Q r b (a.put o.dst v) w) : wpExt P l Q ((i, true) :: r) b a w := ord_take (nth_get ho) hw (fun w' _ => by unfold execOp; rw [hop, ← evalL_eq hv]; rfl) k
theorem ext_pick_t {c x y : Operand} (ho : nth l i = some o) (hop : o.op = .pick c x y) (hw : Region.wanted o (yielded l.toArray a.tmps) = true) (hc : evalL a c = some (.bool true)) (hv : evalL a x = some v)
    (k : wpExt P l Q r b (a.put o.dst v) w) : wpExt P l Q ((i, true) :: r) b a w := ord_take (nth_get ho) hw (fun w' _ => by unfold execOp; rw [hop, ← evalL_eq hv]; simp only [evalL_eq hc]; rfl) k
theorem ext_pick_f {c x y : Operand} (ho : nth l i = some o) (hop : o.op = .pick c x y) (hw : Region.wanted o (yielded l.toArray a.tmps) = true) (hc : evalL a c = some (.bool false)) (hv : evalL a y = some v)
    (k : wpExt P l Q r b (a.put o.dst v) w) : wpExt P l Q ((i, true) :: r) b a w := ord_take (nth_get ho) hw (fun w' _ => by unfold execOp; rw [hop, ← evalL_eq hv]; simp only [evalL_eq hc]; rfl) k
theorem ext_pass (ho : nth l i = some o) (hw : Region.wanted o (yielded l.toArray a.tmps) = false)
    (k : wpExt P l Q r b (a.put o.dst undef) w) : wpExt P l Q ((i, true) :: r) b a w := ord_pass (nth_get ho) hw k
theorem ext_do (ho : nth l i = some o) (hw : Region.wanted o (yielded l.toArray a.tmps) = true)
    (k : ∀ K : Act → World → Prop, (∀ a' w', Ext b w' → wpExt P l Q r w' a' w' → K a' w') → o.wp P a w K (Calm Q)) : wpExt P l Q ((i, false) :: r) b a w :=
  ord_do (nth_get ho) hw fun K hK => k K fun a' w' h1 h2 => hK (Ext w') a' w' (.inl fun _ hx => h1.trans hx) (Ext.refl _) h2
theorem ext_last (ho : nth l i = some o) (hw : Region.wanted o (yielded l.toArray a.tmps) = true) (hc : coversB .any l.toArray i = true)
    (k : ∀ K : Act → World → Prop, (∀ a' w', Q .normal a' w' → K a' w') → o.wp P a w K (Calm Q)) : wpExt P l Q [(i, false)] b a w :=
  ord_do (nth_get ho) hw fun K hK => k K fun a' w' h2 => hK (fun _ => True) a' w' (.inr hc) trivial h2
theorem ext_store (ho : nth l i = some o) (hw : Region.wanted o (yielded l.toArray a.tmps) = true) (hc : coversB .any l.toArray i = true)
    (k : ∀ K : Act → World → Prop, (∀ a' w', wpExt P l Q r w' a' w' → K a' w') → o.wp P a w K (Calm Q)) : wpExt P l Q ((i, false) :: r) b a w :=
  ord_do (nth_get ho) hw fun K hK => k K fun a' w' h2 => hK (Ext w') a' w' (.inr hc) (Ext.refl _) h2
end
section
variable {P : Program} {l : List Oper} {Q : Exit → Act → World → Prop} {i : Nat} {o : Oper} {r : List (Nat × Bool)} {a : Act} {w : World} {v : Value}
end
theorem below_cellsB {B : Nat} {w w' : World} (h : Below B w w') : ∀ b o, b < B → w'.cell? ⟨b, o, none⟩ = w.cell? ⟨b, o, none⟩ := fun b o hb => h.cell (p := ⟨b, o, none⟩) hb
section
variable {P : Program} {l : List Oper} {Q : Exit → Act → World → Prop} {i : Nat} {o : Oper} {r : List (Nat × Bool)} {B : Nat} {b : World} {a : Act} {w : World} {v : Value}
def wpBel (P : Program) (l : List Oper) (Q : Exit → Act → World → Prop) (r : List (Nat × Bool)) (B : Nat) (b : World) (a : Act) (w : World) : Prop := wpOrd P l.toArray (Calm Q) r (Below B b) a w
theorem wp_region_bel {id : Nat} (B : Nat) (b : World) (hb : Below B b w) (ord : List (Nat × Bool)) (hm : P.follows .mixedOrders = true)
    (hB : (Region.noSelect l.toArray && ordB .any l.toArray ord (Array.replicate l.length false) && (ord.length == l.length)) = true)
    (h : wpBel P l Q ord B b a w.drew) : (Code.region id l.toArray true).wp P Q a w := wp_region_ord ord (Below B b) hm hB hb.drew h
theorem bel_nil (h : Q .normal a w) : wpBel P l Q [] B b a w := h
theorem bel_take (ho : nth l i = some o) (hw : Region.wanted o (yielded l.toArray a.tmps) = true) (h : ∀ w', Below B b w' → (execOp a.eval o).run P w' = .ok (.value v) w')
    (k : wpBel P l Q r B b (a.put o.dst v) w) : wpBel P l Q ((i, true) :: r) B b a w := ord_take (nth_get ho) hw h k
theorem bel_move {x : Operand} (ho : nth l i = some o) (hop : o.op = .move x) (hw : Region.wanted o (yielded l.toArray a.tmps) = true) (hv : evalL a x = some v)
    (k : wpBel P l Q r B b (a.put o.dst v) w) : wpBel P l Q ((i, true) :: r) B b a w := ord_take (nth_get ho) hw (fun w' _ => by unfold execOp; rw [hop, ← evalL_eq hv]; rfl) k
theorem bel_pass (ho : nth l i = some o) (hw : Region.wanted o (yielded l.toArray a.tmps) = false)
    (k : wpBel P l Q r B b (a.put o.dst undef) w) : wpBel P l Q ((i, true) :: r) B b a w := ord_pass (nth_get ho) hw k
theorem bel_do (ho : nth l i = some o) (hw : Region.wanted o (yielded l.toArray a.tmps) = true)
    (k : ∀ K : Act → World → Prop, (∀ a' w', Below B b w' → wpBel P l Q r B b a' w' → K a' w') → o.wp P a w K (Calm Q)) : wpBel P l Q ((i, false) :: r) B b a w :=
  ord_do (nth_get ho) hw fun K hK => k K fun a' w' h1 h => hK (Below B b) a' w' (.inl fun _ h => h) h1 h
end
section
variable {P : Program} {l : List Oper} {Q : Exit → Act → World → Prop} {i : Nat} {o : Oper} {r : List (Nat × Bool)} {S : World → Prop} {a : Act} {w : World} {v : Value}
def wpFix (P : Program) (l : List Oper) (Q : Exit → Act → World → Prop) (r : List (Nat × Bool)) (S : World → Prop) (a : Act) (w : World) : Prop := wpOrd P l.toArray (Calm Q) r S a w
theorem wp_region_fix {id : Nat} (S : World → Prop) (ord : List (Nat × Bool)) (hm : P.follows .mixedOrders = true)
    (hB : (Region.noSelect l.toArray && ordB .any l.toArray ord (Array.replicate l.length false) && (ord.length == l.length)) = true)
    (hS : S w.drew) (h : wpFix P l Q ord S a w.drew) : (Code.region id l.toArray true).wp P Q a w := wp_region_ord ord S hm hB hS h
theorem fix_nil (h : Q .normal a w) : wpFix P l Q [] S a w := h
theorem fix_take (ho : nth l i = some o) (hw : Region.wanted o (yielded l.toArray a.tmps) = true) (h : ∀ w', S w' → (execOp a.eval o).run P w' = .ok (.value v) w')
    (k : wpFix P l Q r S (a.put o.dst v) w) : wpFix P l Q ((i, true) :: r) S a w := ord_take (nth_get ho) hw h k
theorem fix_move {x : Operand} (ho : nth l i = some o) (hop : o.op = .move x) (hw : Region.wanted o (yielded l.toArray a.tmps) = true) (hv : evalL a x = some v)
    (k : wpFix P l Q r S (a.put o.dst v) w) : wpFix P l Q ((i, true) :: r) S a w := ord_take (nth_get ho) hw (fun w' _ => by unfold execOp; rw [hop, ← evalL_eq hv]; rfl) k
theorem fix_pass (ho : nth l i = some o) (hw : Region.wanted o (yielded l.toArray a.tmps) = false)
    (k : wpFix P l Q r S (a.put o.dst undef) w) : wpFix P l Q ((i, true) :: r) S a w := ord_pass (nth_get ho) hw k
theorem fix_do (ho : nth l i = some o) (hw : Region.wanted o (yielded l.toArray a.tmps) = true)
    (k : ∀ K : Act → World → Prop, (∀ a' w', S w' → wpFix P l Q r S a' w' → K a' w') → o.wp P a w K (Calm Q)) : wpFix P l Q ((i, false) :: r) S a w :=
  ord_do (nth_get ho) hw fun K hK => k K fun a' w' h1 h => hK S a' w' (.inl fun _ h => h) h1 h
end
end Go.Proofs.YtjabgpejmnpamaaGreatDoor

namespace Go.Proofs.YtjabgpejmnpamaaGreatDoor
open Go.RowKit
theorem ret_bool {a b : Bool} (h : a = b) : Ending.returned (.bool a) = .returned (.bool b) := by rw [h]
theorem ret_iff {a b : Bool} (h : a = true ↔ b = true) : Ending.returned (.bool a) = .returned (.bool b) := by rw [Bool.eq_iff_iff.2 h]
theorem ret_int {k : IntKind} {a b : Int} (h : a = b) : Ending.returned (.int k a) = .returned (.int k b) := by rw [h]
def SliceAt {α : Type} (enc : α → Value) (w : World) (v : Value) (l : List α) : Prop :=
  ∃ ad cap, v = .slice ad l.length cap ∧ l.length ≤ cap ∧ (l = [] ∧ (ad = none → cap = 0) ∨ ∃ b off, ad = some ⟨b, off, none⟩ ∧ b < w.heap.size ∧ ∀ i (h : i < l.length), w.cell? ⟨b, off + i, none⟩ = some (enc l[i]))
theorem SliceAt.ext {α : Type} {enc : α → Value} {w w' : World} {v : Value} {l : List α} (h : SliceAt enc w v l) (e : Ext w w') : SliceAt enc w' v l := by
  obtain ⟨ad, cap, hv, hca, h⟩ := h
  refine ⟨ad, cap, hv, hca, h.imp id ?_⟩
  rintro ⟨b, off, ha, hb, hc⟩
  exact ⟨b, off, ha, Nat.lt_of_lt_of_le hb e.below.size, fun i hi => (e.cell b _ hb).trans (hc i hi)⟩
theorem SliceAt.take {α : Type} {enc : α → Value} {w : World} {ad : Option Addr} {m cap : Nat} {l : List α} (h : SliceAt enc w (.slice ad m cap) l) (n : Nat) (hn : n ≤ m) : SliceAt enc w (.slice ad n cap) (l.take n) := by
  obtain ⟨ad', cap', hv, hca, h⟩ := h
  cases hv
  have hl : (l.take n).length = n := by rw [List.length_take]; omega
  refine ⟨ad, cap, by rw [hl], by omega, ?_⟩
  rcases h with ⟨h1, h2⟩ | ⟨b, off, h1, h2, h3⟩
  · left; exact ⟨by rw [h1]; simp, h2⟩
  · right
    refine ⟨b, off, h1, h2, fun i hi => ?_⟩
    rw [hl] at hi
    rw [h3 i (by omega), List.getElem_take]
theorem SliceAt.nil {α : Type} {enc : α → Value} {w : World} : SliceAt enc w (.slice none 0 0) ([] : List α) := ⟨none, 0, rfl, Nat.le_refl _, .inl ⟨rfl, fun _ => rfl⟩⟩
theorem SliceAt.of_owns {α : Type} {enc : α → Value} {w : World} {v : Value} {l : List α} {base n : Nat} {e : TypeId}
    (h : w.ownsRow base e 1 v n (l.map enc)) : SliceAt enc w v l := by
  obtain ⟨hl, h⟩ := h
  have hn : n = l.length := by simpa using hl.symm
  subst hn
  rcases h with ⟨rfl, hz⟩ | ⟨g, cap, cur, rfl, hb, hh, hc, hm, hs, ht⟩
  · have : l = [] := List.eq_nil_of_length_eq_zero hz
    subst this; exact SliceAt.nil
  · refine ⟨_, cap, rfl, hc, .inr ⟨g, 0, rfl, ?_, fun i hi => ?_⟩⟩
    · exact (Array.getElem?_eq_some_iff.1 hh).1
    · have := World.ownsRow.cellAt (w := w) (base := base) (e := e) (size := 1) (g := g) (n := l.length) (cap := cap) (xs := l.map enc) ⟨by simp, .inr ⟨g, cap, cur, rfl, hb, hh, hc, hm, hs, ht⟩⟩ i (by omega)
      rw [Nat.zero_add, this]; simp [hi]
theorem add_plain (b off j : Nat) : (⟨b, off, none⟩ : Addr).add j = ⟨b, off + j, none⟩ := by
  by_cases h : j = 0
  · subst h; simp [Addr.add]
  · simp [Addr.add, h]
theorem wpList_append_slice {P : Program} {w : World} {α : Type} {enc : α → Value} (henc : ∀ x, (enc x).oneCell' = true) {ops : Array Oper} {rest : List Oper} {o : Oper} {a : Act} {Q : Exit → Act → World → Prop} (hgd : o.guard = none) (s x : Operand) (t : TypeId)
    (ho : o.op = .call { callee := .builtin .append, args := #[s, x], argTypes := #[t, t] })
    (base : Nat) (e : TypeId) (i : TypeInfo) (z : Value) (bytes : Nat) (ht : P.underlying t = some (.slice e)) (hi : P.info? e = some i) (hz : i.zero = some z)
    (hsize : i.size = 1) (hby : i.bytes = bytes) (hzs : z.cells.size = 1)
    (v : Value) (n : Nat) (xs : List Value) (hs : a.eval s = v) (hown : w.ownsRow base e 1 v n xs) (vx : Value) (l : List α) (hx : a.eval x = vx) (hsrc : SliceAt enc w vx l)
    (h63 : n + l.length ≤ maxLen) (hbytes : (n + l.length) * bytes ≤ 140737488355328) (hbase : base ≤ w.heap.size)
    (h : ∀ v' w', w'.ownsRow base e 1 v' (n + l.length) (xs ++ l.map enc) → w.grownBy w' v.ownBlock → wpList P ops Q rest (a.put o.dst v') w') : wpList P ops Q (o :: rest) a w := by
  obtain ⟨ad, cap, rfl, _, hsrc⟩ := hsrc
  cases ad with
  | none =>
    rcases hsrc with ⟨rfl, hc⟩ | ⟨b, off, hn, _⟩
    · rw [hc rfl] at hx
      refine wpList_append_own_none hgd s x t ho base e i 1 ht hi v n xs hs hown (by simpa using hx) ?_
      exact h v w (by simpa using hown) ⟨rfl, rfl, rfl, Nat.le_refl _, fun _ _ _ => rfl⟩
    · cases hn
  | some ad =>
    refine wpList_append_own w hgd s x t ho base e i z 1 bytes ht hi hz hsize hby hzs (by decide) v n xs hs hown ad l.length cap (l.map enc) hx (by simp) ?_ ?_ h63 hbytes hbase (fun v' w' h1 h2 _ => h v' w' h1 h2)
    · intro j u hj
      rcases hsrc with ⟨rfl, _⟩ | ⟨b, off, hb, _, hc⟩
      · simp at hj
      · cases hb
        have hjl : j < l.length := by
          rcases Nat.lt_or_ge j l.length with h' | h'
          · exact h'
          · rw [List.getElem?_eq_none (by simpa using h')] at hj; cases hj
        have : u = enc l[j] := by simpa [hjl] using hj.symm
        rw [this, add_plain]; exact hc j hjl
    · intro u hu
      obtain ⟨y, _, rfl⟩ := List.mem_map.1 hu
      exact henc y
theorem set_same {w : World} {b o : Nat} {u v : Value} (h : w.cell? ⟨b, o, none⟩ = some u) : (w.setCell ⟨b, o, none⟩ v).cell? ⟨b, o, none⟩ = some v := by
  apply World.cell?_setCell_same; exact h
theorem set_off {w : World} {b o o' : Nat} {v : Value} (h : o ≠ o') : (w.setCell ⟨b, o, none⟩ v).cell? ⟨b, o', none⟩ = w.cell? ⟨b, o', none⟩ := by
  apply World.cell?_setCell_other; intro e; cases e; exact h rfl
theorem set_block {w : World} {b b' o o' : Nat} {v : Value} (h : b ≠ b') : (w.setCell ⟨b, o, none⟩ v).cell? ⟨b', o', none⟩ = w.cell? ⟨b', o', none⟩ := by
  apply World.cell?_setCell_other; intro e; cases e; exact h rfl
abbrev encI (n : Int) : Value := .int .i64 n
end Go.Proofs.YtjabgpejmnpamaaGreatDoor

namespace Go.Proofs.YtjabgpejmnpamaaGreatDoor.Crc
abbrev R := BitVec 64
def poly : R := 0xc96c5795d7870f42#64
def step (x : R) : R := if x &&& 1#64 = 1#64 then (x >>> 1) ^^^ poly else x >>> 1
def stepN : Nat → R → R
  | 0, x => x
  | n + 1, x => stepN n (step x)
def reg (c : BitVec 8) : R := c.setWidth 64
def foldB : R → List (BitVec 8) → R
  | x, [] => x
  | x, c :: r => foldB (stepN 8 (x ^^^ reg c)) r
def update (s : R) (b : List (BitVec 8)) : R := ~~~ (foldB (~~~ s) b)
def sum (b : List (BitVec 8)) : R := update 0#64 b
theorem not_eq_xor (x : R) : ~~~ x = x ^^^ (~~~ 0#64) := by
  ext i hi
  rw [BitVec.getElem_xor, BitVec.getElem_not, BitVec.getElem_not]; simp
end Go.Proofs.YtjabgpejmnpamaaGreatDoor.Crc

namespace Go.Proofs.YtjabgpejmnpamaaGreatDoor
open Go.RowKit
def un (x : BitVec 64) : Int := (x.toNat : Int)
def ub (x : BitVec 8) : Int := (x.toNat : Int)
theorem un_bound (x : BitVec 64) : 0 ≤ un x ∧ un x ≤ 18446744073709551615 := by
  unfold un; have := x.isLt; omega
theorem ub_bound (x : BitVec 8) : 0 ≤ ub x ∧ ub x ≤ 255 := by
  unfold ub; have := x.isLt; omega
theorem un_inj {x y : BitVec 64} (h : un x = un y) : x = y := by
  unfold un at h; exact BitVec.eq_of_toNat_eq (by omega)
theorem ub_inj {x y : BitVec 8} (h : ub x = ub y) : x = y := by
  unfold ub at h; exact BitVec.eq_of_toNat_eq (by omega)
theorem un_ofInt (n : Int) (h : 0 ≤ n ∧ n ≤ 18446744073709551615) : un (BitVec.ofInt 64 n) = n := by
  unfold un; rw [BitVec.toNat_ofInt]; simp; omega
theorem ub_ofInt (n : Int) (h : 0 ≤ n ∧ n ≤ 255) : ub (BitVec.ofInt 8 n) = n := by
  unfold ub; rw [BitVec.toNat_ofInt]; simp; omega
theorem un_ex (n : Int) (h : 0 ≤ n ∧ n ≤ 18446744073709551615) : ∃ x, n = un x := ⟨_, (un_ofInt n h).symm⟩
theorem ofInt_un (x : BitVec 64) : BitVec.ofInt 64 (un x) = x := by unfold un; simp
theorem wrap_un (x : BitVec 64) : IntKind.u64.wrap (un x) = un x := by
  have := un_bound x
  simp only [IntKind.wrap, IntKind.bits, IntKind.signed]; simp; omega
theorem xor_un (x y : BitVec 64) : bits .xor .u64 (un x) (un y) = un (x ^^^ y) := by
  show IntKind.u64.wrap ((BitVec.ofInt 64 (un x) ^^^ BitVec.ofInt 64 (un y)).toNat : Int) = _
  rw [ofInt_un, ofInt_un]; exact wrap_un _
theorem and_un (x y : BitVec 64) : bits .and .u64 (un x) (un y) = un (x &&& y) := by
  show IntKind.u64.wrap ((BitVec.ofInt 64 (un x) &&& BitVec.ofInt 64 (un y)).toNat : Int) = _
  rw [ofInt_un, ofInt_un]; exact wrap_un _
theorem or_un (x y : BitVec 64) : bits .or .u64 (un x) (un y) = un (x ||| y) := by
  show IntKind.u64.wrap ((BitVec.ofInt 64 (un x) ||| BitVec.ofInt 64 (un y)).toNat : Int) = _
  rw [ofInt_un, ofInt_un]; exact wrap_un _
theorem not_un (x : BitVec 64) : bits .xor .u64 IntKind.u64.max (un x) = un (~~~x) := by
  have h : IntKind.u64.max = un (~~~0#64) := by decide
  rw [h, xor_un, BitVec.xor_comm, ← Crc.not_eq_xor]
theorem unsigned64 : IntKind.u64.signed = false := rfl
theorem unsigned8 : IntKind.u8.signed = false := rfl
theorem and_one_un (x : BitVec 64) : bits .and .u64 (un x) 1 = un (x &&& 1#64) := and_un x 1#64
theorem xor_poly_un (x : BitVec 64) : bits .xor .u64 (un x) 14514072000185962306 = un (x ^^^ Crc.poly) := by
  rw [← xor_un]; rfl
theorem shr_un (x : BitVec 64) (k : Nat) : un x / (2 : Int) ^ k = un (x >>> k) := by
  unfold un; rw [BitVec.toNat_ushiftRight, Nat.shiftRight_eq_div_pow]; simp
theorem half_un (x : BitVec 64) : un x / (2 : Int) = un (x >>> 1) := shr_un x 1
theorem eq_one_un (x : BitVec 64) : (un x == 1) = decide (x = 1#64) := by
  rw [Bool.eq_iff_iff]; simp only [beq_iff_eq, decide_eq_true_eq]
  exact ⟨fun h => un_inj h, fun h => by rw [h]; rfl⟩
theorem eq_un (x y : BitVec 64) : (un x == un y) = decide (x = y) := by
  rw [Bool.eq_iff_iff]; simp only [beq_iff_eq, decide_eq_true_eq]
  exact ⟨fun h => un_inj h, fun h => by rw [h]⟩
theorem reg_ub (c : BitVec 8) : un (Crc.reg c) = ub c := by
  unfold un ub Crc.reg; rw [BitVec.toNat_setWidth, Nat.mod_eq_of_lt (by have := c.isLt; omega)]
theorem ofInt_ub (x : BitVec 8) : BitVec.ofInt 64 (ub x) = x.setWidth 64 := by
  apply BitVec.eq_of_toNat_eq
  unfold ub
  have := x.isLt
  rw [BitVec.ofInt_natCast, BitVec.toNat_ofNat, BitVec.toNat_setWidth]
theorem wrap8_ub (x : BitVec 8) : IntKind.u8.wrap (ub x) = ub x := by
  have := ub_bound x
  simp only [IntKind.wrap, IntKind.bits, IntKind.signed]; simp; omega
theorem ofInt8_ub (x : BitVec 8) : BitVec.ofInt 8 (ub x) = x := by unfold ub; simp
theorem xor_ub (x y : BitVec 8) : bits .xor .u8 (ub x) (ub y) = ub (x ^^^ y) := by
  show IntKind.u8.wrap ((BitVec.ofInt 8 (ub x) ^^^ BitVec.ofInt 8 (ub y)).toNat : Int) = _
  rw [ofInt8_ub, ofInt8_ub]; exact wrap8_ub _
theorem wrap_ub (c : BitVec 8) : IntKind.u64.wrap (ub c) = un (Crc.reg c) := by rw [← reg_ub]; exact wrap_un _
abbrev encU (x : BitVec 64) : Value := .int .u64 (un x)
abbrev encB (c : BitVec 8) : Value := .int .u8 (ub c)
end Go.Proofs.YtjabgpejmnpamaaGreatDoor

namespace Go.Proofs.YtjabgpejmnpamaaGreatDoor
open Go.RowKit
def strB (l : List (BitVec 8)) : ByteArray := ⟨(l.map fun c => UInt8.ofBitVec c).toArray⟩
theorem strB_inj {a b : List (BitVec 8)} (h : strB a = strB b) : a = b := by
  have h1 : a.map (fun c => UInt8.ofBitVec c) = b.map fun c => UInt8.ofBitVec c := by
    have := congrArg (fun s : ByteArray => s.data.toList) h
    simpa [strB] using this
  exact List.map_inj_right (fun x y e => by simpa using e) |>.1 h1
theorem loop_data (s : ByteArray) (n i : Nat) (r : List UInt8) (hn : s.size - i = n) : ByteArray.toList.loop s i r = r.reverse ++ s.data.toList.drop i := by
  induction n generalizing i r with
  | zero =>
    rw [ByteArray.toList.loop, if_neg (by omega), List.drop_eq_nil_of_le (by simp; show s.size ≤ i; omega)]; simp
  | succ n ih =>
    rw [ByteArray.toList.loop, if_pos (by omega), ih _ _ (by omega)]
    have hi : i < s.data.toList.length := by simp; show i < s.size; omega
    rw [List.drop_eq_getElem_cons hi]
    have : s.get! i = s.data.toList[i] := by
      simp [ByteArray.get!]
      exact getElem!_pos s.data i (by simpa using hi)
    rw [this]; simp
theorem toList_data (s : ByteArray) : s.toList = s.data.toList := by
  unfold ByteArray.toList; rw [loop_data s _ 0 [] rfl]; simp
theorem eq_strB (a b : List (BitVec 8)) : ((strB a).toList == (strB b).toList) = decide (a = b) := by
  rw [Bool.eq_iff_iff]; simp only [beq_iff_eq, decide_eq_true_eq]
  refine ⟨fun h => strB_inj ?_, fun h => by rw [h]⟩
  rw [toList_data, toList_data] at h
  cases ha : strB a; cases hb : strB b
  rw [ha, hb] at h
  congr 1
  exact Array.toList_inj.1 h
theorem fold_push (ns : List Int) (s : ByteArray) : ns.foldl (fun r n => r.push (UInt8.ofNat n.toNat)) s = ⟨s.data ++ (ns.map fun n => UInt8.ofNat n.toNat).toArray⟩ := by
  induction ns generalizing s with
  | nil => simp
  | cons n ns ih => rw [List.foldl_cons, ih]; simp [ByteArray.push]
theorem run_str {P : Program} {t e st : TypeId} (ht : P.underlying t = some (.slice e)) (he : P.underlying e = some (.int .u8)) (hst : P.underlying st = some .string) (w : World) (v : Value) (l : List (BitVec 8)) (h : SliceAt encB w v l) :
    (convert t st v).run P w = .ok (.string (strB l)) w := by
  obtain ⟨ad, cap, rfl, _, h⟩ := h
  rw [run_convert_bytes_string w t st e ad l.length cap ht he hst]
  cases ad with
  | none =>
    rcases h with ⟨rfl, _⟩ | ⟨b, off, hn, _⟩
    · rfl
    · cases hn
  | some a =>
    have hl : (loadCells a l.length).run P w = .ok ((l.map ub).map (Value.int .u8)).toArray w := by
      have := run_loadCells_list (P := P) (w := w) a (l.map encB) (fun j u hj => ?_)
      · simpa [Function.comp_def, encB] using this
      · rcases h with ⟨rfl, _⟩ | ⟨b, off, hb, _, hc⟩
        · simp at hj
        · cases hb
          have hjl : j < l.length := by
            rcases Nat.lt_or_ge j l.length with h' | h'
            · exact h'
            · rw [List.getElem?_eq_none (by simpa using h')] at hj; cases hj
          have : u = encB l[j] := by simpa [hjl] using hj.symm
          rw [this, add_plain]; exact hc j hjl
    rw [run_bytesToString w a l.length cap (l.map ub) hl, fold_push]
    congr 2
    show (⟨#[] ++ _⟩ : ByteArray) = strB l
    unfold strB
    congr 1
    simp
    intro c _
    show UInt8.ofNat (ub c).toNat = _
    unfold ub
    simp
end Go.Proofs.YtjabgpejmnpamaaGreatDoor

namespace Go.Proofs.YtjabgpejmnpamaaGreatDoor
open Go.RowKit
theorem Ext.size {w w' : World} (h : Ext w w') : w.heap.size ≤ w'.heap.size := h.below.size
theorem Ext.setOwn {w w1 : World} {b o : Nat} {v : Value} (h : Ext w w1) (hb : w.heap.size ≤ b) : Ext w (w1.setCell ⟨b, o, none⟩ v) := Below.setCell h hb _
theorem below_of_ext {w w' : World} (h : Ext w w') : Below w.heap.size w w' := h
theorem cell_alloc_any (w : World) (cs : Array Value) (t : TypeId) (fr : Nat × Nat) (i : Nat) : (w.alloc (.cells cs t fr)).cell? ⟨w.heap.size, i, none⟩ = cs[i]? := by
  have h : (w.alloc (.cells cs t fr)).heap[w.heap.size]? = some (.cells cs t fr) := by
    show (w.heap.push (.cells cs t fr))[w.heap.size]? = _
    simp
  unfold World.cell?
  simp only [h, Option.isSome_none, Bool.false_eq_true, if_false]
theorem SliceAt.lit {α : Type} {enc : α → Value} (w : World) (l : List α) (t : TypeId) (fr : Nat × Nat) (cs : Array Value) (h : cs = (l.map enc).toArray) : SliceAt enc (w.alloc (.cells cs t fr)) (.slice (some ⟨w.heap.size, 0, none⟩) l.length l.length) l := by
  subst h
  refine ⟨_, l.length, rfl, Nat.le_refl _, .inr ⟨_, 0, rfl, by simp, fun i hi => ?_⟩⟩
  rw [Nat.zero_add, cell_alloc_any]
  simp [hi]
theorem wrap8_un (y : BitVec 64) : IntKind.u8.wrap (un y) = ub (y.setWidth 8) := by
  unfold un ub
  simp only [IntKind.wrap, IntKind.bits, IntKind.signed]
  simp [BitVec.toNat_setWidth]
theorem wrap8_nat (n : Nat) : IntKind.u8.wrap (n : Int) = ub (BitVec.ofNat 8 n) := by
  unfold ub
  simp only [IntKind.wrap, IntKind.bits, IntKind.signed]
  simp
theorem or_ub (x y : BitVec 8) : bits .or .u8 (ub x) (ub y) = ub (x ||| y) := by
  show IntKind.u8.wrap ((BitVec.ofInt 8 (ub x) ||| BitVec.ofInt 8 (ub y)).toNat : Int) = _
  rw [ofInt8_ub, ofInt8_ub]; exact wrap8_ub _
theorem or_high (x : BitVec 8) : bits .or .u8 (ub x) 128 = ub (x ||| 128#8) := or_ub x 128#8
def uv (n : Nat) : List (BitVec 8) := if n < 128 then [BitVec.ofNat 8 n] else (BitVec.ofNat 8 n ||| 128#8) :: uv (n / 128)
termination_by n
theorem uv_low {n : Nat} (h : n < 128) : uv n = [BitVec.ofNat 8 n] := by rw [uv, if_pos h]
theorem uv_high {n : Nat} (h : ¬ n < 128) : uv n = (BitVec.ofNat 8 n ||| 128#8) :: uv (n / 128) := by rw [uv, if_neg h]
theorem uv_length (k n : Nat) (hk : 1 ≤ k) (h : n < 128 ^ k) : 1 ≤ (uv n).length ∧ (uv n).length ≤ k := by
  induction k generalizing n with
  | zero => omega
  | succ k ih =>
    by_cases hn : n < 128
    · rw [uv_low hn]; simp
    · rw [uv_high hn, List.length_cons]
      have hk1 : 1 ≤ k := by
        rcases Nat.eq_zero_or_pos k with h0 | h0
        · subst h0; simp at h; omega
        · exact h0
      have := ih (n / 128) hk1 (by rw [Nat.pow_succ] at h; exact Nat.div_lt_of_lt_mul (by rw [Nat.mul_comm]; exact h))
      omega
theorem uv_len (n : Nat) (h : n < 18446744073709551616) : 1 ≤ (uv n).length ∧ (uv n).length ≤ 10 :=
  uv_length 10 n (by decide) (Nat.lt_of_lt_of_le h (by decide))
def zz (n : Int) : Nat := if 0 ≤ n then 2 * n.toNat else 2 * (-(n + 1)).toNat + 1
theorem zz_lt {n : Int} (h1 : -9223372036854775808 ≤ n) (h2 : n ≤ 9223372036854775807) : zz n < 18446744073709551616 := by
  unfold zz; split <;> omega
theorem wp_calm {P : Program} {o : Oper} {a : Act} {w : World} {K : Act → World → Prop} {Q Q' : Exit → Act → World → Prop} (hq : ∀ e a w, e ≠ .normal → Q e a w → Q' e a w)
    (hh : o.wp P a w K Q) : o.wp P a w K Q' := by
  unfold Oper.wp at *
  generalize (execOp a.eval o).run P w = r at *
  cases r with
  | ok n w' =>
    cases n <;> simp only [Oper.upon] at hh ⊢ <;>
      first
        | exact hh
        | exact Calls.mono hh (fun e w'' he => by
            cases e <;> first | exact he | exact hq _ _ _ (by simp) he | (obtain ⟨a1, w1, h1⟩ := he; exact ⟨a1, w1, hq _ _ _ (by simp) h1⟩))
        | exact Rows.mono hh (fun _ _ he => he)
  | halt x w' => cases x <;> simp only [Oper.upon] at hh ⊢ <;> first | exact hh | exact hq _ _ _ (by simp) hh
theorem wp_of_list {P : Program} {o : Oper} {a : Act} {w : World} {K : Act → World → Prop} {Q : Exit → Act → World → Prop} (hg : o.guard = none)
    (h : wpList P #[] (Calm (fun _ a w => K a w)) [o] a w) : o.wp P a w K (Calm Q) := by
  simp only [wpList, Region.wanted, hg, if_true] at h
  rcases h with h | ⟨_, a', w', h⟩
  · refine wp_calm (fun e a w hne h => ?_) h
    cases e <;> first | exact absurd rfl hne | exact h
  · exact h.elim
end Go.Proofs.YtjabgpejmnpamaaGreatDoor

namespace Go.Proofs.YtjabgpejmnpamaaGreatDoor
open Go.RowKit
attribute [local go_sem] wrap8_nat or_high
theorem infoB : (Tryz.prog.info? 5).map (fun i => (i.zero, i.size, i.bytes)) = some (some (.int .u8 0), 1, 1) := by kernel_rfl
abbrev OwnB (w : World) (base : Nat) (v : Value) (l : List (BitVec 8)) : Prop := w.ownsRow base 5 1 v l.length (l.map encB)
theorem OwnB.slice {w : World} {base : Nat} {v : Value} {l : List (BitVec 8)} (h : OwnB w base v l) : SliceAt encB w v l := SliceAt.of_owns h
theorem clone_any (v : Value) (l : List (BitVec 8)) (w : World) (hl : l.length ≤ 100000) (h : SliceAt encB w v l) :
    Calls Tryz.prog 122 #[v] w fun e w' => ∃ v', e = .returned v' ∧ OwnB w' w.heap.size v' l ∧ Below w.heap.size w w' := by
  obtain ⟨i0, hi, hz0, hz1, hz2⟩ := info_parts infoB
  have HA := Lib.hid h
  obtain ⟨ad, cap, rfl, hca, h⟩ := h
  cases ad with
  | none =>
    have hl0 : l = [] ∧ cap = 0 := by
      rcases h with ⟨h1, h2⟩ | ⟨_, _, h1, _⟩
      · exact ⟨h1, h2 rfl⟩
      · cases h1
    obtain ⟨rfl, rfl⟩ := hl0
    clear h
    go_enter Tryz.func122, Tryz.ntmps122
    have hq := fun (w : World) => Lib.run_eql_slice_nil (P := Tryz.prog) w 47 5 none 0 0 0 0 Tryz.underlying47
    go_wp2
    go_ret
    exact ⟨_, rfl, World.ownsRow_nil _ _ _ _, Below.refl _ _⟩
  | some ad =>
    clear h
    have hq := fun (w : World) => Lib.run_eql_slice_nil (P := Tryz.prog) w 47 5 (some ad) l.length cap 0 0 Tryz.underlying47
    go_enter Tryz.func122, Tryz.ntmps122
    go_wp2_with (at_builtin; refine wpList_append_slice (enc := encB) (fun _ => rfl) rfl (.tmp 5) (.tmp 6) 47 rfl w.heap.size 5 i0 (.int .u8 0) 1 Tryz.underlying47 hi hz0 hz1 hz2 rfl _ 0 [] rfl (World.ownsRow_lit w #[] 0 (Nat.le_refl _) (by decide) rfl) _ l rfl (HA.out.ext (Ext.alloc _ _)) (by unfold maxLen; omega) (by omega) (by simp) ?_; intro v1 w1 hown1 hgrow1; simp only [Nat.zero_add, List.nil_append] at hown1; have hx1 : Ext w w1 := ((Below.refl _ _).alloc (Nat.le_refl _) _).grown hgrow1 (by simp) (fun k hk => (by cases hk; exact Nat.le_refl _)))
    go_ret
    exact ⟨_, rfl, hown1, hx1⟩
set_option maxHeartbeats 400000 in
theorem appendUint_any (v : Value) (l : List (BitVec 8)) (n : Nat) (w : World) (hl : l.length ≤ 50000) (hn : n < 18446744073709551616) (h : SliceAt encB w v l) :
    Calls Tryz.prog 75 #[v, .int .u64 n] w fun e w' => ∃ v', e = .returned v' ∧ OwnB w' w.heap.size v' (l ++ uv n) ∧ Below w.heap.size w w' := by
  obtain ⟨i0, hi, hz0, hz1, hz2⟩ := info_parts infoB
  have HA := Lib.hid h
  have hlen := (uv_len n hn).2
  go_enter Tryz.func75, Tryz.ntmps75
  go_wp2_with (go_at_call 122; refine (clone_any _ l _ (by omega) HA.out).mono ?_; rintro e w1 ⟨v1, rfl, hown1, hb1⟩)
  have HO1 := Lib.hid hown1
  clear hown1
  go_loopw [5, 1] (fun vo i wr => ∃ (m : Nat) (pre : List (BitVec 8)), m ≤ n ∧ i = .int .u64 m ∧ uv n = pre ++ uv m ∧ OwnB wr w.heap.size vo (l ++ pre) ∧ Below w.heap.size w wr) (fun _ i _ => (intOf i).toNat)
  case atStart => exact ⟨n, [], Nat.le_refl _, rfl, rfl, by rw [List.append_nil]; exact HO1.out, hb1⟩
  case round =>
    obtain ⟨m, pre, hmn, rfl, huv, hown, hx⟩ := hrel
    have HO := Lib.hid hown
    have HU := Lib.hid huv
    have hpl : pre.length < 10 := by
      have := congrArg List.length huv
      rw [List.length_append] at this
      have := (uv_len m (by omega)).1
      omega
    have hll : (l ++ pre).length = l.length + pre.length := List.length_append
    have hm0 : (0 : Int) ≤ (m : Int) := by omega
    have hm1 : (m : Int) ≤ 18446744073709551615 := by omega
    clear hown huv
    by_cases hc : m < 128
    · have hc' : (decide ((128 : Int) ≤ (m : Int))) = false := by rw [decide_eq_false_iff_not]; omega
      have HC := Lib.hid hc
      clear hc
      go_wp2_with (at_builtin; refine wpList_append_slice (enc := encB) (fun _ => rfl) rfl (.tmp 18) (.tmp 21) 47 rfl w.heap.size 5 i0 (.int .u8 0) 1 Tryz.underlying47 hi hz0 hz1 hz2 rfl _ _ _ rfl (World.ownsRow.alloc HO.out _) _ [BitVec.ofNat 8 m] rfl (SliceAt.lit wr [BitVec.ofNat 8 m] _ _ _ rfl) (by unfold maxLen; simp only [List.length_singleton]; omega) (by simp only [List.length_singleton]; omega) (by have := hx.size; simp; omega) ?_; intro v2 w2 hown2 hgrow2; have hx2 : Below w.heap.size w w2 := (hx.alloc hx.size _).grown hgrow2 (by have := hx.size; simp; omega) (fun k hk => (World.ownsRow.lt HO.out k hk).1); have HO2 := Lib.hid hown2; clear hown2 hgrow2)
      go_ret
      refine ⟨_, rfl, ?_, hx2⟩
      have h2 := HO2.out
      rw [HU.out, uv_low HC.out, ← List.append_assoc]
      show World.ownsRow _ _ _ _ _ _ _
      rw [List.length_append, List.map_append]
      exact h2
    · have hc' : (128 : Int) ≤ (m : Int) := by omega
      go_wp2_with (at_builtin; refine wpList_append_slice (enc := encB) (fun _ => rfl) rfl (.tmp 12) (.tmp 16) 47 rfl w.heap.size 5 i0 (.int .u8 0) 1 Tryz.underlying47 hi hz0 hz1 hz2 rfl _ _ _ rfl (World.ownsRow.alloc HO.out _) _ [BitVec.ofNat 8 m ||| 128#8] rfl (SliceAt.lit wr [BitVec.ofNat 8 m ||| 128#8] _ _ _ rfl) (by unfold maxLen; simp only [List.length_singleton]; omega) (by simp only [List.length_singleton]; omega) (by have := hx.size; simp; omega) ?_; intro v2 w2 hown2 hgrow2; have hx2 : Below w.heap.size w w2 := (hx.alloc hx.size _).grown hgrow2 (by have := hx.size; simp; omega) (fun k hk => (World.ownsRow.lt HO.out k hk).1); have HO2 := Lib.hid hown2; clear hown2 hgrow2)
      go_roundw
      case rel =>
        refine ⟨m / 128, pre ++ [BitVec.ofNat 8 m ||| 128#8], by omega, by go_num, by rw [HU.out, uv_high hc]; simp, ?_, hx2⟩
        have h2 := HO2.out
        rw [← List.append_assoc]
        show World.ownsRow _ _ _ _ _ _ _
        rw [List.length_append, List.map_append]
        exact h2
      case measure => simp [intOf]; omega
end Go.Proofs.YtjabgpejmnpamaaGreatDoor

namespace Go.Proofs.YtjabgpejmnpamaaGreatDoor
open Go.RowKit
inductive OT where
  | done
  | take (i : Nat) (t : OT)
  | one (i : Nat) (t : OT)
  | two (i j : Nat) (t u : OT)
def OT.size : OT → Nat
  | .done => 0
  | .take _ t => t.size + 1
  | .one _ t => t.size + 1
  | .two _ _ t _ => t.size + 1
section
variable {P : Program} {ops : Array Oper} {Q : Exit → Act → World → Prop}
def ordT (md : Region.Mode) (ops : Array Oper) : OT → Array Bool → Bool
  | .done, listed => (Region.ready md ops listed).isEmpty
  | .take i t, listed => (ops[i]?).isSome && Region.free md ops listed i && (Region.ready md ops listed).contains i && ordT md ops t (listed.setIfInBounds i true)
  | .one i t, listed => (Region.ready md ops listed == [i]) && ordT md ops t (listed.setIfInBounds i true)
  | .two i j t u, listed => (Region.ready md ops listed == [i, j]) && ordT md ops t (listed.setIfInBounds i true) && ordT md ops u (listed.setIfInBounds j true) && (t.size == u.size)
def wpT (P : Program) (ops : Array Oper) (Q : Exit → Act → World → Prop) : OT → (World → Prop) → Act → World → Prop
  | .done, _, a, w => Q .normal a w
  | .take i t, S, a, w => ∃ v o, ops[i]? = some o ∧ YieldsIf P ops S o v a ∧ wpT P ops Q t S (a.put o.dst v) w
  | .one i t, S, a, w => wpOp P ops Q i (fun a' w' => ∃ S' : World → Prop, ((∀ x, S' x → S x) ∨ coversB .any ops i = true) ∧ S' w' ∧ wpT P ops Q t S' a' w') a w
  | .two i j t u, S, a, w => wpOp P ops Q i (fun a' w' => ∃ S' : World → Prop, (∀ x, S' x → S x) ∧ S' w' ∧ wpT P ops Q t S' a' w') a w ∧
      wpOp P ops Q j (fun a' w' => ∃ S' : World → Prop, (∀ x, S' x → S x) ∧ S' w' ∧ wpT P ops Q u S' a' w') a w
theorem wpAnyG_of_T (hs : Region.noSelect ops = true) (hQ : ∀ c a (d : Option Tmp) v w, Q (.panic c) (a.put d v) w → Q (.panic c) a w) : ∀ (t : OT) (S : World → Prop) (listed : Array Bool) (a : Act) (w : World),
    Closed .any ops listed → ordT .any ops t listed = true → S w → wpT P ops Q t S a w → wpAnyG P .any ops Q t.size S listed a w
  | .done, S, listed, a, w, _, hB, _, h => ⟨by simpa [ordT] using hB, h⟩
  | .take i r, S, listed, a, w, hcl, hB, hS, h => by
    simp only [ordT, Bool.and_eq_true] at hB
    obtain ⟨⟨⟨_, hf⟩, hr⟩, hB'⟩ := hB
    obtain ⟨v, o, ho, hy, hk⟩ := h
    exact wpAnyG_first ho (Region.noSelect_spec hs) (fun c a w => hQ c a _ v w) r.size S listed a w hcl (Region.free_spec ho hf) (by simpa using hr) hy hS (wpAnyG_of_T hs hQ r S _ _ _ (hcl.set (by simpa using hr)) hB' hS hk)
  | .one i r, S, listed, a, w, hcl, hB, hS, h => by
    simp only [ordT, Bool.and_eq_true, beq_iff_eq] at hB
    obtain ⟨hr, hB'⟩ := hB
    refine ⟨(fun h0 => absurd (hr.symm.trans h0) (by simp)), fun j hj => ?_⟩
    rw [hr] at hj
    obtain rfl : j = i := by simpa using hj
    exact wpOp_mono (fun a' w' ⟨S', hs', hS', hk⟩ => ⟨S', hs', hS', wpAnyG_of_T hs hQ r S' _ _ _ (hcl.set (by rw [hr]; simp)) hB' hS' hk⟩) h
  | .two i j t u, S, listed, a, w, hcl, hB, hS, h => by
    simp only [ordT, Bool.and_eq_true, beq_iff_eq] at hB
    obtain ⟨⟨⟨hr, hB1⟩, hB2⟩, hsz⟩ := hB
    refine ⟨(fun h0 => absurd (hr.symm.trans h0) (by simp)), fun k hk => ?_⟩
    rw [hr] at hk
    have hk : k = i ∨ k = j := by simpa using hk
    rcases hk with rfl | rfl
    · exact wpOp_mono (fun a' w' ⟨S', hs', hS', hk⟩ => ⟨S', .inl hs', hS', wpAnyG_of_T hs hQ t S' _ _ _ (hcl.set (by rw [hr]; simp)) hB1 hS' hk⟩) h.1
    · exact wpOp_mono (fun a' w' ⟨S', hs', hS', hk⟩ => ⟨S', .inl hs', hS', by
        show wpAnyG P .any ops Q t.size S' _ _ _
        rw [hsz]
        exact wpAnyG_of_T hs hQ u S' _ _ _ (hcl.set (by rw [hr]; simp)) hB2 hS' hk⟩) h.2
theorem wp_region_T {id : Nat} {a : Act} {w : World} {l : List Oper} (t : OT) (S : World → Prop) (hm : P.follows .mixedOrders = true)
    (hB : (Region.noSelect l.toArray && ordT .any l.toArray t (Array.replicate l.length false) && (t.size == l.length)) = true)
    (hS : S w.drew) (h : wpT P l.toArray (Calm Q) t S a w.drew) : (Code.region id l.toArray true).wp P Q a w := by
  simp only [Bool.and_eq_true, beq_iff_eq] at hB
  obtain ⟨⟨h1, h2⟩, h3⟩ := hB
  refine Code.wp_mono (Q := Calm Q) (fun e a w hq => ?_) (wp_region_any hm ?_)
  · cases e <;> first | exact hq | exact (hq : False).elim
  · have := wpAny_of_G _ _ _ _ _ (wpAnyG_of_T h1 (fun _ _ _ _ _ h => h) t S _ a _ Closed.none h2 hS h)
    rw [h3] at this
    simpa using this
end
section
variable {P : Program} {l : List Oper} {Q : Exit → Act → World → Prop} {i : Nat} {o : Oper} {r : OT} {a : Act} {b w : World} {v : Value}
def wpExtT (P : Program) (l : List Oper) (Q : Exit → Act → World → Prop) (t : OT) (b : World) (a : Act) (w : World) : Prop := wpT P l.toArray (Calm Q) t (Ext b) a w
theorem wp_region_extT {id : Nat} (t : OT) (hm : P.follows .mixedOrders = true)
    (hB : (Region.noSelect l.toArray && ordT .any l.toArray t (Array.replicate l.length false) && (t.size == l.length)) = true)
    (h : wpExtT P l Q t w a w.drew) : (Code.region id l.toArray true).wp P Q a w := wp_region_T t (Ext w) hm hB (Ext.drew _) h
theorem extT_nil (h : Q .normal a w) : wpExtT P l Q .done b a w := h
theorem extT_take (ho : nth l i = some o) (hw : Region.wanted o (yielded l.toArray a.tmps) = true) (h : ∀ w', Ext b w' → (execOp a.eval o).run P w' = .ok (.value v) w')
    (k : wpExtT P l Q r b (a.put o.dst v) w) : wpExtT P l Q (.take i r) b a w := ⟨v, o, nth_get ho, .inl ⟨hw, h⟩, k⟩
theorem extT_move {x : Operand} (ho : nth l i = some o) (hop : o.op = .move x) (hw : Region.wanted o (yielded l.toArray a.tmps) = true) (hv : evalL a x = some v)
    (k : wpExtT P l Q r b (a.put o.dst v) w) : wpExtT P l Q (.take i r) b a w := extT_take ho hw (fun w' _ => by unfold execOp; rw [hop, ← evalL_eq hv]; rfl) k
theorem extT_assign {x : Operand} (ho : nth l i = some o) (hop : o.op = .assign x) (hw : Region.wanted o (yielded l.toArray a.tmps) = true) (hv : evalL a x = some v)
    (k : wpExtT P l Q r b (a.put o.dst v) w) : wpExtT P l Q (.take i r) b a w := extT_take ho hw (fun w' _ => by unfold execOp; rw [hop, ← evalL_eq hv]; rfl) k
theorem extT_pick_t {c x y : Operand} (ho : nth l i = some o) (hop : o.op = .pick c x y) (hw : Region.wanted o (yielded l.toArray a.tmps) = true) (hc : evalL a c = some (.bool true)) (hv : evalL a x = some v)
    (k : wpExtT P l Q r b (a.put o.dst v) w) : wpExtT P l Q (.take i r) b a w := extT_take ho hw (fun w' _ => by unfold execOp; rw [hop, ← evalL_eq hv]; simp only [evalL_eq hc]; rfl) k
theorem extT_pick_f {c x y : Operand} (ho : nth l i = some o) (hop : o.op = .pick c x y) (hw : Region.wanted o (yielded l.toArray a.tmps) = true) (hc : evalL a c = some (.bool false)) (hv : evalL a y = some v)
    (k : wpExtT P l Q r b (a.put o.dst v) w) : wpExtT P l Q (.take i r) b a w := extT_take ho hw (fun w' _ => by unfold execOp; rw [hop, ← evalL_eq hv]; simp only [evalL_eq hc]; rfl) k
theorem extT_pass (ho : nth l i = some o) (hw : Region.wanted o (yielded l.toArray a.tmps) = false)
    (k : wpExtT P l Q r b (a.put o.dst undef) w) : wpExtT P l Q (.take i r) b a w := ⟨undef, o, nth_get ho, .inr ⟨hw, rfl⟩, k⟩
theorem opT_do (hw : Region.wanted o (yielded l.toArray a.tmps) = true) (ho : nth l i = some o) {K : Act → World → Prop} (k : o.wp P a w K (Calm Q)) : wpOp P l.toArray (Calm Q) i K a w := by
  unfold wpOp; rw [nth_get ho]; simp only [hw, if_true]
  exact .inl k
theorem extT_do (ho : nth l i = some o) (hw : Region.wanted o (yielded l.toArray a.tmps) = true)
    (k : ∀ K : Act → World → Prop, (∀ a' w', Ext b w' → wpExtT P l Q r w' a' w' → K a' w') → o.wp P a w K (Calm Q)) : wpExtT P l Q (.one i r) b a w := by
  unfold wpExtT wpT
  exact opT_do hw ho (k _ fun _ w' h1 h2 => ⟨Ext w', .inl fun _ hx => h1.trans hx, Ext.refl _, h2⟩)
theorem extT_two {j : Nat} {p : Oper} {t u : OT} (ho : nth l i = some o) (hp : nth l j = some p) (hw : Region.wanted o (yielded l.toArray a.tmps) = true) (hv : Region.wanted p (yielded l.toArray a.tmps) = true)
    (k : ∀ K : Act → World → Prop, (∀ a' w', Ext b w' → wpExtT P l Q t w' a' w' → K a' w') → o.wp P a w K (Calm Q))
    (m : ∀ K : Act → World → Prop, (∀ a' w', Ext b w' → wpExtT P l Q u w' a' w' → K a' w') → p.wp P a w K (Calm Q)) : wpExtT P l Q (.two i j t u) b a w :=
  ⟨opT_do hw ho (k _ fun _ w' h1 h2 => ⟨Ext w', fun _ hx => h1.trans hx, Ext.refl _, h2⟩), opT_do hv hp (m _ fun _ w' h1 h2 => ⟨Ext w', fun _ hx => h1.trans hx, Ext.refl _, h2⟩)⟩
end
end Go.Proofs.YtjabgpejmnpamaaGreatDoor

namespace Go.Proofs.YtjabgpejmnpamaaGreatDoor
open Go.RowKit
theorem put_put (a : Act) (d : Option Tmp) (x y : Value) : (a.put d x).put d y = a.put d y := by
  cases d <;> simp [Act.put]
theorem put_comm (a : Act) (d e : Option Tmp) (x y : Value) (h : d ≠ e ∨ d = none) : (a.put d x).put e y = (a.put e y).put d x := by
  cases d <;> cases e <;> simp [Act.put] <;> (apply Array.setIfInBounds_comm; simp_all)
def laidP (dst : Nat → Option Tmp) : List Nat → (Nat → Value) → Act → Act
  | [], _, a => a
  | i :: M, vals, a => laidP dst M vals (a.put (dst i) (vals i))
theorem laid_put (dst : Nat → Option Tmp) (i : Nat) (v : Value) : ∀ (M : List Nat) (vals : Nat → Value) (a : Act), (∀ j ∈ M, dst j ≠ dst i) → (laidP dst M vals a).put (dst i) v = laidP dst M vals (a.put (dst i) v)
  | [], _, _, _ => rfl
  | j :: M, vals, a, h => by
    show (laidP dst M vals _).put _ _ = laidP dst M vals _
    rw [laid_put dst i v M vals _ (fun k hk => h k (List.mem_cons_of_mem _ hk)), put_comm _ _ _ _ _ (.inl (h j (List.mem_cons_self ..)))]
def upd (vals : Nat → Value) (i : Nat) (v : Value) : Nat → Value := fun j => if j = i then v else vals j
theorem laid_other (dst : Nat → Option Tmp) (i : Nat) (v : Value) : ∀ (M : List Nat) (vals : Nat → Value) (a : Act), i ∉ M → laidP dst M (upd vals i v) a = laidP dst M vals a
  | [], _, _, _ => rfl
  | j :: M, vals, a, h => by
    have hj : j ≠ i := fun e => h (e ▸ List.mem_cons_self ..)
    simp only [laidP, upd, if_neg hj]
    exact laid_other dst i v M vals _ (fun hm => h (List.mem_cons_of_mem _ hm))
theorem laid_upd (dst : Nat → Option Tmp) (i : Nat) (v : Value) : ∀ (M : List Nat) (vals : Nat → Value) (a : Act), M.Nodup → (∀ j ∈ M, j ≠ i → dst j ≠ dst i) → i ∈ M → (laidP dst M vals a).put (dst i) v = laidP dst M (upd vals i v) a
  | [], _, _, _, _, h => by cases h
  | j :: M, vals, a, hn, hd, h => by
    obtain ⟨hjM, hn'⟩ := List.nodup_cons.1 hn
    by_cases e : j = i
    · subst e
      simp only [laidP]
      rw [laid_put dst j v M vals _ (fun k hk => hd k (List.mem_cons_of_mem _ hk) (fun e => hjM (e ▸ hk))), put_put, laid_other dst j v M vals _ hjM]
      simp [upd]
    · have hi : i ∈ M := by
        rcases List.mem_cons.1 h with h | h
        · exact absurd h.symm e
        · exact h
      simp only [laidP]
      rw [laid_upd dst i v M vals _ hn' (fun k hk => hd k (List.mem_cons_of_mem _ hk)) hi]
      simp [upd, e]
section
variable {P : Program} {ops : Array Oper} {Q : Exit → Act → World → Prop} {md : Region.Mode}
def open_ (M : List Nat) (listed : Array Bool) : List Nat := M.filter fun i => !listed.getD i true
theorem open_set {M : List Nat} {listed : Array Bool} {i : Nat} (hn : M.Nodup) (hi : i ∈ M) (h : listed.getD i true = false) : (open_ M (listed.setIfInBounds i true)).length + 1 = (open_ M listed).length := by
  induction M with
  | nil => cases hi
  | cons j M ih =>
    obtain ⟨hj, hn'⟩ := List.nodup_cons.1 hn
    by_cases e : j = i
    · subst e
      have h1 : (listed.setIfInBounds j true).getD j true = true := by
        rcases Nat.lt_or_ge j listed.size with hl | hl
        · simp [hl]
        · simp [Array.getElem?_eq_none hl] at h
      have h2 : open_ M (listed.setIfInBounds j true) = open_ M listed := by
        unfold open_
        refine List.filter_congr fun k hk => ?_
        rw [getD_set_ne true (show j ≠ k from fun e => hj (by rw [e]; exact hk))]
      have h3 : open_ (j :: M) (listed.setIfInBounds j true) = open_ M (listed.setIfInBounds j true) := by
        unfold open_; rw [List.filter_cons, h1]; rfl
      have h4 : open_ (j :: M) listed = j :: open_ M listed := by
        unfold open_; rw [List.filter_cons, h]; rfl
      rw [h3, h4, h2]; rfl
    · have hi' : i ∈ M := by
        rcases List.mem_cons.1 hi with h' | h'
        · exact absurd h'.symm e
        · exact h'
      have := ih hn' hi'
      unfold open_ at *
      rw [List.filter_cons, List.filter_cons, getD_set_ne true (Ne.symm e)]
      split
      · simp only [List.length_cons]; omega
      · exact this
theorem least {p : Nat → Prop} : ∀ n, p n → ∃ k, p k ∧ ∀ j, j < k → ¬ p j := by
  intro n
  induction n using Nat.strongRecOn with
  | _ n ih =>
    intro h
    by_cases hx : ∃ j, j < n ∧ p j
    · obtain ⟨j, hj, hp⟩ := hx
      exact ih j hj hp
    · exact ⟨n, h, fun j hj hp => hx ⟨j, hj, hp⟩⟩
theorem getD_tf {listed : Array Bool} {k : Nat} (h : listed.getD k false = true) : listed.getD k true = true := by
  rcases Nat.lt_or_ge k listed.size with hl | hl
  · simp [hl] at h ⊢; exact h
  · simp [Array.getElem?_eq_none hl] at h
theorem getD_ft {listed : Array Bool} {k : Nat} (hk : k < listed.size) (h : listed.getD k true = true) : listed.getD k false = true := by
  simp [hk] at h ⊢; exact h
def said (pd : Nat → List Nat) (p : Nat → List Value → Value → World → Prop) (vals : Nat → Value) (i : Nat) (w : World) : Prop := p i ((pd i).map vals) (vals i) w
def ownB : Value → Option Nat
  | .slice (some a) _ (_ + 1) => some a.block
  | .pointer (some a) => some a.block
  | _ => none
theorem wpAnyG_par (M fr : List Nat) (dst : Nat → Option Tmp) (pd : Nat → List Nat) (p : Nat → List Value → Value → World → Prop) (b : World) (a0 : Act) (listed0 listedE : Array Bool) (rest : Nat)
    (hsz : listed0.size = ops.size) (hlt : ∀ k o, ops[k]? = some o → ∀ e ∈ o.after, Region.binds md e = true → e.on < k)
    (hM : M.Nodup) (hd : ∀ i ∈ M, ∀ j ∈ M, j ≠ i → dst j ≠ dst i)
    (hfin : ∀ k, listed0.getD k true = false → k ∉ M → ∀ m ∈ M, bef md ops ops.size m k = true)
    (hpd : ∀ i ∈ M, ∀ j ∈ pd i, j ∈ M ∧ bef md ops ops.size j i = true)
    (hE : ∀ k, listedE.getD k true = (if k ∈ M then true else listed0.getD k true)) (hEs : listedE.size = listed0.size)
    (stay : ∀ i ∈ M, ∀ u v x y, Ext x y → p i u v x → p i u v y)
    (step : ∀ i ∈ M, ∀ vals w, Ext b w → (∀ j ∈ pd i, said pd p vals j w) →
      wpOp P ops Q i (fun a' w' => ∃ v, a' = (laidP dst M vals a0).put (dst i) v ∧ Ext w w' ∧ p i ((pd i).map vals) v w' ∧ (i ∈ fr → ∀ g, ownB v = some g → w.heap.size ≤ g ∧ g < w'.heap.size)) (laidP dst M vals a0) w)
    (last : ∀ vals w, Ext b w → (∀ i ∈ M, said pd p vals i w) → (∀ i ∈ fr, i ∈ M → ∀ g, ownB (vals i) = some g → b.heap.size ≤ g ∧ g < w.heap.size) →
      (∀ i ∈ fr, i ∈ M → ∀ j ∈ fr, j ∈ M → i ≠ j → ∀ g, ownB (vals i) = some g → ownB (vals j) ≠ some g) → wpAnyG P md ops Q rest (Ext b) listedE (laidP dst M vals a0) w) :
    ∀ (n : Nat) (listed : Array Bool) (vals : Nat → Value) (w : World), Closed md ops listed → (open_ M listed).length = n → listed.size = listed0.size → (∀ k, k ∉ M → listed.getD k true = listed0.getD k true) → Ext b w →
      (∀ j ∈ M, listed.getD j true = true → said pd p vals j w) →
      (∀ i ∈ fr, i ∈ M → listed.getD i true = true → ∀ g, ownB (vals i) = some g → b.heap.size ≤ g ∧ g < w.heap.size) →
      (∀ i ∈ fr, i ∈ M → ∀ j ∈ fr, j ∈ M → listed.getD i true = true → listed.getD j true = true → i ≠ j → ∀ g, ownB (vals i) = some g → ownB (vals j) ≠ some g) → wpAnyG P md ops Q (n + rest) (Ext b) listed (laidP dst M vals a0) w := by
  intro n
  induction n with
  | zero =>
    intro listed vals w _ hn hs hk hS hp hg1 hg2
    have hall : ∀ i ∈ M, listed.getD i true = true := fun i hi => by
      have := List.filter_eq_nil_iff.1 (List.length_eq_zero_iff.1 hn) i hi
      simpa using this
    have he : listed = listedE := by
      refine Array.ext (by omega) fun k h1 h2 => ?_
      have h3 := hE k
      by_cases hm : k ∈ M
      · have := hall k hm
        simp [hm, h1, h2] at h3 this
        rw [h3, this]
      · have := hk k hm
        rw [if_neg hm, ← this] at h3
        simp [h1, h2] at h3
        exact h3.symm
    rw [Nat.zero_add, he]
    exact last vals w hS (fun i hi => hp i hi (hall i hi)) (fun i hi hm => hg1 i hi hm (hall i hm)) (fun i hi hm j hj hmj => hg2 i hi hm j hj hmj (hall i hm) (hall j hmj))
  | succ n ih =>
    intro listed vals w hcl hn hs hk hS hp hg1 hg2
    rw [Nat.succ_add]
    obtain ⟨m0, hm0⟩ : ∃ m0, m0 ∈ open_ M listed := List.exists_mem_of_length_pos (by omega)
    have hm1 := List.mem_filter.1 hm0
    have hm2 : listed.getD m0 true = false := by simpa using hm1.2
    refine ⟨fun h0 => ?_, fun i hi => ?_⟩
    · obtain ⟨k, hk1, hk2⟩ := least (p := fun k => listed.getD k true = false) m0 hm2
      have hkl : k < ops.size := by
        rcases Nat.lt_or_ge k listed.size with h' | h'
        · omega
        · simp [Array.getElem?_eq_none h'] at hk1
      have : k ∈ Region.ready md ops listed := mem_ready.2 ⟨hk1, ops[k], by simp [hkl], fun e he hb => by
        have h1 := hlt k ops[k] (by simp [hkl]) e he hb
        have h2 := hk2 e.on h1
        exact getD_ft (by omega) (by simpa using h2)⟩
      rw [h0] at this
      cases this
    · obtain ⟨hi0, o, ho, _⟩ := mem_ready.1 hi
      by_cases him : i ∈ M
      · have hpre : ∀ j ∈ pd i, listed.getD j true = true := fun j hj => getD_tf (bef_listed hcl _ _ (ready_preds hi) (hpd i him j hj).2)
        refine wpOp_mono (fun a' w' h => ?_) (step i him vals w hS fun j hj => hp j (hpd i him j hj).1 (hpre j hj))
        obtain ⟨v, rfl, hS', hv, hfr⟩ := h
        have hupd : ∀ j, j ≠ i → upd vals i v j = vals j := fun j hj => by simp [upd, hj]
        have hmap : ∀ j ∈ M, (listed.getD j true = true ∨ j = i) → (pd j).map (upd vals i v) = (pd j).map vals := by
          intro j hj hl
          refine List.map_congr_left fun k hkd => hupd k ?_
          rintro rfl
          have hb := (hpd j hj k hkd).2
          rcases hl with hl | rfl
          · have hjo : j < ops.size := by
              rcases Nat.lt_or_ge j ops.size with h' | h'
              · exact h'
              · obtain ⟨f, hf⟩ : ∃ f, ops.size = f := ⟨_, rfl⟩
                rw [hf] at hb
                cases f with
                | zero => simp [bef] at hb
                | succ f => simp [bef, Array.getElem?_eq_none h'] at hb
            have := bef_listed hcl ops.size j (fun o ho e he hbe => hcl j o (getD_ft (by omega) hl) ho e he hbe) hb
            exact ready_not hi this
          · exact ready_not hi (bef_listed hcl _ _ (ready_preds hi) hb)
        have hset : ∀ j, j ≠ i → (listed.setIfInBounds i true).getD j true = listed.getD j true := fun j hj => getD_set_ne true (Ne.symm hj)
        rw [laid_upd dst i v M vals a0 hM (fun j hj hne => hd i him j hj hne) him]
        refine ⟨Ext b, .inl fun _ h => h, hS.trans hS', ih (listed.setIfInBounds i true) (upd vals i v) w' (hcl.set hi) ?_ (by simpa using hs) ?_ (hS.trans hS') ?_ ?_ ?_⟩
        · have := open_set hM him hi0
          omega
        · intro k hkm
          rw [hset k (fun e => hkm (by rw [e]; exact him))]
          exact hk k hkm
        · intro j hj hl
          unfold said
          by_cases e : j = i
          · subst e
            rw [hmap j hj (.inr rfl)]
            simpa [upd] using hv
          · rw [hset j e] at hl
            rw [hmap j hj (.inl hl), hupd j e]
            exact stay j hj _ _ _ _ hS' (hp j hj hl)
        · intro j hj hjm hl g hg
          by_cases e : j = i
          · subst e
            have hg' : ownB v = some g := by simpa [upd] using hg
            have h1 := hfr hj g hg'
            have h2 := hS.below.size
            exact ⟨by omega, h1.2⟩
          · rw [hset j e] at hl
            rw [hupd j e] at hg
            have h1 := hg1 j hj hjm hl g hg
            have h2 := hS'.below.size
            exact ⟨h1.1, by omega⟩
        · intro j hj hjm k hkf hkm hlj hlk hne g hgj hgk
          by_cases e : j = i
          · subst e
            have hg' : ownB v = some g := by simpa [upd] using hgj
            rw [hset k (Ne.symm hne)] at hlk
            rw [hupd k (Ne.symm hne)] at hgk
            have h1 := hfr hj g hg'
            have h2 := hg1 k hkf hkm hlk g hgk
            omega
          · by_cases e2 : k = i
            · subst e2
              have hg' : ownB v = some g := by simpa [upd] using hgk
              rw [hset j e] at hlj
              rw [hupd j e] at hgj
              have h1 := hfr hkf g hg'
              have h2 := hg1 j hj hjm hlj g hgj
              omega
            · rw [hset j e] at hlj
              rw [hset k e2] at hlk
              rw [hupd j e] at hgj
              rw [hupd k e2] at hgk
              exact hg2 j hj hjm k hkf hkm hlj hlk hne g hgj hgk
      · have h1 := hk i him
        rw [hi0] at h1
        have h2 := getD_tf (bef_listed hcl _ _ (ready_preds hi) (hfin i h1.symm him m0 hm1.1))
        rw [hm2] at h2
        cases h2
end
def ParAll : List Nat → (Nat → Prop) → Prop
  | [], _ => True
  | i :: r, f => f i ∧ ParAll r f
theorem ParAll.mem {f : Nat → Prop} : ∀ {M : List Nat}, ParAll M f → ∀ i ∈ M, f i
  | [], _, _, h => by cases h
  | j :: r, h, i, hi => by
    rcases List.mem_cons.1 hi with rfl | hi
    · exact h.1
    · exact ParAll.mem h.2 i hi
theorem ParAll.of {f : Nat → Prop} : ∀ {M : List Nat}, (∀ i ∈ M, f i) → ParAll M f
  | [], _ => trivial
  | j :: r, h => ⟨h j (List.mem_cons_self ..), ParAll.of fun i hi => h i (List.mem_cons_of_mem _ hi)⟩
def laidT : List (Nat × Nat) → (Nat → Value) → Act → Act
  | [], _, a => a
  | (i, t) :: M, vals, a => laidT M vals (a.put (some t) (vals i))
def slotOf : List (Nat × Nat) → Nat → Option Tmp
  | [], _ => none
  | (j, t) :: M, i => if i = j then some t else slotOf M i
def depsOf : List (Nat × List Nat) → Nat → List Nat
  | [], _ => []
  | (j, t) :: M, i => if i = j then t else depsOf M i
theorem laid_T (f : Nat → Option Tmp) : ∀ (M : List (Nat × Nat)) (vals : Nat → Value) (a : Act), (∀ x ∈ M, f x.1 = some x.2) → laidP f (M.map (·.1)) vals a = laidT M vals a
  | [], _, _, _ => rfl
  | (i, t) :: M, vals, a, h => by
    have h1 : f i = some t := h (i, t) (List.mem_cons_self ..)
    simp only [List.map_cons, laidP, laidT, h1]
    exact laid_T f M vals _ fun x hx => h x (List.mem_cons_of_mem _ hx)
def setAll : List Nat → Array Bool → Array Bool
  | [], l => l
  | i :: r, l => setAll r (l.setIfInBounds i true)
def dstIs (ops : Array Oper) (x : Nat × Nat) : Bool := match ops[x.1]? with
  | some o => (match o.dst with | some t => t == x.2 | none => false)
  | none => false
def nodupB : List Nat → Bool
  | [] => true
  | i :: r => !r.contains i && nodupB r
theorem nodupB_iff : ∀ {l : List Nat}, nodupB l = true → l.Nodup
  | [], _ => List.nodup_nil
  | i :: r, h => by
    simp only [nodupB, Bool.and_eq_true, Bool.not_eq_true'] at h
    refine List.nodup_cons.2 ⟨fun hm => ?_, nodupB_iff h.2⟩
    have := List.contains_iff_mem.2 hm
    rw [h.1] at this; cases this
theorem nodup_snd : ∀ {M : List (Nat × Nat)}, (M.map (·.2)).Nodup → ∀ {x y : Nat × Nat}, x ∈ M → y ∈ M → x.2 = y.2 → x = y
  | [], _, _, _, h, _, _ => by cases h
  | z :: r, hn, x, y, hx, hy, he => by
    rw [List.map_cons, List.nodup_cons] at hn
    rcases List.mem_cons.1 hx with rfl | hx' <;> rcases List.mem_cons.1 hy with rfl | hy'
    · rfl
    · exact absurd (List.mem_map.2 ⟨y, hy', he.symm⟩) hn.1
    · exact absurd (List.mem_map.2 ⟨x, hx', he⟩) hn.1
    · exact nodup_snd hn.2 hx' hy' he
def preB (md : Region.Mode) (ops : Array Oper) : List (Nat × Bool) → Array Bool → Bool
  | [], _ => true
  | (i, true) :: r, listed => (ops[i]?).isSome && Region.free md ops listed i && (Region.ready md ops listed).contains i && preB md ops r (listed.setIfInBounds i true)
  | (i, false) :: r, listed => (Region.ready md ops listed == [i]) && preB md ops r (listed.setIfInBounds i true)
def parB (ops : Array Oper) (pre : List (Nat × Bool)) (M : List (Nat × Nat)) (deps : List (Nat × List Nat)) (rest : List (Nat × Bool)) : Bool :=
  Region.noSelect ops && preB .any ops pre (Array.replicate ops.size false) &&
  ((List.range ops.size).all fun k => match ops[k]? with | some o => o.after.all (fun e => !Region.binds .any e || decide (e.on < k)) | none => true) &&
  nodupB (M.map (·.1)) && nodupB (M.map (·.2)) && M.all (dstIs ops) && M.all (fun x => slotOf M x.1 == some x.2) && M.all (fun x => !(setAll (pre.map (·.1)) (Array.replicate ops.size false)).getD x.1 true) &&
  ((List.range ops.size).all fun k => (setAll (pre.map (·.1)) (Array.replicate ops.size false)).getD k true || (M.map (·.1)).contains k || (M.map (·.1)).all fun m => bef .any ops ops.size m k) &&
  ((M.map (·.1)).all fun i => (depsOf deps i).all fun j => (M.map (·.1)).contains j && bef .any ops ops.size j i) &&
  ordB .any ops rest (setAll (M.map (·.1)) (setAll (pre.map (·.1)) (Array.replicate ops.size false))) && (pre.length + (M.length + rest.length) == ops.size)
theorem setAll_size : ∀ (l : List Nat) (x : Array Bool), (setAll l x).size = x.size
  | [], _ => rfl
  | i :: r, x => by rw [setAll, setAll_size r]; simp
theorem setAll_get : ∀ (l : List Nat) (x : Array Bool) (k : Nat), (setAll l x).getD k true = (if k ∈ l then true else x.getD k true)
  | [], x, k => by simp [setAll]
  | i :: r, x, k => by
    rw [setAll, setAll_get r]
    by_cases h : k ∈ r
    · simp [h]
    · by_cases e : i = k
      · subst e
        rcases Nat.lt_or_ge i x.size with h' | h'
        · simp [h']
        · simp
      · rw [if_neg h, getD_set_ne true e]
        simp [h, Ne.symm e]
theorem setAll_closed {md : Region.Mode} {ops : Array Oper} : ∀ (l : List (Nat × Bool)) (x : Array Bool), preB md ops l x = true → Closed md ops x → Closed md ops (setAll (l.map (·.1)) x)
  | [], _, _, h => h
  | (i, true) :: r, x, hB, h => by
    simp only [preB, Bool.and_eq_true] at hB
    exact setAll_closed r _ hB.2 (h.set (by simpa using hB.1.2))
  | (i, false) :: r, x, hB, h => by
    simp only [preB, Bool.and_eq_true, beq_iff_eq] at hB
    exact setAll_closed r _ hB.2 (h.set (by rw [hB.1]; simp))
section
variable {P : Program} {l : List Oper} {Q : Exit → Act → World → Prop}
def wpExtK (P : Program) (l : List Oper) (Q : Exit → Act → World → Prop) (K : World → Act → World → Prop) : List (Nat × Bool) → World → Act → World → Prop
  | [], b, a, w => K b a w
  | (i, true) :: r, b, a, w => ∃ v o, l.toArray[i]? = some o ∧ YieldsIf P l.toArray (Ext b) o v a ∧ wpExtK P l Q K r b (a.put o.dst v) w
  | (i, false) :: r, b, a, w => wpOp P l.toArray (Calm Q) i (fun a' w' => Ext b w' ∧ wpExtK P l Q K r w' a' w') a w
theorem wpAnyG_of_pre (hs : Region.noSelect l.toArray = true) (n : Nat) : ∀ (pre : List (Nat × Bool)) (b : World) (listed : Array Bool) (a : Act) (w : World),
    Closed .any l.toArray listed → preB .any l.toArray pre listed = true → Ext b w →
    wpExtK P l Q (fun b' a w => Ext b' w → wpAnyG P .any l.toArray (Calm Q) n (Ext b') (setAll (pre.map (·.1)) listed) a w) pre b a w → wpAnyG P .any l.toArray (Calm Q) (pre.length + n) (Ext b) listed a w
  | [], b, listed, a, w, _, _, hS, h => by rw [List.length_nil, Nat.zero_add]; exact h hS
  | (i, true) :: r, b, listed, a, w, hcl, hB, hS, h => by
    simp only [preB, Bool.and_eq_true] at hB
    obtain ⟨⟨⟨_, hf⟩, hr⟩, hB'⟩ := hB
    obtain ⟨v, o, ho, hy, hk⟩ := h
    have := wpAnyG_first (Q := Calm Q) ho (Region.noSelect_spec hs) (fun c a w h => h) (r.length + n) (Ext b) listed a w hcl (Region.free_spec ho hf) (by simpa using hr) hy hS (wpAnyG_of_pre hs n r b _ _ _ (hcl.set (by simpa using hr)) hB' hS hk)
    rw [List.length_cons, Nat.succ_add]
    exact this
  | (i, false) :: r, b, listed, a, w, hcl, hB, hS, h => by
    simp only [preB, Bool.and_eq_true, beq_iff_eq] at hB
    obtain ⟨hr, hB'⟩ := hB
    rw [List.length_cons, Nat.succ_add]
    refine ⟨(fun h0 => absurd (hr.symm.trans h0) (by simp)), fun j hj => ?_⟩
    rw [hr] at hj
    obtain rfl : j = i := by simpa using hj
    exact wpOp_mono (fun a' w' ⟨hx, hk⟩ => ⟨Ext w', .inl fun _ hy => hx.trans hy, Ext.refl _, wpAnyG_of_pre hs n r w' _ _ _ (hcl.set (by rw [hr]; simp)) hB' (Ext.refl _) hk⟩) h
section
variable {K : World → Act → World → Prop} {i : Nat} {o : Oper} {r : List (Nat × Bool)} {a : Act} {b w : World} {v : Value}
theorem extK_nil (h : K b a w) : wpExtK P l Q K [] b a w := h
theorem extK_take (ho : nth l i = some o) (hw : Region.wanted o (yielded l.toArray a.tmps) = true) (h : ∀ w', Ext b w' → (execOp a.eval o).run P w' = .ok (.value v) w')
    (k : wpExtK P l Q K r b (a.put o.dst v) w) : wpExtK P l Q K ((i, true) :: r) b a w := ⟨v, o, nth_get ho, .inl ⟨hw, h⟩, k⟩
theorem extK_move {x : Operand} (ho : nth l i = some o) (hop : o.op = .move x) (hw : Region.wanted o (yielded l.toArray a.tmps) = true) (hv : evalL a x = some v)
    (k : wpExtK P l Q K r b (a.put o.dst v) w) : wpExtK P l Q K ((i, true) :: r) b a w := extK_take ho hw (fun w' _ => by unfold execOp; rw [hop, ← evalL_eq hv]; rfl) k
theorem extK_assign {x : Operand} (ho : nth l i = some o) (hop : o.op = .assign x) (hw : Region.wanted o (yielded l.toArray a.tmps) = true) (hv : evalL a x = some v)
    (k : wpExtK P l Q K r b (a.put o.dst v) w) : wpExtK P l Q K ((i, true) :: r) b a w := extK_take ho hw (fun w' _ => by unfold execOp; rw [hop, ← evalL_eq hv]; rfl) k
theorem extK_pick_t {c x y : Operand} (ho : nth l i = some o) (hop : o.op = .pick c x y) (hw : Region.wanted o (yielded l.toArray a.tmps) = true) (hc : evalL a c = some (.bool true)) (hv : evalL a x = some v)
    (k : wpExtK P l Q K r b (a.put o.dst v) w) : wpExtK P l Q K ((i, true) :: r) b a w := extK_take ho hw (fun w' _ => by unfold execOp; rw [hop, ← evalL_eq hv]; simp only [evalL_eq hc]; rfl) k
theorem extK_pick_f {c x y : Operand} (ho : nth l i = some o) (hop : o.op = .pick c x y) (hw : Region.wanted o (yielded l.toArray a.tmps) = true) (hc : evalL a c = some (.bool false)) (hv : evalL a y = some v)
    (k : wpExtK P l Q K r b (a.put o.dst v) w) : wpExtK P l Q K ((i, true) :: r) b a w := extK_take ho hw (fun w' _ => by unfold execOp; rw [hop, ← evalL_eq hv]; simp only [evalL_eq hc]; rfl) k
theorem extK_pass (ho : nth l i = some o) (hw : Region.wanted o (yielded l.toArray a.tmps) = false)
    (k : wpExtK P l Q K r b (a.put o.dst undef) w) : wpExtK P l Q K ((i, true) :: r) b a w := ⟨undef, o, nth_get ho, .inr ⟨hw, rfl⟩, k⟩
end
theorem G_strong {ops : Array Oper} {Q : Exit → Act → World → Prop} {md : Region.Mode} {S S' : World → Prop} (h : ∀ x, S' x → S x) : ∀ (fuel : Nat) (listed : Array Bool) (a : Act) (w : World), wpAnyG P md ops Q fuel S' listed a w → wpAnyG P md ops Q fuel S listed a w
  | 0, _, _, _, k => k
  | fuel + 1, _, _, _, k => ⟨k.1, fun i hi => wpOp_mono (fun _ _ ⟨S2, hs, h1, h2⟩ => ⟨S2, hs.imp (fun hs x hx => h x (hs x hx)) id, h1, h2⟩) (k.2 i hi)⟩
structure Par (P : Program) (l : List Oper) (Q : Exit → Act → World → Prop) (M : List (Nat × Nat)) (deps : List (Nat × List Nat)) (fr : List Nat) (rest : List (Nat × Bool)) (p : Nat → List Value → Value → World → Prop) (b : World) (a : Act) : Prop where
  stay : ParAll (M.map (·.1)) fun i => ∀ u v x y, Ext x y → p i u v x → p i u v y
  step : ParAll (M.map (·.1)) fun i => ∀ vals w, Ext b w → ParAll (depsOf deps i) (fun j => said (depsOf deps) p vals j w) →
    ∃ o, nth l i = some o ∧ Region.wanted o (yielded l.toArray (laidT M vals a).tmps) = true ∧
      ∀ K : Act → World → Prop, (∀ v w', Ext w w' → p i ((depsOf deps i).map vals) v w' → (fr.contains i = true → ∀ g, ownB v = some g → w.heap.size ≤ g ∧ g < w'.heap.size) → K ((laidT M vals a).put o.dst v) w') → o.wp P (laidT M vals a) w K (Calm Q)
  last : ∀ vals w, Ext b w → ParAll (M.map (·.1)) (fun i => said (depsOf deps) p vals i w) →
    (∀ i ∈ fr, i ∈ M.map (·.1) → ∀ g, ownB (vals i) = some g → b.heap.size ≤ g ∧ g < w.heap.size) →
    (∀ i ∈ fr, i ∈ M.map (·.1) → ∀ j ∈ fr, j ∈ M.map (·.1) → i ≠ j → ∀ g, ownB (vals i) = some g → ownB (vals j) ≠ some g) → wpExt P l Q rest w (laidT M vals a) w
theorem wpExtK_mono {K K' : World → Act → World → Prop} (h : ∀ b a w, K b a w → K' b a w) : ∀ (r : List (Nat × Bool)) (b : World) (a : Act) (w : World), wpExtK P l Q K r b a w → wpExtK P l Q K' r b a w
  | [], _, _, _, k => h _ _ _ k
  | (_, true) :: r, _, _, _, ⟨v, o, ho, hy, k⟩ => ⟨v, o, ho, hy, wpExtK_mono h r _ _ _ k⟩
  | (_, false) :: r, _, _, _, k => wpOp_mono (fun _ _ ⟨hx, k⟩ => ⟨hx, wpExtK_mono h r _ _ _ k⟩) k
theorem wp_region_par {id : Nat} {a : Act} {w : World} (pre : List (Nat × Bool)) (M : List (Nat × Nat)) (deps : List (Nat × List Nat)) (fr : List Nat) (rest : List (Nat × Bool)) (hm : P.follows .mixedOrders = true)
    (hB : parB l.toArray pre M deps rest = true)
    (h : wpExtK P l Q (fun _ a1 w1 => ∃ p, Par P l Q M deps fr rest p w1 a1) pre w a w.drew) : (Code.region id l.toArray true).wp P Q a w := by
  unfold parB at hB
  simp only [Bool.and_eq_true, beq_iff_eq] at hB
  obtain ⟨⟨⟨⟨⟨⟨⟨⟨⟨⟨⟨hsel, hpre⟩, hlt⟩, hn1⟩, hn2⟩, hdst⟩, hslot⟩, hun⟩, hfin⟩, hdep⟩, hord⟩, hlen⟩ := hB
  have hdst' : ∀ x ∈ M, ∃ o, l.toArray[x.1]? = some o ∧ o.dst = some x.2 := fun x hx => by
    have := List.all_eq_true.1 hdst x hx
    unfold dstIs at this
    cases ho : l.toArray[x.1]? with
    | none => rw [ho] at this; cases this
    | some o =>
      rw [ho] at this
      refine ⟨o, rfl, ?_⟩
      cases hd : o.dst with
      | none => simp [hd] at this
      | some t => simp [hd] at this; rw [this]
  have hsl : ∀ x ∈ M, slotOf M x.1 = some x.2 := fun x hx => by simpa using List.all_eq_true.1 hslot x hx
  have hND := nodupB_iff hn1
  have hlaid := fun vals a => laid_T (slotOf M) M vals a hsl
  have hfin' : ∀ k, (setAll (pre.map (·.1)) (Array.replicate l.toArray.size false)).getD k true = false → k ∉ M.map (·.1) → ∀ m ∈ M.map (·.1), bef .any l.toArray l.toArray.size m k = true := by
    intro k h0 hk m hm
    have hks : k < l.toArray.size := by
      rcases Nat.lt_or_ge k l.toArray.size with h' | h'
      · exact h'
      · have hsz := setAll_size (pre.map (·.1)) (Array.replicate l.toArray.size false)
        simp only [Array.size_replicate] at hsz
        rw [Array.getD_eq_getD_getElem?, Array.getElem?_eq_none (by omega)] at h0
        cases h0
    have := List.all_eq_true.1 hfin k (List.mem_range.2 hks)
    simp only [Bool.or_eq_true, h0, List.contains_iff_mem] at this
    rcases this with (h1 | h1) | h1
    · cases h1
    · exact absurd h1 hk
    · exact List.all_eq_true.1 h1 m hm
  have hlt' : ∀ k o, l.toArray[k]? = some o → ∀ e ∈ o.after, Region.binds .any e = true → e.on < k := by
    intro k o ho e he hb
    have hks : k < l.toArray.size := (Array.getElem?_eq_some_iff.1 ho).1
    have := List.all_eq_true.1 hlt k (List.mem_range.2 hks)
    simp only [ho, Array.all_eq_true'] at this
    have := this e he
    simpa [hb] using this
  have hpd' : ∀ i ∈ M.map (·.1), ∀ j ∈ depsOf deps i, j ∈ M.map (·.1) ∧ bef .any l.toArray l.toArray.size j i = true := fun i hi j hj => by
    have := List.all_eq_true.1 (List.all_eq_true.1 hdep i hi) j hj
    simpa [Bool.and_eq_true] using this
  have hd' : ∀ i ∈ M.map (·.1), ∀ j ∈ M.map (·.1), j ≠ i → slotOf M j ≠ slotOf M i := by
    intro i hi j hj hne he
    obtain ⟨x, hx, rfl⟩ := List.mem_map.1 hi
    obtain ⟨y, hy, rfl⟩ := List.mem_map.1 hj
    rw [hsl x hx, hsl y hy] at he
    have ht : y.2 = x.2 := Option.some.inj he
    have hN2 := nodupB_iff hn2
    exact hne (by rw [nodup_snd hN2 hy hx ht])
  have hcl0 : Closed .any l.toArray (setAll (pre.map (·.1)) (Array.replicate l.toArray.size false)) := setAll_closed pre _ hpre Closed.none
  have hopen : (open_ (M.map (·.1)) (setAll (pre.map (·.1)) (Array.replicate l.toArray.size false))).length = M.length := by
    have : open_ (M.map (·.1)) (setAll (pre.map (·.1)) (Array.replicate l.toArray.size false)) = M.map (·.1) := by
      unfold open_
      rw [List.filter_eq_self]
      intro i hi
      obtain ⟨x, hx, rfl⟩ := List.mem_map.1 hi
      exact List.all_eq_true.1 hun x hx
    rw [this, List.length_map]
  refine Code.wp_mono (Q := Calm Q) (fun e a w hq => ?_) (wp_region_any hm ?_)
  · cases e <;> first | exact hq | exact (hq : False).elim
  · have key := wpAny_of_G _ _ _ _ _ (wpAnyG_of_pre (P := P) (Q := Q) hsel (M.length + rest.length) pre w (Array.replicate l.toArray.size false) a w.drew Closed.none hpre (Ext.drew _) ?_)
    · rw [hlen] at key
      simpa using key
    · refine wpExtK_mono (fun b a1 w1 hP hx => ?_) pre w a w.drew h
      obtain ⟨p, hP⟩ := hP
      have := wpAnyG_par (P := P) (Q := Calm Q) (md := .any) (ops := l.toArray) (M.map (·.1)) fr (slotOf M) (depsOf deps) p w1 a1 (setAll (pre.map (·.1)) (Array.replicate l.toArray.size false)) (setAll (M.map (·.1)) (setAll (pre.map (·.1)) (Array.replicate l.toArray.size false))) rest.length
        (by rw [setAll_size]; simp) hlt' hND hd' hfin' hpd' (fun k => setAll_get _ _ _) (setAll_size _ _) (fun i hi => hP.stay.mem i hi) ?_ ?_ M.length (setAll (pre.map (·.1)) (Array.replicate l.toArray.size false)) (fun i => match slotOf M i with | some t => a1.tmps.getD t undef | none => undef) w1 hcl0 hopen rfl (fun _ _ => rfl) (Ext.refl _) ?_ ?_ ?_
      · rw [hlaid] at this
        have hself : ∀ (M' : List (Nat × Nat)) (a' : Act), (∀ x ∈ M', slotOf M x.1 = some x.2) → a'.tmps = a1.tmps → laidT M' (fun i => match slotOf M i with | some t => a1.tmps.getD t undef | none => undef) a' = a' := by
          intro M'
          induction M' with
          | nil => intro _ _ _; rfl
          | cons x r ih =>
            intro a' hx ht
            obtain ⟨i, t⟩ := x
            have h1 : slotOf M i = some t := hx (i, t) (List.mem_cons_self ..)
            have h2 : a'.put (some t) (a1.tmps.getD t undef) = a' := by
              obtain ⟨⟩ := a'
              simp only [Act.put] at *
              subst ht
              congr 1
              refine Array.ext (by simp) fun k hk1 hk2 => ?_
              by_cases e : t = k
              · subst e; simp [hk2]
              · rw [Array.getElem_setIfInBounds_ne hk2 e]
            simp only [laidT, h1, h2]
            exact ih a' (fun y hy => hx y (List.mem_cons_of_mem _ hy)) ht
        rw [hself M a1 hsl rfl] at this
        exact G_strong (fun x hx' => hx.trans hx') _ _ _ _ this
      · intro i hi vals w' hx hps
        obtain ⟨o, ho, hw, hk⟩ := hP.step.mem i hi vals w' hx (ParAll.of hps)
        have hod : o.dst = slotOf M i := by
          obtain ⟨x, hx, rfl⟩ := List.mem_map.1 hi
          obtain ⟨o', ho', hd⟩ := hdst' x hx
          rw [nth_get ho] at ho'
          cases ho'
          rw [hd, hsl x hx]
        rw [hlaid]
        refine opT_do hw ho (hk _ fun v w'' h1 h2 h3 => ⟨v, by rw [hod], h1, h2, fun hf => h3 (List.contains_iff_mem.2 hf)⟩)
      · intro vals w' hx hps hg1 hg2
        rw [hlaid]
        have h1 := hP.last vals w' hx (ParAll.of hps) hg1 hg2
        have hclE : Closed .any l.toArray (setAll (M.map (·.1)) (setAll (pre.map (·.1)) (Array.replicate l.toArray.size false))) := by
          intro m o hm ho e he hb
          have hsz : (setAll (M.map (·.1)) (setAll (pre.map (·.1)) (Array.replicate l.toArray.size false))).size = l.toArray.size := by rw [setAll_size, setAll_size]; simp
          have h2 := getD_tf hm
          have hms : m < l.toArray.size := (Array.getElem?_eq_some_iff.1 ho).1
          have hes : e.on < l.toArray.size := Nat.lt_trans (hlt' m o ho e he hb) hms
          refine getD_ft (by rw [hsz]; exact hes) ?_
          rw [setAll_get]
          by_cases hem : e.on ∈ M.map (·.1)
          · rw [if_pos hem]
          · rw [if_neg hem]
            cases hg : (setAll (pre.map (·.1)) (Array.replicate l.toArray.size false)).getD e.on true with
            | true => rfl
            | false =>
              exfalso
              have hall := hfin' e.on hg hem
              rw [setAll_get] at h2
              by_cases hmm : m ∈ M.map (·.1)
              · have hbm := hall m hmm
                -- m before e.on, and e.on before m: against the numbers
                have hmono : ∀ (f i k : Nat), bef .any l.toArray f k i = true → k < i := by
                  intro f
                  induction f with
                  | zero => intro i k h; simp [bef] at h
                  | succ f ih =>
                    intro i k h
                    simp only [bef] at h
                    cases hoi : l.toArray[i]? with
                    | none => rw [hoi] at h; cases h
                    | some oi =>
                      rw [hoi] at h
                      simp only [Array.any_eq_true] at h
                      obtain ⟨n, hn, hb'⟩ := h
                      rw [Bool.and_eq_true, Bool.or_eq_true, beq_iff_eq] at hb'
                      have h3 := hlt' i oi hoi _ (Array.getElem_mem hn) hb'.1
                      rcases hb'.2 with h4 | h4
                      · omega
                      · have := ih _ _ h4; omega
                have := hmono _ _ _ hbm
                have := hlt' m o ho e he hb
                omega
              · rw [if_neg hmm] at h2
                have hsz0 : (setAll (pre.map (·.1)) (Array.replicate l.toArray.size false)).size = l.toArray.size := by rw [setAll_size]; simp
                have h3 := hcl0 m o (getD_ft (by rw [hsz0]; exact hms) h2) ho e he hb
                rw [getD_tf h3] at hg
                cases hg
        exact G_strong (S' := Ext w') (fun x hx' => hx.trans hx') _ _ _ _ (wpAnyG_of_ord hsel (fun _ _ _ _ _ h => h) rest (Ext w') _ _ _ hclE hord (Ext.refl _) h1)
      · intro j hj hl
        obtain ⟨x, hx, rfl⟩ := List.mem_map.1 hj
        have := List.all_eq_true.1 hun x hx
        rw [hl] at this; cases this
      · intro j _ hj hl
        obtain ⟨x, hx, rfl⟩ := List.mem_map.1 hj
        have := List.all_eq_true.1 hun x hx
        rw [hl] at this; cases this
      · intro j _ hj k _ _ hl
        obtain ⟨x, hx, rfl⟩ := List.mem_map.1 hj
        have := List.all_eq_true.1 hun x hx
        rw [hl] at this; cases this
end
end Go.Proofs.YtjabgpejmnpamaaGreatDoor

namespace Go.Proofs.YtjabgpejmnpamaaGreatDoor
open Go.ChangeShapes Go.WideShapes Go.ChangeAt Go.RowKit
theorem trodAll_below {H : Type} {enc : TypeId × Value → H} {P : Program} (hl : laidOutB P = true) {W W' : World} (hb : Below W.heap.size W W') :
    ∀ {ts : List TypeId} {vs : List Value} {ds : List (DataW H)} {ps : List MemPlace}, (∀ t ∈ ts, P.readableRec t = true ∧ t < P.types.size) →
      DataW.TrodAll enc P W 0 (fun _ => true) true ts vs ds ps → (∀ x ∈ ps, x.block < W.heap.size) →
      DataW.TrodAll enc P W' 0 (fun b => decide (b < W.heap.size)) true ts vs ds ps
  | [], [], [], _, _, h, _ => h
  | t :: ts, v :: vs, d :: ds, ps, hts, h, hlt => by
    obtain ⟨p, q, h1, h2, rfl⟩ := h
    exact ⟨p, q, Below.trod hl (hts t (by simp)).1 (hts t (by simp)).2 h1 hb (fun x hx => hlt x (by simp [hx])),
      trodAll_below hl hb (fun t' ht' => hts t' (by simp [ht'])) h2 (fun x hx => hlt x (by simp [hx])), rfl⟩
theorem trodAll_len {H : Type} {enc : TypeId × Value → H} {P : Program} {w : World} {base : Nat} {sp : Nat → Bool} {held : Bool} :
    ∀ {ts : List TypeId} {vs : List Value} {ds : List (DataW H)} {ps : List MemPlace}, DataW.TrodAll enc P w base sp held ts vs ds ps → ds.length = ts.length
  | [], [], [], _, _ => rfl
  | _ :: ts, _ :: vs, _ :: ds, _, h => by
    obtain ⟨_, _, _, h2, _⟩ := h
    simp [trodAll_len h2]
end Go.Proofs.YtjabgpejmnpamaaGreatDoor

namespace Go.Proofs.YtjabgpejmnpamaaGreatDoor
open Go.RowKit
def dbl (x : BitVec 8) : BitVec 8 := if x.msb then (x <<< 1) ^^^ 29#8 else x <<< 1
def mulN : Nat → BitVec 8 → BitVec 8 → BitVec 8 → BitVec 8
  | 0, _, o, _ => o
  | n + 1, x, o, b => if b = 0#8 then o else mulN n (dbl x) (if b &&& 1#8 = 1#8 then o ^^^ x else o) (b >>> 1)
def mulG (a b : BitVec 8) : BitVec 8 := mulN 8 a 0#8 b
def powN : Nat → BitVec 8 → BitVec 8 → Nat → BitVec 8
  | 0, o, _, _ => o
  | n + 1, o, a, e => if e = 0 then o else powN n (if e % 2 = 1 then mulG o a else o) (mulG a a) (e / 2)
def powG (a : BitVec 8) (e : Nat) : BitVec 8 := powN 8 1#8 a e
def invG (a : BitVec 8) : BitVec 8 := powG a 254
def expG (n : Nat) : BitVec 8 := powG 2#8 (n % 255)
def fusedG : List (BitVec 8) → List (BitVec 8) → BitVec 8 → List (BitVec 8)
  | x :: xs, y :: ys, c => (x ^^^ mulG c y) :: fusedG xs ys c
  | _, _, _ => []
theorem fusedG_length : ∀ (xs ys : List (BitVec 8)) (c : BitVec 8), xs.length = ys.length → (fusedG xs ys c).length = xs.length
  | [], [], _, _ => rfl
  | _ :: xs, _ :: ys, c, h => by simp only [fusedG, List.length_cons]; rw [fusedG_length xs ys c (by simpa using h)]
theorem fusedG_get : ∀ (xs ys : List (BitVec 8)) (c : BitVec 8) (k : Nat) (h1 : k < xs.length) (h2 : k < ys.length) (h3 : k < (fusedG xs ys c).length), (fusedG xs ys c)[k] = xs[k] ^^^ mulG c ys[k]
  | _ :: xs, _ :: ys, c, 0, _, _, _ => rfl
  | _ :: xs, _ :: ys, c, k + 1, h1, h2, h3 => by
    simp only [fusedG, List.getElem_cons_succ]
    exact fusedG_get xs ys c k (by simpa using h1) (by simpa using h2) _
theorem dbl_yes : ∀ x : BitVec 8, (x.toNat : Int) * 2 > 255 → bits .xor .i64 ((x.toNat : Int) * 2) 285 = ((dbl x).toNat : Int) := by decide +kernel
theorem dbl_no : ∀ x : BitVec 8, ¬ (x.toNat : Int) * 2 > 255 → (x.toNat : Int) * 2 = ((dbl x).toNat : Int) := by decide +kernel
theorem shr8 : ∀ x : BitVec 8, (x.toNat : Int) / 2 = ((x >>> 1).toNat : Int) := by decide +kernel
theorem and8 : ∀ x : BitVec 8, bits .and .u8 (x.toNat : Int) 1 = ((x &&& 1#8).toNat : Int) := by decide +kernel
theorem i64_form (n : Int) : IntKind.i64.wrap n = (n + 9223372036854775808) % 18446744073709551616 - 9223372036854775808 := by
  simp only [IntKind.wrap, IntKind.bits, IntKind.signed]; simp; omega
theorem bits8 (x y : BitVec 8) : bits .xor .i64 (ub x) (ub y) = ub (x ^^^ y) := by
  show IntKind.i64.wrap ((BitVec.ofInt 64 (ub x) ^^^ BitVec.ofInt 64 (ub y)).toNat : Int) = _
  rw [ofInt_ub, ofInt_ub]
  have e : (x.setWidth 64 ^^^ y.setWidth 64).toNat = (x ^^^ y).toNat := by
    rw [← BitVec.setWidth_xor, BitVec.toNat_setWidth, Nat.mod_eq_of_lt]; have := (x ^^^ y).isLt; omega
  rw [e, i64_form]
  have := (x ^^^ y).isLt
  unfold ub
  omega
theorem and8_ub (x : BitVec 8) : bits .and .u8 (ub x) 1 = ub (x &&& 1#8) := and8 x
theorem half8 (x : BitVec 8) : ub x / 2 = ub (x >>> 1) := shr8 x
theorem wrapI_ub (x : BitVec 8) : IntKind.i64.wrap (ub x) = ub x := by
  rw [i64_form]; have := ub_bound x; omega
theorem ub_pos {x : BitVec 8} (h : x ≠ 0#8) : 0 < ub x := by
  have := ub_bound x
  rcases Int.lt_or_eq_of_le this.1 with h0 | h0
  · exact h0
  · exact absurd (ub_inj (x := x) (y := 0#8) h0.symm) h
theorem half_lt (x : BitVec 8) (n : Nat) (h : x.toNat < 2 ^ (n + 1)) : (x >>> 1).toNat < 2 ^ n := by
  rw [BitVec.toNat_ushiftRight, Nat.shiftRight_eq_div_pow]
  rw [Nat.pow_succ] at h
  omega
theorem dblI_yes (x : BitVec 8) (h : ub x * 2 > 255) : bits .xor .i64 (ub x * 2) 285 = ub (dbl x) := dbl_yes x h
theorem dblI_no (x : BitVec 8) (h : ¬ ub x * 2 > 255) : ub x * 2 = ub (dbl x) := dbl_no x h
end Go.Proofs.YtjabgpejmnpamaaGreatDoor

namespace Go.Proofs.YtjabgpejmnpamaaGreatDoor
section
variable {P : Program} {md : Region.Mode} {ops : Array Oper} {Q : Exit → Act → World → Prop}
def pureW : Option Oper → Bool
  | none => true
  | some o => match o.op with
    | .extract .. | .move _ | .assign _ => true
    | _ => false
def coversQ (md : Region.Mode) (ops : Array Oper) (i : Nat) : Bool :=
  (List.range ops.size).all fun k => k == i || bef md ops ops.size k i || bef md ops ops.size i k || pureW ops[k]?
theorem extract_any {v u : Value} {ix : Nat} {w w' x : World} (h : (Instr.extract v ix).run P w = .ok u x) : x = w ∧ (Instr.extract v ix).run P w' = .ok u w' := by
  unfold Instr.extract at h ⊢
  split at h
  · rename_i vs
    cases hv : vs[ix]? with
    | none => rw [hv] at h; cases h
    | some y => rw [hv] at h; cases h; exact ⟨rfl, rfl⟩
  · cases h
theorem pure_any {o : Oper} {a : Act} {v : Value} {w : World} (hp : pureW (some o) = true) (h : (execOp a.eval o).run P w = .ok (.value v) w) (w' : World) : (execOp a.eval o).run P w' = .ok (.value v) w' := by
  unfold pureW at hp
  unfold execOp at h ⊢
  cases ho : o.op with
  | move x => rw [ho] at h; simp only at h ⊢; cases h; rfl
  | assign x => rw [ho] at h; simp only at h ⊢; cases h; rfl
  | extract x ix =>
    rw [ho] at h
    simp only [Sem.run_bind] at h ⊢
    cases hr : (Instr.extract (a.eval x) ix).run P w with
    | ok u y =>
      rw [hr] at h
      obtain ⟨_, h2⟩ := extract_any (w' := w') hr
      rw [h2]
      cases h
      rfl
    | _ => rw [hr] at h; cases h
  | _ => simp only [ho] at hp; cases hp
theorem coversQ_alone {i j : Nat} {listed : Array Bool} (hcl : Closed md ops listed) (h : coversQ md ops j = true) (hj : j ∈ Region.ready md ops listed) (hi : i ∈ Region.ready md ops listed) (hne : i ≠ j) : pureW ops[i]? = true := by
  obtain ⟨_, p, hp, _⟩ := mem_ready.1 hi
  have hil : i < ops.size := (Array.getElem?_eq_some_iff.1 hp).1
  unfold coversQ at h
  simp only [List.all_eq_true, List.mem_range, Bool.or_eq_true, beq_iff_eq] at h
  rcases h i hil with ((h | h) | h) | h
  · exact absurd h hne
  · exact (ready_not hi (bef_listed hcl _ _ (ready_preds hj) h)).elim
  · exact (ready_not hj (bef_listed hcl _ _ (ready_preds hi) h)).elim
  · exact h
def wpAnyQ (P : Program) (md : Region.Mode) (ops : Array Oper) (Q : Exit → Act → World → Prop) : Nat → (World → Prop) → Array Bool → Act → World → Prop
  | 0, _, listed, a, w => Region.ready md ops listed = [] ∧ Q .normal a w
  | fuel + 1, S, listed, a, w =>
    (Region.ready md ops listed = [] → Q .normal a w) ∧
    ∀ i ∈ Region.ready md ops listed, wpOp P ops Q i (fun a' w' => ∃ S' : World → Prop, ((∀ x, S' x → S x) ∨ coversQ md ops i = true) ∧ S' w' ∧ wpAnyQ P md ops Q fuel S' (listed.setIfInBounds i true) a' w') a w
theorem wpAny_of_Q : ∀ (fuel : Nat) (S : World → Prop) (listed : Array Bool) (a : Act) (w : World), wpAnyQ P md ops Q fuel S listed a w → wpAny P md ops Q fuel listed a w
  | 0, _, _, _, _, h => h
  | fuel + 1, _, _, _, _, h => ⟨h.1, fun i hi => wpOp_mono (fun a' w' ⟨S', _, _, h'⟩ => wpAny_of_Q fuel S' _ a' w' h') (h.2 i hi)⟩
theorem wpAnyQ_first {i : Nat} {oi : Oper} {v : Value} (hi : ops[i]? = some oi) (hsel : ∀ (j : Nat) (o : Oper) cs b, ops[j]? = some o → o.op ≠ .select cs b)
    (hQ : ∀ c a w, Q (.panic c) (a.put oi.dst v) w → Q (.panic c) a w) :
    ∀ (fuel : Nat) (S : World → Prop) (listed : Array Bool) (a : Act) (w : World), Closed md ops listed →
      (∀ j oj, ops[j]? = some oj → j ≠ i → listed.getD j true = false → (∀ e ∈ oj.after, Region.binds md e = true → e.on ≠ i) → oi.apart ops oj = true) →
      i ∈ Region.ready md ops listed → YieldsIf P ops S oi v a → S w →
      wpAnyQ P md ops Q fuel S (listed.setIfInBounds i true) (a.put oi.dst v) w → wpAnyQ P md ops Q (fuel + 1) S listed a w := by
  intro fuel
  induction fuel with
  | zero =>
    intro S listed a w _ _ hr hy hS H
    refine ⟨fun h => (by rw [h] at hr; cases hr), fun j hj => ?_⟩
    by_cases hji : j = i
    · subst hji; exact hy.wpOp hi hS ⟨S, .inl fun _ h => h, hS, H⟩
    · have := ready_mono hj hji
      rw [H.1] at this
      cases this
  | succ fuel ih =>
    intro S listed a w hcl hfree hr hy hS H
    refine ⟨fun h => (by rw [h] at hr; cases hr), fun j hj => ?_⟩
    by_cases hji : j = i
    · subst hji; exact hy.wpOp hi hS ⟨S, .inl fun _ h => h, hS, H⟩
    · have h1 := H.2 j (ready_mono hj hji)
      obtain ⟨hjun, oj, hoj, hall⟩ := mem_ready.1 hj
      have hnot : ∀ e ∈ oj.after, Region.binds md e = true → e.on ≠ i := fun e he hb heq => by
        have h1 := hall e he hb
        have h0 := (mem_ready.1 hr).1
        rw [heq] at h1
        rcases Nat.lt_or_ge i listed.size with h' | h'
        · simp [h'] at h0 h1; rw [h0] at h1; cases h1
        · simp [Array.getElem?_eq_none h'] at h1
      have h2 := wpOp_putIf hoj (hfree j oj hoj hji hjun hnot) (fun cs b => hsel i oi cs b hi) (fun cs b => hsel j oj cs b hoj) hQ hy h1
      have hfree' : ∀ k ok, ops[k]? = some ok → k ≠ i → (listed.setIfInBounds j true).getD k true = false →
          (∀ e ∈ ok.after, Region.binds md e = true → e.on ≠ i) → oi.apart ops ok = true := fun k ok hk hki hun hno => by
        refine hfree k ok hk hki ?_ hno
        by_cases hjk : j = k
        · subst hjk; exact hjun
        · rw [getD_set_ne true hjk] at hun; exact hun
      refine wpOp_mono (fun a' w' h3 => ?_) h2
      obtain ⟨hy', S', hs, hS', h4⟩ := h3
      have hy2 : YieldsIf P ops S' oi v a' := by
        rcases hs with hs | hc
        · exact YieldsIf.weaken hy' hs
        · have hp := coversQ_alone hcl hc hj hr (Ne.symm hji)
          rw [hi] at hp
          exact hy'.imp (fun ⟨hw, hv⟩ => ⟨hw, fun x _ => pure_any hp (hv w hS) x⟩) id
      refine ⟨S', hs, hS', ih S' (listed.setIfInBounds j true) a' w' (hcl.set hj) hfree' (ready_mono hr (Ne.symm hji)) hy2 hS' ?_⟩
      rw [Array.setIfInBounds_comm _ _ hji]
      exact h4
def wpOrq (P : Program) (ops : Array Oper) (Q : Exit → Act → World → Prop) : List (Nat × Bool) → (World → Prop) → Act → World → Prop
  | [], _, a, w => Q .normal a w
  | (i, true) :: r, S, a, w => ∃ v o, ops[i]? = some o ∧ YieldsIf P ops S o v a ∧ wpOrq P ops Q r S (a.put o.dst v) w
  | (i, false) :: r, S, a, w => wpOp P ops Q i (fun a' w' => ∃ S' : World → Prop, ((∀ x, S' x → S x) ∨ coversQ .any ops i = true) ∧ S' w' ∧ wpOrq P ops Q r S' a' w') a w
theorem wpAnyQ_of_ord (hs : Region.noSelect ops = true) (hQ : ∀ c a (d : Option Tmp) v w, Q (.panic c) (a.put d v) w → Q (.panic c) a w) : ∀ (ord : List (Nat × Bool)) (S : World → Prop) (listed : Array Bool) (a : Act) (w : World),
    Closed .any ops listed → ordB .any ops ord listed = true → S w → wpOrq P ops Q ord S a w → wpAnyQ P .any ops Q ord.length S listed a w
  | [], S, listed, a, w, _, hB, _, h => ⟨by simpa [ordB] using hB, h⟩
  | (i, true) :: r, S, listed, a, w, hcl, hB, hS, h => by
    simp only [ordB, Bool.and_eq_true] at hB
    obtain ⟨⟨⟨_, hf⟩, hr⟩, hB'⟩ := hB
    obtain ⟨v, o, ho, hy, hk⟩ := h
    exact wpAnyQ_first ho (Region.noSelect_spec hs) (fun c a w => hQ c a _ v w) r.length S listed a w hcl (Region.free_spec ho hf) (by simpa using hr) hy hS (wpAnyQ_of_ord hs hQ r S _ _ _ (hcl.set (by simpa using hr)) hB' hS hk)
  | (i, false) :: r, S, listed, a, w, hcl, hB, hS, h => by
    simp only [ordB, Bool.and_eq_true, beq_iff_eq] at hB
    obtain ⟨hr, hB'⟩ := hB
    refine ⟨(fun h0 => absurd (hr.symm.trans h0) (by simp)), fun j hj => ?_⟩
    rw [hr] at hj
    obtain rfl : j = i := by simpa using hj
    exact wpOp_mono (fun a' w' ⟨S', hs', hS', hk⟩ => ⟨S', hs', hS', wpAnyQ_of_ord hs hQ r S' _ _ _ (hcl.set (by rw [hr]; simp)) hB' hS' hk⟩) h
theorem wp_region_orq {id : Nat} {a : Act} {w : World} {l : List Oper} (ord : List (Nat × Bool)) (S : World → Prop) (hm : P.follows .mixedOrders = true)
    (hB : (Region.noSelect l.toArray && ordB .any l.toArray ord (Array.replicate l.length false) && (ord.length == l.length)) = true)
    (hS : S w.drew) (h : wpOrq P l.toArray (Calm Q) ord S a w.drew) : (Code.region id l.toArray true).wp P Q a w := by
  simp only [Bool.and_eq_true, beq_iff_eq] at hB
  obtain ⟨⟨h1, h2⟩, h3⟩ := hB
  refine Code.wp_mono (Q := Calm Q) (fun e a w hq => ?_) (wp_region_any hm ?_)
  · cases e <;> first | exact hq | exact (hq : False).elim
  · have := wpAny_of_Q _ _ _ _ _ (wpAnyQ_of_ord h1 (fun _ _ _ _ _ h => h) ord S _ a _ Closed.none h2 hS h)
    rw [h3] at this
    simpa using this
variable {i : Nat} {o : Oper} {r : List (Nat × Bool)} {S : World → Prop} {a : Act} {b w : World} {v : Value} {l : List Oper}
theorem orq_take (ho : ops[i]? = some o) (hw : Region.wanted o (yielded ops a.tmps) = true) (h : ∀ w', S w' → (execOp a.eval o).run P w' = .ok (.value v) w')
    (k : wpOrq P ops Q r S (a.put o.dst v) w) : wpOrq P ops Q ((i, true) :: r) S a w := ⟨v, o, ho, .inl ⟨hw, h⟩, k⟩
theorem orq_pass (ho : ops[i]? = some o) (hw : Region.wanted o (yielded ops a.tmps) = false)
    (k : wpOrq P ops Q r S (a.put o.dst undef) w) : wpOrq P ops Q ((i, true) :: r) S a w := ⟨undef, o, ho, .inr ⟨hw, rfl⟩, k⟩
theorem orq_do (ho : ops[i]? = some o) (hw : Region.wanted o (yielded ops a.tmps) = true)
    (k : ∀ K : Act → World → Prop, (∀ (S' : World → Prop) a' w', ((∀ x, S' x → S x) ∨ coversQ .any ops i = true) → S' w' → wpOrq P ops Q r S' a' w' → K a' w') → o.wp P a w K Q) : wpOrq P ops Q ((i, false) :: r) S a w := by
  show wpOp _ _ _ _ _ _ _
  unfold wpOp; rw [ho]; simp only [hw, if_true]
  exact .inl (k _ fun S' _ _ h1 h2 h3 => ⟨S', h1, h2, h3⟩)
def wpExq (P : Program) (l : List Oper) (Q : Exit → Act → World → Prop) (r : List (Nat × Bool)) (b : World) (a : Act) (w : World) : Prop := wpOrq P l.toArray (Calm Q) r (Ext b) a w
theorem wp_region_exq {id : Nat} (ord : List (Nat × Bool)) (hm : P.follows .mixedOrders = true)
    (hB : (Region.noSelect l.toArray && ordB .any l.toArray ord (Array.replicate l.length false) && (ord.length == l.length)) = true)
    (h : wpExq P l Q ord w a w.drew) : (Code.region id l.toArray true).wp P Q a w := wp_region_orq ord (Ext w) hm hB (Ext.drew _) h
theorem exq_nil (h : Q .normal a w) : wpExq P l Q [] b a w := h
theorem exq_take (ho : nth l i = some o) (hw : Region.wanted o (yielded l.toArray a.tmps) = true) (h : ∀ w', Ext b w' → (execOp a.eval o).run P w' = .ok (.value v) w')
    (k : wpExq P l Q r b (a.put o.dst v) w) : wpExq P l Q ((i, true) :: r) b a w := orq_take (nth_get ho) hw h k
theorem exq_move {x : Operand} (ho : nth l i = some o) (hop : o.op = .move x) (hw : Region.wanted o (yielded l.toArray a.tmps) = true) (hv : evalL a x = some v)
    (k : wpExq P l Q r b (a.put o.dst v) w) : wpExq P l Q ((i, true) :: r) b a w := orq_take (nth_get ho) hw (fun w' _ => by unfold execOp; rw [hop, ← evalL_eq hv]; rfl) k
theorem exq_assign {x : Operand} (ho : nth l i = some o) (hop : o.op = .assign x) (hw : Region.wanted o (yielded l.toArray a.tmps) = true) (hv : evalL a x = some v)
    (k : wpExq P l Q r b (a.put o.dst v) w) : wpExq P l Q ((i, true) :: r) b a w := orq_take (nth_get ho) hw (fun w' _ => by unfold execOp; rw [hop, ← evalL_eq hv]; rfl) k
theorem exq_pick_t {c x y : Operand} (ho : nth l i = some o) (hop : o.op = .pick c x y) (hw : Region.wanted o (yielded l.toArray a.tmps) = true) (hc : evalL a c = some (.bool true)) (hv : evalL a x = some v)
    (k : wpExq P l Q r b (a.put o.dst v) w) : wpExq P l Q ((i, true) :: r) b a w := orq_take (nth_get ho) hw (fun w' _ => by unfold execOp; rw [hop, ← evalL_eq hv]; simp only [evalL_eq hc]; rfl) k
theorem exq_pick_f {c x y : Operand} (ho : nth l i = some o) (hop : o.op = .pick c x y) (hw : Region.wanted o (yielded l.toArray a.tmps) = true) (hc : evalL a c = some (.bool false)) (hv : evalL a y = some v)
    (k : wpExq P l Q r b (a.put o.dst v) w) : wpExq P l Q ((i, true) :: r) b a w := orq_take (nth_get ho) hw (fun w' _ => by unfold execOp; rw [hop, ← evalL_eq hv]; simp only [evalL_eq hc]; rfl) k
theorem exq_pass (ho : nth l i = some o) (hw : Region.wanted o (yielded l.toArray a.tmps) = false)
    (k : wpExq P l Q r b (a.put o.dst undef) w) : wpExq P l Q ((i, true) :: r) b a w := orq_pass (nth_get ho) hw k
theorem exq_do (ho : nth l i = some o) (hw : Region.wanted o (yielded l.toArray a.tmps) = true)
    (k : ∀ K : Act → World → Prop, (∀ a' w', Ext b w' → wpExq P l Q r w' a' w' → K a' w') → o.wp P a w K (Calm Q)) : wpExq P l Q ((i, false) :: r) b a w :=
  orq_do (nth_get ho) hw fun K hK => k K fun a' w' h1 h2 => hK (Ext w') a' w' (.inl fun _ hx => h1.trans hx) (Ext.refl _) h2
theorem exq_last (ho : nth l i = some o) (hw : Region.wanted o (yielded l.toArray a.tmps) = true) (hc : coversQ .any l.toArray i = true)
    (k : ∀ K : Act → World → Prop, (∀ a' w', Q .normal a' w' → K a' w') → o.wp P a w K (Calm Q)) : wpExq P l Q [(i, false)] b a w :=
  orq_do (nth_get ho) hw fun K hK => k K fun a' w' h2 => hK (fun _ => True) a' w' (.inr hc) trivial h2
theorem exq_store (ho : nth l i = some o) (hw : Region.wanted o (yielded l.toArray a.tmps) = true) (hc : coversQ .any l.toArray i = true)
    (k : ∀ K : Act → World → Prop, (∀ a' w', wpExq P l Q r w' a' w' → K a' w') → o.wp P a w K (Calm Q)) : wpExq P l Q ((i, false) :: r) b a w :=
  orq_do (nth_get ho) hw fun K hK => k K fun a' w' h2 => hK (Ext w') a' w' (.inr hc) (Ext.refl _) h2
end
end Go.Proofs.YtjabgpejmnpamaaGreatDoor

namespace Go.Proofs.YtjabgpejmnpamaaGreatDoor
open Go.RowKit
section
variable {P : Program} {l : List Oper} {Q : Exit → Act → World → Prop} {i : Nat} {o : Oper} {r : OT} {a : Act} {b w : World} {v : Value}
theorem extT_doB (ho : nth l i = some o) (hw : Region.wanted o (yielded l.toArray a.tmps) = true)
    (k : ∀ K : Act → World → Prop, (∀ a' w', Ext b w' → wpExtT P l Q r b a' w' → K a' w') → o.wp P a w K (Calm Q)) : wpExtT P l Q (.one i r) b a w := by
  unfold wpExtT wpT
  exact opT_do hw ho (k _ fun _ w' h1 h2 => ⟨Ext b, .inl fun _ hx => hx, h1, h2⟩)
theorem wp_region_extTB {id : Nat} (t : OT) (hm : P.follows .mixedOrders = true)
    (hB : (Region.noSelect l.toArray && ordT .any l.toArray t (Array.replicate l.length false) && (t.size == l.length)) = true)
    (h : ∀ wc, Ext w wc → wpExtT P l Q t w a wc) : (Code.region id l.toArray true).wp P Q a w := wp_region_extT t hm hB (h _ (Ext.drew _))
theorem extT_twoB {j : Nat} {p : Oper} {t u : OT} (ho : nth l i = some o) (hp : nth l j = some p) (hw : Region.wanted o (yielded l.toArray a.tmps) = true) (hv : Region.wanted p (yielded l.toArray a.tmps) = true)
    (k : ∀ K : Act → World → Prop, (∀ a' w', Ext b w' → wpExtT P l Q t b a' w' → K a' w') → o.wp P a w K (Calm Q))
    (m : ∀ K : Act → World → Prop, (∀ a' w', Ext b w' → wpExtT P l Q u b a' w' → K a' w') → p.wp P a w K (Calm Q)) : wpExtT P l Q (.two i j t u) b a w :=
  ⟨opT_do hw ho (k _ fun _ w' h1 h2 => ⟨Ext b, fun _ hx => hx, h1, h2⟩), opT_do hv hp (m _ fun _ w' h1 h2 => ⟨Ext b, fun _ hx => hx, h1, h2⟩)⟩
end
end Go.Proofs.YtjabgpejmnpamaaGreatDoor

namespace Go.Proofs.YtjabgpejmnpamaaGreatDoor
open Go.RowKit
section
variable {P : Program} {l : List Oper} {Q : Exit → Act → World → Prop} {a : Act} {b w : World}
theorem wp_region_seT {id : Nat} (b : World) (hb : Ext b w) (t : OT) (hm : P.follows .mixedOrders = true)
    (hB : (Region.noSelect l.toArray && ordT .any l.toArray t (Array.replicate l.length false) && (t.size == l.length)) = true)
    (h : ∀ wc, Ext w wc → wpExtT P l Q t b a wc) : (Code.region id l.toArray true).wp P Q a w := wp_region_T t (Ext b) hm hB (hb.trans (Ext.drew _)) (h _ (Ext.drew _))
theorem extT_load {i : Nat} {o : Oper} {r : OT} {v p : Value} {x : Operand} (ty : TypeId) (ho : nth l i = some o) (hop : o.op = .load ty x) (hw : Region.wanted o (yielded l.toArray a.tmps) = true) (hx : evalL a x = some p)
    (h : ∀ w', Ext b w' → (Instr.loadAt ty p).run P w' = .ok v w') (k : wpExtT P l Q r b (a.put o.dst v) w) : wpExtT P l Q (.take i r) b a w :=
  extT_take ho hw (fun w' hS => by unfold execOp; rw [hop]; simp only [evalL_eq hx, Sem.run_bind, h w' hS]; rfl) k
end
end Go.Proofs.YtjabgpejmnpamaaGreatDoor

namespace Go.Proofs.YtjabgpejmnpamaaGreatDoor
section
variable {P : Program} {Q : Exit → Act → World → Prop} {md : Region.Mode} {l n : Nat}
def noDefer (ops : Array Oper) : Bool := ops.all fun o => match o.op with | .defer _ => false | _ => true
theorem noDefer_spec {ops : Array Oper} (h : noDefer ops = true) {i : Nat} {o : Oper} (ho : ops[i]? = some o) : ∀ c, o.op ≠ .defer c := by
  intro c hc
  unfold noDefer at h
  rw [Array.all_eq_true] at h
  obtain ⟨hlt, he⟩ := Array.getElem?_eq_some_iff.1 ho
  have := h i hlt
  rw [he, hc] at this
  cases this
theorem upon_wide {o : Oper} {a : Act} {next : Act → World → Prop} {r : Result Next} (h : o.upon P a next Q r) : o.uponIn (Fence.wide.inRound l) n P a next Q r := by
  have hd : ¬ ((Fence.wide.inRound l).depth.isSome = true) := by simp [Fence.wide]
  unfold Oper.upon at h
  unfold Oper.uponIn
  split at h
  · exact h
  · exact h
  · exact h
  · exact ⟨fun x => absurd x hd, CallsIn.inRound l (callsIn_wide.2 h)⟩
  · refine ⟨fun x => absurd x hd, fun c cs hr => ?_⟩
    obtain ⟨v, w', r, s⟩ := h c cs
    exact ⟨v, w', r, stepsIn_wide.2 s⟩
  · exact h
  · exact h.elim
theorem op_wide {o : Oper} {a : Act} {w : World} {next : Act → World → Prop} (hd : ∀ c, o.op ≠ .defer c) (h : o.wp P a w next Q) : o.wpIn (Fence.wide.inRound l) n P a w next Q := by
  refine ⟨fun _ _ => trivial, ?_⟩
  rw [Oper.semAt_eq _ _ _ hd]
  exact upon_wide h
theorem calm_shut : ¬ LetsOut (Calm Q) := fun ⟨_, _, h⟩ => h
theorem any_wide {ops : Array Oper} (hd : noDefer ops = true) : ∀ (fuel : Nat) (listed : Array Bool) (a : Act) (w : World), wpAny P md ops (Calm Q) fuel listed a w → wpAnyIn (Fence.wide.inRound l) n P md ops (Calm Q) fuel listed a w
  | 0, _, _, _, h => h
  | fuel + 1, listed, a, w, h => by
    refine ⟨h.1, fun i hi => ?_⟩
    have h2 := h.2 i hi
    unfold wpOp at h2
    unfold wpOpIn
    cases ho : ops[i]? with
    | none => rw [ho] at h2; exact any_wide hd fuel _ _ _ h2
    | some o =>
      rw [ho] at h2
      simp only at h2 ⊢
      split at h2
      · rename_i hw
        rw [if_pos hw]
        rcases h2 with h2 | h2
        · exact op_wide (noDefer_spec hd ho) (Oper.wp_mono (fun a' w' hk => any_wide hd fuel _ _ _ hk) h2)
        · exact (calm_shut h2.2).elim
      · rename_i hw
        rw [if_neg hw]
        exact ⟨fun _ _ => trivial, any_wide hd fuel _ _ _ h2⟩
end
section
variable {P : Program} {l : List Oper} {Q : Exit → Act → World → Prop} {a : Act} {w : World} {lo n : Nat}
theorem wpIn_region_exq {id : Nat} (ord : List (Nat × Bool)) (hm : P.follows .mixedOrders = true) (hd : noDefer l.toArray = true)
    (hB : (Region.noSelect l.toArray && ordB .any l.toArray ord (Array.replicate l.length false) && (ord.length == l.length)) = true)
    (h : wpExq P l Q ord w a w.drew) : (Code.region id l.toArray true).wpIn (Fence.wide.inRound lo) n P Q a w := by
  simp only [Bool.and_eq_true, beq_iff_eq] at hB
  obtain ⟨⟨h1, h2⟩, h3⟩ := hB
  refine Code.wpIn_mono (Q := Calm Q) (fun e a w hq => ?_) (wpIn_region_any hm (any_wide hd _ _ _ _ ?_))
  · cases e <;> first | exact hq | exact (hq : False).elim
  · have := wpAny_of_Q _ _ _ _ _ (wpAnyQ_of_ord h1 (fun _ _ _ _ _ h => h) ord (Ext w) _ a _ Closed.none h2 (Ext.drew _) h)
    rw [h3] at this
    simpa using this
theorem exq_load {i : Nat} {o : Oper} {r : List (Nat × Bool)} {b : World} {v p : Value} {x : Operand} (ty : TypeId) (ho : nth l i = some o) (hop : o.op = .load ty x) (hw : Region.wanted o (yielded l.toArray a.tmps) = true) (hx : evalL a x = some p)
    (h : ∀ w', Ext b w' → (Instr.loadAt ty p).run P w' = .ok v w') (k : wpExq P l Q r b (a.put o.dst v) w) : wpExq P l Q ((i, true) :: r) b a w :=
  exq_take ho hw (fun w' hS => by unfold execOp; rw [hop]; simp only [evalL_eq hx, Sem.run_bind, h w' hS]; rfl) k
end
end Go.Proofs.YtjabgpejmnpamaaGreatDoor

namespace Go.Proofs.YtjabgpejmnpamaaGreatDoor
open Go.RowKit
attribute [local go_sem] xor_un and_un and_one_un xor_poly_un half_un or_un not_un unsigned64 wrap_ub
theorem one_yes {x : BitVec 64} (h : x &&& 1#64 = 1#64) : (un (x &&& 1#64) == 1) = true := by rw [eq_one_un, h]; rfl
theorem one_no {x : BitVec 64} (h : ¬ x &&& 1#64 = 1#64) : (un (x &&& 1#64) == 1) = false := by rw [eq_one_un]; simpa using h
theorem step_yes {x : BitVec 64} (h : x &&& 1#64 = 1#64) : Crc.step x = x >>> 1 ^^^ Crc.poly := by unfold Crc.step; rw [if_pos h]
theorem step_no {x : BitVec 64} (h : ¬ x &&& 1#64 = 1#64) : Crc.step x = x >>> 1 := by unfold Crc.step; rw [if_neg h]
theorem step_any (x : BitVec 64) (w : World) :
    Calls Tryz.prog 137 #[encU x] w fun e w' => e = .returned (encU (Crc.step x)) ∧ w = w' := by
  by_cases h : x &&& 1#64 = 1#64
  · have HS := Lib.hid (step_yes h)
    have hb := one_yes h
    clear h
    go_enter Tryz.func137, Tryz.ntmps137
    go_wp2
    go_ret
    exact ⟨by rw [HS.out]; rfl, rfl⟩
  · have HS := Lib.hid (step_no h)
    have hb := one_no h
    clear h
    go_enter Tryz.func137, Tryz.ntmps137
    go_wp2
    go_ret
    exact ⟨by rw [HS.out]; rfl, rfl⟩
set_option maxHeartbeats 400000 in
theorem update_any (x : BitVec 64) (v : Value) (l : List (BitVec 8)) (w : World) (hl : l.length ≤ maxLen) (h : SliceAt encB w v l) :
    Calls Tryz.prog 88 #[encU x, v] w fun e w' => e = .returned (encU (Crc.update x l)) ∧ w = w' := by
  obtain ⟨ad, cap, rfl, _, ha⟩ := h
  unfold maxLen at hl
  go_enter Tryz.func88, Tryz.ntmps88
  go_wp2
  go_loop [5, 7, 12, 20] (fun v _ i _ => ∃ (k : Nat) (y : BitVec 64), k ≤ l.length ∧ i = .int .i64 k ∧ v = encU y ∧ Crc.foldB y (l.drop k) = Crc.foldB (~~~x) l) (fun _ _ i _ => l.length - (intOf i).toNat)
  case atStart => exact ⟨0, ~~~x, Nat.zero_le _, rfl, rfl, rfl⟩
  case round =>
    obtain ⟨k, y, hk, rfl, rfl, he⟩ := hrel
    by_cases hlt : k < l.length
    · rw [List.drop_eq_getElem_cons hlt] at he
      have HE := Lib.hid he
      clear he
      rcases ha with ⟨ha, _⟩ | ⟨b, o, rfl, hb, ha⟩
      · subst ha; simp at hlt
      have hc := ha k hlt
      generalize l[k] = c at *
      clear ha
      go_wp2
      go_loop [5, 20] (fun v i => ∃ (j : Nat) (z : BitVec 64), j ≤ 8 ∧ i = .int .i64 j ∧ v = encU z ∧ Crc.stepN (8 - j) z = Crc.stepN 8 (y ^^^ Crc.reg c)) (fun _ i => 8 - (intOf i).toNat)
      case atStart => exact ⟨0, y ^^^ Crc.reg c, by omega, rfl, rfl, rfl⟩
      case round =>
        obtain ⟨j, z, hj, rfl, rfl, hz⟩ := hrel
        by_cases hjl : j < 8
        · obtain ⟨m, hm⟩ : ∃ m, 8 - j = m + 1 := ⟨8 - j - 1, by omega⟩
          have hm2 : 8 - (j + 1) = m := by omega
          rw [hm] at hz
          have HZ := Lib.hid hz
          have HM := Lib.hid hm2
          clear hz hm hm2
          go_wp2_with (go_at_call 137; refine (step_any _ _).mono ?_; rintro e w' ⟨rfl, rfl⟩)
          go_round
          case rel => exact ⟨j + 1, _, by omega, by go_num, rfl, by rw [HM.out]; exact HZ.out⟩
          case measure => simp [intOf]; omega
        · have h8 : j = 8 := by omega
          subst h8
          have HZ : Hid (z = Crc.stepN 8 (y ^^^ Crc.reg c)) := hz
          clear hz
          go_wp2
          go_round
          case rel => exact ⟨k + 1, z, by omega, by go_num, rfl, by rw [HZ.out]; exact HE.out⟩
          case measure => simp [intOf]; omega
    · have HE : Hid (y = Crc.foldB (~~~x) l) := by
        rw [List.drop_eq_nil_of_le (by omega)] at he; exact he
      clear he
      go_wp2
      go_ret
      exact ⟨by rw [HE.out]; rfl, rfl⟩
theorem sum_any (v : Value) (l : List (BitVec 8)) (w : World) (hl : l.length ≤ maxLen) (h : SliceAt encB w v l) :
    Calls Tryz.prog 45 #[v] w fun e w' => e = .returned (encU (Crc.sum l)) ∧ w = w' := by
  go_enter Tryz.func45, Tryz.ntmps45
  go_wp2_with (go_at_call 88; refine (update_any 0#64 _ l _ hl h).mono ?_; rintro e w' ⟨rfl, rfl⟩)
  go_ret
  exact ⟨rfl, rfl⟩
end Go.Proofs.YtjabgpejmnpamaaGreatDoor

namespace Go.Proofs.YtjabgpejmnpamaaGreatDoor
set_option maxRecDepth 100000
open Go.RowKit
attribute [local go_sem ↓] Go.wp_at_zero Go.wp_at_succ
theorem below_cells {W w1 : World} (hb : Below W.heap.size W w1) : (∀ b o, b < W.heap.size → w1.cell? ⟨b, o, none⟩ = W.cell? ⟨b, o, none⟩) ∧ (∀ b o, b < W.heap.size → w1.frozen? ⟨b, o, none⟩ = W.frozen? ⟨b, o, none⟩) :=
  ⟨fun b o h => hb.cell (p := ⟨b, o, none⟩) h, fun b o h => hb.frozen (p := ⟨b, o, none⟩) h⟩
abbrev dggeoV (r b t s o : Int) : Value := .agg #[.int .i64 r, .int .i64 b, .int .i64 t, .int .i64 s, .int .i64 o]
def dgvalidB (r b t s o : Int) : Bool := decide (0 ≤ r ∧ r ≤ 16384 ∧ 1 ≤ b ∧ b ≤ 64 ∧ 1 ≤ t ∧ t ≤ 16 ∧ 1 ≤ s ∧ s ≤ 64 ∧ 0 ≤ o ∧ o ≤ 3)
def dgwithinB (n lo hi : Int) : Bool := decide (lo ≤ n ∧ n ≤ hi)
theorem dgwithin_any (n lo hi : Int) (w : World) :
    Calls Tryz.prog 158 #[.int .i64 n, .int .i64 lo, .int .i64 hi] w fun e w' => e = .returned (.bool (dgwithinB n lo hi)) ∧ w = w' := by
  go_enter Tryz.func158, Tryz.ntmps158
  go_wp2
  all_goals go_ret
  all_goals exact ⟨ret_iff (by simp only [dgwithinB, decide_eq_true_eq, Bool.false_eq_true]; constructor <;> intro h <;> first | exact False.elim h | omega), rfl⟩
set_option maxHeartbeats 400000 in
theorem dgvalid_any (r b t s o : Int) (w : World) :
    Calls Tryz.prog 105 #[dggeoV r b t s o] w fun e w' => e = .returned (.bool (dgvalidB r b t s o)) ∧ Below w.heap.size w w' := by
  go_enter Tryz.func105, Tryz.ntmps105
  go_wp2_with (go_at_call 158; refine (dgwithin_any _ _ _ _).mono ?_; rintro e w' ⟨rfl, rfl⟩)
  all_goals go_ret
  all_goals exact ⟨ret_iff (by simp only [dgwithinB, dgvalidB, decide_eq_true_eq, Bool.false_eq_true] at *; constructor <;> intro h <;> first | exact False.elim h | omega), (Below.refl _ _).alloc (Nat.le_refl _) _⟩
def bsz (r b t s o : Int) : Int := if dgvalidB r b t s o then t * s else 0
theorem bounds {r b t s o : Int} (h : dgvalidB r b t s o = true) : 0 ≤ r ∧ r ≤ 16384 ∧ 1 ≤ b ∧ b ≤ 64 ∧ 1 ≤ t ∧ t ≤ 16 ∧ 1 ≤ s ∧ s ≤ 64 ∧ 0 ≤ o ∧ o ≤ 3 := by
  simpa only [dgvalidB, decide_eq_true_eq] using h
theorem prod_bounds {r b t s o : Int} (h : dgvalidB r b t s o = true) : 1 ≤ t * s ∧ t * s ≤ 1024 ∧ 1 ≤ b * (t * s) ∧ b * (t * s) ≤ 65536 := by
  obtain ⟨_, _, hb1, hb2, ht1, ht2, hs1, hs2, _, _⟩ := bounds h
  have h1 : 1 * 1 ≤ t * s := Int.mul_le_mul ht1 hs1 (by omega) (by omega)
  have h2 : t * s ≤ 16 * 64 := Int.mul_le_mul ht2 hs2 (by omega) (by omega)
  have h3 : 1 * 1 ≤ b * (t * s) := Int.mul_le_mul hb1 (by omega) (by omega) (by omega)
  have h4 : b * (t * s) ≤ 64 * 1024 := Int.mul_le_mul hb2 (by omega) (by omega) (by omega)
  omega
set_option maxHeartbeats 400000 in
theorem bsz_any (r b t s o : Int) (w : World) :
    Calls Tryz.prog 110 #[dggeoV r b t s o] w fun e w' => e = .returned (.int .i64 (bsz r b t s o)) ∧ Below w.heap.size w w' := by
  by_cases hv : dgvalidB r b t s o = true
  all_goals
    have HV := Lib.hid hv
    first | (have hp := prod_bounds hv; have hb := bounds hv) | skip
    go_enter Tryz.func110, Tryz.ntmps110
    go_wp2_with (go_at_call 105; refine (dgvalid_any _ _ _ _ _ _).mono ?_; rintro e w1 ⟨rfl, hb1⟩; have hc1 := below_cells hb1)
    go_ret
    exact ⟨ret_int (by unfold bsz; simp [HV.out]), ((((Below.refl _ _).alloc (Nat.le_refl _) _).trans (hb1.mono (by simp))))⟩
theorem bsz_any_yes (r b t s o : Int) (hv : dgvalidB r b t s o = true) (w : World) :
    Calls Tryz.prog 110 #[dggeoV r b t s o] w fun e w' => e = .returned (.int .i64 (t * s)) ∧ Below w.heap.size w w' := by
  have := bsz_any r b t s o w
  rwa [show bsz r b t s o = t * s by simp [bsz, hv]] at this
def szz (r b t s o : Int) : Int := if dgvalidB r b t s o then r + b * (t * s) else 0
set_option maxHeartbeats 400000 in
theorem size_any (r b t s o : Int) (w : World) :
    Calls Tryz.prog 106 #[dggeoV r b t s o] w fun e w' => e = .returned (.int .i64 (szz r b t s o)) ∧ Below w.heap.size w w' := by
  by_cases hv : dgvalidB r b t s o = true
  · have HV := Lib.hid hv
    have hp := prod_bounds hv; have hb := bounds hv
    go_enter Tryz.func106, Tryz.ntmps106
    go_wp2_with (go_at_call 105; refine (dgvalid_any _ _ _ _ _ _).mono ?_; rintro e w1 ⟨rfl, hb1⟩; have hc1 := below_cells hb1)
    have hz : w.heap.size < w1.heap.size := by have := hb1.size; simp at this; omega
    refine wp_region_ext [(0, true), (1, true), (2, true), (3, true), (4, true), (5, false), (6, true), (7, true), (8, true)] (by kernel_rfl) (by kernel_rfl) ?_
    iterate 5 ((first
     | refine ext_move rfl rfl (by rfl) (by rfl) ?_
     | refine ext_assign rfl rfl (by rfl) (by rfl) ?_
     | refine ext_pick_t rfl rfl (by rfl) (by rfl) (by rfl) ?_
     | refine ext_pick_f rfl rfl (by rfl) (by rfl) (by rfl) ?_
     | (apply ext_take rfl (by rfl)
        · intro w' hS
          have hSc := hS.cells
          (try simp only [World.size_drew, World.cell?_drew] at hSc)
          go_simp
          (try simp (disch := omega) only [i64_id, u64_id, ↓IntWalk.iteOmega, Int.tdiv_eq_ediv_of_nonneg, Int.tmod_eq_emod_of_nonneg])
          try rfl)
     | refine ext_pass rfl (by rfl) ?_); simp only [Act.put, setZa, setZ0, setZ1])
    (refine ext_do rfl (by rfl) (fun K hK => ?_)
     go_simp
     go_at_call 110
     refine (bsz_any_yes _ _ _ _ _ HV.out _).mono ?_
     rintro e w2 ⟨rfl, hb2⟩
     refine hK _ _ ((Ext.drew _).trans hb2) ?_
     clear hK K
     (try simp only [Act.put, setZa, setZ0, setZ1]))
    iterate 3 ((first
     | refine ext_move rfl rfl (by rfl) (by rfl) ?_
     | refine ext_assign rfl rfl (by rfl) (by rfl) ?_
     | refine ext_pick_t rfl rfl (by rfl) (by rfl) (by rfl) ?_
     | refine ext_pick_f rfl rfl (by rfl) (by rfl) (by rfl) ?_
     | (apply ext_take rfl (by rfl)
        · intro w' hS
          have hSc := hS.cells
          (try simp only [World.size_drew, World.cell?_drew] at hSc)
          go_simp
          (try simp (disch := omega) only [i64_id])
          try rfl)
     | refine ext_pass rfl (by rfl) ?_); simp only [Act.put, setZa, setZ0, setZ1])
    refine ext_nil ?_
    go_wp2
    go_ret
    exact ⟨ret_int (by unfold szz; simp [HV.out]), (((Ext.alloc _ _).trans hb1).trans (Ext.drew _)).trans hb2⟩
  · have HV := Lib.hid hv
    go_enter Tryz.func106, Tryz.ntmps106
    go_wp2_with (go_at_call 105; refine (dgvalid_any _ _ _ _ _ _).mono ?_; rintro e w1 ⟨rfl, hb1⟩; have hc1 := below_cells hb1)
    go_ret
    exact ⟨ret_int (by unfold szz; simp [HV.out]), (Ext.alloc _ _).trans hb1⟩
theorem size_any_yes (r b t s o : Int) (hv : dgvalidB r b t s o = true) (w : World) :
    Calls Tryz.prog 106 #[dggeoV r b t s o] w fun e w' => e = .returned (.int .i64 (r + b * (t * s))) ∧ Below w.heap.size w w' := by
  have := size_any r b t s o w
  rwa [show szz r b t s o = r + b * (t * s) by simp [szz, hv]] at this
open Go.RowKit
attribute [local go_sem ↓] Go.wp_at_zero Go.wp_at_succ
theorem within_yes (n lo hi : Int) (w : World) (h : lo ≤ n ∧ n ≤ hi) :
    Calls Tryz.prog 158 #[.int .i64 n, .int .i64 lo, .int .i64 hi] w fun e w' => e = .returned (.bool true) ∧ w = w' := by
  have := dgwithin_any n lo hi w
  rwa [show dgwithinB n lo hi = true by simpa [dgwithinB] using h] at this
theorem within_no (n lo hi : Int) (w : World) (h : ¬ (lo ≤ n ∧ n ≤ hi)) :
    Calls Tryz.prog 158 #[.int .i64 n, .int .i64 lo, .int .i64 hi] w fun e w' => e = .returned (.bool false) ∧ w = w' := by
  have := dgwithin_any n lo hi w
  rwa [show dgwithinB n lo hi = false by simpa [dgwithinB] using h] at this
theorem valid_yes (r b t s o : Int) (hv : dgvalidB r b t s o = true) (w : World) :
    Calls Tryz.prog 105 #[dggeoV r b t s o] w fun e w' => e = .returned (.bool true) ∧ Below w.heap.size w w' := hv ▸ dgvalid_any r b t s o w
theorem valid_no (r b t s o : Int) (hv : dgvalidB r b t s o = false) (w : World) :
    Calls Tryz.prog 105 #[dggeoV r b t s o] w fun e w' => e = .returned (.bool false) ∧ Below w.heap.size w w' := hv ▸ dgvalid_any r b t s o w
structure Loc where
  band : Int
  track : Int
  pos : Int
  err : Int
abbrev Loc.val (l : Loc) : Value := .tuple #[.int .i64 l.band, .int .i64 l.track, .int .i64 l.pos, .int .i64 l.err]
def inB (r b t s o a : Int) : Bool := decide (r ≤ a ∧ a < r + b * (t * s))
def loc (r b t s o a : Int) : Loc :=
  if dgvalidB r b t s o = true then (if inB r b t s o a = true then ⟨(a - r) / s / t, (a - r) / s % t, (a - r) % s, 0⟩ else ⟨0, 0, 0, 2⟩) else ⟨0, 0, 0, 1⟩
theorem loc_no {r b t s o a : Int} (h : dgvalidB r b t s o = false) : loc r b t s o a = ⟨0, 0, 0, 1⟩ := by simp [loc, h]
theorem loc_out {r b t s o a : Int} (h : dgvalidB r b t s o = true) (h2 : inB r b t s o a = false) : loc r b t s o a = ⟨0, 0, 0, 2⟩ := by simp [loc, h, h2]
theorem loc_in {r b t s o a : Int} (h : dgvalidB r b t s o = true) (h2 : inB r b t s o a = true) : loc r b t s o a = ⟨(a - r) / s / t, (a - r) / s % t, (a - r) % s, 0⟩ := by simp [loc, h, h2]
theorem div_bounds {n s : Int} (h0 : 0 ≤ n) (hs : 1 ≤ s) : 0 ≤ n / s ∧ n / s ≤ n ∧ 0 ≤ n % s ∧ n % s < s := by
  refine ⟨Int.ediv_nonneg h0 (by omega), Int.ediv_le_self _ h0, Int.emod_nonneg _ (by omega), Int.emod_lt_of_pos _ (by omega)⟩
set_option maxHeartbeats 800000 in
theorem locate_any (r b t s o a : Int) (w : World) :
    Calls Tryz.prog 266 #[dggeoV r b t s o, .int .i64 a] w fun e w' => e = .returned (loc r b t s o a).val ∧ Below w.heap.size w w' := by
  rcases hv : dgvalidB r b t s o with _ | _
  · have HV := Lib.hid hv; clear hv
    go_enter Tryz.func266, Tryz.ntmps266
    go_wp2_with (go_at_call 105; refine (valid_no _ _ _ _ _ HV.out _).mono ?_; rintro e w1 ⟨rfl, hb1⟩; have hc1 := below_cells hb1)
    ((try simp only [Exit.inBlock, Exit.then]); refine bodyPost_ret (results_tmp4 rfl _ _ _) rfl ?_)
    rw [loc_no HV.out]
    exact ⟨rfl, (Ext.alloc _ _).trans hb1⟩
  · have HV := Lib.hid hv
    have hp := prod_bounds hv; have hb := bounds hv; clear hv
    rcases hi : inB r b t s o a with _ | _
    · have HI := Lib.hid hi
      have hj : ¬ (r ≤ a ∧ a < r + b * (t * s)) := by simpa only [inB, decide_eq_false_iff_not] using hi
      have HJ := Lib.hid hj
      clear hi hj
      go_enter Tryz.func266, Tryz.ntmps266
      go_wp2_with (go_at_call 105; refine (valid_yes _ _ _ _ _ HV.out _).mono ?_; rintro e w1 ⟨rfl, hb1⟩; have hc1 := below_cells hb1)
      have hz : w.heap.size < w1.heap.size := by have := hb1.size; simp at this; omega
      refine wp_region_ext [(0, true), (1, true), (2, true), (3, true), (4, false), (5, true), (6, false), (7, true), (8, true)] (by kernel_rfl) (by kernel_rfl) ?_
      iterate 4 ((first
       | refine ext_move rfl rfl (by rfl) (by rfl) ?_
       | refine ext_assign rfl rfl (by rfl) (by rfl) ?_
       | refine ext_pick_t rfl rfl (by rfl) (by rfl) (by rfl) ?_
       | refine ext_pick_f rfl rfl (by rfl) (by rfl) (by rfl) ?_
       | (apply ext_take rfl (by rfl)
          · intro w' hS
            have hSc := hS.cells
            (try simp only [World.size_drew, World.cell?_drew] at hSc)
            go_simp
            (try simp (disch := omega) only [i64_id, u64_id, ↓IntWalk.iteOmega, Int.tdiv_eq_ediv_of_nonneg, Int.tmod_eq_emod_of_nonneg])
            try rfl)
       | refine ext_pass rfl (by rfl) ?_); simp only [Act.put, setZa, setZ0, setZ1])
      (refine ext_do rfl (by rfl) (fun K hK => ?_)
       go_simp
       go_at_call 106
       refine (size_any_yes _ _ _ _ _ HV.out _).mono ?_
       rintro e w2 ⟨rfl, hb2⟩
       refine hK _ _ ((Ext.drew _).trans hb2) ?_
       clear hK K
       (try simp only [Act.put, setZa, setZ0, setZ1]))
      iterate 1 ((first
       | refine ext_move rfl rfl (by rfl) (by rfl) ?_
       | refine ext_assign rfl rfl (by rfl) (by rfl) ?_
       | refine ext_pick_t rfl rfl (by rfl) (by rfl) (by rfl) ?_
       | refine ext_pick_f rfl rfl (by rfl) (by rfl) (by rfl) ?_
       | (apply ext_take rfl (by rfl)
          · intro w' hS
            have hSc := hS.cells
            (try simp only [World.size_drew, World.cell?_drew] at hSc)
            go_simp
            (try simp (disch := omega) only [i64_id])
            try rfl)
       | refine ext_pass rfl (by rfl) ?_); simp only [Act.put, setZa, setZ0, setZ1])
      (refine ext_do rfl (by rfl) (fun K hK => ?_)
       go_simp
       go_at_call 158
       refine (within_no _ _ _ _ (by have := HJ.out; omega)).mono ?_
       rintro e w3 ⟨rfl, rfl⟩
       refine hK _ _ (Ext.refl _) ?_
       clear hK K
       (try simp only [Act.put, setZa, setZ0, setZ1]))
      iterate 2 ((first
       | refine ext_move rfl rfl (by rfl) (by rfl) ?_
       | refine ext_assign rfl rfl (by rfl) (by rfl) ?_
       | refine ext_pick_t rfl rfl (by rfl) (by rfl) (by rfl) ?_
       | refine ext_pick_f rfl rfl (by rfl) (by rfl) (by rfl) ?_
       | (apply ext_take rfl (by rfl)
          · intro w' hS
            have hSc := hS.cells
            (try simp only [World.size_drew, World.cell?_drew] at hSc)
            go_simp
            (try simp (disch := omega) only [i64_id, u64_id, ↓IntWalk.iteOmega, Int.tdiv_eq_ediv_of_nonneg, Int.tmod_eq_emod_of_nonneg])
            try rfl)
       | refine ext_pass rfl (by rfl) ?_); simp only [Act.put, setZa, setZ0, setZ1])
      refine ext_nil ?_
      go_wp2
      ((try simp only [Exit.inBlock, Exit.then]); refine bodyPost_ret (results_tmp4 rfl _ _ _) rfl ?_)
      rw [loc_out HV.out HI.out]
      exact ⟨rfl, (((Ext.alloc _ _).trans hb1).trans (Ext.drew _)).trans hb2⟩
    · have HI := Lib.hid hi
      have hj : r ≤ a ∧ a < r + b * (t * s) := by simpa only [inB, decide_eq_true_eq] using hi
      have hn : 0 ≤ a - r := by omega
      have hd := div_bounds hn (show 1 ≤ s by omega)
      have hd2 := div_bounds hd.1 (show 1 ≤ t by omega)
      clear hi
      go_enter Tryz.func266, Tryz.ntmps266
      go_wp2_with (go_at_call 105; refine (valid_yes _ _ _ _ _ HV.out _).mono ?_; rintro e w1 ⟨rfl, hb1⟩; have hc1 := below_cells hb1)
      have hz : w.heap.size < w1.heap.size := by have := hb1.size; simp at this; omega
      refine wp_region_ext [(0, true), (1, true), (2, true), (3, true), (4, false), (5, true), (6, false), (7, true), (8, true)] (by kernel_rfl) (by kernel_rfl) ?_
      iterate 4 ((first
       | refine ext_move rfl rfl (by rfl) (by rfl) ?_
       | refine ext_assign rfl rfl (by rfl) (by rfl) ?_
       | refine ext_pick_t rfl rfl (by rfl) (by rfl) (by rfl) ?_
       | refine ext_pick_f rfl rfl (by rfl) (by rfl) (by rfl) ?_
       | (apply ext_take rfl (by rfl)
          · intro w' hS
            have hSc := hS.cells
            (try simp only [World.size_drew, World.cell?_drew] at hSc)
            go_simp
            (try simp (disch := omega) only [i64_id, u64_id, ↓IntWalk.iteOmega, Int.tdiv_eq_ediv_of_nonneg, Int.tmod_eq_emod_of_nonneg])
            try rfl)
       | refine ext_pass rfl (by rfl) ?_); simp only [Act.put, setZa, setZ0, setZ1])
      (refine ext_do rfl (by rfl) (fun K hK => ?_)
       go_simp
       go_at_call 106
       refine (size_any_yes _ _ _ _ _ HV.out _).mono ?_
       rintro e w2 ⟨rfl, hb2⟩
       refine hK _ _ ((Ext.drew _).trans hb2) ?_
       clear hK K
       (try simp only [Act.put, setZa, setZ0, setZ1]))
      iterate 1 ((first
       | refine ext_move rfl rfl (by rfl) (by rfl) ?_
       | refine ext_assign rfl rfl (by rfl) (by rfl) ?_
       | refine ext_pick_t rfl rfl (by rfl) (by rfl) (by rfl) ?_
       | refine ext_pick_f rfl rfl (by rfl) (by rfl) (by rfl) ?_
       | (apply ext_take rfl (by rfl)
          · intro w' hS
            have hSc := hS.cells
            (try simp only [World.size_drew, World.cell?_drew] at hSc)
            go_simp
            (try simp (disch := omega) only [i64_id])
            try rfl)
       | refine ext_pass rfl (by rfl) ?_); simp only [Act.put, setZa, setZ0, setZ1])
      (refine ext_do rfl (by rfl) (fun K hK => ?_)
       go_simp
       go_at_call 158
       refine (within_yes _ _ _ _ (by omega)).mono ?_
       rintro e w3 ⟨rfl, rfl⟩
       refine hK _ _ (Ext.refl _) ?_
       clear hK K
       (try simp only [Act.put, setZa, setZ0, setZ1]))
      iterate 2 ((first
       | refine ext_move rfl rfl (by rfl) (by rfl) ?_
       | refine ext_assign rfl rfl (by rfl) (by rfl) ?_
       | refine ext_pick_t rfl rfl (by rfl) (by rfl) (by rfl) ?_
       | refine ext_pick_f rfl rfl (by rfl) (by rfl) (by rfl) ?_
       | (apply ext_take rfl (by rfl)
          · intro w' hS
            have hSc := hS.cells
            (try simp only [World.size_drew, World.cell?_drew] at hSc)
            go_simp
            (try simp (disch := omega) only [i64_id, u64_id, ↓IntWalk.iteOmega, Int.tdiv_eq_ediv_of_nonneg, Int.tmod_eq_emod_of_nonneg])
            try rfl)
       | refine ext_pass rfl (by rfl) ?_); simp only [Act.put, setZa, setZ0, setZ1])
      refine ext_nil ?_
      have hz2 : w.heap.size < w2.heap.size := by have := hb2.size; simp at this; omega
      have hc2 := ((Ext.drew w1).trans hb2).cells
      go_wp2
      refine wp_region_ext [(0, true), (1, true), (2, true), (3, true), (4, true), (5, true), (6, true), (7, true), (8, true), (9, true)] (by kernel_rfl) (by kernel_rfl) ?_
      iterate 10 ((first
       | refine ext_move rfl rfl (by rfl) (by rfl) ?_
       | refine ext_assign rfl rfl (by rfl) (by rfl) ?_
       | refine ext_pick_t rfl rfl (by rfl) (by rfl) (by rfl) ?_
       | refine ext_pick_f rfl rfl (by rfl) (by rfl) (by rfl) ?_
       | (apply ext_take rfl (by rfl)
          · intro w' hS
            have hSc := hS.cells
            (try simp only [World.size_drew, World.cell?_drew] at hSc)
            go_simp
            (try simp (disch := omega) only [i64_id, ↓IntWalk.iteOmega, Int.tdiv_eq_ediv_of_nonneg, Int.tmod_eq_emod_of_nonneg])
            try rfl)
       | refine ext_pass rfl (by rfl) ?_); simp only [Act.put, setZa, setZ0, setZ1])
      refine ext_nil ?_
      go_wp2
      refine wp_region_ext [(0, true), (1, true), (2, true), (3, true), (4, true), (5, true), (6, true), (7, true), (8, true), (9, true), (10, true), (11, true), (12, true)] (by kernel_rfl) (by kernel_rfl) ?_
      iterate 13 ((first
       | refine ext_move rfl rfl (by rfl) (by rfl) ?_
       | refine ext_assign rfl rfl (by rfl) (by rfl) ?_
       | refine ext_pick_t rfl rfl (by rfl) (by rfl) (by rfl) ?_
       | refine ext_pick_f rfl rfl (by rfl) (by rfl) (by rfl) ?_
       | (apply ext_take rfl (by rfl)
          · intro w' hS
            have hSc := hS.cells
            (try simp only [World.size_drew, World.cell?_drew] at hSc)
            go_simp
            (try simp (disch := omega) only [i64_id, ↓IntWalk.iteOmega, Int.tdiv_eq_ediv_of_nonneg, Int.tmod_eq_emod_of_nonneg])
            try rfl)
       | refine ext_pass rfl (by rfl) ?_); simp only [Act.put, setZa, setZ0, setZ1])
      refine ext_nil ?_
      go_wp2
      ((try simp only [Exit.inBlock, Exit.then]); refine bodyPost_ret (results_tmp4 rfl _ _ _) rfl ?_)
      rw [loc_in HV.out HI.out]
      exact ⟨rfl, (((((Ext.alloc _ _).trans hb1).trans (Ext.drew _)).trans hb2).trans (Ext.drew _)).trans (Ext.drew _)⟩
open Go.RowKit
attribute [local go_sem ↓] Go.wp_at_zero Go.wp_at_succ
structure Adr where
  at_ : Int
  err : Int
abbrev Adr.val (l : Adr) : Value := .tuple #[.int .i64 l.at_, .int .i64 l.err]
def inS (b t s x y z : Int) : Bool := decide (0 ≤ x ∧ x < b ∧ 0 ≤ y ∧ y < t ∧ 0 ≤ z ∧ z < s)
def adr (r b t s o x y z : Int) : Adr :=
  if dgvalidB r b t s o = true then (if inS b t s x y z = true then ⟨r + (x * t + y) * s + z, 0⟩ else ⟨0, 2⟩) else ⟨0, 1⟩
theorem adr_no {r b t s o x y z : Int} (h : dgvalidB r b t s o = false) : adr r b t s o x y z = ⟨0, 1⟩ := by simp [adr, h]
theorem adr_out {r b t s o x y z : Int} (h : dgvalidB r b t s o = true) (h2 : inS b t s x y z = false) : adr r b t s o x y z = ⟨0, 2⟩ := by simp [adr, h, h2]
theorem adr_in {r b t s o x y z : Int} (h : dgvalidB r b t s o = true) (h2 : inS b t s x y z = true) : adr r b t s o x y z = ⟨r + (x * t + y) * s + z, 0⟩ := by simp [adr, h, h2]
theorem adr_bounds {r b t s o x y z : Int} (h : dgvalidB r b t s o = true) (h2 : inS b t s x y z = true) :
    0 ≤ x * t ∧ x * t ≤ 1024 ∧ 0 ≤ (x * t + y) * s ∧ (x * t + y) * s ≤ 131072 := by
  obtain ⟨_, _, hb1, hb2, ht1, ht2, hs1, hs2, _, _⟩ := bounds h
  have h3 : 0 ≤ x ∧ x < b ∧ 0 ≤ y ∧ y < t ∧ 0 ≤ z ∧ z < s := by simpa only [inS, decide_eq_true_eq] using h2
  have h1 : 0 ≤ x * t := Int.mul_nonneg (by omega) (by omega)
  have h2 : x * t ≤ 64 * 16 := Int.mul_le_mul (by omega) ht2 (by omega) (by omega)
  have h4 : 0 ≤ (x * t + y) * s := Int.mul_nonneg (by omega) (by omega)
  have h5 : (x * t + y) * s ≤ 2048 * 64 := Int.mul_le_mul (by omega) hs2 (by omega) (by omega)
  omega
set_option maxHeartbeats 800000 in
theorem address_any (r b t s o x y z : Int) (w : World) :
    Calls Tryz.prog 209 #[dggeoV r b t s o, .int .i64 x, .int .i64 y, .int .i64 z] w fun e w' => e = .returned (adr r b t s o x y z).val ∧ Below w.heap.size w w' := by
  rcases hv : dgvalidB r b t s o with _ | _
  · have HV := Lib.hid hv; clear hv
    go_enter Tryz.func209, Tryz.ntmps209
    go_wp2_with (go_at_call 105; refine (valid_no _ _ _ _ _ HV.out _).mono ?_; rintro e w1 ⟨rfl, hb1⟩; have hc1 := below_cells hb1)
    go_ret2
    rw [adr_no HV.out]
    exact ⟨rfl, (Ext.alloc _ _).trans hb1⟩
  · have HV := Lib.hid hv
    rcases hi : inS b t s x y z with _ | _
    · have HI := Lib.hid hi
      have hb := bounds hv; clear hv hi
      go_enter Tryz.func209, Tryz.ntmps209
      go_wp2_with (first
        | (go_at_call 105; refine (valid_yes _ _ _ _ _ HV.out _).mono ?_; rintro e w1 ⟨rfl, hb1⟩; have hc1 := below_cells hb1)
        | (go_at_call 158; refine (dgwithin_any _ _ _ _).mono ?_; rintro e w2 ⟨rfl, rfl⟩))
      all_goals first
        | (go_ret2; rw [adr_out HV.out HI.out]; exact ⟨rfl, (Ext.alloc _ _).trans hb1⟩)
        | (exfalso; have hI := HI.out; simp only [inS, dgwithinB, decide_eq_false_iff_not, decide_eq_true_eq, Bool.not_eq_false'] at *; omega)
    · have HI := Lib.hid hi
      have hb := bounds hv
      have hq := adr_bounds hv hi
      have h3 : 0 ≤ x ∧ x < b ∧ 0 ≤ y ∧ y < t ∧ 0 ≤ z ∧ z < s := by simpa only [inS, decide_eq_true_eq] using hi
      clear hv hi
      go_enter Tryz.func209, Tryz.ntmps209
      go_wp2_with (first
        | (go_at_call 105; refine (valid_yes _ _ _ _ _ HV.out _).mono ?_; rintro e w1 ⟨rfl, hb1⟩; have hc1 := below_cells hb1)
        | (go_at_call 158; refine (within_yes _ _ _ _ (by omega)).mono ?_; rintro e w2 ⟨rfl, rfl⟩))
      go_ret2
      rw [adr_in HV.out HI.out]
      exact ⟨rfl, (Ext.alloc _ _).trans hb1⟩
open Go.RowKit
open Go.RowKit
theorem dginfoI : (Tryz.prog.info? 3).map (fun i => (i.zero, i.size, i.bytes)) = some (some (.int .i64 0), 1, 8) := by kernel_rfl
def shwN (s a : Int) (n : Nat) : List Int := (List.range n).map (fun j : Nat => a + ((j : Int) + 1) * s)
theorem shwN_succ (s a : Int) (n : Nat) : shwN s a (n + 1) = shwN s a n ++ [a + ((n : Int) + 1) * s] := by
  simp [shwN, List.range_succ]
def shwC (r b t s o a : Int) : Nat := if (loc r b t s o a).err = 0 then min o.toNat (t - 1 - (loc r b t s o a).track).toNat else 0
def shw (r b t s o a : Int) : List Int := shwN s a (shwC r b t s o a)
theorem shw_bound {k s : Int} (hk : 0 ≤ k) (hk2 : k ≤ 4) (hs : 1 ≤ s) (hs2 : s ≤ 64) : 0 ≤ k * s ∧ k * s ≤ 256 := by
  have h1 := Int.mul_nonneg hk (show 0 ≤ s by omega)
  have h2 : k * s ≤ 4 * 64 := Int.mul_le_mul hk2 hs2 (by omega) (by omega)
  omega
set_option maxHeartbeats 1000000 in
theorem shadow_any (r b t s o a : Int) (w : World) :
    Calls Tryz.prog 263 #[dggeoV r b t s o, .int .i64 a] w fun e w' => ∃ v, e = .returned v ∧ SliceAt encI w' v (shw r b t s o a) ∧ Below w.heap.size w w' := by
  obtain ⟨i0, hi, hz0, hz1, hz2⟩ := info_parts dginfoI
  by_cases he : (loc r b t s o a).err = 0
  · have HE := Lib.hid he
    have hv : dgvalidB r b t s o = true := by
      rcases h : dgvalidB r b t s o with _ | _
      · rw [loc_no h] at he; exact absurd he (by decide)
      · rfl
    have hin : inB r b t s o a = true := by
      rcases h : inB r b t s o a with _ | _
      · rw [loc_out hv h] at he; exact absurd he (by decide)
      · rfl
    have hb := bounds hv
    have hp := prod_bounds hv
    have hj : r ≤ a ∧ a < r + b * (t * s) := by simpa only [inB, decide_eq_true_eq] using hin
    have hab : 0 ≤ a ∧ a ≤ 100000 := by omega
    have HL := Lib.hid (loc_in hv hin)
    have htr : 0 ≤ (loc r b t s o a).track ∧ (loc r b t s o a).track < t := by
      rw [HL.out]; have hn : 0 ≤ a - r := by omega
      have hd := div_bounds hn (show 1 ≤ s by omega)
      have hd2 := div_bounds hd.1 (show 1 ≤ t by omega)
      exact ⟨hd2.2.2.1, hd2.2.2.2⟩
    have hef : ((loc r b t s o a).err != 0) = false := by rw [HE.out]; rfl
    have HS : Hid (shw r b t s o a = shwN s a (min o.toNat (t - 1 - (loc r b t s o a).track).toNat)) := by
      show _ = _; unfold shw shwC; rw [if_pos HE.out]
    generalize hlo : loc r b t s o a = L at *
    have HLO := Lib.hid hlo
    clear hlo he hv hin hj HL
    go_enter Tryz.func263, Tryz.ntmps263
    go_wp2_with (go_at_call 266; refine (locate_any _ _ _ _ _ _ _).mono ?_; rintro e w1 ⟨rfl, hb1⟩; rw [HLO.out]; have hc1 := below_cells hb1)
    have hz : w.heap.size < w1.heap.size := by have := hb1.size; simp at this; omega
    go_loopw [9, 10] (fun v i wr => ∃ n : Nat, i = .int .i64 ((n : Int) + 1) ∧ (n : Int) ≤ o ∧ L.track + n < t ∧ wr.ownsRow w1.heap.size 3 1 v n ((shwN s a n).map encI) ∧ Below w1.heap.size w1 wr) (fun _ i _ => (t - intOf i).toNat)
    case atStart => exact ⟨0, rfl, by omega, by omega, World.ownsRow_nil _ _ _ _, Below.refl _ _⟩
    case round =>
      obtain ⟨n, rfl, hno, hnt, hown, hx⟩ := hrel
      have hxc := below_cells hx
      have hwb := shw_bound (k := (n : Int) + 1) (s := s) (by omega) (by omega) (by omega) (by omega)
      by_cases hc : (n : Int) + 1 ≤ o ∧ L.track + ((n : Int) + 1) < t
      · obtain ⟨hc1', hc2'⟩ := hc
        go_wp2_with (at_builtin; refine wpList_append_own _ rfl _ _ 40 rfl w1.heap.size 3 i0 (.int .i64 0) 1 8 Tryz.underlying40 hi hz0 hz1 hz2 rfl (by decide) _ _ _ rfl (hown.alloc _) ⟨wr.heap.size, 0, none⟩ 1 1 [.int .i64 (a + ((n : Int) + 1) * s)] rfl rfl ?c1 ?c2 ?c3 ?c4 ?c5 ?_)
        case c1 =>
          intro j u hj
          match j, hj with
          | 0, hj => simp at hj; subst hj; simp [Addr.add]
        case c2 => intro u hu; simp at hu; subst hu; rfl
        case c3 => unfold maxLen; omega
        case c4 => omega
        case c5 => have := hx.size; simp; omega
        intro v' w2 hown' hgrow _
        have hx2 : Below w1.heap.size w1 w2 := (hx.alloc hx.size _).grown hgrow (by have := hx.size; simp; omega) (fun k hk => (hown.lt k hk).1)
        have hown2 : w2.ownsRow w1.heap.size 3 1 v' (n + 1) ((shwN s a (n + 1)).map encI) := by rw [shwN_succ, List.map_append]; exact hown'
        clear hown' hgrow hown hx hxc
        go_wp2
        go_roundw
        case rel => exact ⟨n + 1, by go_num, by omega, by omega, hown2, hx2⟩
        case measure => simp [intOf]; omega
      · have hst : n = min o.toNat (t - 1 - L.track).toNat := by omega
        have HST := Lib.hid hst
        clear hst
        go_wp2
        all_goals go_ret
        all_goals exact ⟨_, rfl, by rw [HS.out, ← HST.out]; exact SliceAt.of_owns hown, ((Ext.alloc _ _).trans hb1).trans hx⟩
  · have hef : ((loc r b t s o a).err != 0) = true := by rw [bne_iff_ne]; exact he
    have HS : Hid (shw r b t s o a = []) := by
      show _ = _; unfold shw shwC; rw [if_neg he]; rfl
    clear he
    generalize hlo : loc r b t s o a = L at *
    have HLO := Lib.hid hlo
    clear hlo
    go_enter Tryz.func263, Tryz.ntmps263
    go_wp2_with (go_at_call 266; refine (locate_any _ _ _ _ _ _ _).mono ?_; rintro e w1 ⟨rfl, hb1⟩; rw [HLO.out]; have hc1 := below_cells hb1)
    go_ret
    exact ⟨_, rfl, HS.out ▸ SliceAt.nil, (Ext.alloc _ _).trans hb1⟩
end Go.Proofs.YtjabgpejmnpamaaGreatDoor

namespace Go.Proofs.YtjabgpejmnpamaaGreatDoor
open Go Go.RowKit
section
variable {F : Fence} {n : Nat} {P : Program}
def SeqE {α : Type} (F : Fence) (n : Nat) (P : Program) (g : Nat) (lb : Array Value) (encs : α → Array Value) (Kp : World → World → Prop) (E : α → World → Prop) (S : List α → Prop) (N : Nat) (w : World) : Prop :=
  ∀ (l : Nat) (J : List α → World → Prop) (W : World), Below w.heap.size w W → w.heap.size + 2 ≤ W.heap.size → OwnFrom W.heap.size J →
    (∀ pre x W1, pre.length < N → J pre W1 → E x W1 → YieldAt F (n - 1) P l (encs x) W1 fun e W' => e = .returned (.bool true) ∧ J (pre ++ [x]) W' ∧ Kp W1 W') →
    J [] W →
    CallsIn F n P g (#[.func (.yield l) #[] #[]] ++ lb) W fun e W' => (∃ v, e = .returned v) ∧ ∃ xs, S xs ∧ J xs W'
theorem wpIn_rangeFunc_ownE {α : Type} {g : Operand} {ps : Array Tmp} {assign body : Code} {Q : Exit → Act → World → Prop} {a : Act} {w : World}
    (hro : F.round = none) (h1 : 1 ≤ n) {gf : Nat} {lb : Array Value} (hg : a.eval g = .func (.func gf) #[] lb) (hFg : F.fn gf) (eg : ∀ args w, (callFunc gf args).run P w = .ok (.enter gf args) w)
    {encs : α → Array Value} {Kp : World → World → Prop} {E : α → World → Prop} {S : List α → Prop} {N : Nat} {w0 : World} (hseq : SeqE F (n - 1) P gf lb encs Kp E S N w0)
    (hKt : ∀ {A B C : World}, Kp A B → Kp B C → Kp A C) (hKb : ∀ (W : World) (o o' : Obj), W.heap[w.heap.size + 1]? = some o → o.isCells = false → Kp W (W.putObj (w.heap.size + 1) o')) (hb0 : Below w0.heap.size w0 w) (hps : ∀ x, (encs x).size = ps.size)
    (hE : ∀ x, OwnFrom w.heap.size (fun (_ : Unit) W => E x W))
    (I : List α → World → Prop) (hI : OwnFrom w.heap.size I) (h0 : I [] w) (a₁ : α → Act)
    (hassign : ∀ (l : Nat) (x : α) (W : World) (K : Act → World → Prop), K (a₁ x) W →
      assign.wpIn (F.inRound l) (n - 1 - 1) P (Exit.then K (fun _ _ _ => False)) { tmps := (ps.zip (encs x)).foldl (fun t (p, v) => t.setIfInBounds p v) a.tmps, defers := [] } W)
    (hbody : ∀ (l : Nat) (pre : List α) (x : α) (W : World), pre.length < N → I pre W → E x W →
      body.wpIn (F.inRound l) (n - 1 - 1) P (fun e _ W' => e = .normal ∧ KeepsFrom w.heap.size W W' ∧ Kp W W' ∧ I (pre ++ [x]) W') (a₁ x) W)
    (hdone : ∀ (D : Nat) (xs : List α) (W : World), w.heap.size ≤ D → S xs → I xs W → W.heap[D]? = some (.deferred (some [])) → Q .normal { a with defers := { target := .collected D, args := #[] } :: a.defers } W) :
    (Code.rangeFunc g ps assign body).wpIn F n P Q a w := by
  refine wpIn_rangeFunc fun fn hfn => ?_
  rw [hro]
  -- the loop's record lies at B + 1, the block for deferred calls at B
  obtain ⟨B, hB⟩ : ∃ B, w.heap.size = B := ⟨_, rfl⟩
  let rec_ : LoopState → Option Code → Loop := fun st pe => { state := st, pending := pe, fn, tmps := a.tmps, params := ps, assign, body, defers := B }
  obtain ⟨W1, hW1⟩ : ∃ W1, (w.alloc (.deferred (some []))).alloc (.loop (rec_ .ready none)) = W1 := ⟨_, rfl⟩
  have hs1 : W1.heap.size = B + 2 := by rw [← hW1, ← hB]; simp
  have hL : W1.heap[B + 1]? = some (.loop (rec_ .ready none)) := by
    have := World.alloc_heap_new (w.alloc (.deferred (some []))) (.loop (rec_ .ready none))
    rwa [World.size_alloc, hB, hW1] at this
  have hD : W1.heap[B]? = some (.deferred (some [])) := by
    rw [← hW1]
    refine (Below.heap_alloc _ _ _ (by simp [hB])).trans ?_
    rw [← hB]
    exact World.alloc_heap_new w _
  have hI1 : I [] W1 := by rw [← hW1]; exact hI.alloc _ (hI.alloc _ h0)
  have hb1 : Below w0.heap.size w0 W1 := by
    rw [← hW1]
    exact hb0.trans ((((Below.refl _ w).alloc (Nat.le_refl _) _).alloc (by simp) _).mono hb0.size)
  refine ⟨B + 1, [{ target := .collected B, args := #[] }], W1, { target := .fn (.func gf) lb, args := #[.func (.yield (B + 1)) #[] #[]] }, W1, gf,
    #[.func (.yield (B + 1)) #[] #[]] ++ lb, W1, ?_, ?_, ?_, ?_, fun _ => h1, ?_⟩
  · rw [← hW1]
    show _ = Result.ok _ ((w.alloc (.deferred (some []))).alloc (.loop { state := .ready, pending := none, fn, tmps := a.tmps, params := ps, assign, body, defers := B }))
    rw [← hB]
    exact run_enterLoop_outer _ _ _ _ _
  · simp only [resolve, hg]
    simp [go_sem]
  · intro f' hf'
    simp [Target.leads] at hf'
    subst hf'
    exact hFg
  · simp [invoke, go_sem, eg]
  -- the caller's invariant with the book-keeping beside it
  have keep : ∀ {X Y : World} {row : Option Nat} {k : Nat} {o : Obj}, k ≤ B + 1 → X.grownBy Y row → (∀ r, row = some r → W1.heap.size ≤ r ∧ ∃ o : Obj, X.heap[r]? = some o ∧ o.isCells = false) → X.heap[k]? = some o → Y.heap[k]? = some o :=
    fun hkB hgr hr hk => (hgr.block _ (Array.getElem?_eq_some_iff.1 hk).1 (fun e => by have := (hr _ e.symm).1; omega)).trans hk
  refine (hseq (B + 1) (fun pre W => I pre W ∧ W.heap[B + 1]? = some (.loop (rec_ .ready none)) ∧ W.heap[B]? = some (.deferred (some []))) W1 hb1 (by have := hb0.size; omega)
    (fun s X Y row hs hgr hr => ⟨hI s X Y row hs.1 hgr (fun r e => by obtain ⟨h1, o, ho, hw⟩ := hr r e; exact ⟨by omega, o, ho, hw⟩), keep (Nat.le_refl _) hgr hr hs.2.1, keep (by omega) hgr hr hs.2.2⟩)
    ?_ ⟨hI1, hL, hD⟩).mono ?_
  · rintro pre x W hlen ⟨hi, hl, hk⟩ he
    have hlt : B + 1 < W.heap.size := (Array.getElem?_eq_some_iff.1 hl).1
    refine ⟨fn, _, assign, body, run_yield (P := P) (args := encs x) hl (hps x), roundIn_of_wpIn hfn (hassign _ x W _ ?_)⟩
    -- the round begins
    obtain ⟨V, hV⟩ : ∃ V, W.putObj (B + 1) (.loop { rec_ .ready none with state := .busy }) = V := ⟨_, rfl⟩
    have hl2 : V.heap[B + 1]? = some (.loop { rec_ .ready none with state := .busy }) := by rw [← hV]; exact World.putObj_heap_same hlt
    have hk2 : V.heap[B]? = some (.deferred (some [])) := by rw [← hV]; exact (World.putObj_heap_other (by omega)).trans hk
    have hkp : Kp W V := by rw [← hV, ← hB]; exact hKb _ _ _ (by rw [hB]; exact hl) rfl
    have hi2 : I pre V := by rw [← hV]; exact hI.putObj _ hi (by omega) hl rfl
    have he2 : E x V := by rw [← hV]; exact (hE x).putObj (s := ()) _ he (by omega) hl rfl
    refine ⟨V, by rw [← hV]; exact run_beginRound hl rfl, ?_⟩
    refine wpIn_mono (hbody _ pre x V hlen hi2 he2) ?_
    rintro e a3 W3 ⟨rfl, hk3, hkp3, hi3⟩
    have hl3 := hk3.same _ _ (by omega) hl2 rfl
    have hd3 := hk3.same _ _ (by omega) hk2 rfl
    refine ⟨_, _, run_endRound (P := P) none hl3, rfl, ⟨?_, ?_, ?_⟩, ?_⟩
    · exact hI.putObj _ hi3 (by omega) hl3 rfl
    · exact World.putObj_heap_same (Array.getElem?_eq_some_iff.1 hl3).1
    · exact (World.putObj_heap_other (by omega)).trans hd3
    · exact hKt hkp (hKt hkp3 (by rw [← hB]; exact hKb _ _ _ (by rw [hB]; exact hl3) rfl))
  · rintro e W2 ⟨⟨v, rfl⟩, xs, hS, hi, hl, hk⟩
    refine ⟨none, _, run_endLoop (P := P) hl (by simp [rec_]), ?_⟩
    exact hdone _ xs _ (by omega) hS (hI.putObj _ hi (by omega) hl rfl) ((World.putObj_heap_other (by omega)).trans hk)
theorem leaves_marks {fn : Func} {tmps : Array Value} {R : Ending → World → Prop} : ∀ (Ds : List Nat) (W : World), (∀ D, D ∈ Ds → W.heap[D]? = some (.deferred (some []))) → Ds.Nodup →
    (∀ W', (∀ (J : World → Prop), (∀ V D o, J V → D ∈ Ds → V.heap[D]? = some (.deferred (some [])) → J (V.putObj D o)) → J W → J W') → LeavesIn F n P fn tmps R [] .returning W') →
    LeavesInM F n P fn tmps R (Ds.map fun D => { target := .collected D, args := #[] }) .returning W
  | [], W, _, _, h => h W (fun _ _ hW => hW)
  | D :: Ds, W, hD, hn, h => by
    rw [List.nodup_cons] at hn
    have h0 := hD D (by simp)
    refine ⟨by simp, .inl ⟨D, _, rfl, run_takeDeferred h0, ?_⟩⟩
    refine leaves_marks Ds _ (fun E hE => ?_) hn.2 (fun W' hW' => h W' (fun J hJ hW => hW' J (fun V E o hV hE hh => hJ V E o hV (by simp [hE]) hh) (hJ W D _ hW (by simp) h0)))
    exact (World.putObj_heap_other (fun e => hn.1 (by rw [← e]; exact hE))).trans (hD E (by simp [hE]))
end
end Go.Proofs.YtjabgpejmnpamaaGreatDoor
