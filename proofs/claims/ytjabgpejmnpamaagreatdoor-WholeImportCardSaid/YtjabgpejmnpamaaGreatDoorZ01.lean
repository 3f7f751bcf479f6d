/-
  Part 1 of the proof: A region that draws its order, walked once, in an order that is given: A slice that reads as a list, in words that stand under new memory. No The plain law of CRC-64: the register as a linear map over the field o Numbers of kind uint64 and uint8 as bit vectors, in the walk's spellin Strings made of byte slices. No program is named here. Rows of bytes: literals, rows that are written. No program is named he The field with 256 elements, plain: product, powers, inverse, rows, as Package gf256, walked: Mul, power, reduce, Exp, Inv. Chapter 9 (codec): the appending functions, in package codec and i
-/
import Derived.OrdersHeld
import Derived.WalkKit
import Derived.KernelRfl
import Derived.Lib.Hide
import Derived.Laws.AppendOwnNone
import Derived.Test.YtjabgpejmnpamaaGreatDoorRows
import Derived.ProofKit
import Derived.WalkSpells
import Derived.WalkLawsBesides
import Derived.SizedLaws
import Derived.OpenShut
import Derived.ArgAppend
import Derived.Maps.AppendAt
import Derived.Deep.OwnRows
set_option linter.unusedVariables false
namespace Go.Proofs.YtjabgpejmnpamaaGreatDoor
theorem setZa {α : Type} {l : List α} {i : Nat} {a : α} : l.toArray.setIfInBounds i a = (l.set i a).toArray := List.setIfInBounds_toArray ..
theorem setZ0 {α : Type} {a b : α} {l : List α} : (a :: l).set 0 b = b :: l := rfl
theorem setZ1 {α : Type} {a b : α} {l : List α} {n : Nat} : (a :: l).set (n + 1) b = a :: l.set n b := rfl
end Go.Proofs.YtjabgpejmnpamaaGreatDoor
namespace Go.Proofs.YtjabgpejmnpamaaGreatDoor
open Go.RowKit
section
variable {P : Program} {ops : Array Oper} {Q : Exit → Act → World → Prop} {md : Region.Mode}
def bef (md : Region.Mode) (ops : Array Oper) : Nat → Nat → Nat → Bool
  | 0, _, _ => false
  | f + 1, k, i => match ops[i]? with
    | some o => o.after.any fun e => Region.binds md e && (e.on == k || bef md ops f k e.on)
    | none => false
def coversB (md : Region.Mode) (ops : Array Oper) (i : Nat) : Bool :=
  (List.range ops.size).all fun k => k == i || bef md ops ops.size k i || bef md ops ops.size i k
def Closed (md : Region.Mode) (ops : Array Oper) (listed : Array Bool) : Prop :=
  ∀ m o, listed.getD m false = true → ops[m]? = some o → ∀ e ∈ o.after, Region.binds md e = true → listed.getD e.on false = true
theorem set_inv {listed : Array Bool} {i k : Nat} (h : (listed.setIfInBounds i true).getD k false = true) : k = i ∨ listed.getD k false = true := by
  by_cases e : k = i
  · exact .inl e
  · exact .inr (by rwa [getD_set_ne false (Ne.symm e)] at h)
theorem set_mono {listed : Array Bool} {i k : Nat} (h : listed.getD k false = true) : (listed.setIfInBounds i true).getD k false = true := by
  by_cases e : i = k
  · subst e
    have hlt : i < listed.size := by
      rcases Nat.lt_or_ge i listed.size with h' | h'
      · exact h'
      · simp [Array.getElem?_eq_none h'] at h
    simp [hlt]
  · rwa [getD_set_ne false e]
theorem Closed.set {md : Region.Mode} {ops : Array Oper} {listed : Array Bool} {i : Nat} (hc : Closed md ops listed) (hi : i ∈ Region.ready md ops listed) : Closed md ops (listed.setIfInBounds i true) := by
  intro m o hm ho e he hb
  refine set_mono ?_
  rcases set_inv hm with rfl | hm
  · obtain ⟨_, o', ho', hall⟩ := mem_ready.1 hi
    rw [ho] at ho'
    obtain rfl := Option.some.inj ho'
    exact hall e he hb
  · exact hc m o hm ho e he hb
theorem Closed.none {md : Region.Mode} {ops : Array Oper} {n : Nat} : Closed md ops (Array.replicate n false) := by
  intro m o hm
  rcases Nat.lt_or_ge m n with h | h
  · simp [h] at hm
  · simp [Array.getElem?_eq_none (show (Array.replicate n false).size ≤ m by simpa using h)] at hm
theorem bef_listed {md : Region.Mode} {ops : Array Oper} {listed : Array Bool} (hc : Closed md ops listed) {k : Nat} :
    ∀ (f i : Nat), (∀ o, ops[i]? = some o → ∀ e ∈ o.after, Region.binds md e = true → listed.getD e.on false = true) → bef md ops f k i = true → listed.getD k false = true
  | 0, _, _, h => by simp [bef] at h
  | f + 1, i, hp, h => by
    simp only [bef] at h
    cases ho : ops[i]? with
    | none => rw [ho] at h; cases h
    | some o =>
      rw [ho] at h
      simp only [Array.any_eq_true] at h
      obtain ⟨n, hn, hb⟩ := h
      rw [Bool.and_eq_true, Bool.or_eq_true, beq_iff_eq] at hb
      have hl := hp o ho _ (Array.getElem_mem hn) hb.1
      rcases hb.2 with h1 | h1
      · rw [h1] at hl; exact hl
      · exact bef_listed hc f _ (fun o' ho' e he hbe => hc _ o' hl ho' e he hbe) h1
theorem ready_preds {md : Region.Mode} {ops : Array Oper} {i : Nat} {listed : Array Bool} (hi : i ∈ Region.ready md ops listed) : ∀ o, ops[i]? = some o → ∀ e ∈ o.after, Region.binds md e = true → listed.getD e.on false = true := by
  intro o ho e he hb
  obtain ⟨_, o', ho', hall⟩ := mem_ready.1 hi
  rw [ho] at ho'
  obtain rfl := Option.some.inj ho'
  exact hall e he hb
theorem ready_not {md : Region.Mode} {ops : Array Oper} {i : Nat} {listed : Array Bool} (hi : i ∈ Region.ready md ops listed) (h1 : listed.getD i false = true) : False := by
  have h0 := (mem_ready.1 hi).1
  rcases Nat.lt_or_ge i listed.size with h' | h'
  · simp [h'] at h0 h1; rw [h0] at h1; cases h1
  · simp [Array.getElem?_eq_none h'] at h1
theorem covers_alone {i j : Nat} {listed : Array Bool} (hcl : Closed md ops listed) (h : coversB md ops j = true) (hj : j ∈ Region.ready md ops listed) (hi : i ∈ Region.ready md ops listed) (hne : i ≠ j) : False := by
  obtain ⟨_, p, hp, _⟩ := mem_ready.1 hi
  have hil : i < ops.size := (Array.getElem?_eq_some_iff.1 hp).1
  unfold coversB at h
  simp only [List.all_eq_true, List.mem_range, Bool.or_eq_true, beq_iff_eq] at h
  rcases h i hil with (h | h) | h
  · exact hne h
  · exact ready_not hi (bef_listed hcl _ _ (ready_preds hj) h)
  · exact ready_not hj (bef_listed hcl _ _ (ready_preds hi) h)
def wpAnyG (P : Program) (md : Region.Mode) (ops : Array Oper) (Q : Exit → Act → World → Prop) : Nat → (World → Prop) → Array Bool → Act → World → Prop
  | 0, _, listed, a, w => Region.ready md ops listed = [] ∧ Q .normal a w
  | fuel + 1, S, listed, a, w =>
    (Region.ready md ops listed = [] → Q .normal a w) ∧
    ∀ i ∈ Region.ready md ops listed, wpOp P ops Q i (fun a' w' => ∃ S' : World → Prop, ((∀ x, S' x → S x) ∨ coversB md ops i = true) ∧ S' w' ∧ wpAnyG P md ops Q fuel S' (listed.setIfInBounds i true) a' w') a w
theorem wpAny_of_G : ∀ (fuel : Nat) (S : World → Prop) (listed : Array Bool) (a : Act) (w : World), wpAnyG P md ops Q fuel S listed a w → wpAny P md ops Q fuel listed a w
  | 0, _, _, _, _, h => h
  | fuel + 1, _, _, _, _, h => ⟨h.1, fun i hi => wpOp_mono (fun a' w' ⟨S', _, _, h'⟩ => wpAny_of_G fuel S' _ a' w' h') (h.2 i hi)⟩
theorem YieldsIf.weaken {S S' : World → Prop} {o : Oper} {v : Value} {a : Act} (h : YieldsIf P ops S o v a) (hs : ∀ x, S' x → S x) : YieldsIf P ops S' o v a :=
  h.imp (fun ⟨hw, hv⟩ => ⟨hw, fun w hw' => hv w (hs w hw')⟩) id
theorem wpAnyG_first {i : Nat} {oi : Oper} {v : Value} (hi : ops[i]? = some oi) (hsel : ∀ (j : Nat) (o : Oper) cs b, ops[j]? = some o → o.op ≠ .select cs b)
    (hQ : ∀ c a w, Q (.panic c) (a.put oi.dst v) w → Q (.panic c) a w) :
    ∀ (fuel : Nat) (S : World → Prop) (listed : Array Bool) (a : Act) (w : World), Closed md ops listed →
      (∀ j oj, ops[j]? = some oj → j ≠ i → listed.getD j true = false → (∀ e ∈ oj.after, Region.binds md e = true → e.on ≠ i) → oi.apart ops oj = true) →
      i ∈ Region.ready md ops listed → YieldsIf P ops S oi v a → S w →
      wpAnyG P md ops Q fuel S (listed.setIfInBounds i true) (a.put oi.dst v) w → wpAnyG P md ops Q (fuel + 1) S listed a w := by
  intro fuel
  induction fuel with
  | zero =>
    intro S listed a w _ _ hr hy hS H
    refine ⟨fun h => (by rw [h] at hr; cases hr), fun j hj => ?_⟩
    by_cases hji : j = i
    · subst hji; exact hy.wpOp hi hS ⟨S, .inl fun _ h => h, hS, H⟩
    · have := ready_mono hj hji
      rw [H.1] at this
      cases this
  | succ fuel ih =>
    intro S listed a w hcl hfree hr hy hS H
    refine ⟨fun h => (by rw [h] at hr; cases hr), fun j hj => ?_⟩
    by_cases hji : j = i
    · subst hji; exact hy.wpOp hi hS ⟨S, .inl fun _ h => h, hS, H⟩
    · have h1 := H.2 j (ready_mono hj hji)
      obtain ⟨hjun, oj, hoj, hall⟩ := mem_ready.1 hj
      have hnot : ∀ e ∈ oj.after, Region.binds md e = true → e.on ≠ i := fun e he hb heq => by
        have h1 := hall e he hb
        have h0 := (mem_ready.1 hr).1
        rw [heq] at h1
        rcases Nat.lt_or_ge i listed.size with h' | h'
        · simp [h'] at h0 h1; rw [h0] at h1; cases h1
        · simp [Array.getElem?_eq_none h'] at h1
      have h2 := wpOp_putIf hoj (hfree j oj hoj hji hjun hnot) (fun cs b => hsel i oi cs b hi) (fun cs b => hsel j oj cs b hoj) hQ hy h1
      have hfree' : ∀ k ok, ops[k]? = some ok → k ≠ i → (listed.setIfInBounds j true).getD k true = false →
          (∀ e ∈ ok.after, Region.binds md e = true → e.on ≠ i) → oi.apart ops ok = true := fun k ok hk hki hun hno => by
        refine hfree k ok hk hki ?_ hno
        by_cases hjk : j = k
        · subst hjk; exact hjun
        · rw [getD_set_ne true hjk] at hun; exact hun
      refine wpOp_mono (fun a' w' h3 => ?_) h2
      obtain ⟨hy', S', hs, hS', h4⟩ := h3
      have hs : ∀ x, S' x → S x := by
        rcases hs with hs | hc
        · exact hs
        · exact (covers_alone hcl hc hj hr (Ne.symm hji)).elim
      refine ⟨S', .inl hs, hS', ih S' (listed.setIfInBounds j true) a' w' (hcl.set hj) hfree' (ready_mono hr (Ne.symm hji)) (YieldsIf.weaken hy' hs) hS' ?_⟩
      rw [Array.setIfInBounds_comm _ _ hji]
      exact h4
def ordB (md : Region.Mode) (ops : Array Oper) : List (Nat × Bool) → Array Bool → Bool
  | [], listed => (Region.ready md ops listed).isEmpty
  | (i, true) :: r, listed => (ops[i]?).isSome && Region.free md ops listed i && (Region.ready md ops listed).contains i && ordB md ops r (listed.setIfInBounds i true)
  | (i, false) :: r, listed => (Region.ready md ops listed == [i]) && ordB md ops r (listed.setIfInBounds i true)
def wpOrd (P : Program) (ops : Array Oper) (Q : Exit → Act → World → Prop) : List (Nat × Bool) → (World → Prop) → Act → World → Prop
  | [], _, a, w => Q .normal a w
  | (i, true) :: r, S, a, w => ∃ v o, ops[i]? = some o ∧ YieldsIf P ops S o v a ∧ wpOrd P ops Q r S (a.put o.dst v) w
  | (i, false) :: r, S, a, w => wpOp P ops Q i (fun a' w' => ∃ S' : World → Prop, ((∀ x, S' x → S x) ∨ coversB .any ops i = true) ∧ S' w' ∧ wpOrd P ops Q r S' a' w') a w
def Calm (Q : Exit → Act → World → Prop) : Exit → Act → World → Prop
  | .normal, a, w => Q .normal a w
  | _, _, _ => False
theorem wpAnyG_of_ord (hs : Region.noSelect ops = true) (hQ : ∀ c a (d : Option Tmp) v w, Q (.panic c) (a.put d v) w → Q (.panic c) a w) : ∀ (ord : List (Nat × Bool)) (S : World → Prop) (listed : Array Bool) (a : Act) (w : World),
    Closed .any ops listed → ordB .any ops ord listed = true → S w → wpOrd P ops Q ord S a w → wpAnyG P .any ops Q ord.length S listed a w
  | [], S, listed, a, w, _, hB, _, h => ⟨by simpa [ordB] using hB, h⟩
  | (i, true) :: r, S, listed, a, w, hcl, hB, hS, h => by
    simp only [ordB, Bool.and_eq_true] at hB
    obtain ⟨⟨⟨_, hf⟩, hr⟩, hB'⟩ := hB
    obtain ⟨v, o, ho, hy, hk⟩ := h
    exact wpAnyG_first ho (Region.noSelect_spec hs) (fun c a w => hQ c a _ v w) r.length S listed a w hcl (Region.free_spec ho hf) (by simpa using hr) hy hS (wpAnyG_of_ord hs hQ r S _ _ _ (hcl.set (by simpa using hr)) hB' hS hk)
  | (i, false) :: r, S, listed, a, w, hcl, hB, hS, h => by
    simp only [ordB, Bool.and_eq_true, beq_iff_eq] at hB
    obtain ⟨hr, hB'⟩ := hB
    refine ⟨(fun h0 => absurd (hr.symm.trans h0) (by simp)), fun j hj => ?_⟩
    rw [hr] at hj
    obtain rfl : j = i := by simpa using hj
    exact wpOp_mono (fun a' w' ⟨S', hs', hS', hk⟩ => ⟨S', hs', hS', wpAnyG_of_ord hs hQ r S' _ _ _ (hcl.set (by rw [hr]; simp)) hB' hS' hk⟩) h
theorem wp_region_ord {id : Nat} {a : Act} {w : World} {l : List Oper} (ord : List (Nat × Bool)) (S : World → Prop) (hm : P.follows .mixedOrders = true)
    (hB : (Region.noSelect l.toArray && ordB .any l.toArray ord (Array.replicate l.length false) && (ord.length == l.length)) = true)
    (hS : S w.drew) (h : wpOrd P l.toArray (Calm Q) ord S a w.drew) : (Code.region id l.toArray true).wp P Q a w := by
  simp only [Bool.and_eq_true, beq_iff_eq] at hB
  obtain ⟨⟨h1, h2⟩, h3⟩ := hB
  refine Code.wp_mono (Q := Calm Q) (fun e a w hq => ?_) (wp_region_any hm ?_)
  · cases e <;> first | exact hq | exact (hq : False).elim
  · have := wpAny_of_G _ _ _ _ _ (wpAnyG_of_ord h1 (fun _ _ _ _ _ h => h) ord S _ a _ Closed.none h2 hS h)
    rw [h3] at this
    simpa using this
variable {i : Nat} {o : Oper} {r : List (Nat × Bool)} {S : World → Prop} {a : Act} {w : World} {v : Value}
theorem ord_take (ho : ops[i]? = some o) (hw : Region.wanted o (yielded ops a.tmps) = true) (h : ∀ w', S w' → (execOp a.eval o).run P w' = .ok (.value v) w')
    (k : wpOrd P ops Q r S (a.put o.dst v) w) : wpOrd P ops Q ((i, true) :: r) S a w := ⟨v, o, ho, .inl ⟨hw, h⟩, k⟩
theorem ord_pass (ho : ops[i]? = some o) (hw : Region.wanted o (yielded ops a.tmps) = false)
    (k : wpOrd P ops Q r S (a.put o.dst undef) w) : wpOrd P ops Q ((i, true) :: r) S a w := ⟨undef, o, ho, .inr ⟨hw, rfl⟩, k⟩
theorem ord_passE (ho : ops[i]? = some o) (hw : Region.wanted o (yielded ops a.tmps) = false) (hS : S w)
    (k : wpOrd P ops Q r S (a.put o.dst undef) w) : wpOrd P ops Q ((i, false) :: r) S a w := by
  show wpOp _ _ _ _ _ _ _
  unfold wpOp; rw [ho]; simp only [hw]
  exact ⟨S, .inl fun _ h => h, hS, k⟩
theorem ord_do (ho : ops[i]? = some o) (hw : Region.wanted o (yielded ops a.tmps) = true)
    (k : ∀ K : Act → World → Prop, (∀ (S' : World → Prop) a' w', ((∀ x, S' x → S x) ∨ coversB .any ops i = true) → S' w' → wpOrd P ops Q r S' a' w' → K a' w') → o.wp P a w K Q) : wpOrd P ops Q ((i, false) :: r) S a w := by
  show wpOp _ _ _ _ _ _ _
  unfold wpOp; rw [ho]; simp only [hw, if_true]
  exact .inl (k _ fun S' _ _ h1 h2 h3 => ⟨S', h1, h2, h3⟩)
end
def nthV : List Value → Nat → Option Value
  | [], _ => none
  | v :: _, 0 => some v
  | _ :: r, i + 1 => nthV r i
theorem nthV_get {l : List Value} {i : Nat} {v : Value} (h : nthV l i = some v) : l[i]? = some v := by
  induction l generalizing i with
  | nil => simp [nthV] at h
  | cons x r ih =>
    cases i with
    | zero => simpa [nthV] using h
    | succ i => simpa [nthV] using ih h
def evalL (a : Act) : Operand → Option Value
  | .tmp t => nthV a.tmps.toList t
  | .const c => some c
  | _ => none
theorem evalL_eq {a : Act} {x : Operand} {v : Value} (h : evalL a x = some v) : a.eval x = v := by
  cases x <;> simp only [evalL] at h
  · have := nthV_get h
    rw [Array.getElem?_toList] at this
    simp only [Act.eval]
    rw [Array.getD_eq_getD_getElem?, this]; rfl
  · exact Option.some.inj h
  all_goals cases h
def Ext (w w' : World) : Prop := Below w.heap.size w w'
theorem Ext.below {w w' : World} (h : Ext w w') : Below w.heap.size w w' := h
theorem Ext.refl (w : World) : Ext w w := Below.refl _ _
theorem Ext.trans {a b c : World} (h : Ext a b) (k : Ext b c) : Ext a c := Below.trans h (Below.mono k (Below.size h))
theorem Ext.alloc (w : World) (o : Obj) : Ext w (w.alloc o) := (Below.refl _ _).alloc (Nat.le_refl _) _
theorem Ext.drew (w : World) : Ext w w.drew := (Below.refl _ _).drew
theorem Ext.cell {w w' : World} (h : Ext w w') (b o : Nat) (hb : b < w.heap.size) : w'.cell? ⟨b, o, none⟩ = w.cell? ⟨b, o, none⟩ := Below.cell (p := ⟨b, o, none⟩) h hb
theorem Ext.frozen {w w' : World} (h : Ext w w') (b o : Nat) (hb : b < w.heap.size) : w'.frozen? ⟨b, o, none⟩ = w.frozen? ⟨b, o, none⟩ := Below.frozen (p := ⟨b, o, none⟩) h hb
theorem Ext.cells {w w' : World} (h : Ext w w') : ∀ b o, b < w.heap.size → w'.cell? ⟨b, o, none⟩ = w.cell? ⟨b, o, none⟩ := h.cell
theorem Ext.frozens {w w' : World} (h : Ext w w') : ∀ b o, b < w.heap.size → w'.frozen? ⟨b, o, none⟩ = w.frozen? ⟨b, o, none⟩ := h.frozen
theorem results_tmp4 {fn : Func} {t u v x : Tmp} (h : fn.results = #[.tmp t, .tmp u, .tmp v, .tmp x]) (tmps : Array Value) (P : Program) (w : World) :
    (results fn tmps).run P w = .ok (.tuple #[tmps.getD t undef, tmps.getD u undef, tmps.getD v undef, tmps.getD x undef]) w := by
  simp [results, h]
theorem i64_id (x : Int) (h : -9223372036854775808 ≤ x ∧ x ≤ 9223372036854775807) : IntKind.i64.wrap x = x := by
  simp only [IntKind.wrap, IntKind.bits, IntKind.signed]; simp; omega
theorem u64_id (x : Int) (h : 0 ≤ x ∧ x ≤ 18446744073709551615) : IntKind.u64.wrap x = x := by
  simp only [IntKind.wrap, IntKind.bits, IntKind.signed]; simp; omega
def nth : List Oper → Nat → Option Oper
  | [], _ => none
  | o :: _, 0 => some o
  | _ :: r, i + 1 => nth r i
theorem nth_get {l : List Oper} {i : Nat} {o : Oper} (h : nth l i = some o) : l.toArray[i]? = some o := by
  rw [List.getElem?_toArray]
  induction l generalizing i with
  | nil => simp [nth] at h
  | cons x r ih =>
    cases i with
    | zero => simpa [nth] using h
    | succ i => simpa [nth] using ih h
section
variable {P : Program} {l : List Oper} {Q : Exit → Act → World → Prop} {i : Nat} {o : Oper} {r : List (Nat × Bool)} {a : Act} {b w : World} {v : Value}
def wpExt (P : Program) (l : List Oper) (Q : Exit → Act → World → Prop) (r : List (Nat × Bool)) (b : World) (a : Act) (w : World) : Prop := wpOrd P l.toArray (Calm Q) r (Ext b) a w
theorem wp_region_ext {id : Nat} (ord : List (Nat × Bool)) (hm : P.follows .mixedOrders = true)
    (hB : (Region.noSelect l.toArray && ordB .any l.toArray ord (Array.replicate l.length false) && (ord.length == l.length)) = true)
    (h : wpExt P l Q ord w a w.drew) : (Code.region id l.toArray true).wp P Q a w := wp_region_ord ord (Ext w) hm hB (Ext.drew _) h
theorem ext_nil (h : Q .normal a w) : wpExt P l Q [] b a w := h
theorem ext_take (ho : nth l i = some o) (hw : Region.wanted o (yielded l.toArray a.tmps) = true) (h : ∀ w', Ext b w' → (execOp a.eval o).run P w' = .ok (.value v) w')
    (k : wpExt P l Q r b (a.put o.dst v) w) : wpExt P l Q ((i, true) :: r) b a w := ord_take (nth_get ho) hw h k
theorem ext_move {x : Operand} (ho : nth l i = some o) (hop : o.op = .move x) (hw : Region.wanted o (yielded l.toArray a.tmps) = true) (hv : evalL a x = some v)
    (k : wpExt P l Q r b (a.put o.dst v) w) : wpExt P l Q ((i, true) :: r) b a w := ord_take (nth_get ho) hw (fun w' _ => by unfold execOp; rw [hop, ← evalL_eq hv]; rfl) k
theorem ext_assign {x : Operand} (ho : nth l i = some o) (hop : o.op = .assign x) (hw : Region.wanted o (yielded l.toArray a.tmps) = true) (hv : evalL a x = some v)
    (k : wpExt P l Q r b (a.put o.dst v) w) : wpExt P l Q ((i, true) :: r) b a w := ord_take (nth_get ho) hw (fun w' _ => by unfold execOp; rw [hop, ← evalL_eq hv]; rfl) k
theorem ext_pick_t {c x y : Operand} (ho : nth l i = some o) (hop : o.op = .pick c x y) (hw : Region.wanted o (yielded l.toArray a.tmps) = true) (hc : evalL a c = some (.bool true)) (hv : evalL a x = some v)
    (k : wpExt P l Q r b (a.put o.dst v) w) : wpExt P l Q ((i, true) :: r) b a w := ord_take (nth_get ho) hw (fun w' _ => by unfold execOp; rw [hop, ← evalL_eq hv]; simp only [evalL_eq hc]; rfl) k
theorem ext_pick_f {c x y : Operand} (ho : nth l i = some o) (hop : o.op = .pick c x y) (hw : Region.wanted o (yielded l.toArray a.tmps) = true) (hc : evalL a c = some (.bool false)) (hv : evalL a y = some v)
    (k : wpExt P l Q r b (a.put o.dst v) w) : wpExt P l Q ((i, true) :: r) b a w := ord_take (nth_get ho) hw (fun w' _ => by unfold execOp; rw [hop, ← evalL_eq hv]; simp only [evalL_eq hc]; rfl) k
theorem ext_pass (ho : nth l i = some o) (hw : Region.wanted o (yielded l.toArray a.tmps) = false)
    (k : wpExt P l Q r b (a.put o.dst undef) w) : wpExt P l Q ((i, true) :: r) b a w := ord_pass (nth_get ho) hw k
theorem ext_do (ho : nth l i = some o) (hw : Region.wanted o (yielded l.toArray a.tmps) = true)
    (k : ∀ K : Act → World → Prop, (∀ a' w', Ext b w' → wpExt P l Q r w' a' w' → K a' w') → o.wp P a w K (Calm Q)) : wpExt P l Q ((i, false) :: r) b a w :=
  ord_do (nth_get ho) hw fun K hK => k K fun a' w' h1 h2 => hK (Ext w') a' w' (.inl fun _ hx => h1.trans hx) (Ext.refl _) h2
theorem ext_last (ho : nth l i = some o) (hw : Region.wanted o (yielded l.toArray a.tmps) = true) (hc : coversB .any l.toArray i = true)
    (k : ∀ K : Act → World → Prop, (∀ a' w', Q .normal a' w' → K a' w') → o.wp P a w K (Calm Q)) : wpExt P l Q [(i, false)] b a w :=
  ord_do (nth_get ho) hw fun K hK => k K fun a' w' h2 => hK (fun _ => True) a' w' (.inr hc) trivial h2
theorem ext_store (ho : nth l i = some o) (hw : Region.wanted o (yielded l.toArray a.tmps) = true) (hc : coversB .any l.toArray i = true)
    (k : ∀ K : Act → World → Prop, (∀ a' w', wpExt P l Q r w' a' w' → K a' w') → o.wp P a w K (Calm Q)) : wpExt P l Q ((i, false) :: r) b a w :=
  ord_do (nth_get ho) hw fun K hK => k K fun a' w' h2 => hK (Ext w') a' w' (.inr hc) (Ext.refl _) h2
end
section
variable {P : Program} {l : List Oper} {Q : Exit → Act → World → Prop} {i : Nat} {o : Oper} {r : List (Nat × Bool)} {a : Act} {w : World} {v : Value}
end
theorem below_cellsB {B : Nat} {w w' : World} (h : Below B w w') : ∀ b o, b < B → w'.cell? ⟨b, o, none⟩ = w.cell? ⟨b, o, none⟩ := fun b o hb => h.cell (p := ⟨b, o, none⟩) hb
section
variable {P : Program} {l : List Oper} {Q : Exit → Act → World → Prop} {i : Nat} {o : Oper} {r : List (Nat × Bool)} {B : Nat} {b : World} {a : Act} {w : World} {v : Value}
def wpBel (P : Program) (l : List Oper) (Q : Exit → Act → World → Prop) (r : List (Nat × Bool)) (B : Nat) (b : World) (a : Act) (w : World) : Prop := wpOrd P l.toArray (Calm Q) r (Below B b) a w
theorem wp_region_bel {id : Nat} (B : Nat) (b : World) (hb : Below B b w) (ord : List (Nat × Bool)) (hm : P.follows .mixedOrders = true)
    (hB : (Region.noSelect l.toArray && ordB .any l.toArray ord (Array.replicate l.length false) && (ord.length == l.length)) = true)
    (h : wpBel P l Q ord B b a w.drew) : (Code.region id l.toArray true).wp P Q a w := wp_region_ord ord (Below B b) hm hB hb.drew h
theorem bel_take (ho : nth l i = some o) (hw : Region.wanted o (yielded l.toArray a.tmps) = true) (h : ∀ w', Below B b w' → (execOp a.eval o).run P w' = .ok (.value v) w')
    (k : wpBel P l Q r B b (a.put o.dst v) w) : wpBel P l Q ((i, true) :: r) B b a w := ord_take (nth_get ho) hw h k
theorem bel_move {x : Operand} (ho : nth l i = some o) (hop : o.op = .move x) (hw : Region.wanted o (yielded l.toArray a.tmps) = true) (hv : evalL a x = some v)
    (k : wpBel P l Q r B b (a.put o.dst v) w) : wpBel P l Q ((i, true) :: r) B b a w := ord_take (nth_get ho) hw (fun w' _ => by unfold execOp; rw [hop, ← evalL_eq hv]; rfl) k
theorem bel_pass (ho : nth l i = some o) (hw : Region.wanted o (yielded l.toArray a.tmps) = false)
    (k : wpBel P l Q r B b (a.put o.dst undef) w) : wpBel P l Q ((i, true) :: r) B b a w := ord_pass (nth_get ho) hw k
theorem bel_do (ho : nth l i = some o) (hw : Region.wanted o (yielded l.toArray a.tmps) = true)
    (k : ∀ K : Act → World → Prop, (∀ a' w', Below B b w' → wpBel P l Q r B b a' w' → K a' w') → o.wp P a w K (Calm Q)) : wpBel P l Q ((i, false) :: r) B b a w :=
  ord_do (nth_get ho) hw fun K hK => k K fun a' w' h1 h => hK (Below B b) a' w' (.inl fun _ h => h) h1 h
end
section
variable {P : Program} {l : List Oper} {Q : Exit → Act → World → Prop} {i : Nat} {o : Oper} {r : List (Nat × Bool)} {S : World → Prop} {a : Act} {w : World} {v : Value}
def wpFix (P : Program) (l : List Oper) (Q : Exit → Act → World → Prop) (r : List (Nat × Bool)) (S : World → Prop) (a : Act) (w : World) : Prop := wpOrd P l.toArray (Calm Q) r S a w
theorem wp_region_fix {id : Nat} (S : World → Prop) (ord : List (Nat × Bool)) (hm : P.follows .mixedOrders = true)
    (hB : (Region.noSelect l.toArray && ordB .any l.toArray ord (Array.replicate l.length false) && (ord.length == l.length)) = true)
    (hS : S w.drew) (h : wpFix P l Q ord S a w.drew) : (Code.region id l.toArray true).wp P Q a w := wp_region_ord ord S hm hB hS h
theorem fix_nil (h : Q .normal a w) : wpFix P l Q [] S a w := h
theorem fix_take (ho : nth l i = some o) (hw : Region.wanted o (yielded l.toArray a.tmps) = true) (h : ∀ w', S w' → (execOp a.eval o).run P w' = .ok (.value v) w')
    (k : wpFix P l Q r S (a.put o.dst v) w) : wpFix P l Q ((i, true) :: r) S a w := ord_take (nth_get ho) hw h k
theorem fix_move {x : Operand} (ho : nth l i = some o) (hop : o.op = .move x) (hw : Region.wanted o (yielded l.toArray a.tmps) = true) (hv : evalL a x = some v)
    (k : wpFix P l Q r S (a.put o.dst v) w) : wpFix P l Q ((i, true) :: r) S a w := ord_take (nth_get ho) hw (fun w' _ => by unfold execOp; rw [hop, ← evalL_eq hv]; rfl) k
theorem fix_pass (ho : nth l i = some o) (hw : Region.wanted o (yielded l.toArray a.tmps) = false)
    (k : wpFix P l Q r S (a.put o.dst undef) w) : wpFix P l Q ((i, true) :: r) S a w := ord_pass (nth_get ho) hw k
theorem fix_do (ho : nth l i = some o) (hw : Region.wanted o (yielded l.toArray a.tmps) = true)
    (k : ∀ K : Act → World → Prop, (∀ a' w', S w' → wpFix P l Q r S a' w' → K a' w') → o.wp P a w K (Calm Q)) : wpFix P l Q ((i, false) :: r) S a w :=
  ord_do (nth_get ho) hw fun K hK => k K fun a' w' h1 h => hK S a' w' (.inl fun _ h => h) h1 h
end
end Go.Proofs.YtjabgpejmnpamaaGreatDoor

namespace Go.Proofs.YtjabgpejmnpamaaGreatDoor
open Go.RowKit
theorem ret_bool {a b : Bool} (h : a = b) : Ending.returned (.bool a) = .returned (.bool b) := by rw [h]
theorem ret_iff {a b : Bool} (h : a = true ↔ b = true) : Ending.returned (.bool a) = .returned (.bool b) := by rw [Bool.eq_iff_iff.2 h]
theorem ret_int {k : IntKind} {a b : Int} (h : a = b) : Ending.returned (.int k a) = .returned (.int k b) := by rw [h]
def SliceAt {α : Type} (enc : α → Value) (w : World) (v : Value) (l : List α) : Prop :=
  ∃ ad cap, v = .slice ad l.length cap ∧ l.length ≤ cap ∧ (l = [] ∧ (ad = none → cap = 0) ∨ ∃ b off, ad = some ⟨b, off, none⟩ ∧ b < w.heap.size ∧ ∀ i (h : i < l.length), w.cell? ⟨b, off + i, none⟩ = some (enc l[i]))
theorem SliceAt.ext {α : Type} {enc : α → Value} {w w' : World} {v : Value} {l : List α} (h : SliceAt enc w v l) (e : Ext w w') : SliceAt enc w' v l := by
  obtain ⟨ad, cap, hv, hca, h⟩ := h
  refine ⟨ad, cap, hv, hca, h.imp id ?_⟩
  rintro ⟨b, off, ha, hb, hc⟩
  exact ⟨b, off, ha, Nat.lt_of_lt_of_le hb e.below.size, fun i hi => (e.cell b _ hb).trans (hc i hi)⟩
theorem SliceAt.take {α : Type} {enc : α → Value} {w : World} {ad : Option Addr} {m cap : Nat} {l : List α} (h : SliceAt enc w (.slice ad m cap) l) (n : Nat) (hn : n ≤ m) : SliceAt enc w (.slice ad n cap) (l.take n) := by
  obtain ⟨ad', cap', hv, hca, h⟩ := h
  cases hv
  have hl : (l.take n).length = n := by rw [List.length_take]; omega
  refine ⟨ad, cap, by rw [hl], by omega, ?_⟩
  rcases h with ⟨h1, h2⟩ | ⟨b, off, h1, h2, h3⟩
  · left; exact ⟨by rw [h1]; simp, h2⟩
  · right
    refine ⟨b, off, h1, h2, fun i hi => ?_⟩
    rw [hl] at hi
    rw [h3 i (by omega), List.getElem_take]
theorem SliceAt.nil {α : Type} {enc : α → Value} {w : World} : SliceAt enc w (.slice none 0 0) ([] : List α) := ⟨none, 0, rfl, Nat.le_refl _, .inl ⟨rfl, fun _ => rfl⟩⟩
theorem SliceAt.of_owns {α : Type} {enc : α → Value} {w : World} {v : Value} {l : List α} {base n : Nat} {e : TypeId}
    (h : w.ownsRow base e 1 v n (l.map enc)) : SliceAt enc w v l := by
  obtain ⟨hl, h⟩ := h
  have hn : n = l.length := by simpa using hl.symm
  subst hn
  rcases h with ⟨rfl, hz⟩ | ⟨g, cap, cur, rfl, hb, hh, hc, hm, hs, ht⟩
  · have : l = [] := List.eq_nil_of_length_eq_zero hz
    subst this; exact SliceAt.nil
  · refine ⟨_, cap, rfl, hc, .inr ⟨g, 0, rfl, ?_, fun i hi => ?_⟩⟩
    · exact (Array.getElem?_eq_some_iff.1 hh).1
    · have := World.ownsRow.cellAt (w := w) (base := base) (e := e) (size := 1) (g := g) (n := l.length) (cap := cap) (xs := l.map enc) ⟨by simp, .inr ⟨g, cap, cur, rfl, hb, hh, hc, hm, hs, ht⟩⟩ i (by omega)
      rw [Nat.zero_add, this]; simp [hi]
theorem add_plain (b off j : Nat) : (⟨b, off, none⟩ : Addr).add j = ⟨b, off + j, none⟩ := by
  by_cases h : j = 0
  · subst h; simp [Addr.add]
  · simp [Addr.add, h]
theorem wpList_append_slice {P : Program} {w : World} {α : Type} {enc : α → Value} (henc : ∀ x, (enc x).oneCell' = true) {ops : Array Oper} {rest : List Oper} {o : Oper} {a : Act} {Q : Exit → Act → World → Prop} (hgd : o.guard = none) (s x : Operand) (t : TypeId)
    (ho : o.op = .call { callee := .builtin .append, args := #[s, x], argTypes := #[t, t] })
    (base : Nat) (e : TypeId) (i : TypeInfo) (z : Value) (bytes : Nat) (ht : P.underlying t = some (.slice e)) (hi : P.info? e = some i) (hz : i.zero = some z)
    (hsize : i.size = 1) (hby : i.bytes = bytes) (hzs : z.cells.size = 1)
    (v : Value) (n : Nat) (xs : List Value) (hs : a.eval s = v) (hown : w.ownsRow base e 1 v n xs) (vx : Value) (l : List α) (hx : a.eval x = vx) (hsrc : SliceAt enc w vx l)
    (h63 : n + l.length ≤ maxLen) (hbytes : (n + l.length) * bytes ≤ 140737488355328) (hbase : base ≤ w.heap.size)
    (h : ∀ v' w', w'.ownsRow base e 1 v' (n + l.length) (xs ++ l.map enc) → w.grownBy w' v.ownBlock → wpList P ops Q rest (a.put o.dst v') w') : wpList P ops Q (o :: rest) a w := by
  obtain ⟨ad, cap, rfl, _, hsrc⟩ := hsrc
  cases ad with
  | none =>
    rcases hsrc with ⟨rfl, hc⟩ | ⟨b, off, hn, _⟩
    · rw [hc rfl] at hx
      refine wpList_append_own_none hgd s x t ho base e i 1 ht hi v n xs hs hown (by simpa using hx) ?_
      exact h v w (by simpa using hown) ⟨rfl, rfl, rfl, Nat.le_refl _, fun _ _ _ => rfl⟩
    · cases hn
  | some ad =>
    refine wpList_append_own w hgd s x t ho base e i z 1 bytes ht hi hz hsize hby hzs (by decide) v n xs hs hown ad l.length cap (l.map enc) hx (by simp) ?_ ?_ h63 hbytes hbase (fun v' w' h1 h2 _ => h v' w' h1 h2)
    · intro j u hj
      rcases hsrc with ⟨rfl, _⟩ | ⟨b, off, hb, _, hc⟩
      · simp at hj
      · cases hb
        have hjl : j < l.length := by
          rcases Nat.lt_or_ge j l.length with h' | h'
          · exact h'
          · rw [List.getElem?_eq_none (by simpa using h')] at hj; cases hj
        have : u = enc l[j] := by simpa [hjl] using hj.symm
        rw [this, add_plain]; exact hc j hjl
    · intro u hu
      obtain ⟨y, _, rfl⟩ := List.mem_map.1 hu
      exact henc y
theorem set_same {w : World} {b o : Nat} {u v : Value} (h : w.cell? ⟨b, o, none⟩ = some u) : (w.setCell ⟨b, o, none⟩ v).cell? ⟨b, o, none⟩ = some v := by
  apply World.cell?_setCell_same; exact h
theorem set_off {w : World} {b o o' : Nat} {v : Value} (h : o ≠ o') : (w.setCell ⟨b, o, none⟩ v).cell? ⟨b, o', none⟩ = w.cell? ⟨b, o', none⟩ := by
  apply World.cell?_setCell_other; intro e; cases e; exact h rfl
theorem set_block {w : World} {b b' o o' : Nat} {v : Value} (h : b ≠ b') : (w.setCell ⟨b, o, none⟩ v).cell? ⟨b', o', none⟩ = w.cell? ⟨b', o', none⟩ := by
  apply World.cell?_setCell_other; intro e; cases e; exact h rfl
abbrev encI (n : Int) : Value := .int .i64 n
end Go.Proofs.YtjabgpejmnpamaaGreatDoor

namespace Go.Proofs.YtjabgpejmnpamaaGreatDoor.Crc
abbrev R := BitVec 64
def poly : R := 0xc96c5795d7870f42#64
def step (x : R) : R := if x &&& 1#64 = 1#64 then (x >>> 1) ^^^ poly else x >>> 1
def stepN : Nat → R → R
  | 0, x => x
  | n + 1, x => stepN n (step x)
def reg (c : BitVec 8) : R := c.setWidth 64
def foldB : R → List (BitVec 8) → R
  | x, [] => x
  | x, c :: r => foldB (stepN 8 (x ^^^ reg c)) r
def update (s : R) (b : List (BitVec 8)) : R := ~~~ (foldB (~~~ s) b)
def sum (b : List (BitVec 8)) : R := update 0#64 b
theorem not_eq_xor (x : R) : ~~~ x = x ^^^ (~~~ 0#64) := by
  ext i hi
  rw [BitVec.getElem_xor, BitVec.getElem_not, BitVec.getElem_not]; simp
end Go.Proofs.YtjabgpejmnpamaaGreatDoor.Crc

namespace Go.Proofs.YtjabgpejmnpamaaGreatDoor
open Go.RowKit
def un (x : BitVec 64) : Int := (x.toNat : Int)
def ub (x : BitVec 8) : Int := (x.toNat : Int)
theorem un_bound (x : BitVec 64) : 0 ≤ un x ∧ un x ≤ 18446744073709551615 := by
  unfold un; have := x.isLt; omega
theorem ub_bound (x : BitVec 8) : 0 ≤ ub x ∧ ub x ≤ 255 := by
  unfold ub; have := x.isLt; omega
theorem un_inj {x y : BitVec 64} (h : un x = un y) : x = y := by
  unfold un at h; exact BitVec.eq_of_toNat_eq (by omega)
theorem ub_inj {x y : BitVec 8} (h : ub x = ub y) : x = y := by
  unfold ub at h; exact BitVec.eq_of_toNat_eq (by omega)
theorem un_ofInt (n : Int) (h : 0 ≤ n ∧ n ≤ 18446744073709551615) : un (BitVec.ofInt 64 n) = n := by
  unfold un; rw [BitVec.toNat_ofInt]; simp; omega
theorem ub_ofInt (n : Int) (h : 0 ≤ n ∧ n ≤ 255) : ub (BitVec.ofInt 8 n) = n := by
  unfold ub; rw [BitVec.toNat_ofInt]; simp; omega
theorem ofInt_un (x : BitVec 64) : BitVec.ofInt 64 (un x) = x := by unfold un; simp
theorem wrap_un (x : BitVec 64) : IntKind.u64.wrap (un x) = un x := by
  have := un_bound x
  simp only [IntKind.wrap, IntKind.bits, IntKind.signed]; simp; omega
theorem xor_un (x y : BitVec 64) : bits .xor .u64 (un x) (un y) = un (x ^^^ y) := by
  show IntKind.u64.wrap ((BitVec.ofInt 64 (un x) ^^^ BitVec.ofInt 64 (un y)).toNat : Int) = _
  rw [ofInt_un, ofInt_un]; exact wrap_un _
theorem and_un (x y : BitVec 64) : bits .and .u64 (un x) (un y) = un (x &&& y) := by
  show IntKind.u64.wrap ((BitVec.ofInt 64 (un x) &&& BitVec.ofInt 64 (un y)).toNat : Int) = _
  rw [ofInt_un, ofInt_un]; exact wrap_un _
theorem or_un (x y : BitVec 64) : bits .or .u64 (un x) (un y) = un (x ||| y) := by
  show IntKind.u64.wrap ((BitVec.ofInt 64 (un x) ||| BitVec.ofInt 64 (un y)).toNat : Int) = _
  rw [ofInt_un, ofInt_un]; exact wrap_un _
theorem not_un (x : BitVec 64) : bits .xor .u64 IntKind.u64.max (un x) = un (~~~x) := by
  have h : IntKind.u64.max = un (~~~0#64) := by decide
  rw [h, xor_un, BitVec.xor_comm, ← Crc.not_eq_xor]
theorem unsigned64 : IntKind.u64.signed = false := rfl
theorem unsigned8 : IntKind.u8.signed = false := rfl
theorem and_one_un (x : BitVec 64) : bits .and .u64 (un x) 1 = un (x &&& 1#64) := and_un x 1#64
theorem xor_poly_un (x : BitVec 64) : bits .xor .u64 (un x) 14514072000185962306 = un (x ^^^ Crc.poly) := by
  rw [← xor_un]; rfl
theorem shr_un (x : BitVec 64) (k : Nat) : un x / (2 : Int) ^ k = un (x >>> k) := by
  unfold un; rw [BitVec.toNat_ushiftRight, Nat.shiftRight_eq_div_pow]; simp
theorem half_un (x : BitVec 64) : un x / (2 : Int) = un (x >>> 1) := shr_un x 1
theorem eq_one_un (x : BitVec 64) : (un x == 1) = decide (x = 1#64) := by
  rw [Bool.eq_iff_iff]; simp only [beq_iff_eq, decide_eq_true_eq]
  exact ⟨fun h => un_inj h, fun h => by rw [h]; rfl⟩
theorem eq_un (x y : BitVec 64) : (un x == un y) = decide (x = y) := by
  rw [Bool.eq_iff_iff]; simp only [beq_iff_eq, decide_eq_true_eq]
  exact ⟨fun h => un_inj h, fun h => by rw [h]⟩
theorem reg_ub (c : BitVec 8) : un (Crc.reg c) = ub c := by
  unfold un ub Crc.reg; rw [BitVec.toNat_setWidth, Nat.mod_eq_of_lt (by have := c.isLt; omega)]
theorem ofInt_ub (x : BitVec 8) : BitVec.ofInt 64 (ub x) = x.setWidth 64 := by
  apply BitVec.eq_of_toNat_eq
  unfold ub
  have := x.isLt
  rw [BitVec.ofInt_natCast, BitVec.toNat_ofNat, BitVec.toNat_setWidth]
theorem wrap8_ub (x : BitVec 8) : IntKind.u8.wrap (ub x) = ub x := by
  have := ub_bound x
  simp only [IntKind.wrap, IntKind.bits, IntKind.signed]; simp; omega
theorem ofInt8_ub (x : BitVec 8) : BitVec.ofInt 8 (ub x) = x := by unfold ub; simp
theorem xor_ub (x y : BitVec 8) : bits .xor .u8 (ub x) (ub y) = ub (x ^^^ y) := by
  show IntKind.u8.wrap ((BitVec.ofInt 8 (ub x) ^^^ BitVec.ofInt 8 (ub y)).toNat : Int) = _
  rw [ofInt8_ub, ofInt8_ub]; exact wrap8_ub _
theorem wrap_ub (c : BitVec 8) : IntKind.u64.wrap (ub c) = un (Crc.reg c) := by rw [← reg_ub]; exact wrap_un _
abbrev encU (x : BitVec 64) : Value := .int .u64 (un x)
abbrev encB (c : BitVec 8) : Value := .int .u8 (ub c)
end Go.Proofs.YtjabgpejmnpamaaGreatDoor

namespace Go.Proofs.YtjabgpejmnpamaaGreatDoor
open Go.RowKit
def strB (l : List (BitVec 8)) : ByteArray := ⟨(l.map fun c => UInt8.ofBitVec c).toArray⟩
theorem strB_inj {a b : List (BitVec 8)} (h : strB a = strB b) : a = b := by
  have h1 : a.map (fun c => UInt8.ofBitVec c) = b.map fun c => UInt8.ofBitVec c := by
    have := congrArg (fun s : ByteArray => s.data.toList) h
    simpa [strB] using this
  exact List.map_inj_right (fun x y e => by simpa using e) |>.1 h1
theorem loop_data (s : ByteArray) (n i : Nat) (r : List UInt8) (hn : s.size - i = n) : ByteArray.toList.loop s i r = r.reverse ++ s.data.toList.drop i := by
  induction n generalizing i r with
  | zero =>
    rw [ByteArray.toList.loop, if_neg (by omega), List.drop_eq_nil_of_le (by simp; show s.size ≤ i; omega)]; simp
  | succ n ih =>
    rw [ByteArray.toList.loop, if_pos (by omega), ih _ _ (by omega)]
    have hi : i < s.data.toList.length := by simp; show i < s.size; omega
    rw [List.drop_eq_getElem_cons hi]
    have : s.get! i = s.data.toList[i] := by
      simp [ByteArray.get!]
      exact getElem!_pos s.data i (by simpa using hi)
    rw [this]; simp
theorem toList_data (s : ByteArray) : s.toList = s.data.toList := by
  unfold ByteArray.toList; rw [loop_data s _ 0 [] rfl]; simp
theorem eq_strB (a b : List (BitVec 8)) : ((strB a).toList == (strB b).toList) = decide (a = b) := by
  rw [Bool.eq_iff_iff]; simp only [beq_iff_eq, decide_eq_true_eq]
  refine ⟨fun h => strB_inj ?_, fun h => by rw [h]⟩
  rw [toList_data, toList_data] at h
  cases ha : strB a; cases hb : strB b
  rw [ha, hb] at h
  congr 1
  exact Array.toList_inj.1 h
end Go.Proofs.YtjabgpejmnpamaaGreatDoor

namespace Go.Proofs.YtjabgpejmnpamaaGreatDoor
open Go.RowKit
theorem Ext.size {w w' : World} (h : Ext w w') : w.heap.size ≤ w'.heap.size := h.below.size
theorem Ext.setOwn {w w1 : World} {b o : Nat} {v : Value} (h : Ext w w1) (hb : w.heap.size ≤ b) : Ext w (w1.setCell ⟨b, o, none⟩ v) := Below.setCell h hb _
theorem below_of_ext {w w' : World} (h : Ext w w') : Below w.heap.size w w' := h
theorem cell_alloc_any (w : World) (cs : Array Value) (t : TypeId) (fr : Nat × Nat) (i : Nat) : (w.alloc (.cells cs t fr)).cell? ⟨w.heap.size, i, none⟩ = cs[i]? := by
  have h : (w.alloc (.cells cs t fr)).heap[w.heap.size]? = some (.cells cs t fr) := by
    show (w.heap.push (.cells cs t fr))[w.heap.size]? = _
    simp
  unfold World.cell?
  simp only [h, Option.isSome_none, Bool.false_eq_true, if_false]
theorem SliceAt.lit {α : Type} {enc : α → Value} (w : World) (l : List α) (t : TypeId) (fr : Nat × Nat) (cs : Array Value) (h : cs = (l.map enc).toArray) : SliceAt enc (w.alloc (.cells cs t fr)) (.slice (some ⟨w.heap.size, 0, none⟩) l.length l.length) l := by
  subst h
  refine ⟨_, l.length, rfl, Nat.le_refl _, .inr ⟨_, 0, rfl, by simp, fun i hi => ?_⟩⟩
  rw [Nat.zero_add, cell_alloc_any]
  simp [hi]
theorem wrap8_un (y : BitVec 64) : IntKind.u8.wrap (un y) = ub (y.setWidth 8) := by
  unfold un ub
  simp only [IntKind.wrap, IntKind.bits, IntKind.signed]
  simp [BitVec.toNat_setWidth]
theorem wrap8_nat (n : Nat) : IntKind.u8.wrap (n : Int) = ub (BitVec.ofNat 8 n) := by
  unfold ub
  simp only [IntKind.wrap, IntKind.bits, IntKind.signed]
  simp
theorem or_ub (x y : BitVec 8) : bits .or .u8 (ub x) (ub y) = ub (x ||| y) := by
  show IntKind.u8.wrap ((BitVec.ofInt 8 (ub x) ||| BitVec.ofInt 8 (ub y)).toNat : Int) = _
  rw [ofInt8_ub, ofInt8_ub]; exact wrap8_ub _
theorem or_high (x : BitVec 8) : bits .or .u8 (ub x) 128 = ub (x ||| 128#8) := or_ub x 128#8
def uv (n : Nat) : List (BitVec 8) := if n < 128 then [BitVec.ofNat 8 n] else (BitVec.ofNat 8 n ||| 128#8) :: uv (n / 128)
termination_by n
theorem uv_low {n : Nat} (h : n < 128) : uv n = [BitVec.ofNat 8 n] := by rw [uv, if_pos h]
theorem uv_high {n : Nat} (h : ¬ n < 128) : uv n = (BitVec.ofNat 8 n ||| 128#8) :: uv (n / 128) := by rw [uv, if_neg h]
theorem uv_length (k n : Nat) (hk : 1 ≤ k) (h : n < 128 ^ k) : 1 ≤ (uv n).length ∧ (uv n).length ≤ k := by
  induction k generalizing n with
  | zero => omega
  | succ k ih =>
    by_cases hn : n < 128
    · rw [uv_low hn]; simp
    · rw [uv_high hn, List.length_cons]
      have hk1 : 1 ≤ k := by
        rcases Nat.eq_zero_or_pos k with h0 | h0
        · subst h0; simp at h; omega
        · exact h0
      have := ih (n / 128) hk1 (by rw [Nat.pow_succ] at h; exact Nat.div_lt_of_lt_mul (by rw [Nat.mul_comm]; exact h))
      omega
theorem uv_len (n : Nat) (h : n < 18446744073709551616) : 1 ≤ (uv n).length ∧ (uv n).length ≤ 10 :=
  uv_length 10 n (by decide) (Nat.lt_of_lt_of_le h (by decide))
theorem low_ne_high {m n : Nat} (hm : m < 128) : BitVec.ofNat 8 m ≠ (BitVec.ofNat 8 n ||| 128#8) := by
  intro e
  have := congrArg (fun b : BitVec 8 => b.getLsbD 7) e
  simp only [BitVec.getLsbD_or] at this
  have h1 : (BitVec.ofNat 8 m).getLsbD 7 = false := by
    rw [BitVec.getLsbD_ofNat]; simp; exact Nat.testBit_lt_two_pow (by omega)
  have h2 : (128#8).getLsbD 7 = true := by decide
  rw [h1, h2] at this
  simp at this
theorem high_inj {m n : Nat} (e : (BitVec.ofNat 8 m ||| 128#8) = (BitVec.ofNat 8 n ||| 128#8)) : m % 128 = n % 128 := by
  apply Nat.eq_of_testBit_eq
  intro i
  by_cases hi : i < 7
  · have h := congrArg (fun b : BitVec 8 => b.getLsbD i) e
    have h0 : (128#8).getLsbD i = false := by
      have : i = 0 ∨ i = 1 ∨ i = 2 ∨ i = 3 ∨ i = 4 ∨ i = 5 ∨ i = 6 := by omega
      rcases this with rfl | rfl | rfl | rfl | rfl | rfl | rfl <;> decide
    simp only [BitVec.getLsbD_or, h0, Bool.or_false, BitVec.getLsbD_ofNat] at h
    rw [show (128 : Nat) = 2 ^ 7 by decide, Nat.testBit_mod_two_pow, Nat.testBit_mod_two_pow]
    simpa [hi, show i < 8 by omega] using h
  · rw [show (128 : Nat) = 2 ^ 7 by decide, Nat.testBit_mod_two_pow, Nat.testBit_mod_two_pow]; simp [hi]
theorem uv_prefix {m n : Nat} {x y : List (BitVec 8)} (h : uv m ++ x = uv n ++ y) : m = n ∧ x = y := by
  induction m using Nat.strongRecOn generalizing n with
  | _ m ih =>
    by_cases hm : m < 128 <;> by_cases hn : n < 128
    · rw [uv_low hm, uv_low hn] at h
      injection h with h1 h2
      have := congrArg BitVec.toNat h1
      rw [BitVec.toNat_ofNat, BitVec.toNat_ofNat] at this
      exact ⟨by omega, h2⟩
    · rw [uv_low hm, uv_high hn] at h
      injection h with h1 h2
      exact absurd h1 (low_ne_high hm)
    · rw [uv_high hm, uv_low hn] at h
      injection h with h1 h2
      exact absurd h1.symm (low_ne_high hn)
    · rw [uv_high hm, uv_high hn] at h
      injection h with h1 h2
      obtain ⟨h3, h4⟩ := ih (m / 128) (by omega) h2
      have := high_inj h1
      exact ⟨by omega, h4⟩
theorem wp_calm {P : Program} {o : Oper} {a : Act} {w : World} {K : Act → World → Prop} {Q Q' : Exit → Act → World → Prop} (hq : ∀ e a w, e ≠ .normal → Q e a w → Q' e a w)
    (hh : o.wp P a w K Q) : o.wp P a w K Q' := by
  unfold Oper.wp at *
  generalize (execOp a.eval o).run P w = r at *
  cases r with
  | ok n w' =>
    cases n <;> simp only [Oper.upon] at hh ⊢ <;>
      first
        | exact hh
        | exact Calls.mono hh (fun e w'' he => by
            cases e <;> first | exact he | exact hq _ _ _ (by simp) he | (obtain ⟨a1, w1, h1⟩ := he; exact ⟨a1, w1, hq _ _ _ (by simp) h1⟩))
        | exact Rows.mono hh (fun _ _ he => he)
  | halt x w' => cases x <;> simp only [Oper.upon] at hh ⊢ <;> first | exact hh | exact hq _ _ _ (by simp) hh
theorem wp_of_list {P : Program} {o : Oper} {a : Act} {w : World} {K : Act → World → Prop} {Q : Exit → Act → World → Prop} (hg : o.guard = none)
    (h : wpList P #[] (Calm (fun _ a w => K a w)) [o] a w) : o.wp P a w K (Calm Q) := by
  simp only [wpList, Region.wanted, hg, if_true] at h
  rcases h with h | ⟨_, a', w', h⟩
  · refine wp_calm (fun e a w hne h => ?_) h
    cases e <;> first | exact absurd rfl hne | exact h
  · exact h.elim
end Go.Proofs.YtjabgpejmnpamaaGreatDoor

namespace Go.Proofs.YtjabgpejmnpamaaGreatDoor
open Go.RowKit
def dbl (x : BitVec 8) : BitVec 8 := if x.msb then (x <<< 1) ^^^ 29#8 else x <<< 1
def mulN : Nat → BitVec 8 → BitVec 8 → BitVec 8 → BitVec 8
  | 0, _, o, _ => o
  | n + 1, x, o, b => if b = 0#8 then o else mulN n (dbl x) (if b &&& 1#8 = 1#8 then o ^^^ x else o) (b >>> 1)
def mulG (a b : BitVec 8) : BitVec 8 := mulN 8 a 0#8 b
def powN : Nat → BitVec 8 → BitVec 8 → Nat → BitVec 8
  | 0, o, _, _ => o
  | n + 1, o, a, e => if e = 0 then o else powN n (if e % 2 = 1 then mulG o a else o) (mulG a a) (e / 2)
def powG (a : BitVec 8) (e : Nat) : BitVec 8 := powN 8 1#8 a e
def invG (a : BitVec 8) : BitVec 8 := powG a 254
def expG (n : Nat) : BitVec 8 := powG 2#8 (n % 255)
def fusedG : List (BitVec 8) → List (BitVec 8) → BitVec 8 → List (BitVec 8)
  | x :: xs, y :: ys, c => (x ^^^ mulG c y) :: fusedG xs ys c
  | _, _, _ => []
theorem fusedG_length : ∀ (xs ys : List (BitVec 8)) (c : BitVec 8), xs.length = ys.length → (fusedG xs ys c).length = xs.length
  | [], [], _, _ => rfl
  | _ :: xs, _ :: ys, c, h => by simp only [fusedG, List.length_cons]; rw [fusedG_length xs ys c (by simpa using h)]
theorem fusedG_get : ∀ (xs ys : List (BitVec 8)) (c : BitVec 8) (k : Nat) (h1 : k < xs.length) (h2 : k < ys.length) (h3 : k < (fusedG xs ys c).length), (fusedG xs ys c)[k] = xs[k] ^^^ mulG c ys[k]
  | _ :: xs, _ :: ys, c, 0, _, _, _ => rfl
  | _ :: xs, _ :: ys, c, k + 1, h1, h2, h3 => by
    simp only [fusedG, List.getElem_cons_succ]
    exact fusedG_get xs ys c k (by simpa using h1) (by simpa using h2) _
theorem dbl_yes : ∀ x : BitVec 8, (x.toNat : Int) * 2 > 255 → bits .xor .i64 ((x.toNat : Int) * 2) 285 = ((dbl x).toNat : Int) := by decide +kernel
theorem dbl_no : ∀ x : BitVec 8, ¬ (x.toNat : Int) * 2 > 255 → (x.toNat : Int) * 2 = ((dbl x).toNat : Int) := by decide +kernel
theorem shr8 : ∀ x : BitVec 8, (x.toNat : Int) / 2 = ((x >>> 1).toNat : Int) := by decide +kernel
theorem and8 : ∀ x : BitVec 8, bits .and .u8 (x.toNat : Int) 1 = ((x &&& 1#8).toNat : Int) := by decide +kernel
theorem i64_form (n : Int) : IntKind.i64.wrap n = (n + 9223372036854775808) % 18446744073709551616 - 9223372036854775808 := by
  simp only [IntKind.wrap, IntKind.bits, IntKind.signed]; simp; omega
theorem bits8 (x y : BitVec 8) : bits .xor .i64 (ub x) (ub y) = ub (x ^^^ y) := by
  show IntKind.i64.wrap ((BitVec.ofInt 64 (ub x) ^^^ BitVec.ofInt 64 (ub y)).toNat : Int) = _
  rw [ofInt_ub, ofInt_ub]
  have e : (x.setWidth 64 ^^^ y.setWidth 64).toNat = (x ^^^ y).toNat := by
    rw [← BitVec.setWidth_xor, BitVec.toNat_setWidth, Nat.mod_eq_of_lt]; have := (x ^^^ y).isLt; omega
  rw [e, i64_form]
  have := (x ^^^ y).isLt
  unfold ub
  omega
theorem and8_ub (x : BitVec 8) : bits .and .u8 (ub x) 1 = ub (x &&& 1#8) := and8 x
theorem half8 (x : BitVec 8) : ub x / 2 = ub (x >>> 1) := shr8 x
theorem wrapI_ub (x : BitVec 8) : IntKind.i64.wrap (ub x) = ub x := by
  rw [i64_form]; have := ub_bound x; omega
theorem ub_pos {x : BitVec 8} (h : x ≠ 0#8) : 0 < ub x := by
  have := ub_bound x
  rcases Int.lt_or_eq_of_le this.1 with h0 | h0
  · exact h0
  · exact absurd (ub_inj (x := x) (y := 0#8) h0.symm) h
theorem half_lt (x : BitVec 8) (n : Nat) (h : x.toNat < 2 ^ (n + 1)) : (x >>> 1).toNat < 2 ^ n := by
  rw [BitVec.toNat_ushiftRight, Nat.shiftRight_eq_div_pow]
  rw [Nat.pow_succ] at h
  omega
theorem dblI_yes (x : BitVec 8) (h : ub x * 2 > 255) : bits .xor .i64 (ub x * 2) 285 = ub (dbl x) := dbl_yes x h
theorem dblI_no (x : BitVec 8) (h : ¬ ub x * 2 > 255) : ub x * 2 = ub (dbl x) := dbl_no x h
end Go.Proofs.YtjabgpejmnpamaaGreatDoor

namespace Go.Proofs.YtjabgpejmnpamaaGreatDoor
open Go.RowKit
attribute [local go_sem] and8_ub half8 wrapI_ub wrap8_ub bits8 unsigned8
theorem gmul_any (a b : BitVec 8) (w : World) :
    Calls Tryz.prog 142 #[encB a, encB b] w fun e w' => e = .returned (encB (mulG a b)) ∧ w = w' := by
  go_enter Tryz.func142, Tryz.ntmps142
  go_wp2
  go_loop [1, 5, 6] (fun bv xv ov => ∃ (n : Nat) (x o c : BitVec 8), bv = encB c ∧ xv = .int .i64 (ub x) ∧ ov = .int .i64 (ub o) ∧ c.toNat < 2 ^ n ∧ mulN n x o c = mulG a b) (fun bv _ _ => (intOf bv).toNat)
  case atStart => exact ⟨8, a, 0#8, b, rfl, rfl, rfl, b.isLt, rfl⟩
  case round =>
    obtain ⟨n, x, o, c, rfl, rfl, rfl, hc, he⟩ := hrel
    by_cases h0 : c = 0#8
    · have HE : Hid (o = mulG a b) := by
        subst h0
        rw [← he]
        cases n <;> rfl
      have hz : ¬ 0 < ub c := by rw [h0]; decide
      have hz2 : decide (0 < ub c) = false := by rw [h0]; decide
      clear he h0 hc
      go_wp2
      go_ret
      exact ⟨by rw [HE.out]; rfl, rfl⟩
    · obtain ⟨m, rfl⟩ : ∃ m, n = m + 1 := by
        cases n with
        | zero => exact absurd (BitVec.eq_of_toNat_eq (x := c) (y := 0#8) (by simpa using hc)) h0
        | succ m => exact ⟨m, rfl⟩
      have hp := ub_pos h0
      have hm := half_lt c m hc
      rw [mulN, if_neg h0] at he
      have HE := Lib.hid he
      have HC := Lib.hid hm
      have hxb := ub_bound x
      clear he h0 hc hm
      by_cases h1 : c &&& 1#8 = 1#8
      · have hb : (ub (c &&& 1#8) == 1) = true := by rw [h1]; rfl
        have HE2 : Hid (mulN m (dbl x) (o ^^^ x) (c >>> 1) = mulG a b) := by have := HE.out; rw [if_pos h1] at this; exact this
        clear h1 HE
        by_cases h2 : ub x * 2 > 255
        · have hd := dblI_yes x h2
          go_wp2
          go_round
          case rel => exact ⟨m, dbl x, o ^^^ x, c >>> 1, rfl, rfl, rfl, HC.out, HE2.out⟩
          case measure => simp [intOf]; omega
        · have hd := dblI_no x h2
          go_wp2
          go_round
          case rel => exact ⟨m, dbl x, o ^^^ x, c >>> 1, rfl, (by first | rfl | rw [hd]), rfl, HC.out, HE2.out⟩
          case measure => simp [intOf]; omega
      · have hb : (ub (c &&& 1#8) == 1) = false := by
          rw [beq_eq_false_iff_ne]; intro h; exact h1 (ub_inj (y := 1#8) h)
        have HE2 : Hid (mulN m (dbl x) o (c >>> 1) = mulG a b) := by have := HE.out; rw [if_neg h1] at this; exact this
        clear h1 HE
        by_cases h2 : ub x * 2 > 255
        · have hd := dblI_yes x h2
          go_wp2
          go_round
          case rel => exact ⟨m, dbl x, o, c >>> 1, rfl, rfl, rfl, HC.out, HE2.out⟩
          case measure => simp [intOf]; omega
        · have hd := dblI_no x h2
          go_wp2
          go_round
          case rel => exact ⟨m, dbl x, o, c >>> 1, rfl, (by first | rfl | rw [hd]), rfl, HC.out, HE2.out⟩
          case measure => simp [intOf]; omega
theorem odd_nat (e : Nat) (h : e ≤ 1000000) : bits .and .i64 (e : Int) 1 = ((e % 2 : Nat) : Int) := by
  show IntKind.i64.wrap ((BitVec.ofInt 64 (e : Int) &&& BitVec.ofInt 64 1).toNat : Int) = _
  have e1 : (BitVec.ofInt 64 (e : Int) &&& BitVec.ofInt 64 1).toNat = e % 2 := by
    rw [show BitVec.ofInt 64 1 = 1#64 from rfl, BitVec.and_one_eq_setWidth_ofBool_getLsbD]
    rw [BitVec.ofInt_natCast, BitVec.toNat_setWidth, BitVec.toNat_ofBool, BitVec.getLsbD_ofNat]
    rcases Nat.mod_two_eq_zero_or_one e with h | h <;> simp [Nat.testBit, h]
  rw [e1, i64_form]
  have := Nat.mod_lt e (y := 2) (by decide)
  omega
set_option maxHeartbeats 400000 in
theorem power_any (a : BitVec 8) (e : Nat) (he1 : e ≤ 255) (w : World) :
    Calls Tryz.prog 143 #[encB a, .int .i64 e] w fun e' w' => e' = .returned (encB (powG a e)) ∧ w = w' := by
  go_enter Tryz.func143, Tryz.ntmps143
  go_wp2
  go_loop [0, 1, 5] (fun av ev ov => ∃ (n m : Nat) (x o : BitVec 8), av = encB x ∧ ev = .int .i64 m ∧ ov = encB o ∧ m < 2 ^ n ∧ m ≤ 255 ∧ powN n o x m = powG a e) (fun _ ev _ => (intOf ev).toNat)
  case atStart => exact ⟨8, e, a, 1#8, rfl, rfl, rfl, by omega, he1, rfl⟩
  case round =>
    obtain ⟨n, m, x, o, rfl, rfl, rfl, hn, hm, he⟩ := hrel
    by_cases h0 : m = 0
    · have HE : Hid (o = powG a e) := by
        subst h0
        rw [← he]
        cases n <;> rfl
      subst h0
      clear he hn
      go_wp2
      go_ret
      exact ⟨by rw [HE.out]; rfl, rfl⟩
    · obtain ⟨k, rfl⟩ : ∃ k, n = k + 1 := by
        cases n with
        | zero => exact absurd hn (by simp; omega)
        | succ k => exact ⟨k, rfl⟩
      have hk : m / 2 < 2 ^ k := by rw [Nat.pow_succ] at hn; omega
      rw [powN, if_neg h0] at he
      have HE := Lib.hid he
      have HK := Lib.hid hk
      have hodd := odd_nat m (by omega)
      clear he hn hk
      by_cases h1 : m % 2 = 1
      · rw [h1] at hodd
        have HE2 : Hid (powN k (mulG o x) (mulG x x) (m / 2) = powG a e) := by have := HE.out; rw [if_pos h1] at this; exact this
        clear h1 HE
        go_wp2_with (go_at_call 142; refine (gmul_any _ _ _).mono ?_; rintro e w' ⟨rfl, rfl⟩)
        go_round
        case rel => exact ⟨k, m / 2, _, _, rfl, (by first | rfl | simp), rfl, HK.out, by omega, HE2.out⟩
        case measure => simp [intOf]; omega
      · have h2 : m % 2 = 0 := by omega
        rw [h2] at hodd
        have HE2 : Hid (powN k o (mulG x x) (m / 2) = powG a e) := by have := HE.out; rw [if_neg h1] at this; exact this
        clear h1 h2 HE
        go_wp2_with (go_at_call 142; refine (gmul_any _ _ _).mono ?_; rintro e w' ⟨rfl, rfl⟩)
        go_round
        case rel => exact ⟨k, m / 2, _, _, rfl, (by first | rfl | simp), rfl, HK.out, by omega, HE2.out⟩
        case measure => simp [intOf]; omega
theorem reduce_any (n : Nat) (h : n ≤ 1000000) (w : World) :
    Calls Tryz.prog 144 #[.int .i64 n] w fun e' w' => e' = .returned (.int .i64 (n % 255 : Nat)) ∧ w = w' := by
  go_enter Tryz.func144, Tryz.ntmps144
  go_wp2
  go_ret
  refine ⟨?_, rfl⟩
  simp
theorem exp_any (n : Nat) (h : n ≤ 1000000) (w : World) :
    Calls Tryz.prog 95 #[.int .i64 n] w fun e' w' => e' = .returned (encB (expG n)) ∧ w = w' := by
  go_enter Tryz.func95, Tryz.ntmps95
  obtain ⟨r, hr⟩ : ∃ r, n % 255 = r := ⟨_, rfl⟩
  have hr2 : r ≤ 255 := by omega
  have HR := Lib.hid hr
  go_wp2_with (first | (go_at_call 144; refine (reduce_any n h _).mono ?_; rintro e w' ⟨rfl, rfl⟩; rw [HR.out]) | (go_at_call 143; refine (power_any 2#8 r hr2 _).mono ?_; rintro e w' ⟨rfl, rfl⟩))
  go_ret
  exact ⟨by unfold expG; rw [HR.out]; rfl, rfl⟩
theorem inv_any (a : BitVec 8) (h : a ≠ 0#8) (w : World) :
    Calls Tryz.prog 196 #[encB a] w fun e' w' => e' = .returned (.tuple #[encB (invG a), .int .i64 0]) ∧ w = w' := by
  have hp := ub_pos h
  have hz : (ub a == 0) = false := by rw [beq_eq_false_iff_ne]; omega
  go_enter Tryz.func196, Tryz.ntmps196
  go_wp2_with (go_at_call 143; refine (power_any a 254 (by decide) _).mono ?_; rintro e w' ⟨rfl, rfl⟩)
  go_ret2
  exact ⟨rfl, rfl⟩
end Go.Proofs.YtjabgpejmnpamaaGreatDoor

namespace Go.Proofs.YtjabgpejmnpamaaGreatDoor
open Go.RowKit
attribute [local go_sem] wrap8_nat or_high
theorem infoB : (Tryz.prog.info? 5).map (fun i => (i.zero, i.size, i.bytes)) = some (some (.int .u8 0), 1, 1) := by kernel_rfl
abbrev OwnB (w : World) (base : Nat) (v : Value) (l : List (BitVec 8)) : Prop := w.ownsRow base 5 1 v l.length (l.map encB)
theorem OwnB.slice {w : World} {base : Nat} {v : Value} {l : List (BitVec 8)} (h : OwnB w base v l) : SliceAt encB w v l := SliceAt.of_owns h
theorem clone_any (v : Value) (l : List (BitVec 8)) (w : World) (hl : l.length ≤ 100000) (h : SliceAt encB w v l) :
    Calls Tryz.prog 122 #[v] w fun e w' => ∃ v', e = .returned v' ∧ OwnB w' w.heap.size v' l ∧ Below w.heap.size w w' := by
  obtain ⟨i0, hi, hz0, hz1, hz2⟩ := info_parts infoB
  have HA := Lib.hid h
  obtain ⟨ad, cap, rfl, hca, h⟩ := h
  cases ad with
  | none =>
    have hl0 : l = [] ∧ cap = 0 := by
      rcases h with ⟨h1, h2⟩ | ⟨_, _, h1, _⟩
      · exact ⟨h1, h2 rfl⟩
      · cases h1
    obtain ⟨rfl, rfl⟩ := hl0
    clear h
    go_enter Tryz.func122, Tryz.ntmps122
    have hq := fun (w : World) => Lib.run_eql_slice_nil (P := Tryz.prog) w 47 5 none 0 0 0 0 Tryz.underlying47
    go_wp2
    go_ret
    exact ⟨_, rfl, World.ownsRow_nil _ _ _ _, Below.refl _ _⟩
  | some ad =>
    clear h
    have hq := fun (w : World) => Lib.run_eql_slice_nil (P := Tryz.prog) w 47 5 (some ad) l.length cap 0 0 Tryz.underlying47
    go_enter Tryz.func122, Tryz.ntmps122
    go_wp2_with (at_builtin; refine wpList_append_slice (enc := encB) (fun _ => rfl) rfl (.tmp 5) (.tmp 6) 47 rfl w.heap.size 5 i0 (.int .u8 0) 1 Tryz.underlying47 hi hz0 hz1 hz2 rfl _ 0 [] rfl (World.ownsRow_lit w #[] 0 (Nat.le_refl _) (by decide) rfl) _ l rfl (HA.out.ext (Ext.alloc _ _)) (by unfold maxLen; omega) (by omega) (by simp) ?_; intro v1 w1 hown1 hgrow1; simp only [Nat.zero_add, List.nil_append] at hown1; have hx1 : Ext w w1 := ((Below.refl _ _).alloc (Nat.le_refl _) _).grown hgrow1 (by simp) (fun k hk => (by cases hk; exact Nat.le_refl _)))
    go_ret
    exact ⟨_, rfl, hown1, hx1⟩
set_option maxHeartbeats 400000 in
theorem appendUint_any (v : Value) (l : List (BitVec 8)) (n : Nat) (w : World) (hl : l.length ≤ 50000) (hn : n < 18446744073709551616) (h : SliceAt encB w v l) :
    Calls Tryz.prog 75 #[v, .int .u64 n] w fun e w' => ∃ v', e = .returned v' ∧ OwnB w' w.heap.size v' (l ++ uv n) ∧ Below w.heap.size w w' := by
  obtain ⟨i0, hi, hz0, hz1, hz2⟩ := info_parts infoB
  have HA := Lib.hid h
  have hlen := (uv_len n hn).2
  go_enter Tryz.func75, Tryz.ntmps75
  go_wp2_with (go_at_call 122; refine (clone_any _ l _ (by omega) HA.out).mono ?_; rintro e w1 ⟨v1, rfl, hown1, hb1⟩)
  have HO1 := Lib.hid hown1
  clear hown1
  go_loopw [5, 1] (fun vo i wr => ∃ (m : Nat) (pre : List (BitVec 8)), m ≤ n ∧ i = .int .u64 m ∧ uv n = pre ++ uv m ∧ OwnB wr w.heap.size vo (l ++ pre) ∧ Below w.heap.size w wr) (fun _ i _ => (intOf i).toNat)
  case atStart => exact ⟨n, [], Nat.le_refl _, rfl, rfl, by rw [List.append_nil]; exact HO1.out, hb1⟩
  case round =>
    obtain ⟨m, pre, hmn, rfl, huv, hown, hx⟩ := hrel
    have HO := Lib.hid hown
    have HU := Lib.hid huv
    have hpl : pre.length < 10 := by
      have := congrArg List.length huv
      rw [List.length_append] at this
      have := (uv_len m (by omega)).1
      omega
    have hll : (l ++ pre).length = l.length + pre.length := List.length_append
    have hm0 : (0 : Int) ≤ (m : Int) := by omega
    have hm1 : (m : Int) ≤ 18446744073709551615 := by omega
    clear hown huv
    by_cases hc : m < 128
    · have hc' : (decide ((128 : Int) ≤ (m : Int))) = false := by rw [decide_eq_false_iff_not]; omega
      have HC := Lib.hid hc
      clear hc
      go_wp2_with (at_builtin; refine wpList_append_slice (enc := encB) (fun _ => rfl) rfl (.tmp 18) (.tmp 21) 47 rfl w.heap.size 5 i0 (.int .u8 0) 1 Tryz.underlying47 hi hz0 hz1 hz2 rfl _ _ _ rfl (World.ownsRow.alloc HO.out _) _ [BitVec.ofNat 8 m] rfl (SliceAt.lit wr [BitVec.ofNat 8 m] _ _ _ rfl) (by unfold maxLen; simp only [List.length_singleton]; omega) (by simp only [List.length_singleton]; omega) (by have := hx.size; simp; omega) ?_; intro v2 w2 hown2 hgrow2; have hx2 : Below w.heap.size w w2 := (hx.alloc hx.size _).grown hgrow2 (by have := hx.size; simp; omega) (fun k hk => (World.ownsRow.lt HO.out k hk).1); have HO2 := Lib.hid hown2; clear hown2 hgrow2)
      go_ret
      refine ⟨_, rfl, ?_, hx2⟩
      have h2 := HO2.out
      rw [HU.out, uv_low HC.out, ← List.append_assoc]
      show World.ownsRow _ _ _ _ _ _ _
      rw [List.length_append, List.map_append]
      exact h2
    · have hc' : (128 : Int) ≤ (m : Int) := by omega
      go_wp2_with (at_builtin; refine wpList_append_slice (enc := encB) (fun _ => rfl) rfl (.tmp 12) (.tmp 16) 47 rfl w.heap.size 5 i0 (.int .u8 0) 1 Tryz.underlying47 hi hz0 hz1 hz2 rfl _ _ _ rfl (World.ownsRow.alloc HO.out _) _ [BitVec.ofNat 8 m ||| 128#8] rfl (SliceAt.lit wr [BitVec.ofNat 8 m ||| 128#8] _ _ _ rfl) (by unfold maxLen; simp only [List.length_singleton]; omega) (by simp only [List.length_singleton]; omega) (by have := hx.size; simp; omega) ?_; intro v2 w2 hown2 hgrow2; have hx2 : Below w.heap.size w w2 := (hx.alloc hx.size _).grown hgrow2 (by have := hx.size; simp; omega) (fun k hk => (World.ownsRow.lt HO.out k hk).1); have HO2 := Lib.hid hown2; clear hown2 hgrow2)
      go_roundw
      case rel =>
        refine ⟨m / 128, pre ++ [BitVec.ofNat 8 m ||| 128#8], by omega, by go_num, by rw [HU.out, uv_high hc]; simp, ?_, hx2⟩
        have h2 := HO2.out
        rw [← List.append_assoc]
        show World.ownsRow _ _ _ _ _ _ _
        rw [List.length_append, List.map_append]
        exact h2
      case measure => simp [intOf]; omega
end Go.Proofs.YtjabgpejmnpamaaGreatDoor

namespace Go.Proofs.YtjabgpejmnpamaaGreatDoor
open Go.RowKit
inductive OT where
  | done
  | take (i : Nat) (t : OT)
  | one (i : Nat) (t : OT)
  | two (i j : Nat) (t u : OT)
def OT.size : OT → Nat
  | .done => 0
  | .take _ t => t.size + 1
  | .one _ t => t.size + 1
  | .two _ _ t _ => t.size + 1
section
variable {P : Program} {ops : Array Oper} {Q : Exit → Act → World → Prop}
def ordT (md : Region.Mode) (ops : Array Oper) : OT → Array Bool → Bool
  | .done, listed => (Region.ready md ops listed).isEmpty
  | .take i t, listed => (ops[i]?).isSome && Region.free md ops listed i && (Region.ready md ops listed).contains i && ordT md ops t (listed.setIfInBounds i true)
  | .one i t, listed => (Region.ready md ops listed == [i]) && ordT md ops t (listed.setIfInBounds i true)
  | .two i j t u, listed => (Region.ready md ops listed == [i, j]) && ordT md ops t (listed.setIfInBounds i true) && ordT md ops u (listed.setIfInBounds j true) && (t.size == u.size)
def wpT (P : Program) (ops : Array Oper) (Q : Exit → Act → World → Prop) : OT → (World → Prop) → Act → World → Prop
  | .done, _, a, w => Q .normal a w
  | .take i t, S, a, w => ∃ v o, ops[i]? = some o ∧ YieldsIf P ops S o v a ∧ wpT P ops Q t S (a.put o.dst v) w
  | .one i t, S, a, w => wpOp P ops Q i (fun a' w' => ∃ S' : World → Prop, ((∀ x, S' x → S x) ∨ coversB .any ops i = true) ∧ S' w' ∧ wpT P ops Q t S' a' w') a w
  | .two i j t u, S, a, w => wpOp P ops Q i (fun a' w' => ∃ S' : World → Prop, (∀ x, S' x → S x) ∧ S' w' ∧ wpT P ops Q t S' a' w') a w ∧
      wpOp P ops Q j (fun a' w' => ∃ S' : World → Prop, (∀ x, S' x → S x) ∧ S' w' ∧ wpT P ops Q u S' a' w') a w
theorem wpAnyG_of_T (hs : Region.noSelect ops = true) (hQ : ∀ c a (d : Option Tmp) v w, Q (.panic c) (a.put d v) w → Q (.panic c) a w) : ∀ (t : OT) (S : World → Prop) (listed : Array Bool) (a : Act) (w : World),
    Closed .any ops listed → ordT .any ops t listed = true → S w → wpT P ops Q t S a w → wpAnyG P .any ops Q t.size S listed a w
  | .done, S, listed, a, w, _, hB, _, h => ⟨by simpa [ordT] using hB, h⟩
  | .take i r, S, listed, a, w, hcl, hB, hS, h => by
    simp only [ordT, Bool.and_eq_true] at hB
    obtain ⟨⟨⟨_, hf⟩, hr⟩, hB'⟩ := hB
    obtain ⟨v, o, ho, hy, hk⟩ := h
    exact wpAnyG_first ho (Region.noSelect_spec hs) (fun c a w => hQ c a _ v w) r.size S listed a w hcl (Region.free_spec ho hf) (by simpa using hr) hy hS (wpAnyG_of_T hs hQ r S _ _ _ (hcl.set (by simpa using hr)) hB' hS hk)
  | .one i r, S, listed, a, w, hcl, hB, hS, h => by
    simp only [ordT, Bool.and_eq_true, beq_iff_eq] at hB
    obtain ⟨hr, hB'⟩ := hB
    refine ⟨(fun h0 => absurd (hr.symm.trans h0) (by simp)), fun j hj => ?_⟩
    rw [hr] at hj
    obtain rfl : j = i := by simpa using hj
    exact wpOp_mono (fun a' w' ⟨S', hs', hS', hk⟩ => ⟨S', hs', hS', wpAnyG_of_T hs hQ r S' _ _ _ (hcl.set (by rw [hr]; simp)) hB' hS' hk⟩) h
  | .two i j t u, S, listed, a, w, hcl, hB, hS, h => by
    simp only [ordT, Bool.and_eq_true, beq_iff_eq] at hB
    obtain ⟨⟨⟨hr, hB1⟩, hB2⟩, hsz⟩ := hB
    refine ⟨(fun h0 => absurd (hr.symm.trans h0) (by simp)), fun k hk => ?_⟩
    rw [hr] at hk
    have hk : k = i ∨ k = j := by simpa using hk
    rcases hk with rfl | rfl
    · exact wpOp_mono (fun a' w' ⟨S', hs', hS', hk⟩ => ⟨S', .inl hs', hS', wpAnyG_of_T hs hQ t S' _ _ _ (hcl.set (by rw [hr]; simp)) hB1 hS' hk⟩) h.1
    · exact wpOp_mono (fun a' w' ⟨S', hs', hS', hk⟩ => ⟨S', .inl hs', hS', by
        show wpAnyG P .any ops Q t.size S' _ _ _
        rw [hsz]
        exact wpAnyG_of_T hs hQ u S' _ _ _ (hcl.set (by rw [hr]; simp)) hB2 hS' hk⟩) h.2
theorem wp_region_T {id : Nat} {a : Act} {w : World} {l : List Oper} (t : OT) (S : World → Prop) (hm : P.follows .mixedOrders = true)
    (hB : (Region.noSelect l.toArray && ordT .any l.toArray t (Array.replicate l.length false) && (t.size == l.length)) = true)
    (hS : S w.drew) (h : wpT P l.toArray (Calm Q) t S a w.drew) : (Code.region id l.toArray true).wp P Q a w := by
  simp only [Bool.and_eq_true, beq_iff_eq] at hB
  obtain ⟨⟨h1, h2⟩, h3⟩ := hB
  refine Code.wp_mono (Q := Calm Q) (fun e a w hq => ?_) (wp_region_any hm ?_)
  · cases e <;> first | exact hq | exact (hq : False).elim
  · have := wpAny_of_G _ _ _ _ _ (wpAnyG_of_T h1 (fun _ _ _ _ _ h => h) t S _ a _ Closed.none h2 hS h)
    rw [h3] at this
    simpa using this
end
section
variable {P : Program} {l : List Oper} {Q : Exit → Act → World → Prop} {i : Nat} {o : Oper} {r : OT} {a : Act} {b w : World} {v : Value}
def wpExtT (P : Program) (l : List Oper) (Q : Exit → Act → World → Prop) (t : OT) (b : World) (a : Act) (w : World) : Prop := wpT P l.toArray (Calm Q) t (Ext b) a w
theorem wp_region_extT {id : Nat} (t : OT) (hm : P.follows .mixedOrders = true)
    (hB : (Region.noSelect l.toArray && ordT .any l.toArray t (Array.replicate l.length false) && (t.size == l.length)) = true)
    (h : wpExtT P l Q t w a w.drew) : (Code.region id l.toArray true).wp P Q a w := wp_region_T t (Ext w) hm hB (Ext.drew _) h
theorem extT_nil (h : Q .normal a w) : wpExtT P l Q .done b a w := h
theorem extT_take (ho : nth l i = some o) (hw : Region.wanted o (yielded l.toArray a.tmps) = true) (h : ∀ w', Ext b w' → (execOp a.eval o).run P w' = .ok (.value v) w')
    (k : wpExtT P l Q r b (a.put o.dst v) w) : wpExtT P l Q (.take i r) b a w := ⟨v, o, nth_get ho, .inl ⟨hw, h⟩, k⟩
theorem extT_move {x : Operand} (ho : nth l i = some o) (hop : o.op = .move x) (hw : Region.wanted o (yielded l.toArray a.tmps) = true) (hv : evalL a x = some v)
    (k : wpExtT P l Q r b (a.put o.dst v) w) : wpExtT P l Q (.take i r) b a w := extT_take ho hw (fun w' _ => by unfold execOp; rw [hop, ← evalL_eq hv]; rfl) k
theorem extT_assign {x : Operand} (ho : nth l i = some o) (hop : o.op = .assign x) (hw : Region.wanted o (yielded l.toArray a.tmps) = true) (hv : evalL a x = some v)
    (k : wpExtT P l Q r b (a.put o.dst v) w) : wpExtT P l Q (.take i r) b a w := extT_take ho hw (fun w' _ => by unfold execOp; rw [hop, ← evalL_eq hv]; rfl) k
theorem extT_pick_t {c x y : Operand} (ho : nth l i = some o) (hop : o.op = .pick c x y) (hw : Region.wanted o (yielded l.toArray a.tmps) = true) (hc : evalL a c = some (.bool true)) (hv : evalL a x = some v)
    (k : wpExtT P l Q r b (a.put o.dst v) w) : wpExtT P l Q (.take i r) b a w := extT_take ho hw (fun w' _ => by unfold execOp; rw [hop, ← evalL_eq hv]; simp only [evalL_eq hc]; rfl) k
theorem extT_pick_f {c x y : Operand} (ho : nth l i = some o) (hop : o.op = .pick c x y) (hw : Region.wanted o (yielded l.toArray a.tmps) = true) (hc : evalL a c = some (.bool false)) (hv : evalL a y = some v)
    (k : wpExtT P l Q r b (a.put o.dst v) w) : wpExtT P l Q (.take i r) b a w := extT_take ho hw (fun w' _ => by unfold execOp; rw [hop, ← evalL_eq hv]; simp only [evalL_eq hc]; rfl) k
theorem extT_pass (ho : nth l i = some o) (hw : Region.wanted o (yielded l.toArray a.tmps) = false)
    (k : wpExtT P l Q r b (a.put o.dst undef) w) : wpExtT P l Q (.take i r) b a w := ⟨undef, o, nth_get ho, .inr ⟨hw, rfl⟩, k⟩
theorem opT_do (hw : Region.wanted o (yielded l.toArray a.tmps) = true) (ho : nth l i = some o) {K : Act → World → Prop} (k : o.wp P a w K (Calm Q)) : wpOp P l.toArray (Calm Q) i K a w := by
  unfold wpOp; rw [nth_get ho]; simp only [hw, if_true]
  exact .inl k
theorem extT_do (ho : nth l i = some o) (hw : Region.wanted o (yielded l.toArray a.tmps) = true)
    (k : ∀ K : Act → World → Prop, (∀ a' w', Ext b w' → wpExtT P l Q r w' a' w' → K a' w') → o.wp P a w K (Calm Q)) : wpExtT P l Q (.one i r) b a w := by
  unfold wpExtT wpT
  exact opT_do hw ho (k _ fun _ w' h1 h2 => ⟨Ext w', .inl fun _ hx => h1.trans hx, Ext.refl _, h2⟩)
theorem extT_two {j : Nat} {p : Oper} {t u : OT} (ho : nth l i = some o) (hp : nth l j = some p) (hw : Region.wanted o (yielded l.toArray a.tmps) = true) (hv : Region.wanted p (yielded l.toArray a.tmps) = true)
    (k : ∀ K : Act → World → Prop, (∀ a' w', Ext b w' → wpExtT P l Q t w' a' w' → K a' w') → o.wp P a w K (Calm Q))
    (m : ∀ K : Act → World → Prop, (∀ a' w', Ext b w' → wpExtT P l Q u w' a' w' → K a' w') → p.wp P a w K (Calm Q)) : wpExtT P l Q (.two i j t u) b a w :=
  ⟨opT_do hw ho (k _ fun _ w' h1 h2 => ⟨Ext w', fun _ hx => h1.trans hx, Ext.refl _, h2⟩), opT_do hv hp (m _ fun _ w' h1 h2 => ⟨Ext w', fun _ hx => h1.trans hx, Ext.refl _, h2⟩)⟩
end
end Go.Proofs.YtjabgpejmnpamaaGreatDoor

namespace Go.Proofs.YtjabgpejmnpamaaGreatDoor
open Go.ChangeShapes Go.WideShapes Go.ChangeAt Go.RowKit
theorem trodAll_below {H : Type} {enc : TypeId × Value → H} {P : Program} (hl : laidOutB P = true) {W W' : World} (hb : Below W.heap.size W W') :
    ∀ {ts : List TypeId} {vs : List Value} {ds : List (DataW H)} {ps : List MemPlace}, (∀ t ∈ ts, P.readableRec t = true ∧ t < P.types.size) →
      DataW.TrodAll enc P W 0 (fun _ => true) true ts vs ds ps → (∀ x ∈ ps, x.block < W.heap.size) →
      DataW.TrodAll enc P W' 0 (fun b => decide (b < W.heap.size)) true ts vs ds ps
  | [], [], [], _, _, h, _ => h
  | t :: ts, v :: vs, d :: ds, ps, hts, h, hlt => by
    obtain ⟨p, q, h1, h2, rfl⟩ := h
    exact ⟨p, q, Below.trod hl (hts t (by simp)).1 (hts t (by simp)).2 h1 hb (fun x hx => hlt x (by simp [hx])),
      trodAll_below hl hb (fun t' ht' => hts t' (by simp [ht'])) h2 (fun x hx => hlt x (by simp [hx])), rfl⟩
theorem trodAll_len {H : Type} {enc : TypeId × Value → H} {P : Program} {w : World} {base : Nat} {sp : Nat → Bool} {held : Bool} :
    ∀ {ts : List TypeId} {vs : List Value} {ds : List (DataW H)} {ps : List MemPlace}, DataW.TrodAll enc P w base sp held ts vs ds ps → ds.length = ts.length
  | [], [], [], _, _ => rfl
  | _ :: ts, _ :: vs, _ :: ds, _, h => by
    obtain ⟨_, _, _, h2, _⟩ := h
    simp [trodAll_len h2]
end Go.Proofs.YtjabgpejmnpamaaGreatDoor

namespace Go.Proofs.YtjabgpejmnpamaaGreatDoor
open Go.ChangeShapes Go.WideShapes Go.ChangeAt Go.RowKit
structure Pat (α : Type) where
  size : Nat
  holds : World → List Value → α → Prop
  ext : ∀ {w w' : World} {cs : List Value} {x : α}, Ext w w' → holds w cs x → holds w' cs x
  len : ∀ {w : World} {cs : List Value} {x : α}, holds w cs x → cs.length = size
def Pat.one {α : Type} (f : α → Value) (ok : α → Prop) : Pat α where
  size := 1
  holds := fun _ cs x => cs = [f x] ∧ ok x
  ext := fun _ h => h
  len := fun h => by rw [h.1]; rfl
def Pat.u64 : Pat (BitVec 64) := Pat.one encU fun _ => True
def Pat.u8 : Pat (BitVec 8) := Pat.one encB fun _ => True
def I64 (n : Int) : Prop := -9223372036854775808 ≤ n ∧ n ≤ 9223372036854775807
def Pat.i64 : Pat Int := Pat.one encI I64
def Pat.bool : Pat Bool := Pat.one Value.bool fun _ => True
def Pat.pair {α β : Type} (p : Pat α) (q : Pat β) : Pat (α × β) where
  size := p.size + q.size
  holds := fun w cs x => ∃ c d, cs = c ++ d ∧ p.holds w c x.1 ∧ q.holds w d x.2
  ext := fun e ⟨c, d, h1, h2, h3⟩ => ⟨c, d, h1, p.ext e h2, q.ext e h3⟩
  len := fun ⟨c, d, h1, h2, h3⟩ => by rw [h1, List.length_append, p.len h2, q.len h3]
def SliceR {α : Type} (p : Pat α) (w : World) (v : Value) (l : List α) : Prop :=
  ∃ ad cap, v = .slice ad l.length cap ∧ l.length ≤ cap ∧ (l = [] ∧ (ad = none → cap = 0) ∨ ∃ b off, ad = some ⟨b, off, none⟩ ∧ b < w.heap.size ∧ ∀ i (h : i < l.length), ∃ cs, p.holds w cs l[i] ∧ ∀ j (hj : j < cs.length), w.cell? ⟨b, off + i * p.size + j, none⟩ = some cs[j])
theorem SliceR.ext {α : Type} {p : Pat α} {w w' : World} {v : Value} {l : List α} (h : SliceR p w v l) (e : Ext w w') : SliceR p w' v l := by
  obtain ⟨ad, cap, hv, hca, h⟩ := h
  refine ⟨ad, cap, hv, hca, h.imp id ?_⟩
  rintro ⟨b, off, ha, hb, hc⟩
  refine ⟨b, off, ha, Nat.lt_of_lt_of_le hb e.below.size, fun i hi => ?_⟩
  obtain ⟨cs, h1, h2⟩ := hc i hi
  exact ⟨cs, p.ext e h1, fun j hj => (e.cell b _ hb).trans (h2 j hj)⟩
def Pat.slice {α : Type} (p : Pat α) : Pat (List α) where
  size := 1
  holds := fun w cs l => ∃ v, cs = [v] ∧ SliceR p w v l ∧ l.length ≤ maxLen
  ext := fun e ⟨v, h1, h2, h3⟩ => ⟨v, h1, h2.ext e, h3⟩
  len := fun ⟨v, h1, _⟩ => by rw [h1]; rfl
theorem SliceR.at {α : Type} {f : α → Value} {ok : α → Prop} {w : World} {v : Value} {l : List α} (h : SliceR (Pat.one f ok) w v l) : SliceAt f w v l ∧ ∀ x ∈ l, ok x := by
  obtain ⟨ad, cap, hv, hca, h⟩ := h
  rcases h with ⟨h1, h2⟩ | ⟨b, off, h1, h2, h3⟩
  · exact ⟨⟨ad, cap, hv, hca, .inl ⟨h1, h2⟩⟩, by rw [h1]; simp⟩
  · have key : ∀ i (h : i < l.length), w.cell? ⟨b, off + i, none⟩ = some (f l[i]) ∧ ok l[i] := by
      intro i hi
      obtain ⟨cs, ⟨rfl, hk⟩, hc⟩ := h3 i hi
      have h0 := hc 0 (by simp)
      rw [show (Pat.one f ok).size = 1 from rfl] at h0
      simp only [Nat.mul_one, Nat.add_zero] at h0
      exact ⟨h0, hk⟩
    refine ⟨⟨ad, cap, hv, hca, .inr ⟨b, off, h1, h2, fun i hi => (key i hi).1⟩⟩, fun x hx => ?_⟩
    obtain ⟨i, hi, rfl⟩ := List.getElem_of_mem hx
    exact (key i hi).2
theorem list_of {α : Type} {n : Nat} {R : Nat → α → Prop} (each : ∀ i, i < n → ∃ x, R i x) : ∃ l : List α, l.length = n ∧ ∀ i (h : i < l.length), R i l[i] := by
  induction n with
  | zero => exact ⟨[], rfl, fun i h => absurd h (by simp)⟩
  | succ k ih =>
    obtain ⟨l, h1, h2⟩ := ih (fun i hi => each i (by omega))
    obtain ⟨x, hx⟩ := each k (by omega)
    refine ⟨l ++ [x], by simp [h1], fun i hi => ?_⟩
    by_cases hk : i < l.length
    · rw [List.getElem_append_left hk]; exact h2 i hk
    · have : i = k := by simp at hi; omega
      subst this
      rw [List.getElem_append_right (by omega)]
      simp only [h1, Nat.sub_self, List.getElem_singleton]
      exact hx
def Opens (P : Program) (t : TypeId) {α : Type} (p : Pat α) : Prop :=
  p.size = P.cellsOf t ∧ ∀ {H : Type} (enc : TypeId × Value → H) (w : World) (base : Nat) (spare : Nat → Bool) (held : Bool) (fuel : Nat) (cs : List Value) (y : DataW H × List MemPlace),
    DataW.trod enc P w base spare held fuel t cs = some y → ∃ x, p.holds w cs x
section
variable {P : Program} {t e : TypeId} {α β : Type} {p : Pat α} {q : Pat β}
theorem Opens.i64 (ht : P.underlying t = some (.int .i64)) (hc : 1 = P.cellsOf t) : Opens P t Pat.i64 :=
  ⟨hc, fun enc w base spare held fuel cs y h => by
    obtain ⟨n, rfl, _, hw⟩ := DataW.trod_int ht h
    simp [Lit.wf, IntKind.min, IntKind.max, IntKind.signed, IntKind.bits] at hw
    exact ⟨n, rfl, hw⟩⟩
theorem Opens.u64 (ht : P.underlying t = some (.int .u64)) (hc : 1 = P.cellsOf t) : Opens P t Pat.u64 :=
  ⟨hc, fun enc w base spare held fuel cs y h => by
    obtain ⟨n, rfl, _, hw⟩ := DataW.trod_int ht h
    simp [Lit.wf, IntKind.min, IntKind.max, IntKind.signed, IntKind.bits] at hw
    exact ⟨BitVec.ofInt 64 n, by show [Value.int .u64 n] = [.int .u64 _]; rw [un_ofInt n (by omega)], trivial⟩⟩
theorem Opens.u8 (ht : P.underlying t = some (.int .u8)) (hc : 1 = P.cellsOf t) : Opens P t Pat.u8 :=
  ⟨hc, fun enc w base spare held fuel cs y h => by
    obtain ⟨n, rfl, _, hw⟩ := DataW.trod_int ht h
    simp [Lit.wf, IntKind.min, IntKind.max, IntKind.signed, IntKind.bits] at hw
    exact ⟨BitVec.ofInt 8 n, by show [Value.int .u8 n] = [.int .u8 _]; rw [ub_ofInt n (by omega)], trivial⟩⟩
theorem Opens.bool (ht : P.underlying t = some .bool) (hc : 1 = P.cellsOf t) : Opens P t Pat.bool :=
  ⟨hc, fun enc w base spare held fuel cs y h => by
    obtain ⟨b, rfl, _⟩ := DataW.trod_bool ht h
    exact ⟨b, rfl, trivial⟩⟩
theorem cell_spot {w : World} {a : Addr} {v : Value} (h : w.cell? a = some v) : a.spot = none := by
  cases hsp : a.spot with
  | none => rfl
  | some s =>
    simp only [World.cell?] at h
    split at h
    · simp [hsp] at h
    · cases h
theorem add_at {a : Addr} {i j : Nat} (h : ((a.add i).add j).spot = none) : (a.add i).add j = ⟨a.block, a.off + i + j, none⟩ := by
  obtain ⟨b, o, s⟩ := a
  unfold Addr.add at h ⊢
  by_cases h1 : i = 0 <;> by_cases h2 : j = 0 <;> simp_all
theorem Opens.slice (he : Opens P e p) (ht : P.underlying t = some (.slice e)) (hc : 1 = P.cellsOf t) (h0 : decide (0 < P.cellsOf e) = true) : Opens P t (Pat.slice p) :=
  ⟨hc, fun enc w base spare held fuel cs y h => by
    have h0 : 0 < P.cellsOf e := of_decide_eq_true h0
    rcases DataW.trod_slice ht h with ⟨rfl, _⟩ | ⟨a, len, cap, elems, rest, n, _, rfl, _, hb, hl, hm, hlen, hel, _, _⟩
    · exact ⟨[], _, rfl, ⟨none, 0, rfl, Nat.le_refl _, .inl ⟨rfl, fun _ => rfl⟩⟩, by simp⟩
    · have each : ∀ i, i < len → ∃ cs x, p.holds w cs x ∧ ∀ j (hj : j < cs.length), w.cell? ⟨a.block, a.off + i * p.size + j, none⟩ = some cs[j] := by
        intro i hi
        have h1 := hel i hi
        rw [List.getElem?_eq_getElem (by omega), Option.bind_eq_some_iff] at h1
        obtain ⟨cs, hcs, htr⟩ := h1
        obtain ⟨x, hx⟩ := he.2 _ _ _ _ _ _ _ _ htr
        obtain ⟨_, hcl, hcell⟩ := World.cells?_some hcs
        refine ⟨cs, x, hx, fun j hj => ?_⟩
        have h2 := hcell j (by omega)
        rw [List.getElem?_eq_getElem hj, ← he.1] at h2
        rw [← h2, add_at (cell_spot h2)]
      have each : ∀ i, i < len → ∃ x cs, p.holds w cs x ∧ ∀ j (hj : j < cs.length), w.cell? ⟨a.block, a.off + i * p.size + j, none⟩ = some cs[j] := fun i hi => by
        obtain ⟨cs, x, h⟩ := each i hi
        exact ⟨x, cs, h⟩
      obtain ⟨l, hl1, hl2⟩ := list_of each
      refine ⟨l, _, rfl, ?_, by omega⟩
      rcases Nat.eq_zero_or_pos len with hz | hz
      · subst hz
        obtain rfl := List.eq_nil_of_length_eq_zero hl1
        exact ⟨some a, cap, rfl, by simp, .inl ⟨rfl, fun h => by cases h⟩⟩
      · obtain ⟨cs, h1, h2⟩ := hl2 0 (by omega)
        have hcl : 0 < cs.length := by rw [p.len h1, he.1]; exact h0
        have h3 := h2 0 hcl
        have hb : a.block < w.heap.size := by
          rcases Nat.lt_or_ge a.block w.heap.size with h' | h'
          · exact h'
          · simp [World.cell?, Array.getElem?_eq_none h'] at h3
        have hsp : a.spot = none := by
          have h4 := hel 0 hz
          rw [List.getElem?_eq_getElem (by omega), Option.bind_eq_some_iff] at h4
          obtain ⟨cs', hcs, htr⟩ := h4
          obtain ⟨_, hcl', hcell⟩ := World.cells?_some hcs
          have h5 := hcell 0 h0
          rw [List.getElem?_eq_getElem (by omega)] at h5
          have := cell_spot h5
          simpa [Addr.add] using this
        refine ⟨some a, cap, by rw [hl1], by omega, .inr ⟨a.block, a.off, ?_, hb, hl2⟩⟩
        obtain ⟨b, o, s⟩ := a
        cases hsp; rfl⟩
structure OpensF (P : Program) (fs : List Field) (off : Nat) (p : Pat α) : Prop where
  out : ∀ (H : Type) (enc : TypeId × Value → H) (w : World) (base : Nat) (spare : Nat → Bool) (held : Bool) (fuel : Nat) (cs : List Value), cs.length = off + p.size →
    (∀ f ∈ fs, ∃ y : DataW H × List MemPlace, DataW.trod enc P w base spare held fuel f.type ((cs.drop f.offset).take (P.cellsOf f.type)) = some y) → ∃ x, p.holds w (cs.drop off) x
theorem OpensF.last {f : Field} {off : Nat} (h : Opens P f.type p) (ho : f.offset = off) : OpensF P [f] off p := by
  refine ⟨?_⟩
  intro H enc w base spare held fuel cs hl hf
  obtain ⟨y, hy⟩ := hf f (by simp)
  rw [ho, ← h.1, List.take_of_length_le (by simp; omega)] at hy
  exact h.2 _ _ _ _ _ _ _ _ hy
theorem OpensF.cons {f : Field} {fs : List Field} {off : Nat} (h : Opens P f.type p) (ho : f.offset = off) (k : OpensF P fs (off + p.size) q) : OpensF P (f :: fs) off (Pat.pair p q) := by
  refine ⟨?_⟩
  intro H enc w base spare held fuel cs hl hf
  obtain ⟨y, hy⟩ := hf f (by simp)
  rw [ho, ← h.1] at hy
  obtain ⟨x, hx⟩ := h.2 _ _ _ _ _ _ _ _ hy
  obtain ⟨z, hz⟩ := k.out _ enc w base spare held fuel cs (by rw [hl]; show off + (p.size + q.size) = _; omega) (fun g hg => hf g (by simp [hg]))
  refine ⟨(x, z), _, _, ?_, hx, hz⟩
  rw [← List.drop_drop, List.take_append_drop]
theorem Opens.struct {fs : Array Field} (ht : P.underlying t = some (.struct fs)) (hf : OpensF P fs.toList 0 p) (hc : p.size = P.cellsOf t) : Opens P t p :=
  ⟨hc, fun enc w base spare held fuel cs y h => by
    obtain ⟨xs, n, _, _, hl, hxl, hfs⟩ := DataW.trod_struct ht h
    have := hf.out _ enc w base spare held n cs (by omega) (fun f hf => by
      obtain ⟨i, hi, rfl⟩ := List.getElem_of_mem hf
      have hi' : i < fs.size := by simpa using hi
      have h1 := hfs i fs[i] (Array.getElem?_eq_getElem hi')
      rw [List.getElem?_eq_getElem (by omega)] at h1
      exact ⟨_, by simpa using h1⟩)
    simpa using this⟩
theorem Opens.agg {H : Type} {enc : TypeId × Value → H} {w : World} {r : Reach} {b0 base : Nat} {spare : Nat → Bool} {held : Bool} {v : Value} {d : DataW H} {ps : List MemPlace}
    (ho : Opens P t p) (ht : (match P.underlying t with | some (.struct _) | some (.array _ _) => true | _ => false) = true)
    (hv : Value.okWide P w r b0 t v) (h : DataW.Trod enc P w base spare held t v d ps) : ∃ cs x, v = .agg cs.toArray ∧ p.holds w cs x := by
  have key : ∃ cs : Array Value, v = .agg cs := by
    unfold Value.okWide at hv
    revert hv ht
    cases P.underlying t with
    | none => simp
    | some d => cases d <;> simp <;> intro x hx <;> intros <;> exact ⟨x, hx⟩
  obtain ⟨cs, rfl⟩ := key
  obtain ⟨fuel, hf⟩ := h
  obtain ⟨x, hx⟩ := ho.2 _ _ _ _ _ _ _ _ hf
  exact ⟨cs.toList, x, rfl, hx⟩
theorem Opens.cell {H : Type} {enc : TypeId × Value → H} {w : World} {r : Reach} {b0 base : Nat} {spare : Nat → Bool} {held : Bool} {v : Value} {d : DataW H} {ps : List MemPlace}
    (ho : Opens P t p) (ht : (match P.underlying t with | some (.slice _) | some (.int _) | some .bool => true | _ => false) = true)
    (hv : Value.okWide P w r b0 t v) (h : DataW.Trod enc P w base spare held t v d ps) : ∃ x, p.holds w [v] x := by
  have key : v.cells = #[v] := by
    unfold Value.okWide at hv
    revert hv ht
    cases hu : P.underlying t with
    | none => simp
    | some d => cases d <;> simp [Cell.okWide, hu, Cell.ok] <;> cases v <;> simp [Value.cells]
  obtain ⟨fuel, hf⟩ := h
  obtain ⟨x, hx⟩ := ho.2 _ _ _ _ _ _ _ _ hf
  rw [key] at hx
  exact ⟨x, hx⟩
end
theorem holds_u8 {w : World} {v : Value} {x : BitVec 8} (h : Pat.u8.holds w [v] x) : v = encB x := List.singleton_inj.1 h.1
end Go.Proofs.YtjabgpejmnpamaaGreatDoor

namespace Go.Proofs.YtjabgpejmnpamaaGreatDoor
open Go.RowKit
theorem grown_refl (w : World) (o : Option Nat) : w.grownBy w o := ⟨rfl, rfl, rfl, Nat.le_refl _, fun _ _ _ => rfl⟩
theorem grown_trans {w w1 w2 : World} {o : Option Nat} (h : w.grownBy w1 o) (k : w1.grownBy w2 o) : w.grownBy w2 o :=
  ⟨k.os.trans h.os, k.tape.trans h.tape, k.output.trans h.output, Nat.le_trans h.size k.size, fun i hi hne => (k.block i (Nat.lt_of_lt_of_le hi h.size) hne).trans (h.block i hi hne)⟩
theorem grown_set (w : World) (b o : Nat) (v : Value) : w.grownBy (w.setCell ⟨b, o, none⟩ v) (some b) :=
  ⟨rfl, rfl, rfl, by simp, fun k _ hk => Below.heap_setCell _ _ _ k (fun e => hk (by rw [e]))⟩
theorem grown_drew {w w' : World} {o : Option Nat} (h : w.grownBy w' o) : w.grownBy w'.drew o := ⟨h.os, h.tape, h.output, h.size, h.block⟩
theorem grown_ext {w w' : World} (h : Ext w w') (o : Option Nat) : w.grownBy w' o := ⟨h.os, h.tape, h.output, h.size, fun k hk _ => h.block k hk⟩
theorem bel_set {B : Nat} {w w' : World} {b : Nat} (h : Below B w w') (hb : B ≤ b) (o : Nat) (v : Value) : Below B w (w'.setCell ⟨b, o, none⟩ v) := Below.setCell h hb _
theorem own_shape {w : World} {base : Nat} {e : TypeId} {size : Nat} {v : Value} {n : Nat} {xs : List Value} (h : w.ownsRow base e size v n xs) : ∃ a c, v = .slice a n c := by
  rcases h.2 with ⟨rfl, h2⟩ | ⟨g, cap, cur, rfl, _⟩
  · obtain ⟨h1, _⟩ := h
    exact ⟨none, 0, by simp_all⟩
  · exact ⟨_, _, rfl⟩
theorem cell_new1 (w : World) (x : Value) (t : TypeId) : (w.alloc (.cells #[x] t)).cell? ⟨w.heap.size, 0, none⟩ = some x := by
  simp
theorem getD_in {α : Type} {l : List α} {k : Nat} {d : α} (h : k < l.length) : l.getD k d = l[k] := by
  rw [List.getD_eq_getElem?_getD, List.getElem?_eq_getElem h]; rfl
theorem getD_out {α : Type} {l : List α} {k : Nat} {d : α} (h : ¬ k < l.length) : l.getD k d = d := by
  rw [List.getD_eq_getElem?_getD, List.getElem?_eq_none (by omega)]; rfl
def BoxAt (w : World) (g : Nat) (cs : Array Value) (t : TypeId) : Prop := w.heap[g]? = some (.cells cs t (0, 0))
theorem BoxAt.lt {w : World} {g : Nat} {cs : Array Value} {t : TypeId} (h : BoxAt w g cs t) : g < w.heap.size := (Array.getElem?_eq_some_iff.1 h).1
theorem BoxAt.cell {w : World} {g : Nat} {cs : Array Value} {t : TypeId} (h : BoxAt w g cs t) (i : Nat) {v : Value} (hv : cs[i]? = some v) : w.cell? ⟨g, i, none⟩ = some v := by
  unfold World.cell?
  simp only [show w.heap[g]? = _ from h, Option.isSome_none, Bool.false_eq_true, if_false]
  simp [hv]
theorem BoxAt.free {w : World} {g : Nat} {cs : Array Value} {t : TypeId} (h : BoxAt w g cs t) (i : Nat) : w.frozen? ⟨g, i, none⟩ = false := frozen_of_row w g i _ t h
theorem BoxAt.set {w : World} {g : Nat} {cs : Array Value} {t : TypeId} (h : BoxAt w g cs t) (i : Nat) (v : Value) : BoxAt (w.setCell ⟨g, i, none⟩ v) g (cs.setIfInBounds i v) t := heap_setCell_same w g i _ t v h
theorem BoxAt.set_off {w : World} {g b : Nat} {cs : Array Value} {t : TypeId} (h : BoxAt w g cs t) (hb : g ≠ b) (i : Nat) (v : Value) : BoxAt (w.setCell ⟨b, i, none⟩ v) g cs t := (Below.heap_setCell _ _ _ g hb).trans h
theorem BoxAt.grown {w w' : World} {g : Nat} {cs : Array Value} {t : TypeId} (h : BoxAt w g cs t) {row : Option Nat} (hg : w.grownBy w' row) (hne : some g ≠ row) : BoxAt w' g cs t := (hg.block g h.lt hne).trans h
theorem BoxAt.ext {w w' : World} {g : Nat} {cs : Array Value} {t : TypeId} (h : BoxAt w g cs t) (e : Ext w w') : BoxAt w' g cs t := (e.block g h.lt).trans h
theorem BoxAt.new (w : World) (cs : Array Value) (t : TypeId) : BoxAt (w.alloc (.cells cs t)) w.heap.size cs t := heap_alloc_new _ _
def OwnG {α : Type} (enc : α → Value) (e : TypeId) (w : World) (base : Nat) (v : Value) (l : List α) : Prop := w.ownsRow base e 1 v l.length (l.map enc)
section
variable {α : Type} {enc : α → Value} {e : TypeId} {w w' : World} {base : Nat} {v : Value} {l : List α}
theorem OwnG.slice (h : OwnG enc e w base v l) : SliceAt enc w v l := SliceAt.of_owns h
theorem OwnG.nil : OwnG enc e w base (.slice none 0 0) ([] : List α) := World.ownsRow_nil _ _ _ _
theorem OwnG.kept (h : OwnG enc e w base v l) {row : Option Nat} (hg : w.grownBy w' row) (hne : v.ownBlock ≠ row ∨ v.ownBlock = none) : OwnG enc e w' base v l := World.ownsRow.kept h hg hne.symm
theorem OwnG.ext (h : OwnG enc e w base v l) (x : Ext w w') : OwnG enc e w' base v l :=
  World.ownsRow.kept h (grown_ext x none) (by cases v.ownBlock <;> simp)
theorem OwnG.lower {b' : Nat} (h : OwnG enc e w base v l) (hb : b' ≤ base) : OwnG enc e w b' v l :=
  ⟨h.1, h.2.imp id (fun ⟨g, cap, cur, hv, hg, r⟩ => ⟨g, cap, cur, hv, Nat.le_trans hb hg, r⟩)⟩
theorem OwnG.shape (h : OwnG enc e w base v l) : ∃ a c, v = .slice a l.length c := own_shape h
theorem OwnG.form (h : OwnG enc e w base v l) (hl : 0 < l.length) : ∃ g cap, v = .slice (some ⟨g, 0, none⟩) l.length (cap + 1) ∧ base ≤ g ∧ g < w.heap.size := by
  rcases h.2 with ⟨_, h2⟩ | ⟨g, cap, cur, h1, h2, h3, h4, _⟩
  · omega
  · obtain ⟨c, rfl⟩ : ∃ c, cap = c + 1 := ⟨cap - 1, by omega⟩
    exact ⟨g, c, h1, h2, (Array.getElem?_eq_some_iff.1 h3).1⟩
theorem OwnG.lt (h : OwnG enc e w base v l) : ∀ g, v.ownBlock = some g → base ≤ g ∧ g < w.heap.size := World.ownsRow.lt h
theorem OwnG.not_box {g : Nat} {cs : Array Value} {t : TypeId} (h : OwnG enc e w base v l) (hb : BoxAt w g cs t) (ht : t ≠ e) : v.ownBlock ≠ some g := by
  intro q
  rcases h.2 with ⟨h1, _⟩ | ⟨g', cap, cur, h1, h2, h3, _⟩
  · rw [h1] at q; simp [Value.ownBlock] at q
  · rw [h1] at q; simp [Value.ownBlock] at q
    subst q
    rw [show w.heap[g']? = _ from hb] at h3
    cases h3; exact ht rfl
theorem OwnG.put {q n c : Nat} (h : OwnG enc e w base (.slice (some ⟨q, 0, none⟩) n c) l) (hn : n = l.length) (k : Nat) (x : α) : OwnG enc e (w.setCell ⟨q, k, none⟩ (enc x)) base (.slice (some ⟨q, 0, none⟩) n c) (l.set k x) := by
  subst hn
  have := (World.ownsRow.stored h k (enc x)).1
  show World.ownsRow _ _ _ _ _ _ _
  rw [List.length_set, List.map_set]; exact this
theorem OwnG.off {q : Nat} (h : OwnG enc e w base v l) (hne : v.ownBlock ≠ some q) (k : Nat) (y : Value) : OwnG enc e (w.setCell ⟨q, k, none⟩ y) base v l :=
  World.ownsRow.kept h (grown_set w q k y) (.inr hne)
theorem OwnG.at {q n c k : Nat} (h : OwnG enc e w base (.slice (some ⟨q, 0, none⟩) n c) l) (hn : n = l.length) (hk : k < l.length) : w.cell? ⟨q, k, none⟩ = some (enc l[k]) := by
  subst hn
  rw [World.ownsRow.cellAt h k (by omega)]
  simp [hk]
theorem OwnG.frees {q n c : Nat} (h : OwnG enc e w base (.slice (some ⟨q, 0, none⟩) n c) l) (hn : n = l.length) (j : Nat) : w.frozen? ⟨q, j, none⟩ = false := by
  subst hn
  exact World.ownsRow.frozenAt h j
theorem OwnG.app {r : List α} (h : w.ownsRow base e 1 v (l.length + r.length) (l.map enc ++ r.map enc)) : OwnG enc e w base v (l ++ r) := by
  show World.ownsRow _ _ _ _ _ _ _
  rw [List.length_append, List.map_append]; exact h
theorem OwnG.snoc {x : α} (h : w.ownsRow base e 1 v (l.length + 1) (l.map enc ++ [enc x])) : OwnG enc e w base v (l ++ [x]) := OwnG.app (r := [x]) h
theorem OwnG.lit (w : World) (l : List α) (e : TypeId) (base : Nat) (hb : base ≤ w.heap.size) (hm : l.length ≤ maxLen) (cs : Array Value) (hc : cs = (l.map enc).toArray) : OwnG enc e (w.alloc (.cells cs e)) base (.slice (some ⟨w.heap.size, 0, none⟩) l.length l.length) l := by
  subst hc
  have := World.ownsRow_lit (base := base) (e := e) (size := 1) w (l.map enc).toArray l.length hb hm (by simp)
  simpa [OwnG] using this
end
theorem wpList_append_one {P : Program} {w : World} {ops : Array Oper} {rest : List Oper} {o : Oper} {a : Act} {Q : Exit → Act → World → Prop} (hgd : o.guard = none) (s x : Operand) (t : TypeId)
    (ho : o.op = .call { callee := .builtin .append, args := #[s, x], argTypes := #[t, t] })
    (base : Nat) (e : TypeId) (i : TypeInfo) (z : Value) (bytes : Nat) (ht : P.underlying t = some (.slice e)) (hi : P.info? e = some i) (hz : i.zero = some z)
    (hsize : i.size = 1) (hby : i.bytes = bytes) (hzs : z.cells.size = 1)
    (v : Value) (n : Nat) (xs : List Value) (hs : a.eval s = v) (hown : w.ownsRow base e 1 v n xs) (ad : Addr) (y : Value) (hy : y.oneCell' = true) (hx : a.eval x = .slice (some ad) 1 1) (hsrc : w.cell? ad = some y)
    (h63 : n + 1 ≤ maxLen) (hbytes : (n + 1) * bytes ≤ 140737488355328) (hbase : base ≤ w.heap.size)
    (h : ∀ v' w', w'.ownsRow base e 1 v' (n + 1) (xs ++ [y]) → w.grownBy w' v.ownBlock → (v'.ownBlock = v.ownBlock ∨ v'.ownBlock = some w.heap.size) → wpList P ops Q rest (a.put o.dst v') w') : wpList P ops Q (o :: rest) a w := by
  refine wpList_append_own_at w hgd s x t ho base e i z 1 bytes ht hi hz hsize hby hzs (by decide) v n xs hs hown ad 1 1 [y] hx rfl ?_ ?_ h63 hbytes hbase (fun v' w' h1 h2 _ h4 => h v' w' h1 h2 h4)
  · intro j u hj
    match j, hj with
    | 0, hj =>
      simp at hj
      subst hj
      exact hsrc
  · intro u hu
    simp at hu
    subst hu
    exact hy
theorem fix_last {P : Program} {l : List Oper} {Q : Exit → Act → World → Prop} {i : Nat} {o : Oper} {S : World → Prop} {a : Act} {w : World} (ho : nth l i = some o) (hw : Region.wanted o (yielded l.toArray a.tmps) = true) (hc : coversB .any l.toArray i = true)
    (k : ∀ K : Act → World → Prop, (∀ a' w', Q .normal a' w' → K a' w') → o.wp P a w K (Calm Q)) : wpFix P l Q [(i, false)] S a w :=
  ord_do (nth_get ho) hw fun K hK => k K fun a' w' h2 => hK (fun _ => True) a' w' (.inr hc) trivial h2
theorem SliceAt.get {α : Type} {enc : α → Value} {w : World} {ad : Option Addr} {n cap : Nat} {l : List α} (h : SliceAt enc w (.slice ad n cap) l) (k : Nat) (hk : k < l.length) : ∃ b off, ad = some ⟨b, off, none⟩ ∧ b < w.heap.size ∧ w.cell? ⟨b, off + k, none⟩ = some (enc l[k]) := by
  obtain ⟨ad', cap', hv, hca, h⟩ := h
  injection hv with h1 h2 h3
  subst h1
  rcases h with ⟨h0, _⟩ | ⟨b, off, h4, h5, h6⟩
  · rw [h0] at hk; simp at hk
  · exact ⟨b, off, h4, h5, h6 k hk⟩
theorem SliceAt.shape {α : Type} {enc : α → Value} {w : World} {v : Value} {l : List α} (h : SliceAt enc w v l) : ∃ a c, v = .slice a l.length c := by
  obtain ⟨a, c, h1, _⟩ := h; exact ⟨a, c, h1⟩
end Go.Proofs.YtjabgpejmnpamaaGreatDoor

namespace Go.Proofs.YtjabgpejmnpamaaGreatDoor
open Go.RowKit
def subA (a : Option Addr) (lo cap : Nat) : Option Addr := if cap = lo then a else a.map (·.add lo)
theorem SliceAt.cut {α : Type} {enc : α → Value} {w : World} {a : Option Addr} {n cap : Nat} {l : List α} (h : SliceAt enc w (.slice a n cap) l) (lo hi : Nat) (h1 : lo ≤ hi) (h2 : hi ≤ l.length) :
    SliceAt enc w (.slice (subA a lo cap) (hi - lo) (cap - lo)) ((l.drop lo).take (hi - lo)) := by
  have hl : ((l.drop lo).take (hi - lo)).length = hi - lo := by rw [List.length_take, List.length_drop]; omega
  obtain ⟨ad, c, hv, hca, h⟩ := h
  injection hv with e1 e2 e3
  subst e1 e2 e3
  refine ⟨_, _, by rw [hl], by rw [hl]; omega, ?_⟩
  rcases h with ⟨h0, hc⟩ | ⟨b, off, e4, e5, e6⟩
  · subst h0
    have hlo : lo = 0 := by simp at h2; omega
    subst hlo
    left
    refine ⟨by simp, fun hn => ?_⟩
    unfold subA at hn
    split at hn
    · rw [hc hn]
    · cases a with
      | none => rw [hc rfl]
      | some a => simp at hn
  · by_cases hz : hi - lo = 0
    · left
      refine ⟨List.eq_nil_of_length_eq_zero (by rw [hl]; exact hz), fun hn => ?_⟩
      unfold subA at hn
      rw [e4] at hn
      split at hn <;> simp at hn
    · right
      refine ⟨b, off + lo, ?_, e5, fun i hi' => ?_⟩
      · unfold subA
        rw [if_neg (by omega), e4, Option.map_some, add_plain]
      · rw [hl] at hi'
        rw [Nat.add_assoc, e6 (lo + i) (by omega), List.getElem_take, List.getElem_drop]
theorem SliceAt.cutA {α : Type} {enc : α → Value} {w : World} {a : Option Addr} {n cap : Nat} {l : List α} (h : SliceAt enc w (.slice a n cap) l) (lo hi : Nat) (h1 : lo ≤ hi) (h2 : hi ≤ l.length) :
    ∃ A, (if cap = lo then a else Option.map (fun x => x.add lo) a) = A ∧ SliceAt enc w (.slice A (hi - lo) (cap - lo)) ((l.drop lo).take (hi - lo)) :=
  ⟨_, rfl, h.cut lo hi h1 h2⟩
end Go.Proofs.YtjabgpejmnpamaaGreatDoor
