/-
  A drawn region walked in a tree of orders, the memory that the region began with being the condition throughout: stores into new blocks are let by. No program is named here.
-/
import Derived.Test.YtdhlikjdcnfkpaaAlt
namespace Go.Proofs.Ytdhlikjdcnfkpaa
open Go.RowKit
section
variable {P : Program} {l : List Oper} {Q : Exit → Act → World → Prop} {i : Nat} {o : Oper} {r : OT} {a : Act} {b w : World} {v : Value}
theorem extT_doB (ho : nth l i = some o) (hw : Region.wanted o (yielded l.toArray a.tmps) = true)
    (k : ∀ K : Act → World → Prop, (∀ a' w', Ext b w' → wpExtT P l Q r b a' w' → K a' w') → o.wp P a w K (Calm Q)) : wpExtT P l Q (.one i r) b a w := by
  unfold wpExtT wpT
  exact opT_do hw ho (k _ fun _ w' h1 h2 => ⟨Ext b, .inl fun _ hx => hx, h1, h2⟩)
theorem wp_region_extTB {id : Nat} (t : OT) (hm : P.follows .mixedOrders = true)
    (hB : (Region.noSelect l.toArray && ordT .any l.toArray t (Array.replicate l.length false) && (t.size == l.length)) = true)
    (h : ∀ wc, Ext w wc → wpExtT P l Q t w a wc) : (Code.region id l.toArray true).wp P Q a w := wp_region_extT t hm hB (h _ (Ext.drew _))
theorem extT_twoB {j : Nat} {p : Oper} {t u : OT} (ho : nth l i = some o) (hp : nth l j = some p) (hw : Region.wanted o (yielded l.toArray a.tmps) = true) (hv : Region.wanted p (yielded l.toArray a.tmps) = true)
    (k : ∀ K : Act → World → Prop, (∀ a' w', Ext b w' → wpExtT P l Q t b a' w' → K a' w') → o.wp P a w K (Calm Q))
    (m : ∀ K : Act → World → Prop, (∀ a' w', Ext b w' → wpExtT P l Q u b a' w' → K a' w') → p.wp P a w K (Calm Q)) : wpExtT P l Q (.two i j t u) b a w :=
  ⟨opT_do hw ho (k _ fun _ w' h1 h2 => ⟨Ext b, fun _ hx => hx, h1, h2⟩), opT_do hv hp (m _ fun _ w' h1 h2 => ⟨Ext b, fun _ hx => hx, h1, h2⟩)⟩
end
end Go.Proofs.Ytdhlikjdcnfkpaa
