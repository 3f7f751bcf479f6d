/-
  A new row of uint64 made by an append onto a literal without elements: all cells of its block are numbers. No program is named here.
-/
import Derived.Test.YtdhlikjdcnfkpaaBox
import Derived.Laws.AppendOwn
namespace Go.Proofs.Ytdhlikjdcnfkpaa
open Go.RowKit
set_option linter.unusedVariables false

/-- all cells of a block are numbers -/
def IntsAt (w : World) (g : Nat) : Prop := ∀ o v, w.cell? ⟨g, o, none⟩ = some v → ∃ x : BitVec 64, v = encU x
theorem IntsAt.ext {w w' : World} {g : Nat} (h : IntsAt w g) (e : Ext w w') (hg : g < w.heap.size) : IntsAt w' g := fun o v hv => h o v (by rw [← e.cell g o hg]; exact hv)
theorem IntsAt.set {w : World} {g o : Nat} {u : Value} (h : IntsAt w g) (hc : w.cell? ⟨g, o, none⟩ = some u) (x : BitVec 64) : IntsAt (w.setCell ⟨g, o, none⟩ (encU x)) g := by
  intro o' v hv
  by_cases ho : o = o'
  · subst ho
    rw [set_same hc] at hv; exact ⟨x, (Option.some.inj hv).symm⟩
  · rw [set_off ho] at hv; exact h o' v hv
theorem ints_box {w : World} {g : Nat} {cs : Array Value} {t : TypeId} (h : BoxAt w g cs t) (hc : ∀ v ∈ cs.toList, ∃ x : BitVec 64, v = encU x) : IntsAt w g := by
  intro o v hv
  unfold World.cell? at hv
  simp only [show w.heap[g]? = _ from h, Option.isSome_none, Bool.false_eq_true, if_false] at hv
  exact hc v (by rw [Array.mem_toList_iff]; exact Array.mem_of_getElem? hv)
theorem zeroCells_mem (k : Nat) : ∀ v ∈ (Builtin.zeroCells #[encU 0#64] k).toList, v = encU 0#64 := by
  intro v hv
  unfold Builtin.zeroCells at hv
  rw [Array.toList_map, List.mem_map] at hv
  obtain ⟨i, _, rfl⟩ := hv
  simp [Nat.mod_one]

/-- append of a slice of numbers onto a literal without elements -/
theorem wpList_append_u64 {P : Program} {w : World} {ops : Array Oper} {rest : List Oper} {o : Oper} {a : Act} {Q : Exit → Act → World → Prop}
    (hgd : o.guard = none) (s x : Operand) (t : TypeId) (ho : o.op = .call { callee := .builtin .append, args := #[s, x], argTypes := #[t, t] })
    (e : TypeId) (i : TypeInfo) (bytes : Nat) (ht : P.underlying t = some (.slice e)) (hi : P.info? e = some i) (hz : i.zero = some (.int .u64 0)) (hsize : i.size = 1) (hby : i.bytes = bytes)
    (base q : Nat) (hs : a.eval s = .slice (some ⟨q, 0, none⟩) 0 0) (hq : BoxAt w q #[] e) (hbq : base ≤ q) (hbase : base ≤ w.heap.size)
    (vx : Value) (l : List (BitVec 64)) (hx : a.eval x = vx) (hsrc : SliceAt encU w vx l) (h63 : l.length ≤ maxLen) (hbytes : l.length * bytes ≤ 140737488355328)
    (h : ∀ g c w', OwnG encU e w' base (.slice (some ⟨g, 0, none⟩) l.length c) l → Ext w w' → IntsAt w' g → base ≤ g → g < w'.heap.size → wpList P ops Q rest (a.put o.dst (.slice (some ⟨g, 0, none⟩) l.length c)) w') : wpList P ops Q (o :: rest) a w := by
  have hown : OwnG encU e w base (.slice (some ⟨q, 0, none⟩) 0 0) [] := ⟨rfl, .inr ⟨q, 0, #[], rfl, hbq, hq, Nat.le_refl _, Nat.zero_le _, rfl, rfl⟩⟩
  cases l with
  | nil =>
    obtain ⟨ad, cap, rfl, _, hsrc⟩ := hsrc
    have key : wpList P ops Q rest (a.put o.dst (.slice (some ⟨q, 0, none⟩) 0 0)) w := h q 0 w hown (Ext.refl _) (ints_box hq (by simp)) hbq hq.lt
    cases ad with
    | none =>
      rcases hsrc with ⟨_, hc⟩ | ⟨b, off, hn, _⟩
      · rw [hc rfl] at hx
        exact wpList_append_own_none hgd s x t ho base e i 1 ht hi _ 0 [] hs hown (by simpa using hx) key
      · cases hn
    | some ad =>
      refine wpList_plain hgd fun K hK => ?_
      have hrun := run_append_room_cells (P := P) w t o.type e i ht hi q 0 0 0 ad 0 cap [] (by simp) (by simp) (by simp) (Nat.le_refl _) (by simp) (by simp)
      unfold Oper.wp
      simp [execOp, ho, resolve, invoke, builtin, hs, hx, hrun, Result.andThen]
      exact hK _ _ key
  | cons y l =>
    obtain ⟨ad, cap, rfl, _, hsrc⟩ := hsrc
    rcases hsrc with ⟨h0, _⟩ | ⟨b, off, rfl, hb, hc⟩
    · cases h0
    · refine wpList_plain hgd fun K hK => ?_
      have hn : (y :: l).length = l.length + 1 := rfl
      have hsmall : (y :: l).length ≤ 9223372036854775807 := by unfold maxLen at h63; omega
      have hnews : ∀ j u, ((y :: l).map encU)[j]? = some u → w.cell? ((⟨b, off, none⟩ : Addr).add j) = some u := by
        intro j u hj
        have hjl : j < (y :: l).length := by
          rcases Nat.lt_or_ge j (y :: l).length with h' | h'
          · exact h'
          · rw [List.getElem?_eq_none (by simpa using h')] at hj; cases hj
        have : u = encU (y :: l)[j] := by rw [List.getElem?_map, List.getElem?_eq_getElem hjl] at hj; exact (Option.some.inj hj).symm
        rw [this, add_plain]; exact hc j hjl
      have hrun := run_append_grow (P := P) w t o.type e i (.int .u64 0) ht hi hz ⟨q, 0, none⟩ 0 0 [] (by simp) (by simp) ⟨b, off, none⟩ (y :: l).length cap ((y :: l).map encU) (by rw [hsize]; simp) hnews (by omega) (by omega) (growslice_fits (by omega) (by rw [hby]; simpa using hbytes))
      have hge := grownCap_ge w (0 + (y :: l).length) 0 e
      have hcm : grownCap w (0 + (y :: l).length) 0 e ≤ maxLen := grownCap_le_maxLen w (0 + (y :: l).length) 0 e (by simpa using h63)
      have hbx : BoxAt (w.drew.alloc (.cells (([] : List Value).toArray ++ ((y :: l).map encU).toArray ++ Builtin.zeroCells (Value.int .u64 0).cells (grownCap w (0 + (y :: l).length) 0 e - (0 + (y :: l).length))) e)) w.heap.size (([] : List Value).toArray ++ ((y :: l).map encU).toArray ++ Builtin.zeroCells (Value.int .u64 0).cells (grownCap w (0 + (y :: l).length) 0 e - (0 + (y :: l).length))) e := heap_alloc_new w.drew _
      have hext : Ext w (w.drew.alloc (.cells (([] : List Value).toArray ++ ((y :: l).map encU).toArray ++ Builtin.zeroCells (Value.int .u64 0).cells (grownCap w (0 + (y :: l).length) 0 e - (0 + (y :: l).length))) e)) := (Ext.drew w).trans (Ext.alloc _ _)
      have hints : IntsAt (w.drew.alloc (.cells (([] : List Value).toArray ++ ((y :: l).map encU).toArray ++ Builtin.zeroCells (Value.int .u64 0).cells (grownCap w (0 + (y :: l).length) 0 e - (0 + (y :: l).length))) e)) w.heap.size := by
        refine ints_box hbx fun v hv => ?_
        rw [Array.toList_append, List.mem_append, Array.toList_append, List.mem_append] at hv
        rcases hv with (hv | hv) | hv
        · simp at hv
        · have hv2 : v ∈ (y :: l).map encU := hv
          obtain ⟨x, _, rfl⟩ := List.mem_map.1 hv2
          exact ⟨x, rfl⟩
        · exact ⟨0#64, zeroCells_mem _ v hv⟩
      have hown2 : OwnG encU e (w.drew.alloc (.cells (([] : List Value).toArray ++ ((y :: l).map encU).toArray ++ Builtin.zeroCells (Value.int .u64 0).cells (grownCap w (0 + (y :: l).length) 0 e - (0 + (y :: l).length))) e)) base (.slice (some ⟨w.heap.size, 0, none⟩) (0 + (y :: l).length) (grownCap w (0 + (y :: l).length) 0 e)) (y :: l) := by
        refine ⟨by simp, .inr ⟨w.heap.size, _, _, by rw [Nat.zero_add], hbase, hbx, by omega, hcm, ?_, ?_⟩⟩
        · simp only [Array.size_append, List.size_toArray, size_zeroCells, List.length_nil, List.length_map, Nat.mul_one, show (Value.int IntKind.u64 0).cells.size = 1 from rfl]
          omega
        · simp only [Array.toList_append, Nat.mul_one]
          rw [show ([] : List Value) ++ (y :: l).map encU ++ (Builtin.zeroCells (Value.int .u64 0).cells (grownCap w (0 + (y :: l).length) 0 e - (0 + (y :: l).length))).toList = (y :: l).map encU ++ (Builtin.zeroCells (Value.int .u64 0).cells (grownCap w (0 + (y :: l).length) 0 e - (0 + (y :: l).length))).toList by simp]
          exact List.take_left' (by simp)
      have hw := h w.heap.size (grownCap w (0 + (y :: l).length) 0 e) _ (by rw [Nat.zero_add] at hown2 ⊢; exact hown2) hext hints hbase hbx.lt
      unfold Oper.wp
      simp only [execOp, ho, resolve, invoke, builtin, Sem.run_bind, Sem.run_pure, Result.andThen_ok, List.map_toArray, List.map_cons, List.map_nil, hs, hx, hrun]
      rw [Nat.zero_add] at *
      exact hK _ _ hw
end Go.Proofs.Ytdhlikjdcnfkpaa
