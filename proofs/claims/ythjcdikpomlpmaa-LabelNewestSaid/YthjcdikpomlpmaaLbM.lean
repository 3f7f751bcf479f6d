/-
  Chapter 30 (label): labels in memory: a box, an element of a list.
-/
import Derived.Test.YthjcdikpomlpmaaLbD
import Derived.Deep.MidRow
namespace Go.Proofs.Ythjcdikpomlpmaa
open Go.RowKit
set_option linter.unusedVariables false

/-- the cells of a label lie in block g from offset o on -/
def LabAt (w : World) (g o : Nat) (l : Lab) (d : Value) : Prop := w.rangeAt g o (labA l d).toList ∧ g < w.heap.size
theorem LabAt.ext {w w' : World} {g o : Nat} {l : Lab} {d : Value} (h : LabAt w g o l d) (e : Ext w w') : LabAt w' g o l d :=
  ⟨fun j v hv => by rw [Below.cell (p := ⟨g, o + j, none⟩) e h.2]; exact h.1 j v hv, Nat.lt_of_lt_of_le h.2 e.size⟩
theorem LabAt.of_box {w : World} {g : Nat} {l : Lab} {d : Value} {t : TypeId} (h : BoxAt w g (labA l d) t) : LabAt w g 0 l d :=
  ⟨fun j v hv => by rw [Nat.zero_add]; exact h.cell j (by simpa using hv), h.lt⟩
theorem LabAt.cell {w : World} {g o : Nat} {l : Lab} {d : Value} (h : LabAt w g o l d) (i : Nat) {v : Value} (hv : (labA l d)[i]? = some v) : w.cell? ⟨g, o + i, none⟩ = some v := h.1 i v (by simpa using hv)
theorem LabAt.cell0 {w : World} {g : Nat} {l : Lab} {d : Value} (h : LabAt w g 0 l d) (i : Nat) {v : Value} (hv : (labA l d)[i]? = some v) : w.cell? ⟨g, i, none⟩ = some v := by
  have := h.cell i hv
  rwa [Nat.zero_add] at this
theorem info_lab : (Try.prog.info? 29).map (·.size) = some 19 := by kernel_rfl
theorem info_cfg : (Try.prog.info? 26).map (·.size) = some 11 := by kernel_rfl
theorem LabAt.load {w : World} {g o : Nat} {l : Lab} {d : Value} (h : LabAt w g o l d) :
    (Instr.loadAt 29 (.pointer (some ⟨g, o, none⟩))).run Try.prog w = .ok (labV l d) w :=
  run_loadAt_mid w g o _ (labA l d).toList _ h.1 Try.underlying29 rfl info_lab
theorem LabAt.cfg {w : World} {g o : Nat} {l : Lab} {d : Value} (h : LabAt w g o l d) :
    (Instr.loadAt 26 (.pointer (some ⟨g, o + 4, none⟩))).run Try.prog w = .ok (cfgV l.c) w :=
  run_loadAt_mid w g (o + 4) _ [.int .i64 l.c.d, .int .i64 l.c.w, .int .i64 l.c.t, .int .i64 l.c.s, .int .i64 l.c.r, .int .i64 l.c.b, .int .i64 l.c.k, .int .i64 l.c.c, .int .i64 l.c.o, .int .i64 l.c.a, .int .i64 l.c.g] _
    (fun j v hv => by
      rw [Nat.add_assoc]
      refine h.1 (4 + j) v ?_
      obtain ⟨hj, rfl⟩ := List.getElem?_eq_some_iff.1 hv
      simp only [List.length_cons, List.length_nil] at hj
      match j, hj with
      | 0, _ => rfl
      | 1, _ => rfl
      | 2, _ => rfl
      | 3, _ => rfl
      | 4, _ => rfl
      | 5, _ => rfl
      | 6, _ => rfl
      | 7, _ => rfl
      | 8, _ => rfl
      | 9, _ => rfl
      | 10, _ => rfl)
    Try.underlying26 rfl info_cfg
/-- a load whose run is known, in a list of operations -/
theorem wpList_loadR {P : Program} {ops : Array Oper} {rest : List Oper} {o : Oper} {a : Act} {w : World} {Q : Exit → Act → World → Prop} (ty : TypeId) (x : Operand) (ho : o.op = .load ty x)
    (hw : Region.wanted o (yielded ops a.tmps) = true) {p v : Value} (hx : a.eval x = p) (hl : (Instr.loadAt ty p).run P w = .ok v w)
    (h : wpList P ops Q rest (a.put o.dst v) w) : wpList P ops Q (o :: rest) a w := by
  refine wpList_step fun K hK => ?_
  rw [if_pos hw]
  unfold Oper.wp execOp
  simp only [ho, hx, Sem.run_bind, Sem.run_pure, Result.andThen_ok, hl]
  exact hK _ _ h
end Go.Proofs.Ythjcdikpomlpmaa
