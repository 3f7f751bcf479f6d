/-
  Chapter 30 (label): Same of the reference.
-/
import Derived.Test.YthjcdikpomlpmaaLbJ
import Derived.Test.YthjcdikpomlpmaaLbM
namespace Go.Proofs.Ythjcdikpomlpmaa
open Go.RowKit
set_option linter.unusedVariables false

/-- two labels are equal, Disk too -/
def sameB (a b : Lab) (x y : List Bool) : Bool := (a.disk == b.disk) && eqL a b x y
theorem sameB_refl (a : Lab) (x : List Bool) : sameB a a x x = true := by
  unfold sameB
  rw [Bool.and_eq_true]
  exact ⟨by simp, eqL_iff.2 ⟨rfl, rfl⟩⟩
set_option maxRecDepth 100000 in
set_option maxHeartbeats 1000000 in
theorem same_any (a b : Lab) (v1 v2 : Value) (x y : List Bool) (w : World) (hlx : x.length ≤ 100000) (hly : y.length ≤ 100000) (hx : SliceAt Value.bool w v1 x) (hy : SliceAt Value.bool w v2 y) :
    Calls Try.prog 24 #[labV a v1, labV b v2] w (BoolEnd w (sameB a b x y)) := by
  have HE := Lib.hid (fun w' (e : Ext w w') => requal_any a b v1 v2 x y w' hlx hly (hx.ext e) (hy.ext e))
  obtain ⟨a1, c1, rfl⟩ := hx.shape
  obtain ⟨a2, c2, rfl⟩ := hy.shape
  have HS : Hid (sameB a b x y = ((a.disk == b.disk) && eqL a b x y)) := rfl
  generalize x.length = p at *
  generalize y.length = q at *
  have HB1 : Hid (BoxAt ((w.alloc (.cells (labA a (.slice a1 p c1)) 29)).alloc (.cells (labA b (.slice a2 q c2)) 29)) w.heap.size (labA a (.slice a1 p c1)) 29) := (BoxAt.new w _ _).ext (Ext.alloc _ _)
  have HB2 : Hid (BoxAt ((w.alloc (.cells (labA a (.slice a1 p c1)) 29)).alloc (.cells (labA b (.slice a2 q c2)) 29)) (w.heap.size + 1) (labA b (.slice a2 q c2)) 29) := by
    have := BoxAt.new (w.alloc (.cells (labA a (.slice a1 p c1)) 29)) (labA b (.slice a2 q c2)) 29
    rwa [World.size_alloc] at this
  have HX1 : Hid (Ext w ((w.alloc (.cells (labA a (.slice a1 p c1)) 29)).alloc (.cells (labA b (.slice a2 q c2)) 29))) := (Ext.alloc _ _).trans (Ext.alloc _ _)
  have k1 := HB1.out.cell 1 (v := .int .i64 a.disk) rfl
  have k2 := HB2.out.cell 1 (v := .int .i64 b.disk) rfl
  have l1 := HB1.out.lt
  have l2 := HB2.out.lt
  generalize sameB a b x y = Z at *
  generalize eqL a b x y = E at *
  clear hx hy hlx hly
  go_enter Try.func24, Try.ntmps24
  go_upto_region 1 with fail
  generalize (w.alloc (.cells (labA a (.slice a1 p c1)) 29)).alloc (.cells (labA b (.slice a2 q c2)) 29) = w1 at *
  by_cases hd : a.disk = b.disk
  · have d1 : (a.disk == b.disk) = true := by rw [beq_iff_eq]; exact hd
    rw [d1, Bool.true_and] at HS
    clear hd
    go_wp2_with (first | (refine wpList_loadR 29 _ rfl (by rfl) rfl (LabAt.of_box HB1.out).load ?_) | (refine wpList_loadR 29 _ rfl (by rfl) rfl (LabAt.of_box HB2.out).load ?_))
    go_at_call 20
    refine (HE.out _ HX1.out).mono ?_
    rintro e w3 ⟨rfl, hb3⟩
    have HX3 : Hid (Ext w w3) := HX1.out.trans hb3
    clear hb3
    go_wp2_with fail
    go_ret
    exact ⟨by rw [HS.out]; rfl, HX3.out⟩
  · have d1 : (a.disk == b.disk) = false := by rw [beq_eq_false_iff_ne]; exact hd
    rw [d1, Bool.false_and] at HS
    clear hd
    go_wp2_with fail
    go_ret
    exact ⟨by rw [HS.out]; rfl, HX1.out⟩
end Go.Proofs.Ythjcdikpomlpmaa
