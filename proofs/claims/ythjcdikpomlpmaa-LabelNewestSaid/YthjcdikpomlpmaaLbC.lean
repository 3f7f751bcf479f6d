/-
  Chapter 30 (label): labels; dead.
-/
import Derived.Test.YthjcdikpomlpmaaLbA
namespace Go.Proofs.Ythjcdikpomlpmaa
open Go.RowKit
set_option linter.unusedVariables false

/-- a label but for its list of disks out of service -/
structure Lab where
  array : BitVec 64
  disk : Int
  gen : BitVec 64
  prev : BitVec 64
  c : Cfg
  blob : Int
  sum : BitVec 64
  root : BitVec 64
/-- a label's value: d is the list of disks out of service -/
abbrev labV (l : Lab) (d : Value) : Value := .agg #[encU l.array, .int .i64 l.disk, encU l.gen, encU l.prev, .int .i64 l.c.d, .int .i64 l.c.w, .int .i64 l.c.t, .int .i64 l.c.s, .int .i64 l.c.r, .int .i64 l.c.b, .int .i64 l.c.k, .int .i64 l.c.c, .int .i64 l.c.o, .int .i64 l.c.a, .int .i64 l.c.g, d, .int .i64 l.blob, encU l.sum, encU l.root]
abbrev labA (l : Lab) (d : Value) : Array Value := #[encU l.array, .int .i64 l.disk, encU l.gen, encU l.prev, .int .i64 l.c.d, .int .i64 l.c.w, .int .i64 l.c.t, .int .i64 l.c.s, .int .i64 l.c.r, .int .i64 l.c.b, .int .i64 l.c.k, .int .i64 l.c.c, .int .i64 l.c.o, .int .i64 l.c.a, .int .i64 l.c.g, d, .int .i64 l.blob, encU l.sum, encU l.root]
def deadN (l : List Bool) (n : Nat) : Nat := ((l.take n).filter id).length
theorem deadN_succ {l : List Bool} {n : Nat} (h : n < l.length) : deadN l (n + 1) = deadN l n + (if l[n] then 1 else 0) := by
  unfold deadN
  rw [List.take_succ_eq_append_getElem h, List.filter_append, List.length_append]
  cases l[n] <;> simp
theorem deadN_le (l : List Bool) (n : Nat) : deadN l n ≤ n := Nat.le_trans (List.length_filter_le _ _) (by rw [List.length_take]; omega)

set_option maxRecDepth 100000 in
set_option maxHeartbeats 1000000 in
theorem dead_any (l : Lab) (dv : Value) (ds : List Bool) (w : World) (hl : ds.length ≤ 100000) (h : SliceAt Value.bool w dv ds) :
    Calls Try.prog 38 #[labV l dv] w fun e w' => e = .returned (.int .i64 (deadN ds ds.length : Nat)) ∧ Below w.heap.size w w' := by
  obtain ⟨ad, cap, rfl⟩ := h.shape
  have HS := Lib.hid h
  have HX : Hid (Ext w (w.alloc (.cells (labA l (.slice ad ds.length cap)) 29))) := Ext.alloc _ _
  have HB : Hid (BoxAt (w.alloc (.cells (labA l (.slice ad ds.length cap)) 29)) w.heap.size (labA l (.slice ad ds.length cap)) 29) := BoxAt.new _ _ _
  obtain ⟨n, hn⟩ : ∃ n, ds.length = n := ⟨_, rfl⟩
  have HN := Lib.hid hn
  have hdl := deadN_le ds
  rw [hn] at hl ⊢
  rw [hn] at HS HX HB
  clear h hn
  go_enter Try.func38, Try.ntmps38
  go_wp2_with fail
  go_loopw [3, 9] (fun cv iv wr => ∃ i : Nat, i ≤ n ∧ iv = .int .i64 i ∧ cv = .int .i64 (deadN ds i : Nat) ∧ Hid (Ext w wr)) (fun _ iv _ => n - (intOf iv).toNat)
  case atStart => exact ⟨0, Nat.zero_le _, rfl, by simp [deadN], HX⟩
  case round =>
    obtain ⟨i, hi, rfl, rfl, HXr⟩ := hrel
    by_cases hlt : i < n
    · have hin : (i : Int) < (n : Int) := by omega
      obtain ⟨b, off, rfl, hb, hc⟩ := (HS.out.ext HXr.out).get i (by rw [HN.out]; exact hlt)
      have HD := Lib.hid (deadN_succ (l := ds) (n := i) (by rw [HN.out]; exact hlt))
      have hd2 := hdl i
      generalize ds[i]'(by rw [HN.out]; exact hlt) = y at *
      generalize deadN ds i = D at *
      cases y with
      | false =>
        go_wp2_with fail
        go_roundw
        case rel => exact ⟨i + 1, by omega, by go_num, by rw [HD.out]; simp, HXr⟩
        case measure => simp [intOf]; omega
      | true =>
        go_wp2_with fail
        go_roundw
        case rel => exact ⟨i + 1, by omega, by go_num, by rw [HD.out]; simp, HXr⟩
        case measure => simp [intOf]; omega
    · have hin : i = n := by omega
      subst hin
      have hin2 : ¬ ((i : Int) < (i : Int)) := by omega
      go_wp2_with fail
      go_ret
      exact ⟨rfl, HXr.out⟩
end Go.Proofs.Ythjcdikpomlpmaa
