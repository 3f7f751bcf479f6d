/-
  Chapter 30 (label): Equal of both packages.
-/
import Derived.Test.YthjcdikpomlpmaaLbH
namespace Go.Proofs.Ythjcdikpomlpmaa
open Go.RowKit
set_option linter.unusedVariables false

/-- two labels equal in all fields but Disk -/
def eqL (a b : Lab) (x y : List Bool) : Bool := (un a.array == un b.array) && ((un a.gen == un b.gen) && ((un a.prev == un b.prev) && (eqCfg a.c b.c && (eqD x y && ((a.blob == b.blob) && ((un a.sum == un b.sum) && (un a.root == un b.root)))))))
theorem eqCfg_iff {a b : Cfg} : eqCfg a b = true ↔ a = b := by
  unfold eqCfg cfgL
  rw [decide_eq_true_eq]
  cases a; cases b
  simp
theorem eqL_iff {a b : Lab} {x y : List Bool} : eqL a b x y = true ↔ { a with disk := b.disk } = b ∧ x = y := by
  unfold eqL
  simp only [Bool.and_eq_true, eq_un, eqCfg_iff, eqD, decide_eq_true_eq, beq_iff_eq]
  obtain ⟨a1, a2, a3, a4, a5, a6, a7, a8⟩ := a
  obtain ⟨b1, b2, b3, b4, b5, b6, b7, b8⟩ := b
  simp only [Lab.mk.injEq, true_and]
  constructor
  · rintro ⟨h1, h2, h3, h4, h5, h6, h7, h8⟩; exact ⟨⟨h1, h2, h3, h4, h6, h7, h8⟩, h5⟩
  · rintro ⟨⟨h1, h2, h3, h4, h6, h7, h8⟩, h5⟩; exact ⟨h1, h2, h3, h4, h5, h6, h7, h8⟩

set_option maxRecDepth 100000 in
set_option maxHeartbeats 4000000 in
theorem equal_any (a b : Lab) (v1 v2 : Value) (x y : List Bool) (w : World) (hlx : x.length ≤ 100000) (hly : y.length ≤ 100000) (hx : SliceAt Value.bool w v1 x) (hy : SliceAt Value.bool w v2 y) :
    Calls Try.prog 19 #[labV a v1, labV b v2] w (BoolEnd w (eqL a b x y)) := by
  obtain ⟨ad1, cap1, rfl⟩ := hx.shape
  obtain ⟨ad2, cap2, rfl⟩ := hy.shape
  have HED := Lib.hid fun w' (e : Ext w w') => eqsl_any _ _ x y w' hlx hly (hx.ext e) (hy.ext e)
  have HC := Lib.hid (run_eq_cfg a.c b.c)
  have HX : Hid (eqL a b x y = ((un a.array == un b.array) && ((un a.gen == un b.gen) && ((un a.prev == un b.prev) && (eqCfg a.c b.c && (eqD x y && ((a.blob == b.blob) && ((un a.sum == un b.sum) && (un a.root == un b.root))))))))) := rfl
  obtain ⟨X, hX⟩ : ∃ X, eqL a b x y = X := ⟨_, rfl⟩
  rw [hX] at HX ⊢
  obtain ⟨x1, h1⟩ : ∃ z, (un a.array == un b.array) = z := ⟨_, rfl⟩
  obtain ⟨x2, h2⟩ : ∃ z, (un a.gen == un b.gen) = z := ⟨_, rfl⟩
  obtain ⟨x3, h3⟩ : ∃ z, (un a.prev == un b.prev) = z := ⟨_, rfl⟩
  obtain ⟨x4, h4⟩ : ∃ z, eqCfg a.c b.c = z := ⟨_, rfl⟩
  obtain ⟨x5, h5⟩ : ∃ z, eqD x y = z := ⟨_, rfl⟩
  obtain ⟨x6, h6⟩ : ∃ z, (a.blob == b.blob) = z := ⟨_, rfl⟩
  obtain ⟨x7, h7⟩ : ∃ z, (un a.sum == un b.sum) = z := ⟨_, rfl⟩
  obtain ⟨x8, h8⟩ : ∃ z, (un a.root == un b.root) = z := ⟨_, rfl⟩
  rw [h1, h2, h3, h4, h5, h6, h7, h8] at HX
  rw [h5] at HED
  rw [h4] at HC
  have hXe := HX.out
  have hcond : x1 = false ∧ X = false ∨ x1 = true ∧ (x2 = false ∧ X = false ∨ x2 = true ∧ (x3 = false ∧ X = false ∨ x3 = true ∧ (x4 = false ∧ X = false ∨ x4 = true ∧ (x5 = false ∧ X = false ∨ x5 = true ∧ (x6 = false ∧ X = false ∨ x6 = true ∧ (x7 = false ∧ X = false ∨ x7 = true ∧ X = x8)))))) := by
    rw [hXe]
    cases x1 <;> cases x2 <;> cases x3 <;> cases x4 <;> cases x5 <;> cases x6 <;> cases x7 <;> simp
  clear hXe HX hX hx hy h4 h5
  rcases hcond with ⟨rfl, rfl⟩ | ⟨rfl, ⟨rfl, rfl⟩ | ⟨rfl, ⟨rfl, rfl⟩ | ⟨rfl, ⟨rfl, rfl⟩ | ⟨rfl, ⟨rfl, rfl⟩ | ⟨rfl, ⟨rfl, rfl⟩ | ⟨rfl, ⟨rfl, rfl⟩ | ⟨rfl, rfl⟩⟩⟩⟩⟩⟩⟩
  all_goals
    have HA : Hid (LabAt ((w.alloc (.cells (labA a (.slice ad1 x.length cap1)) 29)).alloc (.cells (labA b (.slice ad2 y.length cap2)) 29)) w.heap.size 0 a (.slice ad1 x.length cap1)) := (LabAt.of_box (BoxAt.new w _ _)).ext (Ext.alloc _ _)
    have HB : Hid (LabAt ((w.alloc (.cells (labA a (.slice ad1 x.length cap1)) 29)).alloc (.cells (labA b (.slice ad2 y.length cap2)) 29)) (w.heap.size + 1) 0 b (.slice ad2 y.length cap2)) := by
      have := LabAt.of_box (l := b) (d := .slice ad2 y.length cap2) (BoxAt.new (w.alloc (.cells (labA a (.slice ad1 x.length cap1)) 29)) (labA b (.slice ad2 y.length cap2)) 29)
      simp only [World.size_alloc] at this
      exact this
    have HE : Hid (Ext w ((w.alloc (.cells (labA a (.slice ad1 x.length cap1)) 29)).alloc (.cells (labA b (.slice ad2 y.length cap2)) 29))) := (Ext.alloc _ _).trans (Ext.alloc _ _)
    go_enter Try.func19, Try.ntmps19
    have hcq := HC.out
    go_wp2_with (first | (refine wpList_loadR 26 _ rfl (by rfl) rfl HA.out.cfg ?_) | (refine wpList_loadR 26 _ rfl (by rfl) rfl HB.out.cfg ?_))
  iterate 4
    · go_ret
      exact ⟨rfl, HE.out⟩
  all_goals
    go_at_call 39
    refine (HED.out _ HE.out).mono ?_
    rintro e w2 ⟨rfl, hb2⟩
    have HLA := HA.out.ext hb2
    have HLB := HB.out.ext hb2
    have HX2 : Hid (Ext w w2) := HE.out.trans hb2
    have a16 := HLA.cell0 16 (v := .int .i64 a.blob) rfl
    have a17 := HLA.cell0 17 (v := encU a.sum) rfl
    have a18 := HLA.cell0 18 (v := encU a.root) rfl
    have b16 := HLB.cell0 16 (v := .int .i64 b.blob) rfl
    have b17 := HLB.cell0 17 (v := encU b.sum) rfl
    have b18 := HLB.cell0 18 (v := encU b.root) rfl
    have hl1 := HLA.2
    have hl2 := HLB.2
    clear hb2 HLA HLB
    go_wp2_with fail
    go_ret
    exact ⟨by first | rfl | rw [h8], HX2.out⟩

end Go.Proofs.Ythjcdikpomlpmaa
