/-
  Chapter 31 (election): the law's helpers large and label; stores of structs.
-/
import Derived.Test.YtpmbbeflgifgaaaElI
namespace Go.Proofs.Ytpmbbeflgifgaaa
open Go.RowKit
set_option linter.unusedVariables false

/-- a struct is stored in a box of the call's own -/
theorem setCells_other {g : Nat} : ∀ (vs : List Value) (o : Nat) (w : World) (k : Nat), k ≠ g → (w.setCells g o vs).heap[k]? = w.heap[k]?
  | [], _, _, _, _ => rfl
  | v :: r, o, w, k, h => by rw [World.setCells, setCells_other r _ _ k h]; exact Below.heap_setCell _ _ _ k h
theorem wpList_store_agg {P : Program} {ops : Array Oper} {rest : List Oper} {o : Oper} {a : Act} {w w0 : World} {Q : Exit → Act → World → Prop} (ty : TypeId) (x y : Operand) (ho : o.op = .store ty x y)
    (hw : Region.wanted o (yielded ops a.tmps) = true) {g : Nat} {cs cells : Array Value} {t : TypeId} (hx : a.eval x = .pointer (some ⟨g, 0, none⟩)) (hy : a.eval y = .agg cells) (hb : BoxAt w g cs t) (hs : cs.size = cells.size) (hi : (P.info? ty).map (·.size) = some cells.size) (h1 : cells.all (·.oneCell') = true)
    (he : Ext w0 w) (hg : w0.heap.size ≤ g)
    (h : ∀ w', Ext w0 w' → BoxAt w' g cells t → (∀ k, k ≠ g → w'.heap[k]? = w.heap[k]?) → wpList P ops Q rest (a.put o.dst undef) w') : wpList P ops Q (o :: rest) a w := by
  refine wpList_step fun K hK => ?_
  rw [if_pos hw]
  have hrun := run_storeAt_mid (P := P) w g 0 ty cells (fun j hj => ⟨by rw [Nat.zero_add]; obtain ⟨v, hv⟩ : ∃ v, cs[j]? = some v := ⟨_, Array.getElem?_eq_getElem (by rw [hs]; exact hj)⟩; rw [hb.cell j hv]; rfl, by rw [Nat.zero_add]; exact hb.free j⟩) hi h1
  unfold Oper.wp execOp
  simp only [ho, hx, hy, Sem.run_bind, Sem.run_pure, Result.andThen_ok, hrun]
  refine hK _ _ (h _ (Ext.setCells hg _ _ _ he) ?_ (fun k hk => setCells_other _ _ _ k hk))
  have := hb.setCells cells.toList (by rw [hs]; simp)
  simpa using this
def largeB (ls : List LD) : Bool := ls.any (fun l => decide (100 < l.2.length)) || decide (70 < ls.length)
theorem any_next {α : Type} {l : List α} {f : α → Bool} {i : Nat} (h : i < l.length) (ha : (l.take i).any f = false) (hi : f l[i] = false) : (l.take (i + 1)).any f = false := by
  rw [List.take_succ_eq_append_getElem h, List.any_append, ha, Bool.false_or]
  simp [hi]
theorem any_at {α : Type} {l : List α} {f : α → Bool} {i : Nat} (h : i < l.length) (hi : f l[i] = true) : l.any f = true := by
  rw [List.any_eq_true]; exact ⟨_, List.getElem_mem h, hi⟩
set_option maxRecDepth 100000 in
set_option maxHeartbeats 1000000 in
theorem large_any (v : Value) (ls : List LD) (w : World) (hm : ls.length ≤ maxLen) (hdl : ∀ l, l ∈ ls → l.2.length ≤ maxLen) (h : LabsAt w v ls) :
    Calls Try.prog 10 #[v] w fun e w' => e = .returned (.bool (largeB ls)) ∧ w = w' := by
  obtain ⟨ad, cap, rfl⟩ := h.shape
  have HL := Lib.hid h
  have HD := Lib.hid hdl
  unfold maxLen at hm
  obtain ⟨n, hn⟩ : ∃ n, ls.length = n := ⟨_, rfl⟩
  have HN := Lib.hid hn
  have HLB : Hid (largeB ls = (ls.any (fun l => decide (100 < l.2.length)) || decide (70 < n))) := by show _ = _; unfold largeB; rw [hn]
  rw [hn] at HL hm ⊢
  clear h hn hdl
  go_enter Try.func10, Try.ntmps10
  go_wp2_with fail
  go_loop [6] (fun it => ∃ i : Nat, i ≤ n ∧ it = .int .i64 i ∧ Hid ((ls.take i).any (fun l => decide (100 < l.2.length)) = false)) (fun it => n - (intOf it).toNat)
  case atStart => exact ⟨0, Nat.zero_le _, rfl, by show _ = _; simp⟩
  case round =>
    obtain ⟨i, hi, rfl, HA⟩ := hrel
    by_cases hlt : i < n
    · have hin : (i : Int) < (n : Int) := by omega
      have hi0 : (0 : Int) ≤ (i : Int) := by omega
      have hil : i < ls.length := by rw [HN.out]; exact hlt
      obtain ⟨b, off, rfl, dv, hA, hD⟩ := HL.out.get i hil
      have hdm := HD.out _ (List.getElem_mem hil)
      unfold maxLen at hdm
      have HNX := Lib.hid (any_next (f := fun l : LD => decide (100 < l.2.length)) hil HA.out)
      have HAT := Lib.hid (any_at (f := fun l : LD => decide (100 < l.2.length)) hil)
      obtain ⟨ad, cd, rfl⟩ := hD.shape
      have c15 := hA.cell 15 (v := .slice ad ls[i].2.length cd) rfl
      have hbl := hA.2
      generalize ls[i] = L at *
      obtain ⟨q, hq⟩ : ∃ q, L.2.length = q := ⟨_, rfl⟩
      simp only [hq] at HNX HAT
      rw [hq] at c15 hdm
      clear hA hD hq
      by_cases h100 : 100 < q
      · have d1 : decide ((100 : Int) < (q : Int)) = true := by rw [decide_eq_true_iff]; omega
        have d2 : decide (100 < q) = true := by rw [decide_eq_true_iff]; exact h100
        have HT : Hid (largeB ls = true) := by show _ = _; rw [HLB.out, HAT.out (by rw [decide_eq_true_iff]; exact h100)]; rfl
        clear h100
        go_wp2_with fail
        go_ret
        exact ⟨by rw [HT.out]; rfl, rfl⟩
      · have d1 : decide ((100 : Int) < (q : Int)) = false := by rw [decide_eq_false_iff_not]; omega
        have d2 : decide (100 < q) = false := by rw [decide_eq_false_iff_not]; exact h100
        have HNX2 := Lib.hid (HNX.out (by rw [decide_eq_false_iff_not]; exact h100))
        clear h100
        go_wp2_with fail
        go_round
        case rel => exact ⟨i + 1, by omega, by go_num, HNX2⟩
        case measure => simp [intOf]; omega
    · have hin : i = n := by omega
      subst hin
      have hin2 : ¬ ((i : Int) < (i : Int)) := by omega
      rw [show ls.take i = ls by rw [← HN.out, List.take_length]] at HA
      rw [HA.out, Bool.false_or] at HLB
      go_wp2_with fail
      go_ret
      exact ⟨by rw [HLB.out]; exact ret_iff (by simp only [decide_eq_true_eq]; omega), rfl⟩

def cfgX : Cfg := ⟨5, 4, 1, 0, 60, 4, 2, 3, 1, 10, 20⟩
def labX (d : Int) (n : Nat) : Lab := ⟨1#64, d, BitVec.ofNat 64 n, BitVec.ofNat 64 (n - 1), cfgX, 0, 0#64, 0#64⟩
theorem un_small {n : Nat} (h : n < 18446744073709551616) : un (BitVec.ofNat 64 n) = (n : Int) := by
  unfold un; rw [BitVec.toNat_ofNat, Nat.mod_eq_of_lt (by simpa using h)]
end Go.Proofs.Ytpmbbeflgifgaaa
