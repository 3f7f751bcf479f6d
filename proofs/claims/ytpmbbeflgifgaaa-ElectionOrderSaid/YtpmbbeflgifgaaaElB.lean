/-
  Chapter 31 (election): lowest, with its helpers.
-/
import Derived.Test.YtpmbbeflgifgaaaElA
namespace Go.Proofs.Ytpmbbeflgifgaaa
open Go.RowKit
set_option linter.unusedVariables false

def ld0 : LD := (⟨0#64, 0, 0#64, 0#64, ⟨0, 0, 0, 0, 0, 0, 0, 0, 0, 0, 0⟩, 0, 0#64, 0#64⟩, [])
def ldN (ls : List LD) (i : Nat) : LD := ls.getD i ld0
def diskN (ls : List LD) (i : Nat) : Nat := (ldN ls i).1.disk.toNat
theorem ldN_in {ls : List LD} {i : Nat} (h : i < ls.length) : ldN ls i = ls[i] := getD_in h
/-- the label at a place, in memory -/
theorem LabsAt.at {w : World} {ad : Option Addr} {n cap : Nat} {ls : List LD} (h : LabsAt w (.slice ad n cap) ls) (i : Nat) (hi : i < ls.length) :
    ∃ b off, ad = some ⟨b, off, none⟩ ∧ ∃ dv, LabAt w b (off + i * 19) (ldN ls i).1 dv ∧ SliceAt Value.bool w dv (ldN ls i).2 := by
  rw [ldN_in hi]; exact h.get i hi
theorem run_min2 {P : Program} (w : World) (ts : Array TypeId) (t : TypeId) (a b : Int) :
    (Builtin.min_ ts t #[.int .i64 a, .int .i64 b]).run P w = .ok (.int .i64 (min a b)) w := by
  have e : (if b < a then b else a) = min a b := by split <;> omega
  have : (Builtin.min_ ts t #[.int .i64 a, .int .i64 b]).run P w = .ok (.int .i64 (if b < a then b else a)) w := rfl
  rw [this, e]
theorem infoI : (Try.prog.info? 3).map (fun i => (i.zero, i.size, i.bytes)) = some (some (.int .i64 0), 1, 8) := by kernel_rfl

def minL : List Nat → Nat
  | [] => 0
  | x :: t => t.foldl min x
theorem minL_map {disk : Nat → Nat} (s : List Nat) : minL (s.map disk) = El.lowG disk s := by
  cases s with
  | nil => rfl
  | cons i t => show (t.map disk).foldl min (disk i) = _; rw [List.foldl_map]; rfl
theorem minL_one {l : List Nat} (h : 0 < l.length) : minL (l.take 1) = l[0] := by
  cases l with
  | nil => simp at h
  | cons x t => rfl
theorem minL_next {l : List Nat} {i : Nat} (h0 : 0 < i) (h : i < l.length) : minL (l.take (i + 1)) = min (minL (l.take i)) l[i] := by
  rw [List.take_succ_eq_append_getElem h]
  cases l with
  | nil => simp at h
  | cons x t =>
    obtain ⟨k, rfl⟩ : ∃ k, i = k + 1 := ⟨i - 1, by omega⟩
    rw [List.take_succ_cons]
    show (t.take k ++ [_]).foldl min x = min ((t.take k).foldl min x) _
    rw [List.foldl_append]; rfl
def NatEnd (w0 : World) (c : Nat) (e : Ending) (w' : World) : Prop := e = .returned (.int .i64 c) ∧ Ext w0 w'
set_option maxRecDepth 100000 in
set_option maxHeartbeats 1000000 in
theorem min_any (v : Value) (l : List Nat) (w : World) (hl : l.length ≤ 100000) (h0 : 0 < l.length) (h : SliceAt encN w v l) :
    Calls Try.prog 41 #[v] w (NatEnd w (minL l)) := by
  obtain ⟨ad, cap, rfl⟩ := h.shape
  have HS := Lib.hid h
  obtain ⟨b, off, rfl, hb, hc0⟩ := h.get 0 h0
  have HM1 := Lib.hid (minL_one h0)
  have HMN := Lib.hid fun i (h0 : 0 < i) (h : i < l.length) => minL_next (l := l) h0 h
  generalize l[0] = x0 at *
  obtain ⟨n, hn⟩ : ∃ n, l.length = n := ⟨_, rfl⟩
  have HN := Lib.hid hn
  rw [hn] at HS hl h0 ⊢
  have hd : decide ((n : Int) < 1) = false := by rw [decide_eq_false_iff_not]; omega
  have hd2 : decide (n < 1) = false := by rw [decide_eq_false_iff_not]; omega
  rw [Nat.add_zero] at hc0
  clear h hn
  go_enter Try.func41, Try.ntmps41
  go_wp2_with fail
  go_loop [3, 4] (fun mv iv => ∃ i : Nat, 1 ≤ i ∧ i ≤ n ∧ iv = .int .i64 i ∧ mv = .int .i64 (minL (l.take i) : Nat)) (fun _ iv => n - (intOf iv).toNat)
  case atStart => exact ⟨1, Nat.le_refl _, h0, rfl, by rw [HM1.out]⟩
  case round =>
    obtain ⟨i, hi1, hi, rfl, rfl⟩ := hrel
    by_cases hlt : i < n
    · have hin : (i : Int) < (n : Int) := by omega
      obtain ⟨b2, off2, hbe, _, hc⟩ := HS.out.get i (by rw [HN.out]; exact hlt)
      cases hbe
      have HMN := Lib.hid (HMN.out i (by omega) (by rw [HN.out]; exact hlt))
      generalize l[i]'(by rw [HN.out]; exact hlt) = y at *
      generalize minL (l.take i) = M at *
      have hMin := fun (w : World) (ts : Array TypeId) (t : TypeId) => run_min2 (P := Try.prog) w ts t (M : Int) (y : Int)
      rw [show min (M : Int) (y : Int) = ((min M y : Nat) : Int) by omega] at hMin
      obtain ⟨q, hq⟩ : ∃ q, min M y = q := ⟨_, rfl⟩
      rw [hq] at hMin HMN
      clear hq
      go_wp2_with fail
      go_round
      case rel => exact ⟨i + 1, by omega, by omega, by go_num, by rw [HMN.out]⟩
      case measure => simp [intOf]; omega
    · have hin : i = n := by omega
      subst hin
      have hin2 : ¬ ((i : Int) < (i : Int)) := by omega
      go_wp2_with fail
      go_ret
      exact ⟨by rw [show l.take i = l by rw [← HN.out, List.take_length]]; rfl, Ext.refl _⟩

set_option maxRecDepth 100000 in
set_option maxHeartbeats 1000000 in
theorem lowest1_any (vl : Value) (ls : List LD) (g i : Nat) (w : World) (hn : ls.length ≤ 100000) (hi : i < ls.length) (hd : 0 ≤ (ldN ls i).1.disk) (h : LabsAt w vl ls) (hc : w.cell? ⟨g, 0, none⟩ = some vl) (hg : g < w.heap.size) :
    Calls Try.prog 43 #[encN i, .pointer (some ⟨g, 0, none⟩)] w fun e w' => e = .returned (encN (diskN ls i)) ∧ w = w' := by
  obtain ⟨ad, cap, rfl⟩ := h.shape
  obtain ⟨b, off, rfl, dv, h1, h2⟩ := h.at i hi
  obtain ⟨k, hk⟩ := Int.eq_ofNat_of_zero_le hd
  have hk2 : diskN ls i = k := by unfold diskN; rw [hk]; rfl
  have c1 := h1.cell 1 (v := .int .i64 k) (by rw [← hk]; rfl)
  have hb := h1.2
  have hin : (i : Int) < (ls.length : Int) := by omega
  rw [hk2]
  clear h h1 h2 hk hk2 hd
  go_enter Try.func43, Try.ntmps43
  go_wp2
  go_ret
  exact ⟨rfl, rfl⟩
end Go.Proofs.Ytpmbbeflgifgaaa
