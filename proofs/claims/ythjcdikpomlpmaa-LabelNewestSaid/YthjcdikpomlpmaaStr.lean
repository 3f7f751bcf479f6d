/-
  Strings made of byte slices. No program is named here.
-/
import Derived.Test.YthjcdikpomlpmaaU64
namespace Go.Proofs.Ythjcdikpomlpmaa
open Go.RowKit

/-- the string of some bytes -/
def strB (l : List (BitVec 8)) : ByteArray := ⟨(l.map fun c => UInt8.ofBitVec c).toArray⟩
theorem strB_inj {a b : List (BitVec 8)} (h : strB a = strB b) : a = b := by
  have h1 : a.map (fun c => UInt8.ofBitVec c) = b.map fun c => UInt8.ofBitVec c := by
    have := congrArg (fun s : ByteArray => s.data.toList) h
    simpa [strB] using this
  exact List.map_inj_right (fun x y e => by simpa using e) |>.1 h1

theorem loop_data (s : ByteArray) (n i : Nat) (r : List UInt8) (hn : s.size - i = n) : ByteArray.toList.loop s i r = r.reverse ++ s.data.toList.drop i := by
  induction n generalizing i r with
  | zero =>
    rw [ByteArray.toList.loop, if_neg (by omega), List.drop_eq_nil_of_le (by simp; show s.size ≤ i; omega)]; simp
  | succ n ih =>
    rw [ByteArray.toList.loop, if_pos (by omega), ih _ _ (by omega)]
    have hi : i < s.data.toList.length := by simp; show i < s.size; omega
    rw [List.drop_eq_getElem_cons hi]
    have : s.get! i = s.data.toList[i] := by
      simp [ByteArray.get!]
      exact getElem!_pos s.data i (by simpa using hi)
    rw [this]; simp
theorem toList_data (s : ByteArray) : s.toList = s.data.toList := by
  unfold ByteArray.toList; rw [loop_data s _ 0 [] rfl]; simp
theorem toList_strB (l : List (BitVec 8)) : (strB l).toList = l.map fun c => UInt8.ofBitVec c := by rw [toList_data]; simp [strB]
theorem eq_strB (a b : List (BitVec 8)) : ((strB a).toList == (strB b).toList) = decide (a = b) := by
  rw [Bool.eq_iff_iff]; simp only [beq_iff_eq, decide_eq_true_eq]
  refine ⟨fun h => strB_inj ?_, fun h => by rw [h]⟩
  rw [toList_data, toList_data] at h
  cases ha : strB a; cases hb : strB b
  rw [ha, hb] at h
  congr 1
  exact Array.toList_inj.1 h

theorem fold_push (ns : List Int) (s : ByteArray) : ns.foldl (fun r n => r.push (UInt8.ofNat n.toNat)) s = ⟨s.data ++ (ns.map fun n => UInt8.ofNat n.toNat).toArray⟩ := by
  induction ns generalizing s with
  | nil => simp
  | cons n ns ih => rw [List.foldl_cons, ih]; simp [ByteArray.push]

theorem run_str {P : Program} {t e st : TypeId} (ht : P.underlying t = some (.slice e)) (he : P.underlying e = some (.int .u8)) (hst : P.underlying st = some .string) (w : World) (v : Value) (l : List (BitVec 8)) (h : SliceAt encB w v l) :
    (convert t st v).run P w = .ok (.string (strB l)) w := by
  obtain ⟨ad, cap, rfl, _, h⟩ := h
  rw [run_convert_bytes_string w t st e ad l.length cap ht he hst]
  cases ad with
  | none =>
    rcases h with ⟨rfl, _⟩ | ⟨b, off, hn, _⟩
    · rfl
    · cases hn
  | some a =>
    have hl : (loadCells a l.length).run P w = .ok ((l.map ub).map (Value.int .u8)).toArray w := by
      have := run_loadCells_list (P := P) (w := w) a (l.map encB) (fun j u hj => ?_)
      · simpa [Function.comp_def, encB] using this
      · rcases h with ⟨rfl, _⟩ | ⟨b, off, hb, _, hc⟩
        · simp at hj
        · cases hb
          have hjl : j < l.length := by
            rcases Nat.lt_or_ge j l.length with h' | h'
            · exact h'
            · rw [List.getElem?_eq_none (by simpa using h')] at hj; cases hj
          have : u = encB l[j] := by simpa [hjl] using hj.symm
          rw [this, add_plain]; exact hc j hjl
    rw [run_bytesToString w a l.length cap (l.map ub) hl, fold_push]
    congr 2
    show (⟨#[] ++ _⟩ : ByteArray) = strB l
    unfold strB
    congr 1
    simp
    intro c _
    show UInt8.ofNat (ub c).toNat = _
    unfold ub
    simp
end Go.Proofs.Ythjcdikpomlpmaa
