/-
  Chapter 29 (replica): lists of sectors; Sector and Chunks of the reference.
-/
import Derived.Test.YtknpdoepjihceaaRpA
import Derived.Test.YtknpdoepjihceaaCut
namespace Go.Proofs.Ytknpdoepjihceaa
open Go.RowKit
set_option linter.unusedVariables false
attribute [local go_sem] wrap8_un wrap_ub

theorem infoS : (Try.prog.info? 22).map (fun i => (i.zero, i.size, i.bytes)) = some (some (.slice none 0 0), 1, 24) := by kernel_rfl
theorem ofB {w : World} {base : Nat} {v : Value} {l : List (BitVec 8)} (h : OwnB w base v l) : OwnG encB 5 w base v l := h
/-- an own row of own rows of bytes -/
def OwnL (w : World) (base : Nat) (v : Value) (ls : List (List (BitVec 8))) : Prop :=
  ∃ vs : List Value, OwnG id 22 w base v vs ∧ vs.length = ls.length ∧ ∀ i (h1 : i < vs.length) (h2 : i < ls.length), OwnG encB 5 w base vs[i] ls[i]
theorem OwnL.nil (w : World) (base : Nat) : OwnL w base (.slice none 0 0) [] := ⟨[], OwnG.nil, rfl, fun i h => absurd h (by simp)⟩
theorem OwnL.ext {w w' : World} {base : Nat} {v : Value} {ls : List (List (BitVec 8))} (h : OwnL w base v ls) (e : Ext w w') : OwnL w' base v ls := by
  obtain ⟨vs, h1, h2, h3⟩ := h
  exact ⟨vs, h1.ext e, h2, fun i a b => (h3 i a b).ext e⟩
theorem OwnL.lower {w : World} {base b' : Nat} {v : Value} {ls : List (List (BitVec 8))} (h : OwnL w base v ls) (hb : b' ≤ base) : OwnL w b' v ls := by
  obtain ⟨vs, h1, h2, h3⟩ := h
  exact ⟨vs, h1.lower hb, h2, fun i a b => (h3 i a b).lower hb⟩
theorem OwnL.shape {w : World} {base : Nat} {v : Value} {ls : List (List (BitVec 8))} (h : OwnL w base v ls) : ∃ a c, v = .slice a ls.length c := by
  obtain ⟨vs, h1, h2, _⟩ := h
  obtain ⟨a, c, e⟩ := h1.shape
  exact ⟨a, c, by rw [e, h2]⟩
theorem rows_apart {α β : Type} {enc : α → Value} {enc' : β → Value} {e e' : TypeId} {w : World} {b b' : Nat} {v v' : Value} {l : List α} {l' : List β} (h : OwnG enc e w b v l) (h' : OwnG enc' e' w b' v' l') (hne : e ≠ e') : ∀ g, v.ownBlock = some g → v'.ownBlock ≠ some g := by
  intro g hg
  rcases h.2 with ⟨h1, _⟩ | ⟨g', cap, cur, h1, h2, h3, _⟩
  · rw [h1] at hg; simp [Value.ownBlock] at hg
  · rw [h1] at hg; simp [Value.ownBlock] at hg
    subst hg
    exact h'.not_box (show BoxAt w g' cur e from h3) hne
theorem OwnL.snoc {w w' : World} {base : Nat} {v v' vb : Value} {ls : List (List (BitVec 8))} {lb : List (BitVec 8)} (vs : List Value) (h1 : OwnG id 22 w base v vs) (h2 : vs.length = ls.length) (h3 : ∀ i (h1 : i < vs.length) (h2 : i < ls.length), OwnG encB 5 w base vs[i] ls[i])
    (hb : OwnG encB 5 w base vb lb) (ho : w'.ownsRow base 22 1 v' (vs.length + 1) (vs.map id ++ [vb])) (hg : w.grownBy w' v.ownBlock) : OwnL w' base v' (ls ++ [lb]) := by
  have keep : ∀ {u : Value} {l : List (BitVec 8)}, OwnG encB 5 w base u l → OwnG encB 5 w' base u l := by
    intro u l hu
    refine OwnG.kept hu hg ?_
    cases hv : u.ownBlock with
    | none => exact .inr rfl
    | some g => exact .inl fun e => rows_apart hu h1 (by decide) g hv e.symm
  refine ⟨vs ++ [vb], OwnG.snoc ho, by simp [h2], fun i a b => ?_⟩
  by_cases hi : i < vs.length
  · rw [List.getElem_append_left hi, List.getElem_append_left (by omega)]
    exact keep (h3 i hi (by omega))
  · have : i = vs.length := by simp at a; omega
    subst this
    rw [List.getElem_append_right (by omega), List.getElem_append_right (by omega)]
    simp only [Nat.sub_self, List.getElem_singleton, h2]
    exact keep hb
theorem OwnL.sliceR {w : World} {base : Nat} {v : Value} {ls : List (List (BitVec 8))} (h : OwnL w base v ls) (hm : ∀ l ∈ ls, l.length ≤ maxLen) : SliceR (Pat.slice Pat.u8) w v ls := by
  obtain ⟨vs, h1, h2, h3⟩ := h
  exact SliceR.rows h1.slice h2 fun i a b => ⟨(h3 i a b).slice.toR (fun _ _ => trivial), hm _ (List.getElem_mem b)⟩

/-- what stands before a sector's sum -/
def bodyL (gen i m : BitVec 64) (c : List (BitVec 8)) : List (BitVec 8) := le 8 gen ++ le 4 i ++ le 4 m ++ [BitVec.ofNat 8 c.length] ++ c
def sectorL (gen i m : BitVec 64) (c : List (BitVec 8)) : List (BitVec 8) := seal8 (bodyL gen i m c)
theorem bodyL_len (gen i m : BitVec 64) (c : List (BitVec 8)) : (bodyL gen i m c).length = 17 + c.length := by simp [bodyL, le_length]; omega
theorem sectorL_len (gen i m : BitVec 64) (c : List (BitVec 8)) : (sectorL gen i m c).length = 25 + c.length := by rw [sectorL, seal8_len, bodyL_len]; omega
/-- the number of sectors of a blob -/
def numL (n : Nat) : Nat := max 1 ((n + 31) / 32)
def chunkL (l : List (BitVec 8)) (i : Nat) : List (BitVec 8) := (l.drop (32 * i)).take 32
def chunksK (gen : BitVec 64) (l : List (BitVec 8)) (k : Nat) : List (List (BitVec 8)) := (List.range k).map fun i => sectorL gen (BitVec.ofNat 64 i) (BitVec.ofNat 64 (numL l.length)) (chunkL l i)
def chunksL (gen : BitVec 64) (l : List (BitVec 8)) : List (List (BitVec 8)) := chunksK gen l (numL l.length)
theorem chunksK_succ (gen : BitVec 64) (l : List (BitVec 8)) (k : Nat) : chunksK gen l (k + 1) = chunksK gen l k ++ [sectorL gen (BitVec.ofNat 64 k) (BitVec.ofNat 64 (numL l.length)) (chunkL l k)] := by simp [chunksK, List.range_succ]
theorem chunksK_len (gen : BitVec 64) (l : List (BitVec 8)) (k : Nat) : (chunksK gen l k).length = k := by simp [chunksK]
theorem chunkL_len (l : List (BitVec 8)) (i : Nat) : (chunkL l i).length ≤ 32 := by unfold chunkL; rw [List.length_take]; omega

set_option maxHeartbeats 800000 in
theorem sector_any (gen : BitVec 64) (i m : Nat) (v : Value) (c : List (BitVec 8)) (w : World) (hi : i ≤ 9223372036854775807) (hm : m ≤ 9223372036854775807) (hc : c.length ≤ 10000) (h : SliceAt encB w v c) :
    Calls Try.prog 17 #[encU gen, .int .i64 i, .int .i64 m, v] w fun e w' => ∃ v', e = .returned v' ∧ OwnG encB 5 w' w.heap.size v' (sectorL gen (BitVec.ofNat 64 i) (BitVec.ofNat 64 m) c) ∧ Below w.heap.size w w' := by
  obtain ⟨i0, hi', hi0, hi1, hi2⟩ := info_parts infoB
  have HS := Lib.hid h
  obtain ⟨ad, cap, rfl, _, _⟩ := h
  have hwi : IntKind.u64.wrap (i : Int) = un (BitVec.ofNat 64 i) := by unfold un; simp only [IntKind.wrap, IntKind.bits, IntKind.signed]; simp
  have hwm : IntKind.u64.wrap (m : Int) = un (BitVec.ofNat 64 m) := by unfold un; simp only [IntKind.wrap, IntKind.bits, IntKind.signed]; simp
  have hwc : IntKind.u8.wrap (c.length : Int) = ub (BitVec.ofNat 8 c.length) := wrap8_nat _
  go_enter Try.func17, Try.ntmps17
  go_wp2_with fail
  go_at_call 22
  refine (rput_any _ [] gen 8 w (by simp) (by omega) SliceAt.nil).mono ?_
  rintro e w1 ⟨v1, rfl, ho1, hb1⟩
  have HO1 := Lib.hid ho1
  clear ho1
  go_wp2_with fail
  go_at_call 22
  refine (rput_any _ ([] ++ le (8 : Int).toNat gen) (BitVec.ofNat 64 i) 4 _ (by simp [le_length]) (by omega) (OwnB.slice HO1.out)).mono ?_
  rintro e w2 ⟨v2, rfl, ho2, hb2⟩
  have HO2 := Lib.hid ho2
  clear ho2
  go_wp2_with fail
  go_at_call 22
  refine (rput_any _ ([] ++ le (8 : Int).toNat gen ++ le (4 : Int).toNat (BitVec.ofNat 64 i)) (BitVec.ofNat 64 m) 4 _ (by simp [le_length]) (by omega) (OwnB.slice HO2.out)).mono ?_
  rintro e w3 ⟨v3, rfl, ho3, hb3⟩
  have hx3 : Ext w w3 := (Ext.trans hb1 hb2).trans hb3
  have HO3 : Hid (OwnG encB 5 w3 w2.heap.size v3 (le 8 gen ++ le 4 (BitVec.ofNat 64 i) ++ le 4 (BitVec.ofNat 64 m))) := ho3
  have HB2 := Lib.hid ((Ext.trans hb1 hb2).size)
  clear ho3
  go_wp2_with (at_builtin; refine Classical.byContradiction (fun hN => ?_))
  refine hN ?_
  clear hN
  refine wpList_append_one rfl _ _ _ rfl w.heap.size 5 i0 (.int .u8 0) 1 Try.underlying22 hi' hi0 hi1 hi2 rfl _ _ _ rfl (World.ownsRow.alloc (HO3.out.lower HB2.out) _) _ _ rfl rfl (cell_new1 _ _ _) (by simp [le_length]; unfold maxLen; omega) (by simp [le_length]) (by have := hx3.size; simp; omega) ?_
  intro v4 w4 ho4 hg4 hat4
  have hb4 : Below w.heap.size w w4 := (hx3.trans (Ext.alloc _ _)).grown hg4 (by have := hx3.size; simp; omega) (fun q hq => ((HO3.out.lower HB2.out).lt q hq).1)
  have HO4 : Hid (OwnG encB 5 w4 w.heap.size v4 (le 8 gen ++ le 4 (BitVec.ofNat 64 i) ++ le 4 (BitVec.ofNat 64 m) ++ [BitVec.ofNat 8 c.length])) := OwnG.snoc (enc := encB) (x := BitVec.ofNat 8 c.length) ho4
  clear ho4 hg4 hat4
  go_wp2_with (at_builtin; refine Classical.byContradiction (fun hN => ?_))
  refine hN ?_
  clear hN
  refine wpList_append_slice (enc := encB) (fun _ => rfl) rfl _ _ _ rfl w.heap.size 5 i0 (.int .u8 0) 1 Try.underlying22 hi' hi0 hi1 hi2 rfl _ _ _ rfl HO4.out _ c rfl (HS.out.ext hb4) (by simp [le_length]; unfold maxLen; omega) (by simp [le_length]; omega) hb4.size ?_
  intro v5 w5 ho5 hg5
  have hb5 : Below w.heap.size w w5 := hb4.grown hg5 hb4.size (fun q hq => (HO4.out.lt q hq).1)
  have HO5 : Hid (OwnG encB 5 w5 w.heap.size v5 (bodyL gen (BitVec.ofNat 64 i) (BitVec.ofNat 64 m) c)) := OwnG.app (enc := encB) ho5
  clear ho5 hg5
  have HLB : Hid ((bodyL gen (BitVec.ofNat 64 i) (BitVec.ofNat 64 m) c).length ≤ 10100) := by show _ ≤ _; rw [bodyL_len]; omega
  go_wp2_with fail
  go_at_call 23
  refine (seal_any _ (bodyL gen (BitVec.ofNat 64 i) (BitVec.ofNat 64 m) c) _ (by have := HLB.out; omega) HO5.out.slice).mono ?_
  rintro e w6 ⟨v6, rfl, ho6, hb6⟩
  have HO6 := Lib.hid ho6
  clear ho6
  go_wp2_with fail
  go_ret
  exact ⟨_, rfl, OwnG.lower (enc := encB) HO6.out hb5.size, Ext.trans hb5 hb6⟩
end Go.Proofs.Ytknpdoepjihceaa
