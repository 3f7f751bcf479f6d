/-
  Part 15 of the proof.
-/
import Derived.Test.YtjabgpejmnpamaaGreatDoorY12
set_option linter.unusedVariables false
namespace Go.Proofs.YtjabgpejmnpamaaGreatDoor
open Go.RowKit
def BoolEnd (w0 : World) (b : Bool) (e : Ending) (w' : World) : Prop := e = .returned (.bool b) ∧ Ext w0 w'
end Go.Proofs.YtjabgpejmnpamaaGreatDoor

namespace Go.Proofs.YtjabgpejmnpamaaGreatDoor.Lb
abbrev Bts := List (BitVec 8)
def bitsTo (x : List Bool) : Nat → Bts
  | 0 => List.replicate ((x.length + 7) / 8) 0#8
  | i + 1 => if x.getD i false then (bitsTo x i).set (i / 8) ((bitsTo x i).getD (i / 8) 0#8 ||| 1#8 <<< (i % 8)) else bitsTo x i
def bitsL (x : List Bool) : Bts := bitsTo x x.length
theorem bitsTo_len (x : List Bool) : ∀ i, (bitsTo x i).length = (x.length + 7) / 8
  | 0 => by rw [bitsTo, List.length_replicate]
  | i + 1 => by rw [bitsTo]; split <;> simp [bitsTo_len x i]
def numsL (ns : List Nat) : Bts := ns.flatMap uv
def cfgBytes (c : Cfg) : Bts := (cfgL c).flatMap fun n => uv n.toNat
def payL (l : Lab) (x : List Bool) : Bts :=
  numsL [l.array.toNat, l.disk.toNat, l.gen.toNat, l.prev.toNat] ++ cfgBytes l.c ++ uv (bitsL x).length ++ bitsL x ++ numsL [l.blob.toNat, l.sum.toNat, l.root.toNat]
def be8 (s : BitVec 64) (k : Nat) : Bts := (List.range k).map fun i => (s >>> (56 - 8 * i)).setWidth 8
theorem be8_next (s : BitVec 64) (k : Nat) : be8 s (k + 1) = be8 s k ++ [(s >>> (56 - 8 * k)).setWidth 8] := by unfold be8; rw [List.range_succ, List.map_append]; rfl
theorem be8_len (s : BitVec 64) (k : Nat) : (be8 s k).length = k := by unfold be8; simp
def sealL (b : Bts) : Bts := b ++ be8 (Crc.sum b) 8
theorem sealL_len (b : Bts) : (sealL b).length = b.length + 8 := by unfold sealL; rw [List.length_append, be8_len]
def bodyL (g d i n : Nat) (c : Bts) : Bts := [76#8] ++ numsL [g, d, i, n] ++ uv c.length ++ c
def sectorL (g d i n : Nat) (c : Bts) : Bts := sealL (bodyL g d i n c)
def partsN (p : Bts) : Nat := (p.length + 27) / 28
def partAt (p : Bts) (i : Nat) : Bts := (p.drop (28 * i)).take 28
def cutL (g d : Nat) (p : Bts) : List Bts := (List.range (partsN p)).map fun i => sectorL g d i (partsN p) (partAt p i)
def encL (l : Lab) (x : List Bool) : List Bts := cutL l.gen.toNat l.disk.toNat (payL l x)
theorem partAt_len (p : Bts) (i : Nat) : (partAt p i).length ≤ 28 := by unfold partAt; rw [List.length_take]; omega
theorem parts_take (p : Bts) : ∀ k, (List.range k).flatMap (partAt p) = p.take (28 * k)
  | 0 => by simp
  | k + 1 => by
    rw [List.range_succ, List.flatMap_append, parts_take p k, show 28 * (k + 1) = 28 * k + 28 by omega, List.take_add]
    simp [partAt]
theorem parts_join (p : Bts) : (List.range (partsN p)).flatMap (partAt p) = p := by
  rw [parts_take, List.take_of_length_le]
  unfold partsN; omega
def cfgOf (n : List Int) : Cfg := ⟨n.getD 0 0, n.getD 1 0, n.getD 2 0, n.getD 3 0, n.getD 4 0, n.getD 5 0, n.getD 6 0, n.getD 7 0, n.getD 8 0, n.getD 9 0, n.getD 10 0⟩
structure Fine (l : Lab) (x : List Bool) : Prop where
  disk : 0 ≤ l.disk ∧ l.disk < 60
  gen : 1 ≤ l.gen.toNat ∧ l.gen.toNat ≤ 4294967295
  prev : l.prev.toNat < l.gen.toNat
  cfg : ∀ n, n ∈ cfgL l.c → 0 ≤ n ∧ n ≤ 65535
  d : l.c.d = x.length
  len : x.length ≤ 60
  blob : 0 ≤ l.blob ∧ l.blob ≤ 1048576
theorem fine_of {l : Lab} {x : List Bool} (h : validL l x = true) : Fine l x := by
  unfold validL cfgB cfgHead labHead validB at h
  simp only [Bool.and_eq_true, decide_eq_true_eq] at h
  obtain ⟨⟨⟨⟨h1, h4⟩, h5⟩, h2⟩, h3⟩ := h
  have e1 : un l.gen = (l.gen.toNat : Int) := rfl
  have e2 : un l.prev = (l.prev.toNat : Int) := rfl
  rw [e1, e2] at h2
  refine ⟨⟨h2.1, by omega⟩, by omega, by omega, ?_, by omega, by omega, h3.2.2.2⟩
  intro n hn
  simp only [cfgL, List.mem_cons, List.not_mem_nil, or_false] at hn
  omega
theorem pay_right (l : Lab) (x : List Bool) : payL l x = uv l.array.toNat ++ (uv l.disk.toNat ++ (uv l.gen.toNat ++ (uv l.prev.toNat ++ (((cfgL l.c).flatMap fun n => uv n.toNat) ++ (uv (bitsL x).length ++ (bitsL x ++ (uv l.blob.toNat ++ (uv l.sum.toNat ++ (uv l.root.toNat ++ []))))))))) := by
  simp [payL, numsL, cfgBytes]
theorem cfgB_len (c : Cfg) (h : ∀ n, n ∈ cfgL c → 0 ≤ n ∧ n ≤ 65535) : (cfgBytes c).length ≤ 33 := by
  have key : ∀ l : List Int, (∀ n, n ∈ l → 0 ≤ n ∧ n ≤ 65535) → (l.flatMap fun n => uv n.toNat).length ≤ 3 * l.length := by
    intro l
    induction l with
    | nil => intro _; simp
    | cons a t ih =>
      intro h
      rw [List.flatMap_cons, List.length_append, List.length_cons]
      have := (uv_length 3 a.toNat (by decide) (by have := (h a (by simp)).2; omega)).2
      have := ih fun n hn => h n (by simp [hn])
      omega
  exact key (cfgL c) h
theorem pay_len {l : Lab} {x : List Bool} (F : Fine l x) : 1 ≤ (payL l x).length ∧ (payL l x).length ≤ 86 := by
  rw [pay_right]
  have h1 := uv_len l.array.toNat (by have := l.array.isLt; omega)
  have h2 := uv_length 1 l.disk.toNat (by decide) (by have := F.disk.2; omega)
  have h3 := uv_length 5 l.gen.toNat (by decide) (by have := F.gen.2; omega)
  have h4 := uv_length 5 l.prev.toNat (by decide) (by have := F.prev; have := F.gen.2; omega)
  have h5 := cfgB_len l.c F.cfg
  unfold cfgBytes at h5
  have h6 : (bitsL x).length ≤ 8 := by unfold bitsL; rw [bitsTo_len]; have := F.len; omega
  have h7 := uv_length 1 (bitsL x).length (by decide) (by omega)
  have h8 := uv_length 3 l.blob.toNat (by decide) (by have := F.blob.2; omega)
  have h9 := uv_len l.sum.toNat (by have := l.sum.isLt; omega)
  have h10 := uv_len l.root.toNat (by have := l.root.isLt; omega)
  simp only [List.length_append, List.length_nil]
  omega
theorem numsL_4 (a b c d : Nat) : numsL [a, b, c, d] = uv a ++ (uv b ++ (uv c ++ uv d)) := by simp [numsL]
end Go.Proofs.YtjabgpejmnpamaaGreatDoor.Lb

namespace Go.Proofs.YtjabgpejmnpamaaGreatDoor.Lg
abbrev Bts := List (BitVec 8)
structure PW where
  g : Int
  p : Int
  v : BitVec 64
  d : Bts
structure Mv where
  g : Int
  p : Int
  k : Int
  b : Int
structure Rec where
  gen : BitVec 64
  seq : BitVec 64
  ws : List PW
  ms : List Mv
  note : Bts
def pieceB (g p : Int) : Bool := decide (0 ≤ g ∧ g < 4096 ∧ 0 ≤ p ∧ p < 16)
def placeB (k b : Int) : Bool := decide (k = -1 ∧ b = 0 ∨ 0 ≤ k ∧ k < 60 ∧ 0 ≤ b ∧ b < 65536)
def okW (w : PW) : Bool := pieceB w.g w.p
def okM (m : Mv) : Bool := pieceB m.g m.p && placeB m.k m.b
def lensB (r : Rec) : Bool := decide (1 ≤ r.seq.toNat ∧ r.ws.length ≤ 64 ∧ r.ms.length ≤ 64 ∧ r.note.length ≤ 256)
def validR (r : Rec) : Bool := lensB r && (r.ws.all okW && r.ms.all okM)
def shortR (r : Rec) : Bool := decide (r.ws.length ≤ 70 ∧ r.ms.length ≤ 70 ∧ r.note.length ≤ 300)
def pwL (w : PW) : Bts := Lb.numsL [w.g.toNat, w.p.toNat, w.v.toNat] ++ w.d
def mvL (m : Mv) : Bts := Lb.numsL [m.g.toNat, m.p.toNat] ++ uv (zz m.k) ++ uv m.b.toNat
def payR (r : Rec) : Bts :=
  Lb.numsL [r.gen.toNat, r.seq.toNat, r.ws.length] ++ r.ws.flatMap pwL ++ uv r.ms.length ++ r.ms.flatMap mvL ++ uv r.note.length ++ r.note
def bodyR (g s i n : Nat) (c : Bts) : Bts := [82#8] ++ Lb.numsL [g, s, i, n] ++ uv c.length ++ c
def sectorR (g s i n : Nat) (c : Bts) : Bts := Lb.sealL (bodyR g s i n c)
def cutR (g s : Nat) (p : Bts) (k : Nat) : List Bts := (List.range k).map fun i => sectorR g s i (Lb.partsN p) (Lb.partAt p i)
def secsR (r : Rec) : List Bts := cutR r.gen.toNat r.seq.toNat (payR r) (Lb.partsN (payR r))
theorem cutR_next (g s : Nat) (p : Bts) (k : Nat) : cutR g s p (k + 1) = cutR g s p k ++ [sectorR g s k (Lb.partsN p) (Lb.partAt p k)] := by unfold cutR; rw [List.range_succ, List.map_append]; rfl
theorem cutR_len (g s : Nat) (p : Bts) (k : Nat) : (cutR g s p k).length = k := by unfold cutR; simp
theorem cutR_get {g s : Nat} {p : Bts} {k i : Nat} (h : i < k) : (cutR g s p k)[i]? = some (sectorR g s i (Lb.partsN p) (Lb.partAt p i)) := by
  unfold cutR
  rw [List.getElem?_map, List.getElem?_range h]; rfl
structure Fine (r : Rec) : Prop where
  seq : 1 ≤ r.seq.toNat
  nws : r.ws.length ≤ 64
  nms : r.ms.length ≤ 64
  nnote : r.note.length ≤ 256
  ws : ∀ i (h : i < r.ws.length), 0 ≤ r.ws[i].g ∧ r.ws[i].g < 4096 ∧ 0 ≤ r.ws[i].p ∧ r.ws[i].p < 16
  ms : ∀ i (h : i < r.ms.length), 0 ≤ r.ms[i].g ∧ r.ms[i].g < 4096 ∧ 0 ≤ r.ms[i].p ∧ r.ms[i].p < 16 ∧ -1 ≤ r.ms[i].k ∧ r.ms[i].k < 60 ∧ 0 ≤ r.ms[i].b ∧ r.ms[i].b < 65536
theorem fine_of {r : Rec} (h : validR r = true) : Fine r := by
  unfold validR lensB at h
  rw [Bool.and_eq_true, Bool.and_eq_true, decide_eq_true_eq] at h
  obtain ⟨⟨h1, h2, h3, h4⟩, h5, h6⟩ := h
  refine ⟨h1, h2, h3, h4, fun i hi => ?_, fun i hi => ?_⟩
  · have := List.all_eq_true.1 h5 _ (List.getElem_mem hi)
    unfold okW pieceB at this
    exact of_decide_eq_true this
  · have := List.all_eq_true.1 h6 _ (List.getElem_mem hi)
    unfold okM pieceB placeB at this
    rw [Bool.and_eq_true, decide_eq_true_eq, decide_eq_true_eq] at this
    omega
def Blk (r : Rec) : Prop := ∀ i (h : i < r.ws.length), r.ws[i].d.length = 8
theorem flat_bound {α : Type} (f : α → Bts) (k : Nat) : ∀ l : List α, (∀ i (h : i < l.length), (f l[i]).length ≤ k) → (l.flatMap f).length ≤ l.length * k
  | [], _ => by simp
  | x :: l, h => by
    have h0 : (f x).length ≤ k := h 0 (by simp)
    have ht := flat_bound f k l fun i hi => h (i + 1) (by simpa using hi)
    rw [List.flatMap_cons, List.length_append, List.length_cons, Nat.succ_mul]; omega
theorem nums_bound (ns : List Nat) (hn : ∀ n, n ∈ ns → n < 18446744073709551616) : (Lb.numsL ns).length ≤ ns.length * 10 := by
  unfold Lb.numsL
  refine flat_bound uv 10 ns fun i hi => ?_
  exact (uv_len _ (hn _ (List.getElem_mem hi))).2
theorem nums_pos (n : Nat) (ns : List Nat) (hn : n < 18446744073709551616) : 1 ≤ (Lb.numsL (n :: ns)).length := by
  unfold Lb.numsL
  rw [List.flatMap_cons, List.length_append]
  have := (uv_len n hn).1
  omega
theorem pw_len {w : PW} (h1 : 0 ≤ w.g ∧ w.g < 4096 ∧ 0 ≤ w.p ∧ w.p < 16) (h8 : w.d.length = 8) : (pwL w).length ≤ 38 := by
  have hv := w.v.isLt
  have := nums_bound [w.g.toNat, w.p.toNat, w.v.toNat] (by
    intro n hn
    simp only [List.mem_cons, List.not_mem_nil, or_false] at hn
    omega)
  unfold pwL
  simp only [List.length_append, List.length_cons, List.length_nil] at this ⊢
  omega
theorem mv_len {m : Mv} (h : 0 ≤ m.g ∧ m.g < 4096 ∧ 0 ≤ m.p ∧ m.p < 16 ∧ -1 ≤ m.k ∧ m.k < 60 ∧ 0 ≤ m.b ∧ m.b < 65536) : (mvL m).length ≤ 40 := by
  have h1 := nums_bound [m.g.toNat, m.p.toNat] (by
    intro n hn
    simp only [List.mem_cons, List.not_mem_nil, or_false] at hn
    omega)
  have h2 := (uv_len (zz m.k) (zz_lt (by omega) (by omega))).2
  have h3 := (uv_len m.b.toNat (by omega)).2
  unfold mvL
  simp only [List.length_append, List.length_cons, List.length_nil] at h1 ⊢
  omega
theorem pay_len {r : Rec} (F : Fine r) (B : Blk r) : 1 ≤ (payR r).length ∧ (payR r).length ≤ 5400 := by
  have hg := r.gen.isLt
  have hs := r.seq.isLt
  have hm : ∀ n, n ∈ [r.gen.toNat, r.seq.toNat, r.ws.length] → n < 18446744073709551616 := by
    intro n hn
    simp only [List.mem_cons, List.not_mem_nil, or_false] at hn
    have := F.nws
    omega
  have h1 := nums_bound _ hm
  have h0 := nums_pos r.gen.toNat [r.seq.toNat, r.ws.length] hg
  have h2 := flat_bound pwL 38 r.ws fun i hi => pw_len (F.ws i hi) (B i hi)
  have h3 := flat_bound mvL 40 r.ms fun i hi => mv_len (F.ms i hi)
  have h4 := (uv_len r.ms.length (by have := F.nms; omega)).2
  have h5 := (uv_len r.note.length (by have := F.nnote; omega)).2
  have := F.nws
  have := F.nms
  have := F.nnote
  unfold payR
  simp only [List.length_append, List.length_cons, List.length_nil] at h1 ⊢
  omega
theorem parts_len {r : Rec} (F : Fine r) (B : Blk r) : 1 ≤ Lb.partsN (payR r) ∧ Lb.partsN (payR r) ≤ 193 := by
  have := pay_len F B
  unfold Lb.partsN; omega
theorem secs_len (r : Rec) : (secsR r).length = Lb.partsN (payR r) := cutR_len _ _ _ _
theorem sector_bound {g s i n : Nat} {c : Bts} (hg : g < 18446744073709551616) (hs : s < 18446744073709551616) (hi : i < 18446744073709551616) (hn : n < 18446744073709551616) (hc : c.length ≤ 28) : (sectorR g s i n c).length ≤ 87 ∧ 9 ≤ (sectorR g s i n c).length := by
  have h1 := nums_bound [g, s, i, n] (by
    intro x hx
    simp only [List.mem_cons, List.not_mem_nil, or_false] at hx
    omega)
  have h2 := (uv_len c.length (by omega)).2
  unfold sectorR bodyR
  rw [Lb.sealL_len]
  simp only [List.length_append, List.length_cons, List.length_nil] at h1 ⊢
  omega
theorem secs_bound {r : Rec} (F : Fine r) (B : Blk r) : ∀ s, s ∈ secsR r → s.length ≤ 87 := by
  intro s hs
  unfold secsR cutR at hs
  obtain ⟨i, hi, rfl⟩ := List.mem_map.1 hs
  have hp := parts_len F B
  rw [List.mem_range] at hi
  exact (sector_bound r.gen.isLt r.seq.isLt (by omega) (by omega) (Lb.partAt_len _ _)).1
def secsL (l : List Rec) : List Bts := l.flatMap secsR
def offN (l : List Rec) (c : Nat) : Nat := (secsL (l.take c)).length
theorem offN_next {l : List Rec} {c : Nat} (h : c < l.length) : offN l (c + 1) = offN l c + (secsR l[c]).length := by
  unfold offN secsL
  rw [List.take_succ_eq_append_getElem h, List.flatMap_append, List.length_append]
  simp
theorem offN_all {l : List Rec} {c : Nat} (h : l.length ≤ c) : offN l c = (secsL l).length := by unfold offN; rw [List.take_of_length_le h]
theorem secsL_drop {l : List Rec} {c : Nat} (h : c < l.length) : (secsL l).drop (offN l c) = secsR l[c] ++ (secsL l).drop (offN l (c + 1)) := by
  have e : ∀ k, secsL l = secsL (l.take k) ++ secsL (l.drop k) := fun k => by
    unfold secsL
    rw [← List.flatMap_append, List.take_append_drop]
  have e1 : (secsL l).drop (offN l c) = secsL (l.drop c) := by
    rw [e c]; exact List.drop_left
  have e2 : (secsL l).drop (offN l (c + 1)) = secsL (l.drop (c + 1)) := by
    rw [e (c + 1)]; exact List.drop_left
  rw [e1, e2, List.drop_eq_getElem_cons h]
  rfl
theorem part_drop {l : List Rec} {c k : Nat} (h : c < l.length) (hk : offN l c ≤ k) : ((secsL l).take k).drop (offN l c) = (secsR l[c] ++ (secsL l).drop (offN l (c + 1))).take (k - offN l c) := by
  rw [← secsL_drop h, List.drop_take]
end Go.Proofs.YtjabgpejmnpamaaGreatDoor.Lg

namespace Go.Proofs.YtjabgpejmnpamaaGreatDoor
open Go.RowKit
attribute [local go_sem] wrap8_un
abbrev encM (n : Nat) : Value := .int .u64 n
theorem numsL_next {ns : List Nat} {i : Nat} (h : i < ns.length) : Lb.numsL (ns.take (i + 1)) = Lb.numsL (ns.take i) ++ uv ns[i] := by
  unfold Lb.numsL
  rw [List.take_succ_eq_append_getElem h, List.flatMap_append]
  simp
theorem numsL_len (ns : List Nat) (hn : ∀ n, n ∈ ns → n < 18446744073709551616) : (Lb.numsL ns).length ≤ 10 * ns.length := by
  induction ns with
  | nil => simp [Lb.numsL]
  | cons a t ih =>
    have h1 := (uv_len a (hn a (by simp))).2
    have h2 := ih fun n h => hn n (by simp [h])
    unfold Lb.numsL at h2 ⊢
    rw [List.flatMap_cons, List.length_append, List.length_cons]
    omega
set_option maxRecDepth 100000 in
set_option maxHeartbeats 1000000 in
theorem numbers_any (v vn : Value) (l : List (BitVec 8)) (ns : List Nat) (w : World) (hl : l.length ≤ 10000) (hnl : ns.length ≤ 1000) (hn : ∀ n, n ∈ ns → n < 18446744073709551616) (h : SliceAt encB w v l) (hv : SliceAt encM w vn ns) :
    Calls Tryz.prog 34 #[v, vn] w fun e w' => ∃ v', e = .returned v' ∧ SliceAt encB w' v' (l ++ Lb.numsL ns) ∧ Ext w w' := by
  obtain ⟨an, cn, rfl⟩ := hv.shape
  obtain ⟨m, hm⟩ : ∃ m, ns.length = m := ⟨_, rfl⟩
  have HM := Lib.hid hm
  have HV := Lib.hid hv
  have HN := Lib.hid hn
  have HS : Hid (SliceAt encB w v (l ++ Lb.numsL (ns.take 0))) := by
    show SliceAt _ _ _ _
    simpa [Lb.numsL] using h
  have HX : Hid (Ext w w) := Ext.refl _
  rw [hm] at HV hnl ⊢
  clear h hv hn hm
  go_enter Tryz.func34, Tryz.ntmps34
  go_wp2_with fail
  go_loopw [0, 9] (fun vo it wr => ∃ i : Nat, i ≤ m ∧ it = .int .i64 i ∧ Hid (SliceAt encB wr vo (l ++ Lb.numsL (ns.take i))) ∧ Hid (Ext w wr)) (fun _ it _ => m - (intOf it).toNat)
  case atStart => exact ⟨0, Nat.zero_le _, rfl, HS, HX⟩
  case round =>
    obtain ⟨i, hi, rfl, HSr, HXr⟩ := hrel
    by_cases hlt : i < m
    · have hin : (i : Int) < (m : Int) := by omega
      have hil : i < ns.length := by rw [HM.out]; exact hlt
      obtain ⟨b, off, rfl, hb, hc⟩ := (HV.out.ext HXr.out).get i hil
      have hlen := numsL_len (ns.take i) (fun n hn => HN.out n (List.mem_of_mem_take hn))
      rw [List.length_take] at hlen
      have hyl : (l ++ Lb.numsL (ns.take i)).length ≤ 50000 := by rw [List.length_append]; omega
      have HNX := Lib.hid (numsL_next hil)
      have hnb := HN.out _ (List.getElem_mem hil)
      obtain ⟨y, hy⟩ : ∃ y, l ++ Lb.numsL (ns.take i) = y := ⟨_, rfl⟩
      have HY := Lib.hid hy
      rw [hy] at HSr hyl
      generalize ns[i] = x at *
      clear hlen hy
      go_wp2_with fail
      go_at_call 75
      refine (appendUint_any _ y x _ hyl hnb HSr.out).mono ?_
      rintro e w2 ⟨v2, rfl, ho2, hx2⟩
      have HS2 : Hid (SliceAt encB w2 v2 (l ++ Lb.numsL (ns.take (i + 1)))) := by
        show SliceAt _ _ _ _
        rw [HNX.out, ← List.append_assoc, HY.out]; exact OwnB.slice ho2
      have HX2 : Hid (Ext w w2) := HXr.out.trans hx2
      clear ho2 hx2
      go_wp2_with fail
      go_roundw
      case rel => exact ⟨i + 1, by omega, by go_num, HS2, HX2⟩
      case measure => simp [intOf]; omega
    · have hin : m = i := by omega
      subst hin
      have hin2 : ¬ ((m : Int) < (m : Int)) := by omega
      rw [show ns.take m = ns by rw [← HM.out, List.take_length]] at HSr
      go_wp2_with fail
      go_ret
      exact ⟨_, rfl, HSr.out, HXr.out⟩
theorem seal_shift (x : BitVec 64) (j : Nat) : IntKind.u8.wrap (un x / (2 : Int) ^ j) = ub ((x >>> j).setWidth 8) := by rw [shr_un]; exact wrap8_un _
theorem own_snoc {w : World} {base : Nat} {v : Value} {l : List (BitVec 8)} {x : BitVec 8} (h : w.ownsRow base 5 1 v (l.length + 1) (l.map encB ++ [encB x])) : OwnB w base v (l ++ [x]) := by
  show World.ownsRow _ _ _ _ _ _ _
  rw [List.length_append, List.map_append]; exact h
def SealEnd (w : World) (B : Nat) (l : List (BitVec 8)) (e : Ending) (w' : World) : Prop := ∃ v', e = .returned v' ∧ OwnB w' B v' l ∧ Below B w w'
set_option maxRecDepth 100000 in
set_option maxHeartbeats 1000000 in
theorem sealed_any (v : Value) (l : List (BitVec 8)) (B : Nat) (w : World) (hl : l.length ≤ 40000) (hB : B ≤ w.heap.size) (h : OwnB w B v l) :
    Calls Tryz.prog 35 #[v] w (SealEnd w B (Lb.sealL l)) := by
  obtain ⟨i0, hi, hz0, hz1, hz2⟩ := info_parts infoB
  have HSL := Lib.hid (OwnB.slice h)
  have HSM := Lib.hid (sum_any v l w (by unfold maxLen; omega) (OwnB.slice h))
  have HE : Hid (Lb.sealL l = l ++ Lb.be8 (Crc.sum l) 8) := rfl
  rw [HE.out]
  generalize Crc.sum l = s at *
  have HO0 : Hid (OwnB w B v (l ++ Lb.be8 s 0)) := by
    have : l ++ Lb.be8 s 0 = l := by simp [Lb.be8]
    rw [this]; exact h
  have HX0 : Hid (Below B w w) := Below.refl _ _
  clear h
  go_enter Tryz.func35, Tryz.ntmps35
  go_wp2_with fail
  go_at_call 45
  refine HSM.out.mono ?_
  rintro e w' ⟨rfl, rfl⟩
  go_wp2_with fail
  go_loopw [0, 4] (fun vo it wr => ∃ k : Nat, k ≤ 8 ∧ (∃ z : Int, it = .int .i64 z ∧ z = 56 - 8 * (k : Int)) ∧ Hid (OwnB wr B vo (l ++ Lb.be8 s k)) ∧ Hid (Below B w wr)) (fun _ it _ => (intOf it + 8).toNat)
  case atStart => exact ⟨0, by decide, ⟨_, rfl, rfl⟩, HO0, HX0⟩
  case round =>
    obtain ⟨k, hk, ⟨z, rfl, hz⟩, HO, HX⟩ := hrel
    by_cases hlt : k < 8
    · obtain ⟨j, hj⟩ : ∃ j : Nat, 56 - 8 * k = j := ⟨_, rfl⟩
      have hz2 : z = (j : Int) := by omega
      have HJ := Lib.hid hj
      have HZJ : Hid ((j : Int) = 56 - 8 * (k : Int)) := by show _ = _; omega
      subst hz2
      have HNX := Lib.hid (Lb.be8_next s k)
      rw [hj] at HNX
      have hsh := seal_shift s j
      have hlen : (l ++ Lb.be8 s k).length ≤ 41000 := by rw [List.length_append, Lb.be8_len]; omega
      have hBw : B ≤ wr.heap.size := Nat.le_trans hB (Below.size HX.out)
      have hj0 : (0 : Int) ≤ (j : Int) := by omega
      have hjs : j ≤ 56 := by omega
      obtain ⟨y, hy⟩ : ∃ y, l ++ Lb.be8 s k = y := ⟨_, rfl⟩
      have HYE := Lib.hid hy
      rw [hy] at HO hlen
      clear hz hj hy
      go_wp2_with (at_builtin; refine Classical.byContradiction (fun hN => ?_))
      refine hN ?_
      clear hN
      have e1 : Ext wr (wr.alloc (.cells #[encB ((s >>> j).setWidth 8)] 5)) := Ext.alloc _ _
      have hown : OwnG encB 5 (wr.alloc (.cells #[encB ((s >>> j).setWidth 8)] 5)) B u0 y := OwnG.ext (enc := encB) HO.out e1
      have hx1 : Below B w (wr.alloc (.cells #[encB ((s >>> j).setWidth 8)] 5)) := Below.alloc HX.out hBw _
      have hs1 : B ≤ (wr.alloc (.cells #[encB ((s >>> j).setWidth 8)] 5)).heap.size := by simp; omega
      refine wpList_append_one rfl _ _ _ rfl B 5 i0 (.int .u8 0) 1 Tryz.underlying47 hi hz0 hz1 hz2 rfl _ _ _ rfl hown _ (encB ((s >>> j).setWidth 8)) rfl rfl (cell_new1 _ _ _) (by unfold maxLen; omega) (by omega) hs1 ?_
      intro v6 w6 ho6 hg6 _
      have HX6 : Hid (Below B w w6) := Below.grown hx1 hg6 hs1 (fun q hq => (hown.lt q hq).1)
      have HO6 : Hid (OwnB w6 B v6 (l ++ Lb.be8 s (k + 1))) := by
        show World.ownsRow _ _ _ _ _ _ _
        rw [HNX.out, ← List.append_assoc, HYE.out]; exact own_snoc ho6
      clear ho6 hg6 hown e1 hx1 hs1
      go_wp2
      go_roundw
      case rel => exact ⟨k + 1, by omega, ⟨_, rfl, by have := HZJ.out; omega⟩, HO6, HX6⟩
      case measure => have := HZJ.out; first | (simp [intOf]; done) | (simp [intOf]; omega)
    · have hz2 : z = -8 := by omega
      clear hz
      subst hz2
      have hk8 : k = 8 := by omega
      subst hk8
      go_wp2_with fail
      go_ret
      exact ⟨_, rfl, HO.out, HX.out⟩
end Go.Proofs.YtjabgpejmnpamaaGreatDoor

namespace Go.Proofs.YtjabgpejmnpamaaGreatDoor
open Go.RowKit
attribute [local go_sem] wrap8_un
set_option maxRecDepth 100000 in
set_option maxHeartbeats 1000000 in
theorem rnumbers_any (v vn : Value) (l : List (BitVec 8)) (ns : List Nat) (w : World) (hl : l.length ≤ 10000) (hnl : ns.length ≤ 1000) (hn : ∀ n, n ∈ ns → n < 18446744073709551616) (h : SliceAt encB w v l) (hv : SliceAt encM w vn ns) :
    Calls Tryz.prog 86 #[v, vn] w fun e w' => ∃ v', e = .returned v' ∧ SliceAt encB w' v' (l ++ Lb.numsL ns) ∧ Ext w w' := by
  obtain ⟨an, cn, rfl⟩ := hv.shape
  obtain ⟨m, hm⟩ : ∃ m, ns.length = m := ⟨_, rfl⟩
  have HM := Lib.hid hm
  have HV := Lib.hid hv
  have HN := Lib.hid hn
  have HS : Hid (SliceAt encB w v (l ++ Lb.numsL (ns.take 0))) := by
    show SliceAt _ _ _ _
    simpa [Lb.numsL] using h
  have HX : Hid (Ext w w) := Ext.refl _
  rw [hm] at HV hnl ⊢
  clear h hv hn hm
  go_enter Tryz.func86, Tryz.ntmps86
  go_wp2_with fail
  go_loopw [0, 9] (fun vo it wr => ∃ i : Nat, i ≤ m ∧ it = .int .i64 i ∧ Hid (SliceAt encB wr vo (l ++ Lb.numsL (ns.take i))) ∧ Hid (Ext w wr)) (fun _ it _ => m - (intOf it).toNat)
  case atStart => exact ⟨0, Nat.zero_le _, rfl, HS, HX⟩
  case round =>
    obtain ⟨i, hi, rfl, HSr, HXr⟩ := hrel
    by_cases hlt : i < m
    · have hin : (i : Int) < (m : Int) := by omega
      have hil : i < ns.length := by rw [HM.out]; exact hlt
      obtain ⟨b, off, rfl, hb, hc⟩ := (HV.out.ext HXr.out).get i hil
      have hlen := numsL_len (ns.take i) (fun n hn => HN.out n (List.mem_of_mem_take hn))
      rw [List.length_take] at hlen
      have hyl : (l ++ Lb.numsL (ns.take i)).length ≤ 50000 := by rw [List.length_append]; omega
      have HNX := Lib.hid (numsL_next hil)
      have hnb := HN.out _ (List.getElem_mem hil)
      obtain ⟨y, hy⟩ : ∃ y, l ++ Lb.numsL (ns.take i) = y := ⟨_, rfl⟩
      have HY := Lib.hid hy
      rw [hy] at HSr hyl
      generalize ns[i] = x at *
      clear hlen hy
      go_wp2_with fail
      go_at_call 75
      refine (appendUint_any _ y x _ hyl hnb HSr.out).mono ?_
      rintro e w2 ⟨v2, rfl, ho2, hx2⟩
      have HS2 : Hid (SliceAt encB w2 v2 (l ++ Lb.numsL (ns.take (i + 1)))) := by
        show SliceAt _ _ _ _
        rw [HNX.out, ← List.append_assoc, HY.out]; exact OwnB.slice ho2
      have HX2 : Hid (Ext w w2) := HXr.out.trans hx2
      clear ho2 hx2
      go_wp2_with fail
      go_roundw
      case rel => exact ⟨i + 1, by omega, by go_num, HS2, HX2⟩
      case measure => simp [intOf]; omega
    · have hin : m = i := by omega
      subst hin
      have hin2 : ¬ ((m : Int) < (m : Int)) := by omega
      rw [show ns.take m = ns by rw [← HM.out, List.take_length]] at HSr
      go_wp2_with fail
      go_ret
      exact ⟨_, rfl, HSr.out, HXr.out⟩
set_option maxRecDepth 100000 in
set_option maxHeartbeats 1000000 in
theorem recsealed_any (v : Value) (l : List (BitVec 8)) (B : Nat) (w : World) (hl : l.length ≤ 40000) (hB : B ≤ w.heap.size) (h : OwnB w B v l) :
    Calls Tryz.prog 87 #[v] w (SealEnd w B (Lb.sealL l)) := by
  obtain ⟨i0, hi, hz0, hz1, hz2⟩ := info_parts infoB
  have HSL := Lib.hid (OwnB.slice h)
  have HSM := Lib.hid (sum_any v l w (by unfold maxLen; omega) (OwnB.slice h))
  have HE : Hid (Lb.sealL l = l ++ Lb.be8 (Crc.sum l) 8) := rfl
  rw [HE.out]
  generalize Crc.sum l = s at *
  have HO0 : Hid (OwnB w B v (l ++ Lb.be8 s 0)) := by
    have : l ++ Lb.be8 s 0 = l := by simp [Lb.be8]
    rw [this]; exact h
  have HX0 : Hid (Below B w w) := Below.refl _ _
  clear h
  go_enter Tryz.func87, Tryz.ntmps87
  go_wp2_with fail
  go_at_call 45
  refine HSM.out.mono ?_
  rintro e w' ⟨rfl, rfl⟩
  go_wp2_with fail
  go_loopw [0, 4] (fun vo it wr => ∃ k : Nat, k ≤ 8 ∧ (∃ z : Int, it = .int .i64 z ∧ z = 56 - 8 * (k : Int)) ∧ Hid (OwnB wr B vo (l ++ Lb.be8 s k)) ∧ Hid (Below B w wr)) (fun _ it _ => (intOf it + 8).toNat)
  case atStart => exact ⟨0, by decide, ⟨_, rfl, rfl⟩, HO0, HX0⟩
  case round =>
    obtain ⟨k, hk, ⟨z, rfl, hz⟩, HO, HX⟩ := hrel
    by_cases hlt : k < 8
    · obtain ⟨j, hj⟩ : ∃ j : Nat, 56 - 8 * k = j := ⟨_, rfl⟩
      have hz2 : z = (j : Int) := by omega
      have HJ := Lib.hid hj
      have HZJ : Hid ((j : Int) = 56 - 8 * (k : Int)) := by show _ = _; omega
      subst hz2
      have HNX := Lib.hid (Lb.be8_next s k)
      rw [hj] at HNX
      have hsh := seal_shift s j
      have hlen : (l ++ Lb.be8 s k).length ≤ 41000 := by rw [List.length_append, Lb.be8_len]; omega
      have hBw : B ≤ wr.heap.size := Nat.le_trans hB (Below.size HX.out)
      have hj0 : (0 : Int) ≤ (j : Int) := by omega
      have hjs : j ≤ 56 := by omega
      obtain ⟨y, hy⟩ : ∃ y, l ++ Lb.be8 s k = y := ⟨_, rfl⟩
      have HYE := Lib.hid hy
      rw [hy] at HO hlen
      clear hz hj hy
      go_wp2_with (at_builtin; refine Classical.byContradiction (fun hN => ?_))
      refine hN ?_
      clear hN
      have e1 : Ext wr (wr.alloc (.cells #[encB ((s >>> j).setWidth 8)] 5)) := Ext.alloc _ _
      have hown : OwnG encB 5 (wr.alloc (.cells #[encB ((s >>> j).setWidth 8)] 5)) B u0 y := OwnG.ext (enc := encB) HO.out e1
      have hx1 : Below B w (wr.alloc (.cells #[encB ((s >>> j).setWidth 8)] 5)) := Below.alloc HX.out hBw _
      have hs1 : B ≤ (wr.alloc (.cells #[encB ((s >>> j).setWidth 8)] 5)).heap.size := by simp; omega
      refine wpList_append_one rfl _ _ _ rfl B 5 i0 (.int .u8 0) 1 Tryz.underlying47 hi hz0 hz1 hz2 rfl _ _ _ rfl hown _ (encB ((s >>> j).setWidth 8)) rfl rfl (cell_new1 _ _ _) (by unfold maxLen; omega) (by omega) hs1 ?_
      intro v6 w6 ho6 hg6 _
      have HX6 : Hid (Below B w w6) := Below.grown hx1 hg6 hs1 (fun q hq => (hown.lt q hq).1)
      have HO6 : Hid (OwnB w6 B v6 (l ++ Lb.be8 s (k + 1))) := by
        show World.ownsRow _ _ _ _ _ _ _
        rw [HNX.out, ← List.append_assoc, HYE.out]; exact own_snoc ho6
      clear ho6 hg6 hown e1 hx1 hs1
      go_wp2
      go_roundw
      case rel => exact ⟨k + 1, by omega, ⟨_, rfl, by have := HZJ.out; omega⟩, HO6, HX6⟩
      case measure => have := HZJ.out; first | (simp [intOf]; done) | (simp [intOf]; omega)
    · have hz2 : z = -8 := by omega
      clear hz
      subst hz2
      have hk8 : k = 8 := by omega
      subst hk8
      go_wp2_with fail
      go_ret
      exact ⟨_, rfl, HO.out, HX.out⟩
end Go.Proofs.YtjabgpejmnpamaaGreatDoor

namespace Go.Proofs.YtjabgpejmnpamaaGreatDoor
open Go.RowKit
attribute [local go_sem] wrap8_un or_ub
abbrev encF (g : Nat) (i : Nat) : Value := .pointer (some ⟨g, 4 + i, none⟩)
def FieldsEnd (w : World) (g : Nat) (e : Ending) (w' : World) : Prop := ∃ v', e = .returned v' ∧ SliceAt (encF g) w' v' (List.range 11) ∧ Ext w w'
set_option maxRecDepth 100000 in
set_option maxHeartbeats 1000000 in
theorem fields_any (g : Nat) (w : World) (hg : g < w.heap.size) :
    Calls Tryz.prog 73 #[.pointer (some ⟨g, 4, none⟩)] w (FieldsEnd w g) := by
  go_enter Tryz.func73, Tryz.ntmps73
  go_wp2_with fail
  refine wp_region_ext [(0, true), (1, true), (2, true), (3, true), (4, true), (5, true), (6, true), (7, true), (8, true), (9, true), (10, true), (11, true), (12, true), (13, true), (14, true), (15, true), (16, true), (17, true), (18, true), (19, true), (20, true), (21, true), (22, true), (23, true), (24, true), (25, true), (26, true), (27, true), (28, true), (29, true), (30, true), (31, true), (32, true), (33, false), (34, true)] (by kernel_rfl) (by kernel_rfl) ?_
  iterate 33 ((first
   | refine ext_move rfl rfl (by rfl) (by rfl) ?_
   | refine ext_assign rfl rfl (by rfl) (by rfl) ?_
   | refine ext_pick_t rfl rfl (by rfl) (by rfl) (by rfl) ?_
   | refine ext_pick_f rfl rfl (by rfl) (by rfl) (by rfl) ?_
   | (apply ext_take rfl (by rfl)
      · intro w' hS
        have hSc := hS.cells
        (try simp only [World.size_drew, World.cell?_drew] at hSc)
        go_simp
        (try simp (disch := omega) only [i64_id, u64_id, ↓IntWalk.iteOmega, Int.tdiv_eq_ediv_of_nonneg, Int.tmod_eq_emod_of_nonneg])
        try rfl)
   | refine ext_pass rfl (by rfl) ?_); simp only [Act.put, setZa, setZ0, setZ1])
  (refine ext_do rfl (by rfl) (fun K hK => ?_)
   go_simp
   refine hK _ _ (by first | exact Ext.alloc _ _ | exact (Ext.drew _).trans (Ext.alloc _ _)) ?_
   clear hK K
   (try simp only [Act.put, setZa, setZ0, setZ1]))
  iterate 1 ((first
   | refine ext_move rfl rfl (by rfl) (by rfl) ?_
   | refine ext_assign rfl rfl (by rfl) (by rfl) ?_
   | refine ext_pick_t rfl rfl (by rfl) (by rfl) (by rfl) ?_
   | refine ext_pick_f rfl rfl (by rfl) (by rfl) (by rfl) ?_
   | (apply ext_take rfl (by rfl)
      · intro w' hS
        have hSc := hS.cells
        (try simp only [World.size_drew, World.cell?_drew] at hSc)
        go_simp
        (try simp (disch := omega) only [i64_id, u64_id, ↓IntWalk.iteOmega, Int.tdiv_eq_ediv_of_nonneg, Int.tmod_eq_emod_of_nonneg])
        try rfl)
   | refine ext_pass rfl (by rfl) ?_); simp only [Act.put, setZa, setZ0, setZ1])
  refine ext_nil ?_
  go_wp2_with fail
  go_ret
  exact ⟨_, rfl, SliceAt.lit (enc := encF g) w.drew (List.range 11) _ (0, 0) _ rfl, (Ext.drew _).trans (Ext.alloc _ _)⟩
theorem lab_field (l : Lab) (d : Value) (i : Nat) (h : i < 11) : (labA l d)[4 + i]? = some (.int .i64 ((cfgL l.c).getD i 0)) := by
  match i, h with
  | 0, _ => rfl
  | 1, _ => rfl
  | 2, _ => rfl
  | 3, _ => rfl
  | 4, _ => rfl
  | 5, _ => rfl
  | 6, _ => rfl
  | 7, _ => rfl
  | 8, _ => rfl
  | 9, _ => rfl
  | 10, _ => rfl
theorem wrap_bit (m : Nat) (h : m < 8) : IntKind.u8.wrap ((2 : Int) ^ m) = ub (1#8 <<< m) := by
  match m, h with
  | 0, _ => rfl
  | 1, _ => rfl
  | 2, _ => rfl
  | 3, _ => rfl
  | 4, _ => rfl
  | 5, _ => rfl
  | 6, _ => rfl
  | 7, _ => rfl
def BitEnd (w : World) (g k : Nat) (y : BitVec 8) (e : Ending) (w' : World) : Prop := e = .returned (.tuple #[]) ∧ w' = (w.setCell ⟨g, k, none⟩ (encB y)).drew
set_option maxRecDepth 100000 in
set_option maxHeartbeats 1000000 in
theorem bit_any (i b g n : Nat) (y : BitVec 8) (w : World) (hi : i / 8 < n) (hi2 : i ≤ 1000) (hb : b < w.heap.size) (hc : w.cell? ⟨b, 0, none⟩ = some (.slice (some ⟨g, 0, none⟩) n n)) (hg : g < w.heap.size) (hy : w.cell? ⟨g, i / 8, none⟩ = some (encB y)) (hf : w.frozen? ⟨g, i / 8, none⟩ = false) :
    Calls Tryz.prog 74 #[.int .i64 i, .pointer (some ⟨b, 0, none⟩)] w (BitEnd w g (i / 8) (y ||| 1#8 <<< (i % 8))) := by
  have hq : ((i : Int) / 8).toNat = i / 8 := by omega
  have hr : ((i : Int) % 8).toNat = i % 8 := by omega
  have hs := wrap_bit (i % 8) (Nat.mod_lt _ (by decide))
  have hfd : w.drew.frozen? ⟨g, i / 8, none⟩ = false := by simpa using hf
  go_enter Tryz.func74, Tryz.ntmps74
  refine wp_region_ext [(0, true), (1, true), (2, true), (3, true), (4, true), (5, true), (6, true), (7, true), (8, true), (9, true), (10, false)] (by kernel_rfl) (by kernel_rfl) ?_
  iterate 10 ((first
   | refine ext_move rfl rfl (by rfl) (by rfl) ?_
   | refine ext_assign rfl rfl (by rfl) (by rfl) ?_
   | refine ext_pick_t rfl rfl (by rfl) (by rfl) (by rfl) ?_
   | refine ext_pick_f rfl rfl (by rfl) (by rfl) (by rfl) ?_
   | (apply ext_take rfl (by rfl)
      · intro w' hS
        have hSc := hS.cells
        (try simp only [World.size_drew, World.cell?_drew] at hSc)
        go_simp
        (try simp (disch := omega) only [i64_id, ↓IntWalk.iteOmega, Int.tmod_eq_emod_of_nonneg])
        try rfl)
   | refine ext_pass rfl (by rfl) ?_); simp only [Act.put, setZa, setZ0, setZ1])
  (refine ext_last rfl (by rfl) (by kernel_rfl) (fun K hK => ?_)
   go_simp
   refine hK _ _ ?_
   clear hK K
   (try simp only [Act.put, setZa, setZ0, setZ1]))
  go_end0
  exact ⟨rfl, rfl⟩
end Go.Proofs.YtjabgpejmnpamaaGreatDoor
