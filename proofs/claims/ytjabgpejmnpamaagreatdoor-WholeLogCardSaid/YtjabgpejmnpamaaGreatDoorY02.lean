/-
  Part 2 of the proof.
-/
import Derived.Test.YtjabgpejmnpamaaGreatDoorY01
import Derived.LaidMore
import Derived.LaidHandle
import Derived.LaidLaws
import Derived.MakeChecks
import Derived.ChangeVars
import Derived.ChangeSame
import Derived.Handed
import Derived.Stop.Joined
set_option linter.unusedVariables false
namespace Go.Proofs.YtjabgpejmnpamaaGreatDoor
open Go.ChangeShapes Go.WideShapes Go.ChangeAt Go.RowKit
def Small (w : World) : Prop := 0 < w.heap.size ∧ w.cell? ⟨0, 0, none⟩ = some (.int .i64 60) ∧ w.cell? ⟨0, 1, none⟩ = some (.int .i64 5) ∧ w.cell? ⟨0, 2, none⟩ = some (.int .i64 2) ∧ w.cell? ⟨0, 3, none⟩ = some (.int .i64 3) ∧ w.cell? ⟨0, 4, none⟩ = some (.int .i64 1)
theorem smallG : Tryz.prog.globalNamed "tegula/tegulatop.small" = some 0 := by kernel_rfl
theorem smallT : (Tryz.prog.globals[0]?).map (·.type) = some 24 := by kernel_rfl
abbrev laidS : List (String × DataW Unit) := [("tegula/tegulatop.small", Rows.laid_tegula_tegulatop_small)]
theorem one_of {cs : List Value} {i : Nat} {v : Value} (h : (cs.drop i).take 1 = [v]) : cs[i]? = some v := by
  have : ((cs.drop i).take 1)[0]? = some v := by rw [h]; rfl
  rw [List.getElem?_take_of_lt (by decide), List.getElem?_drop] at this
  simpa using this
theorem small_of_laid {W : World} (h : laidMetH Tryz.prog laidS W) : Small W := by
  rw [MakeChecks.laidMetH_plain _ _ _ (by kernel_rfl)] at h
  obtain ⟨ps, ⟨g0, t0, cs0, f0, p0, q0, hg0, ht0, hv0, hd0, _, _⟩, _, _⟩ := h
  obtain rfl := Option.some.inj (smallG.symm.trans hg0)
  obtain rfl := Option.some.inj (smallT.symm.trans ht0)
  obtain ⟨xs, n, _, hx, hlen, hsz, hel⟩ := DataW.trod_struct Tryz.underlying24 hd0
  have c3 : Tryz.prog.cellsOf 3 = 1 := by kernel_rfl
  have hc := World.var?_cell smallG hv0
  match xs, hsz, hx, hel with
  | [x0, x1, x2, x3, x4], _, hx, hel =>
    have e0 : DataW.trod (fun _ => ()) Tryz.prog W 0 (fun _ => true) false n 3 ((cs0.toList.drop 0).take (Tryz.prog.cellsOf 3)) = some x0 := hel 0 _ rfl
    have e1 : DataW.trod (fun _ => ()) Tryz.prog W 0 (fun _ => true) false n 3 ((cs0.toList.drop 1).take (Tryz.prog.cellsOf 3)) = some x1 := hel 1 _ rfl
    have e2 : DataW.trod (fun _ => ()) Tryz.prog W 0 (fun _ => true) false n 3 ((cs0.toList.drop 2).take (Tryz.prog.cellsOf 3)) = some x2 := hel 2 _ rfl
    have e3 : DataW.trod (fun _ => ()) Tryz.prog W 0 (fun _ => true) false n 3 ((cs0.toList.drop 3).take (Tryz.prog.cellsOf 3)) = some x3 := hel 3 _ rfl
    have e4 : DataW.trod (fun _ => ()) Tryz.prog W 0 (fun _ => true) false n 3 ((cs0.toList.drop 4).take (Tryz.prog.cellsOf 3)) = some x4 := hel 4 _ rfl
    rw [c3] at e0 e1 e2 e3 e4
    obtain ⟨n0, k0, y0, _⟩ := DataW.trod_int Tryz.underlying3 e0
    obtain ⟨n1, k1, y1, _⟩ := DataW.trod_int Tryz.underlying3 e1
    obtain ⟨n2, k2, y2, _⟩ := DataW.trod_int Tryz.underlying3 e2
    obtain ⟨n3, k3, y3, _⟩ := DataW.trod_int Tryz.underlying3 e3
    obtain ⟨n4, k4, y4, _⟩ := DataW.trod_int Tryz.underlying3 e4
    subst y0 y1 y2 y3 y4
    simp [Rows.laid_tegula_tegulatop_small] at hx
    obtain ⟨⟨z0, z1, z2, z3, z4⟩, _⟩ := hx
    subst z0 z1 z2 z3 z4
    have d0 := (hc 0).trans ((Array.getElem?_toList).symm.trans (one_of k0))
    have d1 := (hc 1).trans ((Array.getElem?_toList).symm.trans (one_of k1))
    have d2 := (hc 2).trans ((Array.getElem?_toList).symm.trans (one_of k2))
    have d3 := (hc 3).trans ((Array.getElem?_toList).symm.trans (one_of k3))
    have d4 := (hc 4).trans ((Array.getElem?_toList).symm.trans (one_of k4))
    refine ⟨?_, d0, d1, d2, d3, d4⟩
    rcases Nat.lt_or_ge 0 W.heap.size with h' | h'
    · exact h'
    · simp [World.cell?, Array.getElem?_eq_none h'] at d0
theorem door_met (os : Os) (args : Array Value) : laidMetH Tryz.prog laidS ((World.doorLaid Tryz.prog 400 os).forCall (fun _ _ => 0) ⟨#[], args, []⟩).memory :=
  laidMetH_of_parts3 (fuel := 8) (laidMet_of_run' 8 (by kernel_rfl) (by kernel_rfl)) (by kernel_rfl) (by kernel_rfl)
theorem law_lift_laid {C : Checked} {os : Os} {f : FuncId} {fn : Func} {s : ChangeSpec} {H : Type} {enc : TypeId × Value → H} {tb : TypeId} {L : List (String × DataW Unit)}
    (own : ownKnob C.prog.godebug = none) (started : os.Started) (noInit : C.prog.inits.idxOf? f = none) (hfn : C.prog.funcs[f]? = some fn)
    (hvars : s.vars = []) (hspec : ∀ ds : List (DataW H), ds.length = fn.params.toList.length → s.fn H (ds ++ []) = { results := [.lit (.bool true)], args := ds })
    (hl : laidOutB C.prog = true) (hp : ∀ t ∈ fn.params.toList, C.prog.readableRec t = true ∧ t < C.prog.types.size) (hres : fn.resultTypes = #[tb]) (hub : C.prog.underlying tb = some .bool)
    (witness : ∃ (w : World) (tape : Tape) (i : Input), w.os = os ∧ (w.forCall tape i).Shaped C.prog ∧ i.vars = [] ∧ Input.okWide C.prog (w.forCall tape i) .any w.heap.size f i ∧
      ((s.pre enc C.prog fn [] false (w.forCall tape i).memory i.args ∧ laidMetH C.prog L (w.forCall tape i).memory) ∧ sizedMet enc C.prog fn (OpenSpec.ofChange s) false (w.forCall tape i).memory i.args) ∧ ({} : Assume).holds C.prog (lone (Frame.enter C.prog f i.args .normal) [] (w.forCall tape i)))
    (contract : ∀ (W : World) (base : Nat) (args : Array Value) (ds : List (DataW H)) (p : List MemPlace), laidMetH C.prog L W →
      (∀ (j : Nat) t v, fn.params[j]? = some t → args[j]? = some v → Value.okWide C.prog W .any base t v) →
      DataW.TrodAll enc C.prog W 0 (fun _ => true) true fn.params.toList args.toList ds p →
      (∀ x ∈ p, x.block < W.heap.size) →
      (DataW.weightsEach C.prog (fn.params.toList ++ []) (ds ++ [])).all (· ≤ reachBytes) = true →
      Calls C.prog f args W fun e W' => e = .returned (.bool true) ∧ Below W.heap.size W W') :
    ReturnsInHanded {} C os f .any (fun w args => (s.pre enc C.prog fn [] false w args ∧ laidMetH C.prog L w) ∧ sizedMet enc C.prog fn (OpenSpec.ofChange s) false w args) (s.post enc C.prog fn false true false false) := by
  refine returnsInHanded_of_change_and (X := fun w _ => laidMetH C.prog L w) (fun _ _ _ hh h => laidMetH.of_heap hh h) own started noInit hfn witness ?_
  intro W base args ds gs before hval hW _ hsz hL _
  have hW' := hW
  have hlt := hW'.lt
  obtain ⟨p, q, hA, hV, rfl, _, _⟩ := hW
  have hvt : s.plain.varTypes C.prog = [] := by
    unfold ChangeSpec.plain DataSpec.varTypes; rw [hvars]; rfl
  rw [hvars] at hV
  obtain ⟨rfl, rfl⟩ := trodVars_none hV
  rw [hvt] at hsz
  refine (contract W base args ds p hL hval hA (fun x hx => hlt x (by simp [hx])) hsz).mono fun e W' ⟨he, hb⟩ => ?_
  have hds := trodAll_len hA
  refine ⟨_, he, ds, [], p ++ [], [], p, [], hW', ?_, ?_, ?_, hb.frame _, fun h => by cases h⟩
  · rw [hspec ds hds, hres]; exact trodAll_mk1 (shut_bool hub true)
  · rw [hspec ds hds]; exact trodAll_below hl hb hp hA (fun x hx => hlt x (by simp [hx]))
  · rw [hspec ds hds, hvars]; rfl
end Go.Proofs.YtjabgpejmnpamaaGreatDoor
