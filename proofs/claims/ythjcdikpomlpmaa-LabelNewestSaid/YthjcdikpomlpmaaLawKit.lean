/-
  The frame of a law's proof, once for all laws of this seat: a law that returns true and turns nothing that was there before meets its row.
-/
import Derived.Test.YthjcdikpomlpmaaRows
import Derived.WalkKit
import Derived.ProofKit
import Derived.SizedLaws
import Derived.Lib.Hide
import Derived.OpenShut
import Derived.Test.YthjcdikpomlpmaaMem
namespace Go.Proofs.Ythjcdikpomlpmaa
open Go.ChangeShapes Go.WideShapes Go.ChangeAt Go.RowKit

/-! ### Arguments opened by their shape alone -/
theorem cell_int {P : Program} {w : World} {r : Reach} {base : Nat} {t : TypeId} {k : IntKind} {c : Value} (ht : P.underlying t = some (.int k)) (h : Cell.okWide P w r base t c) :
    ∃ n, c = .int k n ∧ k.min ≤ n ∧ n ≤ k.max := by
  simp only [Cell.okWide, ht] at h
  unfold Cell.ok at h
  rw [ht] at h
  cases c <;> simp at h
  obtain ⟨rfl, h⟩ := h
  exact ⟨_, rfl, by simpa [IntKind.has] using h⟩
theorem cell_bool {P : Program} {w : World} {r : Reach} {base : Nat} {t : TypeId} {c : Value} (ht : P.underlying t = some .bool) (h : Cell.okWide P w r base t c) :
    ∃ b, c = .bool b := by
  simp only [Cell.okWide, ht] at h
  unfold Cell.ok at h
  rw [ht] at h
  cases c <;> simp at h
  exact ⟨_, rfl⟩
/-- a struct or an array by value: its cells, each of its type -/
theorem agg_cells {P : Program} {w : World} {r : Reach} {base : Nat} {t : TypeId} {v : Value} {ts : List TypeId}
    (ht : (match P.underlying t with | some (.struct _) | some (.array _ _) => true | _ => false) = true) (hts : P.cellTypes P.depth t = some ts) (hn : P.cellsOf t = ts.length) (h : Value.okWide P w r base t v) :
    ∃ cs : Array Value, v = .agg cs ∧ cs.size = ts.length ∧ ∀ (i : Nat) (c : Value), cs[i]? = some c → ∃ u, ts[i]? = some u ∧ Cell.okWide P w r base u c := by
  have key : ∃ cs, v = .agg cs ∧ cs.size = P.cellsOf t ∧ Row.okWide P w r base t cs := by
    unfold Value.okWide at h
    revert h ht
    cases P.underlying t with
    | none => simp
    | some d => cases d <;> simp
  obtain ⟨cs, rfl, hsz, ts', hts', _, hc⟩ := key
  rw [hts] at hts'
  obtain rfl := Option.some.inj hts'
  refine ⟨cs, rfl, by rw [hsz, hn], fun i c hi => ?_⟩
  obtain ⟨u, hu, hok⟩ := hc i c hi
  have hlt : i < ts.length := by rw [← hn, ← hsz]; exact (Array.getElem?_eq_some_iff.1 hi).1
  rw [Nat.mod_eq_of_lt hlt] at hu
  exact ⟨u, hu, hok⟩

/-- a slice of integers that came in, as a list -/
theorem open_slice_int {H : Type} {enc : TypeId × Value → H} {P : Program} {w : World} {r : Reach} {b0 : Nat} {t e : TypeId} {k : IntKind} {v : Value} {d : DataW H} {ps : List MemPlace}
    (ht : P.underlying t = some (.slice e)) (he : P.underlying e = some (.int k)) (hc : P.cellsOf e = 1) (hval : Value.okWide P w r b0 t v) (h : DataW.Trod enc P w 0 (fun _ => true) true t v d ps) :
    ∃ zs : List Int, SliceAt (fun n => Value.int k n) w v zs ∧ (∀ n ∈ zs, (Lit.int k n).wf = true) ∧ zs.length ≤ maxLen := by
  obtain ⟨a0, len, cap, rfl⟩ := okWide_slice ht hval
  obtain ⟨fuel, hf⟩ := h
  rcases open_ints ht he hc hf with ⟨hcs, _⟩ | ⟨a, len', cap', zs, hcs, _, hl, hm, hz, _, hcell, hwz⟩
  · simp [Value.cells] at hcs
    obtain ⟨rfl, rfl, rfl⟩ := hcs
    exact ⟨[], SliceAt.nil, (by simp), by simp⟩
  · simp [Value.cells] at hcs
    obtain ⟨rfl, rfl, rfl⟩ := hcs
    simp only [if_true] at hz
    refine ⟨zs.take len, ⟨some a, cap, by rw [List.length_take]; congr 1; omega, by rw [List.length_take]; omega, ?_⟩, fun n hn => hwz n (List.mem_of_mem_take hn), by rw [List.length_take]; omega⟩
    rcases Nat.eq_zero_or_pos len with h0 | h0
    · left; subst h0; exact ⟨by simp, fun h => by cases h⟩
    · right
      obtain ⟨b, off, rfl, hb⟩ := ints_at hcell (by omega)
      refine ⟨b, off, rfl, ?_, fun i hi => ?_⟩
      · have := hb 0 (by omega)
        rcases Nat.lt_or_ge b w.heap.size with h' | h'
        · exact h'
        · simp [World.cell?, Array.getElem?_eq_none h'] at this
      · rw [List.length_take] at hi
        rw [hb i (by omega)]
        congr 1
        show Value.int k _ = Value.int k _
        rw [List.getElem_take, List.getD_eq_getElem?_getD, List.getElem?_eq_getElem (by omega)]; rfl

theorem SliceAt.map {α β : Type} {enc : α → Value} {enc' : β → Value} {w : World} {v : Value} {l : List α} (h : SliceAt enc w v l) (f : α → β) (hf : ∀ x ∈ l, enc x = enc' (f x)) : SliceAt enc' w v (l.map f) := by
  obtain ⟨ad, cap, hv, hca, h⟩ := h
  refine ⟨ad, cap, by rw [List.length_map]; exact hv, by rw [List.length_map]; exact hca, ?_⟩
  rcases h with ⟨h1, h2⟩ | ⟨b, off, h1, h2, h3⟩
  · left; exact ⟨by rw [h1]; rfl, h2⟩
  · right
    refine ⟨b, off, h1, h2, fun i hi => ?_⟩
    rw [List.length_map] at hi
    rw [h3 i hi, List.getElem_map, hf _ (List.getElem_mem hi)]

theorem trodAll_below {H : Type} {enc : TypeId × Value → H} {P : Program} (hl : laidOutB P = true) {W W' : World} (hb : Below W.heap.size W W') :
    ∀ {ts : List TypeId} {vs : List Value} {ds : List (DataW H)} {ps : List MemPlace}, (∀ t ∈ ts, P.readableRec t = true ∧ t < P.types.size) →
      DataW.TrodAll enc P W 0 (fun _ => true) true ts vs ds ps → (∀ x ∈ ps, x.block < W.heap.size) →
      DataW.TrodAll enc P W' 0 (fun b => decide (b < W.heap.size)) true ts vs ds ps
  | [], [], [], _, _, h, _ => h
  | t :: ts, v :: vs, d :: ds, ps, hts, h, hlt => by
    obtain ⟨p, q, h1, h2, rfl⟩ := h
    exact ⟨p, q, Below.trod hl (hts t (by simp)).1 (hts t (by simp)).2 h1 hb (fun x hx => hlt x (by simp [hx])),
      trodAll_below hl hb (fun t' ht' => hts t' (by simp [ht'])) h2 (fun x hx => hlt x (by simp [hx])), rfl⟩

theorem trodAll_len {H : Type} {enc : TypeId × Value → H} {P : Program} {w : World} {base : Nat} {sp : Nat → Bool} {held : Bool} :
    ∀ {ts : List TypeId} {vs : List Value} {ds : List (DataW H)} {ps : List MemPlace}, DataW.TrodAll enc P w base sp held ts vs ds ps → ds.length = ts.length
  | [], [], [], _, _ => rfl
  | _ :: ts, _ :: vs, _ :: ds, _, h => by
    obtain ⟨_, _, _, h2, _⟩ := h
    simp [trodAll_len h2]

theorem law_lift {C : Checked} {os : Os} {f : FuncId} {fn : Func} {s : ChangeSpec} {H : Type} {enc : TypeId × Value → H} {tb : TypeId}
    (own : ownKnob C.prog.godebug = none) (started : os.Started) (noInit : C.prog.inits.idxOf? f = none) (hfn : C.prog.funcs[f]? = some fn)
    (hvars : s.vars = []) (hspec : ∀ ds : List (DataW H), ds.length = fn.params.toList.length → s.fn H (ds ++ []) = { results := [.lit (.bool true)], args := ds })
    (hl : laidOutB C.prog = true) (hp : ∀ t ∈ fn.params.toList, C.prog.readableRec t = true ∧ t < C.prog.types.size) (hres : fn.resultTypes = #[tb]) (hub : C.prog.underlying tb = some .bool)
    (witness : ∃ (w : World) (tape : Tape) (i : Input), w.os = os ∧ (w.forCall tape i).Shaped C.prog ∧ i.vars = [] ∧ Input.okWide C.prog (w.forCall tape i) .any w.heap.size f i ∧
      s.pre6 enc C.prog fn [] false (w.forCall tape i).memory i.args ∧ ({} : Assume).holds C.prog (lone (Frame.enter C.prog f i.args .normal) [] (w.forCall tape i)))
    (contract : ∀ (W : World) (base : Nat) (args : Array Value) (ds : List (DataW H)) (p : List MemPlace),
      (∀ (j : Nat) t v, fn.params[j]? = some t → args[j]? = some v → Value.okWide C.prog W .any base t v) →
      DataW.TrodAll enc C.prog W 0 (fun _ => true) true fn.params.toList args.toList ds p →
      (∀ x ∈ p, x.block < W.heap.size) →
      (DataW.weightsEach C.prog (fn.params.toList ++ []) (ds ++ [])).all (· ≤ reachBytes) = true →
      Calls C.prog f args W fun e W' => e = .returned (.bool true) ∧ Below W.heap.size W W') :
    ReturnsInHanded {} C os f .any (s.pre6 enc C.prog fn [] false) (s.post enc C.prog fn false true false false) := by
  refine returnsInHanded_of_change_sized own started noInit hfn witness ?_
  intro W base args ds gs before hval hW _ hsz _
  have hW' := hW
  have hlt := hW'.lt
  obtain ⟨p, q, hA, hV, rfl, _, _⟩ := hW
  have hvt : s.plain.varTypes C.prog = [] := by
    unfold ChangeSpec.plain DataSpec.varTypes; rw [hvars]; rfl
  rw [hvars] at hV
  obtain ⟨rfl, rfl⟩ := trodVars_none hV
  rw [hvt] at hsz
  refine (contract W base args ds p hval hA (fun x hx => hlt x (by simp [hx])) hsz).mono fun e W' ⟨he, hb⟩ => ?_
  have hds := trodAll_len hA
  refine ⟨_, he, ds, [], p ++ [], [], p, [], hW', ?_, ?_, ?_, hb.frame _, fun h => by cases h⟩
  · rw [hspec ds hds, hres]; exact trodAll_mk1 (shut_bool hub true)
  · rw [hspec ds hds]; exact trodAll_below hl hb hp hA (fun x hx => hlt x (by simp [hx]))
  · rw [hspec ds hds, hvars]; rfl

end Go.Proofs.Ythjcdikpomlpmaa
