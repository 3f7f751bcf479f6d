/-
  No cell of these rows narrows 'for every input' (looked for: loops, veiled, ifaces, maps, wideKeys, modest, calm, conditions, laid).
  DERIVED. THE GIVEN ROWS OF THIS SEAT. 5 by the template 'for every input the law returns true; each argument reads behind the call as it read before'; 0 by the template 'total and deterministic' (their statements: YtknpdoepjihceaaTotals.lean).
  GIVEN WITH THE SEED: the statements are not yours to turn. If you find one false, say at which input.
  Laid BY PROGRAM, IN A SANDBOX (cutbox-rows.mjs): the forced cells as the released guide's own fill.sh prints them over the translation 5eaee2bf0d50b595… (all of the seat's roots in one cut). By AI agents, Wed Nov 11 2026. No macro, syntax, notation, axiom, sorry.
-/
import Derived.Test.YtknpdoepjihceaaChecked
import GoSem.Claim
import GoSem.ClaimJoined
import GoSem.ClaimMapViews
import Derived.JoinedTies
import Derived.KernelRfl
namespace Go.Proofs.Ytknpdoepjihceaa
/- THE CELL 'sum', in the pinned program and in every row, IS THE sha256 OF THE DUMP (.gsa) THAT YtknpdoepjihceaaProg.lean LOADS. Nothing in Lean hashes anything: it is a label: what it is worth is what the hold of that sum in a sandbox is worth. -/
noncomputable def Try.pinned : Pinned := { name := "ytknpdoepjihceaa", sum := "5eaee2bf0d50b595eceece4c4e61cacee1dc89d646b83aab5bf045dfe38b5b8d", checked := Try.checked }
namespace Rows
def none {H : Type} : Left H := { results := [], args := [] }

/-- 'tegulalaw29.ReplicaChunks': WHATEVER THE INPUT: true; the input reads as it did. -/
def replicaChunksSpec : ChangeSpec := { name := "replicaChunks", fn := fun _ => fun
  | [d1, d2] => { results := [.lit (.bool true)], args := [d1, d2] }
  | _ => none }
def replicaChunksRow : OpenClaim := { program := "ytknpdoepjihceaa", sum := "5eaee2bf0d50b595eceece4c4e61cacee1dc89d646b83aab5bf045dfe38b5b8d", func := "tegula/tegulalaw29.ReplicaChunks", spec := "replicaChunks", unfollowed := true, recurses := true, apart := false }
def ReplicaChunksSaid : Prop := replicaChunksRow.holds Try.pinned (OpenSpec.ofChange replicaChunksSpec)

/-- ITS FALSE NEIGHBOUR: 'it returns false'. Refute it at one input. -/
def replicaChunksWrong : ChangeSpec := { name := "replicaChunks", fn := fun _ => fun
  | [d1, d2] => { results := [.lit (.bool false)], args := [d1, d2] }
  | _ => none }
def ReplicaChunksWrongFalsely : Prop := replicaChunksRow.holds Try.pinned (OpenSpec.ofChange replicaChunksWrong)

/-- 'tegulalaw29.ReplicaLimit': WHATEVER THE INPUT: true; the input reads as it did. -/
def replicaLimitSpec : ChangeSpec := { name := "replicaLimit", fn := fun _ => fun
  | [d] => { results := [.lit (.bool true)], args := [d] }
  | _ => none }
def replicaLimitRow : OpenClaim := { program := "ytknpdoepjihceaa", sum := "5eaee2bf0d50b595eceece4c4e61cacee1dc89d646b83aab5bf045dfe38b5b8d", func := "tegula/tegulalaw29.ReplicaLimit", spec := "replicaLimit", unfollowed := true, recurses := true, apart := false }
def ReplicaLimitSaid : Prop := replicaLimitRow.holds Try.pinned (OpenSpec.ofChange replicaLimitSpec)

/-- ITS FALSE NEIGHBOUR: 'it returns false'. Refute it at one input. -/
def replicaLimitWrong : ChangeSpec := { name := "replicaLimit", fn := fun _ => fun
  | [d] => { results := [.lit (.bool false)], args := [d] }
  | _ => none }
def ReplicaLimitWrongFalsely : Prop := replicaLimitRow.holds Try.pinned (OpenSpec.ofChange replicaLimitWrong)

/-- 'tegulalaw29.ReplicaGather': WHATEVER THE INPUT: true; the input reads as it did. -/
def replicaGatherSpec : ChangeSpec := { name := "replicaGather", fn := fun _ => fun
  | [d1, d2] => { results := [.lit (.bool true)], args := [d1, d2] }
  | _ => none }
def replicaGatherRow : OpenClaim := { program := "ytknpdoepjihceaa", sum := "5eaee2bf0d50b595eceece4c4e61cacee1dc89d646b83aab5bf045dfe38b5b8d", func := "tegula/tegulalaw29.ReplicaGather", spec := "replicaGather", unfollowed := true, recurses := true, apart := false }
def ReplicaGatherSaid : Prop := replicaGatherRow.holds Try.pinned (OpenSpec.ofChange replicaGatherSpec)

/-- ITS FALSE NEIGHBOUR: 'it returns false'. Refute it at one input. -/
def replicaGatherWrong : ChangeSpec := { name := "replicaGather", fn := fun _ => fun
  | [d1, d2] => { results := [.lit (.bool false)], args := [d1, d2] }
  | _ => none }
def ReplicaGatherWrongFalsely : Prop := replicaGatherRow.holds Try.pinned (OpenSpec.ofChange replicaGatherWrong)

/-- 'tegulalaw29.ReplicaRestores': WHATEVER THE INPUT: true; the input reads as it did. -/
def replicaRestoresSpec : ChangeSpec := { name := "replicaRestores", fn := fun _ => fun
  | [d1, d2, d3] => { results := [.lit (.bool true)], args := [d1, d2, d3] }
  | _ => none }
def replicaRestoresRow : OpenClaim := { program := "ytknpdoepjihceaa", sum := "5eaee2bf0d50b595eceece4c4e61cacee1dc89d646b83aab5bf045dfe38b5b8d", func := "tegula/tegulalaw29.ReplicaRestores", spec := "replicaRestores", unfollowed := true, recurses := true, apart := false }
def ReplicaRestoresSaid : Prop := replicaRestoresRow.holds Try.pinned (OpenSpec.ofChange replicaRestoresSpec)

/-- ITS FALSE NEIGHBOUR: 'it returns false'. Refute it at one input. -/
def replicaRestoresWrong : ChangeSpec := { name := "replicaRestores", fn := fun _ => fun
  | [d1, d2, d3] => { results := [.lit (.bool false)], args := [d1, d2, d3] }
  | _ => none }
def ReplicaRestoresWrongFalsely : Prop := replicaRestoresRow.holds Try.pinned (OpenSpec.ofChange replicaRestoresWrong)

/-- 'tegulalaw29.ReplicaDamaged': WHATEVER THE INPUT: true; the input reads as it did. -/
def replicaDamagedSpec : ChangeSpec := { name := "replicaDamaged", fn := fun _ => fun
  | [d1, d2, d3] => { results := [.lit (.bool true)], args := [d1, d2, d3] }
  | _ => none }
def replicaDamagedRow : OpenClaim := { program := "ytknpdoepjihceaa", sum := "5eaee2bf0d50b595eceece4c4e61cacee1dc89d646b83aab5bf045dfe38b5b8d", func := "tegula/tegulalaw29.ReplicaDamaged", spec := "replicaDamaged", unfollowed := true, recurses := true, apart := false }
def ReplicaDamagedSaid : Prop := replicaDamagedRow.holds Try.pinned (OpenSpec.ofChange replicaDamagedSpec)

/-- ITS FALSE NEIGHBOUR: 'it returns false'. Refute it at one input. -/
def replicaDamagedWrong : ChangeSpec := { name := "replicaDamaged", fn := fun _ => fun
  | [d1, d2, d3] => { results := [.lit (.bool false)], args := [d1, d2, d3] }
  | _ => none }
def ReplicaDamagedWrongFalsely : Prop := replicaDamagedRow.holds Try.pinned (OpenSpec.ofChange replicaDamagedWrong)

/- THE SECOND FORM. 'bulk': how many values and letters a reading holds, each counted each time it is reached (what is shared counts as often as it is met; a slice's spare places count too). A statement '..UptoSaid' is the law's where the arguments, and the package variables that the reading takes, are together of bulk at most 1048576: NARROWER than '..Said'. Prove '..Said' where nothing that the law and all that it calls make is longer than what came in: it says more and counts as full. Else prove '..UptoSaid'. A law counts once. -/
mutual
def uptoBulk {H : Type} : DataW H → Nat
  | .lit (.string bytes) => bytes.length + 1
  | .lit _ => 1
  | .nil => 1
  | .ptr d => uptoBulk d + 1
  | .slice elems spare => uptoBulkAll elems + uptoBulkAll spare + 1
  | .agg parts => uptoBulkAll parts + 1
  | .iface _ d => uptoBulk d + 1
  | .map entries => uptoBulkEntries entries + 1
  | .held _ => 1
def uptoBulkAll {H : Type} : List (DataW H) → Nat
  | [] => 0
  | d :: r => uptoBulk d + uptoBulkAll r
def uptoBulkEntries {H : Type} : List (Lit × DataW H) → Nat
  | [] => 0
  | x :: r => uptoBulkEntry x + uptoBulkEntries r
def uptoBulkEntry {H : Type} : Lit × DataW H → Nat
  | (.string bytes, d) => bytes.length + uptoBulk d + 1
  | (_, d) => uptoBulk d + 1
 end
def uptoSmall : (H : Type) → List (DataW H) → Bool := fun _ ds => decide (uptoBulkAll ds ≤ 1048576)
def OpenSpec.upto (s : _root_.Go.ChangeSpec) : _root_.Go.OpenSpec := { _root_.Go.OpenSpec.ofChange s with cond := some uptoSmall }

/-- 'tegulalaw29.ReplicaChunks', WHERE WHAT IT READS IS OF BULK AT MOST 1048576: true; the input reads as it did. -/
def replicaChunksUptoRow : OpenClaim := { program := "ytknpdoepjihceaa", sum := "5eaee2bf0d50b595eceece4c4e61cacee1dc89d646b83aab5bf045dfe38b5b8d", func := "tegula/tegulalaw29.ReplicaChunks", spec := "replicaChunks", unfollowed := true, recurses := true, apart := false, narrowed := true }
def ReplicaChunksUptoSaid : Prop := replicaChunksUptoRow.holds Try.pinned (OpenSpec.upto replicaChunksSpec)

/-- 'tegulalaw29.ReplicaLimit', WHERE WHAT IT READS IS OF BULK AT MOST 1048576: true; the input reads as it did. -/
def replicaLimitUptoRow : OpenClaim := { program := "ytknpdoepjihceaa", sum := "5eaee2bf0d50b595eceece4c4e61cacee1dc89d646b83aab5bf045dfe38b5b8d", func := "tegula/tegulalaw29.ReplicaLimit", spec := "replicaLimit", unfollowed := true, recurses := true, apart := false, narrowed := true }
def ReplicaLimitUptoSaid : Prop := replicaLimitUptoRow.holds Try.pinned (OpenSpec.upto replicaLimitSpec)

/-- 'tegulalaw29.ReplicaGather', WHERE WHAT IT READS IS OF BULK AT MOST 1048576: true; the input reads as it did. -/
def replicaGatherUptoRow : OpenClaim := { program := "ytknpdoepjihceaa", sum := "5eaee2bf0d50b595eceece4c4e61cacee1dc89d646b83aab5bf045dfe38b5b8d", func := "tegula/tegulalaw29.ReplicaGather", spec := "replicaGather", unfollowed := true, recurses := true, apart := false, narrowed := true }
def ReplicaGatherUptoSaid : Prop := replicaGatherUptoRow.holds Try.pinned (OpenSpec.upto replicaGatherSpec)

/-- 'tegulalaw29.ReplicaRestores', WHERE WHAT IT READS IS OF BULK AT MOST 1048576: true; the input reads as it did. -/
def replicaRestoresUptoRow : OpenClaim := { program := "ytknpdoepjihceaa", sum := "5eaee2bf0d50b595eceece4c4e61cacee1dc89d646b83aab5bf045dfe38b5b8d", func := "tegula/tegulalaw29.ReplicaRestores", spec := "replicaRestores", unfollowed := true, recurses := true, apart := false, narrowed := true }
def ReplicaRestoresUptoSaid : Prop := replicaRestoresUptoRow.holds Try.pinned (OpenSpec.upto replicaRestoresSpec)

/-- 'tegulalaw29.ReplicaDamaged', WHERE WHAT IT READS IS OF BULK AT MOST 1048576: true; the input reads as it did. -/
def replicaDamagedUptoRow : OpenClaim := { program := "ytknpdoepjihceaa", sum := "5eaee2bf0d50b595eceece4c4e61cacee1dc89d646b83aab5bf045dfe38b5b8d", func := "tegula/tegulalaw29.ReplicaDamaged", spec := "replicaDamaged", unfollowed := true, recurses := true, apart := false, narrowed := true }
def ReplicaDamagedUptoSaid : Prop := replicaDamagedUptoRow.holds Try.pinned (OpenSpec.upto replicaDamagedSpec)

end Rows
end Go.Proofs.Ytknpdoepjihceaa
