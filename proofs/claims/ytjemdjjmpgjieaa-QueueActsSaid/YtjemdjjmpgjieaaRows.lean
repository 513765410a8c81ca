/-
  No cell of these rows narrows 'for every input' (looked for: loops, veiled, ifaces, maps, wideKeys, modest, calm, conditions, laid).
  DERIVED. THE GIVEN ROWS OF THIS SEAT. 6 by the template 'for every input the law returns true; each argument reads behind the call as it read before'; 0 by the template 'total and deterministic' (their statements: YtjemdjjmpgjieaaTotals.lean).
  GIVEN WITH THE SEED: the statements are not yours to turn. If you find one false, say at which input.
  Laid BY PROGRAM, IN A SANDBOX (cutbox-rows.mjs): the forced cells as the released guide's own fill.sh prints them over the translation d67a2efe56d9d508… (all of the seat's roots in one cut). By AI agents, Wed Nov 11 2026. No macro, syntax, notation, axiom, sorry.
-/
import Derived.Test.YtjemdjjmpgjieaaChecked
import GoSem.Claim
import GoSem.ClaimJoined
import GoSem.ClaimMapViews
import Derived.JoinedTies
import Derived.KernelRfl
namespace Go.Proofs.Ytjemdjjmpgjieaa
/- THE CELL 'sum', in the pinned program and in every row, IS THE sha256 OF THE DUMP (.gsa) THAT YtjemdjjmpgjieaaProg.lean LOADS. Nothing in Lean hashes anything: it is a label: what it is worth is what the hold of that sum in a sandbox is worth. -/
noncomputable def Try.pinned : Pinned := { name := "ytjemdjjmpgjieaa", sum := "d67a2efe56d9d508db1b6c8c6a5be9b9d7e7b7b7aaca1d6912f5b388b93be3bd", checked := Try.checked }
namespace Rows
def none {H : Type} : Left H := { results := [], args := [] }

/-- 'omnibuslaw14.QueueRoom': WHATEVER THE INPUT: true; the input reads as it did. -/
def queueRoomSpec : ChangeSpec := { name := "queueRoom", fn := fun _ => fun
  | [d1, d2] => { results := [.lit (.bool true)], args := [d1, d2] }
  | _ => none }
def queueRoomRow : OpenClaim := { program := "ytjemdjjmpgjieaa", sum := "d67a2efe56d9d508db1b6c8c6a5be9b9d7e7b7b7aaca1d6912f5b388b93be3bd", func := "omnibus/omnibuslaw14.QueueRoom", spec := "queueRoom", unfollowed := true, recurses := true, apart := false }
def QueueRoomSaid : Prop := queueRoomRow.holds Try.pinned (OpenSpec.ofChange queueRoomSpec)

/-- ITS FALSE NEIGHBOUR: 'it returns false'. Refute it at one input. -/
def queueRoomWrong : ChangeSpec := { name := "queueRoom", fn := fun _ => fun
  | [d1, d2] => { results := [.lit (.bool false)], args := [d1, d2] }
  | _ => none }
def QueueRoomWrongFalsely : Prop := queueRoomRow.holds Try.pinned (OpenSpec.ofChange queueRoomWrong)

/-- 'omnibuslaw14.QueueActs': WHATEVER THE INPUT: true; the input reads as it did. -/
def queueActsSpec : ChangeSpec := { name := "queueActs", fn := fun _ => fun
  | [d1, d2] => { results := [.lit (.bool true)], args := [d1, d2] }
  | _ => none }
def queueActsRow : OpenClaim := { program := "ytjemdjjmpgjieaa", sum := "d67a2efe56d9d508db1b6c8c6a5be9b9d7e7b7b7aaca1d6912f5b388b93be3bd", func := "omnibus/omnibuslaw14.QueueActs", spec := "queueActs", unfollowed := true, recurses := true, apart := false }
def QueueActsSaid : Prop := queueActsRow.holds Try.pinned (OpenSpec.ofChange queueActsSpec)

/-- ITS FALSE NEIGHBOUR: 'it returns false'. Refute it at one input. -/
def queueActsWrong : ChangeSpec := { name := "queueActs", fn := fun _ => fun
  | [d1, d2] => { results := [.lit (.bool false)], args := [d1, d2] }
  | _ => none }
def QueueActsWrongFalsely : Prop := queueActsRow.holds Try.pinned (OpenSpec.ofChange queueActsWrong)

/-- 'omnibuslaw14.QueueCancels': WHATEVER THE INPUT: true; the input reads as it did. -/
def queueCancelsSpec : ChangeSpec := { name := "queueCancels", fn := fun _ => fun
  | [d1, d2] => { results := [.lit (.bool true)], args := [d1, d2] }
  | _ => none }
def queueCancelsRow : OpenClaim := { program := "ytjemdjjmpgjieaa", sum := "d67a2efe56d9d508db1b6c8c6a5be9b9d7e7b7b7aaca1d6912f5b388b93be3bd", func := "omnibus/omnibuslaw14.QueueCancels", spec := "queueCancels", unfollowed := true, recurses := true, apart := false }
def QueueCancelsSaid : Prop := queueCancelsRow.holds Try.pinned (OpenSpec.ofChange queueCancelsSpec)

/-- ITS FALSE NEIGHBOUR: 'it returns false'. Refute it at one input. -/
def queueCancelsWrong : ChangeSpec := { name := "queueCancels", fn := fun _ => fun
  | [d1, d2] => { results := [.lit (.bool false)], args := [d1, d2] }
  | _ => none }
def QueueCancelsWrongFalsely : Prop := queueCancelsRow.holds Try.pinned (OpenSpec.ofChange queueCancelsWrong)

/-- 'omnibuslaw14.QueueOwn': WHATEVER THE INPUT: true; the input reads as it did. -/
def queueOwnSpec : ChangeSpec := { name := "queueOwn", fn := fun _ => fun
  | [d] => { results := [.lit (.bool true)], args := [d] }
  | _ => none }
def queueOwnRow : OpenClaim := { program := "ytjemdjjmpgjieaa", sum := "d67a2efe56d9d508db1b6c8c6a5be9b9d7e7b7b7aaca1d6912f5b388b93be3bd", func := "omnibus/omnibuslaw14.QueueOwn", spec := "queueOwn", unfollowed := true, recurses := true, apart := false }
def QueueOwnSaid : Prop := queueOwnRow.holds Try.pinned (OpenSpec.ofChange queueOwnSpec)

/-- ITS FALSE NEIGHBOUR: 'it returns false'. Refute it at one input. -/
def queueOwnWrong : ChangeSpec := { name := "queueOwn", fn := fun _ => fun
  | [d] => { results := [.lit (.bool false)], args := [d] }
  | _ => none }
def QueueOwnWrongFalsely : Prop := queueOwnRow.holds Try.pinned (OpenSpec.ofChange queueOwnWrong)

/-- 'omnibuslaw14.QueueOrders': WHATEVER THE INPUT: true; the input reads as it did. -/
def queueOrdersSpec : ChangeSpec := { name := "queueOrders", fn := fun _ => fun
  | [d] => { results := [.lit (.bool true)], args := [d] }
  | _ => none }
def queueOrdersRow : OpenClaim := { program := "ytjemdjjmpgjieaa", sum := "d67a2efe56d9d508db1b6c8c6a5be9b9d7e7b7b7aaca1d6912f5b388b93be3bd", func := "omnibus/omnibuslaw14.QueueOrders", spec := "queueOrders", unfollowed := true, recurses := true, apart := false }
def QueueOrdersSaid : Prop := queueOrdersRow.holds Try.pinned (OpenSpec.ofChange queueOrdersSpec)

/-- ITS FALSE NEIGHBOUR: 'it returns false'. Refute it at one input. -/
def queueOrdersWrong : ChangeSpec := { name := "queueOrders", fn := fun _ => fun
  | [d] => { results := [.lit (.bool false)], args := [d] }
  | _ => none }
def QueueOrdersWrongFalsely : Prop := queueOrdersRow.holds Try.pinned (OpenSpec.ofChange queueOrdersWrong)

/-- 'omnibuslaw14.QueueMixes': WHATEVER THE INPUT: true; the input reads as it did. -/
def queueMixesSpec : ChangeSpec := { name := "queueMixes", fn := fun _ => fun
  | [d1, d2] => { results := [.lit (.bool true)], args := [d1, d2] }
  | _ => none }
def queueMixesRow : OpenClaim := { program := "ytjemdjjmpgjieaa", sum := "d67a2efe56d9d508db1b6c8c6a5be9b9d7e7b7b7aaca1d6912f5b388b93be3bd", func := "omnibus/omnibuslaw14.QueueMixes", spec := "queueMixes", unfollowed := true, recurses := true, apart := false }
def QueueMixesSaid : Prop := queueMixesRow.holds Try.pinned (OpenSpec.ofChange queueMixesSpec)

/-- ITS FALSE NEIGHBOUR: 'it returns false'. Refute it at one input. -/
def queueMixesWrong : ChangeSpec := { name := "queueMixes", fn := fun _ => fun
  | [d1, d2] => { results := [.lit (.bool false)], args := [d1, d2] }
  | _ => none }
def QueueMixesWrongFalsely : Prop := queueMixesRow.holds Try.pinned (OpenSpec.ofChange queueMixesWrong)

/- THE SECOND FORM. 'bulk': how many values and letters a reading holds, each counted each time it is reached (what is shared counts as often as it is met; a slice's spare places count too). A statement '..UptoSaid' is the law's where the arguments, and the package variables that the reading takes, are together of bulk at most 1048576: NARROWER than '..Said'. Prove '..Said' where nothing that the law and all that it calls make is longer than what came in: it says more and counts as full. Else prove '..UptoSaid'. A law counts once. -/
mutual
def uptoBulk {H : Type} : DataW H → Nat
  | .lit (.string bytes) => bytes.length + 1
  | .lit _ => 1
  | .nil => 1
  | .ptr d => uptoBulk d + 1
  | .slice elems spare => uptoBulkAll elems + uptoBulkAll spare + 1
  | .agg parts => uptoBulkAll parts + 1
  | .iface _ d => uptoBulk d + 1
  | .map entries => uptoBulkEntries entries + 1
  | .held _ => 1
def uptoBulkAll {H : Type} : List (DataW H) → Nat
  | [] => 0
  | d :: r => uptoBulk d + uptoBulkAll r
def uptoBulkEntries {H : Type} : List (Lit × DataW H) → Nat
  | [] => 0
  | x :: r => uptoBulkEntry x + uptoBulkEntries r
def uptoBulkEntry {H : Type} : Lit × DataW H → Nat
  | (.string bytes, d) => bytes.length + uptoBulk d + 1
  | (_, d) => uptoBulk d + 1
 end
def uptoSmall : (H : Type) → List (DataW H) → Bool := fun _ ds => decide (uptoBulkAll ds ≤ 1048576)
def OpenSpec.upto (s : _root_.Go.ChangeSpec) : _root_.Go.OpenSpec := { _root_.Go.OpenSpec.ofChange s with cond := some uptoSmall }

/-- 'omnibuslaw14.QueueRoom', WHERE WHAT IT READS IS OF BULK AT MOST 1048576: true; the input reads as it did. -/
def queueRoomUptoRow : OpenClaim := { program := "ytjemdjjmpgjieaa", sum := "d67a2efe56d9d508db1b6c8c6a5be9b9d7e7b7b7aaca1d6912f5b388b93be3bd", func := "omnibus/omnibuslaw14.QueueRoom", spec := "queueRoom", unfollowed := true, recurses := true, apart := false, narrowed := true }
def QueueRoomUptoSaid : Prop := queueRoomUptoRow.holds Try.pinned (OpenSpec.upto queueRoomSpec)

/-- 'omnibuslaw14.QueueActs', WHERE WHAT IT READS IS OF BULK AT MOST 1048576: true; the input reads as it did. -/
def queueActsUptoRow : OpenClaim := { program := "ytjemdjjmpgjieaa", sum := "d67a2efe56d9d508db1b6c8c6a5be9b9d7e7b7b7aaca1d6912f5b388b93be3bd", func := "omnibus/omnibuslaw14.QueueActs", spec := "queueActs", unfollowed := true, recurses := true, apart := false, narrowed := true }
def QueueActsUptoSaid : Prop := queueActsUptoRow.holds Try.pinned (OpenSpec.upto queueActsSpec)

/-- 'omnibuslaw14.QueueCancels', WHERE WHAT IT READS IS OF BULK AT MOST 1048576: true; the input reads as it did. -/
def queueCancelsUptoRow : OpenClaim := { program := "ytjemdjjmpgjieaa", sum := "d67a2efe56d9d508db1b6c8c6a5be9b9d7e7b7b7aaca1d6912f5b388b93be3bd", func := "omnibus/omnibuslaw14.QueueCancels", spec := "queueCancels", unfollowed := true, recurses := true, apart := false, narrowed := true }
def QueueCancelsUptoSaid : Prop := queueCancelsUptoRow.holds Try.pinned (OpenSpec.upto queueCancelsSpec)

/-- 'omnibuslaw14.QueueOwn', WHERE WHAT IT READS IS OF BULK AT MOST 1048576: true; the input reads as it did. -/
def queueOwnUptoRow : OpenClaim := { program := "ytjemdjjmpgjieaa", sum := "d67a2efe56d9d508db1b6c8c6a5be9b9d7e7b7b7aaca1d6912f5b388b93be3bd", func := "omnibus/omnibuslaw14.QueueOwn", spec := "queueOwn", unfollowed := true, recurses := true, apart := false, narrowed := true }
def QueueOwnUptoSaid : Prop := queueOwnUptoRow.holds Try.pinned (OpenSpec.upto queueOwnSpec)

/-- 'omnibuslaw14.QueueOrders', WHERE WHAT IT READS IS OF BULK AT MOST 1048576: true; the input reads as it did. -/
def queueOrdersUptoRow : OpenClaim := { program := "ytjemdjjmpgjieaa", sum := "d67a2efe56d9d508db1b6c8c6a5be9b9d7e7b7b7aaca1d6912f5b388b93be3bd", func := "omnibus/omnibuslaw14.QueueOrders", spec := "queueOrders", unfollowed := true, recurses := true, apart := false, narrowed := true }
def QueueOrdersUptoSaid : Prop := queueOrdersUptoRow.holds Try.pinned (OpenSpec.upto queueOrdersSpec)

/-- 'omnibuslaw14.QueueMixes', WHERE WHAT IT READS IS OF BULK AT MOST 1048576: true; the input reads as it did. -/
def queueMixesUptoRow : OpenClaim := { program := "ytjemdjjmpgjieaa", sum := "d67a2efe56d9d508db1b6c8c6a5be9b9d7e7b7b7aaca1d6912f5b388b93be3bd", func := "omnibus/omnibuslaw14.QueueMixes", spec := "queueMixes", unfollowed := true, recurses := true, apart := false, narrowed := true }
def QueueMixesUptoSaid : Prop := queueMixesUptoRow.holds Try.pinned (OpenSpec.upto queueMixesSpec)

end Rows
end Go.Proofs.Ytjemdjjmpgjieaa
