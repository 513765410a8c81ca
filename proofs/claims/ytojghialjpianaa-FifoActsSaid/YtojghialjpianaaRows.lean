/-
  No cell of these rows narrows 'for every input' (looked for: loops, veiled, ifaces, maps, wideKeys, modest, calm, conditions, laid).
  DERIVED. THE GIVEN ROWS OF THIS SEAT. 6 by the template 'for every input the law returns true; each argument reads behind the call as it read before'; 0 by the template 'total and deterministic' (their statements: YtojghialjpianaaTotals.lean).
  GIVEN WITH THE SEED: the statements are not yours to turn. If you find one false, say at which input.
  Laid BY PROGRAM, IN A SANDBOX (cutbox-rows.mjs): the forced cells as the released guide's own fill.sh prints them over the translation 85e9df05226a7e64… (all of the seat's roots in one cut). By AI agents, Wed Nov 11 2026. No macro, syntax, notation, axiom, sorry.
-/
import Derived.Test.YtojghialjpianaaChecked
import GoSem.Claim
import GoSem.ClaimJoined
import GoSem.ClaimMapViews
import Derived.JoinedTies
import Derived.KernelRfl
namespace Go.Proofs.Ytojghialjpianaa
/- THE CELL 'sum', in the pinned program and in every row, IS THE sha256 OF THE DUMP (.gsa) THAT YtojghialjpianaaProg.lean LOADS. Nothing in Lean hashes anything: it is a label: what it is worth is what the hold of that sum in a sandbox is worth. -/
noncomputable def Try.pinned : Pinned := { name := "ytojghialjpianaa", sum := "85e9df05226a7e647b48dad7b77546b06185c13acdfa666480ad5a31341184cf", checked := Try.checked }
namespace Rows
def none {H : Type} : Left H := { results := [], args := [] }

/-- 'omnibuslaw16.FifoOrders': WHATEVER THE INPUT: true; the input reads as it did. -/
def fifoOrdersSpec : ChangeSpec := { name := "fifoOrders", fn := fun _ => fun
  | [d1, d2] => { results := [.lit (.bool true)], args := [d1, d2] }
  | _ => none }
def fifoOrdersRow : OpenClaim := { program := "ytojghialjpianaa", sum := "85e9df05226a7e647b48dad7b77546b06185c13acdfa666480ad5a31341184cf", func := "omnibus/omnibuslaw16.FifoOrders", spec := "fifoOrders", unfollowed := true, recurses := true, apart := false }
def FifoOrdersSaid : Prop := fifoOrdersRow.holds Try.pinned (OpenSpec.ofChange fifoOrdersSpec)

/-- ITS FALSE NEIGHBOUR: 'it returns false'. Refute it at one input. -/
def fifoOrdersWrong : ChangeSpec := { name := "fifoOrders", fn := fun _ => fun
  | [d1, d2] => { results := [.lit (.bool false)], args := [d1, d2] }
  | _ => none }
def FifoOrdersWrongFalsely : Prop := fifoOrdersRow.holds Try.pinned (OpenSpec.ofChange fifoOrdersWrong)

/-- 'omnibuslaw16.FifoNone': WHATEVER THE INPUT: true; the input reads as it did. -/
def fifoNoneSpec : ChangeSpec := { name := "fifoNone", fn := fun _ => fun
  | [d] => { results := [.lit (.bool true)], args := [d] }
  | _ => none }
def fifoNoneRow : OpenClaim := { program := "ytojghialjpianaa", sum := "85e9df05226a7e647b48dad7b77546b06185c13acdfa666480ad5a31341184cf", func := "omnibus/omnibuslaw16.FifoNone", spec := "fifoNone", unfollowed := true, recurses := true, apart := false }
def FifoNoneSaid : Prop := fifoNoneRow.holds Try.pinned (OpenSpec.ofChange fifoNoneSpec)

/-- ITS FALSE NEIGHBOUR: 'it returns false'. Refute it at one input. -/
def fifoNoneWrong : ChangeSpec := { name := "fifoNone", fn := fun _ => fun
  | [d] => { results := [.lit (.bool false)], args := [d] }
  | _ => none }
def FifoNoneWrongFalsely : Prop := fifoNoneRow.holds Try.pinned (OpenSpec.ofChange fifoNoneWrong)

/-- 'omnibuslaw16.FifoTurns': WHATEVER THE INPUT: true; the input reads as it did. -/
def fifoTurnsSpec : ChangeSpec := { name := "fifoTurns", fn := fun _ => fun
  | [d1, d2] => { results := [.lit (.bool true)], args := [d1, d2] }
  | _ => none }
def fifoTurnsRow : OpenClaim := { program := "ytojghialjpianaa", sum := "85e9df05226a7e647b48dad7b77546b06185c13acdfa666480ad5a31341184cf", func := "omnibus/omnibuslaw16.FifoTurns", spec := "fifoTurns", unfollowed := true, recurses := true, apart := false }
def FifoTurnsSaid : Prop := fifoTurnsRow.holds Try.pinned (OpenSpec.ofChange fifoTurnsSpec)

/-- ITS FALSE NEIGHBOUR: 'it returns false'. Refute it at one input. -/
def fifoTurnsWrong : ChangeSpec := { name := "fifoTurns", fn := fun _ => fun
  | [d1, d2] => { results := [.lit (.bool false)], args := [d1, d2] }
  | _ => none }
def FifoTurnsWrongFalsely : Prop := fifoTurnsRow.holds Try.pinned (OpenSpec.ofChange fifoTurnsWrong)

/-- 'omnibuslaw16.FifoActs': WHATEVER THE INPUT: true; the input reads as it did. -/
def fifoActsSpec : ChangeSpec := { name := "fifoActs", fn := fun _ => fun
  | [d1, d2] => { results := [.lit (.bool true)], args := [d1, d2] }
  | _ => none }
def fifoActsRow : OpenClaim := { program := "ytojghialjpianaa", sum := "85e9df05226a7e647b48dad7b77546b06185c13acdfa666480ad5a31341184cf", func := "omnibus/omnibuslaw16.FifoActs", spec := "fifoActs", unfollowed := true, recurses := true, apart := false }
def FifoActsSaid : Prop := fifoActsRow.holds Try.pinned (OpenSpec.ofChange fifoActsSpec)

/-- ITS FALSE NEIGHBOUR: 'it returns false'. Refute it at one input. -/
def fifoActsWrong : ChangeSpec := { name := "fifoActs", fn := fun _ => fun
  | [d1, d2] => { results := [.lit (.bool false)], args := [d1, d2] }
  | _ => none }
def FifoActsWrongFalsely : Prop := fifoActsRow.holds Try.pinned (OpenSpec.ofChange fifoActsWrong)

/-- 'omnibuslaw16.FifoOwn': WHATEVER THE INPUT: true; the input reads as it did. -/
def fifoOwnSpec : ChangeSpec := { name := "fifoOwn", fn := fun _ => fun
  | [d] => { results := [.lit (.bool true)], args := [d] }
  | _ => none }
def fifoOwnRow : OpenClaim := { program := "ytojghialjpianaa", sum := "85e9df05226a7e647b48dad7b77546b06185c13acdfa666480ad5a31341184cf", func := "omnibus/omnibuslaw16.FifoOwn", spec := "fifoOwn", unfollowed := true, recurses := true, apart := false }
def FifoOwnSaid : Prop := fifoOwnRow.holds Try.pinned (OpenSpec.ofChange fifoOwnSpec)

/-- ITS FALSE NEIGHBOUR: 'it returns false'. Refute it at one input. -/
def fifoOwnWrong : ChangeSpec := { name := "fifoOwn", fn := fun _ => fun
  | [d] => { results := [.lit (.bool false)], args := [d] }
  | _ => none }
def FifoOwnWrongFalsely : Prop := fifoOwnRow.holds Try.pinned (OpenSpec.ofChange fifoOwnWrong)

/-- 'omnibuslaw16.FifoClears': WHATEVER THE INPUT: true; the input reads as it did. -/
def fifoClearsSpec : ChangeSpec := { name := "fifoClears", fn := fun _ => fun
  | [d1, d2, d3] => { results := [.lit (.bool true)], args := [d1, d2, d3] }
  | _ => none }
def fifoClearsRow : OpenClaim := { program := "ytojghialjpianaa", sum := "85e9df05226a7e647b48dad7b77546b06185c13acdfa666480ad5a31341184cf", func := "omnibus/omnibuslaw16.FifoClears", spec := "fifoClears", unfollowed := true, recurses := true, apart := false }
def FifoClearsSaid : Prop := fifoClearsRow.holds Try.pinned (OpenSpec.ofChange fifoClearsSpec)

/-- ITS FALSE NEIGHBOUR: 'it returns false'. Refute it at one input. -/
def fifoClearsWrong : ChangeSpec := { name := "fifoClears", fn := fun _ => fun
  | [d1, d2, d3] => { results := [.lit (.bool false)], args := [d1, d2, d3] }
  | _ => none }
def FifoClearsWrongFalsely : Prop := fifoClearsRow.holds Try.pinned (OpenSpec.ofChange fifoClearsWrong)

/- THE SECOND FORM. 'bulk': how many values and letters a reading holds, each counted each time it is reached (what is shared counts as often as it is met; a slice's spare places count too). A statement '..UptoSaid' is the law's where the arguments, and the package variables that the reading takes, are together of bulk at most 1048576: NARROWER than '..Said'. Prove '..Said' where nothing that the law and all that it calls make is longer than what came in: it says more and counts as full. Else prove '..UptoSaid'. A law counts once. -/
mutual
def uptoBulk {H : Type} : DataW H → Nat
  | .lit (.string bytes) => bytes.length + 1
  | .lit _ => 1
  | .nil => 1
  | .ptr d => uptoBulk d + 1
  | .slice elems spare => uptoBulkAll elems + uptoBulkAll spare + 1
  | .agg parts => uptoBulkAll parts + 1
  | .iface _ d => uptoBulk d + 1
  | .map entries => uptoBulkEntries entries + 1
  | .held _ => 1
def uptoBulkAll {H : Type} : List (DataW H) → Nat
  | [] => 0
  | d :: r => uptoBulk d + uptoBulkAll r
def uptoBulkEntries {H : Type} : List (Lit × DataW H) → Nat
  | [] => 0
  | x :: r => uptoBulkEntry x + uptoBulkEntries r
def uptoBulkEntry {H : Type} : Lit × DataW H → Nat
  | (.string bytes, d) => bytes.length + uptoBulk d + 1
  | (_, d) => uptoBulk d + 1
 end
def uptoSmall : (H : Type) → List (DataW H) → Bool := fun _ ds => decide (uptoBulkAll ds ≤ 1048576)
def OpenSpec.upto (s : _root_.Go.ChangeSpec) : _root_.Go.OpenSpec := { _root_.Go.OpenSpec.ofChange s with cond := some uptoSmall }

/-- 'omnibuslaw16.FifoOrders', WHERE WHAT IT READS IS OF BULK AT MOST 1048576: true; the input reads as it did. -/
def fifoOrdersUptoRow : OpenClaim := { program := "ytojghialjpianaa", sum := "85e9df05226a7e647b48dad7b77546b06185c13acdfa666480ad5a31341184cf", func := "omnibus/omnibuslaw16.FifoOrders", spec := "fifoOrders", unfollowed := true, recurses := true, apart := false, narrowed := true }
def FifoOrdersUptoSaid : Prop := fifoOrdersUptoRow.holds Try.pinned (OpenSpec.upto fifoOrdersSpec)

/-- 'omnibuslaw16.FifoNone', WHERE WHAT IT READS IS OF BULK AT MOST 1048576: true; the input reads as it did. -/
def fifoNoneUptoRow : OpenClaim := { program := "ytojghialjpianaa", sum := "85e9df05226a7e647b48dad7b77546b06185c13acdfa666480ad5a31341184cf", func := "omnibus/omnibuslaw16.FifoNone", spec := "fifoNone", unfollowed := true, recurses := true, apart := false, narrowed := true }
def FifoNoneUptoSaid : Prop := fifoNoneUptoRow.holds Try.pinned (OpenSpec.upto fifoNoneSpec)

/-- 'omnibuslaw16.FifoTurns', WHERE WHAT IT READS IS OF BULK AT MOST 1048576: true; the input reads as it did. -/
def fifoTurnsUptoRow : OpenClaim := { program := "ytojghialjpianaa", sum := "85e9df05226a7e647b48dad7b77546b06185c13acdfa666480ad5a31341184cf", func := "omnibus/omnibuslaw16.FifoTurns", spec := "fifoTurns", unfollowed := true, recurses := true, apart := false, narrowed := true }
def FifoTurnsUptoSaid : Prop := fifoTurnsUptoRow.holds Try.pinned (OpenSpec.upto fifoTurnsSpec)

/-- 'omnibuslaw16.FifoActs', WHERE WHAT IT READS IS OF BULK AT MOST 1048576: true; the input reads as it did. -/
def fifoActsUptoRow : OpenClaim := { program := "ytojghialjpianaa", sum := "85e9df05226a7e647b48dad7b77546b06185c13acdfa666480ad5a31341184cf", func := "omnibus/omnibuslaw16.FifoActs", spec := "fifoActs", unfollowed := true, recurses := true, apart := false, narrowed := true }
def FifoActsUptoSaid : Prop := fifoActsUptoRow.holds Try.pinned (OpenSpec.upto fifoActsSpec)

/-- 'omnibuslaw16.FifoOwn', WHERE WHAT IT READS IS OF BULK AT MOST 1048576: true; the input reads as it did. -/
def fifoOwnUptoRow : OpenClaim := { program := "ytojghialjpianaa", sum := "85e9df05226a7e647b48dad7b77546b06185c13acdfa666480ad5a31341184cf", func := "omnibus/omnibuslaw16.FifoOwn", spec := "fifoOwn", unfollowed := true, recurses := true, apart := false, narrowed := true }
def FifoOwnUptoSaid : Prop := fifoOwnUptoRow.holds Try.pinned (OpenSpec.upto fifoOwnSpec)

/-- 'omnibuslaw16.FifoClears', WHERE WHAT IT READS IS OF BULK AT MOST 1048576: true; the input reads as it did. -/
def fifoClearsUptoRow : OpenClaim := { program := "ytojghialjpianaa", sum := "85e9df05226a7e647b48dad7b77546b06185c13acdfa666480ad5a31341184cf", func := "omnibus/omnibuslaw16.FifoClears", spec := "fifoClears", unfollowed := true, recurses := true, apart := false, narrowed := true }
def FifoClearsUptoSaid : Prop := fifoClearsUptoRow.holds Try.pinned (OpenSpec.upto fifoClearsSpec)

end Rows
end Go.Proofs.Ytojghialjpianaa
