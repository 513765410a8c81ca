/-
  No cell of these rows narrows 'for every input' (looked for: loops, veiled, ifaces, maps, wideKeys, modest, calm, conditions, laid).
  DERIVED. THE GIVEN ROWS OF THIS SEAT. 6 by the template 'for every input the law returns true; each argument reads behind the call as it read before'; 0 by the template 'total and deterministic' (their statements: YtdcahmifalabnaaTotals.lean).
  GIVEN WITH THE SEED: the statements are not yours to turn. If you find one false, say at which input.
  Laid BY PROGRAM, IN A SANDBOX (cutbox-rows.mjs): the forced cells as the released guide's own fill.sh prints them over the translation 9063a26b66cbd1d7… (all of the seat's roots in one cut). By AI agents, Wed Nov 11 2026. No macro, syntax, notation, axiom, sorry.
-/
import Derived.Test.YtdcahmifalabnaaChecked
import GoSem.Claim
import GoSem.ClaimJoined
import GoSem.ClaimMapViews
import Derived.JoinedTies
import Derived.KernelRfl
namespace Go.Proofs.Ytdcahmifalabnaa
/- THE CELL 'sum', in the pinned program and in every row, IS THE sha256 OF THE DUMP (.gsa) THAT YtdcahmifalabnaaProg.lean LOADS. Nothing in Lean hashes anything: it is a label: what it is worth is what the hold of that sum in a sandbox is worth. -/
noncomputable def Try.pinned : Pinned := { name := "ytdcahmifalabnaa", sum := "9063a26b66cbd1d7bb5b5eb68674ba35773b8cbac7ffccebe991ef42f321684c", checked := Try.checked }
namespace Rows
def none {H : Type} : Left H := { results := [], args := [] }

/-- 'omnibuslaw04.FixedParts': WHATEVER THE INPUT: true; the input reads as it did. -/
def fixedPartsSpec : ChangeSpec := { name := "fixedParts", fn := fun _ => fun
  | [d1, d2] => { results := [.lit (.bool true)], args := [d1, d2] }
  | _ => none }
def fixedPartsRow : OpenClaim := { program := "ytdcahmifalabnaa", sum := "9063a26b66cbd1d7bb5b5eb68674ba35773b8cbac7ffccebe991ef42f321684c", func := "omnibus/omnibuslaw04.FixedParts", spec := "fixedParts", unfollowed := true, recurses := true, apart := false }
def FixedPartsSaid : Prop := fixedPartsRow.holds Try.pinned (OpenSpec.ofChange fixedPartsSpec)

/-- ITS FALSE NEIGHBOUR: 'it returns false'. Refute it at one input. -/
def fixedPartsWrong : ChangeSpec := { name := "fixedParts", fn := fun _ => fun
  | [d1, d2] => { results := [.lit (.bool false)], args := [d1, d2] }
  | _ => none }
def FixedPartsWrongFalsely : Prop := fixedPartsRow.holds Try.pinned (OpenSpec.ofChange fixedPartsWrong)

/-- 'omnibuslaw04.FixedPuts': WHATEVER THE INPUT: true; the input reads as it did. -/
def fixedPutsSpec : ChangeSpec := { name := "fixedPuts", fn := fun _ => fun
  | [d1, d2] => { results := [.lit (.bool true)], args := [d1, d2] }
  | _ => none }
def fixedPutsRow : OpenClaim := { program := "ytdcahmifalabnaa", sum := "9063a26b66cbd1d7bb5b5eb68674ba35773b8cbac7ffccebe991ef42f321684c", func := "omnibus/omnibuslaw04.FixedPuts", spec := "fixedPuts", unfollowed := true, recurses := true, apart := false }
def FixedPutsSaid : Prop := fixedPutsRow.holds Try.pinned (OpenSpec.ofChange fixedPutsSpec)

/-- ITS FALSE NEIGHBOUR: 'it returns false'. Refute it at one input. -/
def fixedPutsWrong : ChangeSpec := { name := "fixedPuts", fn := fun _ => fun
  | [d1, d2] => { results := [.lit (.bool false)], args := [d1, d2] }
  | _ => none }
def FixedPutsWrongFalsely : Prop := fixedPutsRow.holds Try.pinned (OpenSpec.ofChange fixedPutsWrong)

/-- 'omnibuslaw04.FixedBack': WHATEVER THE INPUT: true; the input reads as it did. -/
def fixedBackSpec : ChangeSpec := { name := "fixedBack", fn := fun _ => fun
  | [d1, d2] => { results := [.lit (.bool true)], args := [d1, d2] }
  | _ => none }
def fixedBackRow : OpenClaim := { program := "ytdcahmifalabnaa", sum := "9063a26b66cbd1d7bb5b5eb68674ba35773b8cbac7ffccebe991ef42f321684c", func := "omnibus/omnibuslaw04.FixedBack", spec := "fixedBack", unfollowed := true, recurses := true, apart := false }
def FixedBackSaid : Prop := fixedBackRow.holds Try.pinned (OpenSpec.ofChange fixedBackSpec)

/-- ITS FALSE NEIGHBOUR: 'it returns false'. Refute it at one input. -/
def fixedBackWrong : ChangeSpec := { name := "fixedBack", fn := fun _ => fun
  | [d1, d2] => { results := [.lit (.bool false)], args := [d1, d2] }
  | _ => none }
def FixedBackWrongFalsely : Prop := fixedBackRow.holds Try.pinned (OpenSpec.ofChange fixedBackWrong)

/-- 'omnibuslaw04.FixedTurns': WHATEVER THE INPUT: true; the input reads as it did. -/
def fixedTurnsSpec : ChangeSpec := { name := "fixedTurns", fn := fun _ => fun
  | [d1, d2] => { results := [.lit (.bool true)], args := [d1, d2] }
  | _ => none }
def fixedTurnsRow : OpenClaim := { program := "ytdcahmifalabnaa", sum := "9063a26b66cbd1d7bb5b5eb68674ba35773b8cbac7ffccebe991ef42f321684c", func := "omnibus/omnibuslaw04.FixedTurns", spec := "fixedTurns", unfollowed := true, recurses := true, apart := false }
def FixedTurnsSaid : Prop := fixedTurnsRow.holds Try.pinned (OpenSpec.ofChange fixedTurnsSpec)

/-- ITS FALSE NEIGHBOUR: 'it returns false'. Refute it at one input. -/
def fixedTurnsWrong : ChangeSpec := { name := "fixedTurns", fn := fun _ => fun
  | [d1, d2] => { results := [.lit (.bool false)], args := [d1, d2] }
  | _ => none }
def FixedTurnsWrongFalsely : Prop := fixedTurnsRow.holds Try.pinned (OpenSpec.ofChange fixedTurnsWrong)

/-- 'omnibuslaw04.FixedSizes': WHATEVER THE INPUT: true; the input reads as it did. -/
def fixedSizesSpec : ChangeSpec := { name := "fixedSizes", fn := fun _ => fun
  | [d1, d2, d3] => { results := [.lit (.bool true)], args := [d1, d2, d3] }
  | _ => none }
def fixedSizesRow : OpenClaim := { program := "ytdcahmifalabnaa", sum := "9063a26b66cbd1d7bb5b5eb68674ba35773b8cbac7ffccebe991ef42f321684c", func := "omnibus/omnibuslaw04.FixedSizes", spec := "fixedSizes", unfollowed := true, recurses := true, apart := false }
def FixedSizesSaid : Prop := fixedSizesRow.holds Try.pinned (OpenSpec.ofChange fixedSizesSpec)

/-- ITS FALSE NEIGHBOUR: 'it returns false'. Refute it at one input. -/
def fixedSizesWrong : ChangeSpec := { name := "fixedSizes", fn := fun _ => fun
  | [d1, d2, d3] => { results := [.lit (.bool false)], args := [d1, d2, d3] }
  | _ => none }
def FixedSizesWrongFalsely : Prop := fixedSizesRow.holds Try.pinned (OpenSpec.ofChange fixedSizesWrong)

/-- 'omnibuslaw04.FixedTallies': WHATEVER THE INPUT: true; the input reads as it did. -/
def fixedTalliesSpec : ChangeSpec := { name := "fixedTallies", fn := fun _ => fun
  | [d1, d2] => { results := [.lit (.bool true)], args := [d1, d2] }
  | _ => none }
def fixedTalliesRow : OpenClaim := { program := "ytdcahmifalabnaa", sum := "9063a26b66cbd1d7bb5b5eb68674ba35773b8cbac7ffccebe991ef42f321684c", func := "omnibus/omnibuslaw04.FixedTallies", spec := "fixedTallies", unfollowed := true, recurses := true, apart := false }
def FixedTalliesSaid : Prop := fixedTalliesRow.holds Try.pinned (OpenSpec.ofChange fixedTalliesSpec)

/-- ITS FALSE NEIGHBOUR: 'it returns false'. Refute it at one input. -/
def fixedTalliesWrong : ChangeSpec := { name := "fixedTallies", fn := fun _ => fun
  | [d1, d2] => { results := [.lit (.bool false)], args := [d1, d2] }
  | _ => none }
def FixedTalliesWrongFalsely : Prop := fixedTalliesRow.holds Try.pinned (OpenSpec.ofChange fixedTalliesWrong)

/- THE SECOND FORM. 'bulk': how many values and letters a reading holds, each counted each time it is reached (what is shared counts as often as it is met; a slice's spare places count too). A statement '..UptoSaid' is the law's where the arguments, and the package variables that the reading takes, are together of bulk at most 1048576: NARROWER than '..Said'. Prove '..Said' where nothing that the law and all that it calls make is longer than what came in: it says more and counts as full. Else prove '..UptoSaid'. A law counts once. -/
mutual
def uptoBulk {H : Type} : DataW H → Nat
  | .lit (.string bytes) => bytes.length + 1
  | .lit _ => 1
  | .nil => 1
  | .ptr d => uptoBulk d + 1
  | .slice elems spare => uptoBulkAll elems + uptoBulkAll spare + 1
  | .agg parts => uptoBulkAll parts + 1
  | .iface _ d => uptoBulk d + 1
  | .map entries => uptoBulkEntries entries + 1
  | .held _ => 1
def uptoBulkAll {H : Type} : List (DataW H) → Nat
  | [] => 0
  | d :: r => uptoBulk d + uptoBulkAll r
def uptoBulkEntries {H : Type} : List (Lit × DataW H) → Nat
  | [] => 0
  | x :: r => uptoBulkEntry x + uptoBulkEntries r
def uptoBulkEntry {H : Type} : Lit × DataW H → Nat
  | (.string bytes, d) => bytes.length + uptoBulk d + 1
  | (_, d) => uptoBulk d + 1
 end
def uptoSmall : (H : Type) → List (DataW H) → Bool := fun _ ds => decide (uptoBulkAll ds ≤ 1048576)
def OpenSpec.upto (s : _root_.Go.ChangeSpec) : _root_.Go.OpenSpec := { _root_.Go.OpenSpec.ofChange s with cond := some uptoSmall }

/-- 'omnibuslaw04.FixedParts', WHERE WHAT IT READS IS OF BULK AT MOST 1048576: true; the input reads as it did. -/
def fixedPartsUptoRow : OpenClaim := { program := "ytdcahmifalabnaa", sum := "9063a26b66cbd1d7bb5b5eb68674ba35773b8cbac7ffccebe991ef42f321684c", func := "omnibus/omnibuslaw04.FixedParts", spec := "fixedParts", unfollowed := true, recurses := true, apart := false, narrowed := true }
def FixedPartsUptoSaid : Prop := fixedPartsUptoRow.holds Try.pinned (OpenSpec.upto fixedPartsSpec)

/-- 'omnibuslaw04.FixedPuts', WHERE WHAT IT READS IS OF BULK AT MOST 1048576: true; the input reads as it did. -/
def fixedPutsUptoRow : OpenClaim := { program := "ytdcahmifalabnaa", sum := "9063a26b66cbd1d7bb5b5eb68674ba35773b8cbac7ffccebe991ef42f321684c", func := "omnibus/omnibuslaw04.FixedPuts", spec := "fixedPuts", unfollowed := true, recurses := true, apart := false, narrowed := true }
def FixedPutsUptoSaid : Prop := fixedPutsUptoRow.holds Try.pinned (OpenSpec.upto fixedPutsSpec)

/-- 'omnibuslaw04.FixedBack', WHERE WHAT IT READS IS OF BULK AT MOST 1048576: true; the input reads as it did. -/
def fixedBackUptoRow : OpenClaim := { program := "ytdcahmifalabnaa", sum := "9063a26b66cbd1d7bb5b5eb68674ba35773b8cbac7ffccebe991ef42f321684c", func := "omnibus/omnibuslaw04.FixedBack", spec := "fixedBack", unfollowed := true, recurses := true, apart := false, narrowed := true }
def FixedBackUptoSaid : Prop := fixedBackUptoRow.holds Try.pinned (OpenSpec.upto fixedBackSpec)

/-- 'omnibuslaw04.FixedTurns', WHERE WHAT IT READS IS OF BULK AT MOST 1048576: true; the input reads as it did. -/
def fixedTurnsUptoRow : OpenClaim := { program := "ytdcahmifalabnaa", sum := "9063a26b66cbd1d7bb5b5eb68674ba35773b8cbac7ffccebe991ef42f321684c", func := "omnibus/omnibuslaw04.FixedTurns", spec := "fixedTurns", unfollowed := true, recurses := true, apart := false, narrowed := true }
def FixedTurnsUptoSaid : Prop := fixedTurnsUptoRow.holds Try.pinned (OpenSpec.upto fixedTurnsSpec)

/-- 'omnibuslaw04.FixedSizes', WHERE WHAT IT READS IS OF BULK AT MOST 1048576: true; the input reads as it did. -/
def fixedSizesUptoRow : OpenClaim := { program := "ytdcahmifalabnaa", sum := "9063a26b66cbd1d7bb5b5eb68674ba35773b8cbac7ffccebe991ef42f321684c", func := "omnibus/omnibuslaw04.FixedSizes", spec := "fixedSizes", unfollowed := true, recurses := true, apart := false, narrowed := true }
def FixedSizesUptoSaid : Prop := fixedSizesUptoRow.holds Try.pinned (OpenSpec.upto fixedSizesSpec)

/-- 'omnibuslaw04.FixedTallies', WHERE WHAT IT READS IS OF BULK AT MOST 1048576: true; the input reads as it did. -/
def fixedTalliesUptoRow : OpenClaim := { program := "ytdcahmifalabnaa", sum := "9063a26b66cbd1d7bb5b5eb68674ba35773b8cbac7ffccebe991ef42f321684c", func := "omnibus/omnibuslaw04.FixedTallies", spec := "fixedTallies", unfollowed := true, recurses := true, apart := false, narrowed := true }
def FixedTalliesUptoSaid : Prop := fixedTalliesUptoRow.holds Try.pinned (OpenSpec.upto fixedTalliesSpec)

end Rows
end Go.Proofs.Ytdcahmifalabnaa
