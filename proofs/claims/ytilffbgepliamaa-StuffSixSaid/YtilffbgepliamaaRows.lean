/-
  No cell of these rows narrows 'for every input' (looked for: loops, veiled, ifaces, maps, wideKeys, modest, calm, conditions, laid).
  DERIVED. THE GIVEN ROWS OF THIS SEAT. 6 by the template 'for every input the law returns true; each argument reads behind the call as it read before'; 0 by the template 'total and deterministic' (their statements: YtilffbgepliamaaTotals.lean).
  GIVEN WITH THE SEED: the statements are not yours to turn. If you find one false, say at which input.
  Laid BY PROGRAM, IN A SANDBOX (cutbox-rows.mjs): the forced cells as the released guide's own fill.sh prints them over the translation c0b078147d2d335a… (all of the seat's roots in one cut). By AI agents, Wed Nov 11 2026. No macro, syntax, notation, axiom, sorry.
-/
import Derived.Test.YtilffbgepliamaaChecked
import GoSem.Claim
import GoSem.ClaimJoined
import GoSem.ClaimMapViews
import Derived.JoinedTies
import Derived.KernelRfl
namespace Go.Proofs.Ytilffbgepliamaa
/- THE CELL 'sum', in the pinned program and in every row, IS THE sha256 OF THE DUMP (.gsa) THAT YtilffbgepliamaaProg.lean LOADS. Nothing in Lean hashes anything: it is a label: what it is worth is what the hold of that sum in a sandbox is worth. -/
noncomputable def Try.pinned : Pinned := { name := "ytilffbgepliamaa", sum := "c0b078147d2d335a3629b7c494b90a2795ed5a6a6b020f7634d20137e303bc8d", checked := Try.checked }
namespace Rows
def none {H : Type} : Left H := { results := [], args := [] }

/-- 'omnibuslaw03.StuffPuts': WHATEVER THE INPUT: true; the input reads as it did. -/
def stuffPutsSpec : ChangeSpec := { name := "stuffPuts", fn := fun _ => fun
  | [d1, d2] => { results := [.lit (.bool true)], args := [d1, d2] }
  | _ => none }
def stuffPutsRow : OpenClaim := { program := "ytilffbgepliamaa", sum := "c0b078147d2d335a3629b7c494b90a2795ed5a6a6b020f7634d20137e303bc8d", func := "omnibus/omnibuslaw03.StuffPuts", spec := "stuffPuts", unfollowed := true, recurses := true, apart := false }
def StuffPutsSaid : Prop := stuffPutsRow.holds Try.pinned (OpenSpec.ofChange stuffPutsSpec)

/-- ITS FALSE NEIGHBOUR: 'it returns false'. Refute it at one input. -/
def stuffPutsWrong : ChangeSpec := { name := "stuffPuts", fn := fun _ => fun
  | [d1, d2] => { results := [.lit (.bool false)], args := [d1, d2] }
  | _ => none }
def StuffPutsWrongFalsely : Prop := stuffPutsRow.holds Try.pinned (OpenSpec.ofChange stuffPutsWrong)

/-- 'omnibuslaw03.StuffBack': WHATEVER THE INPUT: true; the input reads as it did. -/
def stuffBackSpec : ChangeSpec := { name := "stuffBack", fn := fun _ => fun
  | [d1, d2] => { results := [.lit (.bool true)], args := [d1, d2] }
  | _ => none }
def stuffBackRow : OpenClaim := { program := "ytilffbgepliamaa", sum := "c0b078147d2d335a3629b7c494b90a2795ed5a6a6b020f7634d20137e303bc8d", func := "omnibus/omnibuslaw03.StuffBack", spec := "stuffBack", unfollowed := true, recurses := true, apart := false }
def StuffBackSaid : Prop := stuffBackRow.holds Try.pinned (OpenSpec.ofChange stuffBackSpec)

/-- ITS FALSE NEIGHBOUR: 'it returns false'. Refute it at one input. -/
def stuffBackWrong : ChangeSpec := { name := "stuffBack", fn := fun _ => fun
  | [d1, d2] => { results := [.lit (.bool false)], args := [d1, d2] }
  | _ => none }
def StuffBackWrongFalsely : Prop := stuffBackRow.holds Try.pinned (OpenSpec.ofChange stuffBackWrong)

/-- 'omnibuslaw03.StuffRuns': WHATEVER THE INPUT: true; the input reads as it did. -/
def stuffRunsSpec : ChangeSpec := { name := "stuffRuns", fn := fun _ => fun
  | [d1, d2] => { results := [.lit (.bool true)], args := [d1, d2] }
  | _ => none }
def stuffRunsRow : OpenClaim := { program := "ytilffbgepliamaa", sum := "c0b078147d2d335a3629b7c494b90a2795ed5a6a6b020f7634d20137e303bc8d", func := "omnibus/omnibuslaw03.StuffRuns", spec := "stuffRuns", unfollowed := true, recurses := true, apart := false }
def StuffRunsSaid : Prop := stuffRunsRow.holds Try.pinned (OpenSpec.ofChange stuffRunsSpec)

/-- ITS FALSE NEIGHBOUR: 'it returns false'. Refute it at one input. -/
def stuffRunsWrong : ChangeSpec := { name := "stuffRuns", fn := fun _ => fun
  | [d1, d2] => { results := [.lit (.bool false)], args := [d1, d2] }
  | _ => none }
def StuffRunsWrongFalsely : Prop := stuffRunsRow.holds Try.pinned (OpenSpec.ofChange stuffRunsWrong)

/-- 'omnibuslaw03.StuffTakes': WHATEVER THE INPUT: true; the input reads as it did. -/
def stuffTakesSpec : ChangeSpec := { name := "stuffTakes", fn := fun _ => fun
  | [d1, d2] => { results := [.lit (.bool true)], args := [d1, d2] }
  | _ => none }
def stuffTakesRow : OpenClaim := { program := "ytilffbgepliamaa", sum := "c0b078147d2d335a3629b7c494b90a2795ed5a6a6b020f7634d20137e303bc8d", func := "omnibus/omnibuslaw03.StuffTakes", spec := "stuffTakes", unfollowed := true, recurses := true, apart := false }
def StuffTakesSaid : Prop := stuffTakesRow.holds Try.pinned (OpenSpec.ofChange stuffTakesSpec)

/-- ITS FALSE NEIGHBOUR: 'it returns false'. Refute it at one input. -/
def stuffTakesWrong : ChangeSpec := { name := "stuffTakes", fn := fun _ => fun
  | [d1, d2] => { results := [.lit (.bool false)], args := [d1, d2] }
  | _ => none }
def StuffTakesWrongFalsely : Prop := stuffTakesRow.holds Try.pinned (OpenSpec.ofChange stuffTakesWrong)

/-- 'omnibuslaw03.StuffParts': WHATEVER THE INPUT: true; the input reads as it did. -/
def stuffPartsSpec : ChangeSpec := { name := "stuffParts", fn := fun _ => fun
  | [d1, d2, d3] => { results := [.lit (.bool true)], args := [d1, d2, d3] }
  | _ => none }
def stuffPartsRow : OpenClaim := { program := "ytilffbgepliamaa", sum := "c0b078147d2d335a3629b7c494b90a2795ed5a6a6b020f7634d20137e303bc8d", func := "omnibus/omnibuslaw03.StuffParts", spec := "stuffParts", unfollowed := true, recurses := true, apart := false }
def StuffPartsSaid : Prop := stuffPartsRow.holds Try.pinned (OpenSpec.ofChange stuffPartsSpec)

/-- ITS FALSE NEIGHBOUR: 'it returns false'. Refute it at one input. -/
def stuffPartsWrong : ChangeSpec := { name := "stuffParts", fn := fun _ => fun
  | [d1, d2, d3] => { results := [.lit (.bool false)], args := [d1, d2, d3] }
  | _ => none }
def StuffPartsWrongFalsely : Prop := stuffPartsRow.holds Try.pinned (OpenSpec.ofChange stuffPartsWrong)

/-- 'omnibuslaw03.StuffSix': WHATEVER THE INPUT: true; the input reads as it did. -/
def stuffSixSpec : ChangeSpec := { name := "stuffSix", fn := fun _ => fun
  | [d1, d2] => { results := [.lit (.bool true)], args := [d1, d2] }
  | _ => none }
def stuffSixRow : OpenClaim := { program := "ytilffbgepliamaa", sum := "c0b078147d2d335a3629b7c494b90a2795ed5a6a6b020f7634d20137e303bc8d", func := "omnibus/omnibuslaw03.StuffSix", spec := "stuffSix", unfollowed := true, recurses := true, apart := false }
def StuffSixSaid : Prop := stuffSixRow.holds Try.pinned (OpenSpec.ofChange stuffSixSpec)

/-- ITS FALSE NEIGHBOUR: 'it returns false'. Refute it at one input. -/
def stuffSixWrong : ChangeSpec := { name := "stuffSix", fn := fun _ => fun
  | [d1, d2] => { results := [.lit (.bool false)], args := [d1, d2] }
  | _ => none }
def StuffSixWrongFalsely : Prop := stuffSixRow.holds Try.pinned (OpenSpec.ofChange stuffSixWrong)

/- THE SECOND FORM. 'bulk': how many values and letters a reading holds, each counted each time it is reached (what is shared counts as often as it is met; a slice's spare places count too). A statement '..UptoSaid' is the law's where the arguments, and the package variables that the reading takes, are together of bulk at most 1048576: NARROWER than '..Said'. Prove '..Said' where nothing that the law and all that it calls make is longer than what came in: it says more and counts as full. Else prove '..UptoSaid'. A law counts once. -/
mutual
def uptoBulk {H : Type} : DataW H → Nat
  | .lit (.string bytes) => bytes.length + 1
  | .lit _ => 1
  | .nil => 1
  | .ptr d => uptoBulk d + 1
  | .slice elems spare => uptoBulkAll elems + uptoBulkAll spare + 1
  | .agg parts => uptoBulkAll parts + 1
  | .iface _ d => uptoBulk d + 1
  | .map entries => uptoBulkEntries entries + 1
  | .held _ => 1
def uptoBulkAll {H : Type} : List (DataW H) → Nat
  | [] => 0
  | d :: r => uptoBulk d + uptoBulkAll r
def uptoBulkEntries {H : Type} : List (Lit × DataW H) → Nat
  | [] => 0
  | x :: r => uptoBulkEntry x + uptoBulkEntries r
def uptoBulkEntry {H : Type} : Lit × DataW H → Nat
  | (.string bytes, d) => bytes.length + uptoBulk d + 1
  | (_, d) => uptoBulk d + 1
 end
def uptoSmall : (H : Type) → List (DataW H) → Bool := fun _ ds => decide (uptoBulkAll ds ≤ 1048576)
def OpenSpec.upto (s : _root_.Go.ChangeSpec) : _root_.Go.OpenSpec := { _root_.Go.OpenSpec.ofChange s with cond := some uptoSmall }

/-- 'omnibuslaw03.StuffPuts', WHERE WHAT IT READS IS OF BULK AT MOST 1048576: true; the input reads as it did. -/
def stuffPutsUptoRow : OpenClaim := { program := "ytilffbgepliamaa", sum := "c0b078147d2d335a3629b7c494b90a2795ed5a6a6b020f7634d20137e303bc8d", func := "omnibus/omnibuslaw03.StuffPuts", spec := "stuffPuts", unfollowed := true, recurses := true, apart := false, narrowed := true }
def StuffPutsUptoSaid : Prop := stuffPutsUptoRow.holds Try.pinned (OpenSpec.upto stuffPutsSpec)

/-- 'omnibuslaw03.StuffBack', WHERE WHAT IT READS IS OF BULK AT MOST 1048576: true; the input reads as it did. -/
def stuffBackUptoRow : OpenClaim := { program := "ytilffbgepliamaa", sum := "c0b078147d2d335a3629b7c494b90a2795ed5a6a6b020f7634d20137e303bc8d", func := "omnibus/omnibuslaw03.StuffBack", spec := "stuffBack", unfollowed := true, recurses := true, apart := false, narrowed := true }
def StuffBackUptoSaid : Prop := stuffBackUptoRow.holds Try.pinned (OpenSpec.upto stuffBackSpec)

/-- 'omnibuslaw03.StuffRuns', WHERE WHAT IT READS IS OF BULK AT MOST 1048576: true; the input reads as it did. -/
def stuffRunsUptoRow : OpenClaim := { program := "ytilffbgepliamaa", sum := "c0b078147d2d335a3629b7c494b90a2795ed5a6a6b020f7634d20137e303bc8d", func := "omnibus/omnibuslaw03.StuffRuns", spec := "stuffRuns", unfollowed := true, recurses := true, apart := false, narrowed := true }
def StuffRunsUptoSaid : Prop := stuffRunsUptoRow.holds Try.pinned (OpenSpec.upto stuffRunsSpec)

/-- 'omnibuslaw03.StuffTakes', WHERE WHAT IT READS IS OF BULK AT MOST 1048576: true; the input reads as it did. -/
def stuffTakesUptoRow : OpenClaim := { program := "ytilffbgepliamaa", sum := "c0b078147d2d335a3629b7c494b90a2795ed5a6a6b020f7634d20137e303bc8d", func := "omnibus/omnibuslaw03.StuffTakes", spec := "stuffTakes", unfollowed := true, recurses := true, apart := false, narrowed := true }
def StuffTakesUptoSaid : Prop := stuffTakesUptoRow.holds Try.pinned (OpenSpec.upto stuffTakesSpec)

/-- 'omnibuslaw03.StuffParts', WHERE WHAT IT READS IS OF BULK AT MOST 1048576: true; the input reads as it did. -/
def stuffPartsUptoRow : OpenClaim := { program := "ytilffbgepliamaa", sum := "c0b078147d2d335a3629b7c494b90a2795ed5a6a6b020f7634d20137e303bc8d", func := "omnibus/omnibuslaw03.StuffParts", spec := "stuffParts", unfollowed := true, recurses := true, apart := false, narrowed := true }
def StuffPartsUptoSaid : Prop := stuffPartsUptoRow.holds Try.pinned (OpenSpec.upto stuffPartsSpec)

/-- 'omnibuslaw03.StuffSix', WHERE WHAT IT READS IS OF BULK AT MOST 1048576: true; the input reads as it did. -/
def stuffSixUptoRow : OpenClaim := { program := "ytilffbgepliamaa", sum := "c0b078147d2d335a3629b7c494b90a2795ed5a6a6b020f7634d20137e303bc8d", func := "omnibus/omnibuslaw03.StuffSix", spec := "stuffSix", unfollowed := true, recurses := true, apart := false, narrowed := true }
def StuffSixUptoSaid : Prop := stuffSixUptoRow.holds Try.pinned (OpenSpec.upto stuffSixSpec)

end Rows
end Go.Proofs.Ytilffbgepliamaa
