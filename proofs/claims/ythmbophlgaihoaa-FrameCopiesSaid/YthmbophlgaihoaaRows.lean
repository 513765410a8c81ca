/-
  No cell of these rows narrows 'for every input' (looked for: loops, veiled, ifaces, maps, wideKeys, modest, calm, conditions, laid).
  DERIVED. THE GIVEN ROWS OF THIS SEAT. 6 by the template 'for every input the law returns true; each argument reads behind the call as it read before'; 0 by the template 'total and deterministic' (their statements: YthmbophlgaihoaaTotals.lean).
  GIVEN WITH THE SEED: the statements are not yours to turn. If you find one false, say at which input.
  Laid BY PROGRAM, IN A SANDBOX (cutbox-rows.mjs): the forced cells as the released guide's own fill.sh prints them over the translation 41498e90fd91e692… (all of the seat's roots in one cut). By AI agents, Wed Nov 11 2026. No macro, syntax, notation, axiom, sorry.
-/
import Derived.Test.YthmbophlgaihoaaChecked
import GoSem.Claim
import GoSem.ClaimJoined
import GoSem.ClaimMapViews
import Derived.JoinedTies
import Derived.KernelRfl
namespace Go.Proofs.Ythmbophlgaihoaa
/- THE CELL 'sum', in the pinned program and in every row, IS THE sha256 OF THE DUMP (.gsa) THAT YthmbophlgaihoaaProg.lean LOADS. Nothing in Lean hashes anything: it is a label: what it is worth is what the hold of that sum in a sandbox is worth. -/
noncomputable def Try.pinned : Pinned := { name := "ythmbophlgaihoaa", sum := "41498e90fd91e692208e2097b9a515c9ee2598d884f4ff7cf0a7878449aadc1d", checked := Try.checked }
namespace Rows
def none {H : Type} : Left H := { results := [], args := [] }

/-- 'omnibuslaw05.FrameChecks': WHATEVER THE INPUT: true; the input reads as it did. -/
def frameChecksSpec : ChangeSpec := { name := "frameChecks", fn := fun _ => fun
  | [d1, d2] => { results := [.lit (.bool true)], args := [d1, d2] }
  | _ => none }
def frameChecksRow : OpenClaim := { program := "ythmbophlgaihoaa", sum := "41498e90fd91e692208e2097b9a515c9ee2598d884f4ff7cf0a7878449aadc1d", func := "omnibus/omnibuslaw05.FrameChecks", spec := "frameChecks", unfollowed := true, recurses := true, apart := false }
def FrameChecksSaid : Prop := frameChecksRow.holds Try.pinned (OpenSpec.ofChange frameChecksSpec)

/-- ITS FALSE NEIGHBOUR: 'it returns false'. Refute it at one input. -/
def frameChecksWrong : ChangeSpec := { name := "frameChecks", fn := fun _ => fun
  | [d1, d2] => { results := [.lit (.bool false)], args := [d1, d2] }
  | _ => none }
def FrameChecksWrongFalsely : Prop := frameChecksRow.holds Try.pinned (OpenSpec.ofChange frameChecksWrong)

/-- 'omnibuslaw05.FrameRises': WHATEVER THE INPUT: true; the input reads as it did. -/
def frameRisesSpec : ChangeSpec := { name := "frameRises", fn := fun _ => fun
  | [d1, d2, d3] => { results := [.lit (.bool true)], args := [d1, d2, d3] }
  | _ => none }
def frameRisesRow : OpenClaim := { program := "ythmbophlgaihoaa", sum := "41498e90fd91e692208e2097b9a515c9ee2598d884f4ff7cf0a7878449aadc1d", func := "omnibus/omnibuslaw05.FrameRises", spec := "frameRises", unfollowed := true, recurses := true, apart := false }
def FrameRisesSaid : Prop := frameRisesRow.holds Try.pinned (OpenSpec.ofChange frameRisesSpec)

/-- ITS FALSE NEIGHBOUR: 'it returns false'. Refute it at one input. -/
def frameRisesWrong : ChangeSpec := { name := "frameRises", fn := fun _ => fun
  | [d1, d2, d3] => { results := [.lit (.bool false)], args := [d1, d2, d3] }
  | _ => none }
def FrameRisesWrongFalsely : Prop := frameRisesRow.holds Try.pinned (OpenSpec.ofChange frameRisesWrong)

/-- 'omnibuslaw05.FrameKinds': WHATEVER THE INPUT: true; the input reads as it did. -/
def frameKindsSpec : ChangeSpec := { name := "frameKinds", fn := fun _ => fun
  | [d] => { results := [.lit (.bool true)], args := [d] }
  | _ => none }
def frameKindsRow : OpenClaim := { program := "ythmbophlgaihoaa", sum := "41498e90fd91e692208e2097b9a515c9ee2598d884f4ff7cf0a7878449aadc1d", func := "omnibus/omnibuslaw05.FrameKinds", spec := "frameKinds", unfollowed := true, recurses := true, apart := false }
def FrameKindsSaid : Prop := frameKindsRow.holds Try.pinned (OpenSpec.ofChange frameKindsSpec)

/-- ITS FALSE NEIGHBOUR: 'it returns false'. Refute it at one input. -/
def frameKindsWrong : ChangeSpec := { name := "frameKinds", fn := fun _ => fun
  | [d] => { results := [.lit (.bool false)], args := [d] }
  | _ => none }
def FrameKindsWrongFalsely : Prop := frameKindsRow.holds Try.pinned (OpenSpec.ofChange frameKindsWrong)

/-- 'omnibuslaw05.FrameSizes': WHATEVER THE INPUT: true; the input reads as it did. -/
def frameSizesSpec : ChangeSpec := { name := "frameSizes", fn := fun _ => fun
  | [d1, d2, d3] => { results := [.lit (.bool true)], args := [d1, d2, d3] }
  | _ => none }
def frameSizesRow : OpenClaim := { program := "ythmbophlgaihoaa", sum := "41498e90fd91e692208e2097b9a515c9ee2598d884f4ff7cf0a7878449aadc1d", func := "omnibus/omnibuslaw05.FrameSizes", spec := "frameSizes", unfollowed := true, recurses := true, apart := false }
def FrameSizesSaid : Prop := frameSizesRow.holds Try.pinned (OpenSpec.ofChange frameSizesSpec)

/-- ITS FALSE NEIGHBOUR: 'it returns false'. Refute it at one input. -/
def frameSizesWrong : ChangeSpec := { name := "frameSizes", fn := fun _ => fun
  | [d1, d2, d3] => { results := [.lit (.bool false)], args := [d1, d2, d3] }
  | _ => none }
def FrameSizesWrongFalsely : Prop := frameSizesRow.holds Try.pinned (OpenSpec.ofChange frameSizesWrong)

/-- 'omnibuslaw05.FrameBack': WHATEVER THE INPUT: true; the input reads as it did. -/
def frameBackSpec : ChangeSpec := { name := "frameBack", fn := fun _ => fun
  | [d1, d2] => { results := [.lit (.bool true)], args := [d1, d2] }
  | _ => none }
def frameBackRow : OpenClaim := { program := "ythmbophlgaihoaa", sum := "41498e90fd91e692208e2097b9a515c9ee2598d884f4ff7cf0a7878449aadc1d", func := "omnibus/omnibuslaw05.FrameBack", spec := "frameBack", unfollowed := true, recurses := true, apart := false }
def FrameBackSaid : Prop := frameBackRow.holds Try.pinned (OpenSpec.ofChange frameBackSpec)

/-- ITS FALSE NEIGHBOUR: 'it returns false'. Refute it at one input. -/
def frameBackWrong : ChangeSpec := { name := "frameBack", fn := fun _ => fun
  | [d1, d2] => { results := [.lit (.bool false)], args := [d1, d2] }
  | _ => none }
def FrameBackWrongFalsely : Prop := frameBackRow.holds Try.pinned (OpenSpec.ofChange frameBackWrong)

/-- 'omnibuslaw05.FrameCopies': WHATEVER THE INPUT: true; the input reads as it did. -/
def frameCopiesSpec : ChangeSpec := { name := "frameCopies", fn := fun _ => fun
  | [d1, d2] => { results := [.lit (.bool true)], args := [d1, d2] }
  | _ => none }
def frameCopiesRow : OpenClaim := { program := "ythmbophlgaihoaa", sum := "41498e90fd91e692208e2097b9a515c9ee2598d884f4ff7cf0a7878449aadc1d", func := "omnibus/omnibuslaw05.FrameCopies", spec := "frameCopies", unfollowed := true, recurses := true, apart := false }
def FrameCopiesSaid : Prop := frameCopiesRow.holds Try.pinned (OpenSpec.ofChange frameCopiesSpec)

/-- ITS FALSE NEIGHBOUR: 'it returns false'. Refute it at one input. -/
def frameCopiesWrong : ChangeSpec := { name := "frameCopies", fn := fun _ => fun
  | [d1, d2] => { results := [.lit (.bool false)], args := [d1, d2] }
  | _ => none }
def FrameCopiesWrongFalsely : Prop := frameCopiesRow.holds Try.pinned (OpenSpec.ofChange frameCopiesWrong)

/- THE SECOND FORM. 'bulk': how many values and letters a reading holds, each counted each time it is reached (what is shared counts as often as it is met; a slice's spare places count too). A statement '..UptoSaid' is the law's where the arguments, and the package variables that the reading takes, are together of bulk at most 1048576: NARROWER than '..Said'. Prove '..Said' where nothing that the law and all that it calls make is longer than what came in: it says more and counts as full. Else prove '..UptoSaid'. A law counts once. -/
mutual
def uptoBulk {H : Type} : DataW H → Nat
  | .lit (.string bytes) => bytes.length + 1
  | .lit _ => 1
  | .nil => 1
  | .ptr d => uptoBulk d + 1
  | .slice elems spare => uptoBulkAll elems + uptoBulkAll spare + 1
  | .agg parts => uptoBulkAll parts + 1
  | .iface _ d => uptoBulk d + 1
  | .map entries => uptoBulkEntries entries + 1
  | .held _ => 1
def uptoBulkAll {H : Type} : List (DataW H) → Nat
  | [] => 0
  | d :: r => uptoBulk d + uptoBulkAll r
def uptoBulkEntries {H : Type} : List (Lit × DataW H) → Nat
  | [] => 0
  | x :: r => uptoBulkEntry x + uptoBulkEntries r
def uptoBulkEntry {H : Type} : Lit × DataW H → Nat
  | (.string bytes, d) => bytes.length + uptoBulk d + 1
  | (_, d) => uptoBulk d + 1
 end
def uptoSmall : (H : Type) → List (DataW H) → Bool := fun _ ds => decide (uptoBulkAll ds ≤ 1048576)
def OpenSpec.upto (s : _root_.Go.ChangeSpec) : _root_.Go.OpenSpec := { _root_.Go.OpenSpec.ofChange s with cond := some uptoSmall }

/-- 'omnibuslaw05.FrameChecks', WHERE WHAT IT READS IS OF BULK AT MOST 1048576: true; the input reads as it did. -/
def frameChecksUptoRow : OpenClaim := { program := "ythmbophlgaihoaa", sum := "41498e90fd91e692208e2097b9a515c9ee2598d884f4ff7cf0a7878449aadc1d", func := "omnibus/omnibuslaw05.FrameChecks", spec := "frameChecks", unfollowed := true, recurses := true, apart := false, narrowed := true }
def FrameChecksUptoSaid : Prop := frameChecksUptoRow.holds Try.pinned (OpenSpec.upto frameChecksSpec)

/-- 'omnibuslaw05.FrameRises', WHERE WHAT IT READS IS OF BULK AT MOST 1048576: true; the input reads as it did. -/
def frameRisesUptoRow : OpenClaim := { program := "ythmbophlgaihoaa", sum := "41498e90fd91e692208e2097b9a515c9ee2598d884f4ff7cf0a7878449aadc1d", func := "omnibus/omnibuslaw05.FrameRises", spec := "frameRises", unfollowed := true, recurses := true, apart := false, narrowed := true }
def FrameRisesUptoSaid : Prop := frameRisesUptoRow.holds Try.pinned (OpenSpec.upto frameRisesSpec)

/-- 'omnibuslaw05.FrameKinds', WHERE WHAT IT READS IS OF BULK AT MOST 1048576: true; the input reads as it did. -/
def frameKindsUptoRow : OpenClaim := { program := "ythmbophlgaihoaa", sum := "41498e90fd91e692208e2097b9a515c9ee2598d884f4ff7cf0a7878449aadc1d", func := "omnibus/omnibuslaw05.FrameKinds", spec := "frameKinds", unfollowed := true, recurses := true, apart := false, narrowed := true }
def FrameKindsUptoSaid : Prop := frameKindsUptoRow.holds Try.pinned (OpenSpec.upto frameKindsSpec)

/-- 'omnibuslaw05.FrameSizes', WHERE WHAT IT READS IS OF BULK AT MOST 1048576: true; the input reads as it did. -/
def frameSizesUptoRow : OpenClaim := { program := "ythmbophlgaihoaa", sum := "41498e90fd91e692208e2097b9a515c9ee2598d884f4ff7cf0a7878449aadc1d", func := "omnibus/omnibuslaw05.FrameSizes", spec := "frameSizes", unfollowed := true, recurses := true, apart := false, narrowed := true }
def FrameSizesUptoSaid : Prop := frameSizesUptoRow.holds Try.pinned (OpenSpec.upto frameSizesSpec)

/-- 'omnibuslaw05.FrameBack', WHERE WHAT IT READS IS OF BULK AT MOST 1048576: true; the input reads as it did. -/
def frameBackUptoRow : OpenClaim := { program := "ythmbophlgaihoaa", sum := "41498e90fd91e692208e2097b9a515c9ee2598d884f4ff7cf0a7878449aadc1d", func := "omnibus/omnibuslaw05.FrameBack", spec := "frameBack", unfollowed := true, recurses := true, apart := false, narrowed := true }
def FrameBackUptoSaid : Prop := frameBackUptoRow.holds Try.pinned (OpenSpec.upto frameBackSpec)

/-- 'omnibuslaw05.FrameCopies', WHERE WHAT IT READS IS OF BULK AT MOST 1048576: true; the input reads as it did. -/
def frameCopiesUptoRow : OpenClaim := { program := "ythmbophlgaihoaa", sum := "41498e90fd91e692208e2097b9a515c9ee2598d884f4ff7cf0a7878449aadc1d", func := "omnibus/omnibuslaw05.FrameCopies", spec := "frameCopies", unfollowed := true, recurses := true, apart := false, narrowed := true }
def FrameCopiesUptoSaid : Prop := frameCopiesUptoRow.holds Try.pinned (OpenSpec.upto frameCopiesSpec)

end Rows
end Go.Proofs.Ythmbophlgaihoaa
