/-
  NARROWER THAN 'FOR EVERY INPUT', by the rows' own cells (each row's printed sentence says how): PduBack: laid · PduBehind: laid · PduNoughts: laid · PduSplits: laid · PduFinds: laid.
  DERIVED. THE GIVEN ROWS OF THIS SEAT. 5 by the template 'for every input the law returns true; each argument reads behind the call as it read before'; 0 by the template 'total and deterministic' (their statements: YthigfghfpmpiiaaDoorTotals.lean).
  GIVEN WITH THE SEED: the statements are not yours to turn. If you find one false, say at which input.
  Laid BY PROGRAM, IN A SANDBOX (cutbox-rows.mjs): the forced cells as the released guide's own fill.sh prints them over the translation 0c515b9c1f38f14c… (all of the seat's roots in one cut). By AI agents, Wed Nov 11 2026. No macro, syntax, notation, axiom, sorry.
-/
import Derived.Test.YthigfghfpmpiiaaDoorChecked
import GoSem.PinnedTables
import GoSem.Claim
import GoSem.ClaimJoined
import GoSem.ClaimMapViews
import Derived.JoinedTies
import Derived.KernelRfl
namespace Go.Proofs.YthigfghfpmpiiaaDoor
/- THE CELL 'sum', in the pinned program and in every row, IS THE sha256 OF THE DUMP (.gsa) THAT YthigfghfpmpiiaaDoorProg.lean LOADS. Nothing in Lean hashes anything: it is a label: what it is worth is what the hold of that sum in a sandbox is worth. -/
noncomputable def Tryd.pinned : Pinned := { name := "ythigfghfpmpiiaadoor", sum := "0c515b9c1f38f14c09bda330ea72c2465ac0a6bf2fd96861e259bf3ab36eabb9", checked := Tryd.checked }
namespace Rows
def none {H : Type} : Left H := { results := [], args := [] }

/- WHAT THE LISTED PACKAGE-LEVEL VARIABLES READ AS WHEN THE CALL BEGINS. Each datum BY PROGRAM (the guide's laid-datum.mjs) off the statement by which the dump's own 'gosem.cut.vars' lays the variable. In a bare row this is a premise. The card (YthigfghfpmpiiaaDoorCards.lean) ties it to the program's text. -/
def laid_unicode_utf8_acceptRanges {H : Type} : DataW H := .agg [.agg [.lit (.int .u8 128), .lit (.int .u8 191)], .agg [.lit (.int .u8 160), .lit (.int .u8 191)], .agg [.lit (.int .u8 128), .lit (.int .u8 159)], .agg [.lit (.int .u8 144), .lit (.int .u8 191)], .agg [.lit (.int .u8 128), .lit (.int .u8 143)], .agg [.lit (.int .u8 0), .lit (.int .u8 0)], .agg [.lit (.int .u8 0), .lit (.int .u8 0)], .agg [.lit (.int .u8 0), .lit (.int .u8 0)], .agg [.lit (.int .u8 0), .lit (.int .u8 0)], .agg [.lit (.int .u8 0), .lit (.int .u8 0)], .agg [.lit (.int .u8 0), .lit (.int .u8 0)], .agg [.lit (.int .u8 0), .lit (.int .u8 0)], .agg [.lit (.int .u8 0), .lit (.int .u8 0)], .agg [.lit (.int .u8 0), .lit (.int .u8 0)], .agg [.lit (.int .u8 0), .lit (.int .u8 0)], .agg [.lit (.int .u8 0), .lit (.int .u8 0)]]
/-- One of Go's own tables, pinned by name: the form's constant. -/
def laid_unicode_utf8_first : DataW Unit := Go.Pinned.utf8First

/-- 'omnibuslaw19.PduBack': WHATEVER THE INPUT: true; the input reads as it did. -/
def pduBackSpec : ChangeSpec := { name := "pduBack", fn := fun _ => fun
  | [d1, d2] => { results := [.lit (.bool true)], args := [d1, d2] }
  | _ => none }
def pduBackRow : OpenClaim := { program := "ythigfghfpmpiiaadoor", sum := "0c515b9c1f38f14c09bda330ea72c2465ac0a6bf2fd96861e259bf3ab36eabb9", func := "omnibus/omnibuslaw19.PduBack", spec := "pduBack", unfollowed := true, recurses := true, named := ["unicode/utf8.first", "unicode/utf8.acceptRanges"], apart := false, laid := [("unicode/utf8.acceptRanges", laid_unicode_utf8_acceptRanges), ("unicode/utf8.first", laid_unicode_utf8_first)] }
def PduBackSaid : Prop := pduBackRow.holds Tryd.pinned (OpenSpec.ofChange pduBackSpec)

/-- ITS FALSE NEIGHBOUR: 'it returns false'. Refute it at one input. -/
def pduBackWrong : ChangeSpec := { name := "pduBack", fn := fun _ => fun
  | [d1, d2] => { results := [.lit (.bool false)], args := [d1, d2] }
  | _ => none }
def PduBackWrongFalsely : Prop := pduBackRow.holds Tryd.pinned (OpenSpec.ofChange pduBackWrong)

/-- 'omnibuslaw19.PduBehind': WHATEVER THE INPUT: true; the input reads as it did. -/
def pduBehindSpec : ChangeSpec := { name := "pduBehind", fn := fun _ => fun
  | [d1, d2, d3] => { results := [.lit (.bool true)], args := [d1, d2, d3] }
  | _ => none }
def pduBehindRow : OpenClaim := { program := "ythigfghfpmpiiaadoor", sum := "0c515b9c1f38f14c09bda330ea72c2465ac0a6bf2fd96861e259bf3ab36eabb9", func := "omnibus/omnibuslaw19.PduBehind", spec := "pduBehind", unfollowed := true, recurses := true, named := ["unicode/utf8.first", "unicode/utf8.acceptRanges"], apart := false, laid := [("unicode/utf8.acceptRanges", laid_unicode_utf8_acceptRanges), ("unicode/utf8.first", laid_unicode_utf8_first)] }
def PduBehindSaid : Prop := pduBehindRow.holds Tryd.pinned (OpenSpec.ofChange pduBehindSpec)

/-- ITS FALSE NEIGHBOUR: 'it returns false'. Refute it at one input. -/
def pduBehindWrong : ChangeSpec := { name := "pduBehind", fn := fun _ => fun
  | [d1, d2, d3] => { results := [.lit (.bool false)], args := [d1, d2, d3] }
  | _ => none }
def PduBehindWrongFalsely : Prop := pduBehindRow.holds Tryd.pinned (OpenSpec.ofChange pduBehindWrong)

/-- 'omnibuslaw19.PduNoughts': WHATEVER THE INPUT: true; the input reads as it did. -/
def pduNoughtsSpec : ChangeSpec := { name := "pduNoughts", fn := fun _ => fun
  | [d1, d2, d3] => { results := [.lit (.bool true)], args := [d1, d2, d3] }
  | _ => none }
def pduNoughtsRow : OpenClaim := { program := "ythigfghfpmpiiaadoor", sum := "0c515b9c1f38f14c09bda330ea72c2465ac0a6bf2fd96861e259bf3ab36eabb9", func := "omnibus/omnibuslaw19.PduNoughts", spec := "pduNoughts", unfollowed := true, recurses := true, named := ["unicode/utf8.first", "unicode/utf8.acceptRanges"], apart := false, laid := [("unicode/utf8.acceptRanges", laid_unicode_utf8_acceptRanges), ("unicode/utf8.first", laid_unicode_utf8_first)] }
def PduNoughtsSaid : Prop := pduNoughtsRow.holds Tryd.pinned (OpenSpec.ofChange pduNoughtsSpec)

/-- ITS FALSE NEIGHBOUR: 'it returns false'. Refute it at one input. -/
def pduNoughtsWrong : ChangeSpec := { name := "pduNoughts", fn := fun _ => fun
  | [d1, d2, d3] => { results := [.lit (.bool false)], args := [d1, d2, d3] }
  | _ => none }
def PduNoughtsWrongFalsely : Prop := pduNoughtsRow.holds Tryd.pinned (OpenSpec.ofChange pduNoughtsWrong)

/-- 'omnibuslaw19.PduSplits': WHATEVER THE INPUT: true; the input reads as it did. -/
def pduSplitsSpec : ChangeSpec := { name := "pduSplits", fn := fun _ => fun
  | [d1, d2] => { results := [.lit (.bool true)], args := [d1, d2] }
  | _ => none }
def pduSplitsRow : OpenClaim := { program := "ythigfghfpmpiiaadoor", sum := "0c515b9c1f38f14c09bda330ea72c2465ac0a6bf2fd96861e259bf3ab36eabb9", func := "omnibus/omnibuslaw19.PduSplits", spec := "pduSplits", unfollowed := true, recurses := true, named := ["unicode/utf8.first", "unicode/utf8.acceptRanges"], apart := false, laid := [("unicode/utf8.acceptRanges", laid_unicode_utf8_acceptRanges), ("unicode/utf8.first", laid_unicode_utf8_first)] }
def PduSplitsSaid : Prop := pduSplitsRow.holds Tryd.pinned (OpenSpec.ofChange pduSplitsSpec)

/-- ITS FALSE NEIGHBOUR: 'it returns false'. Refute it at one input. -/
def pduSplitsWrong : ChangeSpec := { name := "pduSplits", fn := fun _ => fun
  | [d1, d2] => { results := [.lit (.bool false)], args := [d1, d2] }
  | _ => none }
def PduSplitsWrongFalsely : Prop := pduSplitsRow.holds Tryd.pinned (OpenSpec.ofChange pduSplitsWrong)

/-- 'omnibuslaw19.PduFinds': WHATEVER THE INPUT: true; the input reads as it did. -/
def pduFindsSpec : ChangeSpec := { name := "pduFinds", fn := fun _ => fun
  | [d] => { results := [.lit (.bool true)], args := [d] }
  | _ => none }
def pduFindsRow : OpenClaim := { program := "ythigfghfpmpiiaadoor", sum := "0c515b9c1f38f14c09bda330ea72c2465ac0a6bf2fd96861e259bf3ab36eabb9", func := "omnibus/omnibuslaw19.PduFinds", spec := "pduFinds", unfollowed := true, recurses := true, named := ["unicode/utf8.first", "unicode/utf8.acceptRanges"], apart := false, laid := [("unicode/utf8.acceptRanges", laid_unicode_utf8_acceptRanges), ("unicode/utf8.first", laid_unicode_utf8_first)] }
def PduFindsSaid : Prop := pduFindsRow.holds Tryd.pinned (OpenSpec.ofChange pduFindsSpec)

/-- ITS FALSE NEIGHBOUR: 'it returns false'. Refute it at one input. -/
def pduFindsWrong : ChangeSpec := { name := "pduFinds", fn := fun _ => fun
  | [d] => { results := [.lit (.bool false)], args := [d] }
  | _ => none }
def PduFindsWrongFalsely : Prop := pduFindsRow.holds Tryd.pinned (OpenSpec.ofChange pduFindsWrong)

/- THE SECOND FORM. 'bulk': how many values and letters a reading holds, each counted each time it is reached (what is shared counts as often as it is met; a slice's spare places count too). A statement '..UptoSaid' is the law's where the arguments, and the package variables that the reading takes, are together of bulk at most 1048576: NARROWER than '..Said'. Prove '..Said' where nothing that the law and all that it calls make is longer than what came in: it says more and counts as full. Else prove '..UptoSaid'. A law counts once. -/
mutual
def uptoBulk {H : Type} : DataW H → Nat
  | .lit (.string bytes) => bytes.length + 1
  | .lit _ => 1
  | .nil => 1
  | .ptr d => uptoBulk d + 1
  | .slice elems spare => uptoBulkAll elems + uptoBulkAll spare + 1
  | .agg parts => uptoBulkAll parts + 1
  | .iface _ d => uptoBulk d + 1
  | .map entries => uptoBulkEntries entries + 1
  | .held _ => 1
def uptoBulkAll {H : Type} : List (DataW H) → Nat
  | [] => 0
  | d :: r => uptoBulk d + uptoBulkAll r
def uptoBulkEntries {H : Type} : List (Lit × DataW H) → Nat
  | [] => 0
  | x :: r => uptoBulkEntry x + uptoBulkEntries r
def uptoBulkEntry {H : Type} : Lit × DataW H → Nat
  | (.string bytes, d) => bytes.length + uptoBulk d + 1
  | (_, d) => uptoBulk d + 1
 end
def uptoSmall : (H : Type) → List (DataW H) → Bool := fun _ ds => decide (uptoBulkAll ds ≤ 1048576)
def OpenSpec.upto (s : _root_.Go.ChangeSpec) : _root_.Go.OpenSpec := { _root_.Go.OpenSpec.ofChange s with cond := some uptoSmall }

/-- 'omnibuslaw19.PduBack', WHERE WHAT IT READS IS OF BULK AT MOST 1048576: true; the input reads as it did. -/
def pduBackUptoRow : OpenClaim := { program := "ythigfghfpmpiiaadoor", sum := "0c515b9c1f38f14c09bda330ea72c2465ac0a6bf2fd96861e259bf3ab36eabb9", func := "omnibus/omnibuslaw19.PduBack", spec := "pduBack", unfollowed := true, recurses := true, named := ["unicode/utf8.first", "unicode/utf8.acceptRanges"], apart := false, laid := [("unicode/utf8.acceptRanges", laid_unicode_utf8_acceptRanges), ("unicode/utf8.first", laid_unicode_utf8_first)], narrowed := true }
def PduBackUptoSaid : Prop := pduBackUptoRow.holds Tryd.pinned (OpenSpec.upto pduBackSpec)

/-- 'omnibuslaw19.PduBehind', WHERE WHAT IT READS IS OF BULK AT MOST 1048576: true; the input reads as it did. -/
def pduBehindUptoRow : OpenClaim := { program := "ythigfghfpmpiiaadoor", sum := "0c515b9c1f38f14c09bda330ea72c2465ac0a6bf2fd96861e259bf3ab36eabb9", func := "omnibus/omnibuslaw19.PduBehind", spec := "pduBehind", unfollowed := true, recurses := true, named := ["unicode/utf8.first", "unicode/utf8.acceptRanges"], apart := false, laid := [("unicode/utf8.acceptRanges", laid_unicode_utf8_acceptRanges), ("unicode/utf8.first", laid_unicode_utf8_first)], narrowed := true }
def PduBehindUptoSaid : Prop := pduBehindUptoRow.holds Tryd.pinned (OpenSpec.upto pduBehindSpec)

/-- 'omnibuslaw19.PduNoughts', WHERE WHAT IT READS IS OF BULK AT MOST 1048576: true; the input reads as it did. -/
def pduNoughtsUptoRow : OpenClaim := { program := "ythigfghfpmpiiaadoor", sum := "0c515b9c1f38f14c09bda330ea72c2465ac0a6bf2fd96861e259bf3ab36eabb9", func := "omnibus/omnibuslaw19.PduNoughts", spec := "pduNoughts", unfollowed := true, recurses := true, named := ["unicode/utf8.first", "unicode/utf8.acceptRanges"], apart := false, laid := [("unicode/utf8.acceptRanges", laid_unicode_utf8_acceptRanges), ("unicode/utf8.first", laid_unicode_utf8_first)], narrowed := true }
def PduNoughtsUptoSaid : Prop := pduNoughtsUptoRow.holds Tryd.pinned (OpenSpec.upto pduNoughtsSpec)

/-- 'omnibuslaw19.PduSplits', WHERE WHAT IT READS IS OF BULK AT MOST 1048576: true; the input reads as it did. -/
def pduSplitsUptoRow : OpenClaim := { program := "ythigfghfpmpiiaadoor", sum := "0c515b9c1f38f14c09bda330ea72c2465ac0a6bf2fd96861e259bf3ab36eabb9", func := "omnibus/omnibuslaw19.PduSplits", spec := "pduSplits", unfollowed := true, recurses := true, named := ["unicode/utf8.first", "unicode/utf8.acceptRanges"], apart := false, laid := [("unicode/utf8.acceptRanges", laid_unicode_utf8_acceptRanges), ("unicode/utf8.first", laid_unicode_utf8_first)], narrowed := true }
def PduSplitsUptoSaid : Prop := pduSplitsUptoRow.holds Tryd.pinned (OpenSpec.upto pduSplitsSpec)

/-- 'omnibuslaw19.PduFinds', WHERE WHAT IT READS IS OF BULK AT MOST 1048576: true; the input reads as it did. -/
def pduFindsUptoRow : OpenClaim := { program := "ythigfghfpmpiiaadoor", sum := "0c515b9c1f38f14c09bda330ea72c2465ac0a6bf2fd96861e259bf3ab36eabb9", func := "omnibus/omnibuslaw19.PduFinds", spec := "pduFinds", unfollowed := true, recurses := true, named := ["unicode/utf8.first", "unicode/utf8.acceptRanges"], apart := false, laid := [("unicode/utf8.acceptRanges", laid_unicode_utf8_acceptRanges), ("unicode/utf8.first", laid_unicode_utf8_first)], narrowed := true }
def PduFindsUptoSaid : Prop := pduFindsUptoRow.holds Tryd.pinned (OpenSpec.upto pduFindsSpec)

end Rows
end Go.Proofs.YthigfghfpmpiiaaDoor
