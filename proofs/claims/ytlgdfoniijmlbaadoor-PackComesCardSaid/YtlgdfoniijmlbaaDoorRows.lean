/-
  NARROWER THAN 'FOR EVERY INPUT', by the rows' own cells (each row's printed sentence says how): PackFills: laid · PackOwn: laid · PackFlushes: laid · PackComes: laid.
  DERIVED. THE GIVEN ROWS OF THIS SEAT. 4 by the template 'for every input the law returns true; each argument reads behind the call as it read before'; 0 by the template 'total and deterministic' (their statements: YtlgdfoniijmlbaaDoorTotals.lean).
  GIVEN WITH THE SEED: the statements are not yours to turn. If you find one false, say at which input.
  Laid BY PROGRAM, IN A SANDBOX (cutbox-rows.mjs): the forced cells as the released guide's own fill.sh prints them over the translation 295bc5d5d109048f… (all of the seat's roots in one cut). By AI agents, Wed Nov 11 2026. No macro, syntax, notation, axiom, sorry.
-/
import Derived.Test.YtlgdfoniijmlbaaDoorChecked
import GoSem.PinnedTables
import GoSem.Claim
import GoSem.ClaimJoined
import GoSem.ClaimMapViews
import Derived.JoinedTies
import Derived.KernelRfl
namespace Go.Proofs.YtlgdfoniijmlbaaDoor
/- THE CELL 'sum', in the pinned program and in every row, IS THE sha256 OF THE DUMP (.gsa) THAT YtlgdfoniijmlbaaDoorProg.lean LOADS. Nothing in Lean hashes anything: it is a label: what it is worth is what the hold of that sum in a sandbox is worth. -/
noncomputable def Tryd.pinned : Pinned := { name := "ytlgdfoniijmlbaadoor", sum := "295bc5d5d109048f24e32386a4f0bac487a9e4ee099e498cb9a365d474716936", checked := Tryd.checked }
namespace Rows
def none {H : Type} : Left H := { results := [], args := [] }

/- WHAT THE LISTED PACKAGE-LEVEL VARIABLES READ AS WHEN THE CALL BEGINS. Each datum BY PROGRAM (the guide's laid-datum.mjs) off the statement by which the dump's own 'gosem.cut.vars' lays the variable. In a bare row this is a premise. The card (YtlgdfoniijmlbaaDoorCards.lean) ties it to the program's text. -/
def laid_unicode_utf8_acceptRanges {H : Type} : DataW H := .agg [.agg [.lit (.int .u8 128), .lit (.int .u8 191)], .agg [.lit (.int .u8 160), .lit (.int .u8 191)], .agg [.lit (.int .u8 128), .lit (.int .u8 159)], .agg [.lit (.int .u8 144), .lit (.int .u8 191)], .agg [.lit (.int .u8 128), .lit (.int .u8 143)], .agg [.lit (.int .u8 0), .lit (.int .u8 0)], .agg [.lit (.int .u8 0), .lit (.int .u8 0)], .agg [.lit (.int .u8 0), .lit (.int .u8 0)], .agg [.lit (.int .u8 0), .lit (.int .u8 0)], .agg [.lit (.int .u8 0), .lit (.int .u8 0)], .agg [.lit (.int .u8 0), .lit (.int .u8 0)], .agg [.lit (.int .u8 0), .lit (.int .u8 0)], .agg [.lit (.int .u8 0), .lit (.int .u8 0)], .agg [.lit (.int .u8 0), .lit (.int .u8 0)], .agg [.lit (.int .u8 0), .lit (.int .u8 0)], .agg [.lit (.int .u8 0), .lit (.int .u8 0)]]
/-- One of Go's own tables, pinned by name: the form's constant. -/
def laid_unicode_utf8_first : DataW Unit := Go.Pinned.utf8First

/-- 'omnibuslaw20.PackFills': WHATEVER THE INPUT: true; the input reads as it did. -/
def packFillsSpec : ChangeSpec := { name := "packFills", fn := fun _ => fun
  | [d1, d2] => { results := [.lit (.bool true)], args := [d1, d2] }
  | _ => none }
def packFillsRow : OpenClaim := { program := "ytlgdfoniijmlbaadoor", sum := "295bc5d5d109048f24e32386a4f0bac487a9e4ee099e498cb9a365d474716936", func := "omnibus/omnibuslaw20.PackFills", spec := "packFills", unfollowed := true, recurses := true, named := ["unicode/utf8.first", "unicode/utf8.acceptRanges"], apart := false, laid := [("unicode/utf8.acceptRanges", laid_unicode_utf8_acceptRanges), ("unicode/utf8.first", laid_unicode_utf8_first)] }
def PackFillsSaid : Prop := packFillsRow.holds Tryd.pinned (OpenSpec.ofChange packFillsSpec)

/-- ITS FALSE NEIGHBOUR: 'it returns false'. Refute it at one input. -/
def packFillsWrong : ChangeSpec := { name := "packFills", fn := fun _ => fun
  | [d1, d2] => { results := [.lit (.bool false)], args := [d1, d2] }
  | _ => none }
def PackFillsWrongFalsely : Prop := packFillsRow.holds Tryd.pinned (OpenSpec.ofChange packFillsWrong)

/-- 'omnibuslaw20.PackOwn': WHATEVER THE INPUT: true; the input reads as it did. -/
def packOwnSpec : ChangeSpec := { name := "packOwn", fn := fun _ => fun
  | [d] => { results := [.lit (.bool true)], args := [d] }
  | _ => none }
def packOwnRow : OpenClaim := { program := "ytlgdfoniijmlbaadoor", sum := "295bc5d5d109048f24e32386a4f0bac487a9e4ee099e498cb9a365d474716936", func := "omnibus/omnibuslaw20.PackOwn", spec := "packOwn", unfollowed := true, recurses := true, named := ["unicode/utf8.first", "unicode/utf8.acceptRanges"], apart := false, laid := [("unicode/utf8.acceptRanges", laid_unicode_utf8_acceptRanges), ("unicode/utf8.first", laid_unicode_utf8_first)] }
def PackOwnSaid : Prop := packOwnRow.holds Tryd.pinned (OpenSpec.ofChange packOwnSpec)

/-- ITS FALSE NEIGHBOUR: 'it returns false'. Refute it at one input. -/
def packOwnWrong : ChangeSpec := { name := "packOwn", fn := fun _ => fun
  | [d] => { results := [.lit (.bool false)], args := [d] }
  | _ => none }
def PackOwnWrongFalsely : Prop := packOwnRow.holds Tryd.pinned (OpenSpec.ofChange packOwnWrong)

/-- 'omnibuslaw20.PackFlushes': WHATEVER THE INPUT: true; the input reads as it did. -/
def packFlushesSpec : ChangeSpec := { name := "packFlushes", fn := fun _ => fun
  | [d1, d2] => { results := [.lit (.bool true)], args := [d1, d2] }
  | _ => none }
def packFlushesRow : OpenClaim := { program := "ytlgdfoniijmlbaadoor", sum := "295bc5d5d109048f24e32386a4f0bac487a9e4ee099e498cb9a365d474716936", func := "omnibus/omnibuslaw20.PackFlushes", spec := "packFlushes", unfollowed := true, recurses := true, named := ["unicode/utf8.first", "unicode/utf8.acceptRanges"], apart := false, laid := [("unicode/utf8.acceptRanges", laid_unicode_utf8_acceptRanges), ("unicode/utf8.first", laid_unicode_utf8_first)] }
def PackFlushesSaid : Prop := packFlushesRow.holds Tryd.pinned (OpenSpec.ofChange packFlushesSpec)

/-- ITS FALSE NEIGHBOUR: 'it returns false'. Refute it at one input. -/
def packFlushesWrong : ChangeSpec := { name := "packFlushes", fn := fun _ => fun
  | [d1, d2] => { results := [.lit (.bool false)], args := [d1, d2] }
  | _ => none }
def PackFlushesWrongFalsely : Prop := packFlushesRow.holds Tryd.pinned (OpenSpec.ofChange packFlushesWrong)

/-- 'omnibuslaw20.PackComes': WHATEVER THE INPUT: true; the input reads as it did. -/
def packComesSpec : ChangeSpec := { name := "packComes", fn := fun _ => fun
  | [d1, d2, d3] => { results := [.lit (.bool true)], args := [d1, d2, d3] }
  | _ => none }
def packComesRow : OpenClaim := { program := "ytlgdfoniijmlbaadoor", sum := "295bc5d5d109048f24e32386a4f0bac487a9e4ee099e498cb9a365d474716936", func := "omnibus/omnibuslaw20.PackComes", spec := "packComes", unfollowed := true, recurses := true, named := ["unicode/utf8.first", "unicode/utf8.acceptRanges"], apart := false, laid := [("unicode/utf8.acceptRanges", laid_unicode_utf8_acceptRanges), ("unicode/utf8.first", laid_unicode_utf8_first)] }
def PackComesSaid : Prop := packComesRow.holds Tryd.pinned (OpenSpec.ofChange packComesSpec)

/-- ITS FALSE NEIGHBOUR: 'it returns false'. Refute it at one input. -/
def packComesWrong : ChangeSpec := { name := "packComes", fn := fun _ => fun
  | [d1, d2, d3] => { results := [.lit (.bool false)], args := [d1, d2, d3] }
  | _ => none }
def PackComesWrongFalsely : Prop := packComesRow.holds Tryd.pinned (OpenSpec.ofChange packComesWrong)

/- THE SECOND FORM. 'bulk': how many values and letters a reading holds, each counted each time it is reached (what is shared counts as often as it is met; a slice's spare places count too). A statement '..UptoSaid' is the law's where the arguments, and the package variables that the reading takes, are together of bulk at most 1048576: NARROWER than '..Said'. Prove '..Said' where nothing that the law and all that it calls make is longer than what came in: it says more and counts as full. Else prove '..UptoSaid'. A law counts once. -/
mutual
def uptoBulk {H : Type} : DataW H → Nat
  | .lit (.string bytes) => bytes.length + 1
  | .lit _ => 1
  | .nil => 1
  | .ptr d => uptoBulk d + 1
  | .slice elems spare => uptoBulkAll elems + uptoBulkAll spare + 1
  | .agg parts => uptoBulkAll parts + 1
  | .iface _ d => uptoBulk d + 1
  | .map entries => uptoBulkEntries entries + 1
  | .held _ => 1
def uptoBulkAll {H : Type} : List (DataW H) → Nat
  | [] => 0
  | d :: r => uptoBulk d + uptoBulkAll r
def uptoBulkEntries {H : Type} : List (Lit × DataW H) → Nat
  | [] => 0
  | x :: r => uptoBulkEntry x + uptoBulkEntries r
def uptoBulkEntry {H : Type} : Lit × DataW H → Nat
  | (.string bytes, d) => bytes.length + uptoBulk d + 1
  | (_, d) => uptoBulk d + 1
 end
def uptoSmall : (H : Type) → List (DataW H) → Bool := fun _ ds => decide (uptoBulkAll ds ≤ 1048576)
def OpenSpec.upto (s : _root_.Go.ChangeSpec) : _root_.Go.OpenSpec := { _root_.Go.OpenSpec.ofChange s with cond := some uptoSmall }

/-- 'omnibuslaw20.PackFills', WHERE WHAT IT READS IS OF BULK AT MOST 1048576: true; the input reads as it did. -/
def packFillsUptoRow : OpenClaim := { program := "ytlgdfoniijmlbaadoor", sum := "295bc5d5d109048f24e32386a4f0bac487a9e4ee099e498cb9a365d474716936", func := "omnibus/omnibuslaw20.PackFills", spec := "packFills", unfollowed := true, recurses := true, named := ["unicode/utf8.first", "unicode/utf8.acceptRanges"], apart := false, laid := [("unicode/utf8.acceptRanges", laid_unicode_utf8_acceptRanges), ("unicode/utf8.first", laid_unicode_utf8_first)], narrowed := true }
def PackFillsUptoSaid : Prop := packFillsUptoRow.holds Tryd.pinned (OpenSpec.upto packFillsSpec)

/-- 'omnibuslaw20.PackOwn', WHERE WHAT IT READS IS OF BULK AT MOST 1048576: true; the input reads as it did. -/
def packOwnUptoRow : OpenClaim := { program := "ytlgdfoniijmlbaadoor", sum := "295bc5d5d109048f24e32386a4f0bac487a9e4ee099e498cb9a365d474716936", func := "omnibus/omnibuslaw20.PackOwn", spec := "packOwn", unfollowed := true, recurses := true, named := ["unicode/utf8.first", "unicode/utf8.acceptRanges"], apart := false, laid := [("unicode/utf8.acceptRanges", laid_unicode_utf8_acceptRanges), ("unicode/utf8.first", laid_unicode_utf8_first)], narrowed := true }
def PackOwnUptoSaid : Prop := packOwnUptoRow.holds Tryd.pinned (OpenSpec.upto packOwnSpec)

/-- 'omnibuslaw20.PackFlushes', WHERE WHAT IT READS IS OF BULK AT MOST 1048576: true; the input reads as it did. -/
def packFlushesUptoRow : OpenClaim := { program := "ytlgdfoniijmlbaadoor", sum := "295bc5d5d109048f24e32386a4f0bac487a9e4ee099e498cb9a365d474716936", func := "omnibus/omnibuslaw20.PackFlushes", spec := "packFlushes", unfollowed := true, recurses := true, named := ["unicode/utf8.first", "unicode/utf8.acceptRanges"], apart := false, laid := [("unicode/utf8.acceptRanges", laid_unicode_utf8_acceptRanges), ("unicode/utf8.first", laid_unicode_utf8_first)], narrowed := true }
def PackFlushesUptoSaid : Prop := packFlushesUptoRow.holds Tryd.pinned (OpenSpec.upto packFlushesSpec)

/-- 'omnibuslaw20.PackComes', WHERE WHAT IT READS IS OF BULK AT MOST 1048576: true; the input reads as it did. -/
def packComesUptoRow : OpenClaim := { program := "ytlgdfoniijmlbaadoor", sum := "295bc5d5d109048f24e32386a4f0bac487a9e4ee099e498cb9a365d474716936", func := "omnibus/omnibuslaw20.PackComes", spec := "packComes", unfollowed := true, recurses := true, named := ["unicode/utf8.first", "unicode/utf8.acceptRanges"], apart := false, laid := [("unicode/utf8.acceptRanges", laid_unicode_utf8_acceptRanges), ("unicode/utf8.first", laid_unicode_utf8_first)], narrowed := true }
def PackComesUptoSaid : Prop := packComesUptoRow.holds Tryd.pinned (OpenSpec.upto packComesSpec)

end Rows
end Go.Proofs.YtlgdfoniijmlbaaDoor
