/-
  No cell of these rows narrows 'for every input' (looked for: loops, veiled, ifaces, maps, wideKeys, modest, calm, conditions, laid).
  DERIVED. THE GIVEN ROWS OF THIS SEAT. 5 by the template 'for every input the law returns true; each argument reads behind the call as it read before'; 0 by the template 'total and deterministic' (their statements: YtnlifdnfkmlfbaaTotals.lean).
  GIVEN WITH THE SEED: the statements are not yours to turn. If you find one false, say at which input.
  Laid BY PROGRAM, IN A SANDBOX (cutbox-rows.mjs): the forced cells as the released guide's own fill.sh prints them over the translation 8178eb995146fb10… (all of the seat's roots in one cut). By AI agents, Wed Nov 11 2026. No macro, syntax, notation, axiom, sorry.
-/
import Derived.Test.YtnlifdnfkmlfbaaChecked
import GoSem.Claim
import GoSem.ClaimJoined
import GoSem.ClaimMapViews
import Derived.JoinedTies
import Derived.KernelRfl
namespace Go.Proofs.Ytnlifdnfkmlfbaa
/- THE CELL 'sum', in the pinned program and in every row, IS THE sha256 OF THE DUMP (.gsa) THAT YtnlifdnfkmlfbaaProg.lean LOADS. Nothing in Lean hashes anything: it is a label: what it is worth is what the hold of that sum in a sandbox is worth. -/
noncomputable def Try.pinned : Pinned := { name := "ytnlifdnfkmlfbaa", sum := "8178eb995146fb10f9ad985ab76de48107bc0be7d0278d51e9d198b5489cf663", checked := Try.checked }
namespace Rows
def none {H : Type} : Left H := { results := [], args := [] }

/-- 'omnibuslaw11.FaultNexts': WHATEVER THE INPUT: true; the input reads as it did. -/
def faultNextsSpec : ChangeSpec := { name := "faultNexts", fn := fun _ => fun
  | [d1, d2] => { results := [.lit (.bool true)], args := [d1, d2] }
  | _ => none }
def faultNextsRow : OpenClaim := { program := "ytnlifdnfkmlfbaa", sum := "8178eb995146fb10f9ad985ab76de48107bc0be7d0278d51e9d198b5489cf663", func := "omnibus/omnibuslaw11.FaultNexts", spec := "faultNexts", unfollowed := true, recurses := true, apart := false }
def FaultNextsSaid : Prop := faultNextsRow.holds Try.pinned (OpenSpec.ofChange faultNextsSpec)

/-- ITS FALSE NEIGHBOUR: 'it returns false'. Refute it at one input. -/
def faultNextsWrong : ChangeSpec := { name := "faultNexts", fn := fun _ => fun
  | [d1, d2] => { results := [.lit (.bool false)], args := [d1, d2] }
  | _ => none }
def FaultNextsWrongFalsely : Prop := faultNextsRow.holds Try.pinned (OpenSpec.ofChange faultNextsWrong)

/-- 'omnibuslaw11.FaultMay': WHATEVER THE INPUT: true; the input reads as it did. -/
def faultMaySpec : ChangeSpec := { name := "faultMay", fn := fun _ => fun
  | [d1, d2] => { results := [.lit (.bool true)], args := [d1, d2] }
  | _ => none }
def faultMayRow : OpenClaim := { program := "ytnlifdnfkmlfbaa", sum := "8178eb995146fb10f9ad985ab76de48107bc0be7d0278d51e9d198b5489cf663", func := "omnibus/omnibuslaw11.FaultMay", spec := "faultMay", unfollowed := true, recurses := true, apart := false }
def FaultMaySaid : Prop := faultMayRow.holds Try.pinned (OpenSpec.ofChange faultMaySpec)

/-- ITS FALSE NEIGHBOUR: 'it returns false'. Refute it at one input. -/
def faultMayWrong : ChangeSpec := { name := "faultMay", fn := fun _ => fun
  | [d1, d2] => { results := [.lit (.bool false)], args := [d1, d2] }
  | _ => none }
def FaultMayWrongFalsely : Prop := faultMayRow.holds Try.pinned (OpenSpec.ofChange faultMayWrong)

/-- 'omnibuslaw11.FaultParts': WHATEVER THE INPUT: true; the input reads as it did. -/
def faultPartsSpec : ChangeSpec := { name := "faultParts", fn := fun _ => fun
  | [d1, d2, d3] => { results := [.lit (.bool true)], args := [d1, d2, d3] }
  | _ => none }
def faultPartsRow : OpenClaim := { program := "ytnlifdnfkmlfbaa", sum := "8178eb995146fb10f9ad985ab76de48107bc0be7d0278d51e9d198b5489cf663", func := "omnibus/omnibuslaw11.FaultParts", spec := "faultParts", unfollowed := true, recurses := true, apart := false }
def FaultPartsSaid : Prop := faultPartsRow.holds Try.pinned (OpenSpec.ofChange faultPartsSpec)

/-- ITS FALSE NEIGHBOUR: 'it returns false'. Refute it at one input. -/
def faultPartsWrong : ChangeSpec := { name := "faultParts", fn := fun _ => fun
  | [d1, d2, d3] => { results := [.lit (.bool false)], args := [d1, d2, d3] }
  | _ => none }
def FaultPartsWrongFalsely : Prop := faultPartsRow.holds Try.pinned (OpenSpec.ofChange faultPartsWrong)

/-- 'omnibuslaw11.FaultOff': WHATEVER THE INPUT: true; the input reads as it did. -/
def faultOffSpec : ChangeSpec := { name := "faultOff", fn := fun _ => fun
  | [d1, d2] => { results := [.lit (.bool true)], args := [d1, d2] }
  | _ => none }
def faultOffRow : OpenClaim := { program := "ytnlifdnfkmlfbaa", sum := "8178eb995146fb10f9ad985ab76de48107bc0be7d0278d51e9d198b5489cf663", func := "omnibus/omnibuslaw11.FaultOff", spec := "faultOff", unfollowed := true, recurses := true, apart := false }
def FaultOffSaid : Prop := faultOffRow.holds Try.pinned (OpenSpec.ofChange faultOffSpec)

/-- ITS FALSE NEIGHBOUR: 'it returns false'. Refute it at one input. -/
def faultOffWrong : ChangeSpec := { name := "faultOff", fn := fun _ => fun
  | [d1, d2] => { results := [.lit (.bool false)], args := [d1, d2] }
  | _ => none }
def FaultOffWrongFalsely : Prop := faultOffRow.holds Try.pinned (OpenSpec.ofChange faultOffWrong)

/-- 'omnibuslaw11.FaultHeals': WHATEVER THE INPUT: true; the input reads as it did. -/
def faultHealsSpec : ChangeSpec := { name := "faultHeals", fn := fun _ => fun
  | [d] => { results := [.lit (.bool true)], args := [d] }
  | _ => none }
def faultHealsRow : OpenClaim := { program := "ytnlifdnfkmlfbaa", sum := "8178eb995146fb10f9ad985ab76de48107bc0be7d0278d51e9d198b5489cf663", func := "omnibus/omnibuslaw11.FaultHeals", spec := "faultHeals", unfollowed := true, recurses := true, apart := false }
def FaultHealsSaid : Prop := faultHealsRow.holds Try.pinned (OpenSpec.ofChange faultHealsSpec)

/-- ITS FALSE NEIGHBOUR: 'it returns false'. Refute it at one input. -/
def faultHealsWrong : ChangeSpec := { name := "faultHeals", fn := fun _ => fun
  | [d] => { results := [.lit (.bool false)], args := [d] }
  | _ => none }
def FaultHealsWrongFalsely : Prop := faultHealsRow.holds Try.pinned (OpenSpec.ofChange faultHealsWrong)

/- THE SECOND FORM. 'bulk': how many values and letters a reading holds, each counted each time it is reached (what is shared counts as often as it is met; a slice's spare places count too). A statement '..UptoSaid' is the law's where the arguments, and the package variables that the reading takes, are together of bulk at most 1048576: NARROWER than '..Said'. Prove '..Said' where nothing that the law and all that it calls make is longer than what came in: it says more and counts as full. Else prove '..UptoSaid'. A law counts once. -/
mutual
def uptoBulk {H : Type} : DataW H → Nat
  | .lit (.string bytes) => bytes.length + 1
  | .lit _ => 1
  | .nil => 1
  | .ptr d => uptoBulk d + 1
  | .slice elems spare => uptoBulkAll elems + uptoBulkAll spare + 1
  | .agg parts => uptoBulkAll parts + 1
  | .iface _ d => uptoBulk d + 1
  | .map entries => uptoBulkEntries entries + 1
  | .held _ => 1
def uptoBulkAll {H : Type} : List (DataW H) → Nat
  | [] => 0
  | d :: r => uptoBulk d + uptoBulkAll r
def uptoBulkEntries {H : Type} : List (Lit × DataW H) → Nat
  | [] => 0
  | x :: r => uptoBulkEntry x + uptoBulkEntries r
def uptoBulkEntry {H : Type} : Lit × DataW H → Nat
  | (.string bytes, d) => bytes.length + uptoBulk d + 1
  | (_, d) => uptoBulk d + 1
 end
def uptoSmall : (H : Type) → List (DataW H) → Bool := fun _ ds => decide (uptoBulkAll ds ≤ 1048576)
def OpenSpec.upto (s : _root_.Go.ChangeSpec) : _root_.Go.OpenSpec := { _root_.Go.OpenSpec.ofChange s with cond := some uptoSmall }

/-- 'omnibuslaw11.FaultNexts', WHERE WHAT IT READS IS OF BULK AT MOST 1048576: true; the input reads as it did. -/
def faultNextsUptoRow : OpenClaim := { program := "ytnlifdnfkmlfbaa", sum := "8178eb995146fb10f9ad985ab76de48107bc0be7d0278d51e9d198b5489cf663", func := "omnibus/omnibuslaw11.FaultNexts", spec := "faultNexts", unfollowed := true, recurses := true, apart := false, narrowed := true }
def FaultNextsUptoSaid : Prop := faultNextsUptoRow.holds Try.pinned (OpenSpec.upto faultNextsSpec)

/-- 'omnibuslaw11.FaultMay', WHERE WHAT IT READS IS OF BULK AT MOST 1048576: true; the input reads as it did. -/
def faultMayUptoRow : OpenClaim := { program := "ytnlifdnfkmlfbaa", sum := "8178eb995146fb10f9ad985ab76de48107bc0be7d0278d51e9d198b5489cf663", func := "omnibus/omnibuslaw11.FaultMay", spec := "faultMay", unfollowed := true, recurses := true, apart := false, narrowed := true }
def FaultMayUptoSaid : Prop := faultMayUptoRow.holds Try.pinned (OpenSpec.upto faultMaySpec)

/-- 'omnibuslaw11.FaultParts', WHERE WHAT IT READS IS OF BULK AT MOST 1048576: true; the input reads as it did. -/
def faultPartsUptoRow : OpenClaim := { program := "ytnlifdnfkmlfbaa", sum := "8178eb995146fb10f9ad985ab76de48107bc0be7d0278d51e9d198b5489cf663", func := "omnibus/omnibuslaw11.FaultParts", spec := "faultParts", unfollowed := true, recurses := true, apart := false, narrowed := true }
def FaultPartsUptoSaid : Prop := faultPartsUptoRow.holds Try.pinned (OpenSpec.upto faultPartsSpec)

/-- 'omnibuslaw11.FaultOff', WHERE WHAT IT READS IS OF BULK AT MOST 1048576: true; the input reads as it did. -/
def faultOffUptoRow : OpenClaim := { program := "ytnlifdnfkmlfbaa", sum := "8178eb995146fb10f9ad985ab76de48107bc0be7d0278d51e9d198b5489cf663", func := "omnibus/omnibuslaw11.FaultOff", spec := "faultOff", unfollowed := true, recurses := true, apart := false, narrowed := true }
def FaultOffUptoSaid : Prop := faultOffUptoRow.holds Try.pinned (OpenSpec.upto faultOffSpec)

/-- 'omnibuslaw11.FaultHeals', WHERE WHAT IT READS IS OF BULK AT MOST 1048576: true; the input reads as it did. -/
def faultHealsUptoRow : OpenClaim := { program := "ytnlifdnfkmlfbaa", sum := "8178eb995146fb10f9ad985ab76de48107bc0be7d0278d51e9d198b5489cf663", func := "omnibus/omnibuslaw11.FaultHeals", spec := "faultHeals", unfollowed := true, recurses := true, apart := false, narrowed := true }
def FaultHealsUptoSaid : Prop := faultHealsUptoRow.holds Try.pinned (OpenSpec.upto faultHealsSpec)

end Rows
end Go.Proofs.Ytnlifdnfkmlfbaa
