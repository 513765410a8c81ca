/-
  No cell of these rows narrows 'for every input' (looked for: loops, veiled, ifaces, maps, wideKeys, modest, calm, conditions, laid).
  DERIVED. THE GIVEN ROWS OF THIS SEAT. 6 by the template 'for every input the law returns true; each argument reads behind the call as it read before'; 0 by the template 'total and deterministic' (their statements: YtgdnanfnmaafoaaTotals.lean).
  GIVEN WITH THE SEED: the statements are not yours to turn. If you find one false, say at which input.
  Laid BY PROGRAM, IN A SANDBOX (cutbox-rows.mjs): the forced cells as the released guide's own fill.sh prints them over the translation ff1f1fc8c04765f4… (all of the seat's roots in one cut). By AI agents, Wed Nov 11 2026. No macro, syntax, notation, axiom, sorry.
-/
import Derived.Test.YtgdnanfnmaafoaaChecked
import GoSem.Claim
import GoSem.ClaimJoined
import GoSem.ClaimMapViews
import Derived.JoinedTies
import Derived.KernelRfl
namespace Go.Proofs.Ytgdnanfnmaafoaa
/- THE CELL 'sum', in the pinned program and in every row, IS THE sha256 OF THE DUMP (.gsa) THAT YtgdnanfnmaafoaaProg.lean LOADS. Nothing in Lean hashes anything: it is a label: what it is worth is what the hold of that sum in a sandbox is worth. -/
noncomputable def Try.pinned : Pinned := { name := "ytgdnanfnmaafoaa", sum := "ff1f1fc8c04765f4e49b88ae12e3d5c9ffbdeb5c91cf11fd9458797a8884bd38", checked := Try.checked }
namespace Rows
def none {H : Type} : Left H := { results := [], args := [] }

/-- 'omnibuslaw15.FilterShadows': WHATEVER THE INPUT: true; the input reads as it did. -/
def filterShadowsSpec : ChangeSpec := { name := "filterShadows", fn := fun _ => fun
  | [d1, d2, d3] => { results := [.lit (.bool true)], args := [d1, d2, d3] }
  | _ => none }
def filterShadowsRow : OpenClaim := { program := "ytgdnanfnmaafoaa", sum := "ff1f1fc8c04765f4e49b88ae12e3d5c9ffbdeb5c91cf11fd9458797a8884bd38", func := "omnibus/omnibuslaw15.FilterShadows", spec := "filterShadows", unfollowed := true, recurses := true, plainKeys := false, apart := false }
def FilterShadowsSaid : Prop := filterShadowsRow.holds Try.pinned (OpenSpec.ofChange filterShadowsSpec)

/-- ITS FALSE NEIGHBOUR: 'it returns false'. Refute it at one input. -/
def filterShadowsWrong : ChangeSpec := { name := "filterShadows", fn := fun _ => fun
  | [d1, d2, d3] => { results := [.lit (.bool false)], args := [d1, d2, d3] }
  | _ => none }
def FilterShadowsWrongFalsely : Prop := filterShadowsRow.holds Try.pinned (OpenSpec.ofChange filterShadowsWrong)

/-- 'omnibuslaw15.FilterFinds': WHATEVER THE INPUT: true; the input reads as it did. -/
def filterFindsSpec : ChangeSpec := { name := "filterFinds", fn := fun _ => fun
  | [d1, d2] => { results := [.lit (.bool true)], args := [d1, d2] }
  | _ => none }
def filterFindsRow : OpenClaim := { program := "ytgdnanfnmaafoaa", sum := "ff1f1fc8c04765f4e49b88ae12e3d5c9ffbdeb5c91cf11fd9458797a8884bd38", func := "omnibus/omnibuslaw15.FilterFinds", spec := "filterFinds", unfollowed := true, recurses := true, plainKeys := false, apart := false }
def FilterFindsSaid : Prop := filterFindsRow.holds Try.pinned (OpenSpec.ofChange filterFindsSpec)

/-- ITS FALSE NEIGHBOUR: 'it returns false'. Refute it at one input. -/
def filterFindsWrong : ChangeSpec := { name := "filterFinds", fn := fun _ => fun
  | [d1, d2] => { results := [.lit (.bool false)], args := [d1, d2] }
  | _ => none }
def FilterFindsWrongFalsely : Prop := filterFindsRow.holds Try.pinned (OpenSpec.ofChange filterFindsWrong)

/-- 'omnibuslaw15.FilterMasks': WHATEVER THE INPUT: true; the input reads as it did. -/
def filterMasksSpec : ChangeSpec := { name := "filterMasks", fn := fun _ => fun
  | [d1, d2, d3] => { results := [.lit (.bool true)], args := [d1, d2, d3] }
  | _ => none }
def filterMasksRow : OpenClaim := { program := "ytgdnanfnmaafoaa", sum := "ff1f1fc8c04765f4e49b88ae12e3d5c9ffbdeb5c91cf11fd9458797a8884bd38", func := "omnibus/omnibuslaw15.FilterMasks", spec := "filterMasks", unfollowed := true, recurses := true, plainKeys := false, apart := false }
def FilterMasksSaid : Prop := filterMasksRow.holds Try.pinned (OpenSpec.ofChange filterMasksSpec)

/-- ITS FALSE NEIGHBOUR: 'it returns false'. Refute it at one input. -/
def filterMasksWrong : ChangeSpec := { name := "filterMasks", fn := fun _ => fun
  | [d1, d2, d3] => { results := [.lit (.bool false)], args := [d1, d2, d3] }
  | _ => none }
def FilterMasksWrongFalsely : Prop := filterMasksRow.holds Try.pinned (OpenSpec.ofChange filterMasksWrong)

/-- 'omnibuslaw15.FilterAdds': WHATEVER THE INPUT: true; the input reads as it did. -/
def filterAddsSpec : ChangeSpec := { name := "filterAdds", fn := fun _ => fun
  | [d1, d2, d3] => { results := [.lit (.bool true)], args := [d1, d2, d3] }
  | _ => none }
def filterAddsRow : OpenClaim := { program := "ytgdnanfnmaafoaa", sum := "ff1f1fc8c04765f4e49b88ae12e3d5c9ffbdeb5c91cf11fd9458797a8884bd38", func := "omnibus/omnibuslaw15.FilterAdds", spec := "filterAdds", unfollowed := true, recurses := true, plainKeys := false, apart := false }
def FilterAddsSaid : Prop := filterAddsRow.holds Try.pinned (OpenSpec.ofChange filterAddsSpec)

/-- ITS FALSE NEIGHBOUR: 'it returns false'. Refute it at one input. -/
def filterAddsWrong : ChangeSpec := { name := "filterAdds", fn := fun _ => fun
  | [d1, d2, d3] => { results := [.lit (.bool false)], args := [d1, d2, d3] }
  | _ => none }
def FilterAddsWrongFalsely : Prop := filterAddsRow.holds Try.pinned (OpenSpec.ofChange filterAddsWrong)

/-- 'omnibuslaw15.FilterLeast': WHATEVER THE INPUT: true; the input reads as it did. -/
def filterLeastSpec : ChangeSpec := { name := "filterLeast", fn := fun _ => fun
  | [d] => { results := [.lit (.bool true)], args := [d] }
  | _ => none }
def filterLeastRow : OpenClaim := { program := "ytgdnanfnmaafoaa", sum := "ff1f1fc8c04765f4e49b88ae12e3d5c9ffbdeb5c91cf11fd9458797a8884bd38", func := "omnibus/omnibuslaw15.FilterLeast", spec := "filterLeast", unfollowed := true, recurses := true, plainKeys := false, apart := false }
def FilterLeastSaid : Prop := filterLeastRow.holds Try.pinned (OpenSpec.ofChange filterLeastSpec)

/-- ITS FALSE NEIGHBOUR: 'it returns false'. Refute it at one input. -/
def filterLeastWrong : ChangeSpec := { name := "filterLeast", fn := fun _ => fun
  | [d] => { results := [.lit (.bool false)], args := [d] }
  | _ => none }
def FilterLeastWrongFalsely : Prop := filterLeastRow.holds Try.pinned (OpenSpec.ofChange filterLeastWrong)

/-- 'omnibuslaw15.FilterSame': WHATEVER THE INPUT: true; the input reads as it did. -/
def filterSameSpec : ChangeSpec := { name := "filterSame", fn := fun _ => fun
  | [d1, d2] => { results := [.lit (.bool true)], args := [d1, d2] }
  | _ => none }
def filterSameRow : OpenClaim := { program := "ytgdnanfnmaafoaa", sum := "ff1f1fc8c04765f4e49b88ae12e3d5c9ffbdeb5c91cf11fd9458797a8884bd38", func := "omnibus/omnibuslaw15.FilterSame", spec := "filterSame", unfollowed := true, recurses := true, plainKeys := false, apart := false }
def FilterSameSaid : Prop := filterSameRow.holds Try.pinned (OpenSpec.ofChange filterSameSpec)

/-- ITS FALSE NEIGHBOUR: 'it returns false'. Refute it at one input. -/
def filterSameWrong : ChangeSpec := { name := "filterSame", fn := fun _ => fun
  | [d1, d2] => { results := [.lit (.bool false)], args := [d1, d2] }
  | _ => none }
def FilterSameWrongFalsely : Prop := filterSameRow.holds Try.pinned (OpenSpec.ofChange filterSameWrong)

/- THE SECOND FORM. 'bulk': how many values and letters a reading holds, each counted each time it is reached (what is shared counts as often as it is met; a slice's spare places count too). A statement '..UptoSaid' is the law's where the arguments, and the package variables that the reading takes, are together of bulk at most 1048576: NARROWER than '..Said'. Prove '..Said' where nothing that the law and all that it calls make is longer than what came in: it says more and counts as full. Else prove '..UptoSaid'. A law counts once. -/
mutual
def uptoBulk {H : Type} : DataW H → Nat
  | .lit (.string bytes) => bytes.length + 1
  | .lit _ => 1
  | .nil => 1
  | .ptr d => uptoBulk d + 1
  | .slice elems spare => uptoBulkAll elems + uptoBulkAll spare + 1
  | .agg parts => uptoBulkAll parts + 1
  | .iface _ d => uptoBulk d + 1
  | .map entries => uptoBulkEntries entries + 1
  | .held _ => 1
def uptoBulkAll {H : Type} : List (DataW H) → Nat
  | [] => 0
  | d :: r => uptoBulk d + uptoBulkAll r
def uptoBulkEntries {H : Type} : List (Lit × DataW H) → Nat
  | [] => 0
  | x :: r => uptoBulkEntry x + uptoBulkEntries r
def uptoBulkEntry {H : Type} : Lit × DataW H → Nat
  | (.string bytes, d) => bytes.length + uptoBulk d + 1
  | (_, d) => uptoBulk d + 1
 end
def uptoSmall : (H : Type) → List (DataW H) → Bool := fun _ ds => decide (uptoBulkAll ds ≤ 1048576)
def OpenSpec.upto (s : _root_.Go.ChangeSpec) : _root_.Go.OpenSpec := { _root_.Go.OpenSpec.ofChange s with cond := some uptoSmall }

/-- 'omnibuslaw15.FilterShadows', WHERE WHAT IT READS IS OF BULK AT MOST 1048576: true; the input reads as it did. -/
def filterShadowsUptoRow : OpenClaim := { program := "ytgdnanfnmaafoaa", sum := "ff1f1fc8c04765f4e49b88ae12e3d5c9ffbdeb5c91cf11fd9458797a8884bd38", func := "omnibus/omnibuslaw15.FilterShadows", spec := "filterShadows", unfollowed := true, recurses := true, plainKeys := false, apart := false, narrowed := true }
def FilterShadowsUptoSaid : Prop := filterShadowsUptoRow.holds Try.pinned (OpenSpec.upto filterShadowsSpec)

/-- 'omnibuslaw15.FilterFinds', WHERE WHAT IT READS IS OF BULK AT MOST 1048576: true; the input reads as it did. -/
def filterFindsUptoRow : OpenClaim := { program := "ytgdnanfnmaafoaa", sum := "ff1f1fc8c04765f4e49b88ae12e3d5c9ffbdeb5c91cf11fd9458797a8884bd38", func := "omnibus/omnibuslaw15.FilterFinds", spec := "filterFinds", unfollowed := true, recurses := true, plainKeys := false, apart := false, narrowed := true }
def FilterFindsUptoSaid : Prop := filterFindsUptoRow.holds Try.pinned (OpenSpec.upto filterFindsSpec)

/-- 'omnibuslaw15.FilterMasks', WHERE WHAT IT READS IS OF BULK AT MOST 1048576: true; the input reads as it did. -/
def filterMasksUptoRow : OpenClaim := { program := "ytgdnanfnmaafoaa", sum := "ff1f1fc8c04765f4e49b88ae12e3d5c9ffbdeb5c91cf11fd9458797a8884bd38", func := "omnibus/omnibuslaw15.FilterMasks", spec := "filterMasks", unfollowed := true, recurses := true, plainKeys := false, apart := false, narrowed := true }
def FilterMasksUptoSaid : Prop := filterMasksUptoRow.holds Try.pinned (OpenSpec.upto filterMasksSpec)

/-- 'omnibuslaw15.FilterAdds', WHERE WHAT IT READS IS OF BULK AT MOST 1048576: true; the input reads as it did. -/
def filterAddsUptoRow : OpenClaim := { program := "ytgdnanfnmaafoaa", sum := "ff1f1fc8c04765f4e49b88ae12e3d5c9ffbdeb5c91cf11fd9458797a8884bd38", func := "omnibus/omnibuslaw15.FilterAdds", spec := "filterAdds", unfollowed := true, recurses := true, plainKeys := false, apart := false, narrowed := true }
def FilterAddsUptoSaid : Prop := filterAddsUptoRow.holds Try.pinned (OpenSpec.upto filterAddsSpec)

/-- 'omnibuslaw15.FilterLeast', WHERE WHAT IT READS IS OF BULK AT MOST 1048576: true; the input reads as it did. -/
def filterLeastUptoRow : OpenClaim := { program := "ytgdnanfnmaafoaa", sum := "ff1f1fc8c04765f4e49b88ae12e3d5c9ffbdeb5c91cf11fd9458797a8884bd38", func := "omnibus/omnibuslaw15.FilterLeast", spec := "filterLeast", unfollowed := true, recurses := true, plainKeys := false, apart := false, narrowed := true }
def FilterLeastUptoSaid : Prop := filterLeastUptoRow.holds Try.pinned (OpenSpec.upto filterLeastSpec)

/-- 'omnibuslaw15.FilterSame', WHERE WHAT IT READS IS OF BULK AT MOST 1048576: true; the input reads as it did. -/
def filterSameUptoRow : OpenClaim := { program := "ytgdnanfnmaafoaa", sum := "ff1f1fc8c04765f4e49b88ae12e3d5c9ffbdeb5c91cf11fd9458797a8884bd38", func := "omnibus/omnibuslaw15.FilterSame", spec := "filterSame", unfollowed := true, recurses := true, plainKeys := false, apart := false, narrowed := true }
def FilterSameUptoSaid : Prop := filterSameUptoRow.holds Try.pinned (OpenSpec.upto filterSameSpec)

end Rows
end Go.Proofs.Ytgdnanfnmaafoaa
