/-
  No cell of these rows narrows 'for every input' (looked for: loops, veiled, ifaces, maps, wideKeys, modest, calm, conditions, laid).
  DERIVED. THE GIVEN ROWS OF THIS SEAT. 6 by the template 'for every input the law returns true; each argument reads behind the call as it read before'; 0 by the template 'total and deterministic' (their statements: YtmdmlhhhaidebaaTotals.lean).
  GIVEN WITH THE SEED: the statements are not yours to turn. If you find one false, say at which input.
  Laid BY PROGRAM, IN A SANDBOX (cutbox-rows.mjs): the forced cells as the released guide's own fill.sh prints them over the translation cef6434dc2595dbd… (all of the seat's roots in one cut). By AI agents, Wed Nov 11 2026. No macro, syntax, notation, axiom, sorry.
-/
import Derived.Test.YtmdmlhhhaidebaaChecked
import GoSem.Claim
import GoSem.ClaimJoined
import GoSem.ClaimMapViews
import Derived.JoinedTies
import Derived.KernelRfl
namespace Go.Proofs.Ytmdmlhhhaidebaa
/- THE CELL 'sum', in the pinned program and in every row, IS THE sha256 OF THE DUMP (.gsa) THAT YtmdmlhhhaidebaaProg.lean LOADS. Nothing in Lean hashes anything: it is a label: what it is worth is what the hold of that sum in a sandbox is worth. -/
noncomputable def Try.pinned : Pinned := { name := "ytmdmlhhhaidebaa", sum := "cef6434dc2595dbd07281e1bb3024a91f8fee0a8170619d6cb8d2f0424e67950", checked := Try.checked }
namespace Rows
def none {H : Type} : Left H := { results := [], args := [] }

/-- 'omnibuslaw02.CrcSums': WHATEVER THE INPUT: true; the input reads as it did. -/
def crcSumsSpec : ChangeSpec := { name := "crcSums", fn := fun _ => fun
  | [d1, d2, d3] => { results := [.lit (.bool true)], args := [d1, d2, d3] }
  | _ => none }
def crcSumsRow : OpenClaim := { program := "ytmdmlhhhaidebaa", sum := "cef6434dc2595dbd07281e1bb3024a91f8fee0a8170619d6cb8d2f0424e67950", func := "omnibus/omnibuslaw02.CrcSums", spec := "crcSums", unfollowed := true, recurses := true, apart := false }
def CrcSumsSaid : Prop := crcSumsRow.holds Try.pinned (OpenSpec.ofChange crcSumsSpec)

/-- ITS FALSE NEIGHBOUR: 'it returns false'. Refute it at one input. -/
def crcSumsWrong : ChangeSpec := { name := "crcSums", fn := fun _ => fun
  | [d1, d2, d3] => { results := [.lit (.bool false)], args := [d1, d2, d3] }
  | _ => none }
def CrcSumsWrongFalsely : Prop := crcSumsRow.holds Try.pinned (OpenSpec.ofChange crcSumsWrong)

/-- 'omnibuslaw02.CrcAdds': WHATEVER THE INPUT: true; the input reads as it did. -/
def crcAddsSpec : ChangeSpec := { name := "crcAdds", fn := fun _ => fun
  | [d1, d2] => { results := [.lit (.bool true)], args := [d1, d2] }
  | _ => none }
def crcAddsRow : OpenClaim := { program := "ytmdmlhhhaidebaa", sum := "cef6434dc2595dbd07281e1bb3024a91f8fee0a8170619d6cb8d2f0424e67950", func := "omnibus/omnibuslaw02.CrcAdds", spec := "crcAdds", unfollowed := true, recurses := true, apart := false }
def CrcAddsSaid : Prop := crcAddsRow.holds Try.pinned (OpenSpec.ofChange crcAddsSpec)

/-- ITS FALSE NEIGHBOUR: 'it returns false'. Refute it at one input. -/
def crcAddsWrong : ChangeSpec := { name := "crcAdds", fn := fun _ => fun
  | [d1, d2] => { results := [.lit (.bool false)], args := [d1, d2] }
  | _ => none }
def CrcAddsWrongFalsely : Prop := crcAddsRow.holds Try.pinned (OpenSpec.ofChange crcAddsWrong)

/-- 'omnibuslaw02.CrcGoes': WHATEVER THE INPUT: true; the input reads as it did. -/
def crcGoesSpec : ChangeSpec := { name := "crcGoes", fn := fun _ => fun
  | [d1, d2, d3] => { results := [.lit (.bool true)], args := [d1, d2, d3] }
  | _ => none }
def crcGoesRow : OpenClaim := { program := "ytmdmlhhhaidebaa", sum := "cef6434dc2595dbd07281e1bb3024a91f8fee0a8170619d6cb8d2f0424e67950", func := "omnibus/omnibuslaw02.CrcGoes", spec := "crcGoes", unfollowed := true, recurses := true, apart := false }
def CrcGoesSaid : Prop := crcGoesRow.holds Try.pinned (OpenSpec.ofChange crcGoesSpec)

/-- ITS FALSE NEIGHBOUR: 'it returns false'. Refute it at one input. -/
def crcGoesWrong : ChangeSpec := { name := "crcGoes", fn := fun _ => fun
  | [d1, d2, d3] => { results := [.lit (.bool false)], args := [d1, d2, d3] }
  | _ => none }
def CrcGoesWrongFalsely : Prop := crcGoesRow.holds Try.pinned (OpenSpec.ofChange crcGoesWrong)

/-- 'omnibuslaw02.CrcTurns': WHATEVER THE INPUT: true; the input reads as it did. -/
def crcTurnsSpec : ChangeSpec := { name := "crcTurns", fn := fun _ => fun
  | [d] => { results := [.lit (.bool true)], args := [d] }
  | _ => none }
def crcTurnsRow : OpenClaim := { program := "ytmdmlhhhaidebaa", sum := "cef6434dc2595dbd07281e1bb3024a91f8fee0a8170619d6cb8d2f0424e67950", func := "omnibus/omnibuslaw02.CrcTurns", spec := "crcTurns", unfollowed := true, recurses := true, apart := false }
def CrcTurnsSaid : Prop := crcTurnsRow.holds Try.pinned (OpenSpec.ofChange crcTurnsSpec)

/-- ITS FALSE NEIGHBOUR: 'it returns false'. Refute it at one input. -/
def crcTurnsWrong : ChangeSpec := { name := "crcTurns", fn := fun _ => fun
  | [d] => { results := [.lit (.bool false)], args := [d] }
  | _ => none }
def CrcTurnsWrongFalsely : Prop := crcTurnsRow.holds Try.pinned (OpenSpec.ofChange crcTurnsWrong)

/-- 'omnibuslaw02.CrcBursts': WHATEVER THE INPUT: true; the input reads as it did. -/
def crcBurstsSpec : ChangeSpec := { name := "crcBursts", fn := fun _ => fun
  | [d] => { results := [.lit (.bool true)], args := [d] }
  | _ => none }
def crcBurstsRow : OpenClaim := { program := "ytmdmlhhhaidebaa", sum := "cef6434dc2595dbd07281e1bb3024a91f8fee0a8170619d6cb8d2f0424e67950", func := "omnibus/omnibuslaw02.CrcBursts", spec := "crcBursts", unfollowed := true, recurses := true, apart := false }
def CrcBurstsSaid : Prop := crcBurstsRow.holds Try.pinned (OpenSpec.ofChange crcBurstsSpec)

/-- ITS FALSE NEIGHBOUR: 'it returns false'. Refute it at one input. -/
def crcBurstsWrong : ChangeSpec := { name := "crcBursts", fn := fun _ => fun
  | [d] => { results := [.lit (.bool false)], args := [d] }
  | _ => none }
def CrcBurstsWrongFalsely : Prop := crcBurstsRow.holds Try.pinned (OpenSpec.ofChange crcBurstsWrong)

/-- 'omnibuslaw02.CrcBelongs': WHATEVER THE INPUT: true; the input reads as it did. -/
def crcBelongsSpec : ChangeSpec := { name := "crcBelongs", fn := fun _ => fun
  | [d1, d2, d3] => { results := [.lit (.bool true)], args := [d1, d2, d3] }
  | _ => none }
def crcBelongsRow : OpenClaim := { program := "ytmdmlhhhaidebaa", sum := "cef6434dc2595dbd07281e1bb3024a91f8fee0a8170619d6cb8d2f0424e67950", func := "omnibus/omnibuslaw02.CrcBelongs", spec := "crcBelongs", unfollowed := true, recurses := true, apart := false }
def CrcBelongsSaid : Prop := crcBelongsRow.holds Try.pinned (OpenSpec.ofChange crcBelongsSpec)

/-- ITS FALSE NEIGHBOUR: 'it returns false'. Refute it at one input. -/
def crcBelongsWrong : ChangeSpec := { name := "crcBelongs", fn := fun _ => fun
  | [d1, d2, d3] => { results := [.lit (.bool false)], args := [d1, d2, d3] }
  | _ => none }
def CrcBelongsWrongFalsely : Prop := crcBelongsRow.holds Try.pinned (OpenSpec.ofChange crcBelongsWrong)

/- THE SECOND FORM. 'bulk': how many values and letters a reading holds, each counted each time it is reached (what is shared counts as often as it is met; a slice's spare places count too). A statement '..UptoSaid' is the law's where the arguments, and the package variables that the reading takes, are together of bulk at most 1048576: NARROWER than '..Said'. Prove '..Said' where nothing that the law and all that it calls make is longer than what came in: it says more and counts as full. Else prove '..UptoSaid'. A law counts once. -/
mutual
def uptoBulk {H : Type} : DataW H → Nat
  | .lit (.string bytes) => bytes.length + 1
  | .lit _ => 1
  | .nil => 1
  | .ptr d => uptoBulk d + 1
  | .slice elems spare => uptoBulkAll elems + uptoBulkAll spare + 1
  | .agg parts => uptoBulkAll parts + 1
  | .iface _ d => uptoBulk d + 1
  | .map entries => uptoBulkEntries entries + 1
  | .held _ => 1
def uptoBulkAll {H : Type} : List (DataW H) → Nat
  | [] => 0
  | d :: r => uptoBulk d + uptoBulkAll r
def uptoBulkEntries {H : Type} : List (Lit × DataW H) → Nat
  | [] => 0
  | x :: r => uptoBulkEntry x + uptoBulkEntries r
def uptoBulkEntry {H : Type} : Lit × DataW H → Nat
  | (.string bytes, d) => bytes.length + uptoBulk d + 1
  | (_, d) => uptoBulk d + 1
 end
def uptoSmall : (H : Type) → List (DataW H) → Bool := fun _ ds => decide (uptoBulkAll ds ≤ 1048576)
def OpenSpec.upto (s : _root_.Go.ChangeSpec) : _root_.Go.OpenSpec := { _root_.Go.OpenSpec.ofChange s with cond := some uptoSmall }

/-- 'omnibuslaw02.CrcSums', WHERE WHAT IT READS IS OF BULK AT MOST 1048576: true; the input reads as it did. -/
def crcSumsUptoRow : OpenClaim := { program := "ytmdmlhhhaidebaa", sum := "cef6434dc2595dbd07281e1bb3024a91f8fee0a8170619d6cb8d2f0424e67950", func := "omnibus/omnibuslaw02.CrcSums", spec := "crcSums", unfollowed := true, recurses := true, apart := false, narrowed := true }
def CrcSumsUptoSaid : Prop := crcSumsUptoRow.holds Try.pinned (OpenSpec.upto crcSumsSpec)

/-- 'omnibuslaw02.CrcAdds', WHERE WHAT IT READS IS OF BULK AT MOST 1048576: true; the input reads as it did. -/
def crcAddsUptoRow : OpenClaim := { program := "ytmdmlhhhaidebaa", sum := "cef6434dc2595dbd07281e1bb3024a91f8fee0a8170619d6cb8d2f0424e67950", func := "omnibus/omnibuslaw02.CrcAdds", spec := "crcAdds", unfollowed := true, recurses := true, apart := false, narrowed := true }
def CrcAddsUptoSaid : Prop := crcAddsUptoRow.holds Try.pinned (OpenSpec.upto crcAddsSpec)

/-- 'omnibuslaw02.CrcGoes', WHERE WHAT IT READS IS OF BULK AT MOST 1048576: true; the input reads as it did. -/
def crcGoesUptoRow : OpenClaim := { program := "ytmdmlhhhaidebaa", sum := "cef6434dc2595dbd07281e1bb3024a91f8fee0a8170619d6cb8d2f0424e67950", func := "omnibus/omnibuslaw02.CrcGoes", spec := "crcGoes", unfollowed := true, recurses := true, apart := false, narrowed := true }
def CrcGoesUptoSaid : Prop := crcGoesUptoRow.holds Try.pinned (OpenSpec.upto crcGoesSpec)

/-- 'omnibuslaw02.CrcTurns', WHERE WHAT IT READS IS OF BULK AT MOST 1048576: true; the input reads as it did. -/
def crcTurnsUptoRow : OpenClaim := { program := "ytmdmlhhhaidebaa", sum := "cef6434dc2595dbd07281e1bb3024a91f8fee0a8170619d6cb8d2f0424e67950", func := "omnibus/omnibuslaw02.CrcTurns", spec := "crcTurns", unfollowed := true, recurses := true, apart := false, narrowed := true }
def CrcTurnsUptoSaid : Prop := crcTurnsUptoRow.holds Try.pinned (OpenSpec.upto crcTurnsSpec)

/-- 'omnibuslaw02.CrcBursts', WHERE WHAT IT READS IS OF BULK AT MOST 1048576: true; the input reads as it did. -/
def crcBurstsUptoRow : OpenClaim := { program := "ytmdmlhhhaidebaa", sum := "cef6434dc2595dbd07281e1bb3024a91f8fee0a8170619d6cb8d2f0424e67950", func := "omnibus/omnibuslaw02.CrcBursts", spec := "crcBursts", unfollowed := true, recurses := true, apart := false, narrowed := true }
def CrcBurstsUptoSaid : Prop := crcBurstsUptoRow.holds Try.pinned (OpenSpec.upto crcBurstsSpec)

/-- 'omnibuslaw02.CrcBelongs', WHERE WHAT IT READS IS OF BULK AT MOST 1048576: true; the input reads as it did. -/
def crcBelongsUptoRow : OpenClaim := { program := "ytmdmlhhhaidebaa", sum := "cef6434dc2595dbd07281e1bb3024a91f8fee0a8170619d6cb8d2f0424e67950", func := "omnibus/omnibuslaw02.CrcBelongs", spec := "crcBelongs", unfollowed := true, recurses := true, apart := false, narrowed := true }
def CrcBelongsUptoSaid : Prop := crcBelongsUptoRow.holds Try.pinned (OpenSpec.upto crcBelongsSpec)

end Rows
end Go.Proofs.Ytmdmlhhhaidebaa
