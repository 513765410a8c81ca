/-
  No cell of these rows narrows 'for every input' (looked for: loops, veiled, ifaces, maps, wideKeys, modest, calm, conditions, laid).
  DERIVED. THE GIVEN ROWS OF THIS SEAT. 5 by the template 'for every input the law returns true; each argument reads behind the call as it read before'; 0 by the template 'total and deterministic' (their statements: YtecgicpimgghaaaTotals.lean).
  GIVEN WITH THE SEED: the statements are not yours to turn. If you find one false, say at which input.
  Laid BY PROGRAM, IN A SANDBOX (cutbox-rows.mjs): the forced cells as the released guide's own fill.sh prints them over the translation 3e5be83a12c14d56… (all of the seat's roots in one cut). By AI agents, Wed Nov 11 2026. No macro, syntax, notation, axiom, sorry.
-/
import Derived.Test.YtecgicpimgghaaaChecked
import GoSem.Claim
import GoSem.ClaimJoined
import GoSem.ClaimMapViews
import Derived.JoinedTies
import Derived.KernelRfl
namespace Go.Proofs.Ytecgicpimgghaaa
/- THE CELL 'sum', in the pinned program and in every row, IS THE sha256 OF THE DUMP (.gsa) THAT YtecgicpimgghaaaProg.lean LOADS. Nothing in Lean hashes anything: it is a label: what it is worth is what the hold of that sum in a sandbox is worth. -/
noncomputable def Try.pinned : Pinned := { name := "ytecgicpimgghaaa", sum := "3e5be83a12c14d56cc7e9d8d91bf87610881b42fed26bfe03ca59fed1ffdbdea", checked := Try.checked }
namespace Rows
def none {H : Type} : Left H := { results := [], args := [] }

/-- 'omnibuslaw18.TunnelOld': WHATEVER THE INPUT: true; the input reads as it did. -/
def tunnelOldSpec : ChangeSpec := { name := "tunnelOld", fn := fun _ => fun
  | [d1, d2] => { results := [.lit (.bool true)], args := [d1, d2] }
  | _ => none }
def tunnelOldRow : OpenClaim := { program := "ytecgicpimgghaaa", sum := "3e5be83a12c14d56cc7e9d8d91bf87610881b42fed26bfe03ca59fed1ffdbdea", func := "omnibus/omnibuslaw18.TunnelOld", spec := "tunnelOld", unfollowed := true, recurses := true, apart := false }
def TunnelOldSaid : Prop := tunnelOldRow.holds Try.pinned (OpenSpec.ofChange tunnelOldSpec)

/-- ITS FALSE NEIGHBOUR: 'it returns false'. Refute it at one input. -/
def tunnelOldWrong : ChangeSpec := { name := "tunnelOld", fn := fun _ => fun
  | [d1, d2] => { results := [.lit (.bool false)], args := [d1, d2] }
  | _ => none }
def TunnelOldWrongFalsely : Prop := tunnelOldRow.holds Try.pinned (OpenSpec.ofChange tunnelOldWrong)

/-- 'omnibuslaw18.TunnelEth': WHATEVER THE INPUT: true; the input reads as it did. -/
def tunnelEthSpec : ChangeSpec := { name := "tunnelEth", fn := fun _ => fun
  | [d1, d2] => { results := [.lit (.bool true)], args := [d1, d2] }
  | _ => none }
def tunnelEthRow : OpenClaim := { program := "ytecgicpimgghaaa", sum := "3e5be83a12c14d56cc7e9d8d91bf87610881b42fed26bfe03ca59fed1ffdbdea", func := "omnibus/omnibuslaw18.TunnelEth", spec := "tunnelEth", unfollowed := true, recurses := true, apart := false }
def TunnelEthSaid : Prop := tunnelEthRow.holds Try.pinned (OpenSpec.ofChange tunnelEthSpec)

/-- ITS FALSE NEIGHBOUR: 'it returns false'. Refute it at one input. -/
def tunnelEthWrong : ChangeSpec := { name := "tunnelEth", fn := fun _ => fun
  | [d1, d2] => { results := [.lit (.bool false)], args := [d1, d2] }
  | _ => none }
def TunnelEthWrongFalsely : Prop := tunnelEthRow.holds Try.pinned (OpenSpec.ofChange tunnelEthWrong)

/-- 'omnibuslaw18.TunnelOpens': WHATEVER THE INPUT: true; the input reads as it did. -/
def tunnelOpensSpec : ChangeSpec := { name := "tunnelOpens", fn := fun _ => fun
  | [d] => { results := [.lit (.bool true)], args := [d] }
  | _ => none }
def tunnelOpensRow : OpenClaim := { program := "ytecgicpimgghaaa", sum := "3e5be83a12c14d56cc7e9d8d91bf87610881b42fed26bfe03ca59fed1ffdbdea", func := "omnibus/omnibuslaw18.TunnelOpens", spec := "tunnelOpens", unfollowed := true, recurses := true, apart := false }
def TunnelOpensSaid : Prop := tunnelOpensRow.holds Try.pinned (OpenSpec.ofChange tunnelOpensSpec)

/-- ITS FALSE NEIGHBOUR: 'it returns false'. Refute it at one input. -/
def tunnelOpensWrong : ChangeSpec := { name := "tunnelOpens", fn := fun _ => fun
  | [d] => { results := [.lit (.bool false)], args := [d] }
  | _ => none }
def TunnelOpensWrongFalsely : Prop := tunnelOpensRow.holds Try.pinned (OpenSpec.ofChange tunnelOpensWrong)

/-- 'omnibuslaw18.TunnelOwn': WHATEVER THE INPUT: true; the input reads as it did. -/
def tunnelOwnSpec : ChangeSpec := { name := "tunnelOwn", fn := fun _ => fun
  | [d] => { results := [.lit (.bool true)], args := [d] }
  | _ => none }
def tunnelOwnRow : OpenClaim := { program := "ytecgicpimgghaaa", sum := "3e5be83a12c14d56cc7e9d8d91bf87610881b42fed26bfe03ca59fed1ffdbdea", func := "omnibus/omnibuslaw18.TunnelOwn", spec := "tunnelOwn", unfollowed := true, recurses := true, apart := false }
def TunnelOwnSaid : Prop := tunnelOwnRow.holds Try.pinned (OpenSpec.ofChange tunnelOwnSpec)

/-- ITS FALSE NEIGHBOUR: 'it returns false'. Refute it at one input. -/
def tunnelOwnWrong : ChangeSpec := { name := "tunnelOwn", fn := fun _ => fun
  | [d] => { results := [.lit (.bool false)], args := [d] }
  | _ => none }
def TunnelOwnWrongFalsely : Prop := tunnelOwnRow.holds Try.pinned (OpenSpec.ofChange tunnelOwnWrong)

/-- 'omnibuslaw18.TunnelBack': WHATEVER THE INPUT: true; the input reads as it did. -/
def tunnelBackSpec : ChangeSpec := { name := "tunnelBack", fn := fun _ => fun
  | [d1, d2, d3] => { results := [.lit (.bool true)], args := [d1, d2, d3] }
  | _ => none }
def tunnelBackRow : OpenClaim := { program := "ytecgicpimgghaaa", sum := "3e5be83a12c14d56cc7e9d8d91bf87610881b42fed26bfe03ca59fed1ffdbdea", func := "omnibus/omnibuslaw18.TunnelBack", spec := "tunnelBack", unfollowed := true, recurses := true, apart := false }
def TunnelBackSaid : Prop := tunnelBackRow.holds Try.pinned (OpenSpec.ofChange tunnelBackSpec)

/-- ITS FALSE NEIGHBOUR: 'it returns false'. Refute it at one input. -/
def tunnelBackWrong : ChangeSpec := { name := "tunnelBack", fn := fun _ => fun
  | [d1, d2, d3] => { results := [.lit (.bool false)], args := [d1, d2, d3] }
  | _ => none }
def TunnelBackWrongFalsely : Prop := tunnelBackRow.holds Try.pinned (OpenSpec.ofChange tunnelBackWrong)

/- THE SECOND FORM. 'bulk': how many values and letters a reading holds, each counted each time it is reached (what is shared counts as often as it is met; a slice's spare places count too). A statement '..UptoSaid' is the law's where the arguments, and the package variables that the reading takes, are together of bulk at most 1048576: NARROWER than '..Said'. Prove '..Said' where nothing that the law and all that it calls make is longer than what came in: it says more and counts as full. Else prove '..UptoSaid'. A law counts once. -/
mutual
def uptoBulk {H : Type} : DataW H → Nat
  | .lit (.string bytes) => bytes.length + 1
  | .lit _ => 1
  | .nil => 1
  | .ptr d => uptoBulk d + 1
  | .slice elems spare => uptoBulkAll elems + uptoBulkAll spare + 1
  | .agg parts => uptoBulkAll parts + 1
  | .iface _ d => uptoBulk d + 1
  | .map entries => uptoBulkEntries entries + 1
  | .held _ => 1
def uptoBulkAll {H : Type} : List (DataW H) → Nat
  | [] => 0
  | d :: r => uptoBulk d + uptoBulkAll r
def uptoBulkEntries {H : Type} : List (Lit × DataW H) → Nat
  | [] => 0
  | x :: r => uptoBulkEntry x + uptoBulkEntries r
def uptoBulkEntry {H : Type} : Lit × DataW H → Nat
  | (.string bytes, d) => bytes.length + uptoBulk d + 1
  | (_, d) => uptoBulk d + 1
 end
def uptoSmall : (H : Type) → List (DataW H) → Bool := fun _ ds => decide (uptoBulkAll ds ≤ 1048576)
def OpenSpec.upto (s : _root_.Go.ChangeSpec) : _root_.Go.OpenSpec := { _root_.Go.OpenSpec.ofChange s with cond := some uptoSmall }

/-- 'omnibuslaw18.TunnelOld', WHERE WHAT IT READS IS OF BULK AT MOST 1048576: true; the input reads as it did. -/
def tunnelOldUptoRow : OpenClaim := { program := "ytecgicpimgghaaa", sum := "3e5be83a12c14d56cc7e9d8d91bf87610881b42fed26bfe03ca59fed1ffdbdea", func := "omnibus/omnibuslaw18.TunnelOld", spec := "tunnelOld", unfollowed := true, recurses := true, apart := false, narrowed := true }
def TunnelOldUptoSaid : Prop := tunnelOldUptoRow.holds Try.pinned (OpenSpec.upto tunnelOldSpec)

/-- 'omnibuslaw18.TunnelEth', WHERE WHAT IT READS IS OF BULK AT MOST 1048576: true; the input reads as it did. -/
def tunnelEthUptoRow : OpenClaim := { program := "ytecgicpimgghaaa", sum := "3e5be83a12c14d56cc7e9d8d91bf87610881b42fed26bfe03ca59fed1ffdbdea", func := "omnibus/omnibuslaw18.TunnelEth", spec := "tunnelEth", unfollowed := true, recurses := true, apart := false, narrowed := true }
def TunnelEthUptoSaid : Prop := tunnelEthUptoRow.holds Try.pinned (OpenSpec.upto tunnelEthSpec)

/-- 'omnibuslaw18.TunnelOpens', WHERE WHAT IT READS IS OF BULK AT MOST 1048576: true; the input reads as it did. -/
def tunnelOpensUptoRow : OpenClaim := { program := "ytecgicpimgghaaa", sum := "3e5be83a12c14d56cc7e9d8d91bf87610881b42fed26bfe03ca59fed1ffdbdea", func := "omnibus/omnibuslaw18.TunnelOpens", spec := "tunnelOpens", unfollowed := true, recurses := true, apart := false, narrowed := true }
def TunnelOpensUptoSaid : Prop := tunnelOpensUptoRow.holds Try.pinned (OpenSpec.upto tunnelOpensSpec)

/-- 'omnibuslaw18.TunnelOwn', WHERE WHAT IT READS IS OF BULK AT MOST 1048576: true; the input reads as it did. -/
def tunnelOwnUptoRow : OpenClaim := { program := "ytecgicpimgghaaa", sum := "3e5be83a12c14d56cc7e9d8d91bf87610881b42fed26bfe03ca59fed1ffdbdea", func := "omnibus/omnibuslaw18.TunnelOwn", spec := "tunnelOwn", unfollowed := true, recurses := true, apart := false, narrowed := true }
def TunnelOwnUptoSaid : Prop := tunnelOwnUptoRow.holds Try.pinned (OpenSpec.upto tunnelOwnSpec)

/-- 'omnibuslaw18.TunnelBack', WHERE WHAT IT READS IS OF BULK AT MOST 1048576: true; the input reads as it did. -/
def tunnelBackUptoRow : OpenClaim := { program := "ytecgicpimgghaaa", sum := "3e5be83a12c14d56cc7e9d8d91bf87610881b42fed26bfe03ca59fed1ffdbdea", func := "omnibus/omnibuslaw18.TunnelBack", spec := "tunnelBack", unfollowed := true, recurses := true, apart := false, narrowed := true }
def TunnelBackUptoSaid : Prop := tunnelBackUptoRow.holds Try.pinned (OpenSpec.upto tunnelBackSpec)

end Rows
end Go.Proofs.Ytecgicpimgghaaa
