/-
  DERIVED. GIVEN WITH THE SEED: THE CARDS: each row of YtokihacnhefbfaaDoorRows.lean that lists a variable, with what it lists TIED to the program's text (the seventh form; the later family's looks); each row that meets fmt, with fmt's text TOLD by the authors' own Lean function (tested against real Go, not proved from fmt's source: count such statements apart). THE CARD IS WHAT COUNTS. Prove the row's statement (the work); the ties are given (YtokihacnhefbfaaDoorTie.lean); close each card by the builder's one call (the guide's Derived/Test/ToyasCard.lean, 'card_holds'). Laid BY PROGRAM, IN A SANDBOX (cutbox-door.mjs). By AI agents, Wed Nov 11 2026. No macro, syntax, notation, axiom, sorry.
-/
import Derived.Test.YtokihacnhefbfaaDoorRows
import GoSem.ClaimSeven
namespace Go.Proofs.YtokihacnhefbfaaDoor
namespace Rows

/-- THE TIED CARD OF 'omnibuslaw01.BitsTexts'. -/
def bitsTextsCard : Claim7 := { stood := { row := bitsTextsRow, standIns := [], harness := (true, "ebc1591c1d34e8ac083e23430f6f88d56aaa0a9416042c3742b9fbbf591e6de2"), looks := false }, kinds := [], alts := [], laidByText := true, laidKinds := [.data, .pinned], laidTests := true, laidLooks := .later }
def BitsTextsCardSaid : Prop := Claim7.holds Tryd.pinned (.plain (OpenSpec.ofChange bitsTextsSpec)) bitsTextsCard

/-- THE TIED CARD OF 'omnibuslaw01.BitsReads'. -/
def bitsReadsCard : Claim7 := { stood := { row := bitsReadsRow, standIns := [], harness := (true, "ebc1591c1d34e8ac083e23430f6f88d56aaa0a9416042c3742b9fbbf591e6de2"), looks := false }, kinds := [], alts := [], laidByText := true, laidKinds := [.data, .pinned], laidTests := true, laidLooks := .later }
def BitsReadsCardSaid : Prop := Claim7.holds Tryd.pinned (.plain (OpenSpec.ofChange bitsReadsSpec)) bitsReadsCard

/-- THE SECOND FORM's CARD OF 'omnibuslaw01.BitsTexts'. -/
def bitsTextsUptoCard : Claim7 := { stood := { row := bitsTextsUptoRow, standIns := [], harness := (true, "ebc1591c1d34e8ac083e23430f6f88d56aaa0a9416042c3742b9fbbf591e6de2"), looks := false }, kinds := [], alts := [], laidByText := true, laidKinds := [.data, .pinned], laidTests := true, laidLooks := .later }
def BitsTextsUptoCardSaid : Prop := Claim7.holds Tryd.pinned (.plain (OpenSpec.upto bitsTextsSpec)) bitsTextsUptoCard

/-- THE SECOND FORM's CARD OF 'omnibuslaw01.BitsReads'. -/
def bitsReadsUptoCard : Claim7 := { stood := { row := bitsReadsUptoRow, standIns := [], harness := (true, "ebc1591c1d34e8ac083e23430f6f88d56aaa0a9416042c3742b9fbbf591e6de2"), looks := false }, kinds := [], alts := [], laidByText := true, laidKinds := [.data, .pinned], laidTests := true, laidLooks := .later }
def BitsReadsUptoCardSaid : Prop := Claim7.holds Tryd.pinned (.plain (OpenSpec.upto bitsReadsSpec)) bitsReadsUptoCard
end Rows
end Go.Proofs.YtokihacnhefbfaaDoor
