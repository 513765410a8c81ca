/-
  DERIVED. GIVEN WITH THE SEED: THE CARDS: each row of YtlgdfoniijmlbaaDoorRows.lean that lists a variable, with what it lists TIED to the program's text (the seventh form; the later family's looks); each row that meets fmt, with fmt's text TOLD by the authors' own Lean function (tested against real Go, not proved from fmt's source: count such statements apart). THE CARD IS WHAT COUNTS. Prove the row's statement (the work); the ties are given (YtlgdfoniijmlbaaDoorTie.lean); close each card by the builder's one call (the guide's Derived/Test/ToyasCard.lean, 'card_holds'). Laid BY PROGRAM, IN A SANDBOX (cutbox-door.mjs). By AI agents, Wed Nov 11 2026. No macro, syntax, notation, axiom, sorry.
-/
import Derived.Test.YtlgdfoniijmlbaaDoorRows
import GoSem.ClaimSeven
namespace Go.Proofs.YtlgdfoniijmlbaaDoor
namespace Rows

/-- THE TIED CARD OF 'omnibuslaw20.PackFills'. -/
def packFillsCard : Claim7 := { stood := { row := packFillsRow, standIns := [], harness := (true, "13d9df52ebd9facd5734aa46b7a2f907d82216c710aa0970dee521797ecb5f24"), looks := false }, kinds := [], alts := [], laidByText := true, laidKinds := [.data, .pinned], laidTests := true, laidLooks := .later }
def PackFillsCardSaid : Prop := Claim7.holds Tryd.pinned (.plain (OpenSpec.ofChange packFillsSpec)) packFillsCard

/-- THE TIED CARD OF 'omnibuslaw20.PackOwn'. -/
def packOwnCard : Claim7 := { stood := { row := packOwnRow, standIns := [], harness := (true, "13d9df52ebd9facd5734aa46b7a2f907d82216c710aa0970dee521797ecb5f24"), looks := false }, kinds := [], alts := [], laidByText := true, laidKinds := [.data, .pinned], laidTests := true, laidLooks := .later }
def PackOwnCardSaid : Prop := Claim7.holds Tryd.pinned (.plain (OpenSpec.ofChange packOwnSpec)) packOwnCard

/-- THE TIED CARD OF 'omnibuslaw20.PackFlushes'. -/
def packFlushesCard : Claim7 := { stood := { row := packFlushesRow, standIns := [], harness := (true, "13d9df52ebd9facd5734aa46b7a2f907d82216c710aa0970dee521797ecb5f24"), looks := false }, kinds := [], alts := [], laidByText := true, laidKinds := [.data, .pinned], laidTests := true, laidLooks := .later }
def PackFlushesCardSaid : Prop := Claim7.holds Tryd.pinned (.plain (OpenSpec.ofChange packFlushesSpec)) packFlushesCard

/-- THE TIED CARD OF 'omnibuslaw20.PackComes'. -/
def packComesCard : Claim7 := { stood := { row := packComesRow, standIns := [], harness := (true, "13d9df52ebd9facd5734aa46b7a2f907d82216c710aa0970dee521797ecb5f24"), looks := false }, kinds := [], alts := [], laidByText := true, laidKinds := [.data, .pinned], laidTests := true, laidLooks := .later }
def PackComesCardSaid : Prop := Claim7.holds Tryd.pinned (.plain (OpenSpec.ofChange packComesSpec)) packComesCard

/-- THE SECOND FORM's CARD OF 'omnibuslaw20.PackFills'. -/
def packFillsUptoCard : Claim7 := { stood := { row := packFillsUptoRow, standIns := [], harness := (true, "13d9df52ebd9facd5734aa46b7a2f907d82216c710aa0970dee521797ecb5f24"), looks := false }, kinds := [], alts := [], laidByText := true, laidKinds := [.data, .pinned], laidTests := true, laidLooks := .later }
def PackFillsUptoCardSaid : Prop := Claim7.holds Tryd.pinned (.plain (OpenSpec.upto packFillsSpec)) packFillsUptoCard

/-- THE SECOND FORM's CARD OF 'omnibuslaw20.PackOwn'. -/
def packOwnUptoCard : Claim7 := { stood := { row := packOwnUptoRow, standIns := [], harness := (true, "13d9df52ebd9facd5734aa46b7a2f907d82216c710aa0970dee521797ecb5f24"), looks := false }, kinds := [], alts := [], laidByText := true, laidKinds := [.data, .pinned], laidTests := true, laidLooks := .later }
def PackOwnUptoCardSaid : Prop := Claim7.holds Tryd.pinned (.plain (OpenSpec.upto packOwnSpec)) packOwnUptoCard

/-- THE SECOND FORM's CARD OF 'omnibuslaw20.PackFlushes'. -/
def packFlushesUptoCard : Claim7 := { stood := { row := packFlushesUptoRow, standIns := [], harness := (true, "13d9df52ebd9facd5734aa46b7a2f907d82216c710aa0970dee521797ecb5f24"), looks := false }, kinds := [], alts := [], laidByText := true, laidKinds := [.data, .pinned], laidTests := true, laidLooks := .later }
def PackFlushesUptoCardSaid : Prop := Claim7.holds Tryd.pinned (.plain (OpenSpec.upto packFlushesSpec)) packFlushesUptoCard

/-- THE SECOND FORM's CARD OF 'omnibuslaw20.PackComes'. -/
def packComesUptoCard : Claim7 := { stood := { row := packComesUptoRow, standIns := [], harness := (true, "13d9df52ebd9facd5734aa46b7a2f907d82216c710aa0970dee521797ecb5f24"), looks := false }, kinds := [], alts := [], laidByText := true, laidKinds := [.data, .pinned], laidTests := true, laidLooks := .later }
def PackComesUptoCardSaid : Prop := Claim7.holds Tryd.pinned (.plain (OpenSpec.upto packComesSpec)) packComesUptoCard
end Rows
end Go.Proofs.YtlgdfoniijmlbaaDoor
