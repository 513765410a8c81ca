/-
  DERIVED. GIVEN WITH THE SEED: THE CARDS: each row of YthigfghfpmpiiaaDoorRows.lean that lists a variable, with what it lists TIED to the program's text (the seventh form; the later family's looks); each row that meets fmt, with fmt's text TOLD by the authors' own Lean function (tested against real Go, not proved from fmt's source: count such statements apart). THE CARD IS WHAT COUNTS. Prove the row's statement (the work); the ties are given (YthigfghfpmpiiaaDoorTie.lean); close each card by the builder's one call (the guide's Derived/Test/ToyasCard.lean, 'card_holds'). Laid BY PROGRAM, IN A SANDBOX (cutbox-door.mjs). By AI agents, Wed Nov 11 2026. No macro, syntax, notation, axiom, sorry.
-/
import Derived.Test.YthigfghfpmpiiaaDoorRows
import GoSem.ClaimSeven
namespace Go.Proofs.YthigfghfpmpiiaaDoor
namespace Rows

/-- THE TIED CARD OF 'omnibuslaw19.PduBack'. -/
def pduBackCard : Claim7 := { stood := { row := pduBackRow, standIns := [], harness := (true, "0782b3cb086d57356583c8c547c59f36c0f64ab351da5af4d6f223dcf4c93166"), looks := false }, kinds := [], alts := [], laidByText := true, laidKinds := [.data, .pinned], laidTests := true, laidLooks := .later }
def PduBackCardSaid : Prop := Claim7.holds Tryd.pinned (.plain (OpenSpec.ofChange pduBackSpec)) pduBackCard

/-- THE TIED CARD OF 'omnibuslaw19.PduBehind'. -/
def pduBehindCard : Claim7 := { stood := { row := pduBehindRow, standIns := [], harness := (true, "0782b3cb086d57356583c8c547c59f36c0f64ab351da5af4d6f223dcf4c93166"), looks := false }, kinds := [], alts := [], laidByText := true, laidKinds := [.data, .pinned], laidTests := true, laidLooks := .later }
def PduBehindCardSaid : Prop := Claim7.holds Tryd.pinned (.plain (OpenSpec.ofChange pduBehindSpec)) pduBehindCard

/-- THE TIED CARD OF 'omnibuslaw19.PduNoughts'. -/
def pduNoughtsCard : Claim7 := { stood := { row := pduNoughtsRow, standIns := [], harness := (true, "0782b3cb086d57356583c8c547c59f36c0f64ab351da5af4d6f223dcf4c93166"), looks := false }, kinds := [], alts := [], laidByText := true, laidKinds := [.data, .pinned], laidTests := true, laidLooks := .later }
def PduNoughtsCardSaid : Prop := Claim7.holds Tryd.pinned (.plain (OpenSpec.ofChange pduNoughtsSpec)) pduNoughtsCard

/-- THE TIED CARD OF 'omnibuslaw19.PduSplits'. -/
def pduSplitsCard : Claim7 := { stood := { row := pduSplitsRow, standIns := [], harness := (true, "0782b3cb086d57356583c8c547c59f36c0f64ab351da5af4d6f223dcf4c93166"), looks := false }, kinds := [], alts := [], laidByText := true, laidKinds := [.data, .pinned], laidTests := true, laidLooks := .later }
def PduSplitsCardSaid : Prop := Claim7.holds Tryd.pinned (.plain (OpenSpec.ofChange pduSplitsSpec)) pduSplitsCard

/-- THE TIED CARD OF 'omnibuslaw19.PduFinds'. -/
def pduFindsCard : Claim7 := { stood := { row := pduFindsRow, standIns := [], harness := (true, "0782b3cb086d57356583c8c547c59f36c0f64ab351da5af4d6f223dcf4c93166"), looks := false }, kinds := [], alts := [], laidByText := true, laidKinds := [.data, .pinned], laidTests := true, laidLooks := .later }
def PduFindsCardSaid : Prop := Claim7.holds Tryd.pinned (.plain (OpenSpec.ofChange pduFindsSpec)) pduFindsCard

/-- THE SECOND FORM's CARD OF 'omnibuslaw19.PduBack'. -/
def pduBackUptoCard : Claim7 := { stood := { row := pduBackUptoRow, standIns := [], harness := (true, "0782b3cb086d57356583c8c547c59f36c0f64ab351da5af4d6f223dcf4c93166"), looks := false }, kinds := [], alts := [], laidByText := true, laidKinds := [.data, .pinned], laidTests := true, laidLooks := .later }
def PduBackUptoCardSaid : Prop := Claim7.holds Tryd.pinned (.plain (OpenSpec.upto pduBackSpec)) pduBackUptoCard

/-- THE SECOND FORM's CARD OF 'omnibuslaw19.PduBehind'. -/
def pduBehindUptoCard : Claim7 := { stood := { row := pduBehindUptoRow, standIns := [], harness := (true, "0782b3cb086d57356583c8c547c59f36c0f64ab351da5af4d6f223dcf4c93166"), looks := false }, kinds := [], alts := [], laidByText := true, laidKinds := [.data, .pinned], laidTests := true, laidLooks := .later }
def PduBehindUptoCardSaid : Prop := Claim7.holds Tryd.pinned (.plain (OpenSpec.upto pduBehindSpec)) pduBehindUptoCard

/-- THE SECOND FORM's CARD OF 'omnibuslaw19.PduNoughts'. -/
def pduNoughtsUptoCard : Claim7 := { stood := { row := pduNoughtsUptoRow, standIns := [], harness := (true, "0782b3cb086d57356583c8c547c59f36c0f64ab351da5af4d6f223dcf4c93166"), looks := false }, kinds := [], alts := [], laidByText := true, laidKinds := [.data, .pinned], laidTests := true, laidLooks := .later }
def PduNoughtsUptoCardSaid : Prop := Claim7.holds Tryd.pinned (.plain (OpenSpec.upto pduNoughtsSpec)) pduNoughtsUptoCard

/-- THE SECOND FORM's CARD OF 'omnibuslaw19.PduSplits'. -/
def pduSplitsUptoCard : Claim7 := { stood := { row := pduSplitsUptoRow, standIns := [], harness := (true, "0782b3cb086d57356583c8c547c59f36c0f64ab351da5af4d6f223dcf4c93166"), looks := false }, kinds := [], alts := [], laidByText := true, laidKinds := [.data, .pinned], laidTests := true, laidLooks := .later }
def PduSplitsUptoCardSaid : Prop := Claim7.holds Tryd.pinned (.plain (OpenSpec.upto pduSplitsSpec)) pduSplitsUptoCard

/-- THE SECOND FORM's CARD OF 'omnibuslaw19.PduFinds'. -/
def pduFindsUptoCard : Claim7 := { stood := { row := pduFindsUptoRow, standIns := [], harness := (true, "0782b3cb086d57356583c8c547c59f36c0f64ab351da5af4d6f223dcf4c93166"), looks := false }, kinds := [], alts := [], laidByText := true, laidKinds := [.data, .pinned], laidTests := true, laidLooks := .later }
def PduFindsUptoCardSaid : Prop := Claim7.holds Tryd.pinned (.plain (OpenSpec.upto pduFindsSpec)) pduFindsUptoCard
end Rows
end Go.Proofs.YthigfghfpmpiiaaDoor
