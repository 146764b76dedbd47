/-
  DERIVED. GIVEN WITH THE SEED: THE CARDS: each row of YtpcmilhjpmlbpaaGreatDoorRows.lean that lists a variable, with what it lists TIED to the program's text (the seventh form; the later family's looks); each row that meets fmt, with fmt's text TOLD by the authors' own Lean function (tested against real Go, not proved from fmt's source: count such statements apart). THE CARD IS WHAT COUNTS. Prove the row's statement (the work); the ties are given (YtpcmilhjpmlbpaaGreatDoorTie.lean); close each card by the builder's one call (the guide's Derived/Test/ToyasCard.lean, 'card_holds'). Laid BY PROGRAM, IN A SANDBOX (cutbox-door.mjs). By AI agents, Wed Nov 11 2026. No macro, syntax, notation, axiom, sorry.
-/
import Derived.Test.YtpcmilhjpmlbpaaGreatDoorRows
import GoSem.ClaimSeven
namespace Go.Proofs.YtpcmilhjpmlbpaaGreatDoor
namespace Rows

/-- THE TIED CARD OF 'gazetteerlaw7.TransferAnswers'. -/
def transferAnswersCard : Claim7 := { stood := { row := transferAnswersRow, standIns := [], harness := (true, "80ea4ab65e010ee4af7ee9a8dfcdd664558080de0edbcfaebe791ffbb69e6e5f"), looks := true }, kinds := [], alts := [], laidByText := true, laidKinds := [.handle], laidTests := true, laidLooks := .later }
def TransferAnswersCardSaid : Prop := Claim7.holds Tryz.pinned (.plain (OpenSpec.ofChange transferAnswersSpec)) transferAnswersCard

/-- THE TIED CARD OF 'gazetteerlaw7.TransferTakes'. -/
def transferTakesCard : Claim7 := { stood := { row := transferTakesRow, standIns := [], harness := (true, "80ea4ab65e010ee4af7ee9a8dfcdd664558080de0edbcfaebe791ffbb69e6e5f"), looks := true }, kinds := [], alts := [], laidByText := true, laidKinds := [.handle], laidTests := true, laidLooks := .later }
def TransferTakesCardSaid : Prop := Claim7.holds Tryz.pinned (.plain (OpenSpec.ofChange transferTakesSpec)) transferTakesCard

/-- THE TIED CARD OF 'gazetteerlaw7.TransferCopies'. -/
def transferCopiesCard : Claim7 := { stood := { row := transferCopiesRow, standIns := [], harness := (true, "80ea4ab65e010ee4af7ee9a8dfcdd664558080de0edbcfaebe791ffbb69e6e5f"), looks := true }, kinds := [], alts := [], laidByText := true, laidKinds := [.handle], laidTests := true, laidLooks := .later }
def TransferCopiesCardSaid : Prop := Claim7.holds Tryz.pinned (.plain (OpenSpec.ofChange transferCopiesSpec)) transferCopiesCard

/-- THE SECOND FORM's CARD OF 'gazetteerlaw7.TransferAnswers'. -/
def transferAnswersUptoCard : Claim7 := { stood := { row := transferAnswersUptoRow, standIns := [], harness := (true, "80ea4ab65e010ee4af7ee9a8dfcdd664558080de0edbcfaebe791ffbb69e6e5f"), looks := true }, kinds := [], alts := [], laidByText := true, laidKinds := [.handle], laidTests := true, laidLooks := .later }
def TransferAnswersUptoCardSaid : Prop := Claim7.holds Tryz.pinned (.plain (OpenSpec.upto transferAnswersSpec)) transferAnswersUptoCard

/-- THE SECOND FORM's CARD OF 'gazetteerlaw7.TransferTakes'. -/
def transferTakesUptoCard : Claim7 := { stood := { row := transferTakesUptoRow, standIns := [], harness := (true, "80ea4ab65e010ee4af7ee9a8dfcdd664558080de0edbcfaebe791ffbb69e6e5f"), looks := true }, kinds := [], alts := [], laidByText := true, laidKinds := [.handle], laidTests := true, laidLooks := .later }
def TransferTakesUptoCardSaid : Prop := Claim7.holds Tryz.pinned (.plain (OpenSpec.upto transferTakesSpec)) transferTakesUptoCard

/-- THE SECOND FORM's CARD OF 'gazetteerlaw7.TransferCopies'. -/
def transferCopiesUptoCard : Claim7 := { stood := { row := transferCopiesUptoRow, standIns := [], harness := (true, "80ea4ab65e010ee4af7ee9a8dfcdd664558080de0edbcfaebe791ffbb69e6e5f"), looks := true }, kinds := [], alts := [], laidByText := true, laidKinds := [.handle], laidTests := true, laidLooks := .later }
def TransferCopiesUptoCardSaid : Prop := Claim7.holds Tryz.pinned (.plain (OpenSpec.upto transferCopiesSpec)) transferCopiesUptoCard
end Rows
end Go.Proofs.YtpcmilhjpmlbpaaGreatDoor
