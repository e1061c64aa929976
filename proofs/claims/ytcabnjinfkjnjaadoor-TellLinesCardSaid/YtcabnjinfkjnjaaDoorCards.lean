/-
  DERIVED. GIVEN WITH THE SEED: THE CARDS: each row of YtcabnjinfkjnjaaDoorRows.lean that lists a variable, with what it lists TIED to the program's text (the seventh form; the later family's looks); each row that meets fmt, with fmt's text TOLD by the authors' own Lean function (tested against real Go, not proved from fmt's source: count such statements apart). THE CARD IS WHAT COUNTS. Prove the row's statement (the work); the ties are given (YtcabnjinfkjnjaaDoorTie.lean); close each card by the builder's one call (the guide's Derived/Test/ToyasCard.lean, 'card_holds'). Laid BY PROGRAM, IN A SANDBOX (cutbox-door.mjs). By AI agents, Wed Nov 11 2026. No macro, syntax, notation, axiom, sorry.
-/
import Derived.Test.YtcabnjinfkjnjaaDoorRows
import GoSem.ClaimSeven
namespace Go.Proofs.YtcabnjinfkjnjaaDoor
namespace Rows

/-- THE TIED CARD OF 'eyewitnesslaw26.TellTells'. -/
def tellTellsCard : Claim7 := { stood := { row := tellTellsRow, standIns := [], harness := (true, "345d38fb34f38785ae2398bb29c0cfb00259548807a63942b380d3d7d6b59ed6"), looks := false }, kinds := [], alts := [], laidByText := true, laidKinds := [.data, .data, .data], laidTests := true, laidLooks := .later }
def TellTellsCardSaid : Prop := Claim7.holds Tryd.pinned (.plain (OpenSpec.ofChange tellTellsSpec)) tellTellsCard

/-- THE TIED CARD OF 'eyewitnesslaw26.TellUnlike'. -/
def tellUnlikeCard : Claim7 := { stood := { row := tellUnlikeRow, standIns := [], harness := (true, "345d38fb34f38785ae2398bb29c0cfb00259548807a63942b380d3d7d6b59ed6"), looks := false }, kinds := [], alts := [], laidByText := true, laidKinds := [.data, .data, .data], laidTests := true, laidLooks := .later }
def TellUnlikeCardSaid : Prop := Claim7.holds Tryd.pinned (.plain (OpenSpec.ofChange tellUnlikeSpec)) tellUnlikeCard

/-- THE TIED CARD OF 'eyewitnesslaw26.TellLines'. -/
def tellLinesCard : Claim7 := { stood := { row := tellLinesRow, standIns := [], harness := (true, "345d38fb34f38785ae2398bb29c0cfb00259548807a63942b380d3d7d6b59ed6"), looks := false }, kinds := [], alts := [], laidByText := true, laidKinds := [.data, .data, .data], laidTests := true, laidLooks := .later }
def TellLinesCardSaid : Prop := Claim7.holds Tryd.pinned (.plain (OpenSpec.ofChange tellLinesSpec)) tellLinesCard

/-- THE TIED CARD OF 'eyewitnesslaw06.HistBack'. -/
def histBackCard : Claim7 := { stood := { row := histBackRow, standIns := [], harness := (true, "345d38fb34f38785ae2398bb29c0cfb00259548807a63942b380d3d7d6b59ed6"), looks := false }, kinds := [], alts := [], laidByText := true, laidKinds := [.data, .pinned], laidTests := true, laidLooks := .later }
def HistBackCardSaid : Prop := Claim7.holds Tryd.pinned (.plain (OpenSpec.ofChange histBackSpec)) histBackCard

/-- THE TIED CARD OF 'eyewitnesslaw06.HistTells'. -/
def histTellsCard : Claim7 := { stood := { row := histTellsRow, standIns := [], harness := (true, "345d38fb34f38785ae2398bb29c0cfb00259548807a63942b380d3d7d6b59ed6"), looks := false }, kinds := [], alts := [], laidByText := true, laidKinds := [.data, .pinned], laidTests := true, laidLooks := .later }
def HistTellsCardSaid : Prop := Claim7.holds Tryd.pinned (.plain (OpenSpec.ofChange histTellsSpec)) histTellsCard

/-- THE TIED CARD OF 'eyewitnesslaw06.HistJoins'. -/
def histJoinsCard : Claim7 := { stood := { row := histJoinsRow, standIns := [], harness := (true, "345d38fb34f38785ae2398bb29c0cfb00259548807a63942b380d3d7d6b59ed6"), looks := false }, kinds := [], alts := [], laidByText := true, laidKinds := [.data, .pinned], laidTests := true, laidLooks := .later }
def HistJoinsCardSaid : Prop := Claim7.holds Tryd.pinned (.plain (OpenSpec.ofChange histJoinsSpec)) histJoinsCard

/-- THE TIED CARD OF 'eyewitnesslaw07.ReadTells'. -/
def readTellsCard : Claim7 := { stood := { row := readTellsRow, standIns := [], harness := (true, "345d38fb34f38785ae2398bb29c0cfb00259548807a63942b380d3d7d6b59ed6"), looks := false }, kinds := [], alts := [], laidByText := true, laidKinds := [.data, .pinned], laidTests := true, laidLooks := .later }
def ReadTellsCardSaid : Prop := Claim7.holds Tryd.pinned (.plain (OpenSpec.ofChange readTellsSpec)) readTellsCard

/-- THE TIED CARD OF 'eyewitnesslaw07.ReadRight'. -/
def readRightCard : Claim7 := { stood := { row := readRightRow, standIns := [], harness := (true, "345d38fb34f38785ae2398bb29c0cfb00259548807a63942b380d3d7d6b59ed6"), looks := false }, kinds := [], alts := [], laidByText := true, laidKinds := [.data, .pinned], laidTests := true, laidLooks := .later }
def ReadRightCardSaid : Prop := Claim7.holds Tryd.pinned (.plain (OpenSpec.ofChange readRightSpec)) readRightCard

/-- THE TIED CARD OF 'eyewitnesslaw07.ReadJoins'. -/
def readJoinsCard : Claim7 := { stood := { row := readJoinsRow, standIns := [], harness := (true, "345d38fb34f38785ae2398bb29c0cfb00259548807a63942b380d3d7d6b59ed6"), looks := false }, kinds := [], alts := [], laidByText := true, laidKinds := [.data, .pinned], laidTests := true, laidLooks := .later }
def ReadJoinsCardSaid : Prop := Claim7.holds Tryd.pinned (.plain (OpenSpec.ofChange readJoinsSpec)) readJoinsCard

/-- THE TIED CARD OF 'eyewitnesslaw07.ReadMany'. -/
def readManyCard : Claim7 := { stood := { row := readManyRow, standIns := [], harness := (true, "345d38fb34f38785ae2398bb29c0cfb00259548807a63942b380d3d7d6b59ed6"), looks := false }, kinds := [], alts := [], laidByText := true, laidKinds := [.data, .pinned], laidTests := true, laidLooks := .later }
def ReadManyCardSaid : Prop := Claim7.holds Tryd.pinned (.plain (OpenSpec.ofChange readManySpec)) readManyCard

/-- THE TIED CARD OF 'eyewitnesslaw05.NumTells'. -/
def numTellsCard : Claim7 := { stood := { row := numTellsRow, standIns := [], harness := (true, "345d38fb34f38785ae2398bb29c0cfb00259548807a63942b380d3d7d6b59ed6"), looks := false }, kinds := [], alts := [], laidByText := true, laidKinds := [.data, .data, .data, .data, .pinned], laidTests := true, laidLooks := .later }
def NumTellsCardSaid : Prop := Claim7.holds Tryd.pinned (.plain (OpenSpec.ofChange numTellsSpec)) numTellsCard

/-- THE TIED CARD OF 'eyewitnesslaw05.NumBack'. -/
def numBackCard : Claim7 := { stood := { row := numBackRow, standIns := [], harness := (true, "345d38fb34f38785ae2398bb29c0cfb00259548807a63942b380d3d7d6b59ed6"), looks := false }, kinds := [], alts := [], laidByText := true, laidKinds := [.data, .data, .data, .data, .pinned], laidTests := true, laidLooks := .later }
def NumBackCardSaid : Prop := Claim7.holds Tryd.pinned (.plain (OpenSpec.ofChange numBackSpec)) numBackCard

/-- THE TIED CARD OF 'eyewitnesslaw05.NumSpans'. -/
def numSpansCard : Claim7 := { stood := { row := numSpansRow, standIns := [], harness := (true, "345d38fb34f38785ae2398bb29c0cfb00259548807a63942b380d3d7d6b59ed6"), looks := false }, kinds := [], alts := [], laidByText := true, laidKinds := [.data, .data, .data, .data, .pinned], laidTests := true, laidLooks := .later }
def NumSpansCardSaid : Prop := Claim7.holds Tryd.pinned (.plain (OpenSpec.ofChange numSpansSpec)) numSpansCard

/-- THE TIED CARD OF 'eyewitnesslaw08.ShowTells'. -/
def showTellsCard : Claim7 := { stood := { row := showTellsRow, standIns := [], harness := (true, "345d38fb34f38785ae2398bb29c0cfb00259548807a63942b380d3d7d6b59ed6"), looks := false }, kinds := [], alts := [], laidByText := true, laidKinds := [.data, .data, .data, .data, .pinned], laidTests := true, laidLooks := .later }
def ShowTellsCardSaid : Prop := Claim7.holds Tryd.pinned (.plain (OpenSpec.ofChange showTellsSpec)) showTellsCard

/-- THE TIED CARD OF 'eyewitnesslaw08.ShowBack'. -/
def showBackCard : Claim7 := { stood := { row := showBackRow, standIns := [], harness := (true, "345d38fb34f38785ae2398bb29c0cfb00259548807a63942b380d3d7d6b59ed6"), looks := false }, kinds := [], alts := [], laidByText := true, laidKinds := [.data, .data, .data, .data, .pinned], laidTests := true, laidLooks := .later }
def ShowBackCardSaid : Prop := Claim7.holds Tryd.pinned (.plain (OpenSpec.ofChange showBackSpec)) showBackCard

/-- THE TIED CARD OF 'eyewitnesslaw08.ShowJoins'. -/
def showJoinsCard : Claim7 := { stood := { row := showJoinsRow, standIns := [], harness := (true, "345d38fb34f38785ae2398bb29c0cfb00259548807a63942b380d3d7d6b59ed6"), looks := false }, kinds := [], alts := [], laidByText := true, laidKinds := [.data, .data, .data, .data, .pinned], laidTests := true, laidLooks := .later }
def ShowJoinsCardSaid : Prop := Claim7.holds Tryd.pinned (.plain (OpenSpec.ofChange showJoinsSpec)) showJoinsCard

/-- THE SECOND FORM's CARD OF 'eyewitnesslaw26.TellTells'. -/
def tellTellsUptoCard : Claim7 := { stood := { row := tellTellsUptoRow, standIns := [], harness := (true, "345d38fb34f38785ae2398bb29c0cfb00259548807a63942b380d3d7d6b59ed6"), looks := false }, kinds := [], alts := [], laidByText := true, laidKinds := [.data, .data, .data], laidTests := true, laidLooks := .later }
def TellTellsUptoCardSaid : Prop := Claim7.holds Tryd.pinned (.plain (OpenSpec.upto tellTellsSpec)) tellTellsUptoCard

/-- THE SECOND FORM's CARD OF 'eyewitnesslaw26.TellUnlike'. -/
def tellUnlikeUptoCard : Claim7 := { stood := { row := tellUnlikeUptoRow, standIns := [], harness := (true, "345d38fb34f38785ae2398bb29c0cfb00259548807a63942b380d3d7d6b59ed6"), looks := false }, kinds := [], alts := [], laidByText := true, laidKinds := [.data, .data, .data], laidTests := true, laidLooks := .later }
def TellUnlikeUptoCardSaid : Prop := Claim7.holds Tryd.pinned (.plain (OpenSpec.upto tellUnlikeSpec)) tellUnlikeUptoCard

/-- THE SECOND FORM's CARD OF 'eyewitnesslaw26.TellLines'. -/
def tellLinesUptoCard : Claim7 := { stood := { row := tellLinesUptoRow, standIns := [], harness := (true, "345d38fb34f38785ae2398bb29c0cfb00259548807a63942b380d3d7d6b59ed6"), looks := false }, kinds := [], alts := [], laidByText := true, laidKinds := [.data, .data, .data], laidTests := true, laidLooks := .later }
def TellLinesUptoCardSaid : Prop := Claim7.holds Tryd.pinned (.plain (OpenSpec.upto tellLinesSpec)) tellLinesUptoCard

/-- THE SECOND FORM's CARD OF 'eyewitnesslaw06.HistBack'. -/
def histBackUptoCard : Claim7 := { stood := { row := histBackUptoRow, standIns := [], harness := (true, "345d38fb34f38785ae2398bb29c0cfb00259548807a63942b380d3d7d6b59ed6"), looks := false }, kinds := [], alts := [], laidByText := true, laidKinds := [.data, .pinned], laidTests := true, laidLooks := .later }
def HistBackUptoCardSaid : Prop := Claim7.holds Tryd.pinned (.plain (OpenSpec.upto histBackSpec)) histBackUptoCard

/-- THE SECOND FORM's CARD OF 'eyewitnesslaw06.HistTells'. -/
def histTellsUptoCard : Claim7 := { stood := { row := histTellsUptoRow, standIns := [], harness := (true, "345d38fb34f38785ae2398bb29c0cfb00259548807a63942b380d3d7d6b59ed6"), looks := false }, kinds := [], alts := [], laidByText := true, laidKinds := [.data, .pinned], laidTests := true, laidLooks := .later }
def HistTellsUptoCardSaid : Prop := Claim7.holds Tryd.pinned (.plain (OpenSpec.upto histTellsSpec)) histTellsUptoCard

/-- THE SECOND FORM's CARD OF 'eyewitnesslaw06.HistJoins'. -/
def histJoinsUptoCard : Claim7 := { stood := { row := histJoinsUptoRow, standIns := [], harness := (true, "345d38fb34f38785ae2398bb29c0cfb00259548807a63942b380d3d7d6b59ed6"), looks := false }, kinds := [], alts := [], laidByText := true, laidKinds := [.data, .pinned], laidTests := true, laidLooks := .later }
def HistJoinsUptoCardSaid : Prop := Claim7.holds Tryd.pinned (.plain (OpenSpec.upto histJoinsSpec)) histJoinsUptoCard

/-- THE SECOND FORM's CARD OF 'eyewitnesslaw07.ReadTells'. -/
def readTellsUptoCard : Claim7 := { stood := { row := readTellsUptoRow, standIns := [], harness := (true, "345d38fb34f38785ae2398bb29c0cfb00259548807a63942b380d3d7d6b59ed6"), looks := false }, kinds := [], alts := [], laidByText := true, laidKinds := [.data, .pinned], laidTests := true, laidLooks := .later }
def ReadTellsUptoCardSaid : Prop := Claim7.holds Tryd.pinned (.plain (OpenSpec.upto readTellsSpec)) readTellsUptoCard

/-- THE SECOND FORM's CARD OF 'eyewitnesslaw07.ReadRight'. -/
def readRightUptoCard : Claim7 := { stood := { row := readRightUptoRow, standIns := [], harness := (true, "345d38fb34f38785ae2398bb29c0cfb00259548807a63942b380d3d7d6b59ed6"), looks := false }, kinds := [], alts := [], laidByText := true, laidKinds := [.data, .pinned], laidTests := true, laidLooks := .later }
def ReadRightUptoCardSaid : Prop := Claim7.holds Tryd.pinned (.plain (OpenSpec.upto readRightSpec)) readRightUptoCard

/-- THE SECOND FORM's CARD OF 'eyewitnesslaw07.ReadJoins'. -/
def readJoinsUptoCard : Claim7 := { stood := { row := readJoinsUptoRow, standIns := [], harness := (true, "345d38fb34f38785ae2398bb29c0cfb00259548807a63942b380d3d7d6b59ed6"), looks := false }, kinds := [], alts := [], laidByText := true, laidKinds := [.data, .pinned], laidTests := true, laidLooks := .later }
def ReadJoinsUptoCardSaid : Prop := Claim7.holds Tryd.pinned (.plain (OpenSpec.upto readJoinsSpec)) readJoinsUptoCard

/-- THE SECOND FORM's CARD OF 'eyewitnesslaw07.ReadMany'. -/
def readManyUptoCard : Claim7 := { stood := { row := readManyUptoRow, standIns := [], harness := (true, "345d38fb34f38785ae2398bb29c0cfb00259548807a63942b380d3d7d6b59ed6"), looks := false }, kinds := [], alts := [], laidByText := true, laidKinds := [.data, .pinned], laidTests := true, laidLooks := .later }
def ReadManyUptoCardSaid : Prop := Claim7.holds Tryd.pinned (.plain (OpenSpec.upto readManySpec)) readManyUptoCard

/-- THE SECOND FORM's CARD OF 'eyewitnesslaw05.NumTells'. -/
def numTellsUptoCard : Claim7 := { stood := { row := numTellsUptoRow, standIns := [], harness := (true, "345d38fb34f38785ae2398bb29c0cfb00259548807a63942b380d3d7d6b59ed6"), looks := false }, kinds := [], alts := [], laidByText := true, laidKinds := [.data, .data, .data, .data, .pinned], laidTests := true, laidLooks := .later }
def NumTellsUptoCardSaid : Prop := Claim7.holds Tryd.pinned (.plain (OpenSpec.upto numTellsSpec)) numTellsUptoCard

/-- THE SECOND FORM's CARD OF 'eyewitnesslaw05.NumBack'. -/
def numBackUptoCard : Claim7 := { stood := { row := numBackUptoRow, standIns := [], harness := (true, "345d38fb34f38785ae2398bb29c0cfb00259548807a63942b380d3d7d6b59ed6"), looks := false }, kinds := [], alts := [], laidByText := true, laidKinds := [.data, .data, .data, .data, .pinned], laidTests := true, laidLooks := .later }
def NumBackUptoCardSaid : Prop := Claim7.holds Tryd.pinned (.plain (OpenSpec.upto numBackSpec)) numBackUptoCard

/-- THE SECOND FORM's CARD OF 'eyewitnesslaw05.NumSpans'. -/
def numSpansUptoCard : Claim7 := { stood := { row := numSpansUptoRow, standIns := [], harness := (true, "345d38fb34f38785ae2398bb29c0cfb00259548807a63942b380d3d7d6b59ed6"), looks := false }, kinds := [], alts := [], laidByText := true, laidKinds := [.data, .data, .data, .data, .pinned], laidTests := true, laidLooks := .later }
def NumSpansUptoCardSaid : Prop := Claim7.holds Tryd.pinned (.plain (OpenSpec.upto numSpansSpec)) numSpansUptoCard

/-- THE SECOND FORM's CARD OF 'eyewitnesslaw08.ShowTells'. -/
def showTellsUptoCard : Claim7 := { stood := { row := showTellsUptoRow, standIns := [], harness := (true, "345d38fb34f38785ae2398bb29c0cfb00259548807a63942b380d3d7d6b59ed6"), looks := false }, kinds := [], alts := [], laidByText := true, laidKinds := [.data, .data, .data, .data, .pinned], laidTests := true, laidLooks := .later }
def ShowTellsUptoCardSaid : Prop := Claim7.holds Tryd.pinned (.plain (OpenSpec.upto showTellsSpec)) showTellsUptoCard

/-- THE SECOND FORM's CARD OF 'eyewitnesslaw08.ShowBack'. -/
def showBackUptoCard : Claim7 := { stood := { row := showBackUptoRow, standIns := [], harness := (true, "345d38fb34f38785ae2398bb29c0cfb00259548807a63942b380d3d7d6b59ed6"), looks := false }, kinds := [], alts := [], laidByText := true, laidKinds := [.data, .data, .data, .data, .pinned], laidTests := true, laidLooks := .later }
def ShowBackUptoCardSaid : Prop := Claim7.holds Tryd.pinned (.plain (OpenSpec.upto showBackSpec)) showBackUptoCard

/-- THE SECOND FORM's CARD OF 'eyewitnesslaw08.ShowJoins'. -/
def showJoinsUptoCard : Claim7 := { stood := { row := showJoinsUptoRow, standIns := [], harness := (true, "345d38fb34f38785ae2398bb29c0cfb00259548807a63942b380d3d7d6b59ed6"), looks := false }, kinds := [], alts := [], laidByText := true, laidKinds := [.data, .data, .data, .data, .pinned], laidTests := true, laidLooks := .later }
def ShowJoinsUptoCardSaid : Prop := Claim7.holds Tryd.pinned (.plain (OpenSpec.upto showJoinsSpec)) showJoinsUptoCard
end Rows
end Go.Proofs.YtcabnjinfkjnjaaDoor
