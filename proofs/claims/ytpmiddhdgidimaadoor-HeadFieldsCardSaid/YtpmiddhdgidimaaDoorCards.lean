/-
  DERIVED. GIVEN WITH THE SEED: THE CARDS: each row of YtpmiddhdgidimaaDoorRows.lean that lists a variable, with what it lists TIED to the program's text (the seventh form; the later family's looks); each row that meets fmt, with fmt's text TOLD by the authors' own Lean function (tested against real Go, not proved from fmt's source: count such statements apart). THE CARD IS WHAT COUNTS. Prove the row's statement (the work); the ties are given (YtpmiddhdgidimaaDoorTie.lean); close each card by the builder's one call (the guide's Derived/Test/ToyasCard.lean, 'card_holds'). Laid BY PROGRAM, IN A SANDBOX (cutbox-door.mjs). By AI agents, Wed Nov 11 2026. No macro, syntax, notation, axiom, sorry.
-/
import Derived.Test.YtpmiddhdgidimaaDoorRows
import GoSem.ClaimSeven
namespace Go.Proofs.YtpmiddhdgidimaaDoor
namespace Rows

/-- THE TIED CARD OF 'gripsacklaw7.HeadBack'. -/
def headBackCard : Claim7 := { stood := { row := headBackRow, standIns := [], harness := (true, "9e7dbdd957c0ab9812c75446086e84c404d0ca75a176d41b722a8cdbdd7f89a9"), looks := true }, kinds := [], alts := [], laidByText := true, laidKinds := [.data, .data, .data, .data, .pinned], laidTests := true, laidLooks := .later }
def HeadBackCardSaid : Prop := Claim7.holds Tryd.pinned (.plain (OpenSpec.ofChange headBackSpec)) headBackCard

/-- THE TIED CARD OF 'gripsacklaw7.HeadRefuses'. -/
def headRefusesCard : Claim7 := { stood := { row := headRefusesRow, standIns := [], harness := (true, "9e7dbdd957c0ab9812c75446086e84c404d0ca75a176d41b722a8cdbdd7f89a9"), looks := true }, kinds := [], alts := [], laidByText := true, laidKinds := [.data, .data, .data, .data, .pinned], laidTests := true, laidLooks := .later }
def HeadRefusesCardSaid : Prop := Claim7.holds Tryd.pinned (.plain (OpenSpec.ofChange headRefusesSpec)) headRefusesCard

/-- THE TIED CARD OF 'gripsacklaw7.HeadFields'. -/
def headFieldsCard : Claim7 := { stood := { row := headFieldsRow, standIns := [], harness := (true, "9e7dbdd957c0ab9812c75446086e84c404d0ca75a176d41b722a8cdbdd7f89a9"), looks := true }, kinds := [], alts := [], laidByText := true, laidKinds := [.data, .data, .data, .data, .pinned], laidTests := true, laidLooks := .later }
def HeadFieldsCardSaid : Prop := Claim7.holds Tryd.pinned (.plain (OpenSpec.ofChange headFieldsSpec)) headFieldsCard

/-- THE TIED CARD OF 'gripsacklaw7.HeadSum'. -/
def headSumCard : Claim7 := { stood := { row := headSumRow, standIns := [], harness := (true, "9e7dbdd957c0ab9812c75446086e84c404d0ca75a176d41b722a8cdbdd7f89a9"), looks := true }, kinds := [], alts := [], laidByText := true, laidKinds := [.data, .data, .data, .data, .pinned], laidTests := true, laidLooks := .later }
def HeadSumCardSaid : Prop := Claim7.holds Tryd.pinned (.plain (OpenSpec.ofChange headSumSpec)) headSumCard

/-- THE TIED CARD OF 'gripsacklaw7.HeadSplits'. -/
def headSplitsCard : Claim7 := { stood := { row := headSplitsRow, standIns := [], harness := (true, "9e7dbdd957c0ab9812c75446086e84c404d0ca75a176d41b722a8cdbdd7f89a9"), looks := true }, kinds := [], alts := [], laidByText := true, laidKinds := [.data, .data, .data, .data, .pinned], laidTests := true, laidLooks := .later }
def HeadSplitsCardSaid : Prop := Claim7.holds Tryd.pinned (.plain (OpenSpec.ofChange headSplitsSpec)) headSplitsCard

/-- THE SECOND FORM's CARD OF 'gripsacklaw7.HeadBack'. -/
def headBackUptoCard : Claim7 := { stood := { row := headBackUptoRow, standIns := [], harness := (true, "9e7dbdd957c0ab9812c75446086e84c404d0ca75a176d41b722a8cdbdd7f89a9"), looks := true }, kinds := [], alts := [], laidByText := true, laidKinds := [.data, .data, .data, .data, .pinned], laidTests := true, laidLooks := .later }
def HeadBackUptoCardSaid : Prop := Claim7.holds Tryd.pinned (.plain (OpenSpec.upto headBackSpec)) headBackUptoCard

/-- THE SECOND FORM's CARD OF 'gripsacklaw7.HeadRefuses'. -/
def headRefusesUptoCard : Claim7 := { stood := { row := headRefusesUptoRow, standIns := [], harness := (true, "9e7dbdd957c0ab9812c75446086e84c404d0ca75a176d41b722a8cdbdd7f89a9"), looks := true }, kinds := [], alts := [], laidByText := true, laidKinds := [.data, .data, .data, .data, .pinned], laidTests := true, laidLooks := .later }
def HeadRefusesUptoCardSaid : Prop := Claim7.holds Tryd.pinned (.plain (OpenSpec.upto headRefusesSpec)) headRefusesUptoCard

/-- THE SECOND FORM's CARD OF 'gripsacklaw7.HeadFields'. -/
def headFieldsUptoCard : Claim7 := { stood := { row := headFieldsUptoRow, standIns := [], harness := (true, "9e7dbdd957c0ab9812c75446086e84c404d0ca75a176d41b722a8cdbdd7f89a9"), looks := true }, kinds := [], alts := [], laidByText := true, laidKinds := [.data, .data, .data, .data, .pinned], laidTests := true, laidLooks := .later }
def HeadFieldsUptoCardSaid : Prop := Claim7.holds Tryd.pinned (.plain (OpenSpec.upto headFieldsSpec)) headFieldsUptoCard

/-- THE SECOND FORM's CARD OF 'gripsacklaw7.HeadSum'. -/
def headSumUptoCard : Claim7 := { stood := { row := headSumUptoRow, standIns := [], harness := (true, "9e7dbdd957c0ab9812c75446086e84c404d0ca75a176d41b722a8cdbdd7f89a9"), looks := true }, kinds := [], alts := [], laidByText := true, laidKinds := [.data, .data, .data, .data, .pinned], laidTests := true, laidLooks := .later }
def HeadSumUptoCardSaid : Prop := Claim7.holds Tryd.pinned (.plain (OpenSpec.upto headSumSpec)) headSumUptoCard

/-- THE SECOND FORM's CARD OF 'gripsacklaw7.HeadSplits'. -/
def headSplitsUptoCard : Claim7 := { stood := { row := headSplitsUptoRow, standIns := [], harness := (true, "9e7dbdd957c0ab9812c75446086e84c404d0ca75a176d41b722a8cdbdd7f89a9"), looks := true }, kinds := [], alts := [], laidByText := true, laidKinds := [.data, .data, .data, .data, .pinned], laidTests := true, laidLooks := .later }
def HeadSplitsUptoCardSaid : Prop := Claim7.holds Tryd.pinned (.plain (OpenSpec.upto headSplitsSpec)) headSplitsUptoCard
end Rows
end Go.Proofs.YtpmiddhdgidimaaDoor
