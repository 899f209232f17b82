/-
  DERIVED. GIVEN WITH THE SEED: THE CARDS: each row of YtofcgjialejdjaaDoorRows.lean that lists a variable, with what it lists TIED to the program's text (the seventh form; the later family's looks); each row that meets fmt, with fmt's text TOLD by the authors' own Lean function (tested against real Go, not proved from fmt's source: count such statements apart). THE CARD IS WHAT COUNTS. Prove the row's statement (the work); the ties are given (YtofcgjialejdjaaDoorTie.lean); close each card by the builder's one call (the guide's Derived/Test/ToyasCard.lean, 'card_holds'). Laid BY PROGRAM, IN A SANDBOX (cutbox-door.mjs). By AI agents, Wed Nov 11 2026. No macro, syntax, notation, axiom, sorry.
-/
import Derived.Test.YtofcgjialejdjaaDoorRows
import GoSem.ClaimSeven
namespace Go.Proofs.YtofcgjialejdjaaDoor
namespace Rows

/-- THE TIED CARD OF 'gripsacklaw8.PadAll'. -/
def padAllCard : Claim7 := { stood := { row := padAllRow, standIns := [], harness := (true, "e2a45cf6990e0cdfccef09abe9c899013d2673e1064b9f8eb86e93b3d862e0d5"), looks := true }, kinds := [], alts := [], laidByText := true, laidKinds := [.data, .pinned], laidTests := true, laidLooks := .later }
def PadAllCardSaid : Prop := Claim7.holds Tryd.pinned (.plain (OpenSpec.ofChange padAllSpec)) padAllCard

/-- THE TIED CARD OF 'gripsacklaw8.PadBack'. -/
def padBackCard : Claim7 := { stood := { row := padBackRow, standIns := [], harness := (true, "e2a45cf6990e0cdfccef09abe9c899013d2673e1064b9f8eb86e93b3d862e0d5"), looks := true }, kinds := [], alts := [], laidByText := true, laidKinds := [.data, .pinned], laidTests := true, laidLooks := .later }
def PadBackCardSaid : Prop := Claim7.holds Tryd.pinned (.plain (OpenSpec.ofChange padBackSpec)) padBackCard

/-- THE TIED CARD OF 'gripsacklaw8.PadSizes'. -/
def padSizesCard : Claim7 := { stood := { row := padSizesRow, standIns := [], harness := (true, "e2a45cf6990e0cdfccef09abe9c899013d2673e1064b9f8eb86e93b3d862e0d5"), looks := true }, kinds := [], alts := [], laidByText := true, laidKinds := [.data, .pinned], laidTests := true, laidLooks := .later }
def PadSizesCardSaid : Prop := Claim7.holds Tryd.pinned (.plain (OpenSpec.ofChange padSizesSpec)) padSizesCard

/-- THE TIED CARD OF 'gripsacklaw8.PadRows'. -/
def padRowsCard : Claim7 := { stood := { row := padRowsRow, standIns := [], harness := (true, "e2a45cf6990e0cdfccef09abe9c899013d2673e1064b9f8eb86e93b3d862e0d5"), looks := true }, kinds := [], alts := [], laidByText := true, laidKinds := [.data, .pinned], laidTests := true, laidLooks := .later }
def PadRowsCardSaid : Prop := Claim7.holds Tryd.pinned (.plain (OpenSpec.ofChange padRowsSpec)) padRowsCard

/-- THE SECOND FORM's CARD OF 'gripsacklaw8.PadAll'. -/
def padAllUptoCard : Claim7 := { stood := { row := padAllUptoRow, standIns := [], harness := (true, "e2a45cf6990e0cdfccef09abe9c899013d2673e1064b9f8eb86e93b3d862e0d5"), looks := true }, kinds := [], alts := [], laidByText := true, laidKinds := [.data, .pinned], laidTests := true, laidLooks := .later }
def PadAllUptoCardSaid : Prop := Claim7.holds Tryd.pinned (.plain (OpenSpec.upto padAllSpec)) padAllUptoCard

/-- THE SECOND FORM's CARD OF 'gripsacklaw8.PadBack'. -/
def padBackUptoCard : Claim7 := { stood := { row := padBackUptoRow, standIns := [], harness := (true, "e2a45cf6990e0cdfccef09abe9c899013d2673e1064b9f8eb86e93b3d862e0d5"), looks := true }, kinds := [], alts := [], laidByText := true, laidKinds := [.data, .pinned], laidTests := true, laidLooks := .later }
def PadBackUptoCardSaid : Prop := Claim7.holds Tryd.pinned (.plain (OpenSpec.upto padBackSpec)) padBackUptoCard

/-- THE SECOND FORM's CARD OF 'gripsacklaw8.PadSizes'. -/
def padSizesUptoCard : Claim7 := { stood := { row := padSizesUptoRow, standIns := [], harness := (true, "e2a45cf6990e0cdfccef09abe9c899013d2673e1064b9f8eb86e93b3d862e0d5"), looks := true }, kinds := [], alts := [], laidByText := true, laidKinds := [.data, .pinned], laidTests := true, laidLooks := .later }
def PadSizesUptoCardSaid : Prop := Claim7.holds Tryd.pinned (.plain (OpenSpec.upto padSizesSpec)) padSizesUptoCard

/-- THE SECOND FORM's CARD OF 'gripsacklaw8.PadRows'. -/
def padRowsUptoCard : Claim7 := { stood := { row := padRowsUptoRow, standIns := [], harness := (true, "e2a45cf6990e0cdfccef09abe9c899013d2673e1064b9f8eb86e93b3d862e0d5"), looks := true }, kinds := [], alts := [], laidByText := true, laidKinds := [.data, .pinned], laidTests := true, laidLooks := .later }
def PadRowsUptoCardSaid : Prop := Claim7.holds Tryd.pinned (.plain (OpenSpec.upto padRowsSpec)) padRowsUptoCard
end Rows
end Go.Proofs.YtofcgjialejdjaaDoor
