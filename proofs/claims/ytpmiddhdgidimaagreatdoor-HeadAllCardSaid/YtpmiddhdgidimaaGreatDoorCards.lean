/-
  DERIVED. GIVEN WITH THE SEED: THE CARDS: each row of YtpmiddhdgidimaaGreatDoorRows.lean that lists a variable, with what it lists TIED to the program's text (the seventh form; the later family's looks); each row that meets fmt, with fmt's text TOLD by the authors' own Lean function (tested against real Go, not proved from fmt's source: count such statements apart). THE CARD IS WHAT COUNTS. Prove the row's statement (the work); the ties are given (YtpmiddhdgidimaaGreatDoorTie.lean); close each card by the builder's one call (the guide's Derived/Test/ToyasCard.lean, 'card_holds'). Laid BY PROGRAM, IN A SANDBOX (cutbox-door.mjs). By AI agents, Wed Nov 11 2026. No macro, syntax, notation, axiom, sorry.
-/
import Derived.Test.YtpmiddhdgidimaaGreatDoorRows
import GoSem.ClaimSeven
namespace Go.Proofs.YtpmiddhdgidimaaGreatDoor
namespace Rows

/-- THE TIED CARD OF 'gripsacklaw7.HeadAll'. -/
def headAllCard : Claim7 := { stood := { row := headAllRow, standIns := [], harness := (true, "66aaa8a4a31bbbc23e795ec6c57882ce849d9e57785d822625e6236e7cb4bbcf"), looks := true }, kinds := [], alts := [], laidByText := true, laidKinds := [.data, .data, .data, .data, .pinned], laidTests := true, laidLooks := .later }
def HeadAllCardSaid : Prop := Claim7.holds Tryz.pinned (.plain (OpenSpec.ofChange headAllSpec)) headAllCard

/-- THE SECOND FORM's CARD OF 'gripsacklaw7.HeadAll'. -/
def headAllUptoCard : Claim7 := { stood := { row := headAllUptoRow, standIns := [], harness := (true, "66aaa8a4a31bbbc23e795ec6c57882ce849d9e57785d822625e6236e7cb4bbcf"), looks := true }, kinds := [], alts := [], laidByText := true, laidKinds := [.data, .data, .data, .data, .pinned], laidTests := true, laidLooks := .later }
def HeadAllUptoCardSaid : Prop := Claim7.holds Tryz.pinned (.plain (OpenSpec.upto headAllSpec)) headAllUptoCard
end Rows
end Go.Proofs.YtpmiddhdgidimaaGreatDoor
