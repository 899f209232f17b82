/-
  DERIVED. GIVEN WITH THE SEED: THE CARDS: each row of YtejgnnhmeolphaaDoorRows.lean that lists a variable, with what it lists TIED to the program's text (the seventh form; the later family's looks); each row that meets fmt, with fmt's text TOLD by the authors' own Lean function (tested against real Go, not proved from fmt's source: count such statements apart). THE CARD IS WHAT COUNTS. Prove the row's statement (the work); the ties are given (YtejgnnhmeolphaaDoorTie.lean); close each card by the builder's one call (the guide's Derived/Test/ToyasCard.lean, 'card_holds'). Laid BY PROGRAM, IN A SANDBOX (cutbox-door.mjs). By AI agents, Wed Nov 11 2026. No macro, syntax, notation, axiom, sorry.
-/
import Derived.Test.YtejgnnhmeolphaaDoorRows
import GoSem.ClaimSeven
namespace Go.Proofs.YtejgnnhmeolphaaDoor
namespace Rows

/-- THE TIED CARD OF 'gripsacklaw9.AclRefuses'. -/
def aclRefusesCard : Claim7 := { stood := { row := aclRefusesRow, standIns := [], harness := (true, "4b749b200a7506a2cb7f225ebdddfd4d02f92512fe55042515752d82b99122e6"), looks := true }, kinds := [], alts := [], laidByText := true, laidKinds := [.data, .data, .data, .data, .sentinel, .sentinel, .pinned], laidTests := true, laidLooks := .later }
def AclRefusesCardSaid : Prop := Claim7.holds Tryd.pinned (.plain (OpenSpec.ofChange aclRefusesSpec)) aclRefusesCard

/-- THE TIED CARD OF 'gripsacklaw9.AclKnown'. -/
def aclKnownCard : Claim7 := { stood := { row := aclKnownRow, standIns := [], harness := (true, "4b749b200a7506a2cb7f225ebdddfd4d02f92512fe55042515752d82b99122e6"), looks := true }, kinds := [], alts := [], laidByText := true, laidKinds := [.data, .data, .data, .data, .sentinel, .sentinel, .pinned], laidTests := true, laidLooks := .later }
def AclKnownCardSaid : Prop := Claim7.holds Tryd.pinned (.plain (OpenSpec.ofChange aclKnownSpec)) aclKnownCard

/-- THE TIED CARD OF 'gripsacklaw9.AclModes'. -/
def aclModesCard : Claim7 := { stood := { row := aclModesRow, standIns := [], harness := (true, "4b749b200a7506a2cb7f225ebdddfd4d02f92512fe55042515752d82b99122e6"), looks := true }, kinds := [], alts := [], laidByText := true, laidKinds := [.data, .data, .data, .data, .sentinel, .sentinel, .pinned], laidTests := true, laidLooks := .later }
def AclModesCardSaid : Prop := Claim7.holds Tryd.pinned (.plain (OpenSpec.ofChange aclModesSpec)) aclModesCard

/-- THE TIED CARD OF 'gripsacklaw9.AclAll'. -/
def aclAllCard : Claim7 := { stood := { row := aclAllRow, standIns := [], harness := (true, "4b749b200a7506a2cb7f225ebdddfd4d02f92512fe55042515752d82b99122e6"), looks := true }, kinds := [], alts := [], laidByText := true, laidKinds := [.data, .data, .data, .data, .sentinel, .sentinel, .pinned], laidTests := true, laidLooks := .later }
def AclAllCardSaid : Prop := Claim7.holds Tryd.pinned (.plain (OpenSpec.ofChange aclAllSpec)) aclAllCard

/-- THE TIED CARD OF 'gripsacklaw9.AclBack'. -/
def aclBackCard : Claim7 := { stood := { row := aclBackRow, standIns := [], harness := (true, "4b749b200a7506a2cb7f225ebdddfd4d02f92512fe55042515752d82b99122e6"), looks := true }, kinds := [], alts := [], laidByText := true, laidKinds := [.data, .data, .data, .data, .sentinel, .sentinel, .pinned], laidTests := true, laidLooks := .later }
def AclBackCardSaid : Prop := Claim7.holds Tryd.pinned (.plain (OpenSpec.ofChange aclBackSpec)) aclBackCard

/-- THE SECOND FORM's CARD OF 'gripsacklaw9.AclRefuses'. -/
def aclRefusesUptoCard : Claim7 := { stood := { row := aclRefusesUptoRow, standIns := [], harness := (true, "4b749b200a7506a2cb7f225ebdddfd4d02f92512fe55042515752d82b99122e6"), looks := true }, kinds := [], alts := [], laidByText := true, laidKinds := [.data, .data, .data, .data, .sentinel, .sentinel, .pinned], laidTests := true, laidLooks := .later }
def AclRefusesUptoCardSaid : Prop := Claim7.holds Tryd.pinned (.plain (OpenSpec.upto aclRefusesSpec)) aclRefusesUptoCard

/-- THE SECOND FORM's CARD OF 'gripsacklaw9.AclKnown'. -/
def aclKnownUptoCard : Claim7 := { stood := { row := aclKnownUptoRow, standIns := [], harness := (true, "4b749b200a7506a2cb7f225ebdddfd4d02f92512fe55042515752d82b99122e6"), looks := true }, kinds := [], alts := [], laidByText := true, laidKinds := [.data, .data, .data, .data, .sentinel, .sentinel, .pinned], laidTests := true, laidLooks := .later }
def AclKnownUptoCardSaid : Prop := Claim7.holds Tryd.pinned (.plain (OpenSpec.upto aclKnownSpec)) aclKnownUptoCard

/-- THE SECOND FORM's CARD OF 'gripsacklaw9.AclModes'. -/
def aclModesUptoCard : Claim7 := { stood := { row := aclModesUptoRow, standIns := [], harness := (true, "4b749b200a7506a2cb7f225ebdddfd4d02f92512fe55042515752d82b99122e6"), looks := true }, kinds := [], alts := [], laidByText := true, laidKinds := [.data, .data, .data, .data, .sentinel, .sentinel, .pinned], laidTests := true, laidLooks := .later }
def AclModesUptoCardSaid : Prop := Claim7.holds Tryd.pinned (.plain (OpenSpec.upto aclModesSpec)) aclModesUptoCard

/-- THE SECOND FORM's CARD OF 'gripsacklaw9.AclAll'. -/
def aclAllUptoCard : Claim7 := { stood := { row := aclAllUptoRow, standIns := [], harness := (true, "4b749b200a7506a2cb7f225ebdddfd4d02f92512fe55042515752d82b99122e6"), looks := true }, kinds := [], alts := [], laidByText := true, laidKinds := [.data, .data, .data, .data, .sentinel, .sentinel, .pinned], laidTests := true, laidLooks := .later }
def AclAllUptoCardSaid : Prop := Claim7.holds Tryd.pinned (.plain (OpenSpec.upto aclAllSpec)) aclAllUptoCard

/-- THE SECOND FORM's CARD OF 'gripsacklaw9.AclBack'. -/
def aclBackUptoCard : Claim7 := { stood := { row := aclBackUptoRow, standIns := [], harness := (true, "4b749b200a7506a2cb7f225ebdddfd4d02f92512fe55042515752d82b99122e6"), looks := true }, kinds := [], alts := [], laidByText := true, laidKinds := [.data, .data, .data, .data, .sentinel, .sentinel, .pinned], laidTests := true, laidLooks := .later }
def AclBackUptoCardSaid : Prop := Claim7.holds Tryd.pinned (.plain (OpenSpec.upto aclBackSpec)) aclBackUptoCard
end Rows
end Go.Proofs.YtejgnnhmeolphaaDoor
