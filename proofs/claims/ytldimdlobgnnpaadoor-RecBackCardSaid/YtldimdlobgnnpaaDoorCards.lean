/-
  DERIVED. GIVEN WITH THE SEED: THE CARDS: each row of YtldimdlobgnnpaaDoorRows.lean that lists a variable, with what it lists TIED to the program's text (the seventh form; the later family's looks); each row that meets fmt, with fmt's text TOLD by the authors' own Lean function (tested against real Go, not proved from fmt's source: count such statements apart). THE CARD IS WHAT COUNTS. Prove the row's statement (the work); the ties are given (YtldimdlobgnnpaaDoorTie.lean); close each card by the builder's one call (the guide's Derived/Test/ToyasCard.lean, 'card_holds'). Laid BY PROGRAM, IN A SANDBOX (cutbox-door.mjs). By AI agents, Wed Nov 11 2026. No macro, syntax, notation, axiom, sorry.
-/
import Derived.Test.YtldimdlobgnnpaaDoorRows
import GoSem.ClaimSeven
namespace Go.Proofs.YtldimdlobgnnpaaDoor
namespace Rows

/-- THE TIED CARD OF 'gripsacklaw6.RecLengths'. -/
def recLengthsCard : Claim7 := { stood := { row := recLengthsRow, standIns := [], harness := (true, "ff79c8a174015f215112bb8ae31485bf93f53eebe23ce48e895c199c24e10900"), looks := true }, kinds := [], alts := [], laidByText := true, laidKinds := [.data, .data, .data, .data, .sentinel, .sentinel, .pinned], laidTests := true, laidLooks := .later }
def RecLengthsCardSaid : Prop := Claim7.holds Tryd.pinned (.plain (OpenSpec.ofChange recLengthsSpec)) recLengthsCard

/-- THE TIED CARD OF 'gripsacklaw6.RecLimits'. -/
def recLimitsCard : Claim7 := { stood := { row := recLimitsRow, standIns := [], harness := (true, "ff79c8a174015f215112bb8ae31485bf93f53eebe23ce48e895c199c24e10900"), looks := true }, kinds := [], alts := [], laidByText := true, laidKinds := [.data, .data, .data, .data, .sentinel, .sentinel, .pinned], laidTests := true, laidLooks := .later }
def RecLimitsCardSaid : Prop := Claim7.holds Tryd.pinned (.plain (OpenSpec.ofChange recLimitsSpec)) recLimitsCard

/-- THE TIED CARD OF 'gripsacklaw6.RecAll'. -/
def recAllCard : Claim7 := { stood := { row := recAllRow, standIns := [], harness := (true, "ff79c8a174015f215112bb8ae31485bf93f53eebe23ce48e895c199c24e10900"), looks := true }, kinds := [], alts := [], laidByText := true, laidKinds := [.data, .data, .data, .data, .sentinel, .sentinel, .pinned], laidTests := true, laidLooks := .later }
def RecAllCardSaid : Prop := Claim7.holds Tryd.pinned (.plain (OpenSpec.ofChange recAllSpec)) recAllCard

/-- THE TIED CARD OF 'gripsacklaw6.RecKnown'. -/
def recKnownCard : Claim7 := { stood := { row := recKnownRow, standIns := [], harness := (true, "ff79c8a174015f215112bb8ae31485bf93f53eebe23ce48e895c199c24e10900"), looks := true }, kinds := [], alts := [], laidByText := true, laidKinds := [.data, .data, .data, .data, .sentinel, .sentinel, .pinned], laidTests := true, laidLooks := .later }
def RecKnownCardSaid : Prop := Claim7.holds Tryd.pinned (.plain (OpenSpec.ofChange recKnownSpec)) recKnownCard

/-- THE TIED CARD OF 'gripsacklaw6.RecBack'. -/
def recBackCard : Claim7 := { stood := { row := recBackRow, standIns := [], harness := (true, "ff79c8a174015f215112bb8ae31485bf93f53eebe23ce48e895c199c24e10900"), looks := true }, kinds := [], alts := [], laidByText := true, laidKinds := [.data, .data, .data, .data, .sentinel, .sentinel, .pinned], laidTests := true, laidLooks := .later }
def RecBackCardSaid : Prop := Claim7.holds Tryd.pinned (.plain (OpenSpec.ofChange recBackSpec)) recBackCard

/-- THE SECOND FORM's CARD OF 'gripsacklaw6.RecLengths'. -/
def recLengthsUptoCard : Claim7 := { stood := { row := recLengthsUptoRow, standIns := [], harness := (true, "ff79c8a174015f215112bb8ae31485bf93f53eebe23ce48e895c199c24e10900"), looks := true }, kinds := [], alts := [], laidByText := true, laidKinds := [.data, .data, .data, .data, .sentinel, .sentinel, .pinned], laidTests := true, laidLooks := .later }
def RecLengthsUptoCardSaid : Prop := Claim7.holds Tryd.pinned (.plain (OpenSpec.upto recLengthsSpec)) recLengthsUptoCard

/-- THE SECOND FORM's CARD OF 'gripsacklaw6.RecLimits'. -/
def recLimitsUptoCard : Claim7 := { stood := { row := recLimitsUptoRow, standIns := [], harness := (true, "ff79c8a174015f215112bb8ae31485bf93f53eebe23ce48e895c199c24e10900"), looks := true }, kinds := [], alts := [], laidByText := true, laidKinds := [.data, .data, .data, .data, .sentinel, .sentinel, .pinned], laidTests := true, laidLooks := .later }
def RecLimitsUptoCardSaid : Prop := Claim7.holds Tryd.pinned (.plain (OpenSpec.upto recLimitsSpec)) recLimitsUptoCard

/-- THE SECOND FORM's CARD OF 'gripsacklaw6.RecAll'. -/
def recAllUptoCard : Claim7 := { stood := { row := recAllUptoRow, standIns := [], harness := (true, "ff79c8a174015f215112bb8ae31485bf93f53eebe23ce48e895c199c24e10900"), looks := true }, kinds := [], alts := [], laidByText := true, laidKinds := [.data, .data, .data, .data, .sentinel, .sentinel, .pinned], laidTests := true, laidLooks := .later }
def RecAllUptoCardSaid : Prop := Claim7.holds Tryd.pinned (.plain (OpenSpec.upto recAllSpec)) recAllUptoCard

/-- THE SECOND FORM's CARD OF 'gripsacklaw6.RecKnown'. -/
def recKnownUptoCard : Claim7 := { stood := { row := recKnownUptoRow, standIns := [], harness := (true, "ff79c8a174015f215112bb8ae31485bf93f53eebe23ce48e895c199c24e10900"), looks := true }, kinds := [], alts := [], laidByText := true, laidKinds := [.data, .data, .data, .data, .sentinel, .sentinel, .pinned], laidTests := true, laidLooks := .later }
def RecKnownUptoCardSaid : Prop := Claim7.holds Tryd.pinned (.plain (OpenSpec.upto recKnownSpec)) recKnownUptoCard

/-- THE SECOND FORM's CARD OF 'gripsacklaw6.RecBack'. -/
def recBackUptoCard : Claim7 := { stood := { row := recBackUptoRow, standIns := [], harness := (true, "ff79c8a174015f215112bb8ae31485bf93f53eebe23ce48e895c199c24e10900"), looks := true }, kinds := [], alts := [], laidByText := true, laidKinds := [.data, .data, .data, .data, .sentinel, .sentinel, .pinned], laidTests := true, laidLooks := .later }
def RecBackUptoCardSaid : Prop := Claim7.holds Tryd.pinned (.plain (OpenSpec.upto recBackSpec)) recBackUptoCard
end Rows
end Go.Proofs.YtldimdlobgnnpaaDoor
