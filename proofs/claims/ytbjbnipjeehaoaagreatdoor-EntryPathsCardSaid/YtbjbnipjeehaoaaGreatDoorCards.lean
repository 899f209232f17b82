/-
  DERIVED. GIVEN WITH THE SEED: THE CARDS: each row of YtbjbnipjeehaoaaGreatDoorRows.lean that lists a variable, with what it lists TIED to the program's text (the seventh form; the later family's looks); each row that meets fmt, with fmt's text TOLD by the authors' own Lean function (tested against real Go, not proved from fmt's source: count such statements apart). THE CARD IS WHAT COUNTS. Prove the row's statement (the work); the ties are given (YtbjbnipjeehaoaaGreatDoorTie.lean); close each card by the builder's one call (the guide's Derived/Test/ToyasCard.lean, 'card_holds'). Laid BY PROGRAM, IN A SANDBOX (cutbox-door.mjs). By AI agents, Wed Nov 11 2026. No macro, syntax, notation, axiom, sorry.
-/
import Derived.Test.YtbjbnipjeehaoaaGreatDoorRows
import GoSem.ClaimSeven
namespace Go.Proofs.YtbjbnipjeehaoaaGreatDoor
namespace Rows

/-- THE TIED CARD OF 'gripsacklaw15.EntryMade'. -/
def entryMadeCard : Claim7 := { stood := { row := entryMadeRow, standIns := [], harness := (true, "05823189125f2f02269edf37a27ed64e722ee9bcd7131b5474534f71049b17d5"), looks := true }, kinds := [], alts := [], laidByText := true, laidKinds := [.data, .data, .data, .data, .pinned], laidTests := true, laidLooks := .later }
def EntryMadeCardSaid : Prop := Claim7.holds Tryz.pinned (.plain (OpenSpec.ofChange entryMadeSpec)) entryMadeCard

/-- THE TIED CARD OF 'gripsacklaw15.EntryPaths'. -/
def entryPathsCard : Claim7 := { stood := { row := entryPathsRow, standIns := [], harness := (true, "05823189125f2f02269edf37a27ed64e722ee9bcd7131b5474534f71049b17d5"), looks := true }, kinds := [], alts := [], laidByText := true, laidKinds := [.data, .data, .data, .data, .pinned], laidTests := true, laidLooks := .later }
def EntryPathsCardSaid : Prop := Claim7.holds Tryz.pinned (.plain (OpenSpec.ofChange entryPathsSpec)) entryPathsCard

/-- THE TIED CARD OF 'gripsacklaw15.EntryFields'. -/
def entryFieldsCard : Claim7 := { stood := { row := entryFieldsRow, standIns := [], harness := (true, "05823189125f2f02269edf37a27ed64e722ee9bcd7131b5474534f71049b17d5"), looks := true }, kinds := [], alts := [], laidByText := true, laidKinds := [.data, .data, .data, .data, .pinned], laidTests := true, laidLooks := .later }
def EntryFieldsCardSaid : Prop := Claim7.holds Tryz.pinned (.plain (OpenSpec.ofChange entryFieldsSpec)) entryFieldsCard

/-- THE TIED CARD OF 'gripsacklaw15.EntryKinds'. -/
def entryKindsCard : Claim7 := { stood := { row := entryKindsRow, standIns := [], harness := (true, "05823189125f2f02269edf37a27ed64e722ee9bcd7131b5474534f71049b17d5"), looks := true }, kinds := [], alts := [], laidByText := true, laidKinds := [.data, .data, .data, .data, .pinned], laidTests := true, laidLooks := .later }
def EntryKindsCardSaid : Prop := Claim7.holds Tryz.pinned (.plain (OpenSpec.ofChange entryKindsSpec)) entryKindsCard

/-- THE TIED CARD OF 'gripsacklaw15.EntryOver'. -/
def entryOverCard : Claim7 := { stood := { row := entryOverRow, standIns := [], harness := (true, "05823189125f2f02269edf37a27ed64e722ee9bcd7131b5474534f71049b17d5"), looks := true }, kinds := [], alts := [], laidByText := true, laidKinds := [.data, .data, .data, .data, .sentinel, .sentinel, .pinned], laidTests := true, laidLooks := .later }
def EntryOverCardSaid : Prop := Claim7.holds Tryz.pinned (.plain (OpenSpec.ofChange entryOverSpec)) entryOverCard

/-- THE TIED CARD OF 'gripsacklaw15.EntryLast'. -/
def entryLastCard : Claim7 := { stood := { row := entryLastRow, standIns := [], harness := (true, "05823189125f2f02269edf37a27ed64e722ee9bcd7131b5474534f71049b17d5"), looks := true }, kinds := [], alts := [], laidByText := true, laidKinds := [.data, .data, .data, .data, .sentinel, .sentinel, .pinned], laidTests := true, laidLooks := .later }
def EntryLastCardSaid : Prop := Claim7.holds Tryz.pinned (.plain (OpenSpec.ofChange entryLastSpec)) entryLastCard

/-- THE TIED CARD OF 'gripsacklaw15.EntryBack'. -/
def entryBackCard : Claim7 := { stood := { row := entryBackRow, standIns := [], harness := (true, "05823189125f2f02269edf37a27ed64e722ee9bcd7131b5474534f71049b17d5"), looks := true }, kinds := [], alts := [], laidByText := true, laidKinds := [.data, .data, .data, .data, .sentinel, .sentinel, .pinned], laidTests := true, laidLooks := .later }
def EntryBackCardSaid : Prop := Claim7.holds Tryz.pinned (.plain (OpenSpec.ofChange entryBackSpec)) entryBackCard

/-- THE SECOND FORM's CARD OF 'gripsacklaw15.EntryMade'. -/
def entryMadeUptoCard : Claim7 := { stood := { row := entryMadeUptoRow, standIns := [], harness := (true, "05823189125f2f02269edf37a27ed64e722ee9bcd7131b5474534f71049b17d5"), looks := true }, kinds := [], alts := [], laidByText := true, laidKinds := [.data, .data, .data, .data, .pinned], laidTests := true, laidLooks := .later }
def EntryMadeUptoCardSaid : Prop := Claim7.holds Tryz.pinned (.plain (OpenSpec.upto entryMadeSpec)) entryMadeUptoCard

/-- THE SECOND FORM's CARD OF 'gripsacklaw15.EntryPaths'. -/
def entryPathsUptoCard : Claim7 := { stood := { row := entryPathsUptoRow, standIns := [], harness := (true, "05823189125f2f02269edf37a27ed64e722ee9bcd7131b5474534f71049b17d5"), looks := true }, kinds := [], alts := [], laidByText := true, laidKinds := [.data, .data, .data, .data, .pinned], laidTests := true, laidLooks := .later }
def EntryPathsUptoCardSaid : Prop := Claim7.holds Tryz.pinned (.plain (OpenSpec.upto entryPathsSpec)) entryPathsUptoCard

/-- THE SECOND FORM's CARD OF 'gripsacklaw15.EntryFields'. -/
def entryFieldsUptoCard : Claim7 := { stood := { row := entryFieldsUptoRow, standIns := [], harness := (true, "05823189125f2f02269edf37a27ed64e722ee9bcd7131b5474534f71049b17d5"), looks := true }, kinds := [], alts := [], laidByText := true, laidKinds := [.data, .data, .data, .data, .pinned], laidTests := true, laidLooks := .later }
def EntryFieldsUptoCardSaid : Prop := Claim7.holds Tryz.pinned (.plain (OpenSpec.upto entryFieldsSpec)) entryFieldsUptoCard

/-- THE SECOND FORM's CARD OF 'gripsacklaw15.EntryKinds'. -/
def entryKindsUptoCard : Claim7 := { stood := { row := entryKindsUptoRow, standIns := [], harness := (true, "05823189125f2f02269edf37a27ed64e722ee9bcd7131b5474534f71049b17d5"), looks := true }, kinds := [], alts := [], laidByText := true, laidKinds := [.data, .data, .data, .data, .pinned], laidTests := true, laidLooks := .later }
def EntryKindsUptoCardSaid : Prop := Claim7.holds Tryz.pinned (.plain (OpenSpec.upto entryKindsSpec)) entryKindsUptoCard

/-- THE SECOND FORM's CARD OF 'gripsacklaw15.EntryOver'. -/
def entryOverUptoCard : Claim7 := { stood := { row := entryOverUptoRow, standIns := [], harness := (true, "05823189125f2f02269edf37a27ed64e722ee9bcd7131b5474534f71049b17d5"), looks := true }, kinds := [], alts := [], laidByText := true, laidKinds := [.data, .data, .data, .data, .sentinel, .sentinel, .pinned], laidTests := true, laidLooks := .later }
def EntryOverUptoCardSaid : Prop := Claim7.holds Tryz.pinned (.plain (OpenSpec.upto entryOverSpec)) entryOverUptoCard

/-- THE SECOND FORM's CARD OF 'gripsacklaw15.EntryLast'. -/
def entryLastUptoCard : Claim7 := { stood := { row := entryLastUptoRow, standIns := [], harness := (true, "05823189125f2f02269edf37a27ed64e722ee9bcd7131b5474534f71049b17d5"), looks := true }, kinds := [], alts := [], laidByText := true, laidKinds := [.data, .data, .data, .data, .sentinel, .sentinel, .pinned], laidTests := true, laidLooks := .later }
def EntryLastUptoCardSaid : Prop := Claim7.holds Tryz.pinned (.plain (OpenSpec.upto entryLastSpec)) entryLastUptoCard

/-- THE SECOND FORM's CARD OF 'gripsacklaw15.EntryBack'. -/
def entryBackUptoCard : Claim7 := { stood := { row := entryBackUptoRow, standIns := [], harness := (true, "05823189125f2f02269edf37a27ed64e722ee9bcd7131b5474534f71049b17d5"), looks := true }, kinds := [], alts := [], laidByText := true, laidKinds := [.data, .data, .data, .data, .sentinel, .sentinel, .pinned], laidTests := true, laidLooks := .later }
def EntryBackUptoCardSaid : Prop := Claim7.holds Tryz.pinned (.plain (OpenSpec.upto entryBackSpec)) entryBackUptoCard
end Rows
end Go.Proofs.YtbjbnipjeehaoaaGreatDoor
