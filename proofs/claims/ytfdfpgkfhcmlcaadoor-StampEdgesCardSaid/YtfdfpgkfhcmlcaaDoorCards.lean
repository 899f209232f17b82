/-
  DERIVED. GIVEN WITH THE SEED: THE CARDS: each row of YtfdfpgkfhcmlcaaDoorRows.lean that lists a variable, with what it lists TIED to the program's text (the seventh form; the later family's looks); each row that meets fmt, with fmt's text TOLD by the authors' own Lean function (tested against real Go, not proved from fmt's source: count such statements apart). THE CARD IS WHAT COUNTS. Prove the row's statement (the work); the ties are given (YtfdfpgkfhcmlcaaDoorTie.lean); close each card by the builder's one call (the guide's Derived/Test/ToyasCard.lean, 'card_holds'). Laid BY PROGRAM, IN A SANDBOX (cutbox-door.mjs). By AI agents, Wed Nov 11 2026. No macro, syntax, notation, axiom, sorry.
-/
import Derived.Test.YtfdfpgkfhcmlcaaDoorRows
import GoSem.ClaimSeven
namespace Go.Proofs.YtfdfpgkfhcmlcaaDoor
namespace Rows

/-- THE TIED CARD OF 'gripsacklaw2.StampBack'. -/
def stampBackCard : Claim7 := { stood := { row := stampBackRow, standIns := [], harness := (true, "5dc60802e0d1892533034ab3206f69174970ce9143f07c6fc44888f70383a956"), looks := true }, kinds := [], alts := [], laidByText := true, laidKinds := [.data, .data, .data, .data, .sentinel, .sentinel, .pinned], laidTests := true, laidLooks := .later }
def StampBackCardSaid : Prop := Claim7.holds Tryd.pinned (.plain (OpenSpec.ofChange stampBackSpec)) stampBackCard

/-- THE TIED CARD OF 'gripsacklaw2.StampFar'. -/
def stampFarCard : Claim7 := { stood := { row := stampFarRow, standIns := [], harness := (true, "5dc60802e0d1892533034ab3206f69174970ce9143f07c6fc44888f70383a956"), looks := true }, kinds := [], alts := [], laidByText := true, laidKinds := [.data, .data, .data, .data, .sentinel, .sentinel, .pinned], laidTests := true, laidLooks := .later }
def StampFarCardSaid : Prop := Claim7.holds Tryd.pinned (.plain (OpenSpec.ofChange stampFarSpec)) stampFarCard

/-- THE TIED CARD OF 'gripsacklaw2.StampAll'. -/
def stampAllCard : Claim7 := { stood := { row := stampAllRow, standIns := [], harness := (true, "5dc60802e0d1892533034ab3206f69174970ce9143f07c6fc44888f70383a956"), looks := true }, kinds := [], alts := [], laidByText := true, laidKinds := [.data, .data, .data, .data, .sentinel, .sentinel, .pinned], laidTests := true, laidLooks := .later }
def StampAllCardSaid : Prop := Claim7.holds Tryd.pinned (.plain (OpenSpec.ofChange stampAllSpec)) stampAllCard

/-- THE TIED CARD OF 'gripsacklaw2.StampOrder'. -/
def stampOrderCard : Claim7 := { stood := { row := stampOrderRow, standIns := [], harness := (true, "5dc60802e0d1892533034ab3206f69174970ce9143f07c6fc44888f70383a956"), looks := true }, kinds := [], alts := [], laidByText := true, laidKinds := [.data, .data, .data, .data, .sentinel, .sentinel, .pinned], laidTests := true, laidLooks := .later }
def StampOrderCardSaid : Prop := Claim7.holds Tryd.pinned (.plain (OpenSpec.ofChange stampOrderSpec)) stampOrderCard

/-- THE TIED CARD OF 'gripsacklaw2.StampFloats'. -/
def stampFloatsCard : Claim7 := { stood := { row := stampFloatsRow, standIns := [], harness := (true, "5dc60802e0d1892533034ab3206f69174970ce9143f07c6fc44888f70383a956"), looks := true }, kinds := [], alts := [], laidByText := true, laidKinds := [.data, .data, .data, .data, .sentinel, .sentinel, .pinned], laidTests := true, laidLooks := .later }
def StampFloatsCardSaid : Prop := Claim7.holds Tryd.pinned (.plain (OpenSpec.ofChange stampFloatsSpec)) stampFloatsCard

/-- THE TIED CARD OF 'gripsacklaw2.StampEdges'. -/
def stampEdgesCard : Claim7 := { stood := { row := stampEdgesRow, standIns := [], harness := (true, "5dc60802e0d1892533034ab3206f69174970ce9143f07c6fc44888f70383a956"), looks := true }, kinds := [], alts := [], laidByText := true, laidKinds := [.data, .data, .data, .data, .sentinel, .sentinel, .pinned], laidTests := true, laidLooks := .later }
def StampEdgesCardSaid : Prop := Claim7.holds Tryd.pinned (.plain (OpenSpec.ofChange stampEdgesSpec)) stampEdgesCard

/-- THE TIED CARD OF 'gripsacklaw2.StampNear'. -/
def stampNearCard : Claim7 := { stood := { row := stampNearRow, standIns := [], harness := (true, "5dc60802e0d1892533034ab3206f69174970ce9143f07c6fc44888f70383a956"), looks := true }, kinds := [], alts := [], laidByText := true, laidKinds := [.data, .data, .data, .data, .sentinel, .sentinel, .pinned], laidTests := true, laidLooks := .later }
def StampNearCardSaid : Prop := Claim7.holds Tryd.pinned (.plain (OpenSpec.ofChange stampNearSpec)) stampNearCard

/-- THE SECOND FORM's CARD OF 'gripsacklaw2.StampBack'. -/
def stampBackUptoCard : Claim7 := { stood := { row := stampBackUptoRow, standIns := [], harness := (true, "5dc60802e0d1892533034ab3206f69174970ce9143f07c6fc44888f70383a956"), looks := true }, kinds := [], alts := [], laidByText := true, laidKinds := [.data, .data, .data, .data, .sentinel, .sentinel, .pinned], laidTests := true, laidLooks := .later }
def StampBackUptoCardSaid : Prop := Claim7.holds Tryd.pinned (.plain (OpenSpec.upto stampBackSpec)) stampBackUptoCard

/-- THE SECOND FORM's CARD OF 'gripsacklaw2.StampFar'. -/
def stampFarUptoCard : Claim7 := { stood := { row := stampFarUptoRow, standIns := [], harness := (true, "5dc60802e0d1892533034ab3206f69174970ce9143f07c6fc44888f70383a956"), looks := true }, kinds := [], alts := [], laidByText := true, laidKinds := [.data, .data, .data, .data, .sentinel, .sentinel, .pinned], laidTests := true, laidLooks := .later }
def StampFarUptoCardSaid : Prop := Claim7.holds Tryd.pinned (.plain (OpenSpec.upto stampFarSpec)) stampFarUptoCard

/-- THE SECOND FORM's CARD OF 'gripsacklaw2.StampAll'. -/
def stampAllUptoCard : Claim7 := { stood := { row := stampAllUptoRow, standIns := [], harness := (true, "5dc60802e0d1892533034ab3206f69174970ce9143f07c6fc44888f70383a956"), looks := true }, kinds := [], alts := [], laidByText := true, laidKinds := [.data, .data, .data, .data, .sentinel, .sentinel, .pinned], laidTests := true, laidLooks := .later }
def StampAllUptoCardSaid : Prop := Claim7.holds Tryd.pinned (.plain (OpenSpec.upto stampAllSpec)) stampAllUptoCard

/-- THE SECOND FORM's CARD OF 'gripsacklaw2.StampOrder'. -/
def stampOrderUptoCard : Claim7 := { stood := { row := stampOrderUptoRow, standIns := [], harness := (true, "5dc60802e0d1892533034ab3206f69174970ce9143f07c6fc44888f70383a956"), looks := true }, kinds := [], alts := [], laidByText := true, laidKinds := [.data, .data, .data, .data, .sentinel, .sentinel, .pinned], laidTests := true, laidLooks := .later }
def StampOrderUptoCardSaid : Prop := Claim7.holds Tryd.pinned (.plain (OpenSpec.upto stampOrderSpec)) stampOrderUptoCard

/-- THE SECOND FORM's CARD OF 'gripsacklaw2.StampFloats'. -/
def stampFloatsUptoCard : Claim7 := { stood := { row := stampFloatsUptoRow, standIns := [], harness := (true, "5dc60802e0d1892533034ab3206f69174970ce9143f07c6fc44888f70383a956"), looks := true }, kinds := [], alts := [], laidByText := true, laidKinds := [.data, .data, .data, .data, .sentinel, .sentinel, .pinned], laidTests := true, laidLooks := .later }
def StampFloatsUptoCardSaid : Prop := Claim7.holds Tryd.pinned (.plain (OpenSpec.upto stampFloatsSpec)) stampFloatsUptoCard

/-- THE SECOND FORM's CARD OF 'gripsacklaw2.StampEdges'. -/
def stampEdgesUptoCard : Claim7 := { stood := { row := stampEdgesUptoRow, standIns := [], harness := (true, "5dc60802e0d1892533034ab3206f69174970ce9143f07c6fc44888f70383a956"), looks := true }, kinds := [], alts := [], laidByText := true, laidKinds := [.data, .data, .data, .data, .sentinel, .sentinel, .pinned], laidTests := true, laidLooks := .later }
def StampEdgesUptoCardSaid : Prop := Claim7.holds Tryd.pinned (.plain (OpenSpec.upto stampEdgesSpec)) stampEdgesUptoCard

/-- THE SECOND FORM's CARD OF 'gripsacklaw2.StampNear'. -/
def stampNearUptoCard : Claim7 := { stood := { row := stampNearUptoRow, standIns := [], harness := (true, "5dc60802e0d1892533034ab3206f69174970ce9143f07c6fc44888f70383a956"), looks := true }, kinds := [], alts := [], laidByText := true, laidKinds := [.data, .data, .data, .data, .sentinel, .sentinel, .pinned], laidTests := true, laidLooks := .later }
def StampNearUptoCardSaid : Prop := Claim7.holds Tryd.pinned (.plain (OpenSpec.upto stampNearSpec)) stampNearUptoCard
end Rows
end Go.Proofs.YtfdfpgkfhcmlcaaDoor
