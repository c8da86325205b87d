/-
  DERIVED. GIVEN WITH THE SEED: THE CARDS: each row of YtgnblhmejecgfaaGreatDoorRows.lean that lists a variable, with what it lists TIED to the program's text (the seventh form; the later family's looks); each row that meets fmt, with fmt's text TOLD by the authors' own Lean function (tested against real Go, not proved from fmt's source: count such statements apart). THE CARD IS WHAT COUNTS. Prove the row's statement (the work); the ties are given (YtgnblhmejecgfaaGreatDoorTie.lean); close each card by the builder's one call (the guide's Derived/Test/ToyasCard.lean, 'card_holds'). Laid BY PROGRAM, IN A SANDBOX (cutbox-door.mjs). By AI agents, Wed Nov 11 2026. No macro, syntax, notation, axiom, sorry.
-/
import Derived.Test.YtgnblhmejecgfaaGreatDoorRows
import GoSem.ClaimSeven
namespace Go.Proofs.YtgnblhmejecgfaaGreatDoor
namespace Rows

/-- THE TIED CARD OF 'innkeeplaw19.SessEnds'. -/
def sessEndsCard : Claim7 := { stood := { row := sessEndsRow, standIns := [], harness := (true, "e8f079dfcbd4b6c9f03ffaa2a789cf89204bbfe7176151def592f8a0f67b55bb"), looks := true }, kinds := [], alts := [], laidByText := true, laidKinds := [.data, .data, .data, .data, .widerDeep, .widerDeep, .sentinel, .sentinel, .pinned], laidTests := true, laidLooks := .later }
def SessEndsCardSaid : Prop := Claim7.holds Tryz.pinned (.plain (OpenSpec.ofChange sessEndsSpec)) sessEndsCard

/-- THE TIED CARD OF 'innkeeplaw19.SessAnew'. -/
def sessAnewCard : Claim7 := { stood := { row := sessAnewRow, standIns := [], harness := (true, "e8f079dfcbd4b6c9f03ffaa2a789cf89204bbfe7176151def592f8a0f67b55bb"), looks := true }, kinds := [], alts := [], laidByText := true, laidKinds := [.data, .data, .data, .data, .widerDeep, .widerDeep, .sentinel, .sentinel, .pinned], laidTests := true, laidLooks := .later }
def SessAnewCardSaid : Prop := Claim7.holds Tryz.pinned (.plain (OpenSpec.ofChange sessAnewSpec)) sessAnewCard

/-- THE TIED CARD OF 'innkeeplaw19.SessOpens'. -/
def sessOpensCard : Claim7 := { stood := { row := sessOpensRow, standIns := [], harness := (true, "e8f079dfcbd4b6c9f03ffaa2a789cf89204bbfe7176151def592f8a0f67b55bb"), looks := true }, kinds := [], alts := [], laidByText := true, laidKinds := [.data, .data, .data, .data, .widerDeep, .widerDeep, .sentinel, .sentinel, .pinned], laidTests := true, laidLooks := .later }
def SessOpensCardSaid : Prop := Claim7.holds Tryz.pinned (.plain (OpenSpec.ofChange sessOpensSpec)) sessOpensCard

/-- THE TIED CARD OF 'innkeeplaw04.LinePuts'. -/
def linePutsCard : Claim7 := { stood := { row := linePutsRow, standIns := [], harness := (true, "e8f079dfcbd4b6c9f03ffaa2a789cf89204bbfe7176151def592f8a0f67b55bb"), looks := true }, kinds := [], alts := [], laidByText := true, laidKinds := [.data, .data, .data, .data, .widerDeep, .widerDeep, .sentinel, .sentinel, .pinned], laidTests := true, laidLooks := .later }
def LinePutsCardSaid : Prop := Claim7.holds Tryz.pinned (.plain (OpenSpec.ofChange linePutsSpec)) linePutsCard

/-- THE TIED CARD OF 'innkeeplaw04.LineGets'. -/
def lineGetsCard : Claim7 := { stood := { row := lineGetsRow, standIns := [], harness := (true, "e8f079dfcbd4b6c9f03ffaa2a789cf89204bbfe7176151def592f8a0f67b55bb"), looks := true }, kinds := [], alts := [], laidByText := true, laidKinds := [.data, .data, .data, .data, .widerDeep, .widerDeep, .sentinel, .sentinel, .pinned], laidTests := true, laidLooks := .later }
def LineGetsCardSaid : Prop := Claim7.holds Tryz.pinned (.plain (OpenSpec.ofChange lineGetsSpec)) lineGetsCard

/-- THE TIED CARD OF 'innkeeplaw04.LineShort'. -/
def lineShortCard : Claim7 := { stood := { row := lineShortRow, standIns := [], harness := (true, "e8f079dfcbd4b6c9f03ffaa2a789cf89204bbfe7176151def592f8a0f67b55bb"), looks := true }, kinds := [], alts := [], laidByText := true, laidKinds := [.data, .data, .data, .data, .widerDeep, .widerDeep, .sentinel, .sentinel, .pinned], laidTests := true, laidLooks := .later }
def LineShortCardSaid : Prop := Claim7.holds Tryz.pinned (.plain (OpenSpec.ofChange lineShortSpec)) lineShortCard

/-- THE TIED CARD OF 'innkeeplaw04.LineKinds'. -/
def lineKindsCard : Claim7 := { stood := { row := lineKindsRow, standIns := [], harness := (true, "e8f079dfcbd4b6c9f03ffaa2a789cf89204bbfe7176151def592f8a0f67b55bb"), looks := true }, kinds := [], alts := [], laidByText := true, laidKinds := [.data, .data, .data, .data, .widerDeep, .widerDeep, .sentinel, .sentinel, .pinned], laidTests := true, laidLooks := .later }
def LineKindsCardSaid : Prop := Claim7.holds Tryz.pinned (.plain (OpenSpec.ofChange lineKindsSpec)) lineKindsCard

/-- THE SECOND FORM's CARD OF 'innkeeplaw19.SessEnds'. -/
def sessEndsUptoCard : Claim7 := { stood := { row := sessEndsUptoRow, standIns := [], harness := (true, "e8f079dfcbd4b6c9f03ffaa2a789cf89204bbfe7176151def592f8a0f67b55bb"), looks := true }, kinds := [], alts := [], laidByText := true, laidKinds := [.data, .data, .data, .data, .widerDeep, .widerDeep, .sentinel, .sentinel, .pinned], laidTests := true, laidLooks := .later }
def SessEndsUptoCardSaid : Prop := Claim7.holds Tryz.pinned (.plain (OpenSpec.upto sessEndsSpec)) sessEndsUptoCard

/-- THE SECOND FORM's CARD OF 'innkeeplaw19.SessAnew'. -/
def sessAnewUptoCard : Claim7 := { stood := { row := sessAnewUptoRow, standIns := [], harness := (true, "e8f079dfcbd4b6c9f03ffaa2a789cf89204bbfe7176151def592f8a0f67b55bb"), looks := true }, kinds := [], alts := [], laidByText := true, laidKinds := [.data, .data, .data, .data, .widerDeep, .widerDeep, .sentinel, .sentinel, .pinned], laidTests := true, laidLooks := .later }
def SessAnewUptoCardSaid : Prop := Claim7.holds Tryz.pinned (.plain (OpenSpec.upto sessAnewSpec)) sessAnewUptoCard

/-- THE SECOND FORM's CARD OF 'innkeeplaw19.SessOpens'. -/
def sessOpensUptoCard : Claim7 := { stood := { row := sessOpensUptoRow, standIns := [], harness := (true, "e8f079dfcbd4b6c9f03ffaa2a789cf89204bbfe7176151def592f8a0f67b55bb"), looks := true }, kinds := [], alts := [], laidByText := true, laidKinds := [.data, .data, .data, .data, .widerDeep, .widerDeep, .sentinel, .sentinel, .pinned], laidTests := true, laidLooks := .later }
def SessOpensUptoCardSaid : Prop := Claim7.holds Tryz.pinned (.plain (OpenSpec.upto sessOpensSpec)) sessOpensUptoCard

/-- THE SECOND FORM's CARD OF 'innkeeplaw04.LinePuts'. -/
def linePutsUptoCard : Claim7 := { stood := { row := linePutsUptoRow, standIns := [], harness := (true, "e8f079dfcbd4b6c9f03ffaa2a789cf89204bbfe7176151def592f8a0f67b55bb"), looks := true }, kinds := [], alts := [], laidByText := true, laidKinds := [.data, .data, .data, .data, .widerDeep, .widerDeep, .sentinel, .sentinel, .pinned], laidTests := true, laidLooks := .later }
def LinePutsUptoCardSaid : Prop := Claim7.holds Tryz.pinned (.plain (OpenSpec.upto linePutsSpec)) linePutsUptoCard

/-- THE SECOND FORM's CARD OF 'innkeeplaw04.LineGets'. -/
def lineGetsUptoCard : Claim7 := { stood := { row := lineGetsUptoRow, standIns := [], harness := (true, "e8f079dfcbd4b6c9f03ffaa2a789cf89204bbfe7176151def592f8a0f67b55bb"), looks := true }, kinds := [], alts := [], laidByText := true, laidKinds := [.data, .data, .data, .data, .widerDeep, .widerDeep, .sentinel, .sentinel, .pinned], laidTests := true, laidLooks := .later }
def LineGetsUptoCardSaid : Prop := Claim7.holds Tryz.pinned (.plain (OpenSpec.upto lineGetsSpec)) lineGetsUptoCard

/-- THE SECOND FORM's CARD OF 'innkeeplaw04.LineShort'. -/
def lineShortUptoCard : Claim7 := { stood := { row := lineShortUptoRow, standIns := [], harness := (true, "e8f079dfcbd4b6c9f03ffaa2a789cf89204bbfe7176151def592f8a0f67b55bb"), looks := true }, kinds := [], alts := [], laidByText := true, laidKinds := [.data, .data, .data, .data, .widerDeep, .widerDeep, .sentinel, .sentinel, .pinned], laidTests := true, laidLooks := .later }
def LineShortUptoCardSaid : Prop := Claim7.holds Tryz.pinned (.plain (OpenSpec.upto lineShortSpec)) lineShortUptoCard

/-- THE SECOND FORM's CARD OF 'innkeeplaw04.LineKinds'. -/
def lineKindsUptoCard : Claim7 := { stood := { row := lineKindsUptoRow, standIns := [], harness := (true, "e8f079dfcbd4b6c9f03ffaa2a789cf89204bbfe7176151def592f8a0f67b55bb"), looks := true }, kinds := [], alts := [], laidByText := true, laidKinds := [.data, .data, .data, .data, .widerDeep, .widerDeep, .sentinel, .sentinel, .pinned], laidTests := true, laidLooks := .later }
def LineKindsUptoCardSaid : Prop := Claim7.holds Tryz.pinned (.plain (OpenSpec.upto lineKindsSpec)) lineKindsUptoCard
end Rows
end Go.Proofs.YtgnblhmejecgfaaGreatDoor
