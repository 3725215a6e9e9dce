/-
  DERIVED. GIVEN WITH THE SEED: THE CARDS: each row of YtgflfdnajchjaaaGreatDoorRows.lean that lists a variable, with what it lists TIED to the program's text (the seventh form; the later family's looks); each row that meets fmt, with fmt's text TOLD by the authors' own Lean function (tested against real Go, not proved from fmt's source: count such statements apart). THE CARD IS WHAT COUNTS. Prove the row's statement (the work); the ties are given (YtgflfdnajchjaaaGreatDoorTie.lean); close each card by the builder's one call (the guide's Derived/Test/ToyasCard.lean, 'card_holds'). Laid BY PROGRAM, IN A SANDBOX (cutbox-door.mjs). By AI agents, Wed Nov 11 2026. No macro, syntax, notation, axiom, sorry.
-/
import Derived.Test.YtgflfdnajchjaaaGreatDoorRows
import GoSem.ClaimSeven
namespace Go.Proofs.YtgflfdnajchjaaaGreatDoor
namespace Rows

/-- THE TIED CARD OF 'radiolinklaw45.TextRaw'. -/
def textRawCard : Claim7 := { stood := { row := textRawRow, standIns := [], harness := (true, "e7f77c4cf7680146b1e907c9ee941b65837d137b9552015af63258e6a8ca8502"), looks := true }, kinds := [], alts := [], laidByText := true, laidKinds := [.data, .data, .data, .data, .sentinel, .sentinel, .pinned], laidTests := true, laidLooks := .later }
def TextRawCardSaid : Prop := Claim7.holds Tryz.pinned (.plain (OpenSpec.ofChange textRawSpec)) textRawCard

/-- THE TIED CARD OF 'radiolinklaw45.TextNear'. -/
def textNearCard : Claim7 := { stood := { row := textNearRow, standIns := [], harness := (true, "e7f77c4cf7680146b1e907c9ee941b65837d137b9552015af63258e6a8ca8502"), looks := true }, kinds := [], alts := [], laidByText := true, laidKinds := [.data, .data, .data, .data, .sentinel, .sentinel, .pinned], laidTests := true, laidLooks := .later }
def TextNearCardSaid : Prop := Claim7.holds Tryz.pinned (.plain (OpenSpec.ofChange textNearSpec)) textNearCard

/-- THE TIED CARD OF 'radiolinklaw45.TextFormats'. -/
def textFormatsCard : Claim7 := { stood := { row := textFormatsRow, standIns := [], harness := (true, "e7f77c4cf7680146b1e907c9ee941b65837d137b9552015af63258e6a8ca8502"), looks := true }, kinds := [], alts := [], laidByText := true, laidKinds := [.data, .data, .data, .data, .sentinel, .sentinel, .pinned], laidTests := true, laidLooks := .later }
def TextFormatsCardSaid : Prop := Claim7.holds Tryz.pinned (.plain (OpenSpec.ofChange textFormatsSpec)) textFormatsCard

/-- THE TIED CARD OF 'radiolinklaw45.TextLines'. -/
def textLinesCard : Claim7 := { stood := { row := textLinesRow, standIns := [], harness := (true, "e7f77c4cf7680146b1e907c9ee941b65837d137b9552015af63258e6a8ca8502"), looks := true }, kinds := [], alts := [], laidByText := true, laidKinds := [.data, .data, .data, .data, .sentinel, .sentinel, .pinned], laidTests := true, laidLooks := .later }
def TextLinesCardSaid : Prop := Claim7.holds Tryz.pinned (.plain (OpenSpec.ofChange textLinesSpec)) textLinesCard

/-- THE SECOND FORM's CARD OF 'radiolinklaw45.TextRaw'. -/
def textRawUptoCard : Claim7 := { stood := { row := textRawUptoRow, standIns := [], harness := (true, "e7f77c4cf7680146b1e907c9ee941b65837d137b9552015af63258e6a8ca8502"), looks := true }, kinds := [], alts := [], laidByText := true, laidKinds := [.data, .data, .data, .data, .sentinel, .sentinel, .pinned], laidTests := true, laidLooks := .later }
def TextRawUptoCardSaid : Prop := Claim7.holds Tryz.pinned (.plain (OpenSpec.upto textRawSpec)) textRawUptoCard

/-- THE SECOND FORM's CARD OF 'radiolinklaw45.TextNear'. -/
def textNearUptoCard : Claim7 := { stood := { row := textNearUptoRow, standIns := [], harness := (true, "e7f77c4cf7680146b1e907c9ee941b65837d137b9552015af63258e6a8ca8502"), looks := true }, kinds := [], alts := [], laidByText := true, laidKinds := [.data, .data, .data, .data, .sentinel, .sentinel, .pinned], laidTests := true, laidLooks := .later }
def TextNearUptoCardSaid : Prop := Claim7.holds Tryz.pinned (.plain (OpenSpec.upto textNearSpec)) textNearUptoCard

/-- THE SECOND FORM's CARD OF 'radiolinklaw45.TextFormats'. -/
def textFormatsUptoCard : Claim7 := { stood := { row := textFormatsUptoRow, standIns := [], harness := (true, "e7f77c4cf7680146b1e907c9ee941b65837d137b9552015af63258e6a8ca8502"), looks := true }, kinds := [], alts := [], laidByText := true, laidKinds := [.data, .data, .data, .data, .sentinel, .sentinel, .pinned], laidTests := true, laidLooks := .later }
def TextFormatsUptoCardSaid : Prop := Claim7.holds Tryz.pinned (.plain (OpenSpec.upto textFormatsSpec)) textFormatsUptoCard

/-- THE SECOND FORM's CARD OF 'radiolinklaw45.TextLines'. -/
def textLinesUptoCard : Claim7 := { stood := { row := textLinesUptoRow, standIns := [], harness := (true, "e7f77c4cf7680146b1e907c9ee941b65837d137b9552015af63258e6a8ca8502"), looks := true }, kinds := [], alts := [], laidByText := true, laidKinds := [.data, .data, .data, .data, .sentinel, .sentinel, .pinned], laidTests := true, laidLooks := .later }
def TextLinesUptoCardSaid : Prop := Claim7.holds Tryz.pinned (.plain (OpenSpec.upto textLinesSpec)) textLinesUptoCard
end Rows
end Go.Proofs.YtgflfdnajchjaaaGreatDoor
