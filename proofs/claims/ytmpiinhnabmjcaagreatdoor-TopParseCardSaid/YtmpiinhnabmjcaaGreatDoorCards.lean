/-
  DERIVED. GIVEN WITH THE SEED: THE CARDS: each row of YtmpiinhnabmjcaaGreatDoorRows.lean that lists a variable, with what it lists TIED to the program's text (the seventh form; the later family's looks); each row that meets fmt, with fmt's text TOLD by the authors' own Lean function (tested against real Go, not proved from fmt's source: count such statements apart). THE CARD IS WHAT COUNTS. Prove the row's statement (the work); the ties are given (YtmpiinhnabmjcaaGreatDoorTie.lean); close each card by the builder's one call (the guide's Derived/Test/ToyasCard.lean, 'card_holds'). Laid BY PROGRAM, IN A SANDBOX (cutbox-door.mjs). By AI agents, Wed Nov 11 2026. No macro, syntax, notation, axiom, sorry.
-/
import Derived.Test.YtmpiinhnabmjcaaGreatDoorRows
import GoSem.ClaimSeven
namespace Go.Proofs.YtmpiinhnabmjcaaGreatDoor
namespace Rows

/-- THE TIED CARD OF 'fuseboxtop.TopParse'. -/
def topParseCard : Claim7 := { stood := { row := topParseRow, standIns := [], harness := (true, "51e16df9a8b45ee12a14bd53bef68312f26be9a95381a9ad7a7c82546d6fc250"), looks := true }, kinds := [], alts := [], laidByText := true, laidKinds := [.data, .data, .data, .data, .sentinel, .sentinel, .data], laidTests := true, laidLooks := .later }
def TopParseCardSaid : Prop := Claim7.holds Tryz.pinned (.plain (OpenSpec.ofChange topParseSpec)) topParseCard

/-- THE SECOND FORM's CARD OF 'fuseboxtop.TopParse'. -/
def topParseUptoCard : Claim7 := { stood := { row := topParseUptoRow, standIns := [], harness := (true, "51e16df9a8b45ee12a14bd53bef68312f26be9a95381a9ad7a7c82546d6fc250"), looks := true }, kinds := [], alts := [], laidByText := true, laidKinds := [.data, .data, .data, .data, .sentinel, .sentinel, .data], laidTests := true, laidLooks := .later }
def TopParseUptoCardSaid : Prop := Claim7.holds Tryz.pinned (.plain (OpenSpec.upto topParseSpec)) topParseUptoCard
end Rows
end Go.Proofs.YtmpiinhnabmjcaaGreatDoor
