/-
  DERIVED. GIVEN WITH THE SEED: THE CARDS: each row of YtpokkciheejeiaaGreatDoorRows.lean that lists a variable, with what it lists TIED to the program's text (the seventh form; the later family's looks); each row that meets fmt, with fmt's text TOLD by the authors' own Lean function (tested against real Go, not proved from fmt's source: count such statements apart). THE CARD IS WHAT COUNTS. Prove the row's statement (the work); the ties are given (YtpokkciheejeiaaGreatDoorTie.lean); close each card by the builder's one call (the guide's Derived/Test/ToyasCard.lean, 'card_holds'). Laid BY PROGRAM, IN A SANDBOX (cutbox-door.mjs). By AI agents, Wed Nov 11 2026. No macro, syntax, notation, axiom, sorry.
-/
import Derived.Test.YtpokkciheejeiaaGreatDoorRows
import GoSem.ClaimSeven
namespace Go.Proofs.YtpokkciheejeiaaGreatDoor
namespace Rows

/-- THE TIED CARD OF 'fuseboxtop.TopSegments'. -/
def topSegmentsCard : Claim7 := { stood := { row := topSegmentsRow, standIns := [], harness := (true, "88a81b6e41757086c4aecafaed5f797e0835585565a1a73c2a720456080c44e0"), looks := true }, kinds := [], alts := [], laidByText := true, laidKinds := [.data, .data, .data, .sentinel, .sentinel], laidTests := true, laidLooks := .later }
def TopSegmentsCardSaid : Prop := Claim7.holds Tryz.pinned (.plain (OpenSpec.ofChange topSegmentsSpec)) topSegmentsCard

/-- THE TIED CARD OF 'fuseboxtop.TopBytes'. -/
def topBytesCard : Claim7 := { stood := { row := topBytesRow, standIns := [], harness := (true, "88a81b6e41757086c4aecafaed5f797e0835585565a1a73c2a720456080c44e0"), looks := true }, kinds := [], alts := [], laidByText := true, laidKinds := [.data, .data, .data, .sentinel, .sentinel], laidTests := true, laidLooks := .later }
def TopBytesCardSaid : Prop := Claim7.holds Tryz.pinned (.plain (OpenSpec.ofChange topBytesSpec)) topBytesCard

/-- THE TIED CARD OF 'fuseboxtop.TopCut'. -/
def topCutCard : Claim7 := { stood := { row := topCutRow, standIns := [], harness := (true, "88a81b6e41757086c4aecafaed5f797e0835585565a1a73c2a720456080c44e0"), looks := true }, kinds := [], alts := [], laidByText := true, laidKinds := [.data, .data, .data, .sentinel, .sentinel], laidTests := true, laidLooks := .later }
def TopCutCardSaid : Prop := Claim7.holds Tryz.pinned (.plain (OpenSpec.ofChange topCutSpec)) topCutCard

/-- THE SECOND FORM's CARD OF 'fuseboxtop.TopSegments'. -/
def topSegmentsUptoCard : Claim7 := { stood := { row := topSegmentsUptoRow, standIns := [], harness := (true, "88a81b6e41757086c4aecafaed5f797e0835585565a1a73c2a720456080c44e0"), looks := true }, kinds := [], alts := [], laidByText := true, laidKinds := [.data, .data, .data, .sentinel, .sentinel], laidTests := true, laidLooks := .later }
def TopSegmentsUptoCardSaid : Prop := Claim7.holds Tryz.pinned (.plain (OpenSpec.upto topSegmentsSpec)) topSegmentsUptoCard

/-- THE SECOND FORM's CARD OF 'fuseboxtop.TopBytes'. -/
def topBytesUptoCard : Claim7 := { stood := { row := topBytesUptoRow, standIns := [], harness := (true, "88a81b6e41757086c4aecafaed5f797e0835585565a1a73c2a720456080c44e0"), looks := true }, kinds := [], alts := [], laidByText := true, laidKinds := [.data, .data, .data, .sentinel, .sentinel], laidTests := true, laidLooks := .later }
def TopBytesUptoCardSaid : Prop := Claim7.holds Tryz.pinned (.plain (OpenSpec.upto topBytesSpec)) topBytesUptoCard

/-- THE SECOND FORM's CARD OF 'fuseboxtop.TopCut'. -/
def topCutUptoCard : Claim7 := { stood := { row := topCutUptoRow, standIns := [], harness := (true, "88a81b6e41757086c4aecafaed5f797e0835585565a1a73c2a720456080c44e0"), looks := true }, kinds := [], alts := [], laidByText := true, laidKinds := [.data, .data, .data, .sentinel, .sentinel], laidTests := true, laidLooks := .later }
def TopCutUptoCardSaid : Prop := Claim7.holds Tryz.pinned (.plain (OpenSpec.upto topCutSpec)) topCutUptoCard
end Rows
end Go.Proofs.YtpokkciheejeiaaGreatDoor
