/-
  DERIVED. GIVEN WITH THE SEED: THE CARDS: each row of YtommmfncaadbeaaDoorRows.lean that lists a variable, with what it lists TIED to the program's text (the seventh form; the later family's looks); each row that meets fmt, with fmt's text TOLD by the authors' own Lean function (tested against real Go, not proved from fmt's source: count such statements apart). THE CARD IS WHAT COUNTS. Prove the row's statement (the work); the ties are given (YtommmfncaadbeaaDoorTie.lean); close each card by the builder's one call (the guide's Derived/Test/ToyasCard.lean, 'card_holds'). Laid BY PROGRAM, IN A SANDBOX (cutbox-door.mjs). By AI agents, Wed Nov 11 2026. No macro, syntax, notation, axiom, sorry.
-/
import Derived.Test.YtommmfncaadbeaaDoorRows
import GoSem.ClaimSeven
namespace Go.Proofs.YtommmfncaadbeaaDoor
namespace Rows

/-- THE TIED CARD OF 'beadlelaw21.NoteApart'. -/
def noteApartCard : Claim7 := { stood := { row := noteApartRow, standIns := [], harness := (true, "67a826d90f9fa7fea7df682cc0121f3693818fb5b21c09551fa92bd38f25ed8d"), looks := true }, kinds := [], alts := [], laidByText := true, laidKinds := [.data, .data, .data, .data, .sentinel, .sentinel, .pinned], laidTests := true, laidLooks := .later }
def NoteApartCardSaid : Prop := Claim7.holds Tryd.pinned (.plain (OpenSpec.ofChange noteApartSpec)) noteApartCard

/-- THE TIED CARD OF 'beadlelaw21.NoteKnown'. -/
def noteKnownCard : Claim7 := { stood := { row := noteKnownRow, standIns := [], harness := (true, "67a826d90f9fa7fea7df682cc0121f3693818fb5b21c09551fa92bd38f25ed8d"), looks := true }, kinds := [], alts := [], laidByText := true, laidKinds := [.data, .data, .data, .data, .sentinel, .sentinel, .pinned], laidTests := true, laidLooks := .later }
def NoteKnownCardSaid : Prop := Claim7.holds Tryd.pinned (.plain (OpenSpec.ofChange noteKnownSpec)) noteKnownCard

/-- THE SECOND FORM's CARD OF 'beadlelaw21.NoteApart'. -/
def noteApartUptoCard : Claim7 := { stood := { row := noteApartUptoRow, standIns := [], harness := (true, "67a826d90f9fa7fea7df682cc0121f3693818fb5b21c09551fa92bd38f25ed8d"), looks := true }, kinds := [], alts := [], laidByText := true, laidKinds := [.data, .data, .data, .data, .sentinel, .sentinel, .pinned], laidTests := true, laidLooks := .later }
def NoteApartUptoCardSaid : Prop := Claim7.holds Tryd.pinned (.plain (OpenSpec.upto noteApartSpec)) noteApartUptoCard

/-- THE SECOND FORM's CARD OF 'beadlelaw21.NoteKnown'. -/
def noteKnownUptoCard : Claim7 := { stood := { row := noteKnownUptoRow, standIns := [], harness := (true, "67a826d90f9fa7fea7df682cc0121f3693818fb5b21c09551fa92bd38f25ed8d"), looks := true }, kinds := [], alts := [], laidByText := true, laidKinds := [.data, .data, .data, .data, .sentinel, .sentinel, .pinned], laidTests := true, laidLooks := .later }
def NoteKnownUptoCardSaid : Prop := Claim7.holds Tryd.pinned (.plain (OpenSpec.upto noteKnownSpec)) noteKnownUptoCard
end Rows
end Go.Proofs.YtommmfncaadbeaaDoor
