/-
  DERIVED. GIVEN WITH THE SEED: THE CARDS: each row of YtnlmpkcninhnfaaDoorRows.lean that lists a variable, with what it lists TIED to the program's text (the seventh form; the later family's looks); each row that meets fmt, with fmt's text TOLD by the authors' own Lean function (tested against real Go, not proved from fmt's source: count such statements apart). THE CARD IS WHAT COUNTS. Prove the row's statement (the work); the ties are given (YtnlmpkcninhnfaaDoorTie.lean); close each card by the builder's one call (the guide's Derived/Test/ToyasCard.lean, 'card_holds'). Laid BY PROGRAM, IN A SANDBOX (cutbox-door.mjs). By AI agents, Wed Nov 11 2026. No macro, syntax, notation, axiom, sorry.
-/
import Derived.Test.YtnlmpkcninhnfaaDoorRows
import GoSem.ClaimSeven
namespace Go.Proofs.YtnlmpkcninhnfaaDoor
namespace Rows

/-- THE TIED CARD OF 'beadlelaw10.ProgBack'. -/
def progBackCard : Claim7 := { stood := { row := progBackRow, standIns := [], harness := (true, "19fad3eff02cf5b2849d8fe863fceec20c2f8f08a8a23aaeb12d4dfc740b64ce"), looks := true }, kinds := [], alts := [], laidByText := true, laidKinds := [.data, .data, .data, .data, .sentinel, .sentinel, .pinned], laidTests := true, laidLooks := .later }
def ProgBackCardSaid : Prop := Claim7.holds Tryd.pinned (.plain (OpenSpec.ofChange progBackSpec)) progBackCard

/-- THE TIED CARD OF 'beadlelaw10.ProgTexts'. -/
def progTextsCard : Claim7 := { stood := { row := progTextsRow, standIns := [], harness := (true, "19fad3eff02cf5b2849d8fe863fceec20c2f8f08a8a23aaeb12d4dfc740b64ce"), looks := true }, kinds := [], alts := [], laidByText := true, laidKinds := [.data, .data, .data, .data, .sentinel, .sentinel, .pinned], laidTests := true, laidLooks := .later }
def ProgTextsCardSaid : Prop := Claim7.holds Tryd.pinned (.plain (OpenSpec.ofChange progTextsSpec)) progTextsCard

/-- THE TIED CARD OF 'beadlelaw10.ProgJoins'. -/
def progJoinsCard : Claim7 := { stood := { row := progJoinsRow, standIns := [], harness := (true, "19fad3eff02cf5b2849d8fe863fceec20c2f8f08a8a23aaeb12d4dfc740b64ce"), looks := true }, kinds := [], alts := [], laidByText := true, laidKinds := [.data, .data, .data, .data, .sentinel, .sentinel, .pinned], laidTests := true, laidLooks := .later }
def ProgJoinsCardSaid : Prop := Claim7.holds Tryd.pinned (.plain (OpenSpec.ofChange progJoinsSpec)) progJoinsCard

/-- THE TIED CARD OF 'beadlelaw10.ProgSays'. -/
def progSaysCard : Claim7 := { stood := { row := progSaysRow, standIns := [], harness := (true, "19fad3eff02cf5b2849d8fe863fceec20c2f8f08a8a23aaeb12d4dfc740b64ce"), looks := true }, kinds := [], alts := [], laidByText := true, laidKinds := [.data, .data, .data, .data, .sentinel, .sentinel, .pinned], laidTests := true, laidLooks := .later }
def ProgSaysCardSaid : Prop := Claim7.holds Tryd.pinned (.plain (OpenSpec.ofChange progSaysSpec)) progSaysCard

/-- THE SECOND FORM's CARD OF 'beadlelaw10.ProgBack'. -/
def progBackUptoCard : Claim7 := { stood := { row := progBackUptoRow, standIns := [], harness := (true, "19fad3eff02cf5b2849d8fe863fceec20c2f8f08a8a23aaeb12d4dfc740b64ce"), looks := true }, kinds := [], alts := [], laidByText := true, laidKinds := [.data, .data, .data, .data, .sentinel, .sentinel, .pinned], laidTests := true, laidLooks := .later }
def ProgBackUptoCardSaid : Prop := Claim7.holds Tryd.pinned (.plain (OpenSpec.upto progBackSpec)) progBackUptoCard

/-- THE SECOND FORM's CARD OF 'beadlelaw10.ProgTexts'. -/
def progTextsUptoCard : Claim7 := { stood := { row := progTextsUptoRow, standIns := [], harness := (true, "19fad3eff02cf5b2849d8fe863fceec20c2f8f08a8a23aaeb12d4dfc740b64ce"), looks := true }, kinds := [], alts := [], laidByText := true, laidKinds := [.data, .data, .data, .data, .sentinel, .sentinel, .pinned], laidTests := true, laidLooks := .later }
def ProgTextsUptoCardSaid : Prop := Claim7.holds Tryd.pinned (.plain (OpenSpec.upto progTextsSpec)) progTextsUptoCard

/-- THE SECOND FORM's CARD OF 'beadlelaw10.ProgJoins'. -/
def progJoinsUptoCard : Claim7 := { stood := { row := progJoinsUptoRow, standIns := [], harness := (true, "19fad3eff02cf5b2849d8fe863fceec20c2f8f08a8a23aaeb12d4dfc740b64ce"), looks := true }, kinds := [], alts := [], laidByText := true, laidKinds := [.data, .data, .data, .data, .sentinel, .sentinel, .pinned], laidTests := true, laidLooks := .later }
def ProgJoinsUptoCardSaid : Prop := Claim7.holds Tryd.pinned (.plain (OpenSpec.upto progJoinsSpec)) progJoinsUptoCard

/-- THE SECOND FORM's CARD OF 'beadlelaw10.ProgSays'. -/
def progSaysUptoCard : Claim7 := { stood := { row := progSaysUptoRow, standIns := [], harness := (true, "19fad3eff02cf5b2849d8fe863fceec20c2f8f08a8a23aaeb12d4dfc740b64ce"), looks := true }, kinds := [], alts := [], laidByText := true, laidKinds := [.data, .data, .data, .data, .sentinel, .sentinel, .pinned], laidTests := true, laidLooks := .later }
def ProgSaysUptoCardSaid : Prop := Claim7.holds Tryd.pinned (.plain (OpenSpec.upto progSaysSpec)) progSaysUptoCard
end Rows
end Go.Proofs.YtnlmpkcninhnfaaDoor
