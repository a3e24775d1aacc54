/-
  DERIVED. GIVEN WITH THE SEED: THE CARDS: each row of YtpmamacjepcdmaaDoorRows.lean that lists a variable, with what it lists TIED to the program's text (the seventh form; the later family's looks); each row that meets fmt, with fmt's text TOLD by the authors' own Lean function (tested against real Go, not proved from fmt's source: count such statements apart). THE CARD IS WHAT COUNTS. Prove the row's statement (the work); the ties are given (YtpmamacjepcdmaaDoorTie.lean); close each card by the builder's one call (the guide's Derived/Test/ToyasCard.lean, 'card_holds'). Laid BY PROGRAM, IN A SANDBOX (cutbox-door.mjs). By AI agents, Wed Nov 11 2026. No macro, syntax, notation, axiom, sorry.
-/
import Derived.Test.YtpmamacjepcdmaaDoorRows
import GoSem.ClaimSeven
namespace Go.Proofs.YtpmamacjepcdmaaDoor
namespace Rows

/-- THE TIED CARD OF 'turnstilelaw.KeySays'. -/
def keySaysCard : Claim7 := { stood := { row := keySaysRow, standIns := [], harness := (true, "4a09b34aac79786d2f3c1c905451588a2e6eaee5b3978303b346a9e6335a2bd9"), looks := true }, kinds := [], alts := [], laidByText := true, laidKinds := [.data, .data, .data, .data, .sentinel, .sentinel, .pinned], laidTests := true, laidLooks := .later }
def KeySaysCardSaid : Prop := Claim7.holds Tryd.pinned (.plain (OpenSpec.ofChange keySaysSpec)) keySaysCard

/-- THE TIED CARD OF 'turnstilelaw.KeyBack'. -/
def keyBackCard : Claim7 := { stood := { row := keyBackRow, standIns := [], harness := (true, "4a09b34aac79786d2f3c1c905451588a2e6eaee5b3978303b346a9e6335a2bd9"), looks := true }, kinds := [], alts := [], laidByText := true, laidKinds := [.data, .data, .data, .sentinel, .sentinel], laidTests := true, laidLooks := .later }
def KeyBackCardSaid : Prop := Claim7.holds Tryd.pinned (.plain (OpenSpec.ofChange keyBackSpec)) keyBackCard

/-- THE TIED CARD OF 'turnstilelaw.KeyApart'. -/
def keyApartCard : Claim7 := { stood := { row := keyApartRow, standIns := [], harness := (true, "4a09b34aac79786d2f3c1c905451588a2e6eaee5b3978303b346a9e6335a2bd9"), looks := true }, kinds := [], alts := [], laidByText := true, laidKinds := [.data, .data, .data, .sentinel, .sentinel], laidTests := true, laidLooks := .later }
def KeyApartCardSaid : Prop := Claim7.holds Tryd.pinned (.plain (OpenSpec.ofChange keyApartSpec)) keyApartCard

/-- THE SECOND FORM's CARD OF 'turnstilelaw.KeySays'. -/
def keySaysUptoCard : Claim7 := { stood := { row := keySaysUptoRow, standIns := [], harness := (true, "4a09b34aac79786d2f3c1c905451588a2e6eaee5b3978303b346a9e6335a2bd9"), looks := true }, kinds := [], alts := [], laidByText := true, laidKinds := [.data, .data, .data, .data, .sentinel, .sentinel, .pinned], laidTests := true, laidLooks := .later }
def KeySaysUptoCardSaid : Prop := Claim7.holds Tryd.pinned (.plain (OpenSpec.upto keySaysSpec)) keySaysUptoCard

/-- THE SECOND FORM's CARD OF 'turnstilelaw.KeyBack'. -/
def keyBackUptoCard : Claim7 := { stood := { row := keyBackUptoRow, standIns := [], harness := (true, "4a09b34aac79786d2f3c1c905451588a2e6eaee5b3978303b346a9e6335a2bd9"), looks := true }, kinds := [], alts := [], laidByText := true, laidKinds := [.data, .data, .data, .sentinel, .sentinel], laidTests := true, laidLooks := .later }
def KeyBackUptoCardSaid : Prop := Claim7.holds Tryd.pinned (.plain (OpenSpec.upto keyBackSpec)) keyBackUptoCard

/-- THE SECOND FORM's CARD OF 'turnstilelaw.KeyApart'. -/
def keyApartUptoCard : Claim7 := { stood := { row := keyApartUptoRow, standIns := [], harness := (true, "4a09b34aac79786d2f3c1c905451588a2e6eaee5b3978303b346a9e6335a2bd9"), looks := true }, kinds := [], alts := [], laidByText := true, laidKinds := [.data, .data, .data, .sentinel, .sentinel], laidTests := true, laidLooks := .later }
def KeyApartUptoCardSaid : Prop := Claim7.holds Tryd.pinned (.plain (OpenSpec.upto keyApartSpec)) keyApartUptoCard
end Rows
end Go.Proofs.YtpmamacjepcdmaaDoor
