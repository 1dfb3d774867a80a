/-
  DERIVED. GIVEN WITH THE SEED: THE CARDS: each row of YtmdiokmkokjpiaaDoorRows.lean that lists a variable, with what it lists TIED to the program's text (the seventh form; the later family's looks); each row that meets fmt, with fmt's text TOLD by the authors' own Lean function (tested against real Go, not proved from fmt's source: count such statements apart). THE CARD IS WHAT COUNTS. Prove the row's statement (the work); the ties are given (YtmdiokmkokjpiaaDoorTie.lean); close each card by the builder's one call (the guide's Derived/Test/ToyasCard.lean, 'card_holds'). Laid BY PROGRAM, IN A SANDBOX (cutbox-door.mjs). By AI agents, Wed Nov 11 2026. No macro, syntax, notation, axiom, sorry.
-/
import Derived.Test.YtmdiokmkokjpiaaDoorRows
import GoSem.ClaimSeven
namespace Go.Proofs.YtmdiokmkokjpiaaDoor
namespace Rows

/-- THE TIED CARD OF 'woodgraintop.TopMemory'. -/
def topMemoryCard : Claim7 := { stood := { row := topMemoryRow, standIns := [], harness := (true, "1ae687223d046aac21f078058230e4fc2beb799fa21f47633c219b01107ab1f2"), looks := false }, kinds := [], alts := [], laidByText := true, laidKinds := [.listed, .data], laidTests := true, laidLooks := .later }
def TopMemoryCardSaid : Prop := Claim7.holds Tryd.pinned (.plain (OpenSpec.ofChange topMemorySpec)) topMemoryCard

/-- THE TIED CARD OF 'woodgraintop.TopStack'. -/
def topStackCard : Claim7 := { stood := { row := topStackRow, standIns := [], harness := (true, "1ae687223d046aac21f078058230e4fc2beb799fa21f47633c219b01107ab1f2"), looks := false }, kinds := [], alts := [], laidByText := true, laidKinds := [.listed, .data], laidTests := true, laidLooks := .later }
def TopStackCardSaid : Prop := Claim7.holds Tryd.pinned (.plain (OpenSpec.ofChange topStackSpec)) topStackCard

/-- THE SECOND FORM's CARD OF 'woodgraintop.TopMemory'. -/
def topMemoryUptoCard : Claim7 := { stood := { row := topMemoryUptoRow, standIns := [], harness := (true, "1ae687223d046aac21f078058230e4fc2beb799fa21f47633c219b01107ab1f2"), looks := false }, kinds := [], alts := [], laidByText := true, laidKinds := [.listed, .data], laidTests := true, laidLooks := .later }
def TopMemoryUptoCardSaid : Prop := Claim7.holds Tryd.pinned (.plain (OpenSpec.upto topMemorySpec)) topMemoryUptoCard

/-- THE SECOND FORM's CARD OF 'woodgraintop.TopStack'. -/
def topStackUptoCard : Claim7 := { stood := { row := topStackUptoRow, standIns := [], harness := (true, "1ae687223d046aac21f078058230e4fc2beb799fa21f47633c219b01107ab1f2"), looks := false }, kinds := [], alts := [], laidByText := true, laidKinds := [.listed, .data], laidTests := true, laidLooks := .later }
def TopStackUptoCardSaid : Prop := Claim7.holds Tryd.pinned (.plain (OpenSpec.upto topStackSpec)) topStackUptoCard
end Rows
end Go.Proofs.YtmdiokmkokjpiaaDoor
