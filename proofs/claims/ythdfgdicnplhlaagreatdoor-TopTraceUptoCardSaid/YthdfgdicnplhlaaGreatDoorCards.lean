/-
  DERIVED. GIVEN WITH THE SEED: THE CARDS: each row of YthdfgdicnplhlaaGreatDoorRows.lean that lists a variable, with what it lists TIED to the program's text (the seventh form; the later family's looks); each row that meets fmt, with fmt's text TOLD by the authors' own Lean function (tested against real Go, not proved from fmt's source: count such statements apart). THE CARD IS WHAT COUNTS. Prove the row's statement (the work); the ties are given (YthdfgdicnplhlaaGreatDoorTie.lean); close each card by the builder's one call (the guide's Derived/Test/ToyasCard.lean, 'card_holds'). Laid BY PROGRAM, IN A SANDBOX (cutbox-door.mjs). By AI agents, Wed Nov 11 2026. No macro, syntax, notation, axiom, sorry.
-/
import Derived.Test.YthdfgdicnplhlaaGreatDoorRows
import GoSem.ClaimSeven
namespace Go.Proofs.YthdfgdicnplhlaaGreatDoor
namespace Rows

/-- THE TIED CARD OF 'caravantop.TopTrace'. -/
def topTraceCard : Claim7 := { stood := { row := topTraceRow, standIns := [], harness := (true, "79df86cdfbb92c5c76cc0fb7119475b3cbaf4655da58d520b81866069a3a0bd5"), looks := false }, kinds := [], alts := [], laidByText := true, laidKinds := [.data], laidTests := true, laidLooks := .later }
def TopTraceCardSaid : Prop := Claim7.holds Tryz.pinned (.plain (OpenSpec.ofChange topTraceSpec)) topTraceCard

/-- THE SECOND FORM's CARD OF 'caravantop.TopTrace'. -/
def topTraceUptoCard : Claim7 := { stood := { row := topTraceUptoRow, standIns := [], harness := (true, "79df86cdfbb92c5c76cc0fb7119475b3cbaf4655da58d520b81866069a3a0bd5"), looks := false }, kinds := [], alts := [], laidByText := true, laidKinds := [.data], laidTests := true, laidLooks := .later }
def TopTraceUptoCardSaid : Prop := Claim7.holds Tryz.pinned (.plain (OpenSpec.upto topTraceSpec)) topTraceUptoCard
end Rows
end Go.Proofs.YthdfgdicnplhlaaGreatDoor
