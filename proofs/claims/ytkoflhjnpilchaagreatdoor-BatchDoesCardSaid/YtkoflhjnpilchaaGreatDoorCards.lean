/-
  DERIVED. GIVEN WITH THE SEED: THE CARDS: each row of YtkoflhjnpilchaaGreatDoorRows.lean that lists a variable, with what it lists TIED to the program's text (the seventh form; the later family's looks); each row that meets fmt, with fmt's text TOLD by the authors' own Lean function (tested against real Go, not proved from fmt's source: count such statements apart). THE CARD IS WHAT COUNTS. Prove the row's statement (the work); the ties are given (YtkoflhjnpilchaaGreatDoorTie.lean); close each card by the builder's one call (the guide's Derived/Test/ToyasCard.lean, 'card_holds'). Laid BY PROGRAM, IN A SANDBOX (cutbox-door.mjs). By AI agents, Wed Nov 11 2026. No macro, syntax, notation, axiom, sorry.
-/
import Derived.Test.YtkoflhjnpilchaaGreatDoorRows
import GoSem.ClaimSeven
namespace Go.Proofs.YtkoflhjnpilchaaGreatDoor
namespace Rows

/-- THE TIED CARD OF 'gristmilllaw.BatchDoes'. -/
def batchDoesCard : Claim7 := { stood := { row := batchDoesRow, standIns := [], harness := (true, "084d2759a274db37fc2b80e5c0829a562ae8921c3aa70d826dc00c3db58f2faf"), looks := true }, kinds := [], alts := [], laidByText := true, laidKinds := [.handle], laidTests := true, laidLooks := .later }
def BatchDoesCardSaid : Prop := Claim7.holds Tryz.pinned (.plain (OpenSpec.ofChange batchDoesSpec)) batchDoesCard

/-- THE SECOND FORM's CARD OF 'gristmilllaw.BatchDoes'. -/
def batchDoesUptoCard : Claim7 := { stood := { row := batchDoesUptoRow, standIns := [], harness := (true, "084d2759a274db37fc2b80e5c0829a562ae8921c3aa70d826dc00c3db58f2faf"), looks := true }, kinds := [], alts := [], laidByText := true, laidKinds := [.handle], laidTests := true, laidLooks := .later }
def BatchDoesUptoCardSaid : Prop := Claim7.holds Tryz.pinned (.plain (OpenSpec.upto batchDoesSpec)) batchDoesUptoCard
end Rows
end Go.Proofs.YtkoflhjnpilchaaGreatDoor
