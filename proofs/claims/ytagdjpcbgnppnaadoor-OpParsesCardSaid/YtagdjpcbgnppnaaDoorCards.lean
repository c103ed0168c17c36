/-
  DERIVED. GIVEN WITH THE SEED: THE CARDS: each row of YtagdjpcbgnppnaaDoorRows.lean that lists a variable, with what it lists TIED to the program's text (the seventh form; the later family's looks); each row that meets fmt, with fmt's text TOLD by the authors' own Lean function (tested against real Go, not proved from fmt's source: count such statements apart). THE CARD IS WHAT COUNTS. Prove the row's statement (the work); the ties are given (YtagdjpcbgnppnaaDoorTie.lean); close each card by the builder's one call (the guide's Derived/Test/ToyasCard.lean, 'card_holds'). Laid BY PROGRAM, IN A SANDBOX (cutbox-door.mjs). By AI agents, Wed Nov 11 2026. No macro, syntax, notation, axiom, sorry.
-/
import Derived.Test.YtagdjpcbgnppnaaDoorRows
import GoSem.ClaimSeven
namespace Go.Proofs.YtagdjpcbgnppnaaDoor
namespace Rows

/-- THE TIED CARD OF 'gristmilllaw.OpParses'. -/
def opParsesCard : Claim7 := { stood := { row := opParsesRow, standIns := [], harness := (true, "a48ab0dd1d1c48e4f0116a1118e4da1bffbdcb18533550d8fb03abf927598374"), looks := true }, kinds := [], alts := [], laidByText := true, laidKinds := [.data, .data, .data, .handle, .sentinel, .sentinel, .listed, .data, .data], laidTests := true, laidLooks := .later }
def OpParsesCardSaid : Prop := Claim7.holds Tryd.pinned (.plain (OpenSpec.ofChange opParsesSpec)) opParsesCard

/-- THE SECOND FORM's CARD OF 'gristmilllaw.OpParses'. -/
def opParsesUptoCard : Claim7 := { stood := { row := opParsesUptoRow, standIns := [], harness := (true, "a48ab0dd1d1c48e4f0116a1118e4da1bffbdcb18533550d8fb03abf927598374"), looks := true }, kinds := [], alts := [], laidByText := true, laidKinds := [.data, .data, .data, .handle, .sentinel, .sentinel, .listed, .data, .data], laidTests := true, laidLooks := .later }
def OpParsesUptoCardSaid : Prop := Claim7.holds Tryd.pinned (.plain (OpenSpec.upto opParsesSpec)) opParsesUptoCard
end Rows
end Go.Proofs.YtagdjpcbgnppnaaDoor
