/-
  DERIVED. GIVEN WITH THE SEED: THE CARDS: each row of YtmfjmmplcbpokaaDoorRows.lean that lists a variable, with what it lists TIED to the program's text (the seventh form; the later family's looks); each row that meets fmt, with fmt's text TOLD by the authors' own Lean function (tested against real Go, not proved from fmt's source: count such statements apart). THE CARD IS WHAT COUNTS. Prove the row's statement (the work); the ties are given (YtmfjmmplcbpokaaDoorTie.lean); close each card by the builder's one call (the guide's Derived/Test/ToyasCard.lean, 'card_holds'). Laid BY PROGRAM, IN A SANDBOX (cutbox-door.mjs). By AI agents, Wed Nov 11 2026. No macro, syntax, notation, axiom, sorry.
-/
import Derived.Test.YtmfjmmplcbpokaaDoorRows
import GoSem.ClaimSeven
namespace Go.Proofs.YtmfjmmplcbpokaaDoor
namespace Rows

/-- THE TIED CARD OF 'gristmilllaw.StoreCopies'. -/
def storeCopiesCard : Claim7 := { stood := { row := storeCopiesRow, standIns := [], harness := (true, "3705ddff94aaeb2239e340362868f94a4792959dcc55ead0c09277030e476a62"), looks := true }, kinds := [], alts := [], laidByText := true, laidKinds := [.handle], laidTests := true, laidLooks := .later }
def StoreCopiesCardSaid : Prop := Claim7.holds Tryd.pinned (.plain (OpenSpec.ofChange storeCopiesSpec)) storeCopiesCard

/-- THE TIED CARD OF 'gristmilllaw.RecordDoes'. -/
def recordDoesCard : Claim7 := { stood := { row := recordDoesRow, standIns := [], harness := (true, "3705ddff94aaeb2239e340362868f94a4792959dcc55ead0c09277030e476a62"), looks := true }, kinds := [], alts := [], laidByText := true, laidKinds := [.handle], laidTests := true, laidLooks := .later }
def RecordDoesCardSaid : Prop := Claim7.holds Tryd.pinned (.plain (OpenSpec.ofChange recordDoesSpec)) recordDoesCard

/-- THE SECOND FORM's CARD OF 'gristmilllaw.StoreCopies'. -/
def storeCopiesUptoCard : Claim7 := { stood := { row := storeCopiesUptoRow, standIns := [], harness := (true, "3705ddff94aaeb2239e340362868f94a4792959dcc55ead0c09277030e476a62"), looks := true }, kinds := [], alts := [], laidByText := true, laidKinds := [.handle], laidTests := true, laidLooks := .later }
def StoreCopiesUptoCardSaid : Prop := Claim7.holds Tryd.pinned (.plain (OpenSpec.upto storeCopiesSpec)) storeCopiesUptoCard

/-- THE SECOND FORM's CARD OF 'gristmilllaw.RecordDoes'. -/
def recordDoesUptoCard : Claim7 := { stood := { row := recordDoesUptoRow, standIns := [], harness := (true, "3705ddff94aaeb2239e340362868f94a4792959dcc55ead0c09277030e476a62"), looks := true }, kinds := [], alts := [], laidByText := true, laidKinds := [.handle], laidTests := true, laidLooks := .later }
def RecordDoesUptoCardSaid : Prop := Claim7.holds Tryd.pinned (.plain (OpenSpec.upto recordDoesSpec)) recordDoesUptoCard
end Rows
end Go.Proofs.YtmfjmmplcbpokaaDoor
