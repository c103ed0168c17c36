/-
  DERIVED. GIVEN WITH THE SEED: THE CARDS: each row of YtfdbomflfhmecaaDoorRows.lean that lists a variable, with what it lists TIED to the program's text (the seventh form; the later family's looks); each row that meets fmt, with fmt's text TOLD by the authors' own Lean function (tested against real Go, not proved from fmt's source: count such statements apart). THE CARD IS WHAT COUNTS. Prove the row's statement (the work); the ties are given (YtfdbomflfhmecaaDoorTie.lean); close each card by the builder's one call (the guide's Derived/Test/ToyasCard.lean, 'card_holds'). Laid BY PROGRAM, IN A SANDBOX (cutbox-door.mjs). By AI agents, Wed Nov 11 2026. No macro, syntax, notation, axiom, sorry.
-/
import Derived.Test.YtfdbomflfhmecaaDoorRows
import GoSem.ClaimSeven
namespace Go.Proofs.YtfdbomflfhmecaaDoor
namespace Rows

/-- THE TIED CARD OF 'gristmilllaw.WordCounts'. -/
def wordCountsCard : Claim7 := { stood := { row := wordCountsRow, standIns := [], harness := (true, "a26e90bbfc9d5e315d6f3b8af5ee44177d5d3a061815b731f1033d90862d2102"), looks := false }, kinds := [], alts := [], laidByText := true, laidKinds := [.data], laidTests := true, laidLooks := .later }
def WordCountsCardSaid : Prop := Claim7.holds Tryd.pinned (.plain (OpenSpec.ofChange wordCountsSpec)) wordCountsCard

/-- THE SECOND FORM's CARD OF 'gristmilllaw.WordCounts'. -/
def wordCountsUptoCard : Claim7 := { stood := { row := wordCountsUptoRow, standIns := [], harness := (true, "a26e90bbfc9d5e315d6f3b8af5ee44177d5d3a061815b731f1033d90862d2102"), looks := false }, kinds := [], alts := [], laidByText := true, laidKinds := [.data], laidTests := true, laidLooks := .later }
def WordCountsUptoCardSaid : Prop := Claim7.holds Tryd.pinned (.plain (OpenSpec.upto wordCountsSpec)) wordCountsUptoCard
end Rows
end Go.Proofs.YtfdbomflfhmecaaDoor
