/-
  DERIVED. GIVEN WITH THE SEED: THE CARDS: each row of YtdogjdgfidbfhaaDoorRows.lean that lists a variable, with what it lists TIED to the program's text (the seventh form; the later family's looks); each row that meets fmt, with fmt's text TOLD by the authors' own Lean function (tested against real Go, not proved from fmt's source: count such statements apart). THE CARD IS WHAT COUNTS. Prove the row's statement (the work); the ties are given (YtdogjdgfidbfhaaDoorTie.lean); close each card by the builder's one call (the guide's Derived/Test/ToyasCard.lean, 'card_holds'). Laid BY PROGRAM, IN A SANDBOX (cutbox-door.mjs). By AI agents, Wed Nov 11 2026. No macro, syntax, notation, axiom, sorry.
-/
import Derived.Test.YtdogjdgfidbfhaaDoorRows
import GoSem.ClaimSeven
namespace Go.Proofs.YtdogjdgfidbfhaaDoor
namespace Rows

/-- THE TIED CARD OF 'gristmilllaw.JudgeFits'. -/
def judgeFitsCard : Claim7 := { stood := { row := judgeFitsRow, standIns := [], harness := (true, "9db894c8e073939c95a4a05f3217fe3bfdea3927a29b9a37df21a238e8f988e2"), looks := true }, kinds := [], alts := [], laidByText := true, laidKinds := [.handle], laidTests := true, laidLooks := .later }
def JudgeFitsCardSaid : Prop := Claim7.holds Tryd.pinned (.plain (OpenSpec.ofChange judgeFitsSpec)) judgeFitsCard

/-- THE SECOND FORM's CARD OF 'gristmilllaw.JudgeFits'. -/
def judgeFitsUptoCard : Claim7 := { stood := { row := judgeFitsUptoRow, standIns := [], harness := (true, "9db894c8e073939c95a4a05f3217fe3bfdea3927a29b9a37df21a238e8f988e2"), looks := true }, kinds := [], alts := [], laidByText := true, laidKinds := [.handle], laidTests := true, laidLooks := .later }
def JudgeFitsUptoCardSaid : Prop := Claim7.holds Tryd.pinned (.plain (OpenSpec.upto judgeFitsSpec)) judgeFitsUptoCard
end Rows
end Go.Proofs.YtdogjdgfidbfhaaDoor
