/-
  DERIVED. GIVEN WITH THE SEED: THE CARDS: each row of YtkoflhjnpilchaaDoorRows.lean that lists a variable, with what it lists TIED to the program's text (the seventh form; the later family's looks); each row that meets fmt, with fmt's text TOLD by the authors' own Lean function (tested against real Go, not proved from fmt's source: count such statements apart). THE CARD IS WHAT COUNTS. Prove the row's statement (the work); the ties are given (YtkoflhjnpilchaaDoorTie.lean); close each card by the builder's one call (the guide's Derived/Test/ToyasCard.lean, 'card_holds'). Laid BY PROGRAM, IN A SANDBOX (cutbox-door.mjs). By AI agents, Wed Nov 11 2026. No macro, syntax, notation, axiom, sorry.
-/
import Derived.Test.YtkoflhjnpilchaaDoorRows
import GoSem.ClaimSeven
namespace Go.Proofs.YtkoflhjnpilchaaDoor
namespace Rows

/-- THE TIED CARD OF 'gristmilllaw.ShopNews'. -/
def shopNewsCard : Claim7 := { stood := { row := shopNewsRow, standIns := [], harness := (true, "af0f234b5ba34725d7f8b1a4529d361b5f58248fb98b31bd4a85cd6ea431e099"), looks := true }, kinds := [], alts := [], laidByText := true, laidKinds := [.handle, .listed, .data], laidTests := true, laidLooks := .later }
def ShopNewsCardSaid : Prop := Claim7.holds Tryd.pinned (.plain (OpenSpec.ofChange shopNewsSpec)) shopNewsCard

/-- THE SECOND FORM's CARD OF 'gristmilllaw.ShopNews'. -/
def shopNewsUptoCard : Claim7 := { stood := { row := shopNewsUptoRow, standIns := [], harness := (true, "af0f234b5ba34725d7f8b1a4529d361b5f58248fb98b31bd4a85cd6ea431e099"), looks := true }, kinds := [], alts := [], laidByText := true, laidKinds := [.handle, .listed, .data], laidTests := true, laidLooks := .later }
def ShopNewsUptoCardSaid : Prop := Claim7.holds Tryd.pinned (.plain (OpenSpec.upto shopNewsSpec)) shopNewsUptoCard
end Rows
end Go.Proofs.YtkoflhjnpilchaaDoor
