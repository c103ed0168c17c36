/-
  DERIVED. GIVEN WITH THE SEED: THE CARDS: each row of YtncgpaajbflaeaaDoorRows.lean that lists a variable, with what it lists TIED to the program's text (the seventh form; the later family's looks); each row that meets fmt, with fmt's text TOLD by the authors' own Lean function (tested against real Go, not proved from fmt's source: count such statements apart). THE CARD IS WHAT COUNTS. Prove the row's statement (the work); the ties are given (YtncgpaajbflaeaaDoorTie.lean); close each card by the builder's one call (the guide's Derived/Test/ToyasCard.lean, 'card_holds'). Laid BY PROGRAM, IN A SANDBOX (cutbox-door.mjs). By AI agents, Wed Nov 11 2026. No macro, syntax, notation, axiom, sorry.
-/
import Derived.Test.YtncgpaajbflaeaaDoorRows
import GoSem.ClaimSeven
namespace Go.Proofs.YtncgpaajbflaeaaDoor
namespace Rows

/-- THE TIED CARD OF 'gristmilllaw.ObjectNames'. -/
def objectNamesCard : Claim7 := { stood := { row := objectNamesRow, standIns := [], harness := (true, "8ac7001b3810a4f2e02ce051b2533ff0d5b02720233299fcb19626c8a522883e"), looks := true }, kinds := [], alts := [], laidByText := true, laidKinds := [.listed, .data], laidTests := true, laidLooks := .later }
def ObjectNamesCardSaid : Prop := Claim7.holds Tryd.pinned (.plain (OpenSpec.ofChange objectNamesSpec)) objectNamesCard

/-- THE TIED CARD OF 'gristmilllaw.RecordNews'. -/
def recordNewsCard : Claim7 := { stood := { row := recordNewsRow, standIns := [], harness := (true, "8ac7001b3810a4f2e02ce051b2533ff0d5b02720233299fcb19626c8a522883e"), looks := true }, kinds := [], alts := [], laidByText := true, laidKinds := [.handle, .listed, .data], laidTests := true, laidLooks := .later }
def RecordNewsCardSaid : Prop := Claim7.holds Tryd.pinned (.plain (OpenSpec.ofChange recordNewsSpec)) recordNewsCard

/-- THE TIED CARD OF 'gristmilllaw.OpSays'. -/
def opSaysCard : Claim7 := { stood := { row := opSaysRow, standIns := [], harness := (true, "8ac7001b3810a4f2e02ce051b2533ff0d5b02720233299fcb19626c8a522883e"), looks := true }, kinds := [], alts := [], laidByText := true, laidKinds := [.data, .data, .data, .listed, .data, .data], laidTests := true, laidLooks := .later }
def OpSaysCardSaid : Prop := Claim7.holds Tryd.pinned (.plain (OpenSpec.ofChange opSaysSpec)) opSaysCard

/-- THE TIED CARD OF 'gristmilllaw.StoryLines'. -/
def storyLinesCard : Claim7 := { stood := { row := storyLinesRow, standIns := [], harness := (true, "8ac7001b3810a4f2e02ce051b2533ff0d5b02720233299fcb19626c8a522883e"), looks := true }, kinds := [], alts := [], laidByText := true, laidKinds := [.data, .data, .data, .listed, .data, .data, .data], laidTests := true, laidLooks := .later }
def StoryLinesCardSaid : Prop := Claim7.holds Tryd.pinned (.plain (OpenSpec.ofChange storyLinesSpec)) storyLinesCard

/-- THE TIED CARD OF 'gristmilllaw.StoryDeeds'. -/
def storyDeedsCard : Claim7 := { stood := { row := storyDeedsRow, standIns := [], harness := (true, "8ac7001b3810a4f2e02ce051b2533ff0d5b02720233299fcb19626c8a522883e"), looks := true }, kinds := [], alts := [], laidByText := true, laidKinds := [.data, .data, .data, .listed, .data, .data, .data], laidTests := true, laidLooks := .later }
def StoryDeedsCardSaid : Prop := Claim7.holds Tryd.pinned (.plain (OpenSpec.ofChange storyDeedsSpec)) storyDeedsCard

/-- THE TIED CARD OF 'gristmilllaw.OpPrints'. -/
def opPrintsCard : Claim7 := { stood := { row := opPrintsRow, standIns := [], harness := (true, "8ac7001b3810a4f2e02ce051b2533ff0d5b02720233299fcb19626c8a522883e"), looks := true }, kinds := [], alts := [], laidByText := true, laidKinds := [.data, .data, .data, .handle, .listed, .data, .data], laidTests := true, laidLooks := .later }
def OpPrintsCardSaid : Prop := Claim7.holds Tryd.pinned (.plain (OpenSpec.ofChange opPrintsSpec)) opPrintsCard

/-- THE SECOND FORM's CARD OF 'gristmilllaw.ObjectNames'. -/
def objectNamesUptoCard : Claim7 := { stood := { row := objectNamesUptoRow, standIns := [], harness := (true, "8ac7001b3810a4f2e02ce051b2533ff0d5b02720233299fcb19626c8a522883e"), looks := true }, kinds := [], alts := [], laidByText := true, laidKinds := [.listed, .data], laidTests := true, laidLooks := .later }
def ObjectNamesUptoCardSaid : Prop := Claim7.holds Tryd.pinned (.plain (OpenSpec.upto objectNamesSpec)) objectNamesUptoCard

/-- THE SECOND FORM's CARD OF 'gristmilllaw.RecordNews'. -/
def recordNewsUptoCard : Claim7 := { stood := { row := recordNewsUptoRow, standIns := [], harness := (true, "8ac7001b3810a4f2e02ce051b2533ff0d5b02720233299fcb19626c8a522883e"), looks := true }, kinds := [], alts := [], laidByText := true, laidKinds := [.handle, .listed, .data], laidTests := true, laidLooks := .later }
def RecordNewsUptoCardSaid : Prop := Claim7.holds Tryd.pinned (.plain (OpenSpec.upto recordNewsSpec)) recordNewsUptoCard

/-- THE SECOND FORM's CARD OF 'gristmilllaw.OpSays'. -/
def opSaysUptoCard : Claim7 := { stood := { row := opSaysUptoRow, standIns := [], harness := (true, "8ac7001b3810a4f2e02ce051b2533ff0d5b02720233299fcb19626c8a522883e"), looks := true }, kinds := [], alts := [], laidByText := true, laidKinds := [.data, .data, .data, .listed, .data, .data], laidTests := true, laidLooks := .later }
def OpSaysUptoCardSaid : Prop := Claim7.holds Tryd.pinned (.plain (OpenSpec.upto opSaysSpec)) opSaysUptoCard

/-- THE SECOND FORM's CARD OF 'gristmilllaw.StoryLines'. -/
def storyLinesUptoCard : Claim7 := { stood := { row := storyLinesUptoRow, standIns := [], harness := (true, "8ac7001b3810a4f2e02ce051b2533ff0d5b02720233299fcb19626c8a522883e"), looks := true }, kinds := [], alts := [], laidByText := true, laidKinds := [.data, .data, .data, .listed, .data, .data, .data], laidTests := true, laidLooks := .later }
def StoryLinesUptoCardSaid : Prop := Claim7.holds Tryd.pinned (.plain (OpenSpec.upto storyLinesSpec)) storyLinesUptoCard

/-- THE SECOND FORM's CARD OF 'gristmilllaw.StoryDeeds'. -/
def storyDeedsUptoCard : Claim7 := { stood := { row := storyDeedsUptoRow, standIns := [], harness := (true, "8ac7001b3810a4f2e02ce051b2533ff0d5b02720233299fcb19626c8a522883e"), looks := true }, kinds := [], alts := [], laidByText := true, laidKinds := [.data, .data, .data, .listed, .data, .data, .data], laidTests := true, laidLooks := .later }
def StoryDeedsUptoCardSaid : Prop := Claim7.holds Tryd.pinned (.plain (OpenSpec.upto storyDeedsSpec)) storyDeedsUptoCard

/-- THE SECOND FORM's CARD OF 'gristmilllaw.OpPrints'. -/
def opPrintsUptoCard : Claim7 := { stood := { row := opPrintsUptoRow, standIns := [], harness := (true, "8ac7001b3810a4f2e02ce051b2533ff0d5b02720233299fcb19626c8a522883e"), looks := true }, kinds := [], alts := [], laidByText := true, laidKinds := [.data, .data, .data, .handle, .listed, .data, .data], laidTests := true, laidLooks := .later }
def OpPrintsUptoCardSaid : Prop := Claim7.holds Tryd.pinned (.plain (OpenSpec.upto opPrintsSpec)) opPrintsUptoCard
end Rows
end Go.Proofs.YtncgpaajbflaeaaDoor
