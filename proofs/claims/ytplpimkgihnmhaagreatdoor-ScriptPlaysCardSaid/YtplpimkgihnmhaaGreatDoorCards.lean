/-
  DERIVED. GIVEN WITH THE SEED: THE CARDS: each row of YtplpimkgihnmhaaGreatDoorRows.lean that lists a variable, with what it lists TIED to the program's text (the seventh form; the later family's looks); each row that meets fmt, with fmt's text TOLD by the authors' own Lean function (tested against real Go, not proved from fmt's source: count such statements apart). THE CARD IS WHAT COUNTS. Prove the row's statement (the work); the ties are given (YtplpimkgihnmhaaGreatDoorTie.lean); close each card by the builder's one call (the guide's Derived/Test/ToyasCard.lean, 'card_holds'). Laid BY PROGRAM, IN A SANDBOX (cutbox-door.mjs). By AI agents, Wed Nov 11 2026. No macro, syntax, notation, axiom, sorry.
-/
import Derived.Test.YtplpimkgihnmhaaGreatDoorRows
import GoSem.ClaimSeven
namespace Go.Proofs.YtplpimkgihnmhaaGreatDoor
namespace Rows

/-- THE TIED CARD OF 'gristmilllaw.WorkerSteps'. -/
def workerStepsCard : Claim7 := { stood := { row := workerStepsRow, standIns := [], harness := (true, "a003c9205c19ae38bc069139e7e18f6258b305f488c61c05e3315bd2c7340860"), looks := true }, kinds := [], alts := [], laidByText := true, laidKinds := [.handle, .listed, .data], laidTests := true, laidLooks := .later }
def WorkerStepsCardSaid : Prop := Claim7.holds Tryz.pinned (.plain (OpenSpec.ofChange workerStepsSpec)) workerStepsCard

/-- THE TIED CARD OF 'gristmilllaw.ShopDoes'. -/
def shopDoesCard : Claim7 := { stood := { row := shopDoesRow, standIns := [], harness := (true, "a003c9205c19ae38bc069139e7e18f6258b305f488c61c05e3315bd2c7340860"), looks := true }, kinds := [], alts := [], laidByText := true, laidKinds := [.handle, .listed, .data], laidTests := true, laidLooks := .later }
def ShopDoesCardSaid : Prop := Claim7.holds Tryz.pinned (.plain (OpenSpec.ofChange shopDoesSpec)) shopDoesCard

/-- THE TIED CARD OF 'gristmilllaw.ShopHistory'. -/
def shopHistoryCard : Claim7 := { stood := { row := shopHistoryRow, standIns := [], harness := (true, "a003c9205c19ae38bc069139e7e18f6258b305f488c61c05e3315bd2c7340860"), looks := true }, kinds := [], alts := [], laidByText := true, laidKinds := [.handle, .listed, .data], laidTests := true, laidLooks := .later }
def ShopHistoryCardSaid : Prop := Claim7.holds Tryz.pinned (.plain (OpenSpec.ofChange shopHistorySpec)) shopHistoryCard

/-- THE TIED CARD OF 'gristmilllaw.ShopCosts'. -/
def shopCostsCard : Claim7 := { stood := { row := shopCostsRow, standIns := [], harness := (true, "a003c9205c19ae38bc069139e7e18f6258b305f488c61c05e3315bd2c7340860"), looks := true }, kinds := [], alts := [], laidByText := true, laidKinds := [.handle, .listed, .data], laidTests := true, laidLooks := .later }
def ShopCostsCardSaid : Prop := Claim7.holds Tryz.pinned (.plain (OpenSpec.ofChange shopCostsSpec)) shopCostsCard

/-- THE TIED CARD OF 'gristmilllaw.ShopDeeds'. -/
def shopDeedsCard : Claim7 := { stood := { row := shopDeedsRow, standIns := [], harness := (true, "a003c9205c19ae38bc069139e7e18f6258b305f488c61c05e3315bd2c7340860"), looks := true }, kinds := [], alts := [], laidByText := true, laidKinds := [.handle, .listed, .data], laidTests := true, laidLooks := .later }
def ShopDeedsCardSaid : Prop := Claim7.holds Tryz.pinned (.plain (OpenSpec.ofChange shopDeedsSpec)) shopDeedsCard

/-- THE TIED CARD OF 'gristmilllaw.ShopRecords'. -/
def shopRecordsCard : Claim7 := { stood := { row := shopRecordsRow, standIns := [], harness := (true, "a003c9205c19ae38bc069139e7e18f6258b305f488c61c05e3315bd2c7340860"), looks := true }, kinds := [], alts := [], laidByText := true, laidKinds := [.handle, .listed, .data], laidTests := true, laidLooks := .later }
def ShopRecordsCardSaid : Prop := Claim7.holds Tryz.pinned (.plain (OpenSpec.ofChange shopRecordsSpec)) shopRecordsCard

/-- THE TIED CARD OF 'gristmilllaw.ShopCalls'. -/
def shopCallsCard : Claim7 := { stood := { row := shopCallsRow, standIns := [], harness := (true, "a003c9205c19ae38bc069139e7e18f6258b305f488c61c05e3315bd2c7340860"), looks := true }, kinds := [], alts := [], laidByText := true, laidKinds := [.handle, .listed, .data], laidTests := true, laidLooks := .later }
def ShopCallsCardSaid : Prop := Claim7.holds Tryz.pinned (.plain (OpenSpec.ofChange shopCallsSpec)) shopCallsCard

/-- THE TIED CARD OF 'gristmilllaw.ShopSteps'. -/
def shopStepsCard : Claim7 := { stood := { row := shopStepsRow, standIns := [], harness := (true, "a003c9205c19ae38bc069139e7e18f6258b305f488c61c05e3315bd2c7340860"), looks := true }, kinds := [], alts := [], laidByText := true, laidKinds := [.handle, .listed, .data], laidTests := true, laidLooks := .later }
def ShopStepsCardSaid : Prop := Claim7.holds Tryz.pinned (.plain (OpenSpec.ofChange shopStepsSpec)) shopStepsCard

/-- THE TIED CARD OF 'gristmilllaw.ShopRuns'. -/
def shopRunsCard : Claim7 := { stood := { row := shopRunsRow, standIns := [], harness := (true, "a003c9205c19ae38bc069139e7e18f6258b305f488c61c05e3315bd2c7340860"), looks := true }, kinds := [], alts := [], laidByText := true, laidKinds := [.handle, .listed, .data], laidTests := true, laidLooks := .later }
def ShopRunsCardSaid : Prop := Claim7.holds Tryz.pinned (.plain (OpenSpec.ofChange shopRunsSpec)) shopRunsCard

/-- THE TIED CARD OF 'gristmilllaw.ShopCrashes'. -/
def shopCrashesCard : Claim7 := { stood := { row := shopCrashesRow, standIns := [], harness := (true, "a003c9205c19ae38bc069139e7e18f6258b305f488c61c05e3315bd2c7340860"), looks := true }, kinds := [], alts := [], laidByText := true, laidKinds := [.handle, .listed, .data], laidTests := true, laidLooks := .later }
def ShopCrashesCardSaid : Prop := Claim7.holds Tryz.pinned (.plain (OpenSpec.ofChange shopCrashesSpec)) shopCrashesCard

/-- THE TIED CARD OF 'gristmilllaw.ScriptPlays'. -/
def scriptPlaysCard : Claim7 := { stood := { row := scriptPlaysRow, standIns := [], harness := (true, "a003c9205c19ae38bc069139e7e18f6258b305f488c61c05e3315bd2c7340860"), looks := true }, kinds := [], alts := [], laidByText := true, laidKinds := [.handle, .listed, .data], laidTests := true, laidLooks := .later }
def ScriptPlaysCardSaid : Prop := Claim7.holds Tryz.pinned (.plain (OpenSpec.ofChange scriptPlaysSpec)) scriptPlaysCard

/-- THE SECOND FORM's CARD OF 'gristmilllaw.WorkerSteps'. -/
def workerStepsUptoCard : Claim7 := { stood := { row := workerStepsUptoRow, standIns := [], harness := (true, "a003c9205c19ae38bc069139e7e18f6258b305f488c61c05e3315bd2c7340860"), looks := true }, kinds := [], alts := [], laidByText := true, laidKinds := [.handle, .listed, .data], laidTests := true, laidLooks := .later }
def WorkerStepsUptoCardSaid : Prop := Claim7.holds Tryz.pinned (.plain (OpenSpec.upto workerStepsSpec)) workerStepsUptoCard

/-- THE SECOND FORM's CARD OF 'gristmilllaw.ShopDoes'. -/
def shopDoesUptoCard : Claim7 := { stood := { row := shopDoesUptoRow, standIns := [], harness := (true, "a003c9205c19ae38bc069139e7e18f6258b305f488c61c05e3315bd2c7340860"), looks := true }, kinds := [], alts := [], laidByText := true, laidKinds := [.handle, .listed, .data], laidTests := true, laidLooks := .later }
def ShopDoesUptoCardSaid : Prop := Claim7.holds Tryz.pinned (.plain (OpenSpec.upto shopDoesSpec)) shopDoesUptoCard

/-- THE SECOND FORM's CARD OF 'gristmilllaw.ShopHistory'. -/
def shopHistoryUptoCard : Claim7 := { stood := { row := shopHistoryUptoRow, standIns := [], harness := (true, "a003c9205c19ae38bc069139e7e18f6258b305f488c61c05e3315bd2c7340860"), looks := true }, kinds := [], alts := [], laidByText := true, laidKinds := [.handle, .listed, .data], laidTests := true, laidLooks := .later }
def ShopHistoryUptoCardSaid : Prop := Claim7.holds Tryz.pinned (.plain (OpenSpec.upto shopHistorySpec)) shopHistoryUptoCard

/-- THE SECOND FORM's CARD OF 'gristmilllaw.ShopCosts'. -/
def shopCostsUptoCard : Claim7 := { stood := { row := shopCostsUptoRow, standIns := [], harness := (true, "a003c9205c19ae38bc069139e7e18f6258b305f488c61c05e3315bd2c7340860"), looks := true }, kinds := [], alts := [], laidByText := true, laidKinds := [.handle, .listed, .data], laidTests := true, laidLooks := .later }
def ShopCostsUptoCardSaid : Prop := Claim7.holds Tryz.pinned (.plain (OpenSpec.upto shopCostsSpec)) shopCostsUptoCard

/-- THE SECOND FORM's CARD OF 'gristmilllaw.ShopDeeds'. -/
def shopDeedsUptoCard : Claim7 := { stood := { row := shopDeedsUptoRow, standIns := [], harness := (true, "a003c9205c19ae38bc069139e7e18f6258b305f488c61c05e3315bd2c7340860"), looks := true }, kinds := [], alts := [], laidByText := true, laidKinds := [.handle, .listed, .data], laidTests := true, laidLooks := .later }
def ShopDeedsUptoCardSaid : Prop := Claim7.holds Tryz.pinned (.plain (OpenSpec.upto shopDeedsSpec)) shopDeedsUptoCard

/-- THE SECOND FORM's CARD OF 'gristmilllaw.ShopRecords'. -/
def shopRecordsUptoCard : Claim7 := { stood := { row := shopRecordsUptoRow, standIns := [], harness := (true, "a003c9205c19ae38bc069139e7e18f6258b305f488c61c05e3315bd2c7340860"), looks := true }, kinds := [], alts := [], laidByText := true, laidKinds := [.handle, .listed, .data], laidTests := true, laidLooks := .later }
def ShopRecordsUptoCardSaid : Prop := Claim7.holds Tryz.pinned (.plain (OpenSpec.upto shopRecordsSpec)) shopRecordsUptoCard

/-- THE SECOND FORM's CARD OF 'gristmilllaw.ShopCalls'. -/
def shopCallsUptoCard : Claim7 := { stood := { row := shopCallsUptoRow, standIns := [], harness := (true, "a003c9205c19ae38bc069139e7e18f6258b305f488c61c05e3315bd2c7340860"), looks := true }, kinds := [], alts := [], laidByText := true, laidKinds := [.handle, .listed, .data], laidTests := true, laidLooks := .later }
def ShopCallsUptoCardSaid : Prop := Claim7.holds Tryz.pinned (.plain (OpenSpec.upto shopCallsSpec)) shopCallsUptoCard

/-- THE SECOND FORM's CARD OF 'gristmilllaw.ShopSteps'. -/
def shopStepsUptoCard : Claim7 := { stood := { row := shopStepsUptoRow, standIns := [], harness := (true, "a003c9205c19ae38bc069139e7e18f6258b305f488c61c05e3315bd2c7340860"), looks := true }, kinds := [], alts := [], laidByText := true, laidKinds := [.handle, .listed, .data], laidTests := true, laidLooks := .later }
def ShopStepsUptoCardSaid : Prop := Claim7.holds Tryz.pinned (.plain (OpenSpec.upto shopStepsSpec)) shopStepsUptoCard

/-- THE SECOND FORM's CARD OF 'gristmilllaw.ShopRuns'. -/
def shopRunsUptoCard : Claim7 := { stood := { row := shopRunsUptoRow, standIns := [], harness := (true, "a003c9205c19ae38bc069139e7e18f6258b305f488c61c05e3315bd2c7340860"), looks := true }, kinds := [], alts := [], laidByText := true, laidKinds := [.handle, .listed, .data], laidTests := true, laidLooks := .later }
def ShopRunsUptoCardSaid : Prop := Claim7.holds Tryz.pinned (.plain (OpenSpec.upto shopRunsSpec)) shopRunsUptoCard

/-- THE SECOND FORM's CARD OF 'gristmilllaw.ShopCrashes'. -/
def shopCrashesUptoCard : Claim7 := { stood := { row := shopCrashesUptoRow, standIns := [], harness := (true, "a003c9205c19ae38bc069139e7e18f6258b305f488c61c05e3315bd2c7340860"), looks := true }, kinds := [], alts := [], laidByText := true, laidKinds := [.handle, .listed, .data], laidTests := true, laidLooks := .later }
def ShopCrashesUptoCardSaid : Prop := Claim7.holds Tryz.pinned (.plain (OpenSpec.upto shopCrashesSpec)) shopCrashesUptoCard

/-- THE SECOND FORM's CARD OF 'gristmilllaw.ScriptPlays'. -/
def scriptPlaysUptoCard : Claim7 := { stood := { row := scriptPlaysUptoRow, standIns := [], harness := (true, "a003c9205c19ae38bc069139e7e18f6258b305f488c61c05e3315bd2c7340860"), looks := true }, kinds := [], alts := [], laidByText := true, laidKinds := [.handle, .listed, .data], laidTests := true, laidLooks := .later }
def ScriptPlaysUptoCardSaid : Prop := Claim7.holds Tryz.pinned (.plain (OpenSpec.upto scriptPlaysSpec)) scriptPlaysUptoCard
end Rows
end Go.Proofs.YtplpimkgihnmhaaGreatDoor
