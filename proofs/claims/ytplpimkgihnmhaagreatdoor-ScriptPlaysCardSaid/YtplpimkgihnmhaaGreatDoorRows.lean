/-
  NARROWER THAN 'FOR EVERY INPUT', by the rows' own cells (each row's printed sentence says how): WorkerSteps: laid · ShopDoes: laid · ShopHistory: laid · ShopCosts: laid · ShopDeeds: laid · ShopRecords: laid · ShopCalls: laid · ShopSteps: laid · ShopRuns: laid · ShopCrashes: laid · ScriptPlays: laid.
  DERIVED. THE GIVEN ROWS OF THIS SEAT. 11 by the template 'for every input the law returns true; each argument reads behind the call as it read before'; 0 by the template 'total and deterministic' (their statements: YtplpimkgihnmhaaGreatDoorTotals.lean).
  GIVEN WITH THE SEED: the statements are not yours to turn. If you find one false, say at which input.
  Laid BY PROGRAM, IN A SANDBOX (cutbox-rows.mjs): the forced cells as the released guide's own fill.sh prints them over the translation a984dfc388656642… (all of the seat's roots in one cut). By AI agents, Wed Nov 11 2026. No macro, syntax, notation, axiom, sorry.
-/
import Derived.Test.YtplpimkgihnmhaaGreatDoorChecked
import GoSem.Claim
import GoSem.ClaimJoined
import GoSem.ClaimMapViews
import Derived.JoinedTies
import Derived.KernelRfl
namespace Go.Proofs.YtplpimkgihnmhaaGreatDoor
/- THE CELL 'sum', in the pinned program and in every row, IS THE sha256 OF THE DUMP (.gsa) THAT YtplpimkgihnmhaaGreatDoorProg.lean LOADS. Nothing in Lean hashes anything: it is a label: what it is worth is what the hold of that sum in a sandbox is worth. -/
noncomputable def Tryz.pinned : Pinned := { name := "ytplpimkgihnmhaagreatdoor", sum := "a984dfc38865664266dbab8d5769c274f86f95fa8d24b376e0b715b7cb3be329", checked := Tryz.checked }
namespace Rows
def none {H : Type} : Left H := { results := [], args := [] }

/- WHAT THE LISTED PACKAGE-LEVEL VARIABLES READ AS WHEN THE CALL BEGINS. Each datum BY PROGRAM (the guide's laid-datum.mjs) off the statement by which the dump's own 'gosem.cut.vars' lays the variable. In a bare row this is a premise. The card (YtplpimkgihnmhaaGreatDoorCards.lean) ties it to the program's text. -/
def laid_errors_errorType {H : Type} : DataW H := .iface "internal/reflectlite.rtype" (.agg [.ptr (.lit (.string [101, 114, 114, 111, 114]))])
def laid_unicode_White_Space {H : Type} : DataW H := .ptr (.agg [.slice [.agg [.lit (.int .u16 9), .lit (.int .u16 13), .lit (.int .u16 1)], .agg [.lit (.int .u16 32), .lit (.int .u16 133), .lit (.int .u16 101)], .agg [.lit (.int .u16 160), .lit (.int .u16 5760), .lit (.int .u16 5600)], .agg [.lit (.int .u16 8192), .lit (.int .u16 8202), .lit (.int .u16 1)], .agg [.lit (.int .u16 8232), .lit (.int .u16 8233), .lit (.int .u16 1)], .agg [.lit (.int .u16 8239), .lit (.int .u16 8287), .lit (.int .u16 48)], .agg [.lit (.int .u16 12288), .lit (.int .u16 12288), .lit (.int .u16 1)]] [], .nil, .lit (.int .i64 2)])
def laid_strings_asciiSpace {H : Type} : DataW H := .agg [.lit (.int .u8 0), .lit (.int .u8 0), .lit (.int .u8 0), .lit (.int .u8 0), .lit (.int .u8 0), .lit (.int .u8 0), .lit (.int .u8 0), .lit (.int .u8 0), .lit (.int .u8 0), .lit (.int .u8 1), .lit (.int .u8 1), .lit (.int .u8 1), .lit (.int .u8 1), .lit (.int .u8 1), .lit (.int .u8 0), .lit (.int .u8 0), .lit (.int .u8 0), .lit (.int .u8 0), .lit (.int .u8 0), .lit (.int .u8 0), .lit (.int .u8 0), .lit (.int .u8 0), .lit (.int .u8 0), .lit (.int .u8 0), .lit (.int .u8 0), .lit (.int .u8 0), .lit (.int .u8 0), .lit (.int .u8 0), .lit (.int .u8 0), .lit (.int .u8 0), .lit (.int .u8 0), .lit (.int .u8 0), .lit (.int .u8 1), .lit (.int .u8 0), .lit (.int .u8 0), .lit (.int .u8 0), .lit (.int .u8 0), .lit (.int .u8 0), .lit (.int .u8 0), .lit (.int .u8 0), .lit (.int .u8 0), .lit (.int .u8 0), .lit (.int .u8 0), .lit (.int .u8 0), .lit (.int .u8 0), .lit (.int .u8 0), .lit (.int .u8 0), .lit (.int .u8 0), .lit (.int .u8 0), .lit (.int .u8 0), .lit (.int .u8 0), .lit (.int .u8 0), .lit (.int .u8 0), .lit (.int .u8 0), .lit (.int .u8 0), .lit (.int .u8 0), .lit (.int .u8 0), .lit (.int .u8 0), .lit (.int .u8 0), .lit (.int .u8 0), .lit (.int .u8 0), .lit (.int .u8 0), .lit (.int .u8 0), .lit (.int .u8 0), .lit (.int .u8 0), .lit (.int .u8 0), .lit (.int .u8 0), .lit (.int .u8 0), .lit (.int .u8 0), .lit (.int .u8 0), .lit (.int .u8 0), .lit (.int .u8 0), .lit (.int .u8 0), .lit (.int .u8 0), .lit (.int .u8 0), .lit (.int .u8 0), .lit (.int .u8 0), .lit (.int .u8 0), .lit (.int .u8 0), .lit (.int .u8 0), .lit (.int .u8 0), .lit (.int .u8 0), .lit (.int .u8 0), .lit (.int .u8 0), .lit (.int .u8 0), .lit (.int .u8 0), .lit (.int .u8 0), .lit (.int .u8 0), .lit (.int .u8 0), .lit (.int .u8 0), .lit (.int .u8 0), .lit (.int .u8 0), .lit (.int .u8 0), .lit (.int .u8 0), .lit (.int .u8 0), .lit (.int .u8 0), .lit (.int .u8 0), .lit (.int .u8 0), .lit (.int .u8 0), .lit (.int .u8 0), .lit (.int .u8 0), .lit (.int .u8 0), .lit (.int .u8 0), .lit (.int .u8 0), .lit (.int .u8 0), .lit (.int .u8 0), .lit (.int .u8 0), .lit (.int .u8 0), .lit (.int .u8 0), .lit (.int .u8 0), .lit (.int .u8 0), .lit (.int .u8 0), .lit (.int .u8 0), .lit (.int .u8 0), .lit (.int .u8 0), .lit (.int .u8 0), .lit (.int .u8 0), .lit (.int .u8 0), .lit (.int .u8 0), .lit (.int .u8 0), .lit (.int .u8 0), .lit (.int .u8 0), .lit (.int .u8 0), .lit (.int .u8 0), .lit (.int .u8 0), .lit (.int .u8 0), .lit (.int .u8 0), .lit (.int .u8 0), .lit (.int .u8 0), .lit (.int .u8 0), .lit (.int .u8 0), .lit (.int .u8 0), .lit (.int .u8 0), .lit (.int .u8 0), .lit (.int .u8 0), .lit (.int .u8 0), .lit (.int .u8 0), .lit (.int .u8 0), .lit (.int .u8 0), .lit (.int .u8 0), .lit (.int .u8 0), .lit (.int .u8 0), .lit (.int .u8 0), .lit (.int .u8 0), .lit (.int .u8 0), .lit (.int .u8 0), .lit (.int .u8 0), .lit (.int .u8 0), .lit (.int .u8 0), .lit (.int .u8 0), .lit (.int .u8 0), .lit (.int .u8 0), .lit (.int .u8 0), .lit (.int .u8 0), .lit (.int .u8 0), .lit (.int .u8 0), .lit (.int .u8 0), .lit (.int .u8 0), .lit (.int .u8 0), .lit (.int .u8 0), .lit (.int .u8 0), .lit (.int .u8 0), .lit (.int .u8 0), .lit (.int .u8 0), .lit (.int .u8 0), .lit (.int .u8 0), .lit (.int .u8 0), .lit (.int .u8 0), .lit (.int .u8 0), .lit (.int .u8 0), .lit (.int .u8 0), .lit (.int .u8 0), .lit (.int .u8 0), .lit (.int .u8 0), .lit (.int .u8 0), .lit (.int .u8 0), .lit (.int .u8 0), .lit (.int .u8 0), .lit (.int .u8 0), .lit (.int .u8 0), .lit (.int .u8 0), .lit (.int .u8 0), .lit (.int .u8 0), .lit (.int .u8 0), .lit (.int .u8 0), .lit (.int .u8 0), .lit (.int .u8 0), .lit (.int .u8 0), .lit (.int .u8 0), .lit (.int .u8 0), .lit (.int .u8 0), .lit (.int .u8 0), .lit (.int .u8 0), .lit (.int .u8 0), .lit (.int .u8 0), .lit (.int .u8 0), .lit (.int .u8 0), .lit (.int .u8 0), .lit (.int .u8 0), .lit (.int .u8 0), .lit (.int .u8 0), .lit (.int .u8 0), .lit (.int .u8 0), .lit (.int .u8 0), .lit (.int .u8 0), .lit (.int .u8 0), .lit (.int .u8 0), .lit (.int .u8 0), .lit (.int .u8 0), .lit (.int .u8 0), .lit (.int .u8 0), .lit (.int .u8 0), .lit (.int .u8 0), .lit (.int .u8 0), .lit (.int .u8 0), .lit (.int .u8 0), .lit (.int .u8 0), .lit (.int .u8 0), .lit (.int .u8 0), .lit (.int .u8 0), .lit (.int .u8 0), .lit (.int .u8 0), .lit (.int .u8 0), .lit (.int .u8 0), .lit (.int .u8 0), .lit (.int .u8 0), .lit (.int .u8 0), .lit (.int .u8 0), .lit (.int .u8 0), .lit (.int .u8 0), .lit (.int .u8 0), .lit (.int .u8 0), .lit (.int .u8 0), .lit (.int .u8 0), .lit (.int .u8 0), .lit (.int .u8 0), .lit (.int .u8 0), .lit (.int .u8 0), .lit (.int .u8 0), .lit (.int .u8 0), .lit (.int .u8 0), .lit (.int .u8 0), .lit (.int .u8 0), .lit (.int .u8 0), .lit (.int .u8 0), .lit (.int .u8 0), .lit (.int .u8 0), .lit (.int .u8 0), .lit (.int .u8 0), .lit (.int .u8 0), .lit (.int .u8 0), .lit (.int .u8 0), .lit (.int .u8 0), .lit (.int .u8 0), .lit (.int .u8 0), .lit (.int .u8 0)]

/-- 'gristmilllaw.WorkerSteps': WHATEVER THE INPUT: true; the input reads as it did. -/
def workerStepsSpec : ChangeSpec := { name := "workerSteps", fn := fun _ => fun
  | [d1, d2, d3, d4] => { results := [.lit (.bool true)], args := [d1, d2, d3, d4] }
  | _ => none }
def workerStepsRow : OpenClaim := { program := "ytplpimkgihnmhaagreatdoor", sum := "a984dfc38865664266dbab8d5769c274f86f95fa8d24b376e0b715b7cb3be329", func := "gristmill/gristmilllaw.WorkerSteps", spec := "workerSteps", inPlace := ["internal/reflectlite.ValueOf", "(internal/reflectlite.Value).Type", "(internal/reflectlite.Value).IsNil", "internal/reflectlite.TypeOf", "(internal/reflectlite.Value).Elem", "(internal/reflectlite.Value).Set", "slices.overlaps[int]"], unfollowed := true, recurses := true, named := ["strings.asciiSpace", "unicode.White_Space", "errors.errorType"], plainKeys := false, apart := false, laid := [("errors.errorType", laid_errors_errorType), ("unicode.White_Space", laid_unicode_White_Space), ("strings.asciiSpace", laid_strings_asciiSpace)] }
def WorkerStepsSaid : Prop := workerStepsRow.holds Tryz.pinned (OpenSpec.ofChange workerStepsSpec)

/-- ITS FALSE NEIGHBOUR: 'it returns false'. Refute it at one input. -/
def workerStepsWrong : ChangeSpec := { name := "workerSteps", fn := fun _ => fun
  | [d1, d2, d3, d4] => { results := [.lit (.bool false)], args := [d1, d2, d3, d4] }
  | _ => none }
def WorkerStepsWrongFalsely : Prop := workerStepsRow.holds Tryz.pinned (OpenSpec.ofChange workerStepsWrong)

/-- 'gristmilllaw.ShopDoes': WHATEVER THE INPUT: true; the input reads as it did. -/
def shopDoesSpec : ChangeSpec := { name := "shopDoes", fn := fun _ => fun
  | [d1, d2] => { results := [.lit (.bool true)], args := [d1, d2] }
  | _ => none }
def shopDoesRow : OpenClaim := { program := "ytplpimkgihnmhaagreatdoor", sum := "a984dfc38865664266dbab8d5769c274f86f95fa8d24b376e0b715b7cb3be329", func := "gristmill/gristmilllaw.ShopDoes", spec := "shopDoes", inPlace := ["internal/reflectlite.ValueOf", "(internal/reflectlite.Value).Type", "(internal/reflectlite.Value).IsNil", "internal/reflectlite.TypeOf", "(internal/reflectlite.Value).Elem", "(internal/reflectlite.Value).Set", "slices.overlaps[int]"], unfollowed := true, recurses := true, named := ["strings.asciiSpace", "unicode.White_Space", "errors.errorType"], plainKeys := false, apart := false, laid := [("errors.errorType", laid_errors_errorType), ("unicode.White_Space", laid_unicode_White_Space), ("strings.asciiSpace", laid_strings_asciiSpace)] }
def ShopDoesSaid : Prop := shopDoesRow.holds Tryz.pinned (OpenSpec.ofChange shopDoesSpec)

/-- ITS FALSE NEIGHBOUR: 'it returns false'. Refute it at one input. -/
def shopDoesWrong : ChangeSpec := { name := "shopDoes", fn := fun _ => fun
  | [d1, d2] => { results := [.lit (.bool false)], args := [d1, d2] }
  | _ => none }
def ShopDoesWrongFalsely : Prop := shopDoesRow.holds Tryz.pinned (OpenSpec.ofChange shopDoesWrong)

/-- 'gristmilllaw.ShopHistory': WHATEVER THE INPUT: true; the input reads as it did. -/
def shopHistorySpec : ChangeSpec := { name := "shopHistory", fn := fun _ => fun
  | [d1, d2] => { results := [.lit (.bool true)], args := [d1, d2] }
  | _ => none }
def shopHistoryRow : OpenClaim := { program := "ytplpimkgihnmhaagreatdoor", sum := "a984dfc38865664266dbab8d5769c274f86f95fa8d24b376e0b715b7cb3be329", func := "gristmill/gristmilllaw.ShopHistory", spec := "shopHistory", inPlace := ["internal/reflectlite.ValueOf", "(internal/reflectlite.Value).Type", "(internal/reflectlite.Value).IsNil", "internal/reflectlite.TypeOf", "(internal/reflectlite.Value).Elem", "(internal/reflectlite.Value).Set", "slices.overlaps[int]"], unfollowed := true, recurses := true, named := ["strings.asciiSpace", "unicode.White_Space", "errors.errorType"], plainKeys := false, apart := false, laid := [("errors.errorType", laid_errors_errorType), ("unicode.White_Space", laid_unicode_White_Space), ("strings.asciiSpace", laid_strings_asciiSpace)] }
def ShopHistorySaid : Prop := shopHistoryRow.holds Tryz.pinned (OpenSpec.ofChange shopHistorySpec)

/-- ITS FALSE NEIGHBOUR: 'it returns false'. Refute it at one input. -/
def shopHistoryWrong : ChangeSpec := { name := "shopHistory", fn := fun _ => fun
  | [d1, d2] => { results := [.lit (.bool false)], args := [d1, d2] }
  | _ => none }
def ShopHistoryWrongFalsely : Prop := shopHistoryRow.holds Tryz.pinned (OpenSpec.ofChange shopHistoryWrong)

/-- 'gristmilllaw.ShopCosts': WHATEVER THE INPUT: true; the input reads as it did. -/
def shopCostsSpec : ChangeSpec := { name := "shopCosts", fn := fun _ => fun
  | [d1, d2, d3] => { results := [.lit (.bool true)], args := [d1, d2, d3] }
  | _ => none }
def shopCostsRow : OpenClaim := { program := "ytplpimkgihnmhaagreatdoor", sum := "a984dfc38865664266dbab8d5769c274f86f95fa8d24b376e0b715b7cb3be329", func := "gristmill/gristmilllaw.ShopCosts", spec := "shopCosts", inPlace := ["internal/reflectlite.ValueOf", "(internal/reflectlite.Value).Type", "(internal/reflectlite.Value).IsNil", "internal/reflectlite.TypeOf", "(internal/reflectlite.Value).Elem", "(internal/reflectlite.Value).Set", "slices.overlaps[int]"], unfollowed := true, recurses := true, named := ["strings.asciiSpace", "unicode.White_Space", "errors.errorType"], plainKeys := false, apart := false, laid := [("errors.errorType", laid_errors_errorType), ("unicode.White_Space", laid_unicode_White_Space), ("strings.asciiSpace", laid_strings_asciiSpace)] }
def ShopCostsSaid : Prop := shopCostsRow.holds Tryz.pinned (OpenSpec.ofChange shopCostsSpec)

/-- ITS FALSE NEIGHBOUR: 'it returns false'. Refute it at one input. -/
def shopCostsWrong : ChangeSpec := { name := "shopCosts", fn := fun _ => fun
  | [d1, d2, d3] => { results := [.lit (.bool false)], args := [d1, d2, d3] }
  | _ => none }
def ShopCostsWrongFalsely : Prop := shopCostsRow.holds Tryz.pinned (OpenSpec.ofChange shopCostsWrong)

/-- 'gristmilllaw.ShopDeeds': WHATEVER THE INPUT: true; the input reads as it did. -/
def shopDeedsSpec : ChangeSpec := { name := "shopDeeds", fn := fun _ => fun
  | [d1, d2] => { results := [.lit (.bool true)], args := [d1, d2] }
  | _ => none }
def shopDeedsRow : OpenClaim := { program := "ytplpimkgihnmhaagreatdoor", sum := "a984dfc38865664266dbab8d5769c274f86f95fa8d24b376e0b715b7cb3be329", func := "gristmill/gristmilllaw.ShopDeeds", spec := "shopDeeds", inPlace := ["internal/reflectlite.ValueOf", "(internal/reflectlite.Value).Type", "(internal/reflectlite.Value).IsNil", "internal/reflectlite.TypeOf", "(internal/reflectlite.Value).Elem", "(internal/reflectlite.Value).Set", "slices.overlaps[int]"], unfollowed := true, recurses := true, named := ["strings.asciiSpace", "unicode.White_Space", "errors.errorType"], plainKeys := false, apart := false, laid := [("errors.errorType", laid_errors_errorType), ("unicode.White_Space", laid_unicode_White_Space), ("strings.asciiSpace", laid_strings_asciiSpace)] }
def ShopDeedsSaid : Prop := shopDeedsRow.holds Tryz.pinned (OpenSpec.ofChange shopDeedsSpec)

/-- ITS FALSE NEIGHBOUR: 'it returns false'. Refute it at one input. -/
def shopDeedsWrong : ChangeSpec := { name := "shopDeeds", fn := fun _ => fun
  | [d1, d2] => { results := [.lit (.bool false)], args := [d1, d2] }
  | _ => none }
def ShopDeedsWrongFalsely : Prop := shopDeedsRow.holds Tryz.pinned (OpenSpec.ofChange shopDeedsWrong)

/-- 'gristmilllaw.ShopRecords': WHATEVER THE INPUT: true; the input reads as it did. -/
def shopRecordsSpec : ChangeSpec := { name := "shopRecords", fn := fun _ => fun
  | [d1, d2] => { results := [.lit (.bool true)], args := [d1, d2] }
  | _ => none }
def shopRecordsRow : OpenClaim := { program := "ytplpimkgihnmhaagreatdoor", sum := "a984dfc38865664266dbab8d5769c274f86f95fa8d24b376e0b715b7cb3be329", func := "gristmill/gristmilllaw.ShopRecords", spec := "shopRecords", inPlace := ["internal/reflectlite.ValueOf", "(internal/reflectlite.Value).Type", "(internal/reflectlite.Value).IsNil", "internal/reflectlite.TypeOf", "(internal/reflectlite.Value).Elem", "(internal/reflectlite.Value).Set", "slices.overlaps[int]"], unfollowed := true, recurses := true, named := ["strings.asciiSpace", "unicode.White_Space", "errors.errorType"], plainKeys := false, apart := false, laid := [("errors.errorType", laid_errors_errorType), ("unicode.White_Space", laid_unicode_White_Space), ("strings.asciiSpace", laid_strings_asciiSpace)] }
def ShopRecordsSaid : Prop := shopRecordsRow.holds Tryz.pinned (OpenSpec.ofChange shopRecordsSpec)

/-- ITS FALSE NEIGHBOUR: 'it returns false'. Refute it at one input. -/
def shopRecordsWrong : ChangeSpec := { name := "shopRecords", fn := fun _ => fun
  | [d1, d2] => { results := [.lit (.bool false)], args := [d1, d2] }
  | _ => none }
def ShopRecordsWrongFalsely : Prop := shopRecordsRow.holds Tryz.pinned (OpenSpec.ofChange shopRecordsWrong)

/-- 'gristmilllaw.ShopCalls': WHATEVER THE INPUT: true; the input reads as it did. -/
def shopCallsSpec : ChangeSpec := { name := "shopCalls", fn := fun _ => fun
  | [d1, d2, d3, d4] => { results := [.lit (.bool true)], args := [d1, d2, d3, d4] }
  | _ => none }
def shopCallsRow : OpenClaim := { program := "ytplpimkgihnmhaagreatdoor", sum := "a984dfc38865664266dbab8d5769c274f86f95fa8d24b376e0b715b7cb3be329", func := "gristmill/gristmilllaw.ShopCalls", spec := "shopCalls", inPlace := ["internal/reflectlite.ValueOf", "(internal/reflectlite.Value).Type", "(internal/reflectlite.Value).IsNil", "internal/reflectlite.TypeOf", "(internal/reflectlite.Value).Elem", "(internal/reflectlite.Value).Set", "slices.overlaps[int]"], unfollowed := true, recurses := true, named := ["strings.asciiSpace", "unicode.White_Space", "errors.errorType"], plainKeys := false, apart := false, laid := [("errors.errorType", laid_errors_errorType), ("unicode.White_Space", laid_unicode_White_Space), ("strings.asciiSpace", laid_strings_asciiSpace)] }
def ShopCallsSaid : Prop := shopCallsRow.holds Tryz.pinned (OpenSpec.ofChange shopCallsSpec)

/-- ITS FALSE NEIGHBOUR: 'it returns false'. Refute it at one input. -/
def shopCallsWrong : ChangeSpec := { name := "shopCalls", fn := fun _ => fun
  | [d1, d2, d3, d4] => { results := [.lit (.bool false)], args := [d1, d2, d3, d4] }
  | _ => none }
def ShopCallsWrongFalsely : Prop := shopCallsRow.holds Tryz.pinned (OpenSpec.ofChange shopCallsWrong)

/-- 'gristmilllaw.ShopSteps': WHATEVER THE INPUT: true; the input reads as it did. -/
def shopStepsSpec : ChangeSpec := { name := "shopSteps", fn := fun _ => fun
  | [d1, d2, d3, d4] => { results := [.lit (.bool true)], args := [d1, d2, d3, d4] }
  | _ => none }
def shopStepsRow : OpenClaim := { program := "ytplpimkgihnmhaagreatdoor", sum := "a984dfc38865664266dbab8d5769c274f86f95fa8d24b376e0b715b7cb3be329", func := "gristmill/gristmilllaw.ShopSteps", spec := "shopSteps", inPlace := ["internal/reflectlite.ValueOf", "(internal/reflectlite.Value).Type", "(internal/reflectlite.Value).IsNil", "internal/reflectlite.TypeOf", "(internal/reflectlite.Value).Elem", "(internal/reflectlite.Value).Set", "slices.overlaps[int]"], unfollowed := true, recurses := true, named := ["strings.asciiSpace", "unicode.White_Space", "errors.errorType"], plainKeys := false, apart := false, laid := [("errors.errorType", laid_errors_errorType), ("unicode.White_Space", laid_unicode_White_Space), ("strings.asciiSpace", laid_strings_asciiSpace)] }
def ShopStepsSaid : Prop := shopStepsRow.holds Tryz.pinned (OpenSpec.ofChange shopStepsSpec)

/-- ITS FALSE NEIGHBOUR: 'it returns false'. Refute it at one input. -/
def shopStepsWrong : ChangeSpec := { name := "shopSteps", fn := fun _ => fun
  | [d1, d2, d3, d4] => { results := [.lit (.bool false)], args := [d1, d2, d3, d4] }
  | _ => none }
def ShopStepsWrongFalsely : Prop := shopStepsRow.holds Tryz.pinned (OpenSpec.ofChange shopStepsWrong)

/-- 'gristmilllaw.ShopRuns': WHATEVER THE INPUT: true; the input reads as it did. -/
def shopRunsSpec : ChangeSpec := { name := "shopRuns", fn := fun _ => fun
  | [d1, d2, d3, d4] => { results := [.lit (.bool true)], args := [d1, d2, d3, d4] }
  | _ => none }
def shopRunsRow : OpenClaim := { program := "ytplpimkgihnmhaagreatdoor", sum := "a984dfc38865664266dbab8d5769c274f86f95fa8d24b376e0b715b7cb3be329", func := "gristmill/gristmilllaw.ShopRuns", spec := "shopRuns", inPlace := ["internal/reflectlite.ValueOf", "(internal/reflectlite.Value).Type", "(internal/reflectlite.Value).IsNil", "internal/reflectlite.TypeOf", "(internal/reflectlite.Value).Elem", "(internal/reflectlite.Value).Set", "slices.overlaps[int]"], unfollowed := true, recurses := true, named := ["strings.asciiSpace", "unicode.White_Space", "errors.errorType"], plainKeys := false, apart := false, laid := [("errors.errorType", laid_errors_errorType), ("unicode.White_Space", laid_unicode_White_Space), ("strings.asciiSpace", laid_strings_asciiSpace)] }
def ShopRunsSaid : Prop := shopRunsRow.holds Tryz.pinned (OpenSpec.ofChange shopRunsSpec)

/-- ITS FALSE NEIGHBOUR: 'it returns false'. Refute it at one input. -/
def shopRunsWrong : ChangeSpec := { name := "shopRuns", fn := fun _ => fun
  | [d1, d2, d3, d4] => { results := [.lit (.bool false)], args := [d1, d2, d3, d4] }
  | _ => none }
def ShopRunsWrongFalsely : Prop := shopRunsRow.holds Tryz.pinned (OpenSpec.ofChange shopRunsWrong)

/-- 'gristmilllaw.ShopCrashes': WHATEVER THE INPUT: true; the input reads as it did. -/
def shopCrashesSpec : ChangeSpec := { name := "shopCrashes", fn := fun _ => fun
  | [d1, d2, d3] => { results := [.lit (.bool true)], args := [d1, d2, d3] }
  | _ => none }
def shopCrashesRow : OpenClaim := { program := "ytplpimkgihnmhaagreatdoor", sum := "a984dfc38865664266dbab8d5769c274f86f95fa8d24b376e0b715b7cb3be329", func := "gristmill/gristmilllaw.ShopCrashes", spec := "shopCrashes", inPlace := ["internal/reflectlite.ValueOf", "(internal/reflectlite.Value).Type", "(internal/reflectlite.Value).IsNil", "internal/reflectlite.TypeOf", "(internal/reflectlite.Value).Elem", "(internal/reflectlite.Value).Set", "slices.overlaps[int]"], unfollowed := true, recurses := true, named := ["strings.asciiSpace", "unicode.White_Space", "errors.errorType"], plainKeys := false, apart := false, laid := [("errors.errorType", laid_errors_errorType), ("unicode.White_Space", laid_unicode_White_Space), ("strings.asciiSpace", laid_strings_asciiSpace)] }
def ShopCrashesSaid : Prop := shopCrashesRow.holds Tryz.pinned (OpenSpec.ofChange shopCrashesSpec)

/-- ITS FALSE NEIGHBOUR: 'it returns false'. Refute it at one input. -/
def shopCrashesWrong : ChangeSpec := { name := "shopCrashes", fn := fun _ => fun
  | [d1, d2, d3] => { results := [.lit (.bool false)], args := [d1, d2, d3] }
  | _ => none }
def ShopCrashesWrongFalsely : Prop := shopCrashesRow.holds Tryz.pinned (OpenSpec.ofChange shopCrashesWrong)

/-- 'gristmilllaw.ScriptPlays': WHATEVER THE INPUT: true; the input reads as it did. -/
def scriptPlaysSpec : ChangeSpec := { name := "scriptPlays", fn := fun _ => fun
  | [d1, d2] => { results := [.lit (.bool true)], args := [d1, d2] }
  | _ => none }
def scriptPlaysRow : OpenClaim := { program := "ytplpimkgihnmhaagreatdoor", sum := "a984dfc38865664266dbab8d5769c274f86f95fa8d24b376e0b715b7cb3be329", func := "gristmill/gristmilllaw.ScriptPlays", spec := "scriptPlays", inPlace := ["internal/reflectlite.ValueOf", "(internal/reflectlite.Value).Type", "(internal/reflectlite.Value).IsNil", "internal/reflectlite.TypeOf", "(internal/reflectlite.Value).Elem", "(internal/reflectlite.Value).Set", "slices.overlaps[int]"], unfollowed := true, recurses := true, named := ["errors.errorType", "strings.asciiSpace", "unicode.White_Space"], plainKeys := false, apart := false, laid := [("errors.errorType", laid_errors_errorType), ("unicode.White_Space", laid_unicode_White_Space), ("strings.asciiSpace", laid_strings_asciiSpace)] }
def ScriptPlaysSaid : Prop := scriptPlaysRow.holds Tryz.pinned (OpenSpec.ofChange scriptPlaysSpec)

/-- ITS FALSE NEIGHBOUR: 'it returns false'. Refute it at one input. -/
def scriptPlaysWrong : ChangeSpec := { name := "scriptPlays", fn := fun _ => fun
  | [d1, d2] => { results := [.lit (.bool false)], args := [d1, d2] }
  | _ => none }
def ScriptPlaysWrongFalsely : Prop := scriptPlaysRow.holds Tryz.pinned (OpenSpec.ofChange scriptPlaysWrong)

/- THE SECOND FORM. 'bulk': how many values and letters a reading holds, each counted each time it is reached (what is shared counts as often as it is met; a slice's spare places count too). A statement '..UptoSaid' is the law's where the arguments, and the package variables that the reading takes, are together of bulk at most 1048576: NARROWER than '..Said'. Prove '..Said' where nothing that the law and all that it calls make is longer than what came in: it says more and counts as full. Else prove '..UptoSaid'. A law counts once. -/
mutual
def uptoBulk {H : Type} : DataW H → Nat
  | .lit (.string bytes) => bytes.length + 1
  | .lit _ => 1
  | .nil => 1
  | .ptr d => uptoBulk d + 1
  | .slice elems spare => uptoBulkAll elems + uptoBulkAll spare + 1
  | .agg parts => uptoBulkAll parts + 1
  | .iface _ d => uptoBulk d + 1
  | .map entries => uptoBulkEntries entries + 1
  | .held _ => 1
def uptoBulkAll {H : Type} : List (DataW H) → Nat
  | [] => 0
  | d :: r => uptoBulk d + uptoBulkAll r
def uptoBulkEntries {H : Type} : List (Lit × DataW H) → Nat
  | [] => 0
  | x :: r => uptoBulkEntry x + uptoBulkEntries r
def uptoBulkEntry {H : Type} : Lit × DataW H → Nat
  | (.string bytes, d) => bytes.length + uptoBulk d + 1
  | (_, d) => uptoBulk d + 1
 end
def uptoSmall : (H : Type) → List (DataW H) → Bool := fun _ ds => decide (uptoBulkAll ds ≤ 1048576)
def OpenSpec.upto (s : _root_.Go.ChangeSpec) : _root_.Go.OpenSpec := { _root_.Go.OpenSpec.ofChange s with cond := some uptoSmall }

/-- 'gristmilllaw.WorkerSteps', WHERE WHAT IT READS IS OF BULK AT MOST 1048576: true; the input reads as it did. -/
def workerStepsUptoRow : OpenClaim := { program := "ytplpimkgihnmhaagreatdoor", sum := "a984dfc38865664266dbab8d5769c274f86f95fa8d24b376e0b715b7cb3be329", func := "gristmill/gristmilllaw.WorkerSteps", spec := "workerSteps", inPlace := ["internal/reflectlite.ValueOf", "(internal/reflectlite.Value).Type", "(internal/reflectlite.Value).IsNil", "internal/reflectlite.TypeOf", "(internal/reflectlite.Value).Elem", "(internal/reflectlite.Value).Set", "slices.overlaps[int]"], unfollowed := true, recurses := true, named := ["strings.asciiSpace", "unicode.White_Space", "errors.errorType"], plainKeys := false, apart := false, laid := [("errors.errorType", laid_errors_errorType), ("unicode.White_Space", laid_unicode_White_Space), ("strings.asciiSpace", laid_strings_asciiSpace)], narrowed := true }
def WorkerStepsUptoSaid : Prop := workerStepsUptoRow.holds Tryz.pinned (OpenSpec.upto workerStepsSpec)

/-- 'gristmilllaw.ShopDoes', WHERE WHAT IT READS IS OF BULK AT MOST 1048576: true; the input reads as it did. -/
def shopDoesUptoRow : OpenClaim := { program := "ytplpimkgihnmhaagreatdoor", sum := "a984dfc38865664266dbab8d5769c274f86f95fa8d24b376e0b715b7cb3be329", func := "gristmill/gristmilllaw.ShopDoes", spec := "shopDoes", inPlace := ["internal/reflectlite.ValueOf", "(internal/reflectlite.Value).Type", "(internal/reflectlite.Value).IsNil", "internal/reflectlite.TypeOf", "(internal/reflectlite.Value).Elem", "(internal/reflectlite.Value).Set", "slices.overlaps[int]"], unfollowed := true, recurses := true, named := ["strings.asciiSpace", "unicode.White_Space", "errors.errorType"], plainKeys := false, apart := false, laid := [("errors.errorType", laid_errors_errorType), ("unicode.White_Space", laid_unicode_White_Space), ("strings.asciiSpace", laid_strings_asciiSpace)], narrowed := true }
def ShopDoesUptoSaid : Prop := shopDoesUptoRow.holds Tryz.pinned (OpenSpec.upto shopDoesSpec)

/-- 'gristmilllaw.ShopHistory', WHERE WHAT IT READS IS OF BULK AT MOST 1048576: true; the input reads as it did. -/
def shopHistoryUptoRow : OpenClaim := { program := "ytplpimkgihnmhaagreatdoor", sum := "a984dfc38865664266dbab8d5769c274f86f95fa8d24b376e0b715b7cb3be329", func := "gristmill/gristmilllaw.ShopHistory", spec := "shopHistory", inPlace := ["internal/reflectlite.ValueOf", "(internal/reflectlite.Value).Type", "(internal/reflectlite.Value).IsNil", "internal/reflectlite.TypeOf", "(internal/reflectlite.Value).Elem", "(internal/reflectlite.Value).Set", "slices.overlaps[int]"], unfollowed := true, recurses := true, named := ["strings.asciiSpace", "unicode.White_Space", "errors.errorType"], plainKeys := false, apart := false, laid := [("errors.errorType", laid_errors_errorType), ("unicode.White_Space", laid_unicode_White_Space), ("strings.asciiSpace", laid_strings_asciiSpace)], narrowed := true }
def ShopHistoryUptoSaid : Prop := shopHistoryUptoRow.holds Tryz.pinned (OpenSpec.upto shopHistorySpec)

/-- 'gristmilllaw.ShopCosts', WHERE WHAT IT READS IS OF BULK AT MOST 1048576: true; the input reads as it did. -/
def shopCostsUptoRow : OpenClaim := { program := "ytplpimkgihnmhaagreatdoor", sum := "a984dfc38865664266dbab8d5769c274f86f95fa8d24b376e0b715b7cb3be329", func := "gristmill/gristmilllaw.ShopCosts", spec := "shopCosts", inPlace := ["internal/reflectlite.ValueOf", "(internal/reflectlite.Value).Type", "(internal/reflectlite.Value).IsNil", "internal/reflectlite.TypeOf", "(internal/reflectlite.Value).Elem", "(internal/reflectlite.Value).Set", "slices.overlaps[int]"], unfollowed := true, recurses := true, named := ["strings.asciiSpace", "unicode.White_Space", "errors.errorType"], plainKeys := false, apart := false, laid := [("errors.errorType", laid_errors_errorType), ("unicode.White_Space", laid_unicode_White_Space), ("strings.asciiSpace", laid_strings_asciiSpace)], narrowed := true }
def ShopCostsUptoSaid : Prop := shopCostsUptoRow.holds Tryz.pinned (OpenSpec.upto shopCostsSpec)

/-- 'gristmilllaw.ShopDeeds', WHERE WHAT IT READS IS OF BULK AT MOST 1048576: true; the input reads as it did. -/
def shopDeedsUptoRow : OpenClaim := { program := "ytplpimkgihnmhaagreatdoor", sum := "a984dfc38865664266dbab8d5769c274f86f95fa8d24b376e0b715b7cb3be329", func := "gristmill/gristmilllaw.ShopDeeds", spec := "shopDeeds", inPlace := ["internal/reflectlite.ValueOf", "(internal/reflectlite.Value).Type", "(internal/reflectlite.Value).IsNil", "internal/reflectlite.TypeOf", "(internal/reflectlite.Value).Elem", "(internal/reflectlite.Value).Set", "slices.overlaps[int]"], unfollowed := true, recurses := true, named := ["strings.asciiSpace", "unicode.White_Space", "errors.errorType"], plainKeys := false, apart := false, laid := [("errors.errorType", laid_errors_errorType), ("unicode.White_Space", laid_unicode_White_Space), ("strings.asciiSpace", laid_strings_asciiSpace)], narrowed := true }
def ShopDeedsUptoSaid : Prop := shopDeedsUptoRow.holds Tryz.pinned (OpenSpec.upto shopDeedsSpec)

/-- 'gristmilllaw.ShopRecords', WHERE WHAT IT READS IS OF BULK AT MOST 1048576: true; the input reads as it did. -/
def shopRecordsUptoRow : OpenClaim := { program := "ytplpimkgihnmhaagreatdoor", sum := "a984dfc38865664266dbab8d5769c274f86f95fa8d24b376e0b715b7cb3be329", func := "gristmill/gristmilllaw.ShopRecords", spec := "shopRecords", inPlace := ["internal/reflectlite.ValueOf", "(internal/reflectlite.Value).Type", "(internal/reflectlite.Value).IsNil", "internal/reflectlite.TypeOf", "(internal/reflectlite.Value).Elem", "(internal/reflectlite.Value).Set", "slices.overlaps[int]"], unfollowed := true, recurses := true, named := ["strings.asciiSpace", "unicode.White_Space", "errors.errorType"], plainKeys := false, apart := false, laid := [("errors.errorType", laid_errors_errorType), ("unicode.White_Space", laid_unicode_White_Space), ("strings.asciiSpace", laid_strings_asciiSpace)], narrowed := true }
def ShopRecordsUptoSaid : Prop := shopRecordsUptoRow.holds Tryz.pinned (OpenSpec.upto shopRecordsSpec)

/-- 'gristmilllaw.ShopCalls', WHERE WHAT IT READS IS OF BULK AT MOST 1048576: true; the input reads as it did. -/
def shopCallsUptoRow : OpenClaim := { program := "ytplpimkgihnmhaagreatdoor", sum := "a984dfc38865664266dbab8d5769c274f86f95fa8d24b376e0b715b7cb3be329", func := "gristmill/gristmilllaw.ShopCalls", spec := "shopCalls", inPlace := ["internal/reflectlite.ValueOf", "(internal/reflectlite.Value).Type", "(internal/reflectlite.Value).IsNil", "internal/reflectlite.TypeOf", "(internal/reflectlite.Value).Elem", "(internal/reflectlite.Value).Set", "slices.overlaps[int]"], unfollowed := true, recurses := true, named := ["strings.asciiSpace", "unicode.White_Space", "errors.errorType"], plainKeys := false, apart := false, laid := [("errors.errorType", laid_errors_errorType), ("unicode.White_Space", laid_unicode_White_Space), ("strings.asciiSpace", laid_strings_asciiSpace)], narrowed := true }
def ShopCallsUptoSaid : Prop := shopCallsUptoRow.holds Tryz.pinned (OpenSpec.upto shopCallsSpec)

/-- 'gristmilllaw.ShopSteps', WHERE WHAT IT READS IS OF BULK AT MOST 1048576: true; the input reads as it did. -/
def shopStepsUptoRow : OpenClaim := { program := "ytplpimkgihnmhaagreatdoor", sum := "a984dfc38865664266dbab8d5769c274f86f95fa8d24b376e0b715b7cb3be329", func := "gristmill/gristmilllaw.ShopSteps", spec := "shopSteps", inPlace := ["internal/reflectlite.ValueOf", "(internal/reflectlite.Value).Type", "(internal/reflectlite.Value).IsNil", "internal/reflectlite.TypeOf", "(internal/reflectlite.Value).Elem", "(internal/reflectlite.Value).Set", "slices.overlaps[int]"], unfollowed := true, recurses := true, named := ["strings.asciiSpace", "unicode.White_Space", "errors.errorType"], plainKeys := false, apart := false, laid := [("errors.errorType", laid_errors_errorType), ("unicode.White_Space", laid_unicode_White_Space), ("strings.asciiSpace", laid_strings_asciiSpace)], narrowed := true }
def ShopStepsUptoSaid : Prop := shopStepsUptoRow.holds Tryz.pinned (OpenSpec.upto shopStepsSpec)

/-- 'gristmilllaw.ShopRuns', WHERE WHAT IT READS IS OF BULK AT MOST 1048576: true; the input reads as it did. -/
def shopRunsUptoRow : OpenClaim := { program := "ytplpimkgihnmhaagreatdoor", sum := "a984dfc38865664266dbab8d5769c274f86f95fa8d24b376e0b715b7cb3be329", func := "gristmill/gristmilllaw.ShopRuns", spec := "shopRuns", inPlace := ["internal/reflectlite.ValueOf", "(internal/reflectlite.Value).Type", "(internal/reflectlite.Value).IsNil", "internal/reflectlite.TypeOf", "(internal/reflectlite.Value).Elem", "(internal/reflectlite.Value).Set", "slices.overlaps[int]"], unfollowed := true, recurses := true, named := ["strings.asciiSpace", "unicode.White_Space", "errors.errorType"], plainKeys := false, apart := false, laid := [("errors.errorType", laid_errors_errorType), ("unicode.White_Space", laid_unicode_White_Space), ("strings.asciiSpace", laid_strings_asciiSpace)], narrowed := true }
def ShopRunsUptoSaid : Prop := shopRunsUptoRow.holds Tryz.pinned (OpenSpec.upto shopRunsSpec)

/-- 'gristmilllaw.ShopCrashes', WHERE WHAT IT READS IS OF BULK AT MOST 1048576: true; the input reads as it did. -/
def shopCrashesUptoRow : OpenClaim := { program := "ytplpimkgihnmhaagreatdoor", sum := "a984dfc38865664266dbab8d5769c274f86f95fa8d24b376e0b715b7cb3be329", func := "gristmill/gristmilllaw.ShopCrashes", spec := "shopCrashes", inPlace := ["internal/reflectlite.ValueOf", "(internal/reflectlite.Value).Type", "(internal/reflectlite.Value).IsNil", "internal/reflectlite.TypeOf", "(internal/reflectlite.Value).Elem", "(internal/reflectlite.Value).Set", "slices.overlaps[int]"], unfollowed := true, recurses := true, named := ["strings.asciiSpace", "unicode.White_Space", "errors.errorType"], plainKeys := false, apart := false, laid := [("errors.errorType", laid_errors_errorType), ("unicode.White_Space", laid_unicode_White_Space), ("strings.asciiSpace", laid_strings_asciiSpace)], narrowed := true }
def ShopCrashesUptoSaid : Prop := shopCrashesUptoRow.holds Tryz.pinned (OpenSpec.upto shopCrashesSpec)

/-- 'gristmilllaw.ScriptPlays', WHERE WHAT IT READS IS OF BULK AT MOST 1048576: true; the input reads as it did. -/
def scriptPlaysUptoRow : OpenClaim := { program := "ytplpimkgihnmhaagreatdoor", sum := "a984dfc38865664266dbab8d5769c274f86f95fa8d24b376e0b715b7cb3be329", func := "gristmill/gristmilllaw.ScriptPlays", spec := "scriptPlays", inPlace := ["internal/reflectlite.ValueOf", "(internal/reflectlite.Value).Type", "(internal/reflectlite.Value).IsNil", "internal/reflectlite.TypeOf", "(internal/reflectlite.Value).Elem", "(internal/reflectlite.Value).Set", "slices.overlaps[int]"], unfollowed := true, recurses := true, named := ["errors.errorType", "strings.asciiSpace", "unicode.White_Space"], plainKeys := false, apart := false, laid := [("errors.errorType", laid_errors_errorType), ("unicode.White_Space", laid_unicode_White_Space), ("strings.asciiSpace", laid_strings_asciiSpace)], narrowed := true }
def ScriptPlaysUptoSaid : Prop := scriptPlaysUptoRow.holds Tryz.pinned (OpenSpec.upto scriptPlaysSpec)

end Rows
end Go.Proofs.YtplpimkgihnmhaaGreatDoor
