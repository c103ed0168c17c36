/-
  NARROWER THAN 'FOR EVERY INPUT', by the rows' own cells (each row's printed sentence says how): StoreCosts: laid · StoreLoads: laid · StoreGoods: laid · StoreCopies: laid · JudgeFits: laid · RecordDoes: laid.
  DERIVED. THE GIVEN ROWS OF THIS SEAT. 6 by the template 'for every input the law returns true; each argument reads behind the call as it read before'; 0 by the template 'total and deterministic' (their statements: YtbphjpgkgolmpaaDoorTotals.lean).
  GIVEN WITH THE SEED: the statements are not yours to turn. If you find one false, say at which input.
  Laid BY PROGRAM, IN A SANDBOX (cutbox-rows.mjs): the forced cells as the released guide's own fill.sh prints them over the translation e1c989cc79921797… (all of the seat's roots in one cut). By AI agents, Wed Nov 11 2026. No macro, syntax, notation, axiom, sorry.
-/
import Derived.Test.YtbphjpgkgolmpaaDoorChecked
import GoSem.Claim
import GoSem.ClaimJoined
import GoSem.ClaimMapViews
import Derived.JoinedTies
import Derived.KernelRfl
namespace Go.Proofs.YtbphjpgkgolmpaaDoor
/- THE CELL 'sum', in the pinned program and in every row, IS THE sha256 OF THE DUMP (.gsa) THAT YtbphjpgkgolmpaaDoorProg.lean LOADS. Nothing in Lean hashes anything: it is a label: what it is worth is what the hold of that sum in a sandbox is worth. -/
noncomputable def Tryd.pinned : Pinned := { name := "ytbphjpgkgolmpaadoor", sum := "e1c989cc799217972fc2ad33791b7ebbbbc07996524ac32b9c67dce1b3a6f1de", checked := Tryd.checked }
namespace Rows
def none {H : Type} : Left H := { results := [], args := [] }

/- WHAT THE LISTED PACKAGE-LEVEL VARIABLES READ AS WHEN THE CALL BEGINS. Each datum BY PROGRAM (the guide's laid-datum.mjs) off the statement by which the dump's own 'gosem.cut.vars' lays the variable. In a bare row this is a premise. The card (YtbphjpgkgolmpaaDoorCards.lean) ties it to the program's text. -/
def laid_errors_errorType {H : Type} : DataW H := .iface "internal/reflectlite.rtype" (.agg [.ptr (.lit (.string [101, 114, 114, 111, 114]))])

/-- 'gristmilllaw.StoreCosts': WHATEVER THE INPUT: true; the input reads as it did. -/
def storeCostsSpec : ChangeSpec := { name := "storeCosts", fn := fun _ => fun
  | [d] => { results := [.lit (.bool true)], args := [d] }
  | _ => none }
def storeCostsRow : OpenClaim := { program := "ytbphjpgkgolmpaadoor", sum := "e1c989cc799217972fc2ad33791b7ebbbbc07996524ac32b9c67dce1b3a6f1de", func := "gristmill/gristmilllaw.StoreCosts", spec := "storeCosts", inPlace := ["internal/reflectlite.ValueOf", "(internal/reflectlite.Value).Type", "(internal/reflectlite.Value).IsNil", "internal/reflectlite.TypeOf", "(internal/reflectlite.Value).Elem", "(internal/reflectlite.Value).Set"], unfollowed := true, recurses := true, named := ["errors.errorType"], plainKeys := false, apart := false, laid := [("errors.errorType", laid_errors_errorType)] }
def StoreCostsSaid : Prop := storeCostsRow.holds Tryd.pinned (OpenSpec.ofChange storeCostsSpec)

/-- ITS FALSE NEIGHBOUR: 'it returns false'. Refute it at one input. -/
def storeCostsWrong : ChangeSpec := { name := "storeCosts", fn := fun _ => fun
  | [d] => { results := [.lit (.bool false)], args := [d] }
  | _ => none }
def StoreCostsWrongFalsely : Prop := storeCostsRow.holds Tryd.pinned (OpenSpec.ofChange storeCostsWrong)

/-- 'gristmilllaw.StoreLoads': WHATEVER THE INPUT: true; the input reads as it did. -/
def storeLoadsSpec : ChangeSpec := { name := "storeLoads", fn := fun _ => fun
  | [d1, d2] => { results := [.lit (.bool true)], args := [d1, d2] }
  | _ => none }
def storeLoadsRow : OpenClaim := { program := "ytbphjpgkgolmpaadoor", sum := "e1c989cc799217972fc2ad33791b7ebbbbc07996524ac32b9c67dce1b3a6f1de", func := "gristmill/gristmilllaw.StoreLoads", spec := "storeLoads", inPlace := ["internal/reflectlite.ValueOf", "(internal/reflectlite.Value).Type", "(internal/reflectlite.Value).IsNil", "internal/reflectlite.TypeOf", "(internal/reflectlite.Value).Elem", "(internal/reflectlite.Value).Set"], unfollowed := true, recurses := true, named := ["errors.errorType"], plainKeys := false, apart := false, laid := [("errors.errorType", laid_errors_errorType)] }
def StoreLoadsSaid : Prop := storeLoadsRow.holds Tryd.pinned (OpenSpec.ofChange storeLoadsSpec)

/-- ITS FALSE NEIGHBOUR: 'it returns false'. Refute it at one input. -/
def storeLoadsWrong : ChangeSpec := { name := "storeLoads", fn := fun _ => fun
  | [d1, d2] => { results := [.lit (.bool false)], args := [d1, d2] }
  | _ => none }
def StoreLoadsWrongFalsely : Prop := storeLoadsRow.holds Tryd.pinned (OpenSpec.ofChange storeLoadsWrong)

/-- 'gristmilllaw.StoreGoods': WHATEVER THE INPUT: true; the input reads as it did. -/
def storeGoodsSpec : ChangeSpec := { name := "storeGoods", fn := fun _ => fun
  | [d1, d2] => { results := [.lit (.bool true)], args := [d1, d2] }
  | _ => none }
def storeGoodsRow : OpenClaim := { program := "ytbphjpgkgolmpaadoor", sum := "e1c989cc799217972fc2ad33791b7ebbbbc07996524ac32b9c67dce1b3a6f1de", func := "gristmill/gristmilllaw.StoreGoods", spec := "storeGoods", inPlace := ["internal/reflectlite.ValueOf", "(internal/reflectlite.Value).Type", "(internal/reflectlite.Value).IsNil", "internal/reflectlite.TypeOf", "(internal/reflectlite.Value).Elem", "(internal/reflectlite.Value).Set"], unfollowed := true, recurses := true, named := ["errors.errorType"], plainKeys := false, apart := false, laid := [("errors.errorType", laid_errors_errorType)] }
def StoreGoodsSaid : Prop := storeGoodsRow.holds Tryd.pinned (OpenSpec.ofChange storeGoodsSpec)

/-- ITS FALSE NEIGHBOUR: 'it returns false'. Refute it at one input. -/
def storeGoodsWrong : ChangeSpec := { name := "storeGoods", fn := fun _ => fun
  | [d1, d2] => { results := [.lit (.bool false)], args := [d1, d2] }
  | _ => none }
def StoreGoodsWrongFalsely : Prop := storeGoodsRow.holds Tryd.pinned (OpenSpec.ofChange storeGoodsWrong)

/-- 'gristmilllaw.StoreCopies': WHATEVER THE INPUT: true; the input reads as it did. -/
def storeCopiesSpec : ChangeSpec := { name := "storeCopies", fn := fun _ => fun
  | [d1, d2, d3] => { results := [.lit (.bool true)], args := [d1, d2, d3] }
  | _ => none }
def storeCopiesRow : OpenClaim := { program := "ytbphjpgkgolmpaadoor", sum := "e1c989cc799217972fc2ad33791b7ebbbbc07996524ac32b9c67dce1b3a6f1de", func := "gristmill/gristmilllaw.StoreCopies", spec := "storeCopies", inPlace := ["internal/reflectlite.ValueOf", "(internal/reflectlite.Value).Type", "(internal/reflectlite.Value).IsNil", "internal/reflectlite.TypeOf", "(internal/reflectlite.Value).Elem", "(internal/reflectlite.Value).Set"], unfollowed := true, recurses := true, named := ["errors.errorType"], plainKeys := false, apart := false, laid := [("errors.errorType", laid_errors_errorType)] }
def StoreCopiesSaid : Prop := storeCopiesRow.holds Tryd.pinned (OpenSpec.ofChange storeCopiesSpec)

/-- ITS FALSE NEIGHBOUR: 'it returns false'. Refute it at one input. -/
def storeCopiesWrong : ChangeSpec := { name := "storeCopies", fn := fun _ => fun
  | [d1, d2, d3] => { results := [.lit (.bool false)], args := [d1, d2, d3] }
  | _ => none }
def StoreCopiesWrongFalsely : Prop := storeCopiesRow.holds Tryd.pinned (OpenSpec.ofChange storeCopiesWrong)

/-- 'gristmilllaw.JudgeFits': WHATEVER THE INPUT: true; the input reads as it did. -/
def judgeFitsSpec : ChangeSpec := { name := "judgeFits", fn := fun _ => fun
  | [d1, d2] => { results := [.lit (.bool true)], args := [d1, d2] }
  | _ => none }
def judgeFitsRow : OpenClaim := { program := "ytbphjpgkgolmpaadoor", sum := "e1c989cc799217972fc2ad33791b7ebbbbc07996524ac32b9c67dce1b3a6f1de", func := "gristmill/gristmilllaw.JudgeFits", spec := "judgeFits", inPlace := ["internal/reflectlite.ValueOf", "(internal/reflectlite.Value).Type", "(internal/reflectlite.Value).IsNil", "internal/reflectlite.TypeOf", "(internal/reflectlite.Value).Elem", "(internal/reflectlite.Value).Set"], unfollowed := true, recurses := true, named := ["errors.errorType"], plainKeys := false, apart := false, laid := [("errors.errorType", laid_errors_errorType)] }
def JudgeFitsSaid : Prop := judgeFitsRow.holds Tryd.pinned (OpenSpec.ofChange judgeFitsSpec)

/-- ITS FALSE NEIGHBOUR: 'it returns false'. Refute it at one input. -/
def judgeFitsWrong : ChangeSpec := { name := "judgeFits", fn := fun _ => fun
  | [d1, d2] => { results := [.lit (.bool false)], args := [d1, d2] }
  | _ => none }
def JudgeFitsWrongFalsely : Prop := judgeFitsRow.holds Tryd.pinned (OpenSpec.ofChange judgeFitsWrong)

/-- 'gristmilllaw.RecordDoes': WHATEVER THE INPUT: true; the input reads as it did. -/
def recordDoesSpec : ChangeSpec := { name := "recordDoes", fn := fun _ => fun
  | [d1, d2, d3] => { results := [.lit (.bool true)], args := [d1, d2, d3] }
  | _ => none }
def recordDoesRow : OpenClaim := { program := "ytbphjpgkgolmpaadoor", sum := "e1c989cc799217972fc2ad33791b7ebbbbc07996524ac32b9c67dce1b3a6f1de", func := "gristmill/gristmilllaw.RecordDoes", spec := "recordDoes", inPlace := ["slices.overlaps[int]", "internal/reflectlite.ValueOf", "(internal/reflectlite.Value).Type", "(internal/reflectlite.Value).IsNil", "internal/reflectlite.TypeOf", "(internal/reflectlite.Value).Elem", "(internal/reflectlite.Value).Set"], unfollowed := true, recurses := true, named := ["errors.errorType"], plainKeys := false, apart := false, laid := [("errors.errorType", laid_errors_errorType)] }
def RecordDoesSaid : Prop := recordDoesRow.holds Tryd.pinned (OpenSpec.ofChange recordDoesSpec)

/-- ITS FALSE NEIGHBOUR: 'it returns false'. Refute it at one input. -/
def recordDoesWrong : ChangeSpec := { name := "recordDoes", fn := fun _ => fun
  | [d1, d2, d3] => { results := [.lit (.bool false)], args := [d1, d2, d3] }
  | _ => none }
def RecordDoesWrongFalsely : Prop := recordDoesRow.holds Tryd.pinned (OpenSpec.ofChange recordDoesWrong)

/- THE SECOND FORM. 'bulk': how many values and letters a reading holds, each counted each time it is reached (what is shared counts as often as it is met; a slice's spare places count too). A statement '..UptoSaid' is the law's where the arguments, and the package variables that the reading takes, are together of bulk at most 1048576: NARROWER than '..Said'. Prove '..Said' where nothing that the law and all that it calls make is longer than what came in: it says more and counts as full. Else prove '..UptoSaid'. A law counts once. -/
mutual
def uptoBulk {H : Type} : DataW H → Nat
  | .lit (.string bytes) => bytes.length + 1
  | .lit _ => 1
  | .nil => 1
  | .ptr d => uptoBulk d + 1
  | .slice elems spare => uptoBulkAll elems + uptoBulkAll spare + 1
  | .agg parts => uptoBulkAll parts + 1
  | .iface _ d => uptoBulk d + 1
  | .map entries => uptoBulkEntries entries + 1
  | .held _ => 1
def uptoBulkAll {H : Type} : List (DataW H) → Nat
  | [] => 0
  | d :: r => uptoBulk d + uptoBulkAll r
def uptoBulkEntries {H : Type} : List (Lit × DataW H) → Nat
  | [] => 0
  | x :: r => uptoBulkEntry x + uptoBulkEntries r
def uptoBulkEntry {H : Type} : Lit × DataW H → Nat
  | (.string bytes, d) => bytes.length + uptoBulk d + 1
  | (_, d) => uptoBulk d + 1
 end
def uptoSmall : (H : Type) → List (DataW H) → Bool := fun _ ds => decide (uptoBulkAll ds ≤ 1048576)
def OpenSpec.upto (s : _root_.Go.ChangeSpec) : _root_.Go.OpenSpec := { _root_.Go.OpenSpec.ofChange s with cond := some uptoSmall }

/-- 'gristmilllaw.StoreCosts', WHERE WHAT IT READS IS OF BULK AT MOST 1048576: true; the input reads as it did. -/
def storeCostsUptoRow : OpenClaim := { program := "ytbphjpgkgolmpaadoor", sum := "e1c989cc799217972fc2ad33791b7ebbbbc07996524ac32b9c67dce1b3a6f1de", func := "gristmill/gristmilllaw.StoreCosts", spec := "storeCosts", inPlace := ["internal/reflectlite.ValueOf", "(internal/reflectlite.Value).Type", "(internal/reflectlite.Value).IsNil", "internal/reflectlite.TypeOf", "(internal/reflectlite.Value).Elem", "(internal/reflectlite.Value).Set"], unfollowed := true, recurses := true, named := ["errors.errorType"], plainKeys := false, apart := false, laid := [("errors.errorType", laid_errors_errorType)], narrowed := true }
def StoreCostsUptoSaid : Prop := storeCostsUptoRow.holds Tryd.pinned (OpenSpec.upto storeCostsSpec)

/-- 'gristmilllaw.StoreLoads', WHERE WHAT IT READS IS OF BULK AT MOST 1048576: true; the input reads as it did. -/
def storeLoadsUptoRow : OpenClaim := { program := "ytbphjpgkgolmpaadoor", sum := "e1c989cc799217972fc2ad33791b7ebbbbc07996524ac32b9c67dce1b3a6f1de", func := "gristmill/gristmilllaw.StoreLoads", spec := "storeLoads", inPlace := ["internal/reflectlite.ValueOf", "(internal/reflectlite.Value).Type", "(internal/reflectlite.Value).IsNil", "internal/reflectlite.TypeOf", "(internal/reflectlite.Value).Elem", "(internal/reflectlite.Value).Set"], unfollowed := true, recurses := true, named := ["errors.errorType"], plainKeys := false, apart := false, laid := [("errors.errorType", laid_errors_errorType)], narrowed := true }
def StoreLoadsUptoSaid : Prop := storeLoadsUptoRow.holds Tryd.pinned (OpenSpec.upto storeLoadsSpec)

/-- 'gristmilllaw.StoreGoods', WHERE WHAT IT READS IS OF BULK AT MOST 1048576: true; the input reads as it did. -/
def storeGoodsUptoRow : OpenClaim := { program := "ytbphjpgkgolmpaadoor", sum := "e1c989cc799217972fc2ad33791b7ebbbbc07996524ac32b9c67dce1b3a6f1de", func := "gristmill/gristmilllaw.StoreGoods", spec := "storeGoods", inPlace := ["internal/reflectlite.ValueOf", "(internal/reflectlite.Value).Type", "(internal/reflectlite.Value).IsNil", "internal/reflectlite.TypeOf", "(internal/reflectlite.Value).Elem", "(internal/reflectlite.Value).Set"], unfollowed := true, recurses := true, named := ["errors.errorType"], plainKeys := false, apart := false, laid := [("errors.errorType", laid_errors_errorType)], narrowed := true }
def StoreGoodsUptoSaid : Prop := storeGoodsUptoRow.holds Tryd.pinned (OpenSpec.upto storeGoodsSpec)

/-- 'gristmilllaw.StoreCopies', WHERE WHAT IT READS IS OF BULK AT MOST 1048576: true; the input reads as it did. -/
def storeCopiesUptoRow : OpenClaim := { program := "ytbphjpgkgolmpaadoor", sum := "e1c989cc799217972fc2ad33791b7ebbbbc07996524ac32b9c67dce1b3a6f1de", func := "gristmill/gristmilllaw.StoreCopies", spec := "storeCopies", inPlace := ["internal/reflectlite.ValueOf", "(internal/reflectlite.Value).Type", "(internal/reflectlite.Value).IsNil", "internal/reflectlite.TypeOf", "(internal/reflectlite.Value).Elem", "(internal/reflectlite.Value).Set"], unfollowed := true, recurses := true, named := ["errors.errorType"], plainKeys := false, apart := false, laid := [("errors.errorType", laid_errors_errorType)], narrowed := true }
def StoreCopiesUptoSaid : Prop := storeCopiesUptoRow.holds Tryd.pinned (OpenSpec.upto storeCopiesSpec)

/-- 'gristmilllaw.JudgeFits', WHERE WHAT IT READS IS OF BULK AT MOST 1048576: true; the input reads as it did. -/
def judgeFitsUptoRow : OpenClaim := { program := "ytbphjpgkgolmpaadoor", sum := "e1c989cc799217972fc2ad33791b7ebbbbc07996524ac32b9c67dce1b3a6f1de", func := "gristmill/gristmilllaw.JudgeFits", spec := "judgeFits", inPlace := ["internal/reflectlite.ValueOf", "(internal/reflectlite.Value).Type", "(internal/reflectlite.Value).IsNil", "internal/reflectlite.TypeOf", "(internal/reflectlite.Value).Elem", "(internal/reflectlite.Value).Set"], unfollowed := true, recurses := true, named := ["errors.errorType"], plainKeys := false, apart := false, laid := [("errors.errorType", laid_errors_errorType)], narrowed := true }
def JudgeFitsUptoSaid : Prop := judgeFitsUptoRow.holds Tryd.pinned (OpenSpec.upto judgeFitsSpec)

/-- 'gristmilllaw.RecordDoes', WHERE WHAT IT READS IS OF BULK AT MOST 1048576: true; the input reads as it did. -/
def recordDoesUptoRow : OpenClaim := { program := "ytbphjpgkgolmpaadoor", sum := "e1c989cc799217972fc2ad33791b7ebbbbc07996524ac32b9c67dce1b3a6f1de", func := "gristmill/gristmilllaw.RecordDoes", spec := "recordDoes", inPlace := ["slices.overlaps[int]", "internal/reflectlite.ValueOf", "(internal/reflectlite.Value).Type", "(internal/reflectlite.Value).IsNil", "internal/reflectlite.TypeOf", "(internal/reflectlite.Value).Elem", "(internal/reflectlite.Value).Set"], unfollowed := true, recurses := true, named := ["errors.errorType"], plainKeys := false, apart := false, laid := [("errors.errorType", laid_errors_errorType)], narrowed := true }
def RecordDoesUptoSaid : Prop := recordDoesUptoRow.holds Tryd.pinned (OpenSpec.upto recordDoesSpec)

end Rows
end Go.Proofs.YtbphjpgkgolmpaaDoor
