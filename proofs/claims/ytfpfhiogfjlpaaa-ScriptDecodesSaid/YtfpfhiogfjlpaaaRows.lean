/-
  No cell of these rows narrows 'for every input' (looked for: loops, veiled, ifaces, maps, wideKeys, modest, calm, conditions, laid).
  DERIVED. THE GIVEN ROWS OF THIS SEAT. 14 by the template 'for every input the law returns true; each argument reads behind the call as it read before'; 0 by the template 'total and deterministic' (their statements: YtfpfhiogfjlpaaaTotals.lean).
  GIVEN WITH THE SEED: the statements are not yours to turn. If you find one false, say at which input.
  Laid BY PROGRAM, IN A SANDBOX (cutbox-rows.mjs): the forced cells as the released guide's own fill.sh prints them over the translation 7c5534791fbe90d5… (all of the seat's roots in one cut). By AI agents, Wed Nov 11 2026. No macro, syntax, notation, axiom, sorry.
-/
import Derived.Test.YtfpfhiogfjlpaaaChecked
import GoSem.Claim
import GoSem.ClaimJoined
import GoSem.ClaimMapViews
import Derived.JoinedTies
import Derived.KernelRfl
namespace Go.Proofs.Ytfpfhiogfjlpaaa
/- THE CELL 'sum', in the pinned program and in every row, IS THE sha256 OF THE DUMP (.gsa) THAT YtfpfhiogfjlpaaaProg.lean LOADS. Nothing in Lean hashes anything: it is a label: what it is worth is what the hold of that sum in a sandbox is worth. -/
noncomputable def Try.pinned : Pinned := { name := "ytfpfhiogfjlpaaa", sum := "7c5534791fbe90d50a0cdef331e50f02da708e47619cbca2989a94c150ccc027", checked := Try.checked }
namespace Rows
def none {H : Type} : Left H := { results := [], args := [] }

/-- 'gristmilllaw.OpRights': WHATEVER THE INPUT: true; the input reads as it did. -/
def opRightsSpec : ChangeSpec := { name := "opRights", fn := fun _ => fun
  | [d] => { results := [.lit (.bool true)], args := [d] }
  | _ => none }
def opRightsRow : OpenClaim := { program := "ytfpfhiogfjlpaaa", sum := "7c5534791fbe90d50a0cdef331e50f02da708e47619cbca2989a94c150ccc027", func := "gristmill/gristmilllaw.OpRights", spec := "opRights", apart := false }
def OpRightsSaid : Prop := opRightsRow.holds Try.pinned (OpenSpec.ofChange opRightsSpec)

/-- ITS FALSE NEIGHBOUR: 'it returns false'. Refute it at one input. -/
def opRightsWrong : ChangeSpec := { name := "opRights", fn := fun _ => fun
  | [d] => { results := [.lit (.bool false)], args := [d] }
  | _ => none }
def OpRightsWrongFalsely : Prop := opRightsRow.holds Try.pinned (OpenSpec.ofChange opRightsWrong)

/-- 'gristmilllaw.WordBits': WHATEVER THE INPUT: true; the input reads as it did. -/
def wordBitsSpec : ChangeSpec := { name := "wordBits", fn := fun _ => fun
  | [d1, d2] => { results := [.lit (.bool true)], args := [d1, d2] }
  | _ => none }
def wordBitsRow : OpenClaim := { program := "ytfpfhiogfjlpaaa", sum := "7c5534791fbe90d50a0cdef331e50f02da708e47619cbca2989a94c150ccc027", func := "gristmill/gristmilllaw.WordBits", spec := "wordBits", apart := false }
def WordBitsSaid : Prop := wordBitsRow.holds Try.pinned (OpenSpec.ofChange wordBitsSpec)

/-- ITS FALSE NEIGHBOUR: 'it returns false'. Refute it at one input. -/
def wordBitsWrong : ChangeSpec := { name := "wordBits", fn := fun _ => fun
  | [d1, d2] => { results := [.lit (.bool false)], args := [d1, d2] }
  | _ => none }
def WordBitsWrongFalsely : Prop := wordBitsRow.holds Try.pinned (OpenSpec.ofChange wordBitsWrong)

/-- 'gristmilllaw.HeapRights': WHATEVER THE INPUT: true; the input reads as it did. -/
def heapRightsSpec : ChangeSpec := { name := "heapRights", fn := fun _ => fun
  | [d] => { results := [.lit (.bool true)], args := [d] }
  | _ => none }
def heapRightsRow : OpenClaim := { program := "ytfpfhiogfjlpaaa", sum := "7c5534791fbe90d50a0cdef331e50f02da708e47619cbca2989a94c150ccc027", func := "gristmill/gristmilllaw.HeapRights", spec := "heapRights", apart := false }
def HeapRightsSaid : Prop := heapRightsRow.holds Try.pinned (OpenSpec.ofChange heapRightsSpec)

/-- ITS FALSE NEIGHBOUR: 'it returns false'. Refute it at one input. -/
def heapRightsWrong : ChangeSpec := { name := "heapRights", fn := fun _ => fun
  | [d] => { results := [.lit (.bool false)], args := [d] }
  | _ => none }
def HeapRightsWrongFalsely : Prop := heapRightsRow.holds Try.pinned (OpenSpec.ofChange heapRightsWrong)

/-- 'gristmilllaw.RecordReads': WHATEVER THE INPUT: true; the input reads as it did. -/
def recordReadsSpec : ChangeSpec := { name := "recordReads", fn := fun _ => fun
  | [d1, d2] => { results := [.lit (.bool true)], args := [d1, d2] }
  | _ => none }
def recordReadsRow : OpenClaim := { program := "ytfpfhiogfjlpaaa", sum := "7c5534791fbe90d50a0cdef331e50f02da708e47619cbca2989a94c150ccc027", func := "gristmill/gristmilllaw.RecordReads", spec := "recordReads", apart := false }
def RecordReadsSaid : Prop := recordReadsRow.holds Try.pinned (OpenSpec.ofChange recordReadsSpec)

/-- ITS FALSE NEIGHBOUR: 'it returns false'. Refute it at one input. -/
def recordReadsWrong : ChangeSpec := { name := "recordReads", fn := fun _ => fun
  | [d1, d2] => { results := [.lit (.bool false)], args := [d1, d2] }
  | _ => none }
def RecordReadsWrongFalsely : Prop := recordReadsRow.holds Try.pinned (OpenSpec.ofChange recordReadsWrong)

/-- 'gristmilllaw.TallyDoes': WHATEVER THE INPUT: true; the input reads as it did. -/
def tallyDoesSpec : ChangeSpec := { name := "tallyDoes", fn := fun _ => fun
  | [d1, d2] => { results := [.lit (.bool true)], args := [d1, d2] }
  | _ => none }
def tallyDoesRow : OpenClaim := { program := "ytfpfhiogfjlpaaa", sum := "7c5534791fbe90d50a0cdef331e50f02da708e47619cbca2989a94c150ccc027", func := "gristmill/gristmilllaw.TallyDoes", spec := "tallyDoes", apart := false }
def TallyDoesSaid : Prop := tallyDoesRow.holds Try.pinned (OpenSpec.ofChange tallyDoesSpec)

/-- ITS FALSE NEIGHBOUR: 'it returns false'. Refute it at one input. -/
def tallyDoesWrong : ChangeSpec := { name := "tallyDoes", fn := fun _ => fun
  | [d1, d2] => { results := [.lit (.bool false)], args := [d1, d2] }
  | _ => none }
def TallyDoesWrongFalsely : Prop := tallyDoesRow.holds Try.pinned (OpenSpec.ofChange tallyDoesWrong)

/-- 'gristmilllaw.StackDoes': WHATEVER THE INPUT: true; the input reads as it did. -/
def stackDoesSpec : ChangeSpec := { name := "stackDoes", fn := fun _ => fun
  | [d1, d2] => { results := [.lit (.bool true)], args := [d1, d2] }
  | _ => none }
def stackDoesRow : OpenClaim := { program := "ytfpfhiogfjlpaaa", sum := "7c5534791fbe90d50a0cdef331e50f02da708e47619cbca2989a94c150ccc027", func := "gristmill/gristmilllaw.StackDoes", spec := "stackDoes", apart := false }
def StackDoesSaid : Prop := stackDoesRow.holds Try.pinned (OpenSpec.ofChange stackDoesSpec)

/-- ITS FALSE NEIGHBOUR: 'it returns false'. Refute it at one input. -/
def stackDoesWrong : ChangeSpec := { name := "stackDoes", fn := fun _ => fun
  | [d1, d2] => { results := [.lit (.bool false)], args := [d1, d2] }
  | _ => none }
def StackDoesWrongFalsely : Prop := stackDoesRow.holds Try.pinned (OpenSpec.ofChange stackDoesWrong)

/-- 'gristmilllaw.QueueDoes': WHATEVER THE INPUT: true; the input reads as it did. -/
def queueDoesSpec : ChangeSpec := { name := "queueDoes", fn := fun _ => fun
  | [d1, d2] => { results := [.lit (.bool true)], args := [d1, d2] }
  | _ => none }
def queueDoesRow : OpenClaim := { program := "ytfpfhiogfjlpaaa", sum := "7c5534791fbe90d50a0cdef331e50f02da708e47619cbca2989a94c150ccc027", func := "gristmill/gristmilllaw.QueueDoes", spec := "queueDoes", apart := false }
def QueueDoesSaid : Prop := queueDoesRow.holds Try.pinned (OpenSpec.ofChange queueDoesSpec)

/-- ITS FALSE NEIGHBOUR: 'it returns false'. Refute it at one input. -/
def queueDoesWrong : ChangeSpec := { name := "queueDoes", fn := fun _ => fun
  | [d1, d2] => { results := [.lit (.bool false)], args := [d1, d2] }
  | _ => none }
def QueueDoesWrongFalsely : Prop := queueDoesRow.holds Try.pinned (OpenSpec.ofChange queueDoesWrong)

/-- 'gristmilllaw.TableRights': WHATEVER THE INPUT: true; the input reads as it did. -/
def tableRightsSpec : ChangeSpec := { name := "tableRights", fn := fun _ => fun
  | [d] => { results := [.lit (.bool true)], args := [d] }
  | _ => none }
def tableRightsRow : OpenClaim := { program := "ytfpfhiogfjlpaaa", sum := "7c5534791fbe90d50a0cdef331e50f02da708e47619cbca2989a94c150ccc027", func := "gristmill/gristmilllaw.TableRights", spec := "tableRights", apart := false }
def TableRightsSaid : Prop := tableRightsRow.holds Try.pinned (OpenSpec.ofChange tableRightsSpec)

/-- ITS FALSE NEIGHBOUR: 'it returns false'. Refute it at one input. -/
def tableRightsWrong : ChangeSpec := { name := "tableRights", fn := fun _ => fun
  | [d] => { results := [.lit (.bool false)], args := [d] }
  | _ => none }
def TableRightsWrongFalsely : Prop := tableRightsRow.holds Try.pinned (OpenSpec.ofChange tableRightsWrong)

/-- 'gristmilllaw.ScriptDecodes': WHATEVER THE INPUT: true; the input reads as it did. -/
def scriptDecodesSpec : ChangeSpec := { name := "scriptDecodes", fn := fun _ => fun
  | [d] => { results := [.lit (.bool true)], args := [d] }
  | _ => none }
def scriptDecodesRow : OpenClaim := { program := "ytfpfhiogfjlpaaa", sum := "7c5534791fbe90d50a0cdef331e50f02da708e47619cbca2989a94c150ccc027", func := "gristmill/gristmilllaw.ScriptDecodes", spec := "scriptDecodes", unfollowed := true, recurses := true, apart := false }
def ScriptDecodesSaid : Prop := scriptDecodesRow.holds Try.pinned (OpenSpec.ofChange scriptDecodesSpec)

/-- ITS FALSE NEIGHBOUR: 'it returns false'. Refute it at one input. -/
def scriptDecodesWrong : ChangeSpec := { name := "scriptDecodes", fn := fun _ => fun
  | [d] => { results := [.lit (.bool false)], args := [d] }
  | _ => none }
def ScriptDecodesWrongFalsely : Prop := scriptDecodesRow.holds Try.pinned (OpenSpec.ofChange scriptDecodesWrong)

/-- 'gristmilllaw.HeapDoes': WHATEVER THE INPUT: true; the input reads as it did. -/
def heapDoesSpec : ChangeSpec := { name := "heapDoes", fn := fun _ => fun
  | [d1, d2] => { results := [.lit (.bool true)], args := [d1, d2] }
  | _ => none }
def heapDoesRow : OpenClaim := { program := "ytfpfhiogfjlpaaa", sum := "7c5534791fbe90d50a0cdef331e50f02da708e47619cbca2989a94c150ccc027", func := "gristmill/gristmilllaw.HeapDoes", spec := "heapDoes", apart := false }
def HeapDoesSaid : Prop := heapDoesRow.holds Try.pinned (OpenSpec.ofChange heapDoesSpec)

/-- ITS FALSE NEIGHBOUR: 'it returns false'. Refute it at one input. -/
def heapDoesWrong : ChangeSpec := { name := "heapDoes", fn := fun _ => fun
  | [d1, d2] => { results := [.lit (.bool false)], args := [d1, d2] }
  | _ => none }
def HeapDoesWrongFalsely : Prop := heapDoesRow.holds Try.pinned (OpenSpec.ofChange heapDoesWrong)

/-- 'gristmilllaw.TableDoes': WHATEVER THE INPUT: true; the input reads as it did. -/
def tableDoesSpec : ChangeSpec := { name := "tableDoes", fn := fun _ => fun
  | [d1, d2] => { results := [.lit (.bool true)], args := [d1, d2] }
  | _ => none }
def tableDoesRow : OpenClaim := { program := "ytfpfhiogfjlpaaa", sum := "7c5534791fbe90d50a0cdef331e50f02da708e47619cbca2989a94c150ccc027", func := "gristmill/gristmilllaw.TableDoes", spec := "tableDoes", apart := false }
def TableDoesSaid : Prop := tableDoesRow.holds Try.pinned (OpenSpec.ofChange tableDoesSpec)

/-- ITS FALSE NEIGHBOUR: 'it returns false'. Refute it at one input. -/
def tableDoesWrong : ChangeSpec := { name := "tableDoes", fn := fun _ => fun
  | [d1, d2] => { results := [.lit (.bool false)], args := [d1, d2] }
  | _ => none }
def TableDoesWrongFalsely : Prop := tableDoesRow.holds Try.pinned (OpenSpec.ofChange tableDoesWrong)

/-- 'gristmilllaw.ObjectRights': WHATEVER THE INPUT: true; the input reads as it did. -/
def objectRightsSpec : ChangeSpec := { name := "objectRights", fn := fun _ => fun
  | [d1, d2] => { results := [.lit (.bool true)], args := [d1, d2] }
  | _ => none }
def objectRightsRow : OpenClaim := { program := "ytfpfhiogfjlpaaa", sum := "7c5534791fbe90d50a0cdef331e50f02da708e47619cbca2989a94c150ccc027", func := "gristmill/gristmilllaw.ObjectRights", spec := "objectRights", apart := false }
def ObjectRightsSaid : Prop := objectRightsRow.holds Try.pinned (OpenSpec.ofChange objectRightsSpec)

/-- ITS FALSE NEIGHBOUR: 'it returns false'. Refute it at one input. -/
def objectRightsWrong : ChangeSpec := { name := "objectRights", fn := fun _ => fun
  | [d1, d2] => { results := [.lit (.bool false)], args := [d1, d2] }
  | _ => none }
def ObjectRightsWrongFalsely : Prop := objectRightsRow.holds Try.pinned (OpenSpec.ofChange objectRightsWrong)

/-- 'gristmilllaw.RecordRights': WHATEVER THE INPUT: true; the input reads as it did. -/
def recordRightsSpec : ChangeSpec := { name := "recordRights", fn := fun _ => fun
  | [d] => { results := [.lit (.bool true)], args := [d] }
  | _ => none }
def recordRightsRow : OpenClaim := { program := "ytfpfhiogfjlpaaa", sum := "7c5534791fbe90d50a0cdef331e50f02da708e47619cbca2989a94c150ccc027", func := "gristmill/gristmilllaw.RecordRights", spec := "recordRights", apart := false }
def RecordRightsSaid : Prop := recordRightsRow.holds Try.pinned (OpenSpec.ofChange recordRightsSpec)

/-- ITS FALSE NEIGHBOUR: 'it returns false'. Refute it at one input. -/
def recordRightsWrong : ChangeSpec := { name := "recordRights", fn := fun _ => fun
  | [d] => { results := [.lit (.bool false)], args := [d] }
  | _ => none }
def RecordRightsWrongFalsely : Prop := recordRightsRow.holds Try.pinned (OpenSpec.ofChange recordRightsWrong)

/-- 'gristmilllaw.DequeDoes': WHATEVER THE INPUT: true; the input reads as it did. -/
def dequeDoesSpec : ChangeSpec := { name := "dequeDoes", fn := fun _ => fun
  | [d1, d2] => { results := [.lit (.bool true)], args := [d1, d2] }
  | _ => none }
def dequeDoesRow : OpenClaim := { program := "ytfpfhiogfjlpaaa", sum := "7c5534791fbe90d50a0cdef331e50f02da708e47619cbca2989a94c150ccc027", func := "gristmill/gristmilllaw.DequeDoes", spec := "dequeDoes", inPlace := ["slices.overlaps[int]"], apart := false }
def DequeDoesSaid : Prop := dequeDoesRow.holds Try.pinned (OpenSpec.ofChange dequeDoesSpec)

/-- ITS FALSE NEIGHBOUR: 'it returns false'. Refute it at one input. -/
def dequeDoesWrong : ChangeSpec := { name := "dequeDoes", fn := fun _ => fun
  | [d1, d2] => { results := [.lit (.bool false)], args := [d1, d2] }
  | _ => none }
def DequeDoesWrongFalsely : Prop := dequeDoesRow.holds Try.pinned (OpenSpec.ofChange dequeDoesWrong)

/- THE SECOND FORM. 'bulk': how many values and letters a reading holds, each counted each time it is reached (what is shared counts as often as it is met; a slice's spare places count too). A statement '..UptoSaid' is the law's where the arguments, and the package variables that the reading takes, are together of bulk at most 1048576: NARROWER than '..Said'. Prove '..Said' where nothing that the law and all that it calls make is longer than what came in: it says more and counts as full. Else prove '..UptoSaid'. A law counts once. -/
mutual
def uptoBulk {H : Type} : DataW H → Nat
  | .lit (.string bytes) => bytes.length + 1
  | .lit _ => 1
  | .nil => 1
  | .ptr d => uptoBulk d + 1
  | .slice elems spare => uptoBulkAll elems + uptoBulkAll spare + 1
  | .agg parts => uptoBulkAll parts + 1
  | .iface _ d => uptoBulk d + 1
  | .map entries => uptoBulkEntries entries + 1
  | .held _ => 1
def uptoBulkAll {H : Type} : List (DataW H) → Nat
  | [] => 0
  | d :: r => uptoBulk d + uptoBulkAll r
def uptoBulkEntries {H : Type} : List (Lit × DataW H) → Nat
  | [] => 0
  | x :: r => uptoBulkEntry x + uptoBulkEntries r
def uptoBulkEntry {H : Type} : Lit × DataW H → Nat
  | (.string bytes, d) => bytes.length + uptoBulk d + 1
  | (_, d) => uptoBulk d + 1
 end
def uptoSmall : (H : Type) → List (DataW H) → Bool := fun _ ds => decide (uptoBulkAll ds ≤ 1048576)
def OpenSpec.upto (s : _root_.Go.ChangeSpec) : _root_.Go.OpenSpec := { _root_.Go.OpenSpec.ofChange s with cond := some uptoSmall }

/-- 'gristmilllaw.OpRights', WHERE WHAT IT READS IS OF BULK AT MOST 1048576: true; the input reads as it did. -/
def opRightsUptoRow : OpenClaim := { program := "ytfpfhiogfjlpaaa", sum := "7c5534791fbe90d50a0cdef331e50f02da708e47619cbca2989a94c150ccc027", func := "gristmill/gristmilllaw.OpRights", spec := "opRights", apart := false, narrowed := true }
def OpRightsUptoSaid : Prop := opRightsUptoRow.holds Try.pinned (OpenSpec.upto opRightsSpec)

/-- 'gristmilllaw.WordBits', WHERE WHAT IT READS IS OF BULK AT MOST 1048576: true; the input reads as it did. -/
def wordBitsUptoRow : OpenClaim := { program := "ytfpfhiogfjlpaaa", sum := "7c5534791fbe90d50a0cdef331e50f02da708e47619cbca2989a94c150ccc027", func := "gristmill/gristmilllaw.WordBits", spec := "wordBits", apart := false, narrowed := true }
def WordBitsUptoSaid : Prop := wordBitsUptoRow.holds Try.pinned (OpenSpec.upto wordBitsSpec)

/-- 'gristmilllaw.HeapRights', WHERE WHAT IT READS IS OF BULK AT MOST 1048576: true; the input reads as it did. -/
def heapRightsUptoRow : OpenClaim := { program := "ytfpfhiogfjlpaaa", sum := "7c5534791fbe90d50a0cdef331e50f02da708e47619cbca2989a94c150ccc027", func := "gristmill/gristmilllaw.HeapRights", spec := "heapRights", apart := false, narrowed := true }
def HeapRightsUptoSaid : Prop := heapRightsUptoRow.holds Try.pinned (OpenSpec.upto heapRightsSpec)

/-- 'gristmilllaw.RecordReads', WHERE WHAT IT READS IS OF BULK AT MOST 1048576: true; the input reads as it did. -/
def recordReadsUptoRow : OpenClaim := { program := "ytfpfhiogfjlpaaa", sum := "7c5534791fbe90d50a0cdef331e50f02da708e47619cbca2989a94c150ccc027", func := "gristmill/gristmilllaw.RecordReads", spec := "recordReads", apart := false, narrowed := true }
def RecordReadsUptoSaid : Prop := recordReadsUptoRow.holds Try.pinned (OpenSpec.upto recordReadsSpec)

/-- 'gristmilllaw.TallyDoes', WHERE WHAT IT READS IS OF BULK AT MOST 1048576: true; the input reads as it did. -/
def tallyDoesUptoRow : OpenClaim := { program := "ytfpfhiogfjlpaaa", sum := "7c5534791fbe90d50a0cdef331e50f02da708e47619cbca2989a94c150ccc027", func := "gristmill/gristmilllaw.TallyDoes", spec := "tallyDoes", apart := false, narrowed := true }
def TallyDoesUptoSaid : Prop := tallyDoesUptoRow.holds Try.pinned (OpenSpec.upto tallyDoesSpec)

/-- 'gristmilllaw.StackDoes', WHERE WHAT IT READS IS OF BULK AT MOST 1048576: true; the input reads as it did. -/
def stackDoesUptoRow : OpenClaim := { program := "ytfpfhiogfjlpaaa", sum := "7c5534791fbe90d50a0cdef331e50f02da708e47619cbca2989a94c150ccc027", func := "gristmill/gristmilllaw.StackDoes", spec := "stackDoes", apart := false, narrowed := true }
def StackDoesUptoSaid : Prop := stackDoesUptoRow.holds Try.pinned (OpenSpec.upto stackDoesSpec)

/-- 'gristmilllaw.QueueDoes', WHERE WHAT IT READS IS OF BULK AT MOST 1048576: true; the input reads as it did. -/
def queueDoesUptoRow : OpenClaim := { program := "ytfpfhiogfjlpaaa", sum := "7c5534791fbe90d50a0cdef331e50f02da708e47619cbca2989a94c150ccc027", func := "gristmill/gristmilllaw.QueueDoes", spec := "queueDoes", apart := false, narrowed := true }
def QueueDoesUptoSaid : Prop := queueDoesUptoRow.holds Try.pinned (OpenSpec.upto queueDoesSpec)

/-- 'gristmilllaw.TableRights', WHERE WHAT IT READS IS OF BULK AT MOST 1048576: true; the input reads as it did. -/
def tableRightsUptoRow : OpenClaim := { program := "ytfpfhiogfjlpaaa", sum := "7c5534791fbe90d50a0cdef331e50f02da708e47619cbca2989a94c150ccc027", func := "gristmill/gristmilllaw.TableRights", spec := "tableRights", apart := false, narrowed := true }
def TableRightsUptoSaid : Prop := tableRightsUptoRow.holds Try.pinned (OpenSpec.upto tableRightsSpec)

/-- 'gristmilllaw.ScriptDecodes', WHERE WHAT IT READS IS OF BULK AT MOST 1048576: true; the input reads as it did. -/
def scriptDecodesUptoRow : OpenClaim := { program := "ytfpfhiogfjlpaaa", sum := "7c5534791fbe90d50a0cdef331e50f02da708e47619cbca2989a94c150ccc027", func := "gristmill/gristmilllaw.ScriptDecodes", spec := "scriptDecodes", unfollowed := true, recurses := true, apart := false, narrowed := true }
def ScriptDecodesUptoSaid : Prop := scriptDecodesUptoRow.holds Try.pinned (OpenSpec.upto scriptDecodesSpec)

/-- 'gristmilllaw.HeapDoes', WHERE WHAT IT READS IS OF BULK AT MOST 1048576: true; the input reads as it did. -/
def heapDoesUptoRow : OpenClaim := { program := "ytfpfhiogfjlpaaa", sum := "7c5534791fbe90d50a0cdef331e50f02da708e47619cbca2989a94c150ccc027", func := "gristmill/gristmilllaw.HeapDoes", spec := "heapDoes", apart := false, narrowed := true }
def HeapDoesUptoSaid : Prop := heapDoesUptoRow.holds Try.pinned (OpenSpec.upto heapDoesSpec)

/-- 'gristmilllaw.TableDoes', WHERE WHAT IT READS IS OF BULK AT MOST 1048576: true; the input reads as it did. -/
def tableDoesUptoRow : OpenClaim := { program := "ytfpfhiogfjlpaaa", sum := "7c5534791fbe90d50a0cdef331e50f02da708e47619cbca2989a94c150ccc027", func := "gristmill/gristmilllaw.TableDoes", spec := "tableDoes", apart := false, narrowed := true }
def TableDoesUptoSaid : Prop := tableDoesUptoRow.holds Try.pinned (OpenSpec.upto tableDoesSpec)

/-- 'gristmilllaw.ObjectRights', WHERE WHAT IT READS IS OF BULK AT MOST 1048576: true; the input reads as it did. -/
def objectRightsUptoRow : OpenClaim := { program := "ytfpfhiogfjlpaaa", sum := "7c5534791fbe90d50a0cdef331e50f02da708e47619cbca2989a94c150ccc027", func := "gristmill/gristmilllaw.ObjectRights", spec := "objectRights", apart := false, narrowed := true }
def ObjectRightsUptoSaid : Prop := objectRightsUptoRow.holds Try.pinned (OpenSpec.upto objectRightsSpec)

/-- 'gristmilllaw.RecordRights', WHERE WHAT IT READS IS OF BULK AT MOST 1048576: true; the input reads as it did. -/
def recordRightsUptoRow : OpenClaim := { program := "ytfpfhiogfjlpaaa", sum := "7c5534791fbe90d50a0cdef331e50f02da708e47619cbca2989a94c150ccc027", func := "gristmill/gristmilllaw.RecordRights", spec := "recordRights", apart := false, narrowed := true }
def RecordRightsUptoSaid : Prop := recordRightsUptoRow.holds Try.pinned (OpenSpec.upto recordRightsSpec)

/-- 'gristmilllaw.DequeDoes', WHERE WHAT IT READS IS OF BULK AT MOST 1048576: true; the input reads as it did. -/
def dequeDoesUptoRow : OpenClaim := { program := "ytfpfhiogfjlpaaa", sum := "7c5534791fbe90d50a0cdef331e50f02da708e47619cbca2989a94c150ccc027", func := "gristmill/gristmilllaw.DequeDoes", spec := "dequeDoes", inPlace := ["slices.overlaps[int]"], apart := false, narrowed := true }
def DequeDoesUptoSaid : Prop := dequeDoesUptoRow.holds Try.pinned (OpenSpec.upto dequeDoesSpec)

end Rows
end Go.Proofs.Ytfpfhiogfjlpaaa
