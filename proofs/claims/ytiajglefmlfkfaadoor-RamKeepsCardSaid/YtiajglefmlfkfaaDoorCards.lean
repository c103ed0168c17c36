/-
  DERIVED. GIVEN WITH THE SEED: THE CARDS: each row of YtiajglefmlfkfaaDoorRows.lean that lists a variable, with what it lists TIED to the program's text (the seventh form; the later family's looks); each row that meets fmt, with fmt's text TOLD by the authors' own Lean function (tested against real Go, not proved from fmt's source: count such statements apart). THE CARD IS WHAT COUNTS. Prove the row's statement (the work); the ties are given (YtiajglefmlfkfaaDoorTie.lean); close each card by the builder's one call (the guide's Derived/Test/ToyasCard.lean, 'card_holds'). Laid BY PROGRAM, IN A SANDBOX (cutbox-door.mjs). By AI agents, Wed Nov 11 2026. No macro, syntax, notation, axiom, sorry.
-/
import Derived.Test.YtiajglefmlfkfaaDoorRows
import GoSem.ClaimSeven
namespace Go.Proofs.YtiajglefmlfkfaaDoor
namespace Rows

/-- THE TIED CARD OF 'gristmilllaw.OpWords'. -/
def opWordsCard : Claim7 := { stood := { row := opWordsRow, standIns := [], harness := (true, "97be31db8324300d8570c48f7d32b5a25152eedb4d1106918fab361d9d18d046"), looks := true }, kinds := [], alts := [], laidByText := true, laidKinds := [.handle], laidTests := true, laidLooks := .later }
def OpWordsCardSaid : Prop := Claim7.holds Tryd.pinned (.plain (OpenSpec.ofChange opWordsSpec)) opWordsCard

/-- THE TIED CARD OF 'gristmilllaw.OpFits'. -/
def opFitsCard : Claim7 := { stood := { row := opFitsRow, standIns := [], harness := (true, "97be31db8324300d8570c48f7d32b5a25152eedb4d1106918fab361d9d18d046"), looks := true }, kinds := [], alts := [], laidByText := true, laidKinds := [.handle], laidTests := true, laidLooks := .later }
def OpFitsCardSaid : Prop := Claim7.holds Tryd.pinned (.plain (OpenSpec.ofChange opFitsSpec)) opFitsCard

/-- THE TIED CARD OF 'gristmilllaw.WordGets'. -/
def wordGetsCard : Claim7 := { stood := { row := wordGetsRow, standIns := [], harness := (true, "97be31db8324300d8570c48f7d32b5a25152eedb4d1106918fab361d9d18d046"), looks := true }, kinds := [], alts := [], laidByText := true, laidKinds := [.handle], laidTests := true, laidLooks := .later }
def WordGetsCardSaid : Prop := Claim7.holds Tryd.pinned (.plain (OpenSpec.ofChange wordGetsSpec)) wordGetsCard

/-- THE TIED CARD OF 'gristmilllaw.WordSets'. -/
def wordSetsCard : Claim7 := { stood := { row := wordSetsRow, standIns := [], harness := (true, "97be31db8324300d8570c48f7d32b5a25152eedb4d1106918fab361d9d18d046"), looks := true }, kinds := [], alts := [], laidByText := true, laidKinds := [.handle], laidTests := true, laidLooks := .later }
def WordSetsCardSaid : Prop := Claim7.holds Tryd.pinned (.plain (OpenSpec.ofChange wordSetsSpec)) wordSetsCard

/-- THE TIED CARD OF 'gristmilllaw.BatchOpens'. -/
def batchOpensCard : Claim7 := { stood := { row := batchOpensRow, standIns := [], harness := (true, "97be31db8324300d8570c48f7d32b5a25152eedb4d1106918fab361d9d18d046"), looks := true }, kinds := [], alts := [], laidByText := true, laidKinds := [.handle], laidTests := true, laidLooks := .later }
def BatchOpensCardSaid : Prop := Claim7.holds Tryd.pinned (.plain (OpenSpec.ofChange batchOpensSpec)) batchOpensCard

/-- THE TIED CARD OF 'gristmilllaw.RamKeeps'. -/
def ramKeepsCard : Claim7 := { stood := { row := ramKeepsRow, standIns := [], harness := (true, "97be31db8324300d8570c48f7d32b5a25152eedb4d1106918fab361d9d18d046"), looks := true }, kinds := [], alts := [], laidByText := true, laidKinds := [.handle], laidTests := true, laidLooks := .later }
def RamKeepsCardSaid : Prop := Claim7.holds Tryd.pinned (.plain (OpenSpec.ofChange ramKeepsSpec)) ramKeepsCard

/-- THE TIED CARD OF 'gristmilllaw.OpTells'. -/
def opTellsCard : Claim7 := { stood := { row := opTellsRow, standIns := [], harness := (true, "97be31db8324300d8570c48f7d32b5a25152eedb4d1106918fab361d9d18d046"), looks := true }, kinds := [], alts := [], laidByText := true, laidKinds := [.handle], laidTests := true, laidLooks := .later }
def OpTellsCardSaid : Prop := Claim7.holds Tryd.pinned (.plain (OpenSpec.ofChange opTellsSpec)) opTellsCard

/-- THE TIED CARD OF 'gristmilllaw.OpReads'. -/
def opReadsCard : Claim7 := { stood := { row := opReadsRow, standIns := [], harness := (true, "97be31db8324300d8570c48f7d32b5a25152eedb4d1106918fab361d9d18d046"), looks := true }, kinds := [], alts := [], laidByText := true, laidKinds := [.handle], laidTests := true, laidLooks := .later }
def OpReadsCardSaid : Prop := Claim7.holds Tryd.pinned (.plain (OpenSpec.ofChange opReadsSpec)) opReadsCard

/-- THE TIED CARD OF 'gristmilllaw.RecordAnswers'. -/
def recordAnswersCard : Claim7 := { stood := { row := recordAnswersRow, standIns := [], harness := (true, "97be31db8324300d8570c48f7d32b5a25152eedb4d1106918fab361d9d18d046"), looks := true }, kinds := [], alts := [], laidByText := true, laidKinds := [.handle], laidTests := true, laidLooks := .later }
def RecordAnswersCardSaid : Prop := Claim7.holds Tryd.pinned (.plain (OpenSpec.ofChange recordAnswersSpec)) recordAnswersCard

/-- THE TIED CARD OF 'gristmilllaw.StoreCosts'. -/
def storeCostsCard : Claim7 := { stood := { row := storeCostsRow, standIns := [], harness := (true, "97be31db8324300d8570c48f7d32b5a25152eedb4d1106918fab361d9d18d046"), looks := true }, kinds := [], alts := [], laidByText := true, laidKinds := [.handle], laidTests := true, laidLooks := .later }
def StoreCostsCardSaid : Prop := Claim7.holds Tryd.pinned (.plain (OpenSpec.ofChange storeCostsSpec)) storeCostsCard

/-- THE TIED CARD OF 'gristmilllaw.StoreLoads'. -/
def storeLoadsCard : Claim7 := { stood := { row := storeLoadsRow, standIns := [], harness := (true, "97be31db8324300d8570c48f7d32b5a25152eedb4d1106918fab361d9d18d046"), looks := true }, kinds := [], alts := [], laidByText := true, laidKinds := [.handle], laidTests := true, laidLooks := .later }
def StoreLoadsCardSaid : Prop := Claim7.holds Tryd.pinned (.plain (OpenSpec.ofChange storeLoadsSpec)) storeLoadsCard

/-- THE TIED CARD OF 'gristmilllaw.StoreGoods'. -/
def storeGoodsCard : Claim7 := { stood := { row := storeGoodsRow, standIns := [], harness := (true, "97be31db8324300d8570c48f7d32b5a25152eedb4d1106918fab361d9d18d046"), looks := true }, kinds := [], alts := [], laidByText := true, laidKinds := [.handle], laidTests := true, laidLooks := .later }
def StoreGoodsCardSaid : Prop := Claim7.holds Tryd.pinned (.plain (OpenSpec.ofChange storeGoodsSpec)) storeGoodsCard

/-- THE TIED CARD OF 'gristmilllaw.StoreCopies'. -/
def storeCopiesCard : Claim7 := { stood := { row := storeCopiesRow, standIns := [], harness := (true, "97be31db8324300d8570c48f7d32b5a25152eedb4d1106918fab361d9d18d046"), looks := true }, kinds := [], alts := [], laidByText := true, laidKinds := [.handle], laidTests := true, laidLooks := .later }
def StoreCopiesCardSaid : Prop := Claim7.holds Tryd.pinned (.plain (OpenSpec.ofChange storeCopiesSpec)) storeCopiesCard

/-- THE TIED CARD OF 'gristmilllaw.JudgeFits'. -/
def judgeFitsCard : Claim7 := { stood := { row := judgeFitsRow, standIns := [], harness := (true, "97be31db8324300d8570c48f7d32b5a25152eedb4d1106918fab361d9d18d046"), looks := true }, kinds := [], alts := [], laidByText := true, laidKinds := [.handle], laidTests := true, laidLooks := .later }
def JudgeFitsCardSaid : Prop := Claim7.holds Tryd.pinned (.plain (OpenSpec.ofChange judgeFitsSpec)) judgeFitsCard

/-- THE TIED CARD OF 'gristmilllaw.ObjectDoes'. -/
def objectDoesCard : Claim7 := { stood := { row := objectDoesRow, standIns := [], harness := (true, "97be31db8324300d8570c48f7d32b5a25152eedb4d1106918fab361d9d18d046"), looks := true }, kinds := [], alts := [], laidByText := true, laidKinds := [.handle], laidTests := true, laidLooks := .later }
def ObjectDoesCardSaid : Prop := Claim7.holds Tryd.pinned (.plain (OpenSpec.ofChange objectDoesSpec)) objectDoesCard

/-- THE TIED CARD OF 'gristmilllaw.ObjectSizes'. -/
def objectSizesCard : Claim7 := { stood := { row := objectSizesRow, standIns := [], harness := (true, "97be31db8324300d8570c48f7d32b5a25152eedb4d1106918fab361d9d18d046"), looks := true }, kinds := [], alts := [], laidByText := true, laidKinds := [.handle], laidTests := true, laidLooks := .later }
def ObjectSizesCardSaid : Prop := Claim7.holds Tryd.pinned (.plain (OpenSpec.ofChange objectSizesSpec)) objectSizesCard

/-- THE TIED CARD OF 'gristmilllaw.JudgeLegal'. -/
def judgeLegalCard : Claim7 := { stood := { row := judgeLegalRow, standIns := [], harness := (true, "97be31db8324300d8570c48f7d32b5a25152eedb4d1106918fab361d9d18d046"), looks := true }, kinds := [], alts := [], laidByText := true, laidKinds := [.handle], laidTests := true, laidLooks := .later }
def JudgeLegalCardSaid : Prop := Claim7.holds Tryd.pinned (.plain (OpenSpec.ofChange judgeLegalSpec)) judgeLegalCard

/-- THE TIED CARD OF 'gristmilllaw.RecordDoes'. -/
def recordDoesCard : Claim7 := { stood := { row := recordDoesRow, standIns := [], harness := (true, "97be31db8324300d8570c48f7d32b5a25152eedb4d1106918fab361d9d18d046"), looks := true }, kinds := [], alts := [], laidByText := true, laidKinds := [.handle], laidTests := true, laidLooks := .later }
def RecordDoesCardSaid : Prop := Claim7.holds Tryd.pinned (.plain (OpenSpec.ofChange recordDoesSpec)) recordDoesCard

/-- THE SECOND FORM's CARD OF 'gristmilllaw.OpWords'. -/
def opWordsUptoCard : Claim7 := { stood := { row := opWordsUptoRow, standIns := [], harness := (true, "97be31db8324300d8570c48f7d32b5a25152eedb4d1106918fab361d9d18d046"), looks := true }, kinds := [], alts := [], laidByText := true, laidKinds := [.handle], laidTests := true, laidLooks := .later }
def OpWordsUptoCardSaid : Prop := Claim7.holds Tryd.pinned (.plain (OpenSpec.upto opWordsSpec)) opWordsUptoCard

/-- THE SECOND FORM's CARD OF 'gristmilllaw.OpFits'. -/
def opFitsUptoCard : Claim7 := { stood := { row := opFitsUptoRow, standIns := [], harness := (true, "97be31db8324300d8570c48f7d32b5a25152eedb4d1106918fab361d9d18d046"), looks := true }, kinds := [], alts := [], laidByText := true, laidKinds := [.handle], laidTests := true, laidLooks := .later }
def OpFitsUptoCardSaid : Prop := Claim7.holds Tryd.pinned (.plain (OpenSpec.upto opFitsSpec)) opFitsUptoCard

/-- THE SECOND FORM's CARD OF 'gristmilllaw.WordGets'. -/
def wordGetsUptoCard : Claim7 := { stood := { row := wordGetsUptoRow, standIns := [], harness := (true, "97be31db8324300d8570c48f7d32b5a25152eedb4d1106918fab361d9d18d046"), looks := true }, kinds := [], alts := [], laidByText := true, laidKinds := [.handle], laidTests := true, laidLooks := .later }
def WordGetsUptoCardSaid : Prop := Claim7.holds Tryd.pinned (.plain (OpenSpec.upto wordGetsSpec)) wordGetsUptoCard

/-- THE SECOND FORM's CARD OF 'gristmilllaw.WordSets'. -/
def wordSetsUptoCard : Claim7 := { stood := { row := wordSetsUptoRow, standIns := [], harness := (true, "97be31db8324300d8570c48f7d32b5a25152eedb4d1106918fab361d9d18d046"), looks := true }, kinds := [], alts := [], laidByText := true, laidKinds := [.handle], laidTests := true, laidLooks := .later }
def WordSetsUptoCardSaid : Prop := Claim7.holds Tryd.pinned (.plain (OpenSpec.upto wordSetsSpec)) wordSetsUptoCard

/-- THE SECOND FORM's CARD OF 'gristmilllaw.BatchOpens'. -/
def batchOpensUptoCard : Claim7 := { stood := { row := batchOpensUptoRow, standIns := [], harness := (true, "97be31db8324300d8570c48f7d32b5a25152eedb4d1106918fab361d9d18d046"), looks := true }, kinds := [], alts := [], laidByText := true, laidKinds := [.handle], laidTests := true, laidLooks := .later }
def BatchOpensUptoCardSaid : Prop := Claim7.holds Tryd.pinned (.plain (OpenSpec.upto batchOpensSpec)) batchOpensUptoCard

/-- THE SECOND FORM's CARD OF 'gristmilllaw.RamKeeps'. -/
def ramKeepsUptoCard : Claim7 := { stood := { row := ramKeepsUptoRow, standIns := [], harness := (true, "97be31db8324300d8570c48f7d32b5a25152eedb4d1106918fab361d9d18d046"), looks := true }, kinds := [], alts := [], laidByText := true, laidKinds := [.handle], laidTests := true, laidLooks := .later }
def RamKeepsUptoCardSaid : Prop := Claim7.holds Tryd.pinned (.plain (OpenSpec.upto ramKeepsSpec)) ramKeepsUptoCard

/-- THE SECOND FORM's CARD OF 'gristmilllaw.OpTells'. -/
def opTellsUptoCard : Claim7 := { stood := { row := opTellsUptoRow, standIns := [], harness := (true, "97be31db8324300d8570c48f7d32b5a25152eedb4d1106918fab361d9d18d046"), looks := true }, kinds := [], alts := [], laidByText := true, laidKinds := [.handle], laidTests := true, laidLooks := .later }
def OpTellsUptoCardSaid : Prop := Claim7.holds Tryd.pinned (.plain (OpenSpec.upto opTellsSpec)) opTellsUptoCard

/-- THE SECOND FORM's CARD OF 'gristmilllaw.OpReads'. -/
def opReadsUptoCard : Claim7 := { stood := { row := opReadsUptoRow, standIns := [], harness := (true, "97be31db8324300d8570c48f7d32b5a25152eedb4d1106918fab361d9d18d046"), looks := true }, kinds := [], alts := [], laidByText := true, laidKinds := [.handle], laidTests := true, laidLooks := .later }
def OpReadsUptoCardSaid : Prop := Claim7.holds Tryd.pinned (.plain (OpenSpec.upto opReadsSpec)) opReadsUptoCard

/-- THE SECOND FORM's CARD OF 'gristmilllaw.RecordAnswers'. -/
def recordAnswersUptoCard : Claim7 := { stood := { row := recordAnswersUptoRow, standIns := [], harness := (true, "97be31db8324300d8570c48f7d32b5a25152eedb4d1106918fab361d9d18d046"), looks := true }, kinds := [], alts := [], laidByText := true, laidKinds := [.handle], laidTests := true, laidLooks := .later }
def RecordAnswersUptoCardSaid : Prop := Claim7.holds Tryd.pinned (.plain (OpenSpec.upto recordAnswersSpec)) recordAnswersUptoCard

/-- THE SECOND FORM's CARD OF 'gristmilllaw.StoreCosts'. -/
def storeCostsUptoCard : Claim7 := { stood := { row := storeCostsUptoRow, standIns := [], harness := (true, "97be31db8324300d8570c48f7d32b5a25152eedb4d1106918fab361d9d18d046"), looks := true }, kinds := [], alts := [], laidByText := true, laidKinds := [.handle], laidTests := true, laidLooks := .later }
def StoreCostsUptoCardSaid : Prop := Claim7.holds Tryd.pinned (.plain (OpenSpec.upto storeCostsSpec)) storeCostsUptoCard

/-- THE SECOND FORM's CARD OF 'gristmilllaw.StoreLoads'. -/
def storeLoadsUptoCard : Claim7 := { stood := { row := storeLoadsUptoRow, standIns := [], harness := (true, "97be31db8324300d8570c48f7d32b5a25152eedb4d1106918fab361d9d18d046"), looks := true }, kinds := [], alts := [], laidByText := true, laidKinds := [.handle], laidTests := true, laidLooks := .later }
def StoreLoadsUptoCardSaid : Prop := Claim7.holds Tryd.pinned (.plain (OpenSpec.upto storeLoadsSpec)) storeLoadsUptoCard

/-- THE SECOND FORM's CARD OF 'gristmilllaw.StoreGoods'. -/
def storeGoodsUptoCard : Claim7 := { stood := { row := storeGoodsUptoRow, standIns := [], harness := (true, "97be31db8324300d8570c48f7d32b5a25152eedb4d1106918fab361d9d18d046"), looks := true }, kinds := [], alts := [], laidByText := true, laidKinds := [.handle], laidTests := true, laidLooks := .later }
def StoreGoodsUptoCardSaid : Prop := Claim7.holds Tryd.pinned (.plain (OpenSpec.upto storeGoodsSpec)) storeGoodsUptoCard

/-- THE SECOND FORM's CARD OF 'gristmilllaw.StoreCopies'. -/
def storeCopiesUptoCard : Claim7 := { stood := { row := storeCopiesUptoRow, standIns := [], harness := (true, "97be31db8324300d8570c48f7d32b5a25152eedb4d1106918fab361d9d18d046"), looks := true }, kinds := [], alts := [], laidByText := true, laidKinds := [.handle], laidTests := true, laidLooks := .later }
def StoreCopiesUptoCardSaid : Prop := Claim7.holds Tryd.pinned (.plain (OpenSpec.upto storeCopiesSpec)) storeCopiesUptoCard

/-- THE SECOND FORM's CARD OF 'gristmilllaw.JudgeFits'. -/
def judgeFitsUptoCard : Claim7 := { stood := { row := judgeFitsUptoRow, standIns := [], harness := (true, "97be31db8324300d8570c48f7d32b5a25152eedb4d1106918fab361d9d18d046"), looks := true }, kinds := [], alts := [], laidByText := true, laidKinds := [.handle], laidTests := true, laidLooks := .later }
def JudgeFitsUptoCardSaid : Prop := Claim7.holds Tryd.pinned (.plain (OpenSpec.upto judgeFitsSpec)) judgeFitsUptoCard

/-- THE SECOND FORM's CARD OF 'gristmilllaw.ObjectDoes'. -/
def objectDoesUptoCard : Claim7 := { stood := { row := objectDoesUptoRow, standIns := [], harness := (true, "97be31db8324300d8570c48f7d32b5a25152eedb4d1106918fab361d9d18d046"), looks := true }, kinds := [], alts := [], laidByText := true, laidKinds := [.handle], laidTests := true, laidLooks := .later }
def ObjectDoesUptoCardSaid : Prop := Claim7.holds Tryd.pinned (.plain (OpenSpec.upto objectDoesSpec)) objectDoesUptoCard

/-- THE SECOND FORM's CARD OF 'gristmilllaw.ObjectSizes'. -/
def objectSizesUptoCard : Claim7 := { stood := { row := objectSizesUptoRow, standIns := [], harness := (true, "97be31db8324300d8570c48f7d32b5a25152eedb4d1106918fab361d9d18d046"), looks := true }, kinds := [], alts := [], laidByText := true, laidKinds := [.handle], laidTests := true, laidLooks := .later }
def ObjectSizesUptoCardSaid : Prop := Claim7.holds Tryd.pinned (.plain (OpenSpec.upto objectSizesSpec)) objectSizesUptoCard

/-- THE SECOND FORM's CARD OF 'gristmilllaw.JudgeLegal'. -/
def judgeLegalUptoCard : Claim7 := { stood := { row := judgeLegalUptoRow, standIns := [], harness := (true, "97be31db8324300d8570c48f7d32b5a25152eedb4d1106918fab361d9d18d046"), looks := true }, kinds := [], alts := [], laidByText := true, laidKinds := [.handle], laidTests := true, laidLooks := .later }
def JudgeLegalUptoCardSaid : Prop := Claim7.holds Tryd.pinned (.plain (OpenSpec.upto judgeLegalSpec)) judgeLegalUptoCard

/-- THE SECOND FORM's CARD OF 'gristmilllaw.RecordDoes'. -/
def recordDoesUptoCard : Claim7 := { stood := { row := recordDoesUptoRow, standIns := [], harness := (true, "97be31db8324300d8570c48f7d32b5a25152eedb4d1106918fab361d9d18d046"), looks := true }, kinds := [], alts := [], laidByText := true, laidKinds := [.handle], laidTests := true, laidLooks := .later }
def RecordDoesUptoCardSaid : Prop := Claim7.holds Tryd.pinned (.plain (OpenSpec.upto recordDoesSpec)) recordDoesUptoCard
end Rows
end Go.Proofs.YtiajglefmlfkfaaDoor
