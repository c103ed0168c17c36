/-
  DERIVED. GIVEN WITH THE SEED: THE CARDS: each row of YtbphjpgkgolmpaaDoorRows.lean that lists a variable, with what it lists TIED to the program's text (the seventh form; the later family's looks); each row that meets fmt, with fmt's text TOLD by the authors' own Lean function (tested against real Go, not proved from fmt's source: count such statements apart). THE CARD IS WHAT COUNTS. Prove the row's statement (the work); the ties are given (YtbphjpgkgolmpaaDoorTie.lean); close each card by the builder's one call (the guide's Derived/Test/ToyasCard.lean, 'card_holds'). Laid BY PROGRAM, IN A SANDBOX (cutbox-door.mjs). By AI agents, Wed Nov 11 2026. No macro, syntax, notation, axiom, sorry.
-/
import Derived.Test.YtbphjpgkgolmpaaDoorRows
import GoSem.ClaimSeven
namespace Go.Proofs.YtbphjpgkgolmpaaDoor
namespace Rows

/-- THE TIED CARD OF 'gristmilllaw.StoreCosts'. -/
def storeCostsCard : Claim7 := { stood := { row := storeCostsRow, standIns := [], harness := (true, "b8fd5332664c5be5307ded09cfd92605556a580c629119ebeb4925cc5f77d18d"), looks := true }, kinds := [], alts := [], laidByText := true, laidKinds := [.handle], laidTests := true, laidLooks := .later }
def StoreCostsCardSaid : Prop := Claim7.holds Tryd.pinned (.plain (OpenSpec.ofChange storeCostsSpec)) storeCostsCard

/-- THE TIED CARD OF 'gristmilllaw.StoreLoads'. -/
def storeLoadsCard : Claim7 := { stood := { row := storeLoadsRow, standIns := [], harness := (true, "b8fd5332664c5be5307ded09cfd92605556a580c629119ebeb4925cc5f77d18d"), looks := true }, kinds := [], alts := [], laidByText := true, laidKinds := [.handle], laidTests := true, laidLooks := .later }
def StoreLoadsCardSaid : Prop := Claim7.holds Tryd.pinned (.plain (OpenSpec.ofChange storeLoadsSpec)) storeLoadsCard

/-- THE TIED CARD OF 'gristmilllaw.StoreGoods'. -/
def storeGoodsCard : Claim7 := { stood := { row := storeGoodsRow, standIns := [], harness := (true, "b8fd5332664c5be5307ded09cfd92605556a580c629119ebeb4925cc5f77d18d"), looks := true }, kinds := [], alts := [], laidByText := true, laidKinds := [.handle], laidTests := true, laidLooks := .later }
def StoreGoodsCardSaid : Prop := Claim7.holds Tryd.pinned (.plain (OpenSpec.ofChange storeGoodsSpec)) storeGoodsCard

/-- THE TIED CARD OF 'gristmilllaw.StoreCopies'. -/
def storeCopiesCard : Claim7 := { stood := { row := storeCopiesRow, standIns := [], harness := (true, "b8fd5332664c5be5307ded09cfd92605556a580c629119ebeb4925cc5f77d18d"), looks := true }, kinds := [], alts := [], laidByText := true, laidKinds := [.handle], laidTests := true, laidLooks := .later }
def StoreCopiesCardSaid : Prop := Claim7.holds Tryd.pinned (.plain (OpenSpec.ofChange storeCopiesSpec)) storeCopiesCard

/-- THE TIED CARD OF 'gristmilllaw.JudgeFits'. -/
def judgeFitsCard : Claim7 := { stood := { row := judgeFitsRow, standIns := [], harness := (true, "b8fd5332664c5be5307ded09cfd92605556a580c629119ebeb4925cc5f77d18d"), looks := true }, kinds := [], alts := [], laidByText := true, laidKinds := [.handle], laidTests := true, laidLooks := .later }
def JudgeFitsCardSaid : Prop := Claim7.holds Tryd.pinned (.plain (OpenSpec.ofChange judgeFitsSpec)) judgeFitsCard

/-- THE TIED CARD OF 'gristmilllaw.RecordDoes'. -/
def recordDoesCard : Claim7 := { stood := { row := recordDoesRow, standIns := [], harness := (true, "b8fd5332664c5be5307ded09cfd92605556a580c629119ebeb4925cc5f77d18d"), looks := true }, kinds := [], alts := [], laidByText := true, laidKinds := [.handle], laidTests := true, laidLooks := .later }
def RecordDoesCardSaid : Prop := Claim7.holds Tryd.pinned (.plain (OpenSpec.ofChange recordDoesSpec)) recordDoesCard

/-- THE SECOND FORM's CARD OF 'gristmilllaw.StoreCosts'. -/
def storeCostsUptoCard : Claim7 := { stood := { row := storeCostsUptoRow, standIns := [], harness := (true, "b8fd5332664c5be5307ded09cfd92605556a580c629119ebeb4925cc5f77d18d"), looks := true }, kinds := [], alts := [], laidByText := true, laidKinds := [.handle], laidTests := true, laidLooks := .later }
def StoreCostsUptoCardSaid : Prop := Claim7.holds Tryd.pinned (.plain (OpenSpec.upto storeCostsSpec)) storeCostsUptoCard

/-- THE SECOND FORM's CARD OF 'gristmilllaw.StoreLoads'. -/
def storeLoadsUptoCard : Claim7 := { stood := { row := storeLoadsUptoRow, standIns := [], harness := (true, "b8fd5332664c5be5307ded09cfd92605556a580c629119ebeb4925cc5f77d18d"), looks := true }, kinds := [], alts := [], laidByText := true, laidKinds := [.handle], laidTests := true, laidLooks := .later }
def StoreLoadsUptoCardSaid : Prop := Claim7.holds Tryd.pinned (.plain (OpenSpec.upto storeLoadsSpec)) storeLoadsUptoCard

/-- THE SECOND FORM's CARD OF 'gristmilllaw.StoreGoods'. -/
def storeGoodsUptoCard : Claim7 := { stood := { row := storeGoodsUptoRow, standIns := [], harness := (true, "b8fd5332664c5be5307ded09cfd92605556a580c629119ebeb4925cc5f77d18d"), looks := true }, kinds := [], alts := [], laidByText := true, laidKinds := [.handle], laidTests := true, laidLooks := .later }
def StoreGoodsUptoCardSaid : Prop := Claim7.holds Tryd.pinned (.plain (OpenSpec.upto storeGoodsSpec)) storeGoodsUptoCard

/-- THE SECOND FORM's CARD OF 'gristmilllaw.StoreCopies'. -/
def storeCopiesUptoCard : Claim7 := { stood := { row := storeCopiesUptoRow, standIns := [], harness := (true, "b8fd5332664c5be5307ded09cfd92605556a580c629119ebeb4925cc5f77d18d"), looks := true }, kinds := [], alts := [], laidByText := true, laidKinds := [.handle], laidTests := true, laidLooks := .later }
def StoreCopiesUptoCardSaid : Prop := Claim7.holds Tryd.pinned (.plain (OpenSpec.upto storeCopiesSpec)) storeCopiesUptoCard

/-- THE SECOND FORM's CARD OF 'gristmilllaw.JudgeFits'. -/
def judgeFitsUptoCard : Claim7 := { stood := { row := judgeFitsUptoRow, standIns := [], harness := (true, "b8fd5332664c5be5307ded09cfd92605556a580c629119ebeb4925cc5f77d18d"), looks := true }, kinds := [], alts := [], laidByText := true, laidKinds := [.handle], laidTests := true, laidLooks := .later }
def JudgeFitsUptoCardSaid : Prop := Claim7.holds Tryd.pinned (.plain (OpenSpec.upto judgeFitsSpec)) judgeFitsUptoCard

/-- THE SECOND FORM's CARD OF 'gristmilllaw.RecordDoes'. -/
def recordDoesUptoCard : Claim7 := { stood := { row := recordDoesUptoRow, standIns := [], harness := (true, "b8fd5332664c5be5307ded09cfd92605556a580c629119ebeb4925cc5f77d18d"), looks := true }, kinds := [], alts := [], laidByText := true, laidKinds := [.handle], laidTests := true, laidLooks := .later }
def RecordDoesUptoCardSaid : Prop := Claim7.holds Tryd.pinned (.plain (OpenSpec.upto recordDoesSpec)) recordDoesUptoCard
end Rows
end Go.Proofs.YtbphjpgkgolmpaaDoor
