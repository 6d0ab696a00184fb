/-
  DERIVED. GIVEN WITH THE SEED: THE CARDS: each row of YtndpeoladndepaaDoorRows.lean that lists a variable, with what it lists TIED to the program's text (the seventh form; the later family's looks); each row that meets fmt, with fmt's text TOLD by the authors' own Lean function (tested against real Go, not proved from fmt's source: count such statements apart). THE CARD IS WHAT COUNTS. Prove the row's statement (the work); the ties are given (YtndpeoladndepaaDoorTie.lean); close each card by the builder's one call (the guide's Derived/Test/ToyasCard.lean, 'card_holds'). Laid BY PROGRAM, IN A SANDBOX (cutbox-door.mjs). By AI agents, Wed Nov 11 2026. No macro, syntax, notation, axiom, sorry.
-/
import Derived.Test.YtndpeoladndepaaDoorRows
import GoSem.ClaimSeven
namespace Go.Proofs.YtndpeoladndepaaDoor
namespace Rows

/-- THE TIED CARD OF 'semigrouplaw02.RelationComposes'. -/
def relationComposesCard : Claim7 := { stood := { row := relationComposesRow, standIns := [], harness := (true, "e167a45ae4436fe1b173538cdf7c1118dc709da597a9c189f04e6973f5cca684"), looks := false }, kinds := [], alts := [], laidByText := true, laidKinds := [.data], laidTests := true, laidLooks := .later }
def RelationComposesCardSaid : Prop := Claim7.holds Tryd.pinned (.plain (OpenSpec.ofChange relationComposesSpec)) relationComposesCard

/-- THE TIED CARD OF 'semigrouplaw02.RelationImages'. -/
def relationImagesCard : Claim7 := { stood := { row := relationImagesRow, standIns := [], harness := (true, "e167a45ae4436fe1b173538cdf7c1118dc709da597a9c189f04e6973f5cca684"), looks := false }, kinds := [], alts := [], laidByText := true, laidKinds := [.data], laidTests := true, laidLooks := .later }
def RelationImagesCardSaid : Prop := Claim7.holds Tryd.pinned (.plain (OpenSpec.ofChange relationImagesSpec)) relationImagesCard

/-- THE TIED CARD OF 'semigrouplaw02.RelationSteps'. -/
def relationStepsCard : Claim7 := { stood := { row := relationStepsRow, standIns := [], harness := (true, "e167a45ae4436fe1b173538cdf7c1118dc709da597a9c189f04e6973f5cca684"), looks := false }, kinds := [], alts := [], laidByText := true, laidKinds := [.data], laidTests := true, laidLooks := .later }
def RelationStepsCardSaid : Prop := Claim7.holds Tryd.pinned (.plain (OpenSpec.ofChange relationStepsSpec)) relationStepsCard

/-- THE TIED CARD OF 'semigrouplaw02.RelationCombines'. -/
def relationCombinesCard : Claim7 := { stood := { row := relationCombinesRow, standIns := [], harness := (true, "e167a45ae4436fe1b173538cdf7c1118dc709da597a9c189f04e6973f5cca684"), looks := false }, kinds := [], alts := [], laidByText := true, laidKinds := [.data], laidTests := true, laidLooks := .later }
def RelationCombinesCardSaid : Prop := Claim7.holds Tryd.pinned (.plain (OpenSpec.ofChange relationCombinesSpec)) relationCombinesCard

/-- THE TIED CARD OF 'semigrouplaw02.RelationLeast'. -/
def relationLeastCard : Claim7 := { stood := { row := relationLeastRow, standIns := [], harness := (true, "e167a45ae4436fe1b173538cdf7c1118dc709da597a9c189f04e6973f5cca684"), looks := false }, kinds := [], alts := [], laidByText := true, laidKinds := [.data], laidTests := true, laidLooks := .later }
def RelationLeastCardSaid : Prop := Claim7.holds Tryd.pinned (.plain (OpenSpec.ofChange relationLeastSpec)) relationLeastCard

/-- THE TIED CARD OF 'semigrouplaw02.RelationSorts'. -/
def relationSortsCard : Claim7 := { stood := { row := relationSortsRow, standIns := [], harness := (true, "e167a45ae4436fe1b173538cdf7c1118dc709da597a9c189f04e6973f5cca684"), looks := false }, kinds := [], alts := [], laidByText := true, laidKinds := [.data], laidTests := true, laidLooks := .later }
def RelationSortsCardSaid : Prop := Claim7.holds Tryd.pinned (.plain (OpenSpec.ofChange relationSortsSpec)) relationSortsCard

/-- THE TIED CARD OF 'semigrouplaw02.RelationAssociates'. -/
def relationAssociatesCard : Claim7 := { stood := { row := relationAssociatesRow, standIns := [], harness := (true, "e167a45ae4436fe1b173538cdf7c1118dc709da597a9c189f04e6973f5cca684"), looks := false }, kinds := [], alts := [], laidByText := true, laidKinds := [.data], laidTests := true, laidLooks := .later }
def RelationAssociatesCardSaid : Prop := Claim7.holds Tryd.pinned (.plain (OpenSpec.ofChange relationAssociatesSpec)) relationAssociatesCard

/-- THE TIED CARD OF 'semigrouplaw02.RelationComponents'. -/
def relationComponentsCard : Claim7 := { stood := { row := relationComponentsRow, standIns := [], harness := (true, "e167a45ae4436fe1b173538cdf7c1118dc709da597a9c189f04e6973f5cca684"), looks := false }, kinds := [], alts := [], laidByText := true, laidKinds := [.data], laidTests := true, laidLooks := .later }
def RelationComponentsCardSaid : Prop := Claim7.holds Tryd.pinned (.plain (OpenSpec.ofChange relationComponentsSpec)) relationComponentsCard

/-- THE TIED CARD OF 'semigrouplaw02.RelationDistributes'. -/
def relationDistributesCard : Claim7 := { stood := { row := relationDistributesRow, standIns := [], harness := (true, "e167a45ae4436fe1b173538cdf7c1118dc709da597a9c189f04e6973f5cca684"), looks := false }, kinds := [], alts := [], laidByText := true, laidKinds := [.data], laidTests := true, laidLooks := .later }
def RelationDistributesCardSaid : Prop := Claim7.holds Tryd.pinned (.plain (OpenSpec.ofChange relationDistributesSpec)) relationDistributesCard

/-- THE TIED CARD OF 'semigrouplaw02.RelationCondenses'. -/
def relationCondensesCard : Claim7 := { stood := { row := relationCondensesRow, standIns := [], harness := (true, "e167a45ae4436fe1b173538cdf7c1118dc709da597a9c189f04e6973f5cca684"), looks := false }, kinds := [], alts := [], laidByText := true, laidKinds := [.data], laidTests := true, laidLooks := .later }
def RelationCondensesCardSaid : Prop := Claim7.holds Tryd.pinned (.plain (OpenSpec.ofChange relationCondensesSpec)) relationCondensesCard

/-- THE TIED CARD OF 'semigrouplaw02.RelationAcyclic'. -/
def relationAcyclicCard : Claim7 := { stood := { row := relationAcyclicRow, standIns := [], harness := (true, "e167a45ae4436fe1b173538cdf7c1118dc709da597a9c189f04e6973f5cca684"), looks := false }, kinds := [], alts := [], laidByText := true, laidKinds := [.data], laidTests := true, laidLooks := .later }
def RelationAcyclicCardSaid : Prop := Claim7.holds Tryd.pinned (.plain (OpenSpec.ofChange relationAcyclicSpec)) relationAcyclicCard

/-- THE SECOND FORM's CARD OF 'semigrouplaw02.RelationComposes'. -/
def relationComposesUptoCard : Claim7 := { stood := { row := relationComposesUptoRow, standIns := [], harness := (true, "e167a45ae4436fe1b173538cdf7c1118dc709da597a9c189f04e6973f5cca684"), looks := false }, kinds := [], alts := [], laidByText := true, laidKinds := [.data], laidTests := true, laidLooks := .later }
def RelationComposesUptoCardSaid : Prop := Claim7.holds Tryd.pinned (.plain (OpenSpec.upto relationComposesSpec)) relationComposesUptoCard

/-- THE SECOND FORM's CARD OF 'semigrouplaw02.RelationImages'. -/
def relationImagesUptoCard : Claim7 := { stood := { row := relationImagesUptoRow, standIns := [], harness := (true, "e167a45ae4436fe1b173538cdf7c1118dc709da597a9c189f04e6973f5cca684"), looks := false }, kinds := [], alts := [], laidByText := true, laidKinds := [.data], laidTests := true, laidLooks := .later }
def RelationImagesUptoCardSaid : Prop := Claim7.holds Tryd.pinned (.plain (OpenSpec.upto relationImagesSpec)) relationImagesUptoCard

/-- THE SECOND FORM's CARD OF 'semigrouplaw02.RelationSteps'. -/
def relationStepsUptoCard : Claim7 := { stood := { row := relationStepsUptoRow, standIns := [], harness := (true, "e167a45ae4436fe1b173538cdf7c1118dc709da597a9c189f04e6973f5cca684"), looks := false }, kinds := [], alts := [], laidByText := true, laidKinds := [.data], laidTests := true, laidLooks := .later }
def RelationStepsUptoCardSaid : Prop := Claim7.holds Tryd.pinned (.plain (OpenSpec.upto relationStepsSpec)) relationStepsUptoCard

/-- THE SECOND FORM's CARD OF 'semigrouplaw02.RelationCombines'. -/
def relationCombinesUptoCard : Claim7 := { stood := { row := relationCombinesUptoRow, standIns := [], harness := (true, "e167a45ae4436fe1b173538cdf7c1118dc709da597a9c189f04e6973f5cca684"), looks := false }, kinds := [], alts := [], laidByText := true, laidKinds := [.data], laidTests := true, laidLooks := .later }
def RelationCombinesUptoCardSaid : Prop := Claim7.holds Tryd.pinned (.plain (OpenSpec.upto relationCombinesSpec)) relationCombinesUptoCard

/-- THE SECOND FORM's CARD OF 'semigrouplaw02.RelationLeast'. -/
def relationLeastUptoCard : Claim7 := { stood := { row := relationLeastUptoRow, standIns := [], harness := (true, "e167a45ae4436fe1b173538cdf7c1118dc709da597a9c189f04e6973f5cca684"), looks := false }, kinds := [], alts := [], laidByText := true, laidKinds := [.data], laidTests := true, laidLooks := .later }
def RelationLeastUptoCardSaid : Prop := Claim7.holds Tryd.pinned (.plain (OpenSpec.upto relationLeastSpec)) relationLeastUptoCard

/-- THE SECOND FORM's CARD OF 'semigrouplaw02.RelationSorts'. -/
def relationSortsUptoCard : Claim7 := { stood := { row := relationSortsUptoRow, standIns := [], harness := (true, "e167a45ae4436fe1b173538cdf7c1118dc709da597a9c189f04e6973f5cca684"), looks := false }, kinds := [], alts := [], laidByText := true, laidKinds := [.data], laidTests := true, laidLooks := .later }
def RelationSortsUptoCardSaid : Prop := Claim7.holds Tryd.pinned (.plain (OpenSpec.upto relationSortsSpec)) relationSortsUptoCard

/-- THE SECOND FORM's CARD OF 'semigrouplaw02.RelationAssociates'. -/
def relationAssociatesUptoCard : Claim7 := { stood := { row := relationAssociatesUptoRow, standIns := [], harness := (true, "e167a45ae4436fe1b173538cdf7c1118dc709da597a9c189f04e6973f5cca684"), looks := false }, kinds := [], alts := [], laidByText := true, laidKinds := [.data], laidTests := true, laidLooks := .later }
def RelationAssociatesUptoCardSaid : Prop := Claim7.holds Tryd.pinned (.plain (OpenSpec.upto relationAssociatesSpec)) relationAssociatesUptoCard

/-- THE SECOND FORM's CARD OF 'semigrouplaw02.RelationComponents'. -/
def relationComponentsUptoCard : Claim7 := { stood := { row := relationComponentsUptoRow, standIns := [], harness := (true, "e167a45ae4436fe1b173538cdf7c1118dc709da597a9c189f04e6973f5cca684"), looks := false }, kinds := [], alts := [], laidByText := true, laidKinds := [.data], laidTests := true, laidLooks := .later }
def RelationComponentsUptoCardSaid : Prop := Claim7.holds Tryd.pinned (.plain (OpenSpec.upto relationComponentsSpec)) relationComponentsUptoCard

/-- THE SECOND FORM's CARD OF 'semigrouplaw02.RelationDistributes'. -/
def relationDistributesUptoCard : Claim7 := { stood := { row := relationDistributesUptoRow, standIns := [], harness := (true, "e167a45ae4436fe1b173538cdf7c1118dc709da597a9c189f04e6973f5cca684"), looks := false }, kinds := [], alts := [], laidByText := true, laidKinds := [.data], laidTests := true, laidLooks := .later }
def RelationDistributesUptoCardSaid : Prop := Claim7.holds Tryd.pinned (.plain (OpenSpec.upto relationDistributesSpec)) relationDistributesUptoCard

/-- THE SECOND FORM's CARD OF 'semigrouplaw02.RelationCondenses'. -/
def relationCondensesUptoCard : Claim7 := { stood := { row := relationCondensesUptoRow, standIns := [], harness := (true, "e167a45ae4436fe1b173538cdf7c1118dc709da597a9c189f04e6973f5cca684"), looks := false }, kinds := [], alts := [], laidByText := true, laidKinds := [.data], laidTests := true, laidLooks := .later }
def RelationCondensesUptoCardSaid : Prop := Claim7.holds Tryd.pinned (.plain (OpenSpec.upto relationCondensesSpec)) relationCondensesUptoCard

/-- THE SECOND FORM's CARD OF 'semigrouplaw02.RelationAcyclic'. -/
def relationAcyclicUptoCard : Claim7 := { stood := { row := relationAcyclicUptoRow, standIns := [], harness := (true, "e167a45ae4436fe1b173538cdf7c1118dc709da597a9c189f04e6973f5cca684"), looks := false }, kinds := [], alts := [], laidByText := true, laidKinds := [.data], laidTests := true, laidLooks := .later }
def RelationAcyclicUptoCardSaid : Prop := Claim7.holds Tryd.pinned (.plain (OpenSpec.upto relationAcyclicSpec)) relationAcyclicUptoCard
end Rows
end Go.Proofs.YtndpeoladndepaaDoor
