/-
  NARROWER THAN 'FOR EVERY INPUT', by the rows' own cells (each row's printed sentence says how): RelationComposes: laid · RelationImages: laid · RelationSteps: laid · RelationCombines: laid · RelationLeast: laid · RelationSorts: laid · RelationAssociates: laid · RelationComponents: laid · RelationDistributes: laid · RelationCondenses: laid · RelationAcyclic: laid.
  DERIVED. THE GIVEN ROWS OF THIS SEAT. 11 by the template 'for every input the law returns true; each argument reads behind the call as it read before'; 0 by the template 'total and deterministic' (their statements: YtndpeoladndepaaDoorTotals.lean).
  GIVEN WITH THE SEED: the statements are not yours to turn. If you find one false, say at which input.
  Laid BY PROGRAM, IN A SANDBOX (cutbox-rows.mjs): the forced cells as the released guide's own fill.sh prints them over the translation 564776d0bab096a9… (all of the seat's roots in one cut). By AI agents, Wed Nov 11 2026. No macro, syntax, notation, axiom, sorry.
-/
import Derived.Test.YtndpeoladndepaaDoorChecked
import GoSem.Claim
import GoSem.ClaimJoined
import GoSem.ClaimMapViews
import Derived.JoinedTies
import Derived.KernelRfl
namespace Go.Proofs.YtndpeoladndepaaDoor
/- THE CELL 'sum', in the pinned program and in every row, IS THE sha256 OF THE DUMP (.gsa) THAT YtndpeoladndepaaDoorProg.lean LOADS. Nothing in Lean hashes anything: it is a label: what it is worth is what the hold of that sum in a sandbox is worth. -/
noncomputable def Tryd.pinned : Pinned := { name := "ytndpeoladndepaadoor", sum := "564776d0bab096a9f30e15bc6ef70d4edd951446b8a3d476fababa0a1bdfa7d4", checked := Tryd.checked }
namespace Rows
def none {H : Type} : Left H := { results := [], args := [] }

/- WHAT THE LISTED PACKAGE-LEVEL VARIABLES READ AS WHEN THE CALL BEGINS. Each datum BY PROGRAM (the guide's laid-datum.mjs) off the statement by which the dump's own 'gosem.cut.vars' lays the variable. In a bare row this is a premise. The card (YtndpeoladndepaaDoorCards.lean) ties it to the program's text. -/
def laid_math_bits_deBruijn64tab {H : Type} : DataW H := .agg [.lit (.int .u8 0), .lit (.int .u8 1), .lit (.int .u8 56), .lit (.int .u8 2), .lit (.int .u8 57), .lit (.int .u8 49), .lit (.int .u8 28), .lit (.int .u8 3), .lit (.int .u8 61), .lit (.int .u8 58), .lit (.int .u8 42), .lit (.int .u8 50), .lit (.int .u8 38), .lit (.int .u8 29), .lit (.int .u8 17), .lit (.int .u8 4), .lit (.int .u8 62), .lit (.int .u8 47), .lit (.int .u8 59), .lit (.int .u8 36), .lit (.int .u8 45), .lit (.int .u8 43), .lit (.int .u8 51), .lit (.int .u8 22), .lit (.int .u8 53), .lit (.int .u8 39), .lit (.int .u8 33), .lit (.int .u8 30), .lit (.int .u8 24), .lit (.int .u8 18), .lit (.int .u8 12), .lit (.int .u8 5), .lit (.int .u8 63), .lit (.int .u8 55), .lit (.int .u8 48), .lit (.int .u8 27), .lit (.int .u8 60), .lit (.int .u8 41), .lit (.int .u8 37), .lit (.int .u8 16), .lit (.int .u8 46), .lit (.int .u8 35), .lit (.int .u8 44), .lit (.int .u8 21), .lit (.int .u8 52), .lit (.int .u8 32), .lit (.int .u8 23), .lit (.int .u8 11), .lit (.int .u8 54), .lit (.int .u8 26), .lit (.int .u8 40), .lit (.int .u8 15), .lit (.int .u8 34), .lit (.int .u8 20), .lit (.int .u8 31), .lit (.int .u8 10), .lit (.int .u8 25), .lit (.int .u8 14), .lit (.int .u8 19), .lit (.int .u8 9), .lit (.int .u8 13), .lit (.int .u8 8), .lit (.int .u8 7), .lit (.int .u8 6)]

/-- 'semigrouplaw02.RelationComposes': WHATEVER THE INPUT: true; the input reads as it did. -/
def relationComposesSpec : ChangeSpec := { name := "relationComposes", fn := fun _ => fun
  | [d1, d2] => { results := [.lit (.bool true)], args := [d1, d2] }
  | _ => none }
def relationComposesRow : OpenClaim := { program := "ytndpeoladndepaadoor", sum := "564776d0bab096a9f30e15bc6ef70d4edd951446b8a3d476fababa0a1bdfa7d4", func := "semigroup/semigrouplaw02.RelationComposes", spec := "relationComposes", named := ["math/bits.deBruijn64tab"], apart := false, laid := [("math/bits.deBruijn64tab", laid_math_bits_deBruijn64tab)] }
def RelationComposesSaid : Prop := relationComposesRow.holds Tryd.pinned (OpenSpec.ofChange relationComposesSpec)

/-- ITS FALSE NEIGHBOUR: 'it returns false'. Refute it at one input. -/
def relationComposesWrong : ChangeSpec := { name := "relationComposes", fn := fun _ => fun
  | [d1, d2] => { results := [.lit (.bool false)], args := [d1, d2] }
  | _ => none }
def RelationComposesWrongFalsely : Prop := relationComposesRow.holds Tryd.pinned (OpenSpec.ofChange relationComposesWrong)

/-- 'semigrouplaw02.RelationImages': WHATEVER THE INPUT: true; the input reads as it did. -/
def relationImagesSpec : ChangeSpec := { name := "relationImages", fn := fun _ => fun
  | [d1, d2] => { results := [.lit (.bool true)], args := [d1, d2] }
  | _ => none }
def relationImagesRow : OpenClaim := { program := "ytndpeoladndepaadoor", sum := "564776d0bab096a9f30e15bc6ef70d4edd951446b8a3d476fababa0a1bdfa7d4", func := "semigroup/semigrouplaw02.RelationImages", spec := "relationImages", named := ["math/bits.deBruijn64tab"], apart := false, laid := [("math/bits.deBruijn64tab", laid_math_bits_deBruijn64tab)] }
def RelationImagesSaid : Prop := relationImagesRow.holds Tryd.pinned (OpenSpec.ofChange relationImagesSpec)

/-- ITS FALSE NEIGHBOUR: 'it returns false'. Refute it at one input. -/
def relationImagesWrong : ChangeSpec := { name := "relationImages", fn := fun _ => fun
  | [d1, d2] => { results := [.lit (.bool false)], args := [d1, d2] }
  | _ => none }
def RelationImagesWrongFalsely : Prop := relationImagesRow.holds Tryd.pinned (OpenSpec.ofChange relationImagesWrong)

/-- 'semigrouplaw02.RelationSteps': WHATEVER THE INPUT: true; the input reads as it did. -/
def relationStepsSpec : ChangeSpec := { name := "relationSteps", fn := fun _ => fun
  | [d1, d2, d3, d4] => { results := [.lit (.bool true)], args := [d1, d2, d3, d4] }
  | _ => none }
def relationStepsRow : OpenClaim := { program := "ytndpeoladndepaadoor", sum := "564776d0bab096a9f30e15bc6ef70d4edd951446b8a3d476fababa0a1bdfa7d4", func := "semigroup/semigrouplaw02.RelationSteps", spec := "relationSteps", named := ["math/bits.deBruijn64tab"], apart := false, laid := [("math/bits.deBruijn64tab", laid_math_bits_deBruijn64tab)] }
def RelationStepsSaid : Prop := relationStepsRow.holds Tryd.pinned (OpenSpec.ofChange relationStepsSpec)

/-- ITS FALSE NEIGHBOUR: 'it returns false'. Refute it at one input. -/
def relationStepsWrong : ChangeSpec := { name := "relationSteps", fn := fun _ => fun
  | [d1, d2, d3, d4] => { results := [.lit (.bool false)], args := [d1, d2, d3, d4] }
  | _ => none }
def RelationStepsWrongFalsely : Prop := relationStepsRow.holds Tryd.pinned (OpenSpec.ofChange relationStepsWrong)

/-- 'semigrouplaw02.RelationCombines': WHATEVER THE INPUT: true; the input reads as it did. -/
def relationCombinesSpec : ChangeSpec := { name := "relationCombines", fn := fun _ => fun
  | [d1, d2] => { results := [.lit (.bool true)], args := [d1, d2] }
  | _ => none }
def relationCombinesRow : OpenClaim := { program := "ytndpeoladndepaadoor", sum := "564776d0bab096a9f30e15bc6ef70d4edd951446b8a3d476fababa0a1bdfa7d4", func := "semigroup/semigrouplaw02.RelationCombines", spec := "relationCombines", named := ["math/bits.deBruijn64tab"], apart := false, laid := [("math/bits.deBruijn64tab", laid_math_bits_deBruijn64tab)] }
def RelationCombinesSaid : Prop := relationCombinesRow.holds Tryd.pinned (OpenSpec.ofChange relationCombinesSpec)

/-- ITS FALSE NEIGHBOUR: 'it returns false'. Refute it at one input. -/
def relationCombinesWrong : ChangeSpec := { name := "relationCombines", fn := fun _ => fun
  | [d1, d2] => { results := [.lit (.bool false)], args := [d1, d2] }
  | _ => none }
def RelationCombinesWrongFalsely : Prop := relationCombinesRow.holds Tryd.pinned (OpenSpec.ofChange relationCombinesWrong)

/-- 'semigrouplaw02.RelationLeast': WHATEVER THE INPUT: true; the input reads as it did. -/
def relationLeastSpec : ChangeSpec := { name := "relationLeast", fn := fun _ => fun
  | [d1, d2] => { results := [.lit (.bool true)], args := [d1, d2] }
  | _ => none }
def relationLeastRow : OpenClaim := { program := "ytndpeoladndepaadoor", sum := "564776d0bab096a9f30e15bc6ef70d4edd951446b8a3d476fababa0a1bdfa7d4", func := "semigroup/semigrouplaw02.RelationLeast", spec := "relationLeast", named := ["math/bits.deBruijn64tab"], apart := false, laid := [("math/bits.deBruijn64tab", laid_math_bits_deBruijn64tab)] }
def RelationLeastSaid : Prop := relationLeastRow.holds Tryd.pinned (OpenSpec.ofChange relationLeastSpec)

/-- ITS FALSE NEIGHBOUR: 'it returns false'. Refute it at one input. -/
def relationLeastWrong : ChangeSpec := { name := "relationLeast", fn := fun _ => fun
  | [d1, d2] => { results := [.lit (.bool false)], args := [d1, d2] }
  | _ => none }
def RelationLeastWrongFalsely : Prop := relationLeastRow.holds Tryd.pinned (OpenSpec.ofChange relationLeastWrong)

/-- 'semigrouplaw02.RelationSorts': WHATEVER THE INPUT: true; the input reads as it did. -/
def relationSortsSpec : ChangeSpec := { name := "relationSorts", fn := fun _ => fun
  | [d] => { results := [.lit (.bool true)], args := [d] }
  | _ => none }
def relationSortsRow : OpenClaim := { program := "ytndpeoladndepaadoor", sum := "564776d0bab096a9f30e15bc6ef70d4edd951446b8a3d476fababa0a1bdfa7d4", func := "semigroup/semigrouplaw02.RelationSorts", spec := "relationSorts", named := ["math/bits.deBruijn64tab"], apart := false, laid := [("math/bits.deBruijn64tab", laid_math_bits_deBruijn64tab)] }
def RelationSortsSaid : Prop := relationSortsRow.holds Tryd.pinned (OpenSpec.ofChange relationSortsSpec)

/-- ITS FALSE NEIGHBOUR: 'it returns false'. Refute it at one input. -/
def relationSortsWrong : ChangeSpec := { name := "relationSorts", fn := fun _ => fun
  | [d] => { results := [.lit (.bool false)], args := [d] }
  | _ => none }
def RelationSortsWrongFalsely : Prop := relationSortsRow.holds Tryd.pinned (OpenSpec.ofChange relationSortsWrong)

/-- 'semigrouplaw02.RelationAssociates': WHATEVER THE INPUT: true; the input reads as it did. -/
def relationAssociatesSpec : ChangeSpec := { name := "relationAssociates", fn := fun _ => fun
  | [d1, d2, d3] => { results := [.lit (.bool true)], args := [d1, d2, d3] }
  | _ => none }
def relationAssociatesRow : OpenClaim := { program := "ytndpeoladndepaadoor", sum := "564776d0bab096a9f30e15bc6ef70d4edd951446b8a3d476fababa0a1bdfa7d4", func := "semigroup/semigrouplaw02.RelationAssociates", spec := "relationAssociates", named := ["math/bits.deBruijn64tab"], apart := false, laid := [("math/bits.deBruijn64tab", laid_math_bits_deBruijn64tab)] }
def RelationAssociatesSaid : Prop := relationAssociatesRow.holds Tryd.pinned (OpenSpec.ofChange relationAssociatesSpec)

/-- ITS FALSE NEIGHBOUR: 'it returns false'. Refute it at one input. -/
def relationAssociatesWrong : ChangeSpec := { name := "relationAssociates", fn := fun _ => fun
  | [d1, d2, d3] => { results := [.lit (.bool false)], args := [d1, d2, d3] }
  | _ => none }
def RelationAssociatesWrongFalsely : Prop := relationAssociatesRow.holds Tryd.pinned (OpenSpec.ofChange relationAssociatesWrong)

/-- 'semigrouplaw02.RelationComponents': WHATEVER THE INPUT: true; the input reads as it did. -/
def relationComponentsSpec : ChangeSpec := { name := "relationComponents", fn := fun _ => fun
  | [d] => { results := [.lit (.bool true)], args := [d] }
  | _ => none }
def relationComponentsRow : OpenClaim := { program := "ytndpeoladndepaadoor", sum := "564776d0bab096a9f30e15bc6ef70d4edd951446b8a3d476fababa0a1bdfa7d4", func := "semigroup/semigrouplaw02.RelationComponents", spec := "relationComponents", named := ["math/bits.deBruijn64tab"], apart := false, laid := [("math/bits.deBruijn64tab", laid_math_bits_deBruijn64tab)] }
def RelationComponentsSaid : Prop := relationComponentsRow.holds Tryd.pinned (OpenSpec.ofChange relationComponentsSpec)

/-- ITS FALSE NEIGHBOUR: 'it returns false'. Refute it at one input. -/
def relationComponentsWrong : ChangeSpec := { name := "relationComponents", fn := fun _ => fun
  | [d] => { results := [.lit (.bool false)], args := [d] }
  | _ => none }
def RelationComponentsWrongFalsely : Prop := relationComponentsRow.holds Tryd.pinned (OpenSpec.ofChange relationComponentsWrong)

/-- 'semigrouplaw02.RelationDistributes': WHATEVER THE INPUT: true; the input reads as it did. -/
def relationDistributesSpec : ChangeSpec := { name := "relationDistributes", fn := fun _ => fun
  | [d1, d2, d3] => { results := [.lit (.bool true)], args := [d1, d2, d3] }
  | _ => none }
def relationDistributesRow : OpenClaim := { program := "ytndpeoladndepaadoor", sum := "564776d0bab096a9f30e15bc6ef70d4edd951446b8a3d476fababa0a1bdfa7d4", func := "semigroup/semigrouplaw02.RelationDistributes", spec := "relationDistributes", named := ["math/bits.deBruijn64tab"], apart := false, laid := [("math/bits.deBruijn64tab", laid_math_bits_deBruijn64tab)] }
def RelationDistributesSaid : Prop := relationDistributesRow.holds Tryd.pinned (OpenSpec.ofChange relationDistributesSpec)

/-- ITS FALSE NEIGHBOUR: 'it returns false'. Refute it at one input. -/
def relationDistributesWrong : ChangeSpec := { name := "relationDistributes", fn := fun _ => fun
  | [d1, d2, d3] => { results := [.lit (.bool false)], args := [d1, d2, d3] }
  | _ => none }
def RelationDistributesWrongFalsely : Prop := relationDistributesRow.holds Tryd.pinned (OpenSpec.ofChange relationDistributesWrong)

/-- 'semigrouplaw02.RelationCondenses': WHATEVER THE INPUT: true; the input reads as it did. -/
def relationCondensesSpec : ChangeSpec := { name := "relationCondenses", fn := fun _ => fun
  | [d] => { results := [.lit (.bool true)], args := [d] }
  | _ => none }
def relationCondensesRow : OpenClaim := { program := "ytndpeoladndepaadoor", sum := "564776d0bab096a9f30e15bc6ef70d4edd951446b8a3d476fababa0a1bdfa7d4", func := "semigroup/semigrouplaw02.RelationCondenses", spec := "relationCondenses", named := ["math/bits.deBruijn64tab"], apart := false, laid := [("math/bits.deBruijn64tab", laid_math_bits_deBruijn64tab)] }
def RelationCondensesSaid : Prop := relationCondensesRow.holds Tryd.pinned (OpenSpec.ofChange relationCondensesSpec)

/-- ITS FALSE NEIGHBOUR: 'it returns false'. Refute it at one input. -/
def relationCondensesWrong : ChangeSpec := { name := "relationCondenses", fn := fun _ => fun
  | [d] => { results := [.lit (.bool false)], args := [d] }
  | _ => none }
def RelationCondensesWrongFalsely : Prop := relationCondensesRow.holds Tryd.pinned (OpenSpec.ofChange relationCondensesWrong)

/-- 'semigrouplaw02.RelationAcyclic': WHATEVER THE INPUT: true; the input reads as it did. -/
def relationAcyclicSpec : ChangeSpec := { name := "relationAcyclic", fn := fun _ => fun
  | [d] => { results := [.lit (.bool true)], args := [d] }
  | _ => none }
def relationAcyclicRow : OpenClaim := { program := "ytndpeoladndepaadoor", sum := "564776d0bab096a9f30e15bc6ef70d4edd951446b8a3d476fababa0a1bdfa7d4", func := "semigroup/semigrouplaw02.RelationAcyclic", spec := "relationAcyclic", named := ["math/bits.deBruijn64tab"], apart := false, laid := [("math/bits.deBruijn64tab", laid_math_bits_deBruijn64tab)] }
def RelationAcyclicSaid : Prop := relationAcyclicRow.holds Tryd.pinned (OpenSpec.ofChange relationAcyclicSpec)

/-- ITS FALSE NEIGHBOUR: 'it returns false'. Refute it at one input. -/
def relationAcyclicWrong : ChangeSpec := { name := "relationAcyclic", fn := fun _ => fun
  | [d] => { results := [.lit (.bool false)], args := [d] }
  | _ => none }
def RelationAcyclicWrongFalsely : Prop := relationAcyclicRow.holds Tryd.pinned (OpenSpec.ofChange relationAcyclicWrong)

/- THE SECOND FORM. 'bulk': how many values and letters a reading holds, each counted each time it is reached (what is shared counts as often as it is met; a slice's spare places count too). A statement '..UptoSaid' is the law's where the arguments, and the package variables that the reading takes, are together of bulk at most 1048576: NARROWER than '..Said'. Prove '..Said' where nothing that the law and all that it calls make is longer than what came in: it says more and counts as full. Else prove '..UptoSaid'. A law counts once. -/
mutual
def uptoBulk {H : Type} : DataW H → Nat
  | .lit (.string bytes) => bytes.length + 1
  | .lit _ => 1
  | .nil => 1
  | .ptr d => uptoBulk d + 1
  | .slice elems spare => uptoBulkAll elems + uptoBulkAll spare + 1
  | .agg parts => uptoBulkAll parts + 1
  | .iface _ d => uptoBulk d + 1
  | .map entries => uptoBulkEntries entries + 1
  | .held _ => 1
def uptoBulkAll {H : Type} : List (DataW H) → Nat
  | [] => 0
  | d :: r => uptoBulk d + uptoBulkAll r
def uptoBulkEntries {H : Type} : List (Lit × DataW H) → Nat
  | [] => 0
  | x :: r => uptoBulkEntry x + uptoBulkEntries r
def uptoBulkEntry {H : Type} : Lit × DataW H → Nat
  | (.string bytes, d) => bytes.length + uptoBulk d + 1
  | (_, d) => uptoBulk d + 1
 end
def uptoSmall : (H : Type) → List (DataW H) → Bool := fun _ ds => decide (uptoBulkAll ds ≤ 1048576)
def OpenSpec.upto (s : _root_.Go.ChangeSpec) : _root_.Go.OpenSpec := { _root_.Go.OpenSpec.ofChange s with cond := some uptoSmall }

/-- 'semigrouplaw02.RelationComposes', WHERE WHAT IT READS IS OF BULK AT MOST 1048576: true; the input reads as it did. -/
def relationComposesUptoRow : OpenClaim := { program := "ytndpeoladndepaadoor", sum := "564776d0bab096a9f30e15bc6ef70d4edd951446b8a3d476fababa0a1bdfa7d4", func := "semigroup/semigrouplaw02.RelationComposes", spec := "relationComposes", named := ["math/bits.deBruijn64tab"], apart := false, laid := [("math/bits.deBruijn64tab", laid_math_bits_deBruijn64tab)], narrowed := true }
def RelationComposesUptoSaid : Prop := relationComposesUptoRow.holds Tryd.pinned (OpenSpec.upto relationComposesSpec)

/-- 'semigrouplaw02.RelationImages', WHERE WHAT IT READS IS OF BULK AT MOST 1048576: true; the input reads as it did. -/
def relationImagesUptoRow : OpenClaim := { program := "ytndpeoladndepaadoor", sum := "564776d0bab096a9f30e15bc6ef70d4edd951446b8a3d476fababa0a1bdfa7d4", func := "semigroup/semigrouplaw02.RelationImages", spec := "relationImages", named := ["math/bits.deBruijn64tab"], apart := false, laid := [("math/bits.deBruijn64tab", laid_math_bits_deBruijn64tab)], narrowed := true }
def RelationImagesUptoSaid : Prop := relationImagesUptoRow.holds Tryd.pinned (OpenSpec.upto relationImagesSpec)

/-- 'semigrouplaw02.RelationSteps', WHERE WHAT IT READS IS OF BULK AT MOST 1048576: true; the input reads as it did. -/
def relationStepsUptoRow : OpenClaim := { program := "ytndpeoladndepaadoor", sum := "564776d0bab096a9f30e15bc6ef70d4edd951446b8a3d476fababa0a1bdfa7d4", func := "semigroup/semigrouplaw02.RelationSteps", spec := "relationSteps", named := ["math/bits.deBruijn64tab"], apart := false, laid := [("math/bits.deBruijn64tab", laid_math_bits_deBruijn64tab)], narrowed := true }
def RelationStepsUptoSaid : Prop := relationStepsUptoRow.holds Tryd.pinned (OpenSpec.upto relationStepsSpec)

/-- 'semigrouplaw02.RelationCombines', WHERE WHAT IT READS IS OF BULK AT MOST 1048576: true; the input reads as it did. -/
def relationCombinesUptoRow : OpenClaim := { program := "ytndpeoladndepaadoor", sum := "564776d0bab096a9f30e15bc6ef70d4edd951446b8a3d476fababa0a1bdfa7d4", func := "semigroup/semigrouplaw02.RelationCombines", spec := "relationCombines", named := ["math/bits.deBruijn64tab"], apart := false, laid := [("math/bits.deBruijn64tab", laid_math_bits_deBruijn64tab)], narrowed := true }
def RelationCombinesUptoSaid : Prop := relationCombinesUptoRow.holds Tryd.pinned (OpenSpec.upto relationCombinesSpec)

/-- 'semigrouplaw02.RelationLeast', WHERE WHAT IT READS IS OF BULK AT MOST 1048576: true; the input reads as it did. -/
def relationLeastUptoRow : OpenClaim := { program := "ytndpeoladndepaadoor", sum := "564776d0bab096a9f30e15bc6ef70d4edd951446b8a3d476fababa0a1bdfa7d4", func := "semigroup/semigrouplaw02.RelationLeast", spec := "relationLeast", named := ["math/bits.deBruijn64tab"], apart := false, laid := [("math/bits.deBruijn64tab", laid_math_bits_deBruijn64tab)], narrowed := true }
def RelationLeastUptoSaid : Prop := relationLeastUptoRow.holds Tryd.pinned (OpenSpec.upto relationLeastSpec)

/-- 'semigrouplaw02.RelationSorts', WHERE WHAT IT READS IS OF BULK AT MOST 1048576: true; the input reads as it did. -/
def relationSortsUptoRow : OpenClaim := { program := "ytndpeoladndepaadoor", sum := "564776d0bab096a9f30e15bc6ef70d4edd951446b8a3d476fababa0a1bdfa7d4", func := "semigroup/semigrouplaw02.RelationSorts", spec := "relationSorts", named := ["math/bits.deBruijn64tab"], apart := false, laid := [("math/bits.deBruijn64tab", laid_math_bits_deBruijn64tab)], narrowed := true }
def RelationSortsUptoSaid : Prop := relationSortsUptoRow.holds Tryd.pinned (OpenSpec.upto relationSortsSpec)

/-- 'semigrouplaw02.RelationAssociates', WHERE WHAT IT READS IS OF BULK AT MOST 1048576: true; the input reads as it did. -/
def relationAssociatesUptoRow : OpenClaim := { program := "ytndpeoladndepaadoor", sum := "564776d0bab096a9f30e15bc6ef70d4edd951446b8a3d476fababa0a1bdfa7d4", func := "semigroup/semigrouplaw02.RelationAssociates", spec := "relationAssociates", named := ["math/bits.deBruijn64tab"], apart := false, laid := [("math/bits.deBruijn64tab", laid_math_bits_deBruijn64tab)], narrowed := true }
def RelationAssociatesUptoSaid : Prop := relationAssociatesUptoRow.holds Tryd.pinned (OpenSpec.upto relationAssociatesSpec)

/-- 'semigrouplaw02.RelationComponents', WHERE WHAT IT READS IS OF BULK AT MOST 1048576: true; the input reads as it did. -/
def relationComponentsUptoRow : OpenClaim := { program := "ytndpeoladndepaadoor", sum := "564776d0bab096a9f30e15bc6ef70d4edd951446b8a3d476fababa0a1bdfa7d4", func := "semigroup/semigrouplaw02.RelationComponents", spec := "relationComponents", named := ["math/bits.deBruijn64tab"], apart := false, laid := [("math/bits.deBruijn64tab", laid_math_bits_deBruijn64tab)], narrowed := true }
def RelationComponentsUptoSaid : Prop := relationComponentsUptoRow.holds Tryd.pinned (OpenSpec.upto relationComponentsSpec)

/-- 'semigrouplaw02.RelationDistributes', WHERE WHAT IT READS IS OF BULK AT MOST 1048576: true; the input reads as it did. -/
def relationDistributesUptoRow : OpenClaim := { program := "ytndpeoladndepaadoor", sum := "564776d0bab096a9f30e15bc6ef70d4edd951446b8a3d476fababa0a1bdfa7d4", func := "semigroup/semigrouplaw02.RelationDistributes", spec := "relationDistributes", named := ["math/bits.deBruijn64tab"], apart := false, laid := [("math/bits.deBruijn64tab", laid_math_bits_deBruijn64tab)], narrowed := true }
def RelationDistributesUptoSaid : Prop := relationDistributesUptoRow.holds Tryd.pinned (OpenSpec.upto relationDistributesSpec)

/-- 'semigrouplaw02.RelationCondenses', WHERE WHAT IT READS IS OF BULK AT MOST 1048576: true; the input reads as it did. -/
def relationCondensesUptoRow : OpenClaim := { program := "ytndpeoladndepaadoor", sum := "564776d0bab096a9f30e15bc6ef70d4edd951446b8a3d476fababa0a1bdfa7d4", func := "semigroup/semigrouplaw02.RelationCondenses", spec := "relationCondenses", named := ["math/bits.deBruijn64tab"], apart := false, laid := [("math/bits.deBruijn64tab", laid_math_bits_deBruijn64tab)], narrowed := true }
def RelationCondensesUptoSaid : Prop := relationCondensesUptoRow.holds Tryd.pinned (OpenSpec.upto relationCondensesSpec)

/-- 'semigrouplaw02.RelationAcyclic', WHERE WHAT IT READS IS OF BULK AT MOST 1048576: true; the input reads as it did. -/
def relationAcyclicUptoRow : OpenClaim := { program := "ytndpeoladndepaadoor", sum := "564776d0bab096a9f30e15bc6ef70d4edd951446b8a3d476fababa0a1bdfa7d4", func := "semigroup/semigrouplaw02.RelationAcyclic", spec := "relationAcyclic", named := ["math/bits.deBruijn64tab"], apart := false, laid := [("math/bits.deBruijn64tab", laid_math_bits_deBruijn64tab)], narrowed := true }
def RelationAcyclicUptoSaid : Prop := relationAcyclicUptoRow.holds Tryd.pinned (OpenSpec.upto relationAcyclicSpec)

end Rows
end Go.Proofs.YtndpeoladndepaaDoor
