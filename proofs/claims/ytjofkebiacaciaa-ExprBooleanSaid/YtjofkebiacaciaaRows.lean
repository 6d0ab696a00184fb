/-
  NARROWER THAN 'FOR EVERY INPUT', by the rows' own cells (each row's printed sentence says how): ExprValidates: loops · ExprFormats: loops · ExprRoundTrips: loops · ExprCompares: loops · ExprMeasures: loops · ExprMatches: loops · ExprBoolean: loops · ExprSplits: loops · ExprNormalizes: loops · ExprIgnores: loops · ExprSettles: loops · ExprKeeps: loops.
  DERIVED. THE GIVEN ROWS OF THIS SEAT. 12 by the template 'for every input the law returns true; each argument reads behind the call as it read before'; 0 by the template 'total and deterministic' (their statements: YtjofkebiacaciaaTotals.lean).
  GIVEN WITH THE SEED: the statements are not yours to turn. If you find one false, say at which input.
  Laid BY PROGRAM, IN A SANDBOX (cutbox-rows.mjs): the forced cells as the released guide's own fill.sh prints them over the translation cb5c4cce9370c538… (all of the seat's roots in one cut). By AI agents, Wed Nov 11 2026. No macro, syntax, notation, axiom, sorry.
-/
import Derived.Test.YtjofkebiacaciaaChecked
import GoSem.Claim
import GoSem.ClaimJoined
import GoSem.ClaimMapViews
import Derived.JoinedTies
import Derived.KernelRfl
namespace Go.Proofs.Ytjofkebiacaciaa
/- THE CELL 'sum', in the pinned program and in every row, IS THE sha256 OF THE DUMP (.gsa) THAT YtjofkebiacaciaaProg.lean LOADS. Nothing in Lean hashes anything: it is a label: what it is worth is what the hold of that sum in a sandbox is worth. -/
noncomputable def Try.pinned : Pinned := { name := "ytjofkebiacaciaa", sum := "cb5c4cce9370c5380d186a9cfc8fffc6463bde1cb9949a8158a2140715194cca", checked := Try.checked }
namespace Rows
def none {H : Type} : Left H := { results := [], args := [] }

/-- 'semigrouplaw04.ExprValidates': WHATEVER THE INPUT: true; the input reads as it did. -/
def exprValidatesSpec : ChangeSpec := { name := "exprValidates", fn := fun _ => fun
  | [d1, d2] => { results := [.lit (.bool true)], args := [d1, d2] }
  | _ => none }
def exprValidatesRow : OpenClaim := { program := "ytjofkebiacaciaa", sum := "cb5c4cce9370c5380d186a9cfc8fffc6463bde1cb9949a8158a2140715194cca", func := "semigroup/semigrouplaw04.ExprValidates", spec := "exprValidates", unfollowed := true, recurses := true, loops := true, apart := false }
def ExprValidatesSaid : Prop := exprValidatesRow.holds Try.pinned (OpenSpec.ofChange exprValidatesSpec)

/-- ITS FALSE NEIGHBOUR: 'it returns false'. Refute it at one input. -/
def exprValidatesWrong : ChangeSpec := { name := "exprValidates", fn := fun _ => fun
  | [d1, d2] => { results := [.lit (.bool false)], args := [d1, d2] }
  | _ => none }
def ExprValidatesWrongFalsely : Prop := exprValidatesRow.holds Try.pinned (OpenSpec.ofChange exprValidatesWrong)

/-- 'semigrouplaw04.ExprFormats': WHATEVER THE INPUT: true; the input reads as it did. -/
def exprFormatsSpec : ChangeSpec := { name := "exprFormats", fn := fun _ => fun
  | [d] => { results := [.lit (.bool true)], args := [d] }
  | _ => none }
def exprFormatsRow : OpenClaim := { program := "ytjofkebiacaciaa", sum := "cb5c4cce9370c5380d186a9cfc8fffc6463bde1cb9949a8158a2140715194cca", func := "semigroup/semigrouplaw04.ExprFormats", spec := "exprFormats", unfollowed := true, recurses := true, loops := true, apart := false }
def ExprFormatsSaid : Prop := exprFormatsRow.holds Try.pinned (OpenSpec.ofChange exprFormatsSpec)

/-- ITS FALSE NEIGHBOUR: 'it returns false'. Refute it at one input. -/
def exprFormatsWrong : ChangeSpec := { name := "exprFormats", fn := fun _ => fun
  | [d] => { results := [.lit (.bool false)], args := [d] }
  | _ => none }
def ExprFormatsWrongFalsely : Prop := exprFormatsRow.holds Try.pinned (OpenSpec.ofChange exprFormatsWrong)

/-- 'semigrouplaw04.ExprRoundTrips': WHATEVER THE INPUT: true; the input reads as it did. -/
def exprRoundTripsSpec : ChangeSpec := { name := "exprRoundTrips", fn := fun _ => fun
  | [d] => { results := [.lit (.bool true)], args := [d] }
  | _ => none }
def exprRoundTripsRow : OpenClaim := { program := "ytjofkebiacaciaa", sum := "cb5c4cce9370c5380d186a9cfc8fffc6463bde1cb9949a8158a2140715194cca", func := "semigroup/semigrouplaw04.ExprRoundTrips", spec := "exprRoundTrips", unfollowed := true, recurses := true, loops := true, apart := false }
def ExprRoundTripsSaid : Prop := exprRoundTripsRow.holds Try.pinned (OpenSpec.ofChange exprRoundTripsSpec)

/-- ITS FALSE NEIGHBOUR: 'it returns false'. Refute it at one input. -/
def exprRoundTripsWrong : ChangeSpec := { name := "exprRoundTrips", fn := fun _ => fun
  | [d] => { results := [.lit (.bool false)], args := [d] }
  | _ => none }
def ExprRoundTripsWrongFalsely : Prop := exprRoundTripsRow.holds Try.pinned (OpenSpec.ofChange exprRoundTripsWrong)

/-- 'semigrouplaw04.ExprCompares': WHATEVER THE INPUT: true; the input reads as it did. -/
def exprComparesSpec : ChangeSpec := { name := "exprCompares", fn := fun _ => fun
  | [d1, d2, d3] => { results := [.lit (.bool true)], args := [d1, d2, d3] }
  | _ => none }
def exprComparesRow : OpenClaim := { program := "ytjofkebiacaciaa", sum := "cb5c4cce9370c5380d186a9cfc8fffc6463bde1cb9949a8158a2140715194cca", func := "semigroup/semigrouplaw04.ExprCompares", spec := "exprCompares", unfollowed := true, recurses := true, loops := true, apart := false }
def ExprComparesSaid : Prop := exprComparesRow.holds Try.pinned (OpenSpec.ofChange exprComparesSpec)

/-- ITS FALSE NEIGHBOUR: 'it returns false'. Refute it at one input. -/
def exprComparesWrong : ChangeSpec := { name := "exprCompares", fn := fun _ => fun
  | [d1, d2, d3] => { results := [.lit (.bool false)], args := [d1, d2, d3] }
  | _ => none }
def ExprComparesWrongFalsely : Prop := exprComparesRow.holds Try.pinned (OpenSpec.ofChange exprComparesWrong)

/-- 'semigrouplaw04.ExprMeasures': WHATEVER THE INPUT: true; the input reads as it did. -/
def exprMeasuresSpec : ChangeSpec := { name := "exprMeasures", fn := fun _ => fun
  | [d] => { results := [.lit (.bool true)], args := [d] }
  | _ => none }
def exprMeasuresRow : OpenClaim := { program := "ytjofkebiacaciaa", sum := "cb5c4cce9370c5380d186a9cfc8fffc6463bde1cb9949a8158a2140715194cca", func := "semigroup/semigrouplaw04.ExprMeasures", spec := "exprMeasures", unfollowed := true, recurses := true, loops := true, apart := false }
def ExprMeasuresSaid : Prop := exprMeasuresRow.holds Try.pinned (OpenSpec.ofChange exprMeasuresSpec)

/-- ITS FALSE NEIGHBOUR: 'it returns false'. Refute it at one input. -/
def exprMeasuresWrong : ChangeSpec := { name := "exprMeasures", fn := fun _ => fun
  | [d] => { results := [.lit (.bool false)], args := [d] }
  | _ => none }
def ExprMeasuresWrongFalsely : Prop := exprMeasuresRow.holds Try.pinned (OpenSpec.ofChange exprMeasuresWrong)

/-- 'semigrouplaw04.ExprMatches': WHATEVER THE INPUT: true; the input reads as it did. -/
def exprMatchesSpec : ChangeSpec := { name := "exprMatches", fn := fun _ => fun
  | [d1, d2] => { results := [.lit (.bool true)], args := [d1, d2] }
  | _ => none }
def exprMatchesRow : OpenClaim := { program := "ytjofkebiacaciaa", sum := "cb5c4cce9370c5380d186a9cfc8fffc6463bde1cb9949a8158a2140715194cca", func := "semigroup/semigrouplaw04.ExprMatches", spec := "exprMatches", unfollowed := true, recurses := true, loops := true, apart := false }
def ExprMatchesSaid : Prop := exprMatchesRow.holds Try.pinned (OpenSpec.ofChange exprMatchesSpec)

/-- ITS FALSE NEIGHBOUR: 'it returns false'. Refute it at one input. -/
def exprMatchesWrong : ChangeSpec := { name := "exprMatches", fn := fun _ => fun
  | [d1, d2] => { results := [.lit (.bool false)], args := [d1, d2] }
  | _ => none }
def ExprMatchesWrongFalsely : Prop := exprMatchesRow.holds Try.pinned (OpenSpec.ofChange exprMatchesWrong)

/-- 'semigrouplaw04.ExprBoolean': WHATEVER THE INPUT: true; the input reads as it did. -/
def exprBooleanSpec : ChangeSpec := { name := "exprBoolean", fn := fun _ => fun
  | [d1, d2, d3] => { results := [.lit (.bool true)], args := [d1, d2, d3] }
  | _ => none }
def exprBooleanRow : OpenClaim := { program := "ytjofkebiacaciaa", sum := "cb5c4cce9370c5380d186a9cfc8fffc6463bde1cb9949a8158a2140715194cca", func := "semigroup/semigrouplaw04.ExprBoolean", spec := "exprBoolean", unfollowed := true, recurses := true, loops := true, apart := false }
def ExprBooleanSaid : Prop := exprBooleanRow.holds Try.pinned (OpenSpec.ofChange exprBooleanSpec)

/-- ITS FALSE NEIGHBOUR: 'it returns false'. Refute it at one input. -/
def exprBooleanWrong : ChangeSpec := { name := "exprBoolean", fn := fun _ => fun
  | [d1, d2, d3] => { results := [.lit (.bool false)], args := [d1, d2, d3] }
  | _ => none }
def ExprBooleanWrongFalsely : Prop := exprBooleanRow.holds Try.pinned (OpenSpec.ofChange exprBooleanWrong)

/-- 'semigrouplaw04.ExprSplits': WHATEVER THE INPUT: true; the input reads as it did. -/
def exprSplitsSpec : ChangeSpec := { name := "exprSplits", fn := fun _ => fun
  | [d1, d2, d3] => { results := [.lit (.bool true)], args := [d1, d2, d3] }
  | _ => none }
def exprSplitsRow : OpenClaim := { program := "ytjofkebiacaciaa", sum := "cb5c4cce9370c5380d186a9cfc8fffc6463bde1cb9949a8158a2140715194cca", func := "semigroup/semigrouplaw04.ExprSplits", spec := "exprSplits", unfollowed := true, recurses := true, loops := true, apart := false }
def ExprSplitsSaid : Prop := exprSplitsRow.holds Try.pinned (OpenSpec.ofChange exprSplitsSpec)

/-- ITS FALSE NEIGHBOUR: 'it returns false'. Refute it at one input. -/
def exprSplitsWrong : ChangeSpec := { name := "exprSplits", fn := fun _ => fun
  | [d1, d2, d3] => { results := [.lit (.bool false)], args := [d1, d2, d3] }
  | _ => none }
def ExprSplitsWrongFalsely : Prop := exprSplitsRow.holds Try.pinned (OpenSpec.ofChange exprSplitsWrong)

/-- 'semigrouplaw04.ExprNormalizes': WHATEVER THE INPUT: true; the input reads as it did. -/
def exprNormalizesSpec : ChangeSpec := { name := "exprNormalizes", fn := fun _ => fun
  | [d] => { results := [.lit (.bool true)], args := [d] }
  | _ => none }
def exprNormalizesRow : OpenClaim := { program := "ytjofkebiacaciaa", sum := "cb5c4cce9370c5380d186a9cfc8fffc6463bde1cb9949a8158a2140715194cca", func := "semigroup/semigrouplaw04.ExprNormalizes", spec := "exprNormalizes", inPlace := ["internal/reflectlite.ValueOf", "internal/reflectlite.Swapper", "(internal/reflectlite.Value).Len"], unfollowed := true, recurses := true, loops := true, apart := false }
def ExprNormalizesSaid : Prop := exprNormalizesRow.holds Try.pinned (OpenSpec.ofChange exprNormalizesSpec)

/-- ITS FALSE NEIGHBOUR: 'it returns false'. Refute it at one input. -/
def exprNormalizesWrong : ChangeSpec := { name := "exprNormalizes", fn := fun _ => fun
  | [d] => { results := [.lit (.bool false)], args := [d] }
  | _ => none }
def ExprNormalizesWrongFalsely : Prop := exprNormalizesRow.holds Try.pinned (OpenSpec.ofChange exprNormalizesWrong)

/-- 'semigrouplaw04.ExprIgnores': WHATEVER THE INPUT: true; the input reads as it did. -/
def exprIgnoresSpec : ChangeSpec := { name := "exprIgnores", fn := fun _ => fun
  | [d1, d2, d3] => { results := [.lit (.bool true)], args := [d1, d2, d3] }
  | _ => none }
def exprIgnoresRow : OpenClaim := { program := "ytjofkebiacaciaa", sum := "cb5c4cce9370c5380d186a9cfc8fffc6463bde1cb9949a8158a2140715194cca", func := "semigroup/semigrouplaw04.ExprIgnores", spec := "exprIgnores", inPlace := ["internal/reflectlite.ValueOf", "internal/reflectlite.Swapper", "(internal/reflectlite.Value).Len"], unfollowed := true, recurses := true, loops := true, apart := false }
def ExprIgnoresSaid : Prop := exprIgnoresRow.holds Try.pinned (OpenSpec.ofChange exprIgnoresSpec)

/-- ITS FALSE NEIGHBOUR: 'it returns false'. Refute it at one input. -/
def exprIgnoresWrong : ChangeSpec := { name := "exprIgnores", fn := fun _ => fun
  | [d1, d2, d3] => { results := [.lit (.bool false)], args := [d1, d2, d3] }
  | _ => none }
def ExprIgnoresWrongFalsely : Prop := exprIgnoresRow.holds Try.pinned (OpenSpec.ofChange exprIgnoresWrong)

/-- 'semigrouplaw04.ExprSettles': WHATEVER THE INPUT: true; the input reads as it did. -/
def exprSettlesSpec : ChangeSpec := { name := "exprSettles", fn := fun _ => fun
  | [d] => { results := [.lit (.bool true)], args := [d] }
  | _ => none }
def exprSettlesRow : OpenClaim := { program := "ytjofkebiacaciaa", sum := "cb5c4cce9370c5380d186a9cfc8fffc6463bde1cb9949a8158a2140715194cca", func := "semigroup/semigrouplaw04.ExprSettles", spec := "exprSettles", inPlace := ["internal/reflectlite.ValueOf", "internal/reflectlite.Swapper", "(internal/reflectlite.Value).Len"], unfollowed := true, recurses := true, loops := true, apart := false }
def ExprSettlesSaid : Prop := exprSettlesRow.holds Try.pinned (OpenSpec.ofChange exprSettlesSpec)

/-- ITS FALSE NEIGHBOUR: 'it returns false'. Refute it at one input. -/
def exprSettlesWrong : ChangeSpec := { name := "exprSettles", fn := fun _ => fun
  | [d] => { results := [.lit (.bool false)], args := [d] }
  | _ => none }
def ExprSettlesWrongFalsely : Prop := exprSettlesRow.holds Try.pinned (OpenSpec.ofChange exprSettlesWrong)

/-- 'semigrouplaw04.ExprKeeps': WHATEVER THE INPUT: true; the input reads as it did. -/
def exprKeepsSpec : ChangeSpec := { name := "exprKeeps", fn := fun _ => fun
  | [d1, d2] => { results := [.lit (.bool true)], args := [d1, d2] }
  | _ => none }
def exprKeepsRow : OpenClaim := { program := "ytjofkebiacaciaa", sum := "cb5c4cce9370c5380d186a9cfc8fffc6463bde1cb9949a8158a2140715194cca", func := "semigroup/semigrouplaw04.ExprKeeps", spec := "exprKeeps", inPlace := ["internal/reflectlite.ValueOf", "internal/reflectlite.Swapper", "(internal/reflectlite.Value).Len"], unfollowed := true, recurses := true, loops := true, apart := false }
def ExprKeepsSaid : Prop := exprKeepsRow.holds Try.pinned (OpenSpec.ofChange exprKeepsSpec)

/-- ITS FALSE NEIGHBOUR: 'it returns false'. Refute it at one input. -/
def exprKeepsWrong : ChangeSpec := { name := "exprKeeps", fn := fun _ => fun
  | [d1, d2] => { results := [.lit (.bool false)], args := [d1, d2] }
  | _ => none }
def ExprKeepsWrongFalsely : Prop := exprKeepsRow.holds Try.pinned (OpenSpec.ofChange exprKeepsWrong)

/- THE SECOND FORM. 'bulk': how many values and letters a reading holds, each counted each time it is reached (what is shared counts as often as it is met; a slice's spare places count too). A statement '..UptoSaid' is the law's where the arguments, and the package variables that the reading takes, are together of bulk at most 1048576: NARROWER than '..Said'. Prove '..Said' where nothing that the law and all that it calls make is longer than what came in: it says more and counts as full. Else prove '..UptoSaid'. A law counts once. -/
mutual
def uptoBulk {H : Type} : DataW H → Nat
  | .lit (.string bytes) => bytes.length + 1
  | .lit _ => 1
  | .nil => 1
  | .ptr d => uptoBulk d + 1
  | .slice elems spare => uptoBulkAll elems + uptoBulkAll spare + 1
  | .agg parts => uptoBulkAll parts + 1
  | .iface _ d => uptoBulk d + 1
  | .map entries => uptoBulkEntries entries + 1
  | .held _ => 1
def uptoBulkAll {H : Type} : List (DataW H) → Nat
  | [] => 0
  | d :: r => uptoBulk d + uptoBulkAll r
def uptoBulkEntries {H : Type} : List (Lit × DataW H) → Nat
  | [] => 0
  | x :: r => uptoBulkEntry x + uptoBulkEntries r
def uptoBulkEntry {H : Type} : Lit × DataW H → Nat
  | (.string bytes, d) => bytes.length + uptoBulk d + 1
  | (_, d) => uptoBulk d + 1
 end
def uptoSmall : (H : Type) → List (DataW H) → Bool := fun _ ds => decide (uptoBulkAll ds ≤ 1048576)
def OpenSpec.upto (s : _root_.Go.ChangeSpec) : _root_.Go.OpenSpec := { _root_.Go.OpenSpec.ofChange s with cond := some uptoSmall }

/-- 'semigrouplaw04.ExprValidates', WHERE WHAT IT READS IS OF BULK AT MOST 1048576: true; the input reads as it did. -/
def exprValidatesUptoRow : OpenClaim := { program := "ytjofkebiacaciaa", sum := "cb5c4cce9370c5380d186a9cfc8fffc6463bde1cb9949a8158a2140715194cca", func := "semigroup/semigrouplaw04.ExprValidates", spec := "exprValidates", unfollowed := true, recurses := true, loops := true, apart := false, narrowed := true }
def ExprValidatesUptoSaid : Prop := exprValidatesUptoRow.holds Try.pinned (OpenSpec.upto exprValidatesSpec)

/-- 'semigrouplaw04.ExprFormats', WHERE WHAT IT READS IS OF BULK AT MOST 1048576: true; the input reads as it did. -/
def exprFormatsUptoRow : OpenClaim := { program := "ytjofkebiacaciaa", sum := "cb5c4cce9370c5380d186a9cfc8fffc6463bde1cb9949a8158a2140715194cca", func := "semigroup/semigrouplaw04.ExprFormats", spec := "exprFormats", unfollowed := true, recurses := true, loops := true, apart := false, narrowed := true }
def ExprFormatsUptoSaid : Prop := exprFormatsUptoRow.holds Try.pinned (OpenSpec.upto exprFormatsSpec)

/-- 'semigrouplaw04.ExprRoundTrips', WHERE WHAT IT READS IS OF BULK AT MOST 1048576: true; the input reads as it did. -/
def exprRoundTripsUptoRow : OpenClaim := { program := "ytjofkebiacaciaa", sum := "cb5c4cce9370c5380d186a9cfc8fffc6463bde1cb9949a8158a2140715194cca", func := "semigroup/semigrouplaw04.ExprRoundTrips", spec := "exprRoundTrips", unfollowed := true, recurses := true, loops := true, apart := false, narrowed := true }
def ExprRoundTripsUptoSaid : Prop := exprRoundTripsUptoRow.holds Try.pinned (OpenSpec.upto exprRoundTripsSpec)

/-- 'semigrouplaw04.ExprCompares', WHERE WHAT IT READS IS OF BULK AT MOST 1048576: true; the input reads as it did. -/
def exprComparesUptoRow : OpenClaim := { program := "ytjofkebiacaciaa", sum := "cb5c4cce9370c5380d186a9cfc8fffc6463bde1cb9949a8158a2140715194cca", func := "semigroup/semigrouplaw04.ExprCompares", spec := "exprCompares", unfollowed := true, recurses := true, loops := true, apart := false, narrowed := true }
def ExprComparesUptoSaid : Prop := exprComparesUptoRow.holds Try.pinned (OpenSpec.upto exprComparesSpec)

/-- 'semigrouplaw04.ExprMeasures', WHERE WHAT IT READS IS OF BULK AT MOST 1048576: true; the input reads as it did. -/
def exprMeasuresUptoRow : OpenClaim := { program := "ytjofkebiacaciaa", sum := "cb5c4cce9370c5380d186a9cfc8fffc6463bde1cb9949a8158a2140715194cca", func := "semigroup/semigrouplaw04.ExprMeasures", spec := "exprMeasures", unfollowed := true, recurses := true, loops := true, apart := false, narrowed := true }
def ExprMeasuresUptoSaid : Prop := exprMeasuresUptoRow.holds Try.pinned (OpenSpec.upto exprMeasuresSpec)

/-- 'semigrouplaw04.ExprMatches', WHERE WHAT IT READS IS OF BULK AT MOST 1048576: true; the input reads as it did. -/
def exprMatchesUptoRow : OpenClaim := { program := "ytjofkebiacaciaa", sum := "cb5c4cce9370c5380d186a9cfc8fffc6463bde1cb9949a8158a2140715194cca", func := "semigroup/semigrouplaw04.ExprMatches", spec := "exprMatches", unfollowed := true, recurses := true, loops := true, apart := false, narrowed := true }
def ExprMatchesUptoSaid : Prop := exprMatchesUptoRow.holds Try.pinned (OpenSpec.upto exprMatchesSpec)

/-- 'semigrouplaw04.ExprBoolean', WHERE WHAT IT READS IS OF BULK AT MOST 1048576: true; the input reads as it did. -/
def exprBooleanUptoRow : OpenClaim := { program := "ytjofkebiacaciaa", sum := "cb5c4cce9370c5380d186a9cfc8fffc6463bde1cb9949a8158a2140715194cca", func := "semigroup/semigrouplaw04.ExprBoolean", spec := "exprBoolean", unfollowed := true, recurses := true, loops := true, apart := false, narrowed := true }
def ExprBooleanUptoSaid : Prop := exprBooleanUptoRow.holds Try.pinned (OpenSpec.upto exprBooleanSpec)

/-- 'semigrouplaw04.ExprSplits', WHERE WHAT IT READS IS OF BULK AT MOST 1048576: true; the input reads as it did. -/
def exprSplitsUptoRow : OpenClaim := { program := "ytjofkebiacaciaa", sum := "cb5c4cce9370c5380d186a9cfc8fffc6463bde1cb9949a8158a2140715194cca", func := "semigroup/semigrouplaw04.ExprSplits", spec := "exprSplits", unfollowed := true, recurses := true, loops := true, apart := false, narrowed := true }
def ExprSplitsUptoSaid : Prop := exprSplitsUptoRow.holds Try.pinned (OpenSpec.upto exprSplitsSpec)

/-- 'semigrouplaw04.ExprNormalizes', WHERE WHAT IT READS IS OF BULK AT MOST 1048576: true; the input reads as it did. -/
def exprNormalizesUptoRow : OpenClaim := { program := "ytjofkebiacaciaa", sum := "cb5c4cce9370c5380d186a9cfc8fffc6463bde1cb9949a8158a2140715194cca", func := "semigroup/semigrouplaw04.ExprNormalizes", spec := "exprNormalizes", inPlace := ["internal/reflectlite.ValueOf", "internal/reflectlite.Swapper", "(internal/reflectlite.Value).Len"], unfollowed := true, recurses := true, loops := true, apart := false, narrowed := true }
def ExprNormalizesUptoSaid : Prop := exprNormalizesUptoRow.holds Try.pinned (OpenSpec.upto exprNormalizesSpec)

/-- 'semigrouplaw04.ExprIgnores', WHERE WHAT IT READS IS OF BULK AT MOST 1048576: true; the input reads as it did. -/
def exprIgnoresUptoRow : OpenClaim := { program := "ytjofkebiacaciaa", sum := "cb5c4cce9370c5380d186a9cfc8fffc6463bde1cb9949a8158a2140715194cca", func := "semigroup/semigrouplaw04.ExprIgnores", spec := "exprIgnores", inPlace := ["internal/reflectlite.ValueOf", "internal/reflectlite.Swapper", "(internal/reflectlite.Value).Len"], unfollowed := true, recurses := true, loops := true, apart := false, narrowed := true }
def ExprIgnoresUptoSaid : Prop := exprIgnoresUptoRow.holds Try.pinned (OpenSpec.upto exprIgnoresSpec)

/-- 'semigrouplaw04.ExprSettles', WHERE WHAT IT READS IS OF BULK AT MOST 1048576: true; the input reads as it did. -/
def exprSettlesUptoRow : OpenClaim := { program := "ytjofkebiacaciaa", sum := "cb5c4cce9370c5380d186a9cfc8fffc6463bde1cb9949a8158a2140715194cca", func := "semigroup/semigrouplaw04.ExprSettles", spec := "exprSettles", inPlace := ["internal/reflectlite.ValueOf", "internal/reflectlite.Swapper", "(internal/reflectlite.Value).Len"], unfollowed := true, recurses := true, loops := true, apart := false, narrowed := true }
def ExprSettlesUptoSaid : Prop := exprSettlesUptoRow.holds Try.pinned (OpenSpec.upto exprSettlesSpec)

/-- 'semigrouplaw04.ExprKeeps', WHERE WHAT IT READS IS OF BULK AT MOST 1048576: true; the input reads as it did. -/
def exprKeepsUptoRow : OpenClaim := { program := "ytjofkebiacaciaa", sum := "cb5c4cce9370c5380d186a9cfc8fffc6463bde1cb9949a8158a2140715194cca", func := "semigroup/semigrouplaw04.ExprKeeps", spec := "exprKeeps", inPlace := ["internal/reflectlite.ValueOf", "internal/reflectlite.Swapper", "(internal/reflectlite.Value).Len"], unfollowed := true, recurses := true, loops := true, apart := false, narrowed := true }
def ExprKeepsUptoSaid : Prop := exprKeepsUptoRow.holds Try.pinned (OpenSpec.upto exprKeepsSpec)

end Rows
end Go.Proofs.Ytjofkebiacaciaa
