/-
  No cell of these rows narrows 'for every input' (looked for: loops, veiled, ifaces, maps, wideKeys, modest, calm, conditions, laid).
  DERIVED. THE GIVEN ROWS OF THIS SEAT. 13 by the template 'for every input the law returns true; each argument reads behind the call as it read before'; 0 by the template 'total and deterministic' (their statements: YtlhckcldeojfmaaTotals.lean).
  GIVEN WITH THE SEED: the statements are not yours to turn. If you find one false, say at which input.
  Laid BY PROGRAM, IN A SANDBOX (cutbox-rows.mjs): the forced cells as the released guide's own fill.sh prints them over the translation fc56126cbaa84f8f… (all of the seat's roots in one cut). By AI agents, Wed Nov 11 2026. No macro, syntax, notation, axiom, sorry.
-/
import Derived.Test.YtlhckcldeojfmaaChecked
import GoSem.Claim
import GoSem.ClaimJoined
import GoSem.ClaimMapViews
import Derived.JoinedTies
import Derived.KernelRfl
namespace Go.Proofs.Ytlhckcldeojfmaa
/- THE CELL 'sum', in the pinned program and in every row, IS THE sha256 OF THE DUMP (.gsa) THAT YtlhckcldeojfmaaProg.lean LOADS. Nothing in Lean hashes anything: it is a label: what it is worth is what the hold of that sum in a sandbox is worth. -/
noncomputable def Try.pinned : Pinned := { name := "ytlhckcldeojfmaa", sum := "fc56126cbaa84f8f2cce8af73a9a83f8d6d75c8e17bba817d80a320646d38393", checked := Try.checked }
namespace Rows
def none {H : Type} : Left H := { results := [], args := [] }

/-- 'semigrouplaw14.MultValidates': WHATEVER THE INPUT: true; the input reads as it did. -/
def multValidatesSpec : ChangeSpec := { name := "multValidates", fn := fun _ => fun
  | [d] => { results := [.lit (.bool true)], args := [d] }
  | _ => none }
def multValidatesRow : OpenClaim := { program := "ytlhckcldeojfmaa", sum := "fc56126cbaa84f8f2cce8af73a9a83f8d6d75c8e17bba817d80a320646d38393", func := "semigroup/semigrouplaw14.MultValidates", spec := "multValidates", apart := false }
def MultValidatesSaid : Prop := multValidatesRow.holds Try.pinned (OpenSpec.ofChange multValidatesSpec)

/-- ITS FALSE NEIGHBOUR: 'it returns false'. Refute it at one input. -/
def multValidatesWrong : ChangeSpec := { name := "multValidates", fn := fun _ => fun
  | [d] => { results := [.lit (.bool false)], args := [d] }
  | _ => none }
def MultValidatesWrongFalsely : Prop := multValidatesRow.holds Try.pinned (OpenSpec.ofChange multValidatesWrong)

/-- 'semigrouplaw14.MultSpecial': WHATEVER THE INPUT: true; the input reads as it did. -/
def multSpecialSpec : ChangeSpec := { name := "multSpecial", fn := fun _ => fun
  | [d] => { results := [.lit (.bool true)], args := [d] }
  | _ => none }
def multSpecialRow : OpenClaim := { program := "ytlhckcldeojfmaa", sum := "fc56126cbaa84f8f2cce8af73a9a83f8d6d75c8e17bba817d80a320646d38393", func := "semigroup/semigrouplaw14.MultSpecial", spec := "multSpecial", apart := false }
def MultSpecialSaid : Prop := multSpecialRow.holds Try.pinned (OpenSpec.ofChange multSpecialSpec)

/-- ITS FALSE NEIGHBOUR: 'it returns false'. Refute it at one input. -/
def multSpecialWrong : ChangeSpec := { name := "multSpecial", fn := fun _ => fun
  | [d] => { results := [.lit (.bool false)], args := [d] }
  | _ => none }
def MultSpecialWrongFalsely : Prop := multSpecialRow.holds Try.pinned (OpenSpec.ofChange multSpecialWrong)

/-- 'semigrouplaw14.MultPowers': WHATEVER THE INPUT: true; the input reads as it did. -/
def multPowersSpec : ChangeSpec := { name := "multPowers", fn := fun _ => fun
  | [d1, d2, d3] => { results := [.lit (.bool true)], args := [d1, d2, d3] }
  | _ => none }
def multPowersRow : OpenClaim := { program := "ytlhckcldeojfmaa", sum := "fc56126cbaa84f8f2cce8af73a9a83f8d6d75c8e17bba817d80a320646d38393", func := "semigroup/semigrouplaw14.MultPowers", spec := "multPowers", apart := false }
def MultPowersSaid : Prop := multPowersRow.holds Try.pinned (OpenSpec.ofChange multPowersSpec)

/-- ITS FALSE NEIGHBOUR: 'it returns false'. Refute it at one input. -/
def multPowersWrong : ChangeSpec := { name := "multPowers", fn := fun _ => fun
  | [d1, d2, d3] => { results := [.lit (.bool false)], args := [d1, d2, d3] }
  | _ => none }
def MultPowersWrongFalsely : Prop := multPowersRow.holds Try.pinned (OpenSpec.ofChange multPowersWrong)

/-- 'semigrouplaw14.MultExponents': WHATEVER THE INPUT: true; the input reads as it did. -/
def multExponentsSpec : ChangeSpec := { name := "multExponents", fn := fun _ => fun
  | [d1, d2, d3, d4] => { results := [.lit (.bool true)], args := [d1, d2, d3, d4] }
  | _ => none }
def multExponentsRow : OpenClaim := { program := "ytlhckcldeojfmaa", sum := "fc56126cbaa84f8f2cce8af73a9a83f8d6d75c8e17bba817d80a320646d38393", func := "semigroup/semigrouplaw14.MultExponents", spec := "multExponents", apart := false }
def MultExponentsSaid : Prop := multExponentsRow.holds Try.pinned (OpenSpec.ofChange multExponentsSpec)

/-- ITS FALSE NEIGHBOUR: 'it returns false'. Refute it at one input. -/
def multExponentsWrong : ChangeSpec := { name := "multExponents", fn := fun _ => fun
  | [d1, d2, d3, d4] => { results := [.lit (.bool false)], args := [d1, d2, d3, d4] }
  | _ => none }
def MultExponentsWrongFalsely : Prop := multExponentsRow.holds Try.pinned (OpenSpec.ofChange multExponentsWrong)

/-- 'semigrouplaw14.MultLimits': WHATEVER THE INPUT: true; the input reads as it did. -/
def multLimitsSpec : ChangeSpec := { name := "multLimits", fn := fun _ => fun
  | [d1, d2] => { results := [.lit (.bool true)], args := [d1, d2] }
  | _ => none }
def multLimitsRow : OpenClaim := { program := "ytlhckcldeojfmaa", sum := "fc56126cbaa84f8f2cce8af73a9a83f8d6d75c8e17bba817d80a320646d38393", func := "semigroup/semigrouplaw14.MultLimits", spec := "multLimits", apart := false }
def MultLimitsSaid : Prop := multLimitsRow.holds Try.pinned (OpenSpec.ofChange multLimitsSpec)

/-- ITS FALSE NEIGHBOUR: 'it returns false'. Refute it at one input. -/
def multLimitsWrong : ChangeSpec := { name := "multLimits", fn := fun _ => fun
  | [d1, d2] => { results := [.lit (.bool false)], args := [d1, d2] }
  | _ => none }
def MultLimitsWrongFalsely : Prop := multLimitsRow.holds Try.pinned (OpenSpec.ofChange multLimitsWrong)

/-- 'semigrouplaw14.MultLight': WHATEVER THE INPUT: true; the input reads as it did. -/
def multLightSpec : ChangeSpec := { name := "multLight", fn := fun _ => fun
  | [d1, d2] => { results := [.lit (.bool true)], args := [d1, d2] }
  | _ => none }
def multLightRow : OpenClaim := { program := "ytlhckcldeojfmaa", sum := "fc56126cbaa84f8f2cce8af73a9a83f8d6d75c8e17bba817d80a320646d38393", func := "semigroup/semigrouplaw14.MultLight", spec := "multLight", apart := false }
def MultLightSaid : Prop := multLightRow.holds Try.pinned (OpenSpec.ofChange multLightSpec)

/-- ITS FALSE NEIGHBOUR: 'it returns false'. Refute it at one input. -/
def multLightWrong : ChangeSpec := { name := "multLight", fn := fun _ => fun
  | [d1, d2] => { results := [.lit (.bool false)], args := [d1, d2] }
  | _ => none }
def MultLightWrongFalsely : Prop := multLightRow.holds Try.pinned (OpenSpec.ofChange multLightWrong)

/-- 'semigrouplaw14.MultValues': WHATEVER THE INPUT: true; the input reads as it did. -/
def multValuesSpec : ChangeSpec := { name := "multValues", fn := fun _ => fun
  | [d1, d2, d3, d4] => { results := [.lit (.bool true)], args := [d1, d2, d3, d4] }
  | _ => none }
def multValuesRow : OpenClaim := { program := "ytlhckcldeojfmaa", sum := "fc56126cbaa84f8f2cce8af73a9a83f8d6d75c8e17bba817d80a320646d38393", func := "semigroup/semigrouplaw14.MultValues", spec := "multValues", apart := false }
def MultValuesSaid : Prop := multValuesRow.holds Try.pinned (OpenSpec.ofChange multValuesSpec)

/-- ITS FALSE NEIGHBOUR: 'it returns false'. Refute it at one input. -/
def multValuesWrong : ChangeSpec := { name := "multValues", fn := fun _ => fun
  | [d1, d2, d3, d4] => { results := [.lit (.bool false)], args := [d1, d2, d3, d4] }
  | _ => none }
def MultValuesWrongFalsely : Prop := multValuesRow.holds Try.pinned (OpenSpec.ofChange multValuesWrong)

/-- 'semigrouplaw14.MultMakes': WHATEVER THE INPUT: true; the input reads as it did. -/
def multMakesSpec : ChangeSpec := { name := "multMakes", fn := fun _ => fun
  | [d1, d2] => { results := [.lit (.bool true)], args := [d1, d2] }
  | _ => none }
def multMakesRow : OpenClaim := { program := "ytlhckcldeojfmaa", sum := "fc56126cbaa84f8f2cce8af73a9a83f8d6d75c8e17bba817d80a320646d38393", func := "semigroup/semigrouplaw14.MultMakes", spec := "multMakes", apart := false }
def MultMakesSaid : Prop := multMakesRow.holds Try.pinned (OpenSpec.ofChange multMakesSpec)

/-- ITS FALSE NEIGHBOUR: 'it returns false'. Refute it at one input. -/
def multMakesWrong : ChangeSpec := { name := "multMakes", fn := fun _ => fun
  | [d1, d2] => { results := [.lit (.bool false)], args := [d1, d2] }
  | _ => none }
def MultMakesWrongFalsely : Prop := multMakesRow.holds Try.pinned (OpenSpec.ofChange multMakesWrong)

/-- 'semigrouplaw14.MultInherits': WHATEVER THE INPUT: true; the input reads as it did. -/
def multInheritsSpec : ChangeSpec := { name := "multInherits", fn := fun _ => fun
  | [d1, d2] => { results := [.lit (.bool true)], args := [d1, d2] }
  | _ => none }
def multInheritsRow : OpenClaim := { program := "ytlhckcldeojfmaa", sum := "fc56126cbaa84f8f2cce8af73a9a83f8d6d75c8e17bba817d80a320646d38393", func := "semigroup/semigrouplaw14.MultInherits", spec := "multInherits", apart := false }
def MultInheritsSaid : Prop := multInheritsRow.holds Try.pinned (OpenSpec.ofChange multInheritsSpec)

/-- ITS FALSE NEIGHBOUR: 'it returns false'. Refute it at one input. -/
def multInheritsWrong : ChangeSpec := { name := "multInherits", fn := fun _ => fun
  | [d1, d2] => { results := [.lit (.bool false)], args := [d1, d2] }
  | _ => none }
def MultInheritsWrongFalsely : Prop := multInheritsRow.holds Try.pinned (OpenSpec.ofChange multInheritsWrong)

/-- 'semigrouplaw14.MultGenerates': WHATEVER THE INPUT: true; the input reads as it did. -/
def multGeneratesSpec : ChangeSpec := { name := "multGenerates", fn := fun _ => fun
  | [d1, d2, d3] => { results := [.lit (.bool true)], args := [d1, d2, d3] }
  | _ => none }
def multGeneratesRow : OpenClaim := { program := "ytlhckcldeojfmaa", sum := "fc56126cbaa84f8f2cce8af73a9a83f8d6d75c8e17bba817d80a320646d38393", func := "semigroup/semigrouplaw14.MultGenerates", spec := "multGenerates", unfollowed := true, recurses := true, apart := false }
def MultGeneratesSaid : Prop := multGeneratesRow.holds Try.pinned (OpenSpec.ofChange multGeneratesSpec)

/-- ITS FALSE NEIGHBOUR: 'it returns false'. Refute it at one input. -/
def multGeneratesWrong : ChangeSpec := { name := "multGenerates", fn := fun _ => fun
  | [d1, d2, d3] => { results := [.lit (.bool false)], args := [d1, d2, d3] }
  | _ => none }
def MultGeneratesWrongFalsely : Prop := multGeneratesRow.holds Try.pinned (OpenSpec.ofChange multGeneratesWrong)

/-- 'semigrouplaw14.MultCloses': WHATEVER THE INPUT: true; the input reads as it did. -/
def multClosesSpec : ChangeSpec := { name := "multCloses", fn := fun _ => fun
  | [d1, d2, d3] => { results := [.lit (.bool true)], args := [d1, d2, d3] }
  | _ => none }
def multClosesRow : OpenClaim := { program := "ytlhckcldeojfmaa", sum := "fc56126cbaa84f8f2cce8af73a9a83f8d6d75c8e17bba817d80a320646d38393", func := "semigroup/semigrouplaw14.MultCloses", spec := "multCloses", unfollowed := true, recurses := true, apart := false }
def MultClosesSaid : Prop := multClosesRow.holds Try.pinned (OpenSpec.ofChange multClosesSpec)

/-- ITS FALSE NEIGHBOUR: 'it returns false'. Refute it at one input. -/
def multClosesWrong : ChangeSpec := { name := "multCloses", fn := fun _ => fun
  | [d1, d2, d3] => { results := [.lit (.bool false)], args := [d1, d2, d3] }
  | _ => none }
def MultClosesWrongFalsely : Prop := multClosesRow.holds Try.pinned (OpenSpec.ofChange multClosesWrong)

/-- 'semigrouplaw14.MultNeeds': WHATEVER THE INPUT: true; the input reads as it did. -/
def multNeedsSpec : ChangeSpec := { name := "multNeeds", fn := fun _ => fun
  | [d1, d2] => { results := [.lit (.bool true)], args := [d1, d2] }
  | _ => none }
def multNeedsRow : OpenClaim := { program := "ytlhckcldeojfmaa", sum := "fc56126cbaa84f8f2cce8af73a9a83f8d6d75c8e17bba817d80a320646d38393", func := "semigroup/semigrouplaw14.MultNeeds", spec := "multNeeds", unfollowed := true, recurses := true, apart := false }
def MultNeedsSaid : Prop := multNeedsRow.holds Try.pinned (OpenSpec.ofChange multNeedsSpec)

/-- ITS FALSE NEIGHBOUR: 'it returns false'. Refute it at one input. -/
def multNeedsWrong : ChangeSpec := { name := "multNeeds", fn := fun _ => fun
  | [d1, d2] => { results := [.lit (.bool false)], args := [d1, d2] }
  | _ => none }
def MultNeedsWrongFalsely : Prop := multNeedsRow.holds Try.pinned (OpenSpec.ofChange multNeedsWrong)

/-- 'semigrouplaw14.MultBasis': WHATEVER THE INPUT: true; the input reads as it did. -/
def multBasisSpec : ChangeSpec := { name := "multBasis", fn := fun _ => fun
  | [d] => { results := [.lit (.bool true)], args := [d] }
  | _ => none }
def multBasisRow : OpenClaim := { program := "ytlhckcldeojfmaa", sum := "fc56126cbaa84f8f2cce8af73a9a83f8d6d75c8e17bba817d80a320646d38393", func := "semigroup/semigrouplaw14.MultBasis", spec := "multBasis", unfollowed := true, recurses := true, apart := false }
def MultBasisSaid : Prop := multBasisRow.holds Try.pinned (OpenSpec.ofChange multBasisSpec)

/-- ITS FALSE NEIGHBOUR: 'it returns false'. Refute it at one input. -/
def multBasisWrong : ChangeSpec := { name := "multBasis", fn := fun _ => fun
  | [d] => { results := [.lit (.bool false)], args := [d] }
  | _ => none }
def MultBasisWrongFalsely : Prop := multBasisRow.holds Try.pinned (OpenSpec.ofChange multBasisWrong)

/- THE SECOND FORM. 'bulk': how many values and letters a reading holds, each counted each time it is reached (what is shared counts as often as it is met; a slice's spare places count too). A statement '..UptoSaid' is the law's where the arguments, and the package variables that the reading takes, are together of bulk at most 1048576: NARROWER than '..Said'. Prove '..Said' where nothing that the law and all that it calls make is longer than what came in: it says more and counts as full. Else prove '..UptoSaid'. A law counts once. -/
mutual
def uptoBulk {H : Type} : DataW H → Nat
  | .lit (.string bytes) => bytes.length + 1
  | .lit _ => 1
  | .nil => 1
  | .ptr d => uptoBulk d + 1
  | .slice elems spare => uptoBulkAll elems + uptoBulkAll spare + 1
  | .agg parts => uptoBulkAll parts + 1
  | .iface _ d => uptoBulk d + 1
  | .map entries => uptoBulkEntries entries + 1
  | .held _ => 1
def uptoBulkAll {H : Type} : List (DataW H) → Nat
  | [] => 0
  | d :: r => uptoBulk d + uptoBulkAll r
def uptoBulkEntries {H : Type} : List (Lit × DataW H) → Nat
  | [] => 0
  | x :: r => uptoBulkEntry x + uptoBulkEntries r
def uptoBulkEntry {H : Type} : Lit × DataW H → Nat
  | (.string bytes, d) => bytes.length + uptoBulk d + 1
  | (_, d) => uptoBulk d + 1
 end
def uptoSmall : (H : Type) → List (DataW H) → Bool := fun _ ds => decide (uptoBulkAll ds ≤ 1048576)
def OpenSpec.upto (s : _root_.Go.ChangeSpec) : _root_.Go.OpenSpec := { _root_.Go.OpenSpec.ofChange s with cond := some uptoSmall }

/-- 'semigrouplaw14.MultValidates', WHERE WHAT IT READS IS OF BULK AT MOST 1048576: true; the input reads as it did. -/
def multValidatesUptoRow : OpenClaim := { program := "ytlhckcldeojfmaa", sum := "fc56126cbaa84f8f2cce8af73a9a83f8d6d75c8e17bba817d80a320646d38393", func := "semigroup/semigrouplaw14.MultValidates", spec := "multValidates", apart := false, narrowed := true }
def MultValidatesUptoSaid : Prop := multValidatesUptoRow.holds Try.pinned (OpenSpec.upto multValidatesSpec)

/-- 'semigrouplaw14.MultSpecial', WHERE WHAT IT READS IS OF BULK AT MOST 1048576: true; the input reads as it did. -/
def multSpecialUptoRow : OpenClaim := { program := "ytlhckcldeojfmaa", sum := "fc56126cbaa84f8f2cce8af73a9a83f8d6d75c8e17bba817d80a320646d38393", func := "semigroup/semigrouplaw14.MultSpecial", spec := "multSpecial", apart := false, narrowed := true }
def MultSpecialUptoSaid : Prop := multSpecialUptoRow.holds Try.pinned (OpenSpec.upto multSpecialSpec)

/-- 'semigrouplaw14.MultPowers', WHERE WHAT IT READS IS OF BULK AT MOST 1048576: true; the input reads as it did. -/
def multPowersUptoRow : OpenClaim := { program := "ytlhckcldeojfmaa", sum := "fc56126cbaa84f8f2cce8af73a9a83f8d6d75c8e17bba817d80a320646d38393", func := "semigroup/semigrouplaw14.MultPowers", spec := "multPowers", apart := false, narrowed := true }
def MultPowersUptoSaid : Prop := multPowersUptoRow.holds Try.pinned (OpenSpec.upto multPowersSpec)

/-- 'semigrouplaw14.MultExponents', WHERE WHAT IT READS IS OF BULK AT MOST 1048576: true; the input reads as it did. -/
def multExponentsUptoRow : OpenClaim := { program := "ytlhckcldeojfmaa", sum := "fc56126cbaa84f8f2cce8af73a9a83f8d6d75c8e17bba817d80a320646d38393", func := "semigroup/semigrouplaw14.MultExponents", spec := "multExponents", apart := false, narrowed := true }
def MultExponentsUptoSaid : Prop := multExponentsUptoRow.holds Try.pinned (OpenSpec.upto multExponentsSpec)

/-- 'semigrouplaw14.MultLimits', WHERE WHAT IT READS IS OF BULK AT MOST 1048576: true; the input reads as it did. -/
def multLimitsUptoRow : OpenClaim := { program := "ytlhckcldeojfmaa", sum := "fc56126cbaa84f8f2cce8af73a9a83f8d6d75c8e17bba817d80a320646d38393", func := "semigroup/semigrouplaw14.MultLimits", spec := "multLimits", apart := false, narrowed := true }
def MultLimitsUptoSaid : Prop := multLimitsUptoRow.holds Try.pinned (OpenSpec.upto multLimitsSpec)

/-- 'semigrouplaw14.MultLight', WHERE WHAT IT READS IS OF BULK AT MOST 1048576: true; the input reads as it did. -/
def multLightUptoRow : OpenClaim := { program := "ytlhckcldeojfmaa", sum := "fc56126cbaa84f8f2cce8af73a9a83f8d6d75c8e17bba817d80a320646d38393", func := "semigroup/semigrouplaw14.MultLight", spec := "multLight", apart := false, narrowed := true }
def MultLightUptoSaid : Prop := multLightUptoRow.holds Try.pinned (OpenSpec.upto multLightSpec)

/-- 'semigrouplaw14.MultValues', WHERE WHAT IT READS IS OF BULK AT MOST 1048576: true; the input reads as it did. -/
def multValuesUptoRow : OpenClaim := { program := "ytlhckcldeojfmaa", sum := "fc56126cbaa84f8f2cce8af73a9a83f8d6d75c8e17bba817d80a320646d38393", func := "semigroup/semigrouplaw14.MultValues", spec := "multValues", apart := false, narrowed := true }
def MultValuesUptoSaid : Prop := multValuesUptoRow.holds Try.pinned (OpenSpec.upto multValuesSpec)

/-- 'semigrouplaw14.MultMakes', WHERE WHAT IT READS IS OF BULK AT MOST 1048576: true; the input reads as it did. -/
def multMakesUptoRow : OpenClaim := { program := "ytlhckcldeojfmaa", sum := "fc56126cbaa84f8f2cce8af73a9a83f8d6d75c8e17bba817d80a320646d38393", func := "semigroup/semigrouplaw14.MultMakes", spec := "multMakes", apart := false, narrowed := true }
def MultMakesUptoSaid : Prop := multMakesUptoRow.holds Try.pinned (OpenSpec.upto multMakesSpec)

/-- 'semigrouplaw14.MultInherits', WHERE WHAT IT READS IS OF BULK AT MOST 1048576: true; the input reads as it did. -/
def multInheritsUptoRow : OpenClaim := { program := "ytlhckcldeojfmaa", sum := "fc56126cbaa84f8f2cce8af73a9a83f8d6d75c8e17bba817d80a320646d38393", func := "semigroup/semigrouplaw14.MultInherits", spec := "multInherits", apart := false, narrowed := true }
def MultInheritsUptoSaid : Prop := multInheritsUptoRow.holds Try.pinned (OpenSpec.upto multInheritsSpec)

/-- 'semigrouplaw14.MultGenerates', WHERE WHAT IT READS IS OF BULK AT MOST 1048576: true; the input reads as it did. -/
def multGeneratesUptoRow : OpenClaim := { program := "ytlhckcldeojfmaa", sum := "fc56126cbaa84f8f2cce8af73a9a83f8d6d75c8e17bba817d80a320646d38393", func := "semigroup/semigrouplaw14.MultGenerates", spec := "multGenerates", unfollowed := true, recurses := true, apart := false, narrowed := true }
def MultGeneratesUptoSaid : Prop := multGeneratesUptoRow.holds Try.pinned (OpenSpec.upto multGeneratesSpec)

/-- 'semigrouplaw14.MultCloses', WHERE WHAT IT READS IS OF BULK AT MOST 1048576: true; the input reads as it did. -/
def multClosesUptoRow : OpenClaim := { program := "ytlhckcldeojfmaa", sum := "fc56126cbaa84f8f2cce8af73a9a83f8d6d75c8e17bba817d80a320646d38393", func := "semigroup/semigrouplaw14.MultCloses", spec := "multCloses", unfollowed := true, recurses := true, apart := false, narrowed := true }
def MultClosesUptoSaid : Prop := multClosesUptoRow.holds Try.pinned (OpenSpec.upto multClosesSpec)

/-- 'semigrouplaw14.MultNeeds', WHERE WHAT IT READS IS OF BULK AT MOST 1048576: true; the input reads as it did. -/
def multNeedsUptoRow : OpenClaim := { program := "ytlhckcldeojfmaa", sum := "fc56126cbaa84f8f2cce8af73a9a83f8d6d75c8e17bba817d80a320646d38393", func := "semigroup/semigrouplaw14.MultNeeds", spec := "multNeeds", unfollowed := true, recurses := true, apart := false, narrowed := true }
def MultNeedsUptoSaid : Prop := multNeedsUptoRow.holds Try.pinned (OpenSpec.upto multNeedsSpec)

/-- 'semigrouplaw14.MultBasis', WHERE WHAT IT READS IS OF BULK AT MOST 1048576: true; the input reads as it did. -/
def multBasisUptoRow : OpenClaim := { program := "ytlhckcldeojfmaa", sum := "fc56126cbaa84f8f2cce8af73a9a83f8d6d75c8e17bba817d80a320646d38393", func := "semigroup/semigrouplaw14.MultBasis", spec := "multBasis", unfollowed := true, recurses := true, apart := false, narrowed := true }
def MultBasisUptoSaid : Prop := multBasisUptoRow.holds Try.pinned (OpenSpec.upto multBasisSpec)

end Rows
end Go.Proofs.Ytlhckcldeojfmaa
