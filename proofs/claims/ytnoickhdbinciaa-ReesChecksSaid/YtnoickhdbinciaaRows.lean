/-
  No cell of these rows narrows 'for every input' (looked for: loops, veiled, ifaces, maps, wideKeys, modest, calm, conditions, laid).
  DERIVED. THE GIVEN ROWS OF THIS SEAT. 10 by the template 'for every input the law returns true; each argument reads behind the call as it read before'; 0 by the template 'total and deterministic' (their statements: YtnoickhdbinciaaTotals.lean).
  GIVEN WITH THE SEED: the statements are not yours to turn. If you find one false, say at which input.
  Laid BY PROGRAM, IN A SANDBOX (cutbox-rows.mjs): the forced cells as the released guide's own fill.sh prints them over the translation 8dfda6feb526188b… (all of the seat's roots in one cut). By AI agents, Wed Nov 11 2026. No macro, syntax, notation, axiom, sorry.
-/
import Derived.Test.YtnoickhdbinciaaChecked
import GoSem.Claim
import GoSem.ClaimJoined
import GoSem.ClaimMapViews
import Derived.JoinedTies
import Derived.KernelRfl
namespace Go.Proofs.Ytnoickhdbinciaa
/- THE CELL 'sum', in the pinned program and in every row, IS THE sha256 OF THE DUMP (.gsa) THAT YtnoickhdbinciaaProg.lean LOADS. Nothing in Lean hashes anything: it is a label: what it is worth is what the hold of that sum in a sandbox is worth. -/
noncomputable def Try.pinned : Pinned := { name := "ytnoickhdbinciaa", sum := "8dfda6feb526188b3f8f2af9ab23c0f0878405fc545765ac8531c7fa3ab462ff", checked := Try.checked }
namespace Rows
def none {H : Type} : Left H := { results := [], args := [] }

/-- 'semigrouplaw17.ReesTables': WHATEVER THE INPUT: true; the input reads as it did. -/
def reesTablesSpec : ChangeSpec := { name := "reesTables", fn := fun _ => fun
  | [d] => { results := [.lit (.bool true)], args := [d] }
  | _ => none }
def reesTablesRow : OpenClaim := { program := "ytnoickhdbinciaa", sum := "8dfda6feb526188b3f8f2af9ab23c0f0878405fc545765ac8531c7fa3ab462ff", func := "semigroup/semigrouplaw17.ReesTables", spec := "reesTables", apart := false }
def ReesTablesSaid : Prop := reesTablesRow.holds Try.pinned (OpenSpec.ofChange reesTablesSpec)

/-- ITS FALSE NEIGHBOUR: 'it returns false'. Refute it at one input. -/
def reesTablesWrong : ChangeSpec := { name := "reesTables", fn := fun _ => fun
  | [d] => { results := [.lit (.bool false)], args := [d] }
  | _ => none }
def ReesTablesWrongFalsely : Prop := reesTablesRow.holds Try.pinned (OpenSpec.ofChange reesTablesWrong)

/-- 'semigrouplaw17.ReesValidates': WHATEVER THE INPUT: true; the input reads as it did. -/
def reesValidatesSpec : ChangeSpec := { name := "reesValidates", fn := fun _ => fun
  | [d] => { results := [.lit (.bool true)], args := [d] }
  | _ => none }
def reesValidatesRow : OpenClaim := { program := "ytnoickhdbinciaa", sum := "8dfda6feb526188b3f8f2af9ab23c0f0878405fc545765ac8531c7fa3ab462ff", func := "semigroup/semigrouplaw17.ReesValidates", spec := "reesValidates", apart := false }
def ReesValidatesSaid : Prop := reesValidatesRow.holds Try.pinned (OpenSpec.ofChange reesValidatesSpec)

/-- ITS FALSE NEIGHBOUR: 'it returns false'. Refute it at one input. -/
def reesValidatesWrong : ChangeSpec := { name := "reesValidates", fn := fun _ => fun
  | [d] => { results := [.lit (.bool false)], args := [d] }
  | _ => none }
def ReesValidatesWrongFalsely : Prop := reesValidatesRow.holds Try.pinned (OpenSpec.ofChange reesValidatesWrong)

/-- 'semigrouplaw17.ReesMultiplies': WHATEVER THE INPUT: true; the input reads as it did. -/
def reesMultipliesSpec : ChangeSpec := { name := "reesMultiplies", fn := fun _ => fun
  | [d1, d2, d3, d4, d5, d6] => { results := [.lit (.bool true)], args := [d1, d2, d3, d4, d5, d6] }
  | _ => none }
def reesMultipliesRow : OpenClaim := { program := "ytnoickhdbinciaa", sum := "8dfda6feb526188b3f8f2af9ab23c0f0878405fc545765ac8531c7fa3ab462ff", func := "semigroup/semigrouplaw17.ReesMultiplies", spec := "reesMultiplies", apart := false }
def ReesMultipliesSaid : Prop := reesMultipliesRow.holds Try.pinned (OpenSpec.ofChange reesMultipliesSpec)

/-- ITS FALSE NEIGHBOUR: 'it returns false'. Refute it at one input. -/
def reesMultipliesWrong : ChangeSpec := { name := "reesMultiplies", fn := fun _ => fun
  | [d1, d2, d3, d4, d5, d6] => { results := [.lit (.bool false)], args := [d1, d2, d3, d4, d5, d6] }
  | _ => none }
def ReesMultipliesWrongFalsely : Prop := reesMultipliesRow.holds Try.pinned (OpenSpec.ofChange reesMultipliesWrong)

/-- 'semigrouplaw17.ReesSimple': WHATEVER THE INPUT: true; the input reads as it did. -/
def reesSimpleSpec : ChangeSpec := { name := "reesSimple", fn := fun _ => fun
  | [d] => { results := [.lit (.bool true)], args := [d] }
  | _ => none }
def reesSimpleRow : OpenClaim := { program := "ytnoickhdbinciaa", sum := "8dfda6feb526188b3f8f2af9ab23c0f0878405fc545765ac8531c7fa3ab462ff", func := "semigroup/semigrouplaw17.ReesSimple", spec := "reesSimple", apart := false }
def ReesSimpleSaid : Prop := reesSimpleRow.holds Try.pinned (OpenSpec.ofChange reesSimpleSpec)

/-- ITS FALSE NEIGHBOUR: 'it returns false'. Refute it at one input. -/
def reesSimpleWrong : ChangeSpec := { name := "reesSimple", fn := fun _ => fun
  | [d] => { results := [.lit (.bool false)], args := [d] }
  | _ => none }
def ReesSimpleWrongFalsely : Prop := reesSimpleRow.holds Try.pinned (OpenSpec.ofChange reesSimpleWrong)

/-- 'semigrouplaw17.ReesPrincipal': WHATEVER THE INPUT: true; the input reads as it did. -/
def reesPrincipalSpec : ChangeSpec := { name := "reesPrincipal", fn := fun _ => fun
  | [d1, d2] => { results := [.lit (.bool true)], args := [d1, d2] }
  | _ => none }
def reesPrincipalRow : OpenClaim := { program := "ytnoickhdbinciaa", sum := "8dfda6feb526188b3f8f2af9ab23c0f0878405fc545765ac8531c7fa3ab462ff", func := "semigroup/semigrouplaw17.ReesPrincipal", spec := "reesPrincipal", apart := false }
def ReesPrincipalSaid : Prop := reesPrincipalRow.holds Try.pinned (OpenSpec.ofChange reesPrincipalSpec)

/-- ITS FALSE NEIGHBOUR: 'it returns false'. Refute it at one input. -/
def reesPrincipalWrong : ChangeSpec := { name := "reesPrincipal", fn := fun _ => fun
  | [d1, d2] => { results := [.lit (.bool false)], args := [d1, d2] }
  | _ => none }
def ReesPrincipalWrongFalsely : Prop := reesPrincipalRow.holds Try.pinned (OpenSpec.ofChange reesPrincipalWrong)

/-- 'semigrouplaw17.ReesFactors': WHATEVER THE INPUT: true; the input reads as it did. -/
def reesFactorsSpec : ChangeSpec := { name := "reesFactors", fn := fun _ => fun
  | [d] => { results := [.lit (.bool true)], args := [d] }
  | _ => none }
def reesFactorsRow : OpenClaim := { program := "ytnoickhdbinciaa", sum := "8dfda6feb526188b3f8f2af9ab23c0f0878405fc545765ac8531c7fa3ab462ff", func := "semigroup/semigrouplaw17.ReesFactors", spec := "reesFactors", apart := false }
def ReesFactorsSaid : Prop := reesFactorsRow.holds Try.pinned (OpenSpec.ofChange reesFactorsSpec)

/-- ITS FALSE NEIGHBOUR: 'it returns false'. Refute it at one input. -/
def reesFactorsWrong : ChangeSpec := { name := "reesFactors", fn := fun _ => fun
  | [d] => { results := [.lit (.bool false)], args := [d] }
  | _ => none }
def ReesFactorsWrongFalsely : Prop := reesFactorsRow.holds Try.pinned (OpenSpec.ofChange reesFactorsWrong)

/-- 'semigrouplaw17.ReesChecks': WHATEVER THE INPUT: true; the input reads as it did. -/
def reesChecksSpec : ChangeSpec := { name := "reesChecks", fn := fun _ => fun
  | [d1, d2, d3, d4] => { results := [.lit (.bool true)], args := [d1, d2, d3, d4] }
  | _ => none }
def reesChecksRow : OpenClaim := { program := "ytnoickhdbinciaa", sum := "8dfda6feb526188b3f8f2af9ab23c0f0878405fc545765ac8531c7fa3ab462ff", func := "semigroup/semigrouplaw17.ReesChecks", spec := "reesChecks", apart := false }
def ReesChecksSaid : Prop := reesChecksRow.holds Try.pinned (OpenSpec.ofChange reesChecksSpec)

/-- ITS FALSE NEIGHBOUR: 'it returns false'. Refute it at one input. -/
def reesChecksWrong : ChangeSpec := { name := "reesChecks", fn := fun _ => fun
  | [d1, d2, d3, d4] => { results := [.lit (.bool false)], args := [d1, d2, d3, d4] }
  | _ => none }
def ReesChecksWrongFalsely : Prop := reesChecksRow.holds Try.pinned (OpenSpec.ofChange reesChecksWrong)

/-- 'semigrouplaw17.ReesCoordinates': WHATEVER THE INPUT: true; the input reads as it did. -/
def reesCoordinatesSpec : ChangeSpec := { name := "reesCoordinates", fn := fun _ => fun
  | [d1, d2] => { results := [.lit (.bool true)], args := [d1, d2] }
  | _ => none }
def reesCoordinatesRow : OpenClaim := { program := "ytnoickhdbinciaa", sum := "8dfda6feb526188b3f8f2af9ab23c0f0878405fc545765ac8531c7fa3ab462ff", func := "semigroup/semigrouplaw17.ReesCoordinates", spec := "reesCoordinates", recurses := true, apart := false }
def ReesCoordinatesSaid : Prop := reesCoordinatesRow.holds Try.pinned (OpenSpec.ofChange reesCoordinatesSpec)

/-- ITS FALSE NEIGHBOUR: 'it returns false'. Refute it at one input. -/
def reesCoordinatesWrong : ChangeSpec := { name := "reesCoordinates", fn := fun _ => fun
  | [d1, d2] => { results := [.lit (.bool false)], args := [d1, d2] }
  | _ => none }
def ReesCoordinatesWrongFalsely : Prop := reesCoordinatesRow.holds Try.pinned (OpenSpec.ofChange reesCoordinatesWrong)

/-- 'semigrouplaw17.ReesTurned': WHATEVER THE INPUT: true; the input reads as it did. -/
def reesTurnedSpec : ChangeSpec := { name := "reesTurned", fn := fun _ => fun
  | [d1, d2, d3, d4, d5] => { results := [.lit (.bool true)], args := [d1, d2, d3, d4, d5] }
  | _ => none }
def reesTurnedRow : OpenClaim := { program := "ytnoickhdbinciaa", sum := "8dfda6feb526188b3f8f2af9ab23c0f0878405fc545765ac8531c7fa3ab462ff", func := "semigroup/semigrouplaw17.ReesTurned", spec := "reesTurned", recurses := true, apart := false }
def ReesTurnedSaid : Prop := reesTurnedRow.holds Try.pinned (OpenSpec.ofChange reesTurnedSpec)

/-- ITS FALSE NEIGHBOUR: 'it returns false'. Refute it at one input. -/
def reesTurnedWrong : ChangeSpec := { name := "reesTurned", fn := fun _ => fun
  | [d1, d2, d3, d4, d5] => { results := [.lit (.bool false)], args := [d1, d2, d3, d4, d5] }
  | _ => none }
def ReesTurnedWrongFalsely : Prop := reesTurnedRow.holds Try.pinned (OpenSpec.ofChange reesTurnedWrong)

/-- 'semigrouplaw17.ReesTheorem': WHATEVER THE INPUT: true; the input reads as it did. -/
def reesTheoremSpec : ChangeSpec := { name := "reesTheorem", fn := fun _ => fun
  | [d] => { results := [.lit (.bool true)], args := [d] }
  | _ => none }
def reesTheoremRow : OpenClaim := { program := "ytnoickhdbinciaa", sum := "8dfda6feb526188b3f8f2af9ab23c0f0878405fc545765ac8531c7fa3ab462ff", func := "semigroup/semigrouplaw17.ReesTheorem", spec := "reesTheorem", recurses := true, apart := false }
def ReesTheoremSaid : Prop := reesTheoremRow.holds Try.pinned (OpenSpec.ofChange reesTheoremSpec)

/-- ITS FALSE NEIGHBOUR: 'it returns false'. Refute it at one input. -/
def reesTheoremWrong : ChangeSpec := { name := "reesTheorem", fn := fun _ => fun
  | [d] => { results := [.lit (.bool false)], args := [d] }
  | _ => none }
def ReesTheoremWrongFalsely : Prop := reesTheoremRow.holds Try.pinned (OpenSpec.ofChange reesTheoremWrong)

/- THE SECOND FORM. 'bulk': how many values and letters a reading holds, each counted each time it is reached (what is shared counts as often as it is met; a slice's spare places count too). A statement '..UptoSaid' is the law's where the arguments, and the package variables that the reading takes, are together of bulk at most 1048576: NARROWER than '..Said'. Prove '..Said' where nothing that the law and all that it calls make is longer than what came in: it says more and counts as full. Else prove '..UptoSaid'. A law counts once. -/
mutual
def uptoBulk {H : Type} : DataW H → Nat
  | .lit (.string bytes) => bytes.length + 1
  | .lit _ => 1
  | .nil => 1
  | .ptr d => uptoBulk d + 1
  | .slice elems spare => uptoBulkAll elems + uptoBulkAll spare + 1
  | .agg parts => uptoBulkAll parts + 1
  | .iface _ d => uptoBulk d + 1
  | .map entries => uptoBulkEntries entries + 1
  | .held _ => 1
def uptoBulkAll {H : Type} : List (DataW H) → Nat
  | [] => 0
  | d :: r => uptoBulk d + uptoBulkAll r
def uptoBulkEntries {H : Type} : List (Lit × DataW H) → Nat
  | [] => 0
  | x :: r => uptoBulkEntry x + uptoBulkEntries r
def uptoBulkEntry {H : Type} : Lit × DataW H → Nat
  | (.string bytes, d) => bytes.length + uptoBulk d + 1
  | (_, d) => uptoBulk d + 1
 end
def uptoSmall : (H : Type) → List (DataW H) → Bool := fun _ ds => decide (uptoBulkAll ds ≤ 1048576)
def OpenSpec.upto (s : _root_.Go.ChangeSpec) : _root_.Go.OpenSpec := { _root_.Go.OpenSpec.ofChange s with cond := some uptoSmall }

/-- 'semigrouplaw17.ReesTables', WHERE WHAT IT READS IS OF BULK AT MOST 1048576: true; the input reads as it did. -/
def reesTablesUptoRow : OpenClaim := { program := "ytnoickhdbinciaa", sum := "8dfda6feb526188b3f8f2af9ab23c0f0878405fc545765ac8531c7fa3ab462ff", func := "semigroup/semigrouplaw17.ReesTables", spec := "reesTables", apart := false, narrowed := true }
def ReesTablesUptoSaid : Prop := reesTablesUptoRow.holds Try.pinned (OpenSpec.upto reesTablesSpec)

/-- 'semigrouplaw17.ReesValidates', WHERE WHAT IT READS IS OF BULK AT MOST 1048576: true; the input reads as it did. -/
def reesValidatesUptoRow : OpenClaim := { program := "ytnoickhdbinciaa", sum := "8dfda6feb526188b3f8f2af9ab23c0f0878405fc545765ac8531c7fa3ab462ff", func := "semigroup/semigrouplaw17.ReesValidates", spec := "reesValidates", apart := false, narrowed := true }
def ReesValidatesUptoSaid : Prop := reesValidatesUptoRow.holds Try.pinned (OpenSpec.upto reesValidatesSpec)

/-- 'semigrouplaw17.ReesMultiplies', WHERE WHAT IT READS IS OF BULK AT MOST 1048576: true; the input reads as it did. -/
def reesMultipliesUptoRow : OpenClaim := { program := "ytnoickhdbinciaa", sum := "8dfda6feb526188b3f8f2af9ab23c0f0878405fc545765ac8531c7fa3ab462ff", func := "semigroup/semigrouplaw17.ReesMultiplies", spec := "reesMultiplies", apart := false, narrowed := true }
def ReesMultipliesUptoSaid : Prop := reesMultipliesUptoRow.holds Try.pinned (OpenSpec.upto reesMultipliesSpec)

/-- 'semigrouplaw17.ReesSimple', WHERE WHAT IT READS IS OF BULK AT MOST 1048576: true; the input reads as it did. -/
def reesSimpleUptoRow : OpenClaim := { program := "ytnoickhdbinciaa", sum := "8dfda6feb526188b3f8f2af9ab23c0f0878405fc545765ac8531c7fa3ab462ff", func := "semigroup/semigrouplaw17.ReesSimple", spec := "reesSimple", apart := false, narrowed := true }
def ReesSimpleUptoSaid : Prop := reesSimpleUptoRow.holds Try.pinned (OpenSpec.upto reesSimpleSpec)

/-- 'semigrouplaw17.ReesPrincipal', WHERE WHAT IT READS IS OF BULK AT MOST 1048576: true; the input reads as it did. -/
def reesPrincipalUptoRow : OpenClaim := { program := "ytnoickhdbinciaa", sum := "8dfda6feb526188b3f8f2af9ab23c0f0878405fc545765ac8531c7fa3ab462ff", func := "semigroup/semigrouplaw17.ReesPrincipal", spec := "reesPrincipal", apart := false, narrowed := true }
def ReesPrincipalUptoSaid : Prop := reesPrincipalUptoRow.holds Try.pinned (OpenSpec.upto reesPrincipalSpec)

/-- 'semigrouplaw17.ReesFactors', WHERE WHAT IT READS IS OF BULK AT MOST 1048576: true; the input reads as it did. -/
def reesFactorsUptoRow : OpenClaim := { program := "ytnoickhdbinciaa", sum := "8dfda6feb526188b3f8f2af9ab23c0f0878405fc545765ac8531c7fa3ab462ff", func := "semigroup/semigrouplaw17.ReesFactors", spec := "reesFactors", apart := false, narrowed := true }
def ReesFactorsUptoSaid : Prop := reesFactorsUptoRow.holds Try.pinned (OpenSpec.upto reesFactorsSpec)

/-- 'semigrouplaw17.ReesChecks', WHERE WHAT IT READS IS OF BULK AT MOST 1048576: true; the input reads as it did. -/
def reesChecksUptoRow : OpenClaim := { program := "ytnoickhdbinciaa", sum := "8dfda6feb526188b3f8f2af9ab23c0f0878405fc545765ac8531c7fa3ab462ff", func := "semigroup/semigrouplaw17.ReesChecks", spec := "reesChecks", apart := false, narrowed := true }
def ReesChecksUptoSaid : Prop := reesChecksUptoRow.holds Try.pinned (OpenSpec.upto reesChecksSpec)

/-- 'semigrouplaw17.ReesCoordinates', WHERE WHAT IT READS IS OF BULK AT MOST 1048576: true; the input reads as it did. -/
def reesCoordinatesUptoRow : OpenClaim := { program := "ytnoickhdbinciaa", sum := "8dfda6feb526188b3f8f2af9ab23c0f0878405fc545765ac8531c7fa3ab462ff", func := "semigroup/semigrouplaw17.ReesCoordinates", spec := "reesCoordinates", recurses := true, apart := false, narrowed := true }
def ReesCoordinatesUptoSaid : Prop := reesCoordinatesUptoRow.holds Try.pinned (OpenSpec.upto reesCoordinatesSpec)

/-- 'semigrouplaw17.ReesTurned', WHERE WHAT IT READS IS OF BULK AT MOST 1048576: true; the input reads as it did. -/
def reesTurnedUptoRow : OpenClaim := { program := "ytnoickhdbinciaa", sum := "8dfda6feb526188b3f8f2af9ab23c0f0878405fc545765ac8531c7fa3ab462ff", func := "semigroup/semigrouplaw17.ReesTurned", spec := "reesTurned", recurses := true, apart := false, narrowed := true }
def ReesTurnedUptoSaid : Prop := reesTurnedUptoRow.holds Try.pinned (OpenSpec.upto reesTurnedSpec)

/-- 'semigrouplaw17.ReesTheorem', WHERE WHAT IT READS IS OF BULK AT MOST 1048576: true; the input reads as it did. -/
def reesTheoremUptoRow : OpenClaim := { program := "ytnoickhdbinciaa", sum := "8dfda6feb526188b3f8f2af9ab23c0f0878405fc545765ac8531c7fa3ab462ff", func := "semigroup/semigrouplaw17.ReesTheorem", spec := "reesTheorem", recurses := true, apart := false, narrowed := true }
def ReesTheoremUptoSaid : Prop := reesTheoremUptoRow.holds Try.pinned (OpenSpec.upto reesTheoremSpec)

end Rows
end Go.Proofs.Ytnoickhdbinciaa
