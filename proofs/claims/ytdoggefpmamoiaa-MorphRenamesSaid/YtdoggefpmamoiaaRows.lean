/-
  No cell of these rows narrows 'for every input' (looked for: loops, veiled, ifaces, maps, wideKeys, modest, calm, conditions, laid).
  DERIVED. THE GIVEN ROWS OF THIS SEAT. 8 by the template 'for every input the law returns true; each argument reads behind the call as it read before'; 0 by the template 'total and deterministic' (their statements: YtdoggefpmamoiaaTotals.lean).
  GIVEN WITH THE SEED: the statements are not yours to turn. If you find one false, say at which input.
  Laid BY PROGRAM, IN A SANDBOX (cutbox-rows.mjs): the forced cells as the released guide's own fill.sh prints them over the translation 2a849512916e3ead… (all of the seat's roots in one cut). By AI agents, Wed Nov 11 2026. No macro, syntax, notation, axiom, sorry.
-/
import Derived.Test.YtdoggefpmamoiaaChecked
import GoSem.Claim
import GoSem.ClaimJoined
import GoSem.ClaimMapViews
import Derived.JoinedTies
import Derived.KernelRfl
namespace Go.Proofs.Ytdoggefpmamoiaa
/- THE CELL 'sum', in the pinned program and in every row, IS THE sha256 OF THE DUMP (.gsa) THAT YtdoggefpmamoiaaProg.lean LOADS. Nothing in Lean hashes anything: it is a label: what it is worth is what the hold of that sum in a sandbox is worth. -/
noncomputable def Try.pinned : Pinned := { name := "ytdoggefpmamoiaa", sum := "2a849512916e3ead9c9d292204fd4a0852d8b0af8580aecbe02f7c316b4ed2f9", checked := Try.checked }
namespace Rows
def none {H : Type} : Left H := { results := [], args := [] }

/-- 'semigrouplaw20.MorphLists': WHATEVER THE INPUT: true; the input reads as it did. -/
def morphListsSpec : ChangeSpec := { name := "morphLists", fn := fun _ => fun
  | [d1, d2] => { results := [.lit (.bool true)], args := [d1, d2] }
  | _ => none }
def morphListsRow : OpenClaim := { program := "ytdoggefpmamoiaa", sum := "2a849512916e3ead9c9d292204fd4a0852d8b0af8580aecbe02f7c316b4ed2f9", func := "semigroup/semigrouplaw20.MorphLists", spec := "morphLists", recurses := true, apart := false }
def MorphListsSaid : Prop := morphListsRow.holds Try.pinned (OpenSpec.ofChange morphListsSpec)

/-- ITS FALSE NEIGHBOUR: 'it returns false'. Refute it at one input. -/
def morphListsWrong : ChangeSpec := { name := "morphLists", fn := fun _ => fun
  | [d1, d2] => { results := [.lit (.bool false)], args := [d1, d2] }
  | _ => none }
def MorphListsWrongFalsely : Prop := morphListsRow.holds Try.pinned (OpenSpec.ofChange morphListsWrong)

/-- 'semigrouplaw20.MorphIsomorphic': WHATEVER THE INPUT: true; the input reads as it did. -/
def morphIsomorphicSpec : ChangeSpec := { name := "morphIsomorphic", fn := fun _ => fun
  | [d1, d2] => { results := [.lit (.bool true)], args := [d1, d2] }
  | _ => none }
def morphIsomorphicRow : OpenClaim := { program := "ytdoggefpmamoiaa", sum := "2a849512916e3ead9c9d292204fd4a0852d8b0af8580aecbe02f7c316b4ed2f9", func := "semigroup/semigrouplaw20.MorphIsomorphic", spec := "morphIsomorphic", recurses := true, apart := false }
def MorphIsomorphicSaid : Prop := morphIsomorphicRow.holds Try.pinned (OpenSpec.ofChange morphIsomorphicSpec)

/-- ITS FALSE NEIGHBOUR: 'it returns false'. Refute it at one input. -/
def morphIsomorphicWrong : ChangeSpec := { name := "morphIsomorphic", fn := fun _ => fun
  | [d1, d2] => { results := [.lit (.bool false)], args := [d1, d2] }
  | _ => none }
def MorphIsomorphicWrongFalsely : Prop := morphIsomorphicRow.holds Try.pinned (OpenSpec.ofChange morphIsomorphicWrong)

/-- 'semigrouplaw20.MorphComplete': WHATEVER THE INPUT: true; the input reads as it did. -/
def morphCompleteSpec : ChangeSpec := { name := "morphComplete", fn := fun _ => fun
  | [d1, d2, d3] => { results := [.lit (.bool true)], args := [d1, d2, d3] }
  | _ => none }
def morphCompleteRow : OpenClaim := { program := "ytdoggefpmamoiaa", sum := "2a849512916e3ead9c9d292204fd4a0852d8b0af8580aecbe02f7c316b4ed2f9", func := "semigroup/semigrouplaw20.MorphComplete", spec := "morphComplete", recurses := true, apart := false }
def MorphCompleteSaid : Prop := morphCompleteRow.holds Try.pinned (OpenSpec.ofChange morphCompleteSpec)

/-- ITS FALSE NEIGHBOUR: 'it returns false'. Refute it at one input. -/
def morphCompleteWrong : ChangeSpec := { name := "morphComplete", fn := fun _ => fun
  | [d1, d2, d3] => { results := [.lit (.bool false)], args := [d1, d2, d3] }
  | _ => none }
def MorphCompleteWrongFalsely : Prop := morphCompleteRow.holds Try.pinned (OpenSpec.ofChange morphCompleteWrong)

/-- 'semigrouplaw20.MorphExtends': WHATEVER THE INPUT: true; the input reads as it did. -/
def morphExtendsSpec : ChangeSpec := { name := "morphExtends", fn := fun _ => fun
  | [d1, d2, d3, d4] => { results := [.lit (.bool true)], args := [d1, d2, d3, d4] }
  | _ => none }
def morphExtendsRow : OpenClaim := { program := "ytdoggefpmamoiaa", sum := "2a849512916e3ead9c9d292204fd4a0852d8b0af8580aecbe02f7c316b4ed2f9", func := "semigroup/semigrouplaw20.MorphExtends", spec := "morphExtends", recurses := true, apart := false }
def MorphExtendsSaid : Prop := morphExtendsRow.holds Try.pinned (OpenSpec.ofChange morphExtendsSpec)

/-- ITS FALSE NEIGHBOUR: 'it returns false'. Refute it at one input. -/
def morphExtendsWrong : ChangeSpec := { name := "morphExtends", fn := fun _ => fun
  | [d1, d2, d3, d4] => { results := [.lit (.bool false)], args := [d1, d2, d3, d4] }
  | _ => none }
def MorphExtendsWrongFalsely : Prop := morphExtendsRow.holds Try.pinned (OpenSpec.ofChange morphExtendsWrong)

/-- 'semigrouplaw20.MorphRecognizes': WHATEVER THE INPUT: true; the input reads as it did. -/
def morphRecognizesSpec : ChangeSpec := { name := "morphRecognizes", fn := fun _ => fun
  | [d1, d2, d3] => { results := [.lit (.bool true)], args := [d1, d2, d3] }
  | _ => none }
def morphRecognizesRow : OpenClaim := { program := "ytdoggefpmamoiaa", sum := "2a849512916e3ead9c9d292204fd4a0852d8b0af8580aecbe02f7c316b4ed2f9", func := "semigroup/semigrouplaw20.MorphRecognizes", spec := "morphRecognizes", recurses := true, apart := false }
def MorphRecognizesSaid : Prop := morphRecognizesRow.holds Try.pinned (OpenSpec.ofChange morphRecognizesSpec)

/-- ITS FALSE NEIGHBOUR: 'it returns false'. Refute it at one input. -/
def morphRecognizesWrong : ChangeSpec := { name := "morphRecognizes", fn := fun _ => fun
  | [d1, d2, d3] => { results := [.lit (.bool false)], args := [d1, d2, d3] }
  | _ => none }
def MorphRecognizesWrongFalsely : Prop := morphRecognizesRow.holds Try.pinned (OpenSpec.ofChange morphRecognizesWrong)

/-- 'semigrouplaw20.MorphRenames': WHATEVER THE INPUT: true; the input reads as it did. -/
def morphRenamesSpec : ChangeSpec := { name := "morphRenames", fn := fun _ => fun
  | [d1, d2, d3, d4] => { results := [.lit (.bool true)], args := [d1, d2, d3, d4] }
  | _ => none }
def morphRenamesRow : OpenClaim := { program := "ytdoggefpmamoiaa", sum := "2a849512916e3ead9c9d292204fd4a0852d8b0af8580aecbe02f7c316b4ed2f9", func := "semigroup/semigrouplaw20.MorphRenames", spec := "morphRenames", recurses := true, apart := false }
def MorphRenamesSaid : Prop := morphRenamesRow.holds Try.pinned (OpenSpec.ofChange morphRenamesSpec)

/-- ITS FALSE NEIGHBOUR: 'it returns false'. Refute it at one input. -/
def morphRenamesWrong : ChangeSpec := { name := "morphRenames", fn := fun _ => fun
  | [d1, d2, d3, d4] => { results := [.lit (.bool false)], args := [d1, d2, d3, d4] }
  | _ => none }
def MorphRenamesWrongFalsely : Prop := morphRenamesRow.holds Try.pinned (OpenSpec.ofChange morphRenamesWrong)

/-- 'semigrouplaw20.MorphRestricts': WHATEVER THE INPUT: true; the input reads as it did. -/
def morphRestrictsSpec : ChangeSpec := { name := "morphRestricts", fn := fun _ => fun
  | [d1, d2, d3] => { results := [.lit (.bool true)], args := [d1, d2, d3] }
  | _ => none }
def morphRestrictsRow : OpenClaim := { program := "ytdoggefpmamoiaa", sum := "2a849512916e3ead9c9d292204fd4a0852d8b0af8580aecbe02f7c316b4ed2f9", func := "semigroup/semigrouplaw20.MorphRestricts", spec := "morphRestricts", unfollowed := true, recurses := true, apart := false }
def MorphRestrictsSaid : Prop := morphRestrictsRow.holds Try.pinned (OpenSpec.ofChange morphRestrictsSpec)

/-- ITS FALSE NEIGHBOUR: 'it returns false'. Refute it at one input. -/
def morphRestrictsWrong : ChangeSpec := { name := "morphRestricts", fn := fun _ => fun
  | [d1, d2, d3] => { results := [.lit (.bool false)], args := [d1, d2, d3] }
  | _ => none }
def MorphRestrictsWrongFalsely : Prop := morphRestrictsRow.holds Try.pinned (OpenSpec.ofChange morphRestrictsWrong)

/-- 'semigrouplaw20.MorphFactors': WHATEVER THE INPUT: true; the input reads as it did. -/
def morphFactorsSpec : ChangeSpec := { name := "morphFactors", fn := fun _ => fun
  | [d1, d2, d3] => { results := [.lit (.bool true)], args := [d1, d2, d3] }
  | _ => none }
def morphFactorsRow : OpenClaim := { program := "ytdoggefpmamoiaa", sum := "2a849512916e3ead9c9d292204fd4a0852d8b0af8580aecbe02f7c316b4ed2f9", func := "semigroup/semigrouplaw20.MorphFactors", spec := "morphFactors", recurses := true, apart := false }
def MorphFactorsSaid : Prop := morphFactorsRow.holds Try.pinned (OpenSpec.ofChange morphFactorsSpec)

/-- ITS FALSE NEIGHBOUR: 'it returns false'. Refute it at one input. -/
def morphFactorsWrong : ChangeSpec := { name := "morphFactors", fn := fun _ => fun
  | [d1, d2, d3] => { results := [.lit (.bool false)], args := [d1, d2, d3] }
  | _ => none }
def MorphFactorsWrongFalsely : Prop := morphFactorsRow.holds Try.pinned (OpenSpec.ofChange morphFactorsWrong)

/- THE SECOND FORM. 'bulk': how many values and letters a reading holds, each counted each time it is reached (what is shared counts as often as it is met; a slice's spare places count too). A statement '..UptoSaid' is the law's where the arguments, and the package variables that the reading takes, are together of bulk at most 1048576: NARROWER than '..Said'. Prove '..Said' where nothing that the law and all that it calls make is longer than what came in: it says more and counts as full. Else prove '..UptoSaid'. A law counts once. -/
mutual
def uptoBulk {H : Type} : DataW H → Nat
  | .lit (.string bytes) => bytes.length + 1
  | .lit _ => 1
  | .nil => 1
  | .ptr d => uptoBulk d + 1
  | .slice elems spare => uptoBulkAll elems + uptoBulkAll spare + 1
  | .agg parts => uptoBulkAll parts + 1
  | .iface _ d => uptoBulk d + 1
  | .map entries => uptoBulkEntries entries + 1
  | .held _ => 1
def uptoBulkAll {H : Type} : List (DataW H) → Nat
  | [] => 0
  | d :: r => uptoBulk d + uptoBulkAll r
def uptoBulkEntries {H : Type} : List (Lit × DataW H) → Nat
  | [] => 0
  | x :: r => uptoBulkEntry x + uptoBulkEntries r
def uptoBulkEntry {H : Type} : Lit × DataW H → Nat
  | (.string bytes, d) => bytes.length + uptoBulk d + 1
  | (_, d) => uptoBulk d + 1
 end
def uptoSmall : (H : Type) → List (DataW H) → Bool := fun _ ds => decide (uptoBulkAll ds ≤ 1048576)
def OpenSpec.upto (s : _root_.Go.ChangeSpec) : _root_.Go.OpenSpec := { _root_.Go.OpenSpec.ofChange s with cond := some uptoSmall }

/-- 'semigrouplaw20.MorphLists', WHERE WHAT IT READS IS OF BULK AT MOST 1048576: true; the input reads as it did. -/
def morphListsUptoRow : OpenClaim := { program := "ytdoggefpmamoiaa", sum := "2a849512916e3ead9c9d292204fd4a0852d8b0af8580aecbe02f7c316b4ed2f9", func := "semigroup/semigrouplaw20.MorphLists", spec := "morphLists", recurses := true, apart := false, narrowed := true }
def MorphListsUptoSaid : Prop := morphListsUptoRow.holds Try.pinned (OpenSpec.upto morphListsSpec)

/-- 'semigrouplaw20.MorphIsomorphic', WHERE WHAT IT READS IS OF BULK AT MOST 1048576: true; the input reads as it did. -/
def morphIsomorphicUptoRow : OpenClaim := { program := "ytdoggefpmamoiaa", sum := "2a849512916e3ead9c9d292204fd4a0852d8b0af8580aecbe02f7c316b4ed2f9", func := "semigroup/semigrouplaw20.MorphIsomorphic", spec := "morphIsomorphic", recurses := true, apart := false, narrowed := true }
def MorphIsomorphicUptoSaid : Prop := morphIsomorphicUptoRow.holds Try.pinned (OpenSpec.upto morphIsomorphicSpec)

/-- 'semigrouplaw20.MorphComplete', WHERE WHAT IT READS IS OF BULK AT MOST 1048576: true; the input reads as it did. -/
def morphCompleteUptoRow : OpenClaim := { program := "ytdoggefpmamoiaa", sum := "2a849512916e3ead9c9d292204fd4a0852d8b0af8580aecbe02f7c316b4ed2f9", func := "semigroup/semigrouplaw20.MorphComplete", spec := "morphComplete", recurses := true, apart := false, narrowed := true }
def MorphCompleteUptoSaid : Prop := morphCompleteUptoRow.holds Try.pinned (OpenSpec.upto morphCompleteSpec)

/-- 'semigrouplaw20.MorphExtends', WHERE WHAT IT READS IS OF BULK AT MOST 1048576: true; the input reads as it did. -/
def morphExtendsUptoRow : OpenClaim := { program := "ytdoggefpmamoiaa", sum := "2a849512916e3ead9c9d292204fd4a0852d8b0af8580aecbe02f7c316b4ed2f9", func := "semigroup/semigrouplaw20.MorphExtends", spec := "morphExtends", recurses := true, apart := false, narrowed := true }
def MorphExtendsUptoSaid : Prop := morphExtendsUptoRow.holds Try.pinned (OpenSpec.upto morphExtendsSpec)

/-- 'semigrouplaw20.MorphRecognizes', WHERE WHAT IT READS IS OF BULK AT MOST 1048576: true; the input reads as it did. -/
def morphRecognizesUptoRow : OpenClaim := { program := "ytdoggefpmamoiaa", sum := "2a849512916e3ead9c9d292204fd4a0852d8b0af8580aecbe02f7c316b4ed2f9", func := "semigroup/semigrouplaw20.MorphRecognizes", spec := "morphRecognizes", recurses := true, apart := false, narrowed := true }
def MorphRecognizesUptoSaid : Prop := morphRecognizesUptoRow.holds Try.pinned (OpenSpec.upto morphRecognizesSpec)

/-- 'semigrouplaw20.MorphRenames', WHERE WHAT IT READS IS OF BULK AT MOST 1048576: true; the input reads as it did. -/
def morphRenamesUptoRow : OpenClaim := { program := "ytdoggefpmamoiaa", sum := "2a849512916e3ead9c9d292204fd4a0852d8b0af8580aecbe02f7c316b4ed2f9", func := "semigroup/semigrouplaw20.MorphRenames", spec := "morphRenames", recurses := true, apart := false, narrowed := true }
def MorphRenamesUptoSaid : Prop := morphRenamesUptoRow.holds Try.pinned (OpenSpec.upto morphRenamesSpec)

/-- 'semigrouplaw20.MorphRestricts', WHERE WHAT IT READS IS OF BULK AT MOST 1048576: true; the input reads as it did. -/
def morphRestrictsUptoRow : OpenClaim := { program := "ytdoggefpmamoiaa", sum := "2a849512916e3ead9c9d292204fd4a0852d8b0af8580aecbe02f7c316b4ed2f9", func := "semigroup/semigrouplaw20.MorphRestricts", spec := "morphRestricts", unfollowed := true, recurses := true, apart := false, narrowed := true }
def MorphRestrictsUptoSaid : Prop := morphRestrictsUptoRow.holds Try.pinned (OpenSpec.upto morphRestrictsSpec)

/-- 'semigrouplaw20.MorphFactors', WHERE WHAT IT READS IS OF BULK AT MOST 1048576: true; the input reads as it did. -/
def morphFactorsUptoRow : OpenClaim := { program := "ytdoggefpmamoiaa", sum := "2a849512916e3ead9c9d292204fd4a0852d8b0af8580aecbe02f7c316b4ed2f9", func := "semigroup/semigrouplaw20.MorphFactors", spec := "morphFactors", recurses := true, apart := false, narrowed := true }
def MorphFactorsUptoSaid : Prop := morphFactorsUptoRow.holds Try.pinned (OpenSpec.upto morphFactorsSpec)

end Rows
end Go.Proofs.Ytdoggefpmamoiaa
