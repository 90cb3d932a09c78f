/-
  No cell of these rows narrows 'for every input' (looked for: loops, veiled, ifaces, maps, wideKeys, modest, calm, conditions, laid).
  DERIVED. THE GIVEN ROWS OF THIS SEAT. 10 by the template 'for every input the law returns true; each argument reads behind the call as it read before'; 0 by the template 'total and deterministic' (their statements: YtmdndoghdbhipaaTotals.lean).
  GIVEN WITH THE SEED: the statements are not yours to turn. If you find one false, say at which input.
  Laid BY PROGRAM, IN A SANDBOX (cutbox-rows.mjs): the forced cells as the released guide's own fill.sh prints them over the translation 47a71476afdca97a… (all of the seat's roots in one cut). By AI agents, Wed Nov 11 2026. No macro, syntax, notation, axiom, sorry.
-/
import Derived.Test.YtmdndoghdbhipaaChecked
import GoSem.Claim
import GoSem.ClaimJoined
import GoSem.ClaimMapViews
import Derived.JoinedTies
import Derived.KernelRfl
namespace Go.Proofs.Ytmdndoghdbhipaa
/- THE CELL 'sum', in the pinned program and in every row, IS THE sha256 OF THE DUMP (.gsa) THAT YtmdndoghdbhipaaProg.lean LOADS. Nothing in Lean hashes anything: it is a label: what it is worth is what the hold of that sum in a sandbox is worth. -/
noncomputable def Try.pinned : Pinned := { name := "ytmdndoghdbhipaa", sum := "47a71476afdca97a5bb943f3cce113de8fec14391816a471a26708f5575ab527", checked := Try.checked }
namespace Rows
def none {H : Type} : Left H := { results := [], args := [] }

/-- 'semigrouplaw15.GreenClasses': WHATEVER THE INPUT: true; the input reads as it did. -/
def greenClassesSpec : ChangeSpec := { name := "greenClasses", fn := fun _ => fun
  | [d] => { results := [.lit (.bool true)], args := [d] }
  | _ => none }
def greenClassesRow : OpenClaim := { program := "ytmdndoghdbhipaa", sum := "47a71476afdca97a5bb943f3cce113de8fec14391816a471a26708f5575ab527", func := "semigroup/semigrouplaw15.GreenClasses", spec := "greenClasses", apart := false }
def GreenClassesSaid : Prop := greenClassesRow.holds Try.pinned (OpenSpec.ofChange greenClassesSpec)

/-- ITS FALSE NEIGHBOUR: 'it returns false'. Refute it at one input. -/
def greenClassesWrong : ChangeSpec := { name := "greenClasses", fn := fun _ => fun
  | [d] => { results := [.lit (.bool false)], args := [d] }
  | _ => none }
def GreenClassesWrongFalsely : Prop := greenClassesRow.holds Try.pinned (OpenSpec.ofChange greenClassesWrong)

/-- 'semigrouplaw15.GreenStable': WHATEVER THE INPUT: true; the input reads as it did. -/
def greenStableSpec : ChangeSpec := { name := "greenStable", fn := fun _ => fun
  | [d1, d2, d3] => { results := [.lit (.bool true)], args := [d1, d2, d3] }
  | _ => none }
def greenStableRow : OpenClaim := { program := "ytmdndoghdbhipaa", sum := "47a71476afdca97a5bb943f3cce113de8fec14391816a471a26708f5575ab527", func := "semigroup/semigrouplaw15.GreenStable", spec := "greenStable", apart := false }
def GreenStableSaid : Prop := greenStableRow.holds Try.pinned (OpenSpec.ofChange greenStableSpec)

/-- ITS FALSE NEIGHBOUR: 'it returns false'. Refute it at one input. -/
def greenStableWrong : ChangeSpec := { name := "greenStable", fn := fun _ => fun
  | [d1, d2, d3] => { results := [.lit (.bool false)], args := [d1, d2, d3] }
  | _ => none }
def GreenStableWrongFalsely : Prop := greenStableRow.holds Try.pinned (OpenSpec.ofChange greenStableWrong)

/-- 'semigrouplaw15.GreenHeights': WHATEVER THE INPUT: true; the input reads as it did. -/
def greenHeightsSpec : ChangeSpec := { name := "greenHeights", fn := fun _ => fun
  | [d] => { results := [.lit (.bool true)], args := [d] }
  | _ => none }
def greenHeightsRow : OpenClaim := { program := "ytmdndoghdbhipaa", sum := "47a71476afdca97a5bb943f3cce113de8fec14391816a471a26708f5575ab527", func := "semigroup/semigrouplaw15.GreenHeights", spec := "greenHeights", apart := false }
def GreenHeightsSaid : Prop := greenHeightsRow.holds Try.pinned (OpenSpec.ofChange greenHeightsSpec)

/-- ITS FALSE NEIGHBOUR: 'it returns false'. Refute it at one input. -/
def greenHeightsWrong : ChangeSpec := { name := "greenHeights", fn := fun _ => fun
  | [d] => { results := [.lit (.bool false)], args := [d] }
  | _ => none }
def GreenHeightsWrongFalsely : Prop := greenHeightsRow.holds Try.pinned (OpenSpec.ofChange greenHeightsWrong)

/-- 'semigrouplaw15.GreenBelow': WHATEVER THE INPUT: true; the input reads as it did. -/
def greenBelowSpec : ChangeSpec := { name := "greenBelow", fn := fun _ => fun
  | [d1, d2, d3] => { results := [.lit (.bool true)], args := [d1, d2, d3] }
  | _ => none }
def greenBelowRow : OpenClaim := { program := "ytmdndoghdbhipaa", sum := "47a71476afdca97a5bb943f3cce113de8fec14391816a471a26708f5575ab527", func := "semigroup/semigrouplaw15.GreenBelow", spec := "greenBelow", unfollowed := true, recurses := true, apart := false }
def GreenBelowSaid : Prop := greenBelowRow.holds Try.pinned (OpenSpec.ofChange greenBelowSpec)

/-- ITS FALSE NEIGHBOUR: 'it returns false'. Refute it at one input. -/
def greenBelowWrong : ChangeSpec := { name := "greenBelow", fn := fun _ => fun
  | [d1, d2, d3] => { results := [.lit (.bool false)], args := [d1, d2, d3] }
  | _ => none }
def GreenBelowWrongFalsely : Prop := greenBelowRow.holds Try.pinned (OpenSpec.ofChange greenBelowWrong)

/-- 'semigrouplaw15.GreenOrders': WHATEVER THE INPUT: true; the input reads as it did. -/
def greenOrdersSpec : ChangeSpec := { name := "greenOrders", fn := fun _ => fun
  | [d1, d2, d3, d4] => { results := [.lit (.bool true)], args := [d1, d2, d3, d4] }
  | _ => none }
def greenOrdersRow : OpenClaim := { program := "ytmdndoghdbhipaa", sum := "47a71476afdca97a5bb943f3cce113de8fec14391816a471a26708f5575ab527", func := "semigroup/semigrouplaw15.GreenOrders", spec := "greenOrders", unfollowed := true, recurses := true, apart := false }
def GreenOrdersSaid : Prop := greenOrdersRow.holds Try.pinned (OpenSpec.ofChange greenOrdersSpec)

/-- ITS FALSE NEIGHBOUR: 'it returns false'. Refute it at one input. -/
def greenOrdersWrong : ChangeSpec := { name := "greenOrders", fn := fun _ => fun
  | [d1, d2, d3, d4] => { results := [.lit (.bool false)], args := [d1, d2, d3, d4] }
  | _ => none }
def GreenOrdersWrongFalsely : Prop := greenOrdersRow.holds Try.pinned (OpenSpec.ofChange greenOrdersWrong)

/-- 'semigrouplaw15.GreenMirrors': WHATEVER THE INPUT: true; the input reads as it did. -/
def greenMirrorsSpec : ChangeSpec := { name := "greenMirrors", fn := fun _ => fun
  | [d] => { results := [.lit (.bool true)], args := [d] }
  | _ => none }
def greenMirrorsRow : OpenClaim := { program := "ytmdndoghdbhipaa", sum := "47a71476afdca97a5bb943f3cce113de8fec14391816a471a26708f5575ab527", func := "semigroup/semigrouplaw15.GreenMirrors", spec := "greenMirrors", apart := false }
def GreenMirrorsSaid : Prop := greenMirrorsRow.holds Try.pinned (OpenSpec.ofChange greenMirrorsSpec)

/-- ITS FALSE NEIGHBOUR: 'it returns false'. Refute it at one input. -/
def greenMirrorsWrong : ChangeSpec := { name := "greenMirrors", fn := fun _ => fun
  | [d] => { results := [.lit (.bool false)], args := [d] }
  | _ => none }
def GreenMirrorsWrongFalsely : Prop := greenMirrorsRow.holds Try.pinned (OpenSpec.ofChange greenMirrorsWrong)

/-- 'semigrouplaw15.GreenRegular': WHATEVER THE INPUT: true; the input reads as it did. -/
def greenRegularSpec : ChangeSpec := { name := "greenRegular", fn := fun _ => fun
  | [d1, d2] => { results := [.lit (.bool true)], args := [d1, d2] }
  | _ => none }
def greenRegularRow : OpenClaim := { program := "ytmdndoghdbhipaa", sum := "47a71476afdca97a5bb943f3cce113de8fec14391816a471a26708f5575ab527", func := "semigroup/semigrouplaw15.GreenRegular", spec := "greenRegular", apart := false }
def GreenRegularSaid : Prop := greenRegularRow.holds Try.pinned (OpenSpec.ofChange greenRegularSpec)

/-- ITS FALSE NEIGHBOUR: 'it returns false'. Refute it at one input. -/
def greenRegularWrong : ChangeSpec := { name := "greenRegular", fn := fun _ => fun
  | [d1, d2] => { results := [.lit (.bool false)], args := [d1, d2] }
  | _ => none }
def GreenRegularWrongFalsely : Prop := greenRegularRow.holds Try.pinned (OpenSpec.ofChange greenRegularWrong)

/-- 'semigrouplaw15.GreenInverts': WHATEVER THE INPUT: true; the input reads as it did. -/
def greenInvertsSpec : ChangeSpec := { name := "greenInverts", fn := fun _ => fun
  | [d1, d2] => { results := [.lit (.bool true)], args := [d1, d2] }
  | _ => none }
def greenInvertsRow : OpenClaim := { program := "ytmdndoghdbhipaa", sum := "47a71476afdca97a5bb943f3cce113de8fec14391816a471a26708f5575ab527", func := "semigroup/semigrouplaw15.GreenInverts", spec := "greenInverts", apart := false }
def GreenInvertsSaid : Prop := greenInvertsRow.holds Try.pinned (OpenSpec.ofChange greenInvertsSpec)

/-- ITS FALSE NEIGHBOUR: 'it returns false'. Refute it at one input. -/
def greenInvertsWrong : ChangeSpec := { name := "greenInverts", fn := fun _ => fun
  | [d1, d2] => { results := [.lit (.bool false)], args := [d1, d2] }
  | _ => none }
def GreenInvertsWrongFalsely : Prop := greenInvertsRow.holds Try.pinned (OpenSpec.ofChange greenInvertsWrong)

/-- 'semigrouplaw15.GreenBoxes': WHATEVER THE INPUT: true; the input reads as it did. -/
def greenBoxesSpec : ChangeSpec := { name := "greenBoxes", fn := fun _ => fun
  | [d1, d2] => { results := [.lit (.bool true)], args := [d1, d2] }
  | _ => none }
def greenBoxesRow : OpenClaim := { program := "ytmdndoghdbhipaa", sum := "47a71476afdca97a5bb943f3cce113de8fec14391816a471a26708f5575ab527", func := "semigroup/semigrouplaw15.GreenBoxes", spec := "greenBoxes", apart := false }
def GreenBoxesSaid : Prop := greenBoxesRow.holds Try.pinned (OpenSpec.ofChange greenBoxesSpec)

/-- ITS FALSE NEIGHBOUR: 'it returns false'. Refute it at one input. -/
def greenBoxesWrong : ChangeSpec := { name := "greenBoxes", fn := fun _ => fun
  | [d1, d2] => { results := [.lit (.bool false)], args := [d1, d2] }
  | _ => none }
def GreenBoxesWrongFalsely : Prop := greenBoxesRow.holds Try.pinned (OpenSpec.ofChange greenBoxesWrong)

/-- 'semigrouplaw15.GreenCells': WHATEVER THE INPUT: true; the input reads as it did. -/
def greenCellsSpec : ChangeSpec := { name := "greenCells", fn := fun _ => fun
  | [d] => { results := [.lit (.bool true)], args := [d] }
  | _ => none }
def greenCellsRow : OpenClaim := { program := "ytmdndoghdbhipaa", sum := "47a71476afdca97a5bb943f3cce113de8fec14391816a471a26708f5575ab527", func := "semigroup/semigrouplaw15.GreenCells", spec := "greenCells", apart := false }
def GreenCellsSaid : Prop := greenCellsRow.holds Try.pinned (OpenSpec.ofChange greenCellsSpec)

/-- ITS FALSE NEIGHBOUR: 'it returns false'. Refute it at one input. -/
def greenCellsWrong : ChangeSpec := { name := "greenCells", fn := fun _ => fun
  | [d] => { results := [.lit (.bool false)], args := [d] }
  | _ => none }
def GreenCellsWrongFalsely : Prop := greenCellsRow.holds Try.pinned (OpenSpec.ofChange greenCellsWrong)

/- THE SECOND FORM. 'bulk': how many values and letters a reading holds, each counted each time it is reached (what is shared counts as often as it is met; a slice's spare places count too). A statement '..UptoSaid' is the law's where the arguments, and the package variables that the reading takes, are together of bulk at most 1048576: NARROWER than '..Said'. Prove '..Said' where nothing that the law and all that it calls make is longer than what came in: it says more and counts as full. Else prove '..UptoSaid'. A law counts once. -/
mutual
def uptoBulk {H : Type} : DataW H → Nat
  | .lit (.string bytes) => bytes.length + 1
  | .lit _ => 1
  | .nil => 1
  | .ptr d => uptoBulk d + 1
  | .slice elems spare => uptoBulkAll elems + uptoBulkAll spare + 1
  | .agg parts => uptoBulkAll parts + 1
  | .iface _ d => uptoBulk d + 1
  | .map entries => uptoBulkEntries entries + 1
  | .held _ => 1
def uptoBulkAll {H : Type} : List (DataW H) → Nat
  | [] => 0
  | d :: r => uptoBulk d + uptoBulkAll r
def uptoBulkEntries {H : Type} : List (Lit × DataW H) → Nat
  | [] => 0
  | x :: r => uptoBulkEntry x + uptoBulkEntries r
def uptoBulkEntry {H : Type} : Lit × DataW H → Nat
  | (.string bytes, d) => bytes.length + uptoBulk d + 1
  | (_, d) => uptoBulk d + 1
 end
def uptoSmall : (H : Type) → List (DataW H) → Bool := fun _ ds => decide (uptoBulkAll ds ≤ 1048576)
def OpenSpec.upto (s : _root_.Go.ChangeSpec) : _root_.Go.OpenSpec := { _root_.Go.OpenSpec.ofChange s with cond := some uptoSmall }

/-- 'semigrouplaw15.GreenClasses', WHERE WHAT IT READS IS OF BULK AT MOST 1048576: true; the input reads as it did. -/
def greenClassesUptoRow : OpenClaim := { program := "ytmdndoghdbhipaa", sum := "47a71476afdca97a5bb943f3cce113de8fec14391816a471a26708f5575ab527", func := "semigroup/semigrouplaw15.GreenClasses", spec := "greenClasses", apart := false, narrowed := true }
def GreenClassesUptoSaid : Prop := greenClassesUptoRow.holds Try.pinned (OpenSpec.upto greenClassesSpec)

/-- 'semigrouplaw15.GreenStable', WHERE WHAT IT READS IS OF BULK AT MOST 1048576: true; the input reads as it did. -/
def greenStableUptoRow : OpenClaim := { program := "ytmdndoghdbhipaa", sum := "47a71476afdca97a5bb943f3cce113de8fec14391816a471a26708f5575ab527", func := "semigroup/semigrouplaw15.GreenStable", spec := "greenStable", apart := false, narrowed := true }
def GreenStableUptoSaid : Prop := greenStableUptoRow.holds Try.pinned (OpenSpec.upto greenStableSpec)

/-- 'semigrouplaw15.GreenHeights', WHERE WHAT IT READS IS OF BULK AT MOST 1048576: true; the input reads as it did. -/
def greenHeightsUptoRow : OpenClaim := { program := "ytmdndoghdbhipaa", sum := "47a71476afdca97a5bb943f3cce113de8fec14391816a471a26708f5575ab527", func := "semigroup/semigrouplaw15.GreenHeights", spec := "greenHeights", apart := false, narrowed := true }
def GreenHeightsUptoSaid : Prop := greenHeightsUptoRow.holds Try.pinned (OpenSpec.upto greenHeightsSpec)

/-- 'semigrouplaw15.GreenBelow', WHERE WHAT IT READS IS OF BULK AT MOST 1048576: true; the input reads as it did. -/
def greenBelowUptoRow : OpenClaim := { program := "ytmdndoghdbhipaa", sum := "47a71476afdca97a5bb943f3cce113de8fec14391816a471a26708f5575ab527", func := "semigroup/semigrouplaw15.GreenBelow", spec := "greenBelow", unfollowed := true, recurses := true, apart := false, narrowed := true }
def GreenBelowUptoSaid : Prop := greenBelowUptoRow.holds Try.pinned (OpenSpec.upto greenBelowSpec)

/-- 'semigrouplaw15.GreenOrders', WHERE WHAT IT READS IS OF BULK AT MOST 1048576: true; the input reads as it did. -/
def greenOrdersUptoRow : OpenClaim := { program := "ytmdndoghdbhipaa", sum := "47a71476afdca97a5bb943f3cce113de8fec14391816a471a26708f5575ab527", func := "semigroup/semigrouplaw15.GreenOrders", spec := "greenOrders", unfollowed := true, recurses := true, apart := false, narrowed := true }
def GreenOrdersUptoSaid : Prop := greenOrdersUptoRow.holds Try.pinned (OpenSpec.upto greenOrdersSpec)

/-- 'semigrouplaw15.GreenMirrors', WHERE WHAT IT READS IS OF BULK AT MOST 1048576: true; the input reads as it did. -/
def greenMirrorsUptoRow : OpenClaim := { program := "ytmdndoghdbhipaa", sum := "47a71476afdca97a5bb943f3cce113de8fec14391816a471a26708f5575ab527", func := "semigroup/semigrouplaw15.GreenMirrors", spec := "greenMirrors", apart := false, narrowed := true }
def GreenMirrorsUptoSaid : Prop := greenMirrorsUptoRow.holds Try.pinned (OpenSpec.upto greenMirrorsSpec)

/-- 'semigrouplaw15.GreenRegular', WHERE WHAT IT READS IS OF BULK AT MOST 1048576: true; the input reads as it did. -/
def greenRegularUptoRow : OpenClaim := { program := "ytmdndoghdbhipaa", sum := "47a71476afdca97a5bb943f3cce113de8fec14391816a471a26708f5575ab527", func := "semigroup/semigrouplaw15.GreenRegular", spec := "greenRegular", apart := false, narrowed := true }
def GreenRegularUptoSaid : Prop := greenRegularUptoRow.holds Try.pinned (OpenSpec.upto greenRegularSpec)

/-- 'semigrouplaw15.GreenInverts', WHERE WHAT IT READS IS OF BULK AT MOST 1048576: true; the input reads as it did. -/
def greenInvertsUptoRow : OpenClaim := { program := "ytmdndoghdbhipaa", sum := "47a71476afdca97a5bb943f3cce113de8fec14391816a471a26708f5575ab527", func := "semigroup/semigrouplaw15.GreenInverts", spec := "greenInverts", apart := false, narrowed := true }
def GreenInvertsUptoSaid : Prop := greenInvertsUptoRow.holds Try.pinned (OpenSpec.upto greenInvertsSpec)

/-- 'semigrouplaw15.GreenBoxes', WHERE WHAT IT READS IS OF BULK AT MOST 1048576: true; the input reads as it did. -/
def greenBoxesUptoRow : OpenClaim := { program := "ytmdndoghdbhipaa", sum := "47a71476afdca97a5bb943f3cce113de8fec14391816a471a26708f5575ab527", func := "semigroup/semigrouplaw15.GreenBoxes", spec := "greenBoxes", apart := false, narrowed := true }
def GreenBoxesUptoSaid : Prop := greenBoxesUptoRow.holds Try.pinned (OpenSpec.upto greenBoxesSpec)

/-- 'semigrouplaw15.GreenCells', WHERE WHAT IT READS IS OF BULK AT MOST 1048576: true; the input reads as it did. -/
def greenCellsUptoRow : OpenClaim := { program := "ytmdndoghdbhipaa", sum := "47a71476afdca97a5bb943f3cce113de8fec14391816a471a26708f5575ab527", func := "semigroup/semigrouplaw15.GreenCells", spec := "greenCells", apart := false, narrowed := true }
def GreenCellsUptoSaid : Prop := greenCellsUptoRow.holds Try.pinned (OpenSpec.upto greenCellsSpec)

end Rows
end Go.Proofs.Ytmdndoghdbhipaa
