/- Arguments that are slices (of slices) of whole numbers are opened as the printed functions' kinds. No condition. -/
import Derived.Deep.Slices
import Derived.Test.YtlhckcldeojfmaaWWords
namespace Go.Proofs.Ytlhckcldeojfmaa.Open
open Go.ChangeShapes Go.WideShapes Go.Deep Go.RowKit Go.Proofs.YtlhckcldeojfmaaW.PrintWords
set_option linter.unusedVariables false
section
variable {H : Type} {enc : TypeId × Value → H} {P : Program} {w : World} {base : Nat} {held : Bool}

/-- An element or an argument of type t opens as kind d, with Q. -/
def Opens (enc : TypeId × Value → H) (P : Program) (w : World) (base : Nat) (held : Bool) (t : TypeId) {α : Type} (d : Kd α) (Q : α → Prop) : Prop :=
  ∀ fuel cs x, DataW.trod enc P w base (fun _ => true) held fuel t cs = some x → ∃ v, d.K w v cs ∧ Q v

end
end Go.Proofs.Ytlhckcldeojfmaa.Open
