/- Rows compared, members; tables of Rees matrix semigroups, regularity. What they answer. No condition but that a structure comes in. -/
import Derived.Test.YtmdndoghdbhipaaRGreenInvertsF6
import Derived.Test.YtmdndoghdbhipaaAbAW
import Derived.Test.YtmdndoghdbhipaaAbM10
set_option linter.unusedVariables false
set_option linter.unusedSimpArgs false
namespace Go.Ab
open Go
theorem Mk.zero {P : List (List Int)} {m k : Int} (m0 : 0 ≤ m) (k0 : 0 ≤ k) : Mk P m k 0 0 (List.replicate m.toNat false) (List.replicate k.toNat false) := by
  refine ⟨by simp; omega, by simp; omega, fun i' a0 a1 => ?_, fun l' a0 a1 => ?_⟩
  · rw [rb_rep a0 (by omega)]
    simp only [Bool.false_eq_true, false_iff]
    rintro ⟨l', s1, s2, s3, s4, s5⟩
    omega
  · rw [rb_rep a0 (by omega)]
    simp only [Bool.false_eq_true, false_iff]
    rintro ⟨i', s1, s2, s3, s4, s5⟩
    omega
end Go.Ab
