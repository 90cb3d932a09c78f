/- What the printed functions on special elements answer (identity, zero, idempotents), Same and In. No condition but that tables come in. -/
import Derived.Test.YtlhckcldeojfmaaKMultBasisBase2
import Derived.Test.YtlhckcldeojfmaaKMultBasisF14a
import Derived.Test.YtlhckcldeojfmaaKMultBasisP3
namespace Go.Proofs.Ytlhckcldeojfmaa.F
open Go.RowKit Go.Proofs.YtlhckcldeojfmaaW.PrintWords Go.Proofs.Ytlhckcldeojfmaa.B Go.Proofs.Ytlhckcldeojfmaa.PAll
set_option linter.unusedVariables false
set_option linter.unusedSimpArgs false

theorem va_of {t : List (List Int)} (h : val t = 0) : Va t := val_va.1 h
theorem semigroupref14_Validate_ev {t : List (List Int)} (ht : In2 t) : Ev (fun k => semigroupref14_Validate.f k t) (val t) := by
  unfold semigroupref14_Validate.f
  exact ev_call (semigroupref14_Associative_ev ht) (ev_some (asc4_val t))
theorem semigroupref14_Valid_ev {t : List (List Int)} (ht : In2 t) : Ev (fun k => semigroupref14_Valid.f k t) (val t == 0) := by
  unfold semigroupref14_Valid.f
  exact ev_call (semigroupref14_Validate_ev ht) (ev_some rfl)
theorem semigroupref03_Same_ev {l : List Int} (hl : l.length ≤ 9223372036854775807) : Ev (fun k => semigroupref03_Same.f k l l) true := by
  unfold semigroupref03_Same.f
  refine ev_pos rfl ?_
  refine ev_for0 (g := fun i k => semigroupref03_Same.l0 k l l (l.length : Int) i) (l.length : Int) (fun _ => True) ?_ ?_ 0 (by omega) (by omega) trivial
  · intro i hi0 hi1 _
    right
    refine ⟨trivial, fun H => ?_⟩
    apply ev_succ
    simp only [semigroupref03_Same.l0]
    rw [wrap_add hi0 hi1 (by omega)]
    exact ev_pos hi1 (ev_pos hi0 (ev_pos hi1 (ev_pos hi1 (ev_pos (by first | rfl | trivial) H))))
  · intro _
    apply ev_succ
    simp only [semigroupref03_Same.l0]
    exact ev_neg (by omega) (ev_some rfl)
end Go.Proofs.Ytlhckcldeojfmaa.F
