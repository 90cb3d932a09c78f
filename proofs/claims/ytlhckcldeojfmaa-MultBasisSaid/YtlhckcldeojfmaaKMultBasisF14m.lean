/- What the printed list of members answers. No condition but that marks come in. -/
import Derived.Test.YtlhckcldeojfmaaKMultBasisLists
import Derived.Test.YtlhckcldeojfmaaKMultBasisBase2
import Derived.Test.YtlhckcldeojfmaaKMultBasisF14a
import Derived.Test.YtlhckcldeojfmaaKMultBasisP3
namespace Go.Proofs.Ytlhckcldeojfmaa.F
open Go.RowKit Go.Proofs.YtlhckcldeojfmaaW.PrintWords Go.Proofs.Ytlhckcldeojfmaa.B Go.Proofs.Ytlhckcldeojfmaa.PAll
set_option linter.unusedVariables false
set_option linter.unusedSimpArgs false

theorem semigroupref03_Members_ev {b : List Bool} (hb : b.length ≤ 17592186044416) : Ev (fun k => semigroupref03_Members.f k b) (sel (fun x => rdOf false b x = true) 0 b.length) := by
  unfold semigroupref03_Members.f
  refine ev_sel (g := fun x l k => semigroupref03_Members.l0 k l b (b.length : Int) x) (b.length : Int) (fun x => rdOf false b x = true) ?_ ?_ b.length rfl ?_
  · intro x l hx0 hx1 hl hp H
    apply ev_succ
    simp only [semigroupref03_Members.l0]
    rw [wrap_in (by omega) (by omega)]
    exact ev_pos hx1 (ev_pos hx0 (ev_pos hx1 (ev_pos hp (ev_pos (by omega) H))))
  · intro x l hx0 hx1 hp H
    apply ev_succ
    simp only [semigroupref03_Members.l0]
    rw [wrap_in (by omega) (by omega)]
    exact ev_pos hx1 (ev_pos hx0 (ev_pos hx1 (ev_neg hp H)))
  · apply ev_succ
    simp only [semigroupref03_Members.l0]
    exact ev_neg (by omega) (ev_some rfl)

end Go.Proofs.Ytlhckcldeojfmaa.F
