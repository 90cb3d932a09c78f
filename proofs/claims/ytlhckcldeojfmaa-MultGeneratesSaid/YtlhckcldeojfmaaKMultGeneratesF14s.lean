/- What the printed comparison of tables answers of a table and itself. No condition but that it comes in. -/
import Derived.Test.YtlhckcldeojfmaaKMultGeneratesTab
import Derived.Test.YtlhckcldeojfmaaKMultGeneratesF14b
import Derived.Test.YtlhckcldeojfmaaKMultGeneratesP3
namespace Go.Proofs.Ytlhckcldeojfmaa.F
open Go.RowKit Go.Proofs.YtlhckcldeojfmaaW.PrintWords Go.Proofs.Ytlhckcldeojfmaa.B Go.Proofs.Ytlhckcldeojfmaa.PAll
set_option linter.unusedVariables false
set_option linter.unusedSimpArgs false

theorem semigroupref03_SameRows_ev {l : List (List Int)} (hl : In2 l ∨ ∃ n, n ≤ 9223372036854775807 ∧ l.length ≤ 9223372036854775807 ∧ ∀ x : Int, 0 ≤ x → x < (l.length : Int) → (R l x).length ≤ n) : Ev (fun k => semigroupref03_SameRows.f k l l) true := by
  have hlen : l.length ≤ 9223372036854775807 := by
    rcases hl with h | ⟨n, _, h, _⟩
    · exact h.1
    · exact h
  have hrow : ∀ x : Int, 0 ≤ x → x < (l.length : Int) → (R l x).length ≤ 9223372036854775807 := by
    rcases hl with h | ⟨n, hn, _, h⟩
    · exact fun x a b => h.row a b
    · exact fun x a b => Nat.le_trans (h x a b) hn
  unfold semigroupref03_SameRows.f
  refine ev_pos rfl ?_
  refine ev_for0 (g := fun i k => semigroupref03_SameRows.l0 k l l (l.length : Int) i) (l.length : Int) (fun _ => True) ?_ ?_ 0 (by omega) (by omega) trivial
  · intro i hi0 hi1 _
    right
    refine ⟨trivial, fun H => ?_⟩
    apply ev_succ
    simp only [semigroupref03_SameRows.l0, rdR]
    rw [wrap_add hi0 hi1 (by omega)]
    exact ev_pos hi1 (ev_pos hi0 (ev_pos hi1 (ev_pos hi1 (ev_call (semigroupref03_Same_ev (hrow i hi0 hi1)) (ev_pos rfl H)))))
  · intro _
    apply ev_succ
    simp only [semigroupref03_SameRows.l0]
    exact ev_neg (by omega) (ev_some rfl)
theorem tab_same (n : Nat) (hn : n ≤ 9223372036854775807) (f : Int → Int → Int) : Ev (fun k => semigroupref03_SameRows.f k (tab n f) (tab n f)) true :=
  semigroupref03_SameRows_ev (.inr ⟨n, hn, by rw [tab_len]; exact hn, fun x a b => by rw [tab_len] at b; rw [tab_row a b]; exact Nat.le_refl _⟩)
end Go.Proofs.Ytlhckcldeojfmaa.F
