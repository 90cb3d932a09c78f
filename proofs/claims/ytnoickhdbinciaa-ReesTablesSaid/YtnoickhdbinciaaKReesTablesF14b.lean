/- What the printed functions on special elements answer (identity, zero, idempotents), Same and In. No condition but that tables come in. -/
import Derived.Test.YtnoickhdbinciaaKReesTablesBase2
import Derived.Test.YtnoickhdbinciaaKReesTablesF14a
import Derived.Test.YtnoickhdbinciaaKReesTablesP4
namespace Go.Proofs.Ytnoickhdbinciaa.F
open Go.RowKit Go.Proofs.YtnoickhdbinciaaW.PrintWords Go.Proofs.Ytnoickhdbinciaa.B Go.Proofs.Ytnoickhdbinciaa.PAll
set_option linter.unusedVariables false
set_option linter.unusedSimpArgs false

theorem semigroupref14_Identity_l0 {t : List (List Int)} (hs : Sq t) : Ev (fun k => semigroupref14_Identity.l0 k t (t.length : Int) 0) (idn t) := by
  have hle := hs.le
  have hpos := hs.pos
  have step : ∀ (e r : Int), 0 ≤ e → e < (t.length : Int) → (IsId t e → e = r) → (¬ IsId t e → Ev (fun k => semigroupref14_Identity.l0 k t (t.length : Int) (e + 1)) r) → Ev (fun k => semigroupref14_Identity.l0 k t (t.length : Int) e) r := by
    intro e r he0 he1 h1 h2
    have r1 := hs.row e he0 he1
    apply ev_succ
    simp only [semigroupref14_Identity.l0]
    refine ev_pos he1 ?_
    refine ev_all (g := fun y a k => semigroupref14_Identity.l1 k t e a (t.length : Int) e (t.length : Int) y) (t.length : Int) (fun y => M t e y = y ∧ M t y e = y) (by omega) ?_ ?_ ?_ ?_ ?_
    · intro y hy0 hy1 H
      apply ev_succ
      simp only [semigroupref14_Identity.l1]
      rw [wrap_add hy0 hy1 (by omega)]
      exact ev_pos hy1 (ev_neg (by simp) H)
    · intro y hy0 hy1 hp H
      have r2 := hs.row y hy0 hy1
      apply ev_succ
      simp only [semigroupref14_Identity.l1, rdR, rdM]
      rw [wrap_add hy0 hy1 (by omega)]
      refine ev_pos hy1 (ev_pos (by simp) (ev_pos he0 (ev_pos he1 (ev_pos hy0 (ev_pos (by omega) (ev_pos hp.1 (ev_pos hy1 (ev_pos (by omega) ?_))))))))
      rw [show (M t y e == y) = true by simp [hp.2]]
      exact H
    · intro y hy0 hy1 hp H
      have r2 := hs.row y hy0 hy1
      apply ev_succ
      simp only [semigroupref14_Identity.l1, rdR, rdM]
      rw [wrap_add hy0 hy1 (by omega)]
      refine ev_pos hy1 (ev_pos (by simp) (ev_pos he0 (ev_pos he1 (ev_pos hy0 (ev_pos (by omega) ?_)))))
      refine ev_ite (fun hq => ev_pos hy1 (ev_pos (by omega) ?_)) (fun _ => H)
      rw [show (M t y e == y) = false by simp; exact fun h => hp ⟨hq, h⟩]
      exact H
    · intro hall
      apply ev_succ
      simp only [semigroupref14_Identity.l1]
      exact ev_neg (by omega) (ev_pos (by simp) (ev_some (h1 hall)))
    · intro ⟨y, hy0, hy1, hp⟩
      apply ev_succ
      simp only [semigroupref14_Identity.l1]
      rw [wrap_add he0 he1 (by omega)]
      exact ev_neg (by omega) (ev_neg (by simp) (h2 (fun h => hp (h y hy0 hy1))))
  refine ev_first (g := fun e k => semigroupref14_Identity.l0 k t (t.length : Int) e) t.length (IsId t) ?_ ?_ ?_
  · intro e he0 he1 hp
    exact step e e he0 he1 (fun _ => rfl) (fun h => absurd hp h)
  · intro e r he0 he1 hp H
    exact step e r he0 he1 (fun h => absurd h hp) (fun _ => H)
  · apply ev_succ
    simp only [semigroupref14_Identity.l0]
    exact ev_neg (by omega) (ev_some rfl)
theorem va_of {t : List (List Int)} (h : val t = 0) : Va t := val_va.1 h
theorem semigroupref14_Identity_ev {t : List (List Int)} (hs : Sq t) : Ev (fun k => semigroupref14_Identity.f k t) (idn t) := by
  unfold semigroupref14_Identity.f
  exact semigroupref14_Identity_l0 hs
theorem semigroupref14_Validate_ev {t : List (List Int)} (ht : In2 t) : Ev (fun k => semigroupref14_Validate.f k t) (val t) := by
  unfold semigroupref14_Validate.f
  exact ev_call (semigroupref14_Associative_ev ht) (ev_some (asc4_val t))
theorem semigroupref14_Valid_ev {t : List (List Int)} (ht : In2 t) : Ev (fun k => semigroupref14_Valid.f k t) (val t == 0) := by
  unfold semigroupref14_Valid.f
  exact ev_call (semigroupref14_Validate_ev ht) (ev_some rfl)
theorem semigroupref03_Same_ev {l : List Int} (hl : l.length ≤ 9223372036854775807) : Ev (fun k => semigroupref03_Same.f k l l) true := by
  unfold semigroupref03_Same.f
  refine ev_pos rfl ?_
  refine ev_for0 (g := fun i k => semigroupref03_Same.l0 k l l (l.length : Int) i) (l.length : Int) (fun _ => True) ?_ ?_ 0 (by omega) (by omega) trivial
  · intro i hi0 hi1 _
    right
    refine ⟨trivial, fun H => ?_⟩
    apply ev_succ
    simp only [semigroupref03_Same.l0]
    rw [wrap_add hi0 hi1 (by omega)]
    exact ev_pos hi1 (ev_pos hi0 (ev_pos hi1 (ev_pos hi1 (ev_pos (by first | rfl | trivial) H))))
  · intro _
    apply ev_succ
    simp only [semigroupref03_Same.l0]
    exact ev_neg (by omega) (ev_some rfl)
end Go.Proofs.Ytnoickhdbinciaa.F
