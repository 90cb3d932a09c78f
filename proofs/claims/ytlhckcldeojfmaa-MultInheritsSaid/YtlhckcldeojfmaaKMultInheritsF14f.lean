/- What the printed functions Opposite, Adjoin, Direct and those of the reference answer; Copy, SameRows, zeros. No condition but that tables come in. -/
import Derived.Test.YtlhckcldeojfmaaKMultInheritsTab
import Derived.Test.YtlhckcldeojfmaaKMultInheritsF14b
import Derived.Test.YtlhckcldeojfmaaKMultInheritsP3
namespace Go.Proofs.Ytlhckcldeojfmaa.F
open Go.RowKit Go.Proofs.YtlhckcldeojfmaaW.PrintWords Go.Proofs.Ytlhckcldeojfmaa.B Go.Proofs.Ytlhckcldeojfmaa.PAll
set_option linter.unusedVariables false
set_option linter.unusedSimpArgs false

theorem mult_Opposite_ev {t : List (List Int)} (ht : In2 t) : Ev (fun k => mult_Opposite.f k t) (if val t = 0 then opp t else []) := by
  unfold mult_Opposite.f
  refine ev_call (mult_Validate_ev ht) ?_
  by_cases h : val t = 0
  · rw [if_pos h]
    have hs := (va_of h).toSq
    have hle := hs.le
    refine ev_pos h (ev_pos (by omega) (ev_pos (by omega) ?_))
    refine ev_fill (g0 := fun x out k => mult_Opposite.l0 k t out (t.length : Int) x) (g1 := fun x y out k => mult_Opposite.l1 k t out x (t.length : Int) x (t.length : Int) y) t.length (fun x y => M t y x) _ (by simp) ?_ ?_ ?_ ?_
    · intro x out hx0 hx1 hl hR
      refine ⟨out.set x.toNat (List.replicate ((t.length : Int)).toNat 0), by simpa using hl, fun x' a b c => by rw [R_set hx0 (by omega) a, if_neg c], by rw [R_set hx0 (by omega) hx0, if_pos rfl]; simp, fun H => ?_⟩
      apply ev_succ
      simp only [mult_Opposite.l0]
      exact ev_pos hx1 (ev_pos (by omega) (ev_pos (by omega) (ev_pos hx0 (ev_pos (by omega) H))))
    · intro x y out hx0 hx1 hy0 hy1 hl hr H
      have r1 := hs.row y hy0 hy1
      apply ev_succ
      simp only [mult_Opposite.l1, rdR, rdM]
      rw [wrap_add hy0 hy1 (by omega)]
      exact ev_pos hy1 (ev_pos hx0 (ev_pos (by omega) (ev_pos hy0 (ev_pos hy1 (ev_pos (by omega) (ev_pos (by omega) H))))))
    · intro x out hx0 hx1 hl H
      apply ev_succ
      simp only [mult_Opposite.l1]
      rw [wrap_add hx0 hx1 (by omega)]
      exact ev_neg (by omega) H
    · apply ev_succ
      simp only [mult_Opposite.l0]
      exact ev_neg (by omega) (ev_some rfl)
  · rw [if_neg h]
    exact ev_neg h (ev_some rfl)
theorem mult_Adjoin_ev {t : List (List Int)} (ht : In2 t) : Ev (fun k => mult_Adjoin.f k t) (if val t = 0 ∧ (t.length : Int) < 400 then adj t else []) := by
  have no : ∀ r, r = [] → Ev (fun k => mult_Adjoin.j0 k t true) r := by
    rintro r rfl
    apply ev_succ
    unfold mult_Adjoin.j0
    exact ev_pos rfl (ev_some rfl)
  unfold mult_Adjoin.f
  refine ev_call (mult_Validate_ev ht) ?_
  by_cases h : val t = 0
  · refine ev_pos h ?_
    by_cases h4 : (t.length : Int) ≥ 400
    · rw [if_neg (by omega)]
      simp only [h4, decide_true]
      exact no _ rfl
    rw [if_pos ⟨h, by omega⟩]
    simp only [h4, decide_false]
    have hs := (va_of h).toSq
    have hpos := hs.pos
    apply ev_succ
    simp only [mult_Adjoin.j0]
    rw [wrap_in (i := (t.length : Int) + 1) (by omega) (by omega)]
    refine ev_neg (by simp) (ev_pos (by omega) (ev_pos (by omega) (ev_call (ev_some rfl) ?_)))
    simp only [List.length_replicate]
    have hn : ((((t.length : Int) + 1).toNat : Nat) : Int) = ((t.length + 1 : Nat) : Int) := by omega
    rw [hn]
    refine ev_fill (g0 := fun x out k => mult_Adjoin.l0 k t (t.length : Int) out ((t.length + 1 : Nat) : Int) x) (g1 := fun x y out k => mult_Adjoin.l1 k t (t.length : Int) out x ((t.length + 1 : Nat) : Int) x ((t.length + 1 : Nat) : Int) y) (t.length + 1) (fun x y => if x = (t.length : Int) then y else if y = (t.length : Int) then x else M t x y) _ (by simp) ?_ ?_ ?_ ?_
    · intro x out hx0 hx1 hl hR
      have hrow : R (out.set x.toNat (List.replicate ((t.length : Int) + 1).toNat 0)) x = List.replicate ((t.length : Int) + 1).toNat 0 := by rw [R_set hx0 (by omega) hx0, if_pos rfl]
      refine ⟨out.set x.toNat (List.replicate ((t.length : Int) + 1).toNat 0), by simpa using hl, fun x' a b c => by rw [R_set hx0 (by omega) a, if_neg c], by rw [hrow]; simp, fun H => ?_⟩
      apply ev_succ
      simp only [mult_Adjoin.l0, rdR]
      rw [wrap_in (i := (t.length : Int) + 1) (by omega) (by omega)]
      refine ev_pos hx1 (ev_pos (by omega) (ev_pos (by omega) (ev_pos hx0 (ev_pos (by omega) (ev_call (ev_some rfl) ?_)))))
      rw [hrow, List.length_replicate, hn]
      exact H
    · intro x y out hx0 hx1 hy0 hy1 hl hr H
      apply ev_succ
      simp only [mult_Adjoin.l1, rdR, rdM]
      rw [wrap_add hy0 hy1 (by omega)]
      refine ev_pos hy1 (ev_ite (fun hx => ?_) (fun hx => ?_))
      · rw [if_pos hx] at H
        exact ev_pos hx0 (ev_pos (by omega) (ev_pos hy0 (ev_pos (by omega) H)))
      · rw [if_neg hx] at H
        have r1 := hs.row x hx0 (by omega)
        refine ev_ite (fun hy => ?_) (fun hy => ?_)
        · rw [if_pos hy] at H
          exact ev_pos hx0 (ev_pos (by omega) (ev_pos hy0 (ev_pos (by omega) H)))
        · rw [if_neg hy] at H
          exact ev_pos hx0 (ev_pos (by omega) (ev_pos (by omega) (ev_pos hy0 (ev_pos (by omega) (ev_pos (by omega) H)))))
    · intro x out hx0 hx1 hl H
      apply ev_succ
      simp only [mult_Adjoin.l1]
      rw [wrap_add hx0 hx1 (by omega)]
      exact ev_neg (by omega) H
    · apply ev_succ
      simp only [mult_Adjoin.l0]
      exact ev_neg (by omega) (ev_some rfl)
  · rw [if_neg (fun hh => h hh.1)]
    exact ev_neg h (no _ rfl)
theorem mult_Direct_ev {t u : List (List Int)} (ht : In2 t) (hu : In2 u) : Ev (fun k => mult_Direct.f k t u) (if val t = 0 ∧ val u = 0 ∧ t.length * u.length ≤ 400 then dir t u else []) := by
  have no : ∀ r, r = [] → Ev (fun k => mult_Direct.j0 k t u true) r := by
    rintro r rfl
    apply ev_succ
    unfold mult_Direct.j0
    exact ev_pos rfl (ev_some rfl)
  unfold mult_Direct.f
  refine ev_call (mult_Validate_ev ht) ?_
  by_cases h : val t = 0
  · refine ev_pos h (ev_call (mult_Validate_ev hu) ?_)
    by_cases h2 : val u = 0
    · refine ev_pos h2 ?_
      have hs := (va_of h).toSq
      have hsu := (va_of h2).toSq
      have hle := hs.le
      have hle2 := hsu.le
      have hpos := hs.pos
      have hpos2 := hsu.pos
      have hmul : (t.length : Int) * (u.length : Int) = ((t.length * u.length : Nat) : Int) := (Int.natCast_mul _ _).symm
      have hb : t.length * u.length ≤ 400 * 400 := Nat.mul_le_mul (by omega) (by omega)
      have hp : 0 < t.length * u.length := Nat.mul_pos (by omega) (by omega)
      rw [wrap_in (i := (t.length : Int) * (u.length : Int)) (by omega) (by omega), hmul]
      generalize hN : t.length * u.length = N at *
      by_cases h4 : (N : Int) > 400
      · rw [if_neg (by omega)]
        simp only [h4, decide_true]
        exact no _ rfl
      rw [if_pos ⟨h, h2, by omega⟩]
      simp only [h4, decide_false]
      apply ev_succ
      simp only [mult_Direct.j0]
      rw [wrap_in (i := (t.length : Int) * (u.length : Int)) (by omega) (by omega), hmul]
      refine ev_neg (by simp) (ev_pos (by omega) (ev_pos (by omega) (ev_call (ev_some rfl) ?_)))
      simp only [List.length_replicate]
      have hn : (((N : Int).toNat : Nat) : Int) = (N : Int) := by omega
      rw [hn]
      have hdir : dir t u = tab N fun x y => M t (x / (u.length : Int)) (y / (u.length : Int)) * (u.length : Int) + M u (x % (u.length : Int)) (y % (u.length : Int)) := by unfold dir; rw [hN]
      rw [hdir]
      refine ev_fill (g0 := fun x out k => mult_Direct.l0 k t u (u.length : Int) out (N : Int) x) (g1 := fun x y out k => mult_Direct.l1 k t u (u.length : Int) out x (N : Int) x (N : Int) y) N (fun x y => M t (x / (u.length : Int)) (y / (u.length : Int)) * (u.length : Int) + M u (x % (u.length : Int)) (y % (u.length : Int))) _ (by simp) ?_ ?_ ?_ ?_
      · intro x out hx0 hx1 hl hR
        refine ⟨out.set x.toNat (List.replicate ((out.length : Int)).toNat 0), by simpa using hl, fun x' a b c => by rw [R_set hx0 (by omega) a, if_neg c], by rw [R_set hx0 (by omega) hx0, if_pos rfl]; simpa using hl, fun H => ?_⟩
        apply ev_succ
        simp only [mult_Direct.l0]
        refine ev_pos hx1 (ev_pos (by omega) (ev_pos (by omega) (ev_pos hx0 (ev_pos (by omega) ?_))))
        have e : (out.length : Int) = N := by omega
        rw [e] at H ⊢
        exact H
      · intro x y out hx0 hx1 hy0 hy1 hl hr H
        rw [← hmul] at hx1 hy1
        obtain ⟨x0, x1, x2, x3, _⟩ := pair_of hx0 hx1 hpos2
        obtain ⟨y0, y1, y2, y3, _⟩ := pair_of hy0 hy1 hpos2
        have r1 := hs.row _ x0 x1
        have r2 := hsu.row _ x2 x3
        have m1 := hs.lo _ _ x0 x1 y0 y1
        have m2 := hs.hi _ _ x0 x1 y0 y1
        have m3 := hsu.lo _ _ x2 x3 y2 y3
        have m4 := hsu.hi _ _ x2 x3 y2 y3
        have pl := pair_lt m1 m2 m3 m4
        have pl2 : 0 ≤ M t (x / (u.length : Int)) (y / (u.length : Int)) * (u.length : Int) := Int.mul_nonneg m1 (by omega)
        apply ev_succ
        simp only [mult_Direct.l1, rdR]
        rw [Int.tdiv_eq_ediv_of_nonneg hx0, Int.tdiv_eq_ediv_of_nonneg hy0, Int.tmod_eq_emod_of_nonneg hx0, Int.tmod_eq_emod_of_nonneg hy0, wrap_in (i := x / (u.length : Int)) (by omega) (by omega), wrap_in (i := y / (u.length : Int)) (by omega) (by omega), wrap_add (n := (N : Int)) hy0 (by omega) (by omega)]
        simp only [rdM]
        rw [wrap_in (i := M t (x / (u.length : Int)) (y / (u.length : Int)) * (u.length : Int)) (by omega) (by omega), wrap_in (by omega) (by omega)]
        exact ev_pos (by omega) (ev_pos hx0 (ev_pos (by omega) (ev_neg (by omega) (ev_pos x0 (ev_pos x1 (ev_pos y0 (ev_pos (by omega) (ev_pos x2 (ev_pos x3 (ev_pos y2 (ev_pos (by omega) (ev_pos hy0 (ev_pos (by omega) H)))))))))))))
      · intro x out hx0 hx1 hl H
        apply ev_succ
        simp only [mult_Direct.l1]
        rw [wrap_add hx0 hx1 (by omega)]
        exact ev_neg (by omega) H
      · apply ev_succ
        simp only [mult_Direct.l0]
        exact ev_neg (by omega) (ev_some rfl)
    · rw [if_neg (fun hh => h2 hh.2.1)]
      exact ev_neg h2 (no _ rfl)
  · rw [if_neg (fun hh => h hh.1)]
    exact ev_neg h (no _ rfl)

theorem semigroupref03_SameRows_ev {l : List (List Int)} (hl : In2 l ∨ ∃ n, n ≤ 9223372036854775807 ∧ l.length ≤ 9223372036854775807 ∧ ∀ x : Int, 0 ≤ x → x < (l.length : Int) → (R l x).length ≤ n) : Ev (fun k => semigroupref03_SameRows.f k l l) true := by
  have hlen : l.length ≤ 9223372036854775807 := by
    rcases hl with h | ⟨n, _, h, _⟩
    · exact h.1
    · exact h
  have hrow : ∀ x : Int, 0 ≤ x → x < (l.length : Int) → (R l x).length ≤ 9223372036854775807 := by
    rcases hl with h | ⟨n, hn, _, h⟩
    · exact fun x a b => h.row a b
    · exact fun x a b => Nat.le_trans (h x a b) hn
  unfold semigroupref03_SameRows.f
  refine ev_pos rfl ?_
  refine ev_for0 (g := fun i k => semigroupref03_SameRows.l0 k l l (l.length : Int) i) (l.length : Int) (fun _ => True) ?_ ?_ 0 (by omega) (by omega) trivial
  · intro i hi0 hi1 _
    right
    refine ⟨trivial, fun H => ?_⟩
    apply ev_succ
    simp only [semigroupref03_SameRows.l0, rdR]
    rw [wrap_add hi0 hi1 (by omega)]
    exact ev_pos hi1 (ev_pos hi0 (ev_pos hi1 (ev_pos hi1 (ev_call (semigroupref03_Same_ev (hrow i hi0 hi1)) (ev_pos rfl H)))))
  · intro _
    apply ev_succ
    simp only [semigroupref03_SameRows.l0]
    exact ev_neg (by omega) (ev_some rfl)
end Go.Proofs.Ytlhckcldeojfmaa.F
