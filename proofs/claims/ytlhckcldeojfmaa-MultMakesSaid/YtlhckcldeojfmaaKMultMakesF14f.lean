/- What the printed functions Opposite, Adjoin, Direct and those of the reference answer; Copy, SameRows, zeros. No condition but that tables come in. -/
import Derived.Test.YtlhckcldeojfmaaKMultMakesTab
import Derived.Test.YtlhckcldeojfmaaKMultMakesF14b
import Derived.Test.YtlhckcldeojfmaaKMultMakesP3
namespace Go.Proofs.Ytlhckcldeojfmaa.F
open Go.RowKit Go.Proofs.YtlhckcldeojfmaaW.PrintWords Go.Proofs.Ytlhckcldeojfmaa.B Go.Proofs.Ytlhckcldeojfmaa.PAll
set_option linter.unusedVariables false
set_option linter.unusedSimpArgs false

theorem mult_Opposite_ev {t : List (List Int)} (ht : In2 t) : Ev (fun k => mult_Opposite.f k t) (if val t = 0 then opp t else []) := by
  unfold mult_Opposite.f
  refine ev_call (mult_Validate_ev ht) ?_
  by_cases h : val t = 0
  · rw [if_pos h]
    have hs := (va_of h).toSq
    have hle := hs.le
    refine ev_pos h (ev_pos (by omega) (ev_pos (by omega) ?_))
    refine ev_fill (g0 := fun x out k => mult_Opposite.l0 k t out (t.length : Int) x) (g1 := fun x y out k => mult_Opposite.l1 k t out x (t.length : Int) x (t.length : Int) y) t.length (fun x y => M t y x) _ (by simp) ?_ ?_ ?_ ?_
    · intro x out hx0 hx1 hl hR
      refine ⟨out.set x.toNat (List.replicate ((t.length : Int)).toNat 0), by simpa using hl, fun x' a b c => by rw [R_set hx0 (by omega) a, if_neg c], by rw [R_set hx0 (by omega) hx0, if_pos rfl]; simp, fun H => ?_⟩
      apply ev_succ
      simp only [mult_Opposite.l0]
      exact ev_pos hx1 (ev_pos (by omega) (ev_pos (by omega) (ev_pos hx0 (ev_pos (by omega) H))))
    · intro x y out hx0 hx1 hy0 hy1 hl hr H
      have r1 := hs.row y hy0 hy1
      apply ev_succ
      simp only [mult_Opposite.l1, rdR, rdM]
      rw [wrap_add hy0 hy1 (by omega)]
      exact ev_pos hy1 (ev_pos hx0 (ev_pos (by omega) (ev_pos hy0 (ev_pos hy1 (ev_pos (by omega) (ev_pos (by omega) H))))))
    · intro x out hx0 hx1 hl H
      apply ev_succ
      simp only [mult_Opposite.l1]
      rw [wrap_add hx0 hx1 (by omega)]
      exact ev_neg (by omega) H
    · apply ev_succ
      simp only [mult_Opposite.l0]
      exact ev_neg (by omega) (ev_some rfl)
  · rw [if_neg h]
    exact ev_neg h (ev_some rfl)
theorem mult_Adjoin_ev {t : List (List Int)} (ht : In2 t) : Ev (fun k => mult_Adjoin.f k t) (if val t = 0 ∧ (t.length : Int) < 400 then adj t else []) := by
  have no : ∀ r, r = [] → Ev (fun k => mult_Adjoin.j0 k t true) r := by
    rintro r rfl
    apply ev_succ
    unfold mult_Adjoin.j0
    exact ev_pos rfl (ev_some rfl)
  unfold mult_Adjoin.f
  refine ev_call (mult_Validate_ev ht) ?_
  by_cases h : val t = 0
  · refine ev_pos h ?_
    by_cases h4 : (t.length : Int) ≥ 400
    · rw [if_neg (by omega)]
      simp only [h4, decide_true]
      exact no _ rfl
    rw [if_pos ⟨h, by omega⟩]
    simp only [h4, decide_false]
    have hs := (va_of h).toSq
    have hpos := hs.pos
    apply ev_succ
    simp only [mult_Adjoin.j0]
    rw [wrap_in (i := (t.length : Int) + 1) (by omega) (by omega)]
    refine ev_neg (by simp) (ev_pos (by omega) (ev_pos (by omega) (ev_call (ev_some rfl) ?_)))
    simp only [List.length_replicate]
    have hn : ((((t.length : Int) + 1).toNat : Nat) : Int) = ((t.length + 1 : Nat) : Int) := by omega
    rw [hn]
    refine ev_fill (g0 := fun x out k => mult_Adjoin.l0 k t (t.length : Int) out ((t.length + 1 : Nat) : Int) x) (g1 := fun x y out k => mult_Adjoin.l1 k t (t.length : Int) out x ((t.length + 1 : Nat) : Int) x ((t.length + 1 : Nat) : Int) y) (t.length + 1) (fun x y => if x = (t.length : Int) then y else if y = (t.length : Int) then x else M t x y) _ (by simp) ?_ ?_ ?_ ?_
    · intro x out hx0 hx1 hl hR
      have hrow : R (out.set x.toNat (List.replicate ((t.length : Int) + 1).toNat 0)) x = List.replicate ((t.length : Int) + 1).toNat 0 := by rw [R_set hx0 (by omega) hx0, if_pos rfl]
      refine ⟨out.set x.toNat (List.replicate ((t.length : Int) + 1).toNat 0), by simpa using hl, fun x' a b c => by rw [R_set hx0 (by omega) a, if_neg c], by rw [hrow]; simp, fun H => ?_⟩
      apply ev_succ
      simp only [mult_Adjoin.l0, rdR]
      rw [wrap_in (i := (t.length : Int) + 1) (by omega) (by omega)]
      refine ev_pos hx1 (ev_pos (by omega) (ev_pos (by omega) (ev_pos hx0 (ev_pos (by omega) (ev_call (ev_some rfl) ?_)))))
      rw [hrow, List.length_replicate, hn]
      exact H
    · intro x y out hx0 hx1 hy0 hy1 hl hr H
      apply ev_succ
      simp only [mult_Adjoin.l1, rdR, rdM]
      rw [wrap_add hy0 hy1 (by omega)]
      refine ev_pos hy1 (ev_ite (fun hx => ?_) (fun hx => ?_))
      · rw [if_pos hx] at H
        exact ev_pos hx0 (ev_pos (by omega) (ev_pos hy0 (ev_pos (by omega) H)))
      · rw [if_neg hx] at H
        have r1 := hs.row x hx0 (by omega)
        refine ev_ite (fun hy => ?_) (fun hy => ?_)
        · rw [if_pos hy] at H
          exact ev_pos hx0 (ev_pos (by omega) (ev_pos hy0 (ev_pos (by omega) H)))
        · rw [if_neg hy] at H
          exact ev_pos hx0 (ev_pos (by omega) (ev_pos (by omega) (ev_pos hy0 (ev_pos (by omega) (ev_pos (by omega) H)))))
    · intro x out hx0 hx1 hl H
      apply ev_succ
      simp only [mult_Adjoin.l1]
      rw [wrap_add hx0 hx1 (by omega)]
      exact ev_neg (by omega) H
    · apply ev_succ
      simp only [mult_Adjoin.l0]
      exact ev_neg (by omega) (ev_some rfl)
  · rw [if_neg (fun hh => h hh.1)]
    exact ev_neg h (no _ rfl)
theorem mult_Direct_ev {t u : List (List Int)} (ht : In2 t) (hu : In2 u) : Ev (fun k => mult_Direct.f k t u) (if val t = 0 ∧ val u = 0 ∧ t.length * u.length ≤ 400 then dir t u else []) := by
  have no : ∀ r, r = [] → Ev (fun k => mult_Direct.j0 k t u true) r := by
    rintro r rfl
    apply ev_succ
    unfold mult_Direct.j0
    exact ev_pos rfl (ev_some rfl)
  unfold mult_Direct.f
  refine ev_call (mult_Validate_ev ht) ?_
  by_cases h : val t = 0
  · refine ev_pos h (ev_call (mult_Validate_ev hu) ?_)
    by_cases h2 : val u = 0
    · refine ev_pos h2 ?_
      have hs := (va_of h).toSq
      have hsu := (va_of h2).toSq
      have hle := hs.le
      have hle2 := hsu.le
      have hpos := hs.pos
      have hpos2 := hsu.pos
      have hmul : (t.length : Int) * (u.length : Int) = ((t.length * u.length : Nat) : Int) := (Int.natCast_mul _ _).symm
      have hb : t.length * u.length ≤ 400 * 400 := Nat.mul_le_mul (by omega) (by omega)
      have hp : 0 < t.length * u.length := Nat.mul_pos (by omega) (by omega)
      rw [wrap_in (i := (t.length : Int) * (u.length : Int)) (by omega) (by omega), hmul]
      generalize hN : t.length * u.length = N at *
      by_cases h4 : (N : Int) > 400
      · rw [if_neg (by omega)]
        simp only [h4, decide_true]
        exact no _ rfl
      rw [if_pos ⟨h, h2, by omega⟩]
      simp only [h4, decide_false]
      apply ev_succ
      simp only [mult_Direct.j0]
      rw [wrap_in (i := (t.length : Int) * (u.length : Int)) (by omega) (by omega), hmul]
      refine ev_neg (by simp) (ev_pos (by omega) (ev_pos (by omega) (ev_call (ev_some rfl) ?_)))
      simp only [List.length_replicate]
      have hn : (((N : Int).toNat : Nat) : Int) = (N : Int) := by omega
      rw [hn]
      have hdir : dir t u = tab N fun x y => M t (x / (u.length : Int)) (y / (u.length : Int)) * (u.length : Int) + M u (x % (u.length : Int)) (y % (u.length : Int)) := by unfold dir; rw [hN]
      rw [hdir]
      refine ev_fill (g0 := fun x out k => mult_Direct.l0 k t u (u.length : Int) out (N : Int) x) (g1 := fun x y out k => mult_Direct.l1 k t u (u.length : Int) out x (N : Int) x (N : Int) y) N (fun x y => M t (x / (u.length : Int)) (y / (u.length : Int)) * (u.length : Int) + M u (x % (u.length : Int)) (y % (u.length : Int))) _ (by simp) ?_ ?_ ?_ ?_
      · intro x out hx0 hx1 hl hR
        refine ⟨out.set x.toNat (List.replicate ((out.length : Int)).toNat 0), by simpa using hl, fun x' a b c => by rw [R_set hx0 (by omega) a, if_neg c], by rw [R_set hx0 (by omega) hx0, if_pos rfl]; simpa using hl, fun H => ?_⟩
        apply ev_succ
        simp only [mult_Direct.l0]
        refine ev_pos hx1 (ev_pos (by omega) (ev_pos (by omega) (ev_pos hx0 (ev_pos (by omega) ?_))))
        have e : (out.length : Int) = N := by omega
        rw [e] at H ⊢
        exact H
      · intro x y out hx0 hx1 hy0 hy1 hl hr H
        rw [← hmul] at hx1 hy1
        obtain ⟨x0, x1, x2, x3, _⟩ := pair_of hx0 hx1 hpos2
        obtain ⟨y0, y1, y2, y3, _⟩ := pair_of hy0 hy1 hpos2
        have r1 := hs.row _ x0 x1
        have r2 := hsu.row _ x2 x3
        have m1 := hs.lo _ _ x0 x1 y0 y1
        have m2 := hs.hi _ _ x0 x1 y0 y1
        have m3 := hsu.lo _ _ x2 x3 y2 y3
        have m4 := hsu.hi _ _ x2 x3 y2 y3
        have pl := pair_lt m1 m2 m3 m4
        have pl2 : 0 ≤ M t (x / (u.length : Int)) (y / (u.length : Int)) * (u.length : Int) := Int.mul_nonneg m1 (by omega)
        apply ev_succ
        simp only [mult_Direct.l1, rdR]
        rw [Int.tdiv_eq_ediv_of_nonneg hx0, Int.tdiv_eq_ediv_of_nonneg hy0, Int.tmod_eq_emod_of_nonneg hx0, Int.tmod_eq_emod_of_nonneg hy0, wrap_in (i := x / (u.length : Int)) (by omega) (by omega), wrap_in (i := y / (u.length : Int)) (by omega) (by omega), wrap_add (n := (N : Int)) hy0 (by omega) (by omega)]
        simp only [rdM]
        rw [wrap_in (i := M t (x / (u.length : Int)) (y / (u.length : Int)) * (u.length : Int)) (by omega) (by omega), wrap_in (by omega) (by omega)]
        exact ev_pos (by omega) (ev_pos hx0 (ev_pos (by omega) (ev_neg (by omega) (ev_pos x0 (ev_pos x1 (ev_pos y0 (ev_pos (by omega) (ev_pos x2 (ev_pos x3 (ev_pos y2 (ev_pos (by omega) (ev_pos hy0 (ev_pos (by omega) H)))))))))))))
      · intro x out hx0 hx1 hl H
        apply ev_succ
        simp only [mult_Direct.l1]
        rw [wrap_add hx0 hx1 (by omega)]
        exact ev_neg (by omega) H
      · apply ev_succ
        simp only [mult_Direct.l0]
        exact ev_neg (by omega) (ev_some rfl)
    · rw [if_neg (fun hh => h2 hh.2.1)]
      exact ev_neg h2 (no _ rfl)
  · rw [if_neg (fun hh => h hh.1)]
    exact ev_neg h (no _ rfl)

theorem semigroupref03_SameRows_ev {l : List (List Int)} (hl : In2 l ∨ ∃ n, n ≤ 9223372036854775807 ∧ l.length ≤ 9223372036854775807 ∧ ∀ x : Int, 0 ≤ x → x < (l.length : Int) → (R l x).length ≤ n) : Ev (fun k => semigroupref03_SameRows.f k l l) true := by
  have hlen : l.length ≤ 9223372036854775807 := by
    rcases hl with h | ⟨n, _, h, _⟩
    · exact h.1
    · exact h
  have hrow : ∀ x : Int, 0 ≤ x → x < (l.length : Int) → (R l x).length ≤ 9223372036854775807 := by
    rcases hl with h | ⟨n, hn, _, h⟩
    · exact fun x a b => h.row a b
    · exact fun x a b => Nat.le_trans (h x a b) hn
  unfold semigroupref03_SameRows.f
  refine ev_pos rfl ?_
  refine ev_for0 (g := fun i k => semigroupref03_SameRows.l0 k l l (l.length : Int) i) (l.length : Int) (fun _ => True) ?_ ?_ 0 (by omega) (by omega) trivial
  · intro i hi0 hi1 _
    right
    refine ⟨trivial, fun H => ?_⟩
    apply ev_succ
    simp only [semigroupref03_SameRows.l0, rdR]
    rw [wrap_add hi0 hi1 (by omega)]
    exact ev_pos hi1 (ev_pos hi0 (ev_pos hi1 (ev_pos hi1 (ev_call (semigroupref03_Same_ev (hrow i hi0 hi1)) (ev_pos rfl H)))))
  · intro _
    apply ev_succ
    simp only [semigroupref03_SameRows.l0]
    exact ev_neg (by omega) (ev_some rfl)
theorem tab_same (n : Nat) (hn : n ≤ 9223372036854775807) (f : Int → Int → Int) : Ev (fun k => semigroupref03_SameRows.f k (tab n f) (tab n f)) true :=
  semigroupref03_SameRows_ev (.inr ⟨n, hn, by rw [tab_len]; exact hn, fun x a b => by rw [tab_len] at b; rw [tab_row a b]; exact Nat.le_refl _⟩)
theorem semigroupref03_Copy_ev {t : List (List Int)} (hl : (t.length : Int) ≤ 5864062014804) (hr : ∀ x : Int, 0 ≤ x → x < (t.length : Int) → (R t x).length < 17592186044416) : Ev (fun k => semigroupref03_Copy.f k t) t := by
  unfold semigroupref03_Copy.f
  refine ev_for (α := List (List Int)) (g := fun i l k => semigroupref03_Copy.l0 k l t (t.length : Int) i) (t.length : Int) (fun i l => (l.length : Int) = i ∧ ∀ x : Int, 0 ≤ x → x < i → R l x = R t x) ?_ ?_ 0 [] (by omega) (by omega) ⟨by simp, fun x a b => by omega⟩
  · intro i l hi0 hi1 ⟨h1, h2⟩
    right
    have := hr i hi0 hi1
    refine ⟨l ++ [[] ++ R t i], ⟨by simp; omega, fun x a b => ?_⟩, fun H => ?_⟩
    · rw [R_snoc a (by omega)]
      by_cases hx : x = (l.length : Int)
      · rw [if_pos hx, hx, h1]; simp
      · rw [if_neg hx]; exact h2 x a (by omega)
    · apply ev_succ
      simp only [semigroupref03_Copy.l0, rdR]
      rw [wrap_add hi0 hi1 (by omega)]
      exact ev_pos hi1 (ev_pos hi0 (ev_pos hi1 (ev_call (ev_some rfl) (ev_pos (by simpa using this) (ev_pos (by omega) H)))))
  · intro l ⟨h1, h2⟩
    apply ev_succ
    simp only [semigroupref03_Copy.l0]
    refine ev_neg (by omega) (ev_some ?_)
    exact R_ext (by omega) (fun x a b => h2 x a (by omega))
theorem copy_sq {t : List (List Int)} (hs : Sq t) : Ev (fun k => semigroupref03_Copy.f k t) t := by
  have := hs.le
  exact semigroupref03_Copy_ev (by omega) (fun x a b => by have := hs.row x a b; omega)
theorem semigroupref14_Opposite_ev {t : List (List Int)} (hs : Sq t) : Ev (fun k => semigroupref14_Opposite.f k t) (opp t) := by
  have hle := hs.le
  unfold semigroupref14_Opposite.f
  refine ev_call (copy_sq hs) ?_
  refine ev_fill (g0 := fun x out k => semigroupref14_Opposite.l0 k t out (t.length : Int) x) (g1 := fun x y out k => semigroupref14_Opposite.l1 k t out x (t.length : Int) x (t.length : Int) y) t.length (fun x y => M t y x) t rfl ?_ ?_ ?_ ?_
  · intro x out hx0 hx1 hl hR
    have r1 := hs.row x hx0 hx1
    refine ⟨out, hl, fun _ _ _ _ => rfl, by rw [hR]; omega, fun H => ?_⟩
    apply ev_succ
    simp only [semigroupref14_Opposite.l0]
    exact ev_pos hx1 H
  · intro x y out hx0 hx1 hy0 hy1 hl hr H
    have r1 := hs.row y hy0 hy1
    apply ev_succ
    simp only [semigroupref14_Opposite.l1, rdR, rdM]
    rw [wrap_add hy0 hy1 (by omega)]
    exact ev_pos hy1 (ev_pos hx0 (ev_pos (by omega) (ev_pos hy0 (ev_pos hy1 (ev_pos (by omega) (ev_pos (by omega) H))))))
  · intro x out hx0 hx1 hl H
    apply ev_succ
    simp only [semigroupref14_Opposite.l1]
    rw [wrap_add hx0 hx1 (by omega)]
    exact ev_neg (by omega) H
  · apply ev_succ
    simp only [semigroupref14_Opposite.l0]
    exact ev_neg (by omega) (ev_some rfl)
theorem semigroupref14_Adjoin_ev {t : List (List Int)} (hs : Sq t) : Ev (fun k => semigroupref14_Adjoin.f k t) (adj t) := by
  have hle := hs.le
  unfold semigroupref14_Adjoin.f
  refine ev_call (copy_sq hs) ?_
  refine ev_for (α := List (List Int) × List Int) (g := fun i s k => semigroupref14_Adjoin.l0 k t s.1 s.2 (t.length : Int) i) (t.length : Int)
    (fun i s => s.1.length = t.length ∧ (s.2.length : Int) = i ∧ (∀ x : Int, 0 ≤ x → x < i → rd s.2 x = x ∧ R s.1 x = R t x ++ [x]) ∧ ∀ x : Int, i ≤ x → x < (t.length : Int) → R s.1 x = R t x) ?_ ?_ 0 (t, []) (by omega) (by omega) ⟨rfl, by simp, fun x a b => by omega, fun _ _ _ => rfl⟩
  · intro i s hi0 hi1 ⟨h1, h2, h3, h4⟩
    right
    have hR := h4 i (Int.le_refl _) hi1
    have r1 := hs.row i hi0 hi1
    refine ⟨(s.1.set i.toNat (R s.1 i ++ [i]), s.2 ++ [i]), ⟨by simpa using h1, by simp; omega, fun x a b => ⟨?_, ?_⟩, fun x a b => ?_⟩, fun H => ?_⟩
    · rw [rd_snoc a (by omega)]
      by_cases hx : x = (s.2.length : Int)
      · rw [if_pos hx]; omega
      · rw [if_neg hx]; exact (h3 x a (by omega)).1
    · rw [R_set hi0 (by omega) a]
      by_cases hx : x = i
      · rw [if_pos hx, hR, hx]
      · rw [if_neg hx]; exact (h3 x a (by omega)).2
    · rw [R_set hi0 (by omega) (by omega), if_neg (by omega)]; exact h4 x (by omega) b
    · apply ev_succ
      simp only [semigroupref14_Adjoin.l0, rdR]
      rw [wrap_add hi0 hi1 (by omega)]
      exact ev_pos hi1 (ev_pos hi0 (ev_pos (by omega) (ev_pos (by rw [hR]; omega) (ev_pos (by omega) H))))
  · intro s ⟨h1, h2, h3, h4⟩
    apply ev_succ
    simp only [semigroupref14_Adjoin.l0]
    refine ev_neg (by omega) (ev_pos (by omega) (ev_pos (by omega) (ev_some ?_)))
    have hRow : ∀ x : Int, 0 ≤ x → x < ((t.length + 1 : Nat) : Int) → R (s.1 ++ [s.2 ++ [(t.length : Int)]]) x = if x = (t.length : Int) then s.2 ++ [(t.length : Int)] else R t x ++ [x] := by
      intro x a b
      rw [R_snoc a (by omega)]
      by_cases hx : x = (t.length : Int)
      · rw [if_pos (by omega), if_pos hx]
      · rw [if_neg (by omega), if_neg hx]; exact (h3 x a (by omega)).2
    refine tab_eq (by simp; omega) (fun x a b => ?_) (fun x y a b c d => ?_)
    · rw [hRow x a b]
      split
      · simp; omega
      · have := hs.row x a (by omega)
        simp; omega
    · show rd (R _ x) y = _
      rw [hRow x a b]
      by_cases hx : x = (t.length : Int)
      · rw [if_pos hx, if_pos hx, rd_snoc c (by omega)]
        by_cases hy : y = (s.2.length : Int)
        · rw [if_pos hy]; omega
        · rw [if_neg hy]; exact (h3 y c (by omega)).1
      · rw [if_neg hx, if_neg hx]
        have := hs.row x a (by omega)
        rw [rd_snoc c (by omega)]
        by_cases hy : y = (t.length : Int)
        · rw [if_pos hy, if_pos (by omega)]
        · rw [if_neg hy, if_neg (by omega)]; rfl
/-- Rows that are appended one by one. -/
theorem semigroupref14_Direct_ev {t u : List (List Int)} (hs : Sq t) (hu : Sq u) : Ev (fun k => semigroupref14_Direct.f k t u) (dir t u) := by
  have hle := hs.le
  have hle2 := hu.le
  have hpos := hs.pos
  have hpos2 := hu.pos
  have hmul : (t.length : Int) * (u.length : Int) = ((t.length * u.length : Nat) : Int) := (Int.natCast_mul _ _).symm
  have hb : t.length * u.length ≤ 400 * 400 := Nat.mul_le_mul (by omega) (by omega)
  unfold semigroupref14_Direct.f dir
  -- what one entry is
  let f : Int → Int → Int := fun x y => M t (x / (u.length : Int)) (y / (u.length : Int)) * (u.length : Int) + M u (x % (u.length : Int)) (y % (u.length : Int))
  show Ev _ (tab (t.length * u.length) f)
  have hf : ∀ x y v w : Int, 0 ≤ y → y < (u.length : Int) → 0 ≤ w → w < (u.length : Int) → f (x * (u.length : Int) + y) (v * (u.length : Int) + w) = M t x v * (u.length : Int) + M u y w := by
    intro x y v w y0 y1 w0 w1
    have p1 := pair_div (a := x) y0 y1
    have p2 := pair_div (a := v) w0 w1
    simp only [f, p1.1, p1.2, p2.1, p2.2]
  -- done: the first m rows; row: the first m entries of row i
  have grow : ∀ a b n : Int, 0 ≤ a → a < n → 0 ≤ b → b < (u.length : Int) → a * (u.length : Int) + b < n * (u.length : Int) ∧ 0 ≤ a * (u.length : Int) := fun a b n a0 a1 b0 b1 => ⟨(pair_lt a0 a1 b0 b1).2, Int.mul_nonneg a0 (by omega)⟩
  refine ev_for (α := List (List Int)) (g := fun x out k => semigroupref14_Direct.l0 k t u out (t.length : Int) x) (t.length : Int)
    (fun x out => (out.length : Int) = x * (u.length : Int) ∧ ∀ i : Int, 0 ≤ i → i < (out.length : Int) → (R out i).length = t.length * u.length ∧ ∀ j : Int, 0 ≤ j → j < ((t.length * u.length : Nat) : Int) → M out i j = f i j) ?_ ?_ 0 [] (by omega) (by omega) ⟨by simp, fun i a b => by simp at b; omega⟩
  · intro x out hx0 hx1 ⟨i1, i2⟩
    refine Classical.byContradiction fun hno => hno (.inl ?_)
    apply ev_succ
    simp only [semigroupref14_Direct.l0]
    refine ev_pos hx1 ?_
    refine ev_for (α := List (List Int)) (g := fun y out k => semigroupref14_Direct.l1 k t u out x (t.length : Int) x (u.length : Int) y) (u.length : Int)
      (fun y out => (out.length : Int) = x * (u.length : Int) + y ∧ ∀ i : Int, 0 ≤ i → i < (out.length : Int) → (R out i).length = t.length * u.length ∧ ∀ j : Int, 0 ≤ j → j < ((t.length * u.length : Nat) : Int) → M out i j = f i j) ?_ ?_ 0 out (by omega) (by omega) ⟨by omega, i2⟩
    · intro y out hy0 hy1 ⟨i1, i2⟩
      refine Classical.byContradiction fun hno2 => hno2 (.inl ?_)
      have hg := grow x y (t.length : Int) hx0 hx1 hy0 hy1
      apply ev_succ
      simp only [semigroupref14_Direct.l1]
      refine ev_pos hy1 ?_
      refine ev_for (α := List Int) (g := fun v row k => semigroupref14_Direct.l2 k t u out x y row (t.length : Int) x (u.length : Int) y (t.length : Int) v) (t.length : Int)
        (fun v row => (row.length : Int) = v * (u.length : Int) ∧ ∀ j : Int, 0 ≤ j → j < (row.length : Int) → rd row j = f (x * (u.length : Int) + y) j) ?_ ?_ 0 [] (by omega) (by omega) ⟨by simp, fun i a b => by simp at b; omega⟩
      · intro v row hv0 hv1 ⟨j1, j2⟩
        refine Classical.byContradiction fun hno3 => hno3 (.inl ?_)
        apply ev_succ
        simp only [semigroupref14_Direct.l2]
        refine ev_pos hv1 ?_
        refine ev_for (α := List Int) (g := fun w row k => semigroupref14_Direct.l3 k t u out x y row v (t.length : Int) x (u.length : Int) y (t.length : Int) v (u.length : Int) w) (u.length : Int)
          (fun w row => (row.length : Int) = v * (u.length : Int) + w ∧ ∀ j : Int, 0 ≤ j → j < (row.length : Int) → rd row j = f (x * (u.length : Int) + y) j) ?_ ?_ 0 row (by omega) (by omega) ⟨by omega, j2⟩
        · intro w row hw0 hw1 ⟨j1, j2⟩
          right
          have hgv := grow v w (t.length : Int) hv0 hv1 hw0 hw1
          have r1 := hs.row x hx0 hx1
          have r2 := hu.row y hy0 hy1
          have m1 := hs.lo x v hx0 hx1 hv0 hv1
          have m2 := hs.hi x v hx0 hx1 hv0 hv1
          have m3 := hu.lo y w hy0 hy1 hw0 hw1
          have m4 := hu.hi y w hy0 hy1 hw0 hw1
          have hp := grow _ _ _ m1 m2 m3 m4
          refine ⟨row ++ [M t x v * (u.length : Int) + M u y w], ⟨by simp; omega, fun j a b => ?_⟩, fun H => ?_⟩
          · have hbl : j ≤ (row.length : Int) := by simp at b; omega
            rw [rd_snoc a hbl]
            by_cases hj : j = (row.length : Int)
            · rw [if_pos hj, hj, j1, hf x y v w hy0 hy1 hw0 hw1]
            · rw [if_neg hj]; exact j2 j a (by omega)
          · apply ev_succ
            simp only [semigroupref14_Direct.l3, rdR, rdM]
            rw [wrap_in (i := M t x v * (u.length : Int)) (by omega) (by omega), wrap_in (i := M t x v * (u.length : Int) + M u y w) (by omega) (by omega), wrap_add hw0 hw1 (by omega)]
            exact ev_pos hw1 (ev_pos hx0 (ev_pos hx1 (ev_pos hv0 (ev_pos (by omega) (ev_pos hy0 (ev_pos hy1 (ev_pos hw0 (ev_pos (by omega) (ev_pos (by omega) H)))))))))
        · intro row3 ⟨j1, j2⟩
          apply ev_succ
          simp only [semigroupref14_Direct.l3]
          rw [wrap_add hv0 hv1 (by omega)]
          refine ev_neg (by omega) ?_
          refine Classical.byContradiction fun hn => hno3 (.inr ⟨row3, ⟨by rw [Int.add_mul]; omega, j2⟩, fun H => absurd H hn⟩)
      · intro row2 ⟨j1, j2⟩
        apply ev_succ
        simp only [semigroupref14_Direct.l2]
        rw [wrap_add hy0 hy1 (by omega)]
        refine ev_neg (by omega) (ev_pos (by omega) ?_)
        refine Classical.byContradiction fun hn => hno2 (.inr ⟨out ++ [row2], ⟨by simp; omega, fun i a b => ?_⟩, fun H => absurd H hn⟩)
        have hbl : i ≤ (out.length : Int) := by simp at b; omega
        show (R _ i).length = _ ∧ ∀ j : Int, _ → _ → rd (R _ i) j = _
        rw [R_snoc a hbl]
        by_cases hi : i = (out.length : Int)
        · rw [if_pos hi]
          refine ⟨by omega, fun j c d => ?_⟩
          rw [j2 j c (by omega), hi, i1]
        · rw [if_neg hi]
          exact i2 i a (by omega)
    · intro out2 ⟨i1, i2⟩
      apply ev_succ
      simp only [semigroupref14_Direct.l1]
      rw [wrap_add hx0 hx1 (by omega)]
      refine ev_neg (by omega) ?_
      refine Classical.byContradiction fun hn => hno (.inr ⟨out2, ⟨by rw [Int.add_mul]; omega, i2⟩, fun H => absurd H hn⟩)
  · intro out ⟨i1, i2⟩
    apply ev_succ
    simp only [semigroupref14_Direct.l0]
    refine ev_neg (by omega) (ev_some ?_)
    exact tab_eq (by omega) (fun x a b => (i2 x a (by omega)).1) (fun x y a b c d => (i2 x a (by omega)).2 y c d)
theorem semigrouplaw14_zeros_ev {n : Nat} (hn : n ≤ 400) : Ev (fun k => semigrouplaw14_zeros.f k (n : Int)) (tab n fun _ _ => 0) := by
  unfold semigrouplaw14_zeros.f
  refine ev_for (α := List (List Int)) (g := fun i l k => semigrouplaw14_zeros.l0 k (n : Int) l i) (n : Int) (fun i l => (l.length : Int) = i ∧ ∀ x : Int, 0 ≤ x → x < i → R l x = List.replicate n 0) ?_ ?_ 0 [] (by omega) (by omega) ⟨by simp, fun x a b => by omega⟩
  · intro i l hi0 hi1 ⟨h1, h2⟩
    right
    refine ⟨l ++ [List.replicate ((n : Int)).toNat 0], ⟨by simp; omega, fun x a b => ?_⟩, fun H => ?_⟩
    · rw [R_snoc a (by omega)]
      by_cases hx : x = (l.length : Int)
      · rw [if_pos hx]; simp
      · rw [if_neg hx]; exact h2 x a (by omega)
    · apply ev_succ
      simp only [semigrouplaw14_zeros.l0]
      rw [wrap_add hi0 hi1 (by omega)]
      exact ev_pos hi1 (ev_pos (by omega) (ev_pos (by omega) (ev_pos (by omega) H)))
  · intro l ⟨h1, h2⟩
    apply ev_succ
    simp only [semigrouplaw14_zeros.l0]
    refine ev_neg (by omega) (ev_some ?_)
    refine tab_eq (by omega) (fun x a b => by rw [h2 x a b]; simp) (fun x y a b c d => ?_)
    show rd (R _ x) y = 0
    rw [h2 x a b, rd_rep c d]
end Go.Proofs.Ytlhckcldeojfmaa.F
