/- What the printed functions shape, failing, Validate and Associative of layer 14 answer. No condition but that a table comes in. -/
import Derived.Test.YtlhckcldeojfmaaKMultNeedsBase
import Derived.Test.YtlhckcldeojfmaaKMultNeedsP2
namespace Go.Proofs.Ytlhckcldeojfmaa.F
open Go.RowKit Go.Proofs.YtlhckcldeojfmaaW.PrintWords Go.Proofs.Ytlhckcldeojfmaa.B Go.Proofs.Ytlhckcldeojfmaa.PAll
set_option linter.unusedVariables false
set_option linter.unusedSimpArgs false

theorem rdR (t : List (List Int)) (x : Int) : rd_L1 t x = R t x := rfl
theorem rdM (t : List (List Int)) (x y : Int) : rd (R t x) y = M t x y := rfl

theorem mult_shape_l1 {t : List (List Int)} (ht : In2 t) {x r : Int} (h0 : 0 ≤ x) (h1 : x < (t.length : Int)) 
    (hb : (∃ y, 0 ≤ y ∧ y < ((R t x).length : Int) ∧ (M t x y < 0 ∨ (t.length : Int) ≤ M t x y)) → r = 4)
    (hend : (∀ y, 0 ≤ y → y < ((R t x).length : Int) → ¬ (M t x y < 0 ∨ (t.length : Int) ≤ M t x y)) → Ev (fun k => mult_shape.l0 k t t (t.length : Int) (x + 1)) r) :
    Ev (fun k => mult_shape.l1 k t t (t.length : Int) x (R t x) ((R t x).length : Int) 0) r := by
  have hl := ht.row h0 h1
  refine ev_for0 (g := fun y k => mult_shape.l1 k t t (t.length : Int) x (R t x) ((R t x).length : Int) y) ((R t x).length : Int) (fun i => ∀ y, 0 ≤ y → y < i → ¬ (M t x y < 0 ∨ (t.length : Int) ≤ M t x y)) ?_ ?_ 0 (by omega) (by omega) (fun y a b => by omega)
  · intro y hy0 hy1 hi
    by_cases hbad : M t x y < 0 ∨ (t.length : Int) ≤ M t x y
    · left
      have hr := hb ⟨y, hy0, hy1, hbad⟩
      apply ev_succ
      simp only [mult_shape.l1, rdM]
      refine ev_pos hy1 (ev_pos hy0 (ev_pos hy1 (ev_ite (fun hlo => ev_some hr.symm) (fun hlo => ev_pos (by omega) (ev_some hr.symm)))))
    · right
      refine ⟨fun z hz0 hz1 => ?_, fun H => ?_⟩
      · by_cases hzx : z < y
        · exact hi z hz0 hzx
        · have : z = y := by omega
          rw [this]; exact hbad
      apply ev_succ
      simp only [mult_shape.l1, rdM]
      rw [wrap_add hy0 hy1 (by omega)]
      exact ev_pos hy1 (ev_pos hy0 (ev_pos hy1 (ev_neg (by omega) (ev_neg (by omega) H))))
  · intro hi
    apply ev_succ
    simp only [mult_shape.l1]
    rw [wrap_add h0 h1 (by have := ht.1; omega)]
    exact ev_neg (by omega) (hend hi)
open Classical in
theorem mult_shape_ev {t : List (List Int)} (ht : In2 t) : Ev (fun k => mult_shape.f k t) (shp t) := by
  unfold mult_shape.f shp
  refine ev_ite (fun h => ?_) (fun h => ?_)
  · rw [if_pos h]; exact ev_some rfl
  rw [if_neg h]
  refine ev_ite (fun h => ?_) (fun h2 => ?_)
  · rw [if_pos h]; exact ev_some rfl
  rw [if_neg h2]
  generalize hr : (if Bad t then (4 : Int) else 0) = r
  refine ev_for0 (g := fun x k => mult_shape.l0 k t t (t.length : Int) x) (t.length : Int) (fun i => ∀ x, 0 ≤ x → x < i → ¬ (((R t x).length : Int) ≠ (t.length : Int) ∨ ∃ y, 0 ≤ y ∧ y < ((R t x).length : Int) ∧ (M t x y < 0 ∨ (t.length : Int) ≤ M t x y))) ?_ ?_ 0 (by omega) (by omega) (fun x a b => by omega)
  · intro x hx0 hx1 hi
    by_cases hbad : ((R t x).length : Int) ≠ (t.length : Int) ∨ ∃ y, 0 ≤ y ∧ y < ((R t x).length : Int) ∧ (M t x y < 0 ∨ (t.length : Int) ≤ M t x y)
    · left
      have hr4 : (4 : Int) = r := by rw [← hr, if_pos ⟨x, hx0, hx1, hbad⟩]
      apply ev_succ
      simp only [mult_shape.l0, rdR]
      refine ev_pos hx1 (ev_pos hx0 (ev_pos hx1 (ev_ite (fun he => ?_) (fun _ => ev_some hr4))))
      rcases hbad with hbad | ⟨y, hy0, hy1, hbad⟩
      · exact absurd he hbad
      exact mult_shape_l1 ht hx0 hx1 (fun _ => hr4.symm) (fun hn => absurd hbad (hn y hy0 hy1))
    · right
      refine ⟨fun z hz0 hz1 => ?_, fun H => ?_⟩
      · by_cases hzx : z < x
        · exact hi z hz0 hzx
        · have : z = x := by omega
          rw [this]; exact hbad
      · apply ev_succ
        simp only [mult_shape.l0, rdR]
        have he : ((R t x).length : Int) = (t.length : Int) := Classical.byContradiction fun hn => hbad (.inl hn)
        exact ev_pos hx1 (ev_pos hx0 (ev_pos hx1 (ev_pos he (mult_shape_l1 ht hx0 hx1 (fun hy => absurd (.inr hy) hbad) (fun _ => H)))))
  · intro hi
    apply ev_succ
    simp only [mult_shape.l0]
    refine ev_neg (by omega) (ev_some ?_)
    rw [← hr, if_neg]
    rintro ⟨x, a, b, c⟩
    exact hi x a b c

theorem semigroupref14_Shape_l1 {t : List (List Int)} (ht : In2 t) {x r : Int} (h0 : 0 ≤ x) (h1 : x < (t.length : Int)) 
    (hb : (∃ y, 0 ≤ y ∧ y < ((R t x).length : Int) ∧ (M t x y < 0 ∨ (t.length : Int) ≤ M t x y)) → r = 4)
    (hend : (∀ y, 0 ≤ y → y < ((R t x).length : Int) → ¬ (M t x y < 0 ∨ (t.length : Int) ≤ M t x y)) → Ev (fun k => semigroupref14_Shape.l0 k t t (t.length : Int) (x + 1)) r) :
    Ev (fun k => semigroupref14_Shape.l1 k t t (t.length : Int) x (R t x) ((R t x).length : Int) 0) r := by
  have hl := ht.row h0 h1
  refine ev_for0 (g := fun y k => semigroupref14_Shape.l1 k t t (t.length : Int) x (R t x) ((R t x).length : Int) y) ((R t x).length : Int) (fun i => ∀ y, 0 ≤ y → y < i → ¬ (M t x y < 0 ∨ (t.length : Int) ≤ M t x y)) ?_ ?_ 0 (by omega) (by omega) (fun y a b => by omega)
  · intro y hy0 hy1 hi
    by_cases hbad : M t x y < 0 ∨ (t.length : Int) ≤ M t x y
    · left
      have hr := hb ⟨y, hy0, hy1, hbad⟩
      apply ev_succ
      simp only [semigroupref14_Shape.l1, rdM]
      refine ev_pos hy1 (ev_pos hy0 (ev_pos hy1 (ev_ite (fun hlo => ev_some hr.symm) (fun hlo => ev_pos (by omega) (ev_some hr.symm)))))
    · right
      refine ⟨fun z hz0 hz1 => ?_, fun H => ?_⟩
      · by_cases hzx : z < y
        · exact hi z hz0 hzx
        · have : z = y := by omega
          rw [this]; exact hbad
      apply ev_succ
      simp only [semigroupref14_Shape.l1, rdM]
      rw [wrap_add hy0 hy1 (by omega)]
      exact ev_pos hy1 (ev_pos hy0 (ev_pos hy1 (ev_neg (by omega) (ev_neg (by omega) H))))
  · intro hi
    apply ev_succ
    simp only [semigroupref14_Shape.l1]
    rw [wrap_add h0 h1 (by have := ht.1; omega)]
    exact ev_neg (by omega) (hend hi)
open Classical in
theorem semigroupref14_Shape_ev {t : List (List Int)} (ht : In2 t) : Ev (fun k => semigroupref14_Shape.f k t) (shp t) := by
  unfold semigroupref14_Shape.f shp
  refine ev_ite (fun h => ?_) (fun h => ?_)
  · rw [if_pos h]; exact ev_some rfl
  rw [if_neg h]
  refine ev_ite (fun h => ?_) (fun h2 => ?_)
  · rw [if_pos h]; exact ev_some rfl
  rw [if_neg h2]
  generalize hr : (if Bad t then (4 : Int) else 0) = r
  refine ev_for0 (g := fun x k => semigroupref14_Shape.l0 k t t (t.length : Int) x) (t.length : Int) (fun i => ∀ x, 0 ≤ x → x < i → ¬ (((R t x).length : Int) ≠ (t.length : Int) ∨ ∃ y, 0 ≤ y ∧ y < ((R t x).length : Int) ∧ (M t x y < 0 ∨ (t.length : Int) ≤ M t x y))) ?_ ?_ 0 (by omega) (by omega) (fun x a b => by omega)
  · intro x hx0 hx1 hi
    by_cases hbad : ((R t x).length : Int) ≠ (t.length : Int) ∨ ∃ y, 0 ≤ y ∧ y < ((R t x).length : Int) ∧ (M t x y < 0 ∨ (t.length : Int) ≤ M t x y)
    · left
      have hr4 : (4 : Int) = r := by rw [← hr, if_pos ⟨x, hx0, hx1, hbad⟩]
      apply ev_succ
      simp only [semigroupref14_Shape.l0, rdR]
      refine ev_pos hx1 (ev_pos hx0 (ev_pos hx1 (ev_ite (fun he => ?_) (fun _ => ev_some hr4))))
      rcases hbad with hbad | ⟨y, hy0, hy1, hbad⟩
      · exact absurd he hbad
      exact semigroupref14_Shape_l1 ht hx0 hx1 (fun _ => hr4.symm) (fun hn => absurd hbad (hn y hy0 hy1))
    · right
      refine ⟨fun z hz0 hz1 => ?_, fun H => ?_⟩
      · by_cases hzx : z < x
        · exact hi z hz0 hzx
        · have : z = x := by omega
          rw [this]; exact hbad
      · apply ev_succ
        simp only [semigroupref14_Shape.l0, rdR]
        have he : ((R t x).length : Int) = (t.length : Int) := Classical.byContradiction fun hn => hbad (.inl hn)
        exact ev_pos hx1 (ev_pos hx0 (ev_pos hx1 (ev_pos he (semigroupref14_Shape_l1 ht hx0 hx1 (fun hy => absurd (.inr hy) hbad) (fun _ => H)))))
  · intro hi
    apply ev_succ
    simp only [semigroupref14_Shape.l0]
    refine ev_neg (by omega) (ev_some ?_)
    rw [← hr, if_neg]
    rintro ⟨x, a, b, c⟩
    exact hi x a b c

theorem mult_failing_l2 {t : List (List Int)} (hs : Sq t) {x y : Int} (hx0 : 0 ≤ x) (hx1 : x < (t.length : Int)) (hy0 : 0 ≤ y) (hy1 : y < (t.length : Int)) {r : Int × Int × Int × Bool}
    (h : Ev (fun k => mult_failing.l1 k t x (t.length : Int) x (t.length : Int) (y + 1)) r) :
    Ev (fun k => mult_failing.l2 k t x y (t.length : Int) x (t.length : Int) y (t.length : Int) 0) ((fnd (fun z => if M t (M t x y) z = M t x (M t y z) then none else some (x, y, z)) 0 t.length).elim r (fun a => (a.1, a.2.1, a.2.2, true))) := by
  have hle := hs.le
  refine ev_fnd (g := fun z k => mult_failing.l2 k t x y (t.length : Int) x (t.length : Int) y (t.length : Int) z) (t.length : Int) ?_ ?_ 0 t.length (by omega) (by omega)
  · intro z r' hz0 hz1 H
    have a1 := hs.lo x y hx0 hx1 hy0 hy1
    have a2 := hs.hi x y hx0 hx1 hy0 hy1
    have a3 := hs.lo y z hy0 hy1 hz0 hz1
    have a4 := hs.hi y z hy0 hy1 hz0 hz1
    have r1 := hs.row x hx0 hx1
    have r2 := hs.row y hy0 hy1
    have r3 := hs.row (M t x y) a1 a2
    apply ev_succ
    simp only [mult_failing.l2, rdR, rdM]
    rw [wrap_add hz0 hz1 (by omega)]
    refine ev_pos hz1 (ev_pos hx0 (ev_pos hx1 (ev_pos hy0 (ev_pos (by omega) (ev_pos a1 (ev_pos a2 (ev_pos hz0 (ev_pos (by omega) (ev_pos hy1 (ev_pos (by omega) (ev_pos a3 (ev_pos (by omega) ?_))))))))))))
    by_cases he : M t (M t x y) z = M t x (M t y z)
    · rw [if_pos he]
      exact ev_pos he H
    · rw [if_neg he]
      exact ev_neg he (ev_some rfl)
  · apply ev_succ
    simp only [mult_failing.l2]
    rw [wrap_add hy0 hy1 (by omega)]
    exact ev_neg (by omega) h
theorem mult_failing_l0 {t : List (List Int)} (hs : Sq t) : Ev (fun k => mult_failing.l0 k t (t.length : Int) 0) ((tri t).elim (0, 0, 0, false) (fun a => (a.1, a.2.1, a.2.2, true))) := by
  have hle := hs.le
  refine ev_fnd (g := fun x k => mult_failing.l0 k t (t.length : Int) x) (t.length : Int) ?_ ?_ 0 t.length (by omega) (by omega)
  · intro x r' hx0 hx1 H
    apply ev_succ
    simp only [mult_failing.l0]
    refine ev_pos hx1 ?_
    refine ev_fnd (g := fun y k => mult_failing.l1 k t x (t.length : Int) x (t.length : Int) y) (t.length : Int) ?_ ?_ 0 t.length (by omega) (by omega)
    · intro y r' hy0 hy1 H
      apply ev_succ
      simp only [mult_failing.l1]
      exact ev_pos hy1 (mult_failing_l2 hs hx0 hx1 hy0 hy1 H)
    · apply ev_succ
      simp only [mult_failing.l1]
      rw [wrap_add hx0 hx1 (by omega)]
      exact ev_neg (by omega) H
  · apply ev_succ
    simp only [mult_failing.l0]
    exact ev_neg (by omega) (ev_some rfl)

theorem semigroupref14_Associative_l2 {t : List (List Int)} (hs : Sq t) {x y : Int} (hx0 : 0 ≤ x) (hx1 : x < (t.length : Int)) (hy0 : 0 ≤ y) (hy1 : y < (t.length : Int)) {r : Int × Int × Int × Int}
    (h : Ev (fun k => semigroupref14_Associative.l1 k t x (t.length : Int) x (t.length : Int) (y + 1)) r) :
    Ev (fun k => semigroupref14_Associative.l2 k t x y (t.length : Int) x (t.length : Int) y (t.length : Int) 0) ((fnd (fun z => if M t (M t x y) z = M t x (M t y z) then none else some (x, y, z)) 0 t.length).elim r (fun a => (a.1, a.2.1, a.2.2, 5))) := by
  have hle := hs.le
  refine ev_fnd (g := fun z k => semigroupref14_Associative.l2 k t x y (t.length : Int) x (t.length : Int) y (t.length : Int) z) (t.length : Int) ?_ ?_ 0 t.length (by omega) (by omega)
  · intro z r' hz0 hz1 H
    have a1 := hs.lo x y hx0 hx1 hy0 hy1
    have a2 := hs.hi x y hx0 hx1 hy0 hy1
    have a3 := hs.lo y z hy0 hy1 hz0 hz1
    have a4 := hs.hi y z hy0 hy1 hz0 hz1
    have r1 := hs.row x hx0 hx1
    have r2 := hs.row y hy0 hy1
    have r3 := hs.row (M t x y) a1 a2
    apply ev_succ
    simp only [semigroupref14_Associative.l2, rdR, rdM]
    rw [wrap_add hz0 hz1 (by omega)]
    refine ev_pos hz1 (ev_pos hx0 (ev_pos hx1 (ev_pos hy0 (ev_pos (by omega) (ev_pos a1 (ev_pos a2 (ev_pos hz0 (ev_pos (by omega) (ev_pos hy1 (ev_pos (by omega) (ev_pos a3 (ev_pos (by omega) ?_))))))))))))
    by_cases he : M t (M t x y) z = M t x (M t y z)
    · rw [if_pos he]
      exact ev_pos he H
    · rw [if_neg he]
      exact ev_neg he (ev_some rfl)
  · apply ev_succ
    simp only [semigroupref14_Associative.l2]
    rw [wrap_add hy0 hy1 (by omega)]
    exact ev_neg (by omega) h
theorem semigroupref14_Associative_l0 {t : List (List Int)} (hs : Sq t) : Ev (fun k => semigroupref14_Associative.l0 k t (t.length : Int) 0) ((tri t).elim (0, 0, 0, 0) (fun a => (a.1, a.2.1, a.2.2, 5))) := by
  have hle := hs.le
  refine ev_fnd (g := fun x k => semigroupref14_Associative.l0 k t (t.length : Int) x) (t.length : Int) ?_ ?_ 0 t.length (by omega) (by omega)
  · intro x r' hx0 hx1 H
    apply ev_succ
    simp only [semigroupref14_Associative.l0]
    refine ev_pos hx1 ?_
    refine ev_fnd (g := fun y k => semigroupref14_Associative.l1 k t x (t.length : Int) x (t.length : Int) y) (t.length : Int) ?_ ?_ 0 t.length (by omega) (by omega)
    · intro y r' hy0 hy1 H
      apply ev_succ
      simp only [semigroupref14_Associative.l1]
      exact ev_pos hy1 (semigroupref14_Associative_l2 hs hx0 hx1 hy0 hy1 H)
    · apply ev_succ
      simp only [semigroupref14_Associative.l1]
      rw [wrap_add hx0 hx1 (by omega)]
      exact ev_neg (by omega) H
  · apply ev_succ
    simp only [semigroupref14_Associative.l0]
    exact ev_neg (by omega) (ev_some rfl)

theorem mult_Validate_ev {t : List (List Int)} (ht : In2 t) : Ev (fun k => mult_Validate.f k t) (val t) := by
  unfold mult_Validate.f val
  refine ev_call (mult_shape_ev ht) ?_
  by_cases h : shp t = 0
  · rw [if_pos h]
    refine ev_pos h ?_
    refine ev_call (mult_failing_l0 (shp_sq.1 h)) ?_
    cases tri t with
    | none => exact ev_neg (by simp) (ev_some rfl)
    | some a => exact ev_pos rfl (ev_some rfl)
  · rw [if_neg h]
    exact ev_neg h (ev_some rfl)
/-- What Associative answers. -/
noncomputable def asc4 (t : List (List Int)) : Int × Int × Int × Int := if shp t = 0 then ((tri t).elim (0, 0, 0, 0) (fun a => (a.1, a.2.1, a.2.2, 5))) else (0, 0, 0, shp t)
theorem asc4_val (t : List (List Int)) : (asc4 t).2.2.2 = val t := by
  unfold asc4 val
  split
  · cases tri t <;> rfl
  · rfl
theorem semigroupref14_Associative_ev {t : List (List Int)} (ht : In2 t) : Ev (fun k => semigroupref14_Associative.f k t) (asc4 t) := by
  unfold semigroupref14_Associative.f asc4
  refine ev_call (semigroupref14_Shape_ev ht) ?_
  by_cases h : shp t = 0
  · rw [if_pos h]
    exact ev_pos h (semigroupref14_Associative_l0 (shp_sq.1 h))
  · rw [if_neg h]
    exact ev_neg h (ev_some rfl)
theorem awake_ev : Ev (fun k => semigrouplaw14_awake.f k) true := ev_of semigrouplaw14_awake.mono (k := 200) (by decide +kernel)
end Go.Proofs.Ytlhckcldeojfmaa.F
