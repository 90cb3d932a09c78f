/- What functions answer. No condition but what each theorem says. -/
import Derived.Test.YtdoggefpmamoiaaRMorphRestrictsEq
import Derived.Test.YtdoggefpmamoiaaAbA2
import Derived.Test.YtdoggefpmamoiaaAbA3
import Derived.Test.YtdoggefpmamoiaaRMorphRestrictsM1
/- Layer 14: shape, failing, Validate, Associative and the like. What they answer. No condition but that a table comes in. -/
set_option linter.unusedVariables false
set_option linter.unusedSimpArgs false
namespace Go.Ab
open Go
theorem mult_shape_l2 {A : AH} {s r : Sl} {t : List (List Int)} {H : AH} {Q : Int → AH → Prop} {lo : Nat} (ht : In2 t) (hs : Tab H s t) {x : Int} (h0 : 0 ≤ x) (h1 : x < (t.length : Int)) (hr : Row H r (R t x))
    (hb : (∃ y, 0 ≤ y ∧ y < ((R t x).length : Int) ∧ (M t x y < 0 ∨ (t.length : Int) ≤ M t x y)) → Q 4 H)
    (hend : (∀ y, 0 ≤ y → y < ((R t x).length : Int) → ¬ (M t x y < 0 ∨ (t.length : Int) ≤ M t x y)) → Ev (fun ρ k κ => mult_shape_1 k s s (t.length : Int) (x + 1) lo H κ) Q) :
    Ev (fun ρ k κ => mult_shape_2 k s s (t.length : Int) x r ((R t x).length : Int) 0 lo H κ) Q := by
  have hl := ht.row h0 h1
  have hsl := hs.len
  have hx : x + 1 ≤ 9223372036854775807 := by have := ht.1; omega
  refine ev_for0 (g := fun y ρ k κ => mult_shape_2 k s s (t.length : Int) x r ((R t x).length : Int) y lo H κ) ((R t x).length : Int) (fun i => ∀ y, 0 ≤ y → y < i → ¬ (M t x y < 0 ∨ (t.length : Int) ≤ M t x y)) ?_ ?_ 0 (by omega) (by omega) (fun y a b => by omega)
  · intro y hy0 hy1 hi
    by_cases hbad : M t x y < 0 ∨ (t.length : Int) ≤ M t x y
    · left
      refine ev_eq (fun _ k _ => mult_shape_2_eq k) (ev_pos hy1 (ev_rdI hr hy0 hy1 (ev_orP (fun _ => ev_ret ⟨rfl, rfl⟩) (ev_pos ?_ (ev_ret (hb ⟨y, hy0, hy1, hbad⟩))))))
      show M t x y < 0 ∨ M t x y ≥ (s.len : Int)
      omega
    · right
      refine ⟨fun z hz0 hz1 => ?_, fun H => ?_⟩
      · by_cases hzx : z < y
        · exact hi z hz0 hzx
        · have : z = y := by omega
          rw [this]; exact hbad
      refine ev_eq (fun _ k _ => mult_shape_2_eq k) (ev_pos hy1 (ev_rdI hr hy0 hy1 (ev_orP (fun _ => ev_ret ⟨rfl, rfl⟩) (ev_neg ?_ ?_))))
      · show ¬ (M t x y < 0 ∨ M t x y ≥ (s.len : Int))
        omega
      · rw [W_add hy0 hy1 (by omega)]; exact H
  · intro hi
    refine ev_eq (fun _ k _ => mult_shape_2_eq k) (ev_neg (by omega) ?_)
    rw [W_add h0 h1 (by omega)]
    exact hend hi
open Classical in
theorem mult_shape_ev {s : Sl} {t : List (List Int)} {H : AH} {lo : Nat} (ht : In2 t) (hs : Tab H s t) : Ev (fun ρ k κ => mult_shape k s lo H κ) (Is (shp t) H) := by
  unfold shp
  have hl := hs.len
  refine ev_eq (fun _ k _ => mult_shape_eq k) ?_
  rw [hl]
  refine ev_if (fun h => ?_) (fun h => ?_)
  · rw [if_pos h]; exact ev_ret ⟨rfl, rfl⟩
  rw [if_neg h]
  refine ev_if (fun h => ?_) (fun h2 => ?_)
  · rw [if_pos h]; exact ev_ret ⟨rfl, rfl⟩
  rw [if_neg h2]
  generalize hr : (if Bad t then (4 : Int) else 0) = r
  refine ev_for0 (g := fun x ρ k κ => mult_shape_1 k s s (t.length : Int) x lo H κ) (t.length : Int) (fun i => ∀ x, 0 ≤ x → x < i → ¬ (((R t x).length : Int) ≠ (t.length : Int) ∨ ∃ y, 0 ≤ y ∧ y < ((R t x).length : Int) ∧ (M t x y < 0 ∨ (t.length : Int) ≤ M t x y))) ?_ ?_ 0 (by omega) (by omega) (fun x a b => by omega)
  · intro x hx0 hx1 hi
    by_cases hbad : ((R t x).length : Int) ≠ (t.length : Int) ∨ ∃ y, 0 ≤ y ∧ y < ((R t x).length : Int) ∧ (M t x y < 0 ∨ (t.length : Int) ≤ M t x y)
    · left
      have hr4 : (4 : Int) = r := by rw [← hr, if_pos ⟨x, hx0, hx1, hbad⟩]
      refine ev_eq (fun _ k _ => mult_shape_1_eq k) (ev_pos hx1 (ev_rdS hs hx0 hx1 fun v hv => ?_))
      rw [hl, hv.len]
      refine ev_nif (fun _ => ev_ret ⟨hr4, rfl⟩) (fun he => ?_)
      rcases hbad with hbad | ⟨y, hy0, hy1, hbad⟩
      · exact absurd he hbad
      exact mult_shape_l2 (A := H) ht hs hx0 hx1 hv (fun _ => ⟨hr4, rfl⟩) (fun hn => absurd hbad (hn y hy0 hy1))
    · right
      refine ⟨fun z hz0 hz1 => ?_, fun H' => ?_⟩
      · by_cases hzx : z < x
        · exact hi z hz0 hzx
        · have : z = x := by omega
          rw [this]; exact hbad
      · have he : ((R t x).length : Int) = (t.length : Int) := Classical.byContradiction fun hn => hbad (.inl hn)
        refine ev_eq (fun _ k _ => mult_shape_1_eq k) (ev_pos hx1 (ev_rdS hs hx0 hx1 fun v hv => ?_))
        rw [hl, hv.len]
        exact ev_nneg he (mult_shape_l2 (A := H) ht hs hx0 hx1 hv (fun hy => absurd (.inr hy) hbad) (fun _ => H'))
  · intro hi
    refine ev_eq (fun _ k _ => mult_shape_1_eq k) (ev_neg (by omega) (ev_ret ⟨?_, rfl⟩))
    rw [← hr, if_neg]
    rintro ⟨x, a, b, c⟩
    exact hi x a b c
theorem semigroupref14_Shape_l2 {A : AH} {s r : Sl} {t : List (List Int)} {H : AH} {Q : Int → AH → Prop} {lo : Nat} (ht : In2 t) (hs : Tab H s t) {x : Int} (h0 : 0 ≤ x) (h1 : x < (t.length : Int)) (hr : Row H r (R t x))
    (hb : (∃ y, 0 ≤ y ∧ y < ((R t x).length : Int) ∧ (M t x y < 0 ∨ (t.length : Int) ≤ M t x y)) → Q 4 H)
    (hend : (∀ y, 0 ≤ y → y < ((R t x).length : Int) → ¬ (M t x y < 0 ∨ (t.length : Int) ≤ M t x y)) → Ev (fun ρ k κ => semigroupref14_Shape_1 k s s (t.length : Int) (x + 1) lo H κ) Q) :
    Ev (fun ρ k κ => semigroupref14_Shape_2 k s s (t.length : Int) x r ((R t x).length : Int) 0 lo H κ) Q := by
  have hl := ht.row h0 h1
  have hsl := hs.len
  have hx : x + 1 ≤ 9223372036854775807 := by have := ht.1; omega
  refine ev_for0 (g := fun y ρ k κ => semigroupref14_Shape_2 k s s (t.length : Int) x r ((R t x).length : Int) y lo H κ) ((R t x).length : Int) (fun i => ∀ y, 0 ≤ y → y < i → ¬ (M t x y < 0 ∨ (t.length : Int) ≤ M t x y)) ?_ ?_ 0 (by omega) (by omega) (fun y a b => by omega)
  · intro y hy0 hy1 hi
    by_cases hbad : M t x y < 0 ∨ (t.length : Int) ≤ M t x y
    · left
      refine ev_eq (fun _ k _ => semigroupref14_Shape_2_eq k) (ev_pos hy1 (ev_rdI hr hy0 hy1 (ev_orP (fun _ => ev_ret ⟨rfl, rfl⟩) (ev_pos ?_ (ev_ret (hb ⟨y, hy0, hy1, hbad⟩))))))
      show M t x y < 0 ∨ M t x y ≥ (s.len : Int)
      omega
    · right
      refine ⟨fun z hz0 hz1 => ?_, fun H => ?_⟩
      · by_cases hzx : z < y
        · exact hi z hz0 hzx
        · have : z = y := by omega
          rw [this]; exact hbad
      refine ev_eq (fun _ k _ => semigroupref14_Shape_2_eq k) (ev_pos hy1 (ev_rdI hr hy0 hy1 (ev_orP (fun _ => ev_ret ⟨rfl, rfl⟩) (ev_neg ?_ ?_))))
      · show ¬ (M t x y < 0 ∨ M t x y ≥ (s.len : Int))
        omega
      · rw [W_add hy0 hy1 (by omega)]; exact H
  · intro hi
    refine ev_eq (fun _ k _ => semigroupref14_Shape_2_eq k) (ev_neg (by omega) ?_)
    rw [W_add h0 h1 (by omega)]
    exact hend hi
open Classical in
theorem semigroupref14_Shape_ev {s : Sl} {t : List (List Int)} {H : AH} {lo : Nat} (ht : In2 t) (hs : Tab H s t) : Ev (fun ρ k κ => semigroupref14_Shape k s lo H κ) (Is (shp t) H) := by
  unfold shp
  have hl := hs.len
  refine ev_eq (fun _ k _ => semigroupref14_Shape_eq k) ?_
  rw [hl]
  refine ev_if (fun h => ?_) (fun h => ?_)
  · rw [if_pos h]; exact ev_ret ⟨rfl, rfl⟩
  rw [if_neg h]
  refine ev_if (fun h => ?_) (fun h2 => ?_)
  · rw [if_pos h]; exact ev_ret ⟨rfl, rfl⟩
  rw [if_neg h2]
  generalize hr : (if Bad t then (4 : Int) else 0) = r
  refine ev_for0 (g := fun x ρ k κ => semigroupref14_Shape_1 k s s (t.length : Int) x lo H κ) (t.length : Int) (fun i => ∀ x, 0 ≤ x → x < i → ¬ (((R t x).length : Int) ≠ (t.length : Int) ∨ ∃ y, 0 ≤ y ∧ y < ((R t x).length : Int) ∧ (M t x y < 0 ∨ (t.length : Int) ≤ M t x y))) ?_ ?_ 0 (by omega) (by omega) (fun x a b => by omega)
  · intro x hx0 hx1 hi
    by_cases hbad : ((R t x).length : Int) ≠ (t.length : Int) ∨ ∃ y, 0 ≤ y ∧ y < ((R t x).length : Int) ∧ (M t x y < 0 ∨ (t.length : Int) ≤ M t x y)
    · left
      have hr4 : (4 : Int) = r := by rw [← hr, if_pos ⟨x, hx0, hx1, hbad⟩]
      refine ev_eq (fun _ k _ => semigroupref14_Shape_1_eq k) (ev_pos hx1 (ev_rdS hs hx0 hx1 fun v hv => ?_))
      rw [hl, hv.len]
      refine ev_nif (fun _ => ev_ret ⟨hr4, rfl⟩) (fun he => ?_)
      rcases hbad with hbad | ⟨y, hy0, hy1, hbad⟩
      · exact absurd he hbad
      exact semigroupref14_Shape_l2 (A := H) ht hs hx0 hx1 hv (fun _ => ⟨hr4, rfl⟩) (fun hn => absurd hbad (hn y hy0 hy1))
    · right
      refine ⟨fun z hz0 hz1 => ?_, fun H' => ?_⟩
      · by_cases hzx : z < x
        · exact hi z hz0 hzx
        · have : z = x := by omega
          rw [this]; exact hbad
      · have he : ((R t x).length : Int) = (t.length : Int) := Classical.byContradiction fun hn => hbad (.inl hn)
        refine ev_eq (fun _ k _ => semigroupref14_Shape_1_eq k) (ev_pos hx1 (ev_rdS hs hx0 hx1 fun v hv => ?_))
        rw [hl, hv.len]
        exact ev_nneg he (semigroupref14_Shape_l2 (A := H) ht hs hx0 hx1 hv (fun hy => absurd (.inr hy) hbad) (fun _ => H'))
  · intro hi
    refine ev_eq (fun _ k _ => semigroupref14_Shape_1_eq k) (ev_neg (by omega) (ev_ret ⟨?_, rfl⟩))
    rw [← hr, if_neg]
    rintro ⟨x, a, b, c⟩
    exact hi x a b c
theorem mult_failing_l3 {s : Sl} {t : List (List Int)} {H : AH} {lo : Nat} {Q : (Int × Int × Int × Bool) → AH → Prop} (ht : Tab H s t) (hs : Sq t) {x y : Int} (hx0 : 0 ≤ x) (hx1 : x < (t.length : Int)) (hy0 : 0 ≤ y) (hy1 : y < (t.length : Int))
    (hf : ∀ a, fnd (fun z => if M t (M t x y) z = M t x (M t y z) then none else some (x, y, z)) 0 t.length = some a → Q (a.1, a.2.1, a.2.2, true) H)
    (h : fnd (fun z => if M t (M t x y) z = M t x (M t y z) then none else some (x, y, z)) 0 t.length = none → Ev (fun ρ k κ => mult_failing_2 k s x (t.length : Int) x (t.length : Int) (y + 1) lo H κ) Q) :
    Ev (fun ρ k κ => mult_failing_3 k s x y (t.length : Int) x (t.length : Int) y (t.length : Int) 0 lo H κ) Q := by
  have hle := hs.le
  refine ev_fnd (f := fun z => if M t (M t x y) z = M t x (M t y z) then none else some (x, y, z)) (g := fun z ρ k κ => mult_failing_3 k s x y (t.length : Int) x (t.length : Int) y (t.length : Int) z lo H κ) (t.length : Int) ?_ 0 t.length (by omega) (by omega) ?_ ?_
  · intro z hz0 hz1 he H'
    have a1 := hs.lo x y hx0 hx1 hy0 hy1
    have a2 := hs.hi x y hx0 hx1 hy0 hy1
    have a3 := hs.lo y z hy0 hy1 hz0 hz1
    have a4 := hs.hi y z hy0 hy1 hz0 hz1
    have r1 := hs.row x hx0 hx1
    have r2 := hs.row y hy0 hy1
    have r3 := hs.row (M t x y) a1 a2
    have he : M t (M t x y) z = M t x (M t y z) := Classical.byContradiction fun hn => by rw [if_neg hn] at he; cases he
    refine ev_eq (fun _ k _ => mult_failing_3_eq k) (ev_pos hz1 (ev_rdM ht hx0 hx1 hy0 (by omega) (ev_rdM ht a1 a2 hz0 (by omega) (ev_rdS ht hx0 hx1 fun r hr => ev_rdM ht hy0 hy1 hz0 (by omega) (ev_rdI hr a3 (by omega) (ev_nneg he ?_))))))
    rw [W_add hz0 hz1 (by omega)]
    exact H'
  · intro z a hz0 hz1 he ha
    have a1 := hs.lo x y hx0 hx1 hy0 hy1
    have a2 := hs.hi x y hx0 hx1 hy0 hy1
    have a3 := hs.lo y z hy0 hy1 hz0 hz1
    have a4 := hs.hi y z hy0 hy1 hz0 hz1
    have r1 := hs.row x hx0 hx1
    have r2 := hs.row y hy0 hy1
    have r3 := hs.row (M t x y) a1 a2
    have hne : ¬ M t (M t x y) z = M t x (M t y z) := fun hn => by rw [if_pos hn] at he; cases he
    rw [if_neg hne] at he
    cases he
    exact ev_eq (fun _ k _ => mult_failing_3_eq k) (ev_pos hz1 (ev_rdM ht hx0 hx1 hy0 (by omega) (ev_rdM ht a1 a2 hz0 (by omega) (ev_rdS ht hx0 hx1 fun r hr => ev_rdM ht hy0 hy1 hz0 (by omega) (ev_rdI hr a3 (by omega) (ev_npos hne (ev_ret (hf _ ha))))))))
  · intro hn
    refine ev_eq (fun _ k _ => mult_failing_3_eq k) (ev_neg (by omega) ?_)
    rw [W_add hy0 hy1 (by omega)]
    exact h hn
theorem mult_failing_l1 {s : Sl} {t : List (List Int)} {H : AH} {lo : Nat} (ht : Tab H s t) (hs : Sq t) : Ev (fun ρ k κ => mult_failing_1 k s (t.length : Int) 0 lo H κ) (Is ((tri t).elim (0, 0, 0, false) (fun a => (a.1, a.2.1, a.2.2, true))) H) := by
  have hle := hs.le
  have hl := ht.len
  refine ev_fnd (f := fun x => fnd (fun y => fnd (fun z => if M t (M t x y) z = M t x (M t y z) then none else some (x, y, z)) 0 t.length) 0 t.length) (g := fun x ρ k κ => mult_failing_1 k s (t.length : Int) x lo H κ) (t.length : Int) ?_ 0 t.length (by omega) (by omega) ?_ ?_
  · intro x hx0 hx1 hn H'
    refine ev_eq (fun _ k _ => mult_failing_1_eq k) (ev_pos hx1 ?_)
    rw [hl]
    refine ev_fnd (f := fun y => fnd (fun z => if M t (M t x y) z = M t x (M t y z) then none else some (x, y, z)) 0 t.length) (g := fun y ρ k κ => mult_failing_2 k s x (t.length : Int) x (t.length : Int) y lo H κ) (t.length : Int) ?_ 0 t.length (by omega) (by omega) ?_ ?_
    · intro y hy0 hy1 hn2 H'
      refine ev_eq (fun _ k _ => mult_failing_2_eq k) (ev_pos hy1 ?_)
      rw [hl]
      exact mult_failing_l3 ht hs hx0 hx1 hy0 hy1 (fun a ha => by rw [hn2] at ha; cases ha) (fun _ => H')
    · intro y a _ _ _ ha; rw [hn] at ha; cases ha
    · intro _
      refine ev_eq (fun _ k _ => mult_failing_2_eq k) (ev_neg (by omega) ?_)
      rw [W_add hx0 hx1 (by omega)]
      exact H'
  · intro x a hx0 hx1 hfx hfa
    refine ev_eq (fun _ k _ => mult_failing_1_eq k) (ev_pos hx1 ?_)
    rw [hl]
    refine ev_fnd (f := fun y => fnd (fun z => if M t (M t x y) z = M t x (M t y z) then none else some (x, y, z)) 0 t.length) (g := fun y ρ k κ => mult_failing_2 k s x (t.length : Int) x (t.length : Int) y lo H κ) (t.length : Int) ?_ 0 t.length (by omega) (by omega) ?_ ?_
    · intro y hy0 hy1 hn2 H'
      refine ev_eq (fun _ k _ => mult_failing_2_eq k) (ev_pos hy1 ?_)
      rw [hl]
      exact mult_failing_l3 ht hs hx0 hx1 hy0 hy1 (fun a ha => by rw [hn2] at ha; cases ha) (fun _ => H')
    · intro y b hy0 hy1 hfy hfb
      refine ev_eq (fun _ k _ => mult_failing_2_eq k) (ev_pos hy1 ?_)
      rw [hl]
      refine mult_failing_l3 ht hs hx0 hx1 hy0 hy1 (fun c hc => ⟨?_, rfl⟩) (fun hn => by rw [hfy] at hn; cases hn)
      rw [hfy] at hc; cases hc
      rw [hfx] at hfb; cases hfb
      rw [show tri t = some a from hfa]; rfl
    · intro hn; rw [hfx] at hn; cases hn
  · intro hn
    refine ev_eq (fun _ k _ => mult_failing_1_eq k) (ev_neg (by omega) (ev_ret ⟨?_, rfl⟩))
    unfold tri
    rw [hn]
    rfl
theorem semigroupref14_Associative_l3 {s : Sl} {t : List (List Int)} {H : AH} {lo : Nat} {Q : (Int × Int × Int × Int) → AH → Prop} (ht : Tab H s t) (hs : Sq t) {x y : Int} (hx0 : 0 ≤ x) (hx1 : x < (t.length : Int)) (hy0 : 0 ≤ y) (hy1 : y < (t.length : Int))
    (hf : ∀ a, fnd (fun z => if M t (M t x y) z = M t x (M t y z) then none else some (x, y, z)) 0 t.length = some a → Q (a.1, a.2.1, a.2.2, 5) H)
    (h : fnd (fun z => if M t (M t x y) z = M t x (M t y z) then none else some (x, y, z)) 0 t.length = none → Ev (fun ρ k κ => semigroupref14_Associative_2 k s x (t.length : Int) x (t.length : Int) (y + 1) lo H κ) Q) :
    Ev (fun ρ k κ => semigroupref14_Associative_3 k s x y (t.length : Int) x (t.length : Int) y (t.length : Int) 0 lo H κ) Q := by
  have hle := hs.le
  refine ev_fnd (f := fun z => if M t (M t x y) z = M t x (M t y z) then none else some (x, y, z)) (g := fun z ρ k κ => semigroupref14_Associative_3 k s x y (t.length : Int) x (t.length : Int) y (t.length : Int) z lo H κ) (t.length : Int) ?_ 0 t.length (by omega) (by omega) ?_ ?_
  · intro z hz0 hz1 he H'
    have a1 := hs.lo x y hx0 hx1 hy0 hy1
    have a2 := hs.hi x y hx0 hx1 hy0 hy1
    have a3 := hs.lo y z hy0 hy1 hz0 hz1
    have a4 := hs.hi y z hy0 hy1 hz0 hz1
    have r1 := hs.row x hx0 hx1
    have r2 := hs.row y hy0 hy1
    have r3 := hs.row (M t x y) a1 a2
    have he : M t (M t x y) z = M t x (M t y z) := Classical.byContradiction fun hn => by rw [if_neg hn] at he; cases he
    refine ev_eq (fun _ k _ => semigroupref14_Associative_3_eq k) (ev_pos hz1 (ev_rdM ht hx0 hx1 hy0 (by omega) (ev_rdM ht a1 a2 hz0 (by omega) (ev_rdS ht hx0 hx1 fun r hr => ev_rdM ht hy0 hy1 hz0 (by omega) (ev_rdI hr a3 (by omega) (ev_nneg he ?_))))))
    rw [W_add hz0 hz1 (by omega)]
    exact H'
  · intro z a hz0 hz1 he ha
    have a1 := hs.lo x y hx0 hx1 hy0 hy1
    have a2 := hs.hi x y hx0 hx1 hy0 hy1
    have a3 := hs.lo y z hy0 hy1 hz0 hz1
    have a4 := hs.hi y z hy0 hy1 hz0 hz1
    have r1 := hs.row x hx0 hx1
    have r2 := hs.row y hy0 hy1
    have r3 := hs.row (M t x y) a1 a2
    have hne : ¬ M t (M t x y) z = M t x (M t y z) := fun hn => by rw [if_pos hn] at he; cases he
    rw [if_neg hne] at he
    cases he
    exact ev_eq (fun _ k _ => semigroupref14_Associative_3_eq k) (ev_pos hz1 (ev_rdM ht hx0 hx1 hy0 (by omega) (ev_rdM ht a1 a2 hz0 (by omega) (ev_rdS ht hx0 hx1 fun r hr => ev_rdM ht hy0 hy1 hz0 (by omega) (ev_rdI hr a3 (by omega) (ev_npos hne (ev_ret (hf _ ha))))))))
  · intro hn
    refine ev_eq (fun _ k _ => semigroupref14_Associative_3_eq k) (ev_neg (by omega) ?_)
    rw [W_add hy0 hy1 (by omega)]
    exact h hn
theorem semigroupref14_Associative_l1 {s : Sl} {t : List (List Int)} {H : AH} {lo : Nat} (ht : Tab H s t) (hs : Sq t) : Ev (fun ρ k κ => semigroupref14_Associative_1 k s (t.length : Int) 0 lo H κ) (Is ((tri t).elim (0, 0, 0, 0) (fun a => (a.1, a.2.1, a.2.2, 5))) H) := by
  have hle := hs.le
  have hl := ht.len
  refine ev_fnd (f := fun x => fnd (fun y => fnd (fun z => if M t (M t x y) z = M t x (M t y z) then none else some (x, y, z)) 0 t.length) 0 t.length) (g := fun x ρ k κ => semigroupref14_Associative_1 k s (t.length : Int) x lo H κ) (t.length : Int) ?_ 0 t.length (by omega) (by omega) ?_ ?_
  · intro x hx0 hx1 hn H'
    refine ev_eq (fun _ k _ => semigroupref14_Associative_1_eq k) (ev_pos hx1 ?_)
    rw [hl]
    refine ev_fnd (f := fun y => fnd (fun z => if M t (M t x y) z = M t x (M t y z) then none else some (x, y, z)) 0 t.length) (g := fun y ρ k κ => semigroupref14_Associative_2 k s x (t.length : Int) x (t.length : Int) y lo H κ) (t.length : Int) ?_ 0 t.length (by omega) (by omega) ?_ ?_
    · intro y hy0 hy1 hn2 H'
      refine ev_eq (fun _ k _ => semigroupref14_Associative_2_eq k) (ev_pos hy1 ?_)
      rw [hl]
      exact semigroupref14_Associative_l3 ht hs hx0 hx1 hy0 hy1 (fun a ha => by rw [hn2] at ha; cases ha) (fun _ => H')
    · intro y a _ _ _ ha; rw [hn] at ha; cases ha
    · intro _
      refine ev_eq (fun _ k _ => semigroupref14_Associative_2_eq k) (ev_neg (by omega) ?_)
      rw [W_add hx0 hx1 (by omega)]
      exact H'
  · intro x a hx0 hx1 hfx hfa
    refine ev_eq (fun _ k _ => semigroupref14_Associative_1_eq k) (ev_pos hx1 ?_)
    rw [hl]
    refine ev_fnd (f := fun y => fnd (fun z => if M t (M t x y) z = M t x (M t y z) then none else some (x, y, z)) 0 t.length) (g := fun y ρ k κ => semigroupref14_Associative_2 k s x (t.length : Int) x (t.length : Int) y lo H κ) (t.length : Int) ?_ 0 t.length (by omega) (by omega) ?_ ?_
    · intro y hy0 hy1 hn2 H'
      refine ev_eq (fun _ k _ => semigroupref14_Associative_2_eq k) (ev_pos hy1 ?_)
      rw [hl]
      exact semigroupref14_Associative_l3 ht hs hx0 hx1 hy0 hy1 (fun a ha => by rw [hn2] at ha; cases ha) (fun _ => H')
    · intro y b hy0 hy1 hfy hfb
      refine ev_eq (fun _ k _ => semigroupref14_Associative_2_eq k) (ev_pos hy1 ?_)
      rw [hl]
      refine semigroupref14_Associative_l3 ht hs hx0 hx1 hy0 hy1 (fun c hc => ⟨?_, rfl⟩) (fun hn => by rw [hfy] at hn; cases hn)
      rw [hfy] at hc; cases hc
      rw [hfx] at hfb; cases hfb
      rw [show tri t = some a from hfa]; rfl
    · intro hn; rw [hfx] at hn; cases hn
  · intro hn
    refine ev_eq (fun _ k _ => semigroupref14_Associative_1_eq k) (ev_neg (by omega) (ev_ret ⟨?_, rfl⟩))
    unfold tri
    rw [hn]
    rfl
theorem mult_Validate_ev {s : Sl} {t : List (List Int)} {H : AH} {lo : Nat} (ht : In2 t) (hs : Tab H s t) : Ev (fun ρ k κ => mult_Validate k s lo H κ) (Is (val t) H) := by
  unfold val
  refine ev_eq (fun _ k _ => mult_Validate_eq k) (ev_is (mult_shape_ev ht hs) ?_)
  by_cases h : shp t = 0
  · rw [if_pos h]
    refine ev_nneg h (ev_is (F' := fun ρ k κ => mult_failing k s H.length H κ) (ev_eq (fun _ k _ => mult_failing_eq k) (by rw [hs.len]; exact mult_failing_l1 hs (shp_sq.1 h))) ?_)
    cases tri t with
    | none => exact ev_f rfl (ev_ret ⟨by simp, rfl⟩)
    | some a => exact ev_t rfl (ev_ret ⟨by simp, rfl⟩)
  · rw [if_neg h]
    exact ev_npos h (ev_ret ⟨rfl, rfl⟩)
/-- What Associative answers. -/
noncomputable def asc4 (t : List (List Int)) : Int × Int × Int × Int := if shp t = 0 then ((tri t).elim (0, 0, 0, 0) (fun a => (a.1, a.2.1, a.2.2, 5))) else (0, 0, 0, shp t)
theorem asc4_val (t : List (List Int)) : (asc4 t).2.2.2 = val t := by
  unfold asc4 val
  split
  · cases tri t <;> rfl
  · rfl
theorem semigroupref14_Associative_ev {s : Sl} {t : List (List Int)} {H : AH} {lo : Nat} (ht : In2 t) (hs : Tab H s t) : Ev (fun ρ k κ => semigroupref14_Associative k s lo H κ) (Is (asc4 t) H) := by
  unfold asc4
  refine ev_eq (fun _ k _ => semigroupref14_Associative_eq k) (ev_is (semigroupref14_Shape_ev ht hs) ?_)
  by_cases h : shp t = 0
  · rw [if_pos h]
    refine ev_nneg h ?_
    rw [hs.len]
    exact semigroupref14_Associative_l1 hs (shp_sq.1 h)
  · rw [if_neg h]
    exact ev_npos h (ev_ret ⟨rfl, rfl⟩)
theorem semigroupref14_Validate_ev {s : Sl} {t : List (List Int)} {H : AH} {lo : Nat} (ht : In2 t) (hs : Tab H s t) : Ev (fun ρ k κ => semigroupref14_Validate k s lo H κ) (Is (val t) H) :=
  ev_eq (fun _ k _ => semigroupref14_Validate_eq k) (ev_is (semigroupref14_Associative_ev ht hs) (ev_ret ⟨asc4_val t, rfl⟩))
theorem semigroupref14_Valid_ev {s : Sl} {t : List (List Int)} {H : AH} {lo : Nat} (ht : In2 t) (hs : Tab H s t) : Ev (fun ρ k κ => semigroupref14_Valid k s lo H κ) (Is (decide (val t = 0)) H) :=
  ev_eq (fun _ k _ => semigroupref14_Valid_eq k) (ev_is (semigroupref14_Validate_ev ht hs) (ev_ret ⟨rfl, rfl⟩))
theorem semigroupref14_In_ev {s r : Sl} {t : List (List Int)} {l : List Int} {H : AH} {lo : Nat} (ht : s.len = t.length) (hr : Row H r l) (hl : l.length ≤ 9223372036854775807) {b : Bool} (hb : b = true ↔ El t l) : Ev (fun ρ k κ => semigroupref14_In k s r lo H κ) (Is b H) := by
  refine ev_eq (fun _ k _ => semigroupref14_In_eq k) ?_
  rw [hr.len]
  refine ev_for0 (g := fun i ρ k κ => semigroupref14_In_1 k s r (l.length : Int) i lo H κ) (l.length : Int) (fun j => ∀ i, 0 ≤ i → i < j → 0 ≤ rd l i ∧ rd l i < (t.length : Int)) ?_ ?_ 0 (by omega) (by omega) (fun i a b => by omega)
  · intro i hi0 hi1 hi
    by_cases hp : 0 ≤ rd l i ∧ rd l i < (t.length : Int)
    · right
      refine ⟨fun j j0 j1 => ?_, fun H => ?_⟩
      · by_cases hj : j = i
        · rw [hj]; exact hp
        · exact hi j j0 (by omega)
      · refine ev_eq (fun _ k _ => semigroupref14_In_1_eq k) (ev_pos hi1 (ev_rdI hr hi0 hi1 (ev_orP (fun _ => ev_ret ⟨rfl, rfl⟩) (ev_neg (by rw [ht]; omega) ?_))))
        rw [W_add hi0 hi1 (by omega)]
        exact H
    · left
      have hf : b = false := by
        cases b with
        | false => rfl
        | true => exact absurd (hb.1 rfl _ (rd_mem hi0 hi1)) hp
      exact ev_eq (fun _ k _ => semigroupref14_In_1_eq k) (ev_pos hi1 (ev_rdI hr hi0 hi1 (ev_orP (fun _ => ev_ret ⟨rfl, rfl⟩) (ev_pos (by rw [ht]; omega) (ev_ret ⟨hf.symm, rfl⟩)))))
  · intro hi
    exact ev_eq (fun _ k _ => semigroupref14_In_1_eq k) (ev_neg (by omega) (ev_ret ⟨(hb.2 (rd_all.2 hi)).symm, rfl⟩))
end Go.Ab

/- Rows compared, members; tables of Rees matrix semigroups, regularity. What they answer. No condition but that a structure comes in. -/
set_option linter.unusedVariables false
set_option linter.unusedSimpArgs false
namespace Go.Ab
open Go
theorem semigroupref03_Same_ev {a b : Sl} {x y : List Int} {H : AH} {lo : Nat} (ha : Row H a x) (hb : Row H b y) (hl : x.length ≤ 9223372036854775807) : Ev (fun ρ k κ => semigroupref03_Same k a b lo H κ) (Is (decide (x = y)) H) := by
  refine ev_eq (fun _ k _ => semigroupref03_Same_eq k) ?_
  rw [ha.len, hb.len]
  refine ev_nif (fun h => ev_ret ⟨by rw [decide_eq_false]; exact fun e => h (by rw [e]), rfl⟩) (fun h => ?_)
  refine ev_for0 (g := fun i ρ k κ => semigroupref03_Same_1 k a b (x.length : Int) i lo H κ) (x.length : Int) (fun i => ∀ j : Int, 0 ≤ j → j < i → rd x j = rd y j) ?_ ?_ 0 (by omega) (by omega) (fun j a b => by omega)
  · intro i i0 i1 hi
    by_cases hv : rd x i = rd y i
    · right
      refine ⟨fun j a b => ?_, fun h' => ?_⟩
      · by_cases hj : j = i
        · rw [hj]; exact hv
        · exact hi j a (by omega)
      · refine ev_eq (fun _ k _ => semigroupref03_Same_1_eq k) (ev_pos i1 (ev_rdI ha i0 i1 (ev_rdI hb i0 (by omega) (ev_nneg hv ?_))))
        rw [W_add i0 i1 (by omega)]; exact h'
    · left
      refine ev_eq (fun _ k _ => semigroupref03_Same_1_eq k) (ev_pos i1 (ev_rdI ha i0 i1 (ev_rdI hb i0 (by omega) (ev_npos hv (ev_ret ⟨by rw [decide_eq_false]; exact fun e => hv (by rw [e]), rfl⟩)))))
  · intro hi
    refine ev_eq (fun _ k _ => semigroupref03_Same_1_eq k) (ev_neg (by omega) (ev_ret ⟨?_, rfl⟩))
    rw [decide_eq_true]
    exact rd_ext (by omega) hi
theorem Mk.zero {P : List (List Int)} {m k : Int} (m0 : 0 ≤ m) (k0 : 0 ≤ k) : Mk P m k 0 0 (List.replicate m.toNat false) (List.replicate k.toNat false) := by
  refine ⟨by simp; omega, by simp; omega, fun i' a0 a1 => ?_, fun l' a0 a1 => ?_⟩
  · rw [rb_rep a0 (by omega)]
    simp only [Bool.false_eq_true, false_iff]
    rintro ⟨l', s1, s2, s3, s4, s5⟩
    omega
  · rw [rb_rep a0 (by omega)]
    simp only [Bool.false_eq_true, false_iff]
    rintro ⟨i', s1, s2, s3, s4, s5⟩
    omega
end Go.Ab

/- Homomorphisms: which maps are, images, kernels. What they answer. No condition but that tables and a map come in. -/
set_option linter.unusedVariables false
set_option linter.unusedSimpArgs false
namespace Go.Ab
open Go
open Classical in
theorem morph_isHom_ev {s w q : Sl} {t u : List (List Int)} {f : List Int} {H : AH} {lo : Nat} (ht : Tab H s t) (hu : Tab H w u) (hf : Row H q f) (hv : Sq t) (hw : Sq u) : Ev (fun ρ k κ => morph_isHom k s w q lo H κ) (Is (decide (Hm t u f)) H) := by
  have hn := hv.le
  have hm := hw.le
  refine ev_eq (fun _ k _ => morph_isHom_eq k) ?_
  rw [hf.len, ht.len]
  refine ev_nif (fun h => ev_ret ⟨by rw [decide_eq_false]; exact fun hh => h (by rw [hh.len]), rfl⟩) (fun hl => ?_)
  refine ev_for0 (g := fun i ρ k κ => morph_isHom_1 k s w q q (f.length : Int) i lo H κ) (f.length : Int) (fun i => ∀ x : Int, 0 ≤ x → x < i → 0 ≤ rd f x ∧ rd f x < (u.length : Int)) ?_ ?_ 0 (by omega) (by omega) (fun x a b => by omega)
  · intro i i0 i1 hi
    by_cases hb : rd f i < 0 ∨ rd f i ≥ (u.length : Int)
    · left
      refine ev_eq (fun _ k _ => morph_isHom_1_eq k) (ev_pos i1 (ev_rdI hf i0 i1 (ev_orP (c := rd f i ≥ (u.length : Int)) (fun _ => ev_ret ⟨by rw [hu.len], rfl⟩) (ev_pos hb (ev_ret ⟨?_, rfl⟩)))))
      rw [decide_eq_false]
      intro hh
      have := hh.into i i0 (by omega)
      omega
    · right
      refine ⟨fun x a b => ?_, fun h' => ?_⟩
      · by_cases hx : x = i
        · rw [hx]; omega
        · exact hi x a (by omega)
      · refine ev_eq (fun _ k _ => morph_isHom_1_eq k) (ev_pos i1 (ev_rdI hf i0 i1 (ev_orP (c := rd f i ≥ (u.length : Int)) (fun _ => ev_ret ⟨by rw [hu.len], rfl⟩) (ev_neg hb ?_))))
        rw [W_add i0 i1 (by omega)]; exact h'
  · intro hin
    refine ev_eq (fun _ k _ => morph_isHom_1_eq k) (ev_neg (by omega) ?_)
    rw [ht.len]
    have bad : ∀ {x y : Int}, 0 ≤ x → x < (t.length : Int) → 0 ≤ y → y < (t.length : Int) → rd f (M t x y) ≠ M u (rd f x) (rd f y) → false = decide (Hm t u f) := fun a b c d e => by rw [decide_eq_false]; exact fun hh => e (hh.mul _ _ a b c d)
    refine ev_for0 (g := fun x ρ k κ => morph_isHom_2 k s w q (t.length : Int) x lo H κ) (t.length : Int) (fun x => ∀ x' : Int, 0 ≤ x' → x' < x → ∀ y : Int, 0 ≤ y → y < (t.length : Int) → rd f (M t x' y) = M u (rd f x') (rd f y)) ?_ ?_ 0 (by omega) (by omega) (fun x a b => by omega)
    · intro x x0 x1 hx
      have rx := hv.row x x0 x1
      have fx := hin x x0 (by omega)
      have rf := hw.row _ fx.1 fx.2
      have inner : ∀ {Q : Bool → AH → Prop}, (∀ y : Int, 0 ≤ y → y < (t.length : Int) → rd f (M t x y) ≠ M u (rd f x) (rd f y) → Q false H) → ((∀ y : Int, 0 ≤ y → y < (t.length : Int) → rd f (M t x y) = M u (rd f x) (rd f y)) → Ev (fun ρ k κ => morph_isHom_2 k s w q (t.length : Int) (x + 1) lo H κ) Q) → Ev (fun ρ k κ => morph_isHom_2 k s w q (t.length : Int) x lo H κ) Q := by
        intro Q c1 c2
        refine ev_eq (fun _ k _ => morph_isHom_2_eq k) (ev_pos x1 ?_)
        rw [ht.len]
        refine ev_for0 (g := fun y ρ k κ => morph_isHom_3 k s w q x (t.length : Int) x (t.length : Int) y lo H κ) (t.length : Int) (fun y => ∀ y' : Int, 0 ≤ y' → y' < y → rd f (M t x y') = M u (rd f x) (rd f y')) ?_ ?_ 0 (by omega) (by omega) (fun y a b => by omega)
        · intro y y0 y1 hy
          have m0 := hv.lo x y x0 x1 y0 y1
          have m1 := hv.hi x y x0 x1 y0 y1
          have fy := hin y y0 (by omega)
          have st : ∀ {Q' : Bool → AH → Prop}, Ev (fun ρ k κ => bif !decide (rd f (M t x y) = M u (rd f x) (rd f y)) then κ false H else morph_isHom_3 k s w q x (t.length : Int) x (t.length : Int) (W (y + 1)) lo H κ) Q' → Ev (fun ρ k κ => morph_isHom_3 k s w q x (t.length : Int) x (t.length : Int) y lo H κ) Q' := fun h =>
            ev_eq (fun _ k _ => morph_isHom_3_eq k) (ev_pos y1 (ev_rdM ht x0 x1 y0 (by omega) (ev_rdI hf m0 (by omega) (ev_rdI hf x0 (by omega) (ev_rdS hu fx.1 fx.2 fun r hr => ev_rdI hf y0 (by omega) (ev_rdI hr fy.1 (by omega) h))))))
          by_cases he : rd f (M t x y) = M u (rd f x) (rd f y)
          · right
            refine ⟨fun y' a b => ?_, fun h' => st (ev_nneg he ?_)⟩
            · by_cases hyy : y' = y
              · rw [hyy]; exact he
              · exact hy y' a (by omega)
            · rw [W_add y0 y1 (by omega)]; exact h'
          · left
            exact st (ev_npos he (ev_ret (c1 y y0 y1 he)))
        · intro hy
          refine ev_eq (fun _ k _ => morph_isHom_3_eq k) (ev_neg (by omega) ?_)
          rw [W_add x0 x1 (by omega)]
          exact c2 hy
      by_cases hall : ∀ y : Int, 0 ≤ y → y < (t.length : Int) → rd f (M t x y) = M u (rd f x) (rd f y)
      · right
        refine ⟨fun x' a b => ?_, fun h' => inner (fun y a b e => absurd (hall y a b) e) fun _ => h'⟩
        by_cases hxx : x' = x
        · rw [hxx]; exact hall
        · exact hx x' a (by omega)
      · left
        exact inner (fun y a b e => ⟨bad x0 x1 a b e, rfl⟩) fun h => absurd h hall
    · intro hx
      refine ev_eq (fun _ k _ => morph_isHom_2_eq k) (ev_neg (by omega) (ev_ret ⟨?_, rfl⟩))
      rw [decide_eq_true]
      exact ⟨by omega, fun x a b => hin x a (by omega), fun x y a b c d => hx x a b y c d⟩
open Classical in
theorem morph_IsHom_ev {s w q : Sl} {t u : List (List Int)} {f : List Int} {H : AH} {lo : Nat} (h1 : In2 t) (h2 : In2 u) (ht : Tab H s t) (hu : Tab H w u) (hf : Row H q f) : Ev (fun ρ k κ => morph_IsHom k s w q lo H κ) (Is (decide ((val t = 0 ∧ val u = 0) ∧ Hm t u f)) H) := by
  refine ev_eq (fun _ k _ => morph_IsHom_eq k) (ev_is (mult_Validate_ev h1 ht) (ev_andP (c := val u = 0) (fun _ => ev_is (mult_Validate_ev h2 hu) (ev_ret ⟨rfl, rfl⟩)) (ev_andP (c := Hm t u f) (fun h => ev_is (morph_isHom_ev ht hu hf (val_va.1 h.1).toSq (val_va.1 h.2).toSq) (ev_ret ⟨rfl, rfl⟩)) (ev_ret ⟨rfl, rfl⟩))))
theorem semigrouplaw20_small_ev {s : Sl} {t : List (List Int)} {H : AH} {lo : Nat} {n : Int} (ht : In2 t) (hs : Tab H s t) : Ev (fun ρ k κ => semigrouplaw20_small k s n lo H κ) (Is (decide ((t.length : Int) ≤ n ∧ val t = 0)) H) := by
  refine ev_eq (fun _ k _ => semigrouplaw20_small_eq k) ?_
  rw [hs.len]
  exact ev_andP (fun _ => ev_is (semigroupref14_Valid_ev ht hs) (ev_ret ⟨rfl, rfl⟩)) (ev_ret ⟨rfl, rfl⟩)

end Go.Ab

/- Extending maps of generators. What it answers. No condition but that tables and rows come in. -/
set_option linter.unusedVariables false
set_option linter.unusedSimpArgs false
namespace Go.Ab
open Go
open Classical in
theorem morph_Extend_ev {s w q p : Sl} {t u : List (List Int)} {gs is : List Int} {H : AH} {lo : Nat} (hlo : lo ≤ H.length) (h1 : In2 t) (h2 : In2 u) (hgl : gs.length ≤ 9223372036854775807) (ht : Tab H s t) (hu : Tab H w u) (hg : Row H q gs) (hi : Row H p is) : Ev (fun ρ k κ => morph_Extend k s q w p lo H κ) (fun r H' => r.2 = decide (XOk t u gs is) ∧ Sep H H' [own reI r.1 (xtL t u gs is)]) := by
  have no : ∀ {H'}, Le H H' → ¬ XOk t u gs is → ((⟨none, 0⟩ : Sl), false).2 = decide (XOk t u gs is) ∧ Sep H H' [own reI ((⟨none, 0⟩ : Sl), false).1 (xtL t u gs is)] := fun l h => ⟨by rw [decide_eq_false h], by rw [xtL_no h]; exact (Sep.of_le l).nilS _⟩
  refine ev_eq (fun _ k _ => morph_Extend_eq k) (ev_is (mult_Validate_ev h1 ht) ?_)
  refine ev_orV (c := !decide (val u = 0)) (fun _ => ev_is (mult_Validate_ev h2 hu) (ev_ret ⟨rfl, rfl⟩)) (ev_orV (c := !decide ((gs.length : Int) = (is.length : Int))) (fun _ => ev_ret ⟨by rw [hg.len, hi.len], rfl⟩) (ev_b (fun hb => ev_ret (no (Le.refl _) fun hh => ?_)) (fun hb => ?_)))
  · simp [hh.1.1.1, hh.1.1.2, hh.1.2] at hb
  simp only [Bool.or_eq_false_iff, Bool.not_eq_false', decide_eq_true_iff] at hb
  obtain ⟨⟨ha, hb⟩, hl⟩ := hb
  have hv := val_va.1 ha
  have hw := val_va.1 hb
  have hn := hv.le
  have hm := hw.le
  have hok : (val t = 0 ∧ val u = 0) ∧ gs.length = is.length := ⟨⟨ha, hb⟩, by omega⟩
  rw [ht.len]
  refine sp_mks (x := (0 : Int)) (Sep.nil H) reI (fun _ => ⟨rfl, rfl⟩) (by omega) (by omega) fun f0 H10 hS => ?_
  have hf0 : (f0.len : Int) = (t.length : Int) := by rw [hS.len]; simp
  rw [hf0]
  refine ev_loop (α := AH) (g := fun x H ρ k κ => morph_Extend_1 k s q w p f0 (t.length : Int) x lo H κ) (t.length : Int) (fun x H' => ∃ f, Sep H H' [own reI f0 f] ∧ f.length = t.length ∧ ∀ y : Int, 0 ≤ y → y < x → rd f y = -1) ?_ ?_ 0 H10 (by omega) (by omega) ⟨_, hS, by simp, fun y a b => by omega⟩
  · rintro x H1 x0 x1 ⟨f, hS, hfl, hx⟩ hk
    refine ev_eq (fun _ k _ => morph_Extend_1_eq k) (ev_pos x1 (sp_put (x := (-1 : Int)) hS hlo (fun _ => ⟨rfl, rfl⟩) x0 (by omega) fun H3 hS => ?_))
    rw [W_add x0 x1 (by omega)]
    refine hk H3 ⟨_, hS, by simpa using hfl, fun y y0 y1 => ?_⟩
    rw [rd_set x0 (by omega) y0]
    by_cases hy : y = x
    · rw [if_pos hy]
    · rw [if_neg hy]; exact hx y y0 (by omega)
  rintro H1 ⟨f, hS, hfl, hx⟩
  refine ev_eq (fun _ k _ => morph_Extend_1_eq k) (ev_neg (by omega) ?_)
  rw [hg.len]
  refine ev_loop (α := Sl × AH) (g := fun i a ρ k κ => morph_Extend_2 k s q w p f0 a.1 q (gs.length : Int) i lo a.2 κ) (gs.length : Int) (fun i a => ∃ f ll, Sep H a.2 [own reI a.1 ll, own reI f0 f] ∧ Wk t u gs is f ll ∧ ∀ j : Int, 0 ≤ j → j < i → (0 ≤ rd gs j ∧ rd gs j < (t.length : Int)) ∧ (0 ≤ rd is j ∧ rd is j < (u.length : Int)) ∧ rd f (rd gs j) = rd is j) ?_ ?_ 0 (⟨none, 0⟩, H1) (by omega) (by omega) ⟨f, [], hS.nilS reI, Wk.zero (by omega) hfl hx, fun j a b => by omega⟩
  · rintro i ⟨o, H2⟩ i0 i1 ⟨f, ll, hS, wk, hp⟩ hk
    simp only at hS
    have i2 : i < (is.length : Int) := by omega
    have hg' := hg.le hS.le
    have hi' := hi.le hS.le
    have lf := wk.len
    have bd := wk.bound
    refine ev_eq (fun _ k _ => morph_Extend_2_eq k) (ev_pos i1 (ev_rdI hg' i0 i1 ?_))
    rw [ht.len, hu.len]
    refine ev_orP (c := rd gs i ≥ (t.length : Int)) (fun _ => ev_ret ⟨rfl, rfl⟩) (ev_orP (c := rd is i < 0) (fun _ => ev_rdI hi' i0 i2 (ev_ret ⟨rfl, rfl⟩)) (ev_orP (c := rd is i ≥ (u.length : Int)) (fun _ => ev_rdI hi' i0 i2 (ev_ret ⟨rfl, rfl⟩)) (ev_orP (c := rd f (rd gs i) ≥ 0 ∧ ¬ rd f (rd gs i) = rd is i) (fun hh => ?_) (ev_if (fun hh => ev_ret (no hS.le fun hk => ?_)) (fun hh => ?_)))))
    · have hf := (hS.pull 1).row
      exact ev_rdI hf (by omega) (by omega) (ev_andP (c := ¬ rd f (rd gs i) = rd is i) (fun _ => ev_rdI hf (by omega) (by omega) (ev_rdI hi' i0 i2 (ev_ret ⟨by rw [decide_not], rfl⟩))) (ev_ret ⟨rfl, rfl⟩))
    · have a := hk.2.1 _ (rd_mem i0 i1)
      have b := hk.2.2.1 _ (rd_mem i0 i2)
      obtain ⟨h, hx⟩ := hk.2.2.2.2
      have c := hx.gen i i0 i1
      have d := fun e => wk.agree hx a.1 a.2 e
      omega
    · have a : 0 ≤ rd gs i ∧ rd gs i < (t.length : Int) := by omega
      have b : 0 ≤ rd is i ∧ rd is i < (u.length : Int) := by omega
      refine ev_rdI (hS.pull 1).row a.1 (by omega) (ev_if (fun hz => ev_rdI hi' i0 i2 (sp_put (x := rd is i) (hS.pull 1) hlo (fun _ => ⟨rfl, rfl⟩) a.1 (by omega) fun H3 hS => sp_app1 (x := rd gs i) (hS.pull 1) hlo (fun _ => ⟨rfl, rfl⟩) (by omega) fun o' H4 hS => ?_)) (fun hz => ?_))
      · refine ev_eq (fun _ k _ => morph_Extend_3_eq k) ?_
        rw [W_add i0 i1 (by omega)]
        refine hk (o', H4) ⟨_, _, hS, wk.add a.1 a.2 hz b.1 b.2 (.base (rd_mem i0 i1)) (fun h hx => hx.gen i i0 i1), fun j j0 j1 => ?_⟩
        by_cases hj : j = i
        · rw [hj, rd_set a.1 (by omega) a.1, if_pos rfl]; exact ⟨a, b, rfl⟩
        · obtain ⟨c, d, e⟩ := hp j j0 (by omega)
          exact ⟨c, d, by rw [wk.keep a.1 a.2 hz c.1 (by omega)]; exact e⟩
      · refine ev_eq (fun _ k _ => morph_Extend_3_eq k) ?_
        rw [W_add i0 i1 (by omega)]
        refine hk (o, H2) ⟨f, ll, hS, wk, fun j j0 j1 => ?_⟩
        by_cases hj : j = i
        · rw [hj]; exact ⟨a, b, by omega⟩
        · exact hp j j0 (by omega)
  rintro ⟨o, H2⟩ ⟨f, ll, hS, wk, hp⟩
  simp only at hS
  have eg : El t gs := rd_all.2 fun j a b => (hp j a b).1
  have es : El u is := rd_all.2 fun j a b => (hp j a (by omega)).2.1
  refine ev_eq (fun _ k _ => morph_Extend_2_eq k) (ev_neg (by omega) ?_)
  have fin : ∀ (i : Int) (o : Sl) (H2 : AH) (f ll : List Int), Sep H H2 [own reI o ll, own reI f0 f] → Wk t u gs is f ll → (∀ j : Int, 0 ≤ j → j < (gs.length : Int) → rd f (rd gs j) = rd is j) → (∀ p : Int, 0 ≤ p → p < i → ∀ j : Int, 0 ≤ j → j < (gs.length : Int) → M t (rd ll p) (rd gs j) ∈ ll) → (ll.length : Int) ≤ i → Ev (fun ρ k κ => morph_Extend_4 k s q w p f0 o i lo H2 κ) (fun r H' => r.2 = decide (XOk t u gs is) ∧ Sep H H' [own reI r.1 (xtL t u gs is)]) := by
    intro i o H2 f ll hS wk hp hc hi
    refine ev_eq (fun _ k _ => morph_Extend_4_eq k) ?_
    rw [hS.len, ht.len]
    refine ev_neg (by omega) (ev_orV (c := !decide (Hm t u f)) (fun _ => ev_is (morph_isHom_ev (ht.le hS.le) (hu.le hS.le) (hS.pull 1).row hv.toSq hw.toSq) (ev_ret ⟨rfl, rfl⟩)) (ev_b (fun hh => ev_ret (no hS.le fun hk => ?_)) (fun hh => ev_ret ?_)))
    · have := wk.no hk fun x hx => hx.right hv eg (S := fun x => x ∈ ll) wk.into (fun g hg => ?_) (fun x g hx hg => ?_)
      · simp [this.2] at hh; exact this.1 (by omega)
      · obtain ⟨j, j0, j1, rfl⟩ := rd_of_mem hg
        have a := eg _ hg
        have b := es _ (rd_mem j0 (show j < (is.length : Int) by omega))
        exact (wk.iff _ a.1 a.2).1 (by rw [hp j j0 j1]; exact b.1)
      · obtain ⟨j, j0, j1, rfl⟩ := rd_of_mem hg
        obtain ⟨p, p0, p1, rfl⟩ := rd_of_mem hx
        exact hc p p0 (by omega) j j0 j1
    · simp only [Bool.or_eq_false_iff, Bool.not_eq_false', decide_eq_true_iff, decide_eq_false_iff_not] at hh
      have := wk.yes hok eg es hh.1 hh.2 hp
      exact ⟨by rw [decide_eq_true this.1], ((hS.pull 1).take 1).eq this.2⟩
  refine ev_loop (α := Sl × AH) (g := fun i a ρ k κ => morph_Extend_4 k s q w p f0 a.1 i lo a.2 κ) (t.length : Int) (fun i a => ∃ f ll, Sep H a.2 [own reI a.1 ll, own reI f0 f] ∧ Wk t u gs is f ll ∧ (∀ j : Int, 0 ≤ j → j < (gs.length : Int) → rd f (rd gs j) = rd is j) ∧ (∀ p : Int, 0 ≤ p → p < i → ∀ j : Int, 0 ≤ j → j < (gs.length : Int) → M t (rd ll p) (rd gs j) ∈ ll) ∧ i ≤ (ll.length : Int)) ?_ ?_ 0 (o, H2) (by omega) (by omega) ⟨f, ll, hS, wk, fun j a b => (hp j a b).2.2, fun p a b => by omega, by omega⟩
  · rintro i ⟨o, H3⟩ i0 i1 ⟨f, ll, hS, wk, hp, hc, hle⟩ hk
    simp only at hS
    by_cases hlt : i < (ll.length : Int)
    · refine ev_eq (fun _ k _ => morph_Extend_4_eq k) ?_
      rw [hS.len]
      refine ev_pos hlt ?_
      rw [hg.len]
      refine ev_loop (α := Sl × AH) (g := fun k' a ρ k κ => morph_Extend_5 k s q w p f0 a.1 i q (gs.length : Int) k' lo a.2 κ) (gs.length : Int) (fun k' a => ∃ f ll, Sep H a.2 [own reI a.1 ll, own reI f0 f] ∧ Wk t u gs is f ll ∧ (∀ j : Int, 0 ≤ j → j < (gs.length : Int) → rd f (rd gs j) = rd is j) ∧ (∀ p : Int, 0 ≤ p → p < i → ∀ j : Int, 0 ≤ j → j < (gs.length : Int) → M t (rd ll p) (rd gs j) ∈ ll) ∧ i < (ll.length : Int) ∧ (∀ j : Int, 0 ≤ j → j < k' → M t (rd ll i) (rd gs j) ∈ ll)) ?_ ?_ 0 (o, H3) (by omega) (by omega) ⟨f, ll, hS, wk, hp, hc, hlt, fun j a b => by omega⟩
      · rintro k' ⟨o, H4⟩ k0 k1 ⟨f, ll, hS, wk, hp, hc, hlt, hd⟩ hk
        simp only at hS
        have k2 : k' < (is.length : Int) := by omega
        have hg' := hg.le hS.le
        have hi' := hi.le hS.le
        have lf := wk.len
        have bd := wk.bound
        have hX := wk.into _ (rd_mem i0 hlt)
        have hG := eg _ (rd_mem k0 k1)
        have hI := es _ (rd_mem k0 k2)
        have fX := (wk.iff _ hX.1 hX.2).2 (rd_mem i0 hlt)
        have fX' := wk.hi _ hX.1 hX.2
        have z0 := hv.lo _ _ hX.1 hX.2 hG.1 hG.2
        have z1 := hv.hi _ _ hX.1 hX.2 hG.1 hG.2
        have y0 := hw.lo _ _ fX fX' hI.1 hI.2
        have y1 := hw.hi _ _ fX fX' hI.1 hI.2
        have rX := hv.row _ hX.1 hX.2
        have ru := hw.row _ fX fX'
        have hf := (hS.pull 1).row
        have val : ∀ h, Xt t u gs is h → rd h (M t (rd ll i) (rd gs k')) = M u (rd f (rd ll i)) (rd is k') := fun h hx => by
          rw [hx.hom.mul _ _ hX.1 hX.2 hG.1 hG.2, hx.gen k' k0 k1, wk.agree hx hX.1 hX.2 fX]
        refine ev_eq (fun _ k _ => morph_Extend_5_eq k) (ev_pos k1 (ev_rdI hg' k0 k1 (ev_rdI hS.row i0 hlt (ev_rdM (ht.le hS.le) hX.1 hX.2 hG.1 (by omega) (ev_rdI hS.row i0 hlt (ev_rdI hf hX.1 (by omega) (ev_rdS (hu.le hS.le) fX fX' fun r hr => ev_rdI hi' k0 k2 (ev_rdI hr hI.1 (by omega) (ev_rdI hf z0 (by omega) (ev_andP (c := ¬ rd f (M t (rd ll i) (rd gs k')) = M u (rd f (rd ll i)) (rd is k')) (fun _ => ev_rdI hf z0 (by omega) (ev_ret ⟨by rw [decide_not]; rfl, rfl⟩)) (ev_if (fun hh => ev_ret (no hS.le fun hk => ?_)) (fun hh => ev_rdI hf z0 (by omega) ?_))))))))))))
        · obtain ⟨h, hx⟩ := hk.2.2.2.2
          have a := val h hx
          have b := wk.agree hx z0 z1 hh.1
          omega
        · refine ev_if (fun hz => sp_put (x := M u (rd f (rd ll i)) (rd is k')) (hS.pull 1) hlo (fun _ => ⟨rfl, rfl⟩) z0 (by omega) fun H5 hS => sp_app1 (x := M t (rd ll i) (rd gs k')) (hS.pull 1) hlo (fun _ => ⟨rfl, rfl⟩) (by omega) fun o' H6 hS => ?_) (fun hz => ?_)
          · refine ev_eq (fun _ k _ => morph_Extend_6_eq k) ?_
            rw [W_add k0 k1 (by omega)]
            refine hk (o', H6) ⟨_, _, hS, wk.add z0 z1 hz y0 y1 (.mul (wk.gn _ (rd_mem i0 hlt)) (.base (rd_mem k0 k1))) val, fun j j0 j1 => ?_, fun p p0 p1 j j0 j1 => ?_, by simp; omega, fun j j0 j1 => ?_⟩
            · have a := eg _ (rd_mem j0 j1)
              have b := es _ (rd_mem j0 (show j < (is.length : Int) by omega))
              have c := hp j j0 j1
              rw [wk.keep z0 z1 hz a.1 (by omega)]; exact c
            · rw [rd_before p0 (by omega)]
              exact List.mem_append_left _ (hc p p0 p1 j j0 j1)
            · rw [rd_before i0 hlt]
              by_cases hj : j = k'
              · rw [hj]; simp
              · exact List.mem_append_left _ (hd j j0 (by omega))
          · refine ev_eq (fun _ k _ => morph_Extend_6_eq k) ?_
            rw [W_add k0 k1 (by omega)]
            refine hk (o, H4) ⟨f, ll, hS, wk, hp, hc, hlt, fun j j0 j1 => ?_⟩
            by_cases hj : j = k'
            · rw [hj]; exact (wk.iff _ z0 z1).1 (by omega)
            · exact hd j j0 (by omega)
      · rintro ⟨o, H4⟩ ⟨f, ll, hS, wk, hp, hc, hlt, hd⟩
        refine ev_eq (fun _ k _ => morph_Extend_5_eq k) (ev_neg (by omega) ?_)
        rw [W_add i0 i1 (by omega)]
        refine hk (o, H4) ⟨f, ll, hS, wk, hp, fun p p0 p1 j j0 j1 => ?_, by omega⟩
        by_cases hpi : p = i
        · rw [hpi]; exact hd j j0 j1
        · exact hc p p0 (by omega) j j0 j1
    · exact fin i o H3 f ll hS wk hp hc (by omega)
  · rintro ⟨o, H3⟩ ⟨f, ll, hS, wk, hp, hc, hle⟩
    exact fin _ o H3 f ll hS wk hp hc (by have := wk.bound; omega)

end Go.Ab

/- What elements generate, generators. What they answer. No condition but that a table comes in. -/
set_option linter.unusedVariables false
set_option linter.unusedSimpArgs false
namespace Go.Ab
open Go
theorem mult_generated_f1_ev {p3 p6 : Pt} {sb so : Sl} {t : List (List Int)} {gs : List Int} {b : List Bool} {ll : List Int} {x : Int} {H0 H : AH} {lo : Nat} (hlo : lo ≤ H0.length) (hn : (t.length : Int) ≤ 400) (hS : Sep H0 H [own reI so ll, own reB sb b, ownC p6 [.sl so], ownC p3 [.sl sb]]) (gk : Gk t gs b ll) (x0 : 0 ≤ x) (x1 : x < (t.length : Int)) (hg : Gn t gs x) : Ev (fun ρ k κ => mult_generated_f1 k x (some p3) (some p6) lo H κ) (fun _ H' => ∃ so' b' e, Sep H0 H' [own reI so' (ll ++ e), own reB sb b', ownC p6 [.sl so'], ownC p3 [.sl sb]] ∧ Gk t gs b' (ll ++ e) ∧ x ∈ ll ++ e) := by
  have lb := gk.len
  have bd := gk.bound
  refine ev_eq (fun _ k _ => mult_generated_f1_eq k) (ev_asP (ev_var (hS.pull 3).at1 (ev_rdB (hS.pull 1).rowB x0 (by omega) (ev_b (fun hh => ?_) (fun hh => ev_ret ?_)))))
  · refine ev_asP (ev_var (hS.pull 3).at1 (sp_put (x := true) (hS.pull 1) hlo (fun _ => ⟨rfl, rfl⟩) x0 (by omega) fun H9 hS => ev_asP (ev_var (hS.pull 2).at1 (sp_app1 (x := x) (hS.pull 1) hlo (fun _ => ⟨rfl, rfl⟩) (by omega) fun s15 H16 hS => ev_asP (sp_stv (hS.pull 2) hlo fun H18 hS => ev_ret ⟨s15, _, [x], hS.ord [1, 1, 0, 0], gk.add x0 x1 (by simpa using hh) hg, by simp⟩)))))
  · refine ⟨so, b, [], by simpa using hS, by simpa using gk, ?_⟩
    have := (gk.iff x x0 x1).1 (by simpa using hh)
    simpa using this
open Classical in
theorem mult_generated_ev {s q : Sl} {t : List (List Int)} {gs : List Int} {H : AH} {lo : Nat} (hlo : lo ≤ H.length) (hv : Va t) (ht : Tab H s t) (hg : Row H q gs) (hgl : gs.length ≤ 9223372036854775807) (eg : El t gs) : Ev (fun ρ k κ => mult_generated k s q lo H κ) (fun v H' => Sep H H' [own reI v (sel (Gn t gs) 0 t.length)]) := by
  have hn := hv.le
  refine ev_eq (fun _ k _ => mult_generated_eq k) ?_
  rw [ht.len, hg.len]
  refine sp_mks (x := false) (Sep.nil H) reB (fun _ => ⟨rfl, rfl⟩) (by omega) (by omega) fun sb H2 hS => sp_alc hS fun p3 H4 hS => sp_stv hS hlo fun H5 hS => sp_alc hS fun p6 H7 hS => ?_
  rw [Int.toNat_natCast] at hS
  have hS := ((hS.ord [0, 1, 0]).nilS reI).ord [0, 1, 0, 0]
  refine ev_loop (α := AH) (g := fun i H ρ k κ => mult_generated_1 k s q (some p3) (some p6) (some p3) (some p6) q (gs.length : Int) i lo H κ) (gs.length : Int) (fun i H' => ∃ so b ll, Sep H H' [own reI so ll, own reB sb b, ownC p6 [.sl so], ownC p3 [.sl sb]] ∧ Gk t gs b ll ∧ ∀ j : Int, 0 ≤ j → j < i → rd gs j ∈ ll) ?_ ?_ 0 H7 (by omega) (by omega) ⟨_, _, _, hS, Gk.zero, fun j a b => by omega⟩
  · rintro i H1 i0 i1 ⟨so, b, ll, hS, gk, hp⟩ hk
    have a := eg _ (rd_mem i0 i1)
    refine ev_eq (fun _ k _ => mult_generated_1_eq k) (ev_pos i1 (ev_rdI (hg.le hS.le) i0 i1 (ev_call (mult_generated_f1_ev hlo hn hS gk a.1 a.2 (.base (rd_mem i0 i1))) fun _ H3 ⟨so', b', e, hS', gk', he⟩ => ?_)))
    rw [W_add i0 i1 (by omega)]
    refine hk H3 ⟨so', b', _, hS', gk', fun j j0 j1 => ?_⟩
    by_cases hj : j = i
    · rw [hj]; exact he
    · exact List.mem_append_left _ (hp j j0 (by omega))
  rintro H1 ⟨so, b, ll, hS, gk, hp⟩
  refine ev_eq (fun _ k _ => mult_generated_1_eq k) (ev_neg (by omega) ?_)
  have fin : ∀ (i : Int) (so : Sl) (H2 : AH) (b : List Bool) (ll : List Int), Sep H H2 [own reI so ll, own reB sb b, ownC p6 [.sl so], ownC p3 [.sl sb]] → Gk t gs b ll → (∀ j : Int, 0 ≤ j → j < (gs.length : Int) → rd gs j ∈ ll) → (∀ p : Int, 0 ≤ p → p < i → ∀ j : Int, 0 ≤ j → j < (gs.length : Int) → M t (rd ll p) (rd gs j) ∈ ll) → (ll.length : Int) ≤ i → Ev (fun ρ k κ => mult_generated_2 k s q (some p3) (some p6) (some p3) (some p6) i lo H2 κ) (fun v H' => Sep H H' [own reI v (sel (Gn t gs) 0 t.length)]) := by
    intro i so H2 b ll hS gk hp hc hi
    have lb := gk.len
    have hcl : ∀ x, Gn t gs x → x ∈ ll := fun x hx => hx.right hv eg (S := fun x => x ∈ ll) gk.into (fun g hg => by
      obtain ⟨j, j0, j1, rfl⟩ := rd_of_mem hg
      exact hp j j0 j1) (fun x g hx hg => by
      obtain ⟨j, j0, j1, rfl⟩ := rd_of_mem hg
      obtain ⟨p, p0, p1, rfl⟩ := rd_of_mem hx
      exact hc p p0 (by omega) j j0 j1)
    have hmem : ∀ x : Int, 0 ≤ x → x < (t.length : Int) → (rdOf false b x = true ↔ Gn t gs x) := fun x x0 x1 => (gk.iff x x0 x1).trans ⟨gk.gn x, hcl x⟩
    refine ev_eq (fun _ k _ => mult_generated_2_eq k) (ev_asP (ev_var (hS.pull 2).at1 ?_))
    rw [hS.len]
    refine ev_neg (by omega) (ev_asP (ev_var (hS.pull 3).at1 ?_))
    have hS := hS.ord [1]
    rw [hS.len, lb]
    refine ev_loop (α := Sl × AH) (g := fun v a ρ k κ => mult_generated_4 k a.1 sb (t.length : Int) v lo a.2 κ) (t.length : Int) (fun v a => Sep H a.2 [own reI a.1 (sel (Gn t gs) 0 v.toNat), own reB sb b]) ?_ ?_ 0 (⟨none, 0⟩, H2) (by omega) (by omega) (hS.nilS reI)
    · rintro v ⟨o, H2⟩ v0 v1 hS hk
      simp only at hS
      have hln := sel_len (P := Gn t gs) (i := 0) (m := v.toNat)
      refine ev_eq (fun _ k _ => mult_generated_4_eq k) (ev_pos v1 (ev_rdB (hS.pull 1).rowB v0 (by omega) (ev_b (fun hh => ?_) (fun hh => ?_))))
      · refine sp_app1 (x := v) hS hlo (fun _ => ⟨rfl, rfl⟩) (by omega) fun o' H3 hS => ev_eq (fun _ k _ => mult_generated_5_eq k) ?_
        rw [W_add v0 v1 (by omega)]
        exact hk (o', H3) (hS.eq (sel_snoc (P := Gn t gs) v0 ((hmem v v0 v1).1 hh)))
      · refine ev_eq (fun _ k _ => mult_generated_5_eq k) ?_
        rw [W_add v0 v1 (by omega)]
        exact hk (o, H2) (hS.eq (sel_skip (P := Gn t gs) v0 (fun h => by rw [(hmem v v0 v1).2 h] at hh; cases hh)))
    · rintro ⟨o, H2⟩ hS
      simp only [Int.toNat_natCast] at hS
      exact ev_eq (fun _ k _ => mult_generated_4_eq k) (ev_neg (by omega) (ev_ret (hS.take 1)))
  refine ev_loop (α := AH) (g := fun i H ρ k κ => mult_generated_2 k s q (some p3) (some p6) (some p3) (some p6) i lo H κ) (t.length : Int) (fun i H' => ∃ so b ll, Sep H H' [own reI so ll, own reB sb b, ownC p6 [.sl so], ownC p3 [.sl sb]] ∧ Gk t gs b ll ∧ (∀ j : Int, 0 ≤ j → j < (gs.length : Int) → rd gs j ∈ ll) ∧ (∀ p : Int, 0 ≤ p → p < i → ∀ j : Int, 0 ≤ j → j < (gs.length : Int) → M t (rd ll p) (rd gs j) ∈ ll) ∧ i ≤ (ll.length : Int)) ?_ ?_ 0 H1 (by omega) (by omega) ⟨so, b, ll, hS, gk, hp, fun p a b => by omega, by omega⟩
  · rintro i H3 i0 i1 ⟨so, b, ll, hS, gk, hp, hc, hle⟩ hk
    by_cases hlt : i < (ll.length : Int)
    · refine ev_eq (fun _ k _ => mult_generated_2_eq k) (ev_asP (ev_var (hS.pull 2).at1 ?_))
      rw [hS.len]
      refine ev_pos hlt ?_
      rw [hg.len]
      refine ev_loop (α := AH) (g := fun k' H ρ k κ => mult_generated_3 k s q (some p3) (some p6) (some p3) (some p6) i q (gs.length : Int) k' lo H κ) (gs.length : Int) (fun k' H' => ∃ so b ll, Sep H H' [own reI so ll, own reB sb b, ownC p6 [.sl so], ownC p3 [.sl sb]] ∧ Gk t gs b ll ∧ (∀ j : Int, 0 ≤ j → j < (gs.length : Int) → rd gs j ∈ ll) ∧ (∀ p : Int, 0 ≤ p → p < i → ∀ j : Int, 0 ≤ j → j < (gs.length : Int) → M t (rd ll p) (rd gs j) ∈ ll) ∧ i < (ll.length : Int) ∧ (∀ j : Int, 0 ≤ j → j < k' → M t (rd ll i) (rd gs j) ∈ ll)) ?_ ?_ 0 H3 (by omega) (by omega) ⟨so, b, ll, hS, gk, hp, hc, hlt, fun j a b => by omega⟩
      · rintro k' H4 k0 k1 ⟨so, b, ll, hS, gk, hp, hc, hlt, hd⟩ hk
        have hX := gk.into _ (rd_mem i0 hlt)
        have hG := eg _ (rd_mem k0 k1)
        have z0 := hv.lo _ _ hX.1 hX.2 hG.1 hG.2
        have z1 := hv.hi _ _ hX.1 hX.2 hG.1 hG.2
        have rX := hv.row _ hX.1 hX.2
        refine ev_eq (fun _ k _ => mult_generated_3_eq k) (ev_pos k1 (ev_rdI (hg.le hS.le) k0 k1 (ev_asP (ev_var (hS.pull 2).at1 (ev_rdI hS.row i0 hlt (ev_rdM (ht.le hS.le) hX.1 hX.2 hG.1 (by omega) (ev_call (mult_generated_f1_ev hlo hn hS gk z0 z1 (.mul (gk.gn _ (rd_mem i0 hlt)) (.base (rd_mem k0 k1)))) fun _ H9 ⟨so', b', e, hS', gk', he⟩ => ?_)))))))
        rw [W_add k0 k1 (by omega)]
        have old : ∀ p : Int, 0 ≤ p → p < (ll.length : Int) → rd (ll ++ e) p = rd ll p := fun p p0 p1 => by
          unfold rd
          rw [List.getD_eq_getElem?_getD, List.getD_eq_getElem?_getD, List.getElem?_append_left (by omega)]
        refine hk H9 ⟨so', b', _, hS', gk', fun j j0 j1 => List.mem_append_left _ (hp j j0 j1), fun p p0 p1 j j0 j1 => ?_, by simp; omega, fun j j0 j1 => ?_⟩
        · rw [old p p0 (by omega)]; exact List.mem_append_left _ (hc p p0 p1 j j0 j1)
        · rw [old i i0 hlt]
          by_cases hj : j = k'
          · rw [hj]; exact he
          · exact List.mem_append_left _ (hd j j0 (by omega))
      · rintro H4 ⟨so, b, ll, hS, gk, hp, hc, hlt, hd⟩
        refine ev_eq (fun _ k _ => mult_generated_3_eq k) (ev_neg (by omega) ?_)
        rw [W_add i0 i1 (by omega)]
        refine hk H4 ⟨so, b, ll, hS, gk, hp, fun p p0 p1 j j0 j1 => ?_, by omega⟩
        by_cases hpi : p = i
        · rw [hpi]; exact hd j j0 j1
        · exact hc p p0 (by omega) j j0 j1
    · exact fin i so H3 b ll hS gk hp hc (by omega)
  · rintro H3 ⟨so, b, ll, hS, gk, hp, hc, hle⟩
    exact fin _ so H3 b ll hS gk hp hc (by have := gk.bound; omega)
theorem mult_Generators_ev {s : Sl} {t : List (List Int)} {H : AH} {lo : Nat} (hlo : lo ≤ H.length) (h1 : In2 t) (hv : Va t) (ht : Tab H s t) : Ev (fun ρ k κ => mult_Generators k s lo H κ) (fun v H' => ∃ gs, Sep H H' [own reI v gs] ∧ El t gs ∧ Fl t gs ∧ gs.length ≤ t.length) := by
  have hn := hv.le
  refine ev_eq (fun _ k _ => mult_Generators_eq k) (ev_is (mult_Validate_ev h1 ht) (ev_nneg (val_va.2 hv) ?_))
  rw [ht.len]
  refine sp_mks (x := false) (Sep.nil H) reB (fun _ => ⟨rfl, rfl⟩) (by omega) (by omega) fun sb H4 hS => ?_
  rw [Int.toNat_natCast] at hS
  refine ev_loop (α := Sl × AH) (g := fun x a ρ k κ => mult_Generators_1 k s a.1 sb (t.length : Int) x lo a.2 κ) (t.length : Int) (fun x a => ∃ gs b, Sep H a.2 [own reI a.1 gs, own reB sb b] ∧ b.length = t.length ∧ El t gs ∧ (gs.length : Int) ≤ x ∧ (∀ y : Int, 0 ≤ y → y < (t.length : Int) → rdOf false b y = true → Gn t gs y) ∧ ∀ y : Int, 0 ≤ y → y < x → Gn t gs y) ?_ ?_ 0 (⟨none, 0⟩, H4) (by omega) (by omega) ⟨[], _, hS.nilS reI, by simp, fun x h => by simp at h, by simp, fun y a b h => by (rw [rb_rep a b] at h; cases h), fun y a b => by omega⟩
  · rintro x ⟨o, H5⟩ x0 x1 ⟨gs, b, hS, lb, eg, hl, hb, hx⟩ hk
    simp only at hS
    refine ev_eq (fun _ k _ => mult_Generators_1_eq k) (ev_pos x1 (ev_rdB (hS.pull 1).rowB x0 (by omega) (ev_b (fun hh => ?_) (fun hh => ?_))))
    · refine ev_eq (fun _ k _ => mult_Generators_3_eq k) ?_
      rw [W_add x0 x1 (by omega)]
      refine hk (o, H5) ⟨gs, b, hS, lb, eg, by omega, hb, fun y y0 y1 => ?_⟩
      by_cases hy : y = x
      · rw [hy]; exact hb x x0 x1 hh
      · exact hx y y0 (by omega)
    · have eg' : El t (gs ++ [x]) := fun y hy => by
        rcases List.mem_append.1 hy with h | h
        · exact eg y h
        · rw [List.mem_singleton.1 h]; exact ⟨x0, x1⟩
      have up : ∀ y, Gn t gs y → Gn t (gs ++ [x]) y := fun y h => h.mono fun z hz => List.mem_append_left _ hz
      refine sp_app1 (x := x) hS hlo (fun _ => ⟨rfl, rfl⟩) (by omega) fun o' H6 hS => ev_call (mult_generated_ev (Nat.le_refl _) hv (ht.le hS.le) hS.row (by simp; omega) eg') fun m H7 hm => ?_
      have hS' := hS.call hm
      rw [hm.len]
      have lm := sel_len (P := Gn t (gs ++ [x])) (i := 0) (m := t.length)
      refine ev_loop (α := AH) (g := fun i H ρ k κ => mult_Generators_2 k s o' sb (t.length : Int) x m ((sel (Gn t (gs ++ [x])) 0 t.length).length : Int) i lo H κ) ((sel (Gn t (gs ++ [x])) 0 t.length).length : Int) (fun i H' => ∃ b, Sep H H' [own reI m (sel (Gn t (gs ++ [x])) 0 t.length), own reI o' (gs ++ [x]), own reB sb b] ∧ b.length = t.length ∧ ∀ y : Int, 0 ≤ y → y < (t.length : Int) → rdOf false b y = true → Gn t (gs ++ [x]) y) ?_ ?_ 0 H7 (by omega) (by omega) ⟨b, hS', lb, fun y y0 y1 h => up y (hb y y0 y1 h)⟩
      · rintro i H8 i0 i1 ⟨b, hS, lb, hb⟩ hk
        have hm := sel_mem.1 (rd_mem i0 i1)
        refine ev_eq (fun _ k _ => mult_Generators_2_eq k) (ev_pos i1 (ev_rdI hS.row i0 i1 (sp_put (x := true) (hS.pull 2) hlo (fun _ => ⟨rfl, rfl⟩) (by omega) (by omega) fun H9 hS => ?_)))
        rw [W_add i0 i1 (by omega)]
        refine hk H9 ⟨_, hS.push 2, by simpa using lb, fun y y0 y1 h => ?_⟩
        rw [rb_set (by omega) (by omega) y0] at h
        by_cases hy : y = rd (sel (Gn t (gs ++ [x])) 0 t.length) i
        · rw [hy]; exact hm.2.2
        · rw [if_neg hy] at h; exact hb y y0 y1 h
      · rintro H8 ⟨b, hS, lb, hb⟩
        refine ev_eq (fun _ k _ => mult_Generators_2_eq k) (ev_neg (by omega) (ev_eq (fun _ k _ => mult_Generators_3_eq k) ?_))
        rw [W_add x0 x1 (by omega)]
        refine hk (o', H8) ⟨_, b, hS.drop, lb, eg', by simp; omega, hb, fun y y0 y1 => ?_⟩
        by_cases hy : y = x
        · rw [hy]; exact .base (by simp)
        · exact up y (hx y y0 (by omega))
  · rintro ⟨o, H5⟩ ⟨gs, b, hS, lb, eg, hl, hb, hx⟩
    exact ev_eq (fun _ k _ => mult_Generators_1_eq k) (ev_neg (by omega) (ev_ret ⟨gs, hS.take 1, eg, hx, by omega⟩))

end Go.Ab
