/- What functions answer. No condition but what each theorem says. -/
import Derived.Test.YtdoggefpmamoiaaRMorphFactorsEq
import Derived.Test.YtdoggefpmamoiaaAbA2
import Derived.Test.YtdoggefpmamoiaaAbA3
import Derived.Test.YtdoggefpmamoiaaRMorphFactorsM1
/- Layer 14: shape, failing, Validate, Associative and the like. What they answer. No condition but that a table comes in. -/
set_option linter.unusedVariables false
set_option linter.unusedSimpArgs false
namespace Go.Ab
open Go
theorem mult_shape_l2 {A : AH} {s r : Sl} {t : List (List Int)} {H : AH} {Q : Int → AH → Prop} {lo : Nat} (ht : In2 t) (hs : Tab H s t) {x : Int} (h0 : 0 ≤ x) (h1 : x < (t.length : Int)) (hr : Row H r (R t x))
    (hb : (∃ y, 0 ≤ y ∧ y < ((R t x).length : Int) ∧ (M t x y < 0 ∨ (t.length : Int) ≤ M t x y)) → Q 4 H)
    (hend : (∀ y, 0 ≤ y → y < ((R t x).length : Int) → ¬ (M t x y < 0 ∨ (t.length : Int) ≤ M t x y)) → Ev (fun ρ k κ => mult_shape_1 k s s (t.length : Int) (x + 1) lo H κ) Q) :
    Ev (fun ρ k κ => mult_shape_2 k s s (t.length : Int) x r ((R t x).length : Int) 0 lo H κ) Q := by
  have hl := ht.row h0 h1
  have hsl := hs.len
  have hx : x + 1 ≤ 9223372036854775807 := by have := ht.1; omega
  refine ev_for0 (g := fun y ρ k κ => mult_shape_2 k s s (t.length : Int) x r ((R t x).length : Int) y lo H κ) ((R t x).length : Int) (fun i => ∀ y, 0 ≤ y → y < i → ¬ (M t x y < 0 ∨ (t.length : Int) ≤ M t x y)) ?_ ?_ 0 (by omega) (by omega) (fun y a b => by omega)
  · intro y hy0 hy1 hi
    by_cases hbad : M t x y < 0 ∨ (t.length : Int) ≤ M t x y
    · left
      refine ev_eq (fun _ k _ => mult_shape_2_eq k) (ev_pos hy1 (ev_rdI hr hy0 hy1 (ev_orP (fun _ => ev_ret ⟨rfl, rfl⟩) (ev_pos ?_ (ev_ret (hb ⟨y, hy0, hy1, hbad⟩))))))
      show M t x y < 0 ∨ M t x y ≥ (s.len : Int)
      omega
    · right
      refine ⟨fun z hz0 hz1 => ?_, fun H => ?_⟩
      · by_cases hzx : z < y
        · exact hi z hz0 hzx
        · have : z = y := by omega
          rw [this]; exact hbad
      refine ev_eq (fun _ k _ => mult_shape_2_eq k) (ev_pos hy1 (ev_rdI hr hy0 hy1 (ev_orP (fun _ => ev_ret ⟨rfl, rfl⟩) (ev_neg ?_ ?_))))
      · show ¬ (M t x y < 0 ∨ M t x y ≥ (s.len : Int))
        omega
      · rw [W_add hy0 hy1 (by omega)]; exact H
  · intro hi
    refine ev_eq (fun _ k _ => mult_shape_2_eq k) (ev_neg (by omega) ?_)
    rw [W_add h0 h1 (by omega)]
    exact hend hi
open Classical in
theorem mult_shape_ev {s : Sl} {t : List (List Int)} {H : AH} {lo : Nat} (ht : In2 t) (hs : Tab H s t) : Ev (fun ρ k κ => mult_shape k s lo H κ) (Is (shp t) H) := by
  unfold shp
  have hl := hs.len
  refine ev_eq (fun _ k _ => mult_shape_eq k) ?_
  rw [hl]
  refine ev_if (fun h => ?_) (fun h => ?_)
  · rw [if_pos h]; exact ev_ret ⟨rfl, rfl⟩
  rw [if_neg h]
  refine ev_if (fun h => ?_) (fun h2 => ?_)
  · rw [if_pos h]; exact ev_ret ⟨rfl, rfl⟩
  rw [if_neg h2]
  generalize hr : (if Bad t then (4 : Int) else 0) = r
  refine ev_for0 (g := fun x ρ k κ => mult_shape_1 k s s (t.length : Int) x lo H κ) (t.length : Int) (fun i => ∀ x, 0 ≤ x → x < i → ¬ (((R t x).length : Int) ≠ (t.length : Int) ∨ ∃ y, 0 ≤ y ∧ y < ((R t x).length : Int) ∧ (M t x y < 0 ∨ (t.length : Int) ≤ M t x y))) ?_ ?_ 0 (by omega) (by omega) (fun x a b => by omega)
  · intro x hx0 hx1 hi
    by_cases hbad : ((R t x).length : Int) ≠ (t.length : Int) ∨ ∃ y, 0 ≤ y ∧ y < ((R t x).length : Int) ∧ (M t x y < 0 ∨ (t.length : Int) ≤ M t x y)
    · left
      have hr4 : (4 : Int) = r := by rw [← hr, if_pos ⟨x, hx0, hx1, hbad⟩]
      refine ev_eq (fun _ k _ => mult_shape_1_eq k) (ev_pos hx1 (ev_rdS hs hx0 hx1 fun v hv => ?_))
      rw [hl, hv.len]
      refine ev_nif (fun _ => ev_ret ⟨hr4, rfl⟩) (fun he => ?_)
      rcases hbad with hbad | ⟨y, hy0, hy1, hbad⟩
      · exact absurd he hbad
      exact mult_shape_l2 (A := H) ht hs hx0 hx1 hv (fun _ => ⟨hr4, rfl⟩) (fun hn => absurd hbad (hn y hy0 hy1))
    · right
      refine ⟨fun z hz0 hz1 => ?_, fun H' => ?_⟩
      · by_cases hzx : z < x
        · exact hi z hz0 hzx
        · have : z = x := by omega
          rw [this]; exact hbad
      · have he : ((R t x).length : Int) = (t.length : Int) := Classical.byContradiction fun hn => hbad (.inl hn)
        refine ev_eq (fun _ k _ => mult_shape_1_eq k) (ev_pos hx1 (ev_rdS hs hx0 hx1 fun v hv => ?_))
        rw [hl, hv.len]
        exact ev_nneg he (mult_shape_l2 (A := H) ht hs hx0 hx1 hv (fun hy => absurd (.inr hy) hbad) (fun _ => H'))
  · intro hi
    refine ev_eq (fun _ k _ => mult_shape_1_eq k) (ev_neg (by omega) (ev_ret ⟨?_, rfl⟩))
    rw [← hr, if_neg]
    rintro ⟨x, a, b, c⟩
    exact hi x a b c
theorem semigroupref14_Shape_l2 {A : AH} {s r : Sl} {t : List (List Int)} {H : AH} {Q : Int → AH → Prop} {lo : Nat} (ht : In2 t) (hs : Tab H s t) {x : Int} (h0 : 0 ≤ x) (h1 : x < (t.length : Int)) (hr : Row H r (R t x))
    (hb : (∃ y, 0 ≤ y ∧ y < ((R t x).length : Int) ∧ (M t x y < 0 ∨ (t.length : Int) ≤ M t x y)) → Q 4 H)
    (hend : (∀ y, 0 ≤ y → y < ((R t x).length : Int) → ¬ (M t x y < 0 ∨ (t.length : Int) ≤ M t x y)) → Ev (fun ρ k κ => semigroupref14_Shape_1 k s s (t.length : Int) (x + 1) lo H κ) Q) :
    Ev (fun ρ k κ => semigroupref14_Shape_2 k s s (t.length : Int) x r ((R t x).length : Int) 0 lo H κ) Q := by
  have hl := ht.row h0 h1
  have hsl := hs.len
  have hx : x + 1 ≤ 9223372036854775807 := by have := ht.1; omega
  refine ev_for0 (g := fun y ρ k κ => semigroupref14_Shape_2 k s s (t.length : Int) x r ((R t x).length : Int) y lo H κ) ((R t x).length : Int) (fun i => ∀ y, 0 ≤ y → y < i → ¬ (M t x y < 0 ∨ (t.length : Int) ≤ M t x y)) ?_ ?_ 0 (by omega) (by omega) (fun y a b => by omega)
  · intro y hy0 hy1 hi
    by_cases hbad : M t x y < 0 ∨ (t.length : Int) ≤ M t x y
    · left
      refine ev_eq (fun _ k _ => semigroupref14_Shape_2_eq k) (ev_pos hy1 (ev_rdI hr hy0 hy1 (ev_orP (fun _ => ev_ret ⟨rfl, rfl⟩) (ev_pos ?_ (ev_ret (hb ⟨y, hy0, hy1, hbad⟩))))))
      show M t x y < 0 ∨ M t x y ≥ (s.len : Int)
      omega
    · right
      refine ⟨fun z hz0 hz1 => ?_, fun H => ?_⟩
      · by_cases hzx : z < y
        · exact hi z hz0 hzx
        · have : z = y := by omega
          rw [this]; exact hbad
      refine ev_eq (fun _ k _ => semigroupref14_Shape_2_eq k) (ev_pos hy1 (ev_rdI hr hy0 hy1 (ev_orP (fun _ => ev_ret ⟨rfl, rfl⟩) (ev_neg ?_ ?_))))
      · show ¬ (M t x y < 0 ∨ M t x y ≥ (s.len : Int))
        omega
      · rw [W_add hy0 hy1 (by omega)]; exact H
  · intro hi
    refine ev_eq (fun _ k _ => semigroupref14_Shape_2_eq k) (ev_neg (by omega) ?_)
    rw [W_add h0 h1 (by omega)]
    exact hend hi
open Classical in
theorem semigroupref14_Shape_ev {s : Sl} {t : List (List Int)} {H : AH} {lo : Nat} (ht : In2 t) (hs : Tab H s t) : Ev (fun ρ k κ => semigroupref14_Shape k s lo H κ) (Is (shp t) H) := by
  unfold shp
  have hl := hs.len
  refine ev_eq (fun _ k _ => semigroupref14_Shape_eq k) ?_
  rw [hl]
  refine ev_if (fun h => ?_) (fun h => ?_)
  · rw [if_pos h]; exact ev_ret ⟨rfl, rfl⟩
  rw [if_neg h]
  refine ev_if (fun h => ?_) (fun h2 => ?_)
  · rw [if_pos h]; exact ev_ret ⟨rfl, rfl⟩
  rw [if_neg h2]
  generalize hr : (if Bad t then (4 : Int) else 0) = r
  refine ev_for0 (g := fun x ρ k κ => semigroupref14_Shape_1 k s s (t.length : Int) x lo H κ) (t.length : Int) (fun i => ∀ x, 0 ≤ x → x < i → ¬ (((R t x).length : Int) ≠ (t.length : Int) ∨ ∃ y, 0 ≤ y ∧ y < ((R t x).length : Int) ∧ (M t x y < 0 ∨ (t.length : Int) ≤ M t x y))) ?_ ?_ 0 (by omega) (by omega) (fun x a b => by omega)
  · intro x hx0 hx1 hi
    by_cases hbad : ((R t x).length : Int) ≠ (t.length : Int) ∨ ∃ y, 0 ≤ y ∧ y < ((R t x).length : Int) ∧ (M t x y < 0 ∨ (t.length : Int) ≤ M t x y)
    · left
      have hr4 : (4 : Int) = r := by rw [← hr, if_pos ⟨x, hx0, hx1, hbad⟩]
      refine ev_eq (fun _ k _ => semigroupref14_Shape_1_eq k) (ev_pos hx1 (ev_rdS hs hx0 hx1 fun v hv => ?_))
      rw [hl, hv.len]
      refine ev_nif (fun _ => ev_ret ⟨hr4, rfl⟩) (fun he => ?_)
      rcases hbad with hbad | ⟨y, hy0, hy1, hbad⟩
      · exact absurd he hbad
      exact semigroupref14_Shape_l2 (A := H) ht hs hx0 hx1 hv (fun _ => ⟨hr4, rfl⟩) (fun hn => absurd hbad (hn y hy0 hy1))
    · right
      refine ⟨fun z hz0 hz1 => ?_, fun H' => ?_⟩
      · by_cases hzx : z < x
        · exact hi z hz0 hzx
        · have : z = x := by omega
          rw [this]; exact hbad
      · have he : ((R t x).length : Int) = (t.length : Int) := Classical.byContradiction fun hn => hbad (.inl hn)
        refine ev_eq (fun _ k _ => semigroupref14_Shape_1_eq k) (ev_pos hx1 (ev_rdS hs hx0 hx1 fun v hv => ?_))
        rw [hl, hv.len]
        exact ev_nneg he (semigroupref14_Shape_l2 (A := H) ht hs hx0 hx1 hv (fun hy => absurd (.inr hy) hbad) (fun _ => H'))
  · intro hi
    refine ev_eq (fun _ k _ => semigroupref14_Shape_1_eq k) (ev_neg (by omega) (ev_ret ⟨?_, rfl⟩))
    rw [← hr, if_neg]
    rintro ⟨x, a, b, c⟩
    exact hi x a b c
theorem mult_failing_l3 {s : Sl} {t : List (List Int)} {H : AH} {lo : Nat} {Q : (Int × Int × Int × Bool) → AH → Prop} (ht : Tab H s t) (hs : Sq t) {x y : Int} (hx0 : 0 ≤ x) (hx1 : x < (t.length : Int)) (hy0 : 0 ≤ y) (hy1 : y < (t.length : Int))
    (hf : ∀ a, fnd (fun z => if M t (M t x y) z = M t x (M t y z) then none else some (x, y, z)) 0 t.length = some a → Q (a.1, a.2.1, a.2.2, true) H)
    (h : fnd (fun z => if M t (M t x y) z = M t x (M t y z) then none else some (x, y, z)) 0 t.length = none → Ev (fun ρ k κ => mult_failing_2 k s x (t.length : Int) x (t.length : Int) (y + 1) lo H κ) Q) :
    Ev (fun ρ k κ => mult_failing_3 k s x y (t.length : Int) x (t.length : Int) y (t.length : Int) 0 lo H κ) Q := by
  have hle := hs.le
  refine ev_fnd (f := fun z => if M t (M t x y) z = M t x (M t y z) then none else some (x, y, z)) (g := fun z ρ k κ => mult_failing_3 k s x y (t.length : Int) x (t.length : Int) y (t.length : Int) z lo H κ) (t.length : Int) ?_ 0 t.length (by omega) (by omega) ?_ ?_
  · intro z hz0 hz1 he H'
    have a1 := hs.lo x y hx0 hx1 hy0 hy1
    have a2 := hs.hi x y hx0 hx1 hy0 hy1
    have a3 := hs.lo y z hy0 hy1 hz0 hz1
    have a4 := hs.hi y z hy0 hy1 hz0 hz1
    have r1 := hs.row x hx0 hx1
    have r2 := hs.row y hy0 hy1
    have r3 := hs.row (M t x y) a1 a2
    have he : M t (M t x y) z = M t x (M t y z) := Classical.byContradiction fun hn => by rw [if_neg hn] at he; cases he
    refine ev_eq (fun _ k _ => mult_failing_3_eq k) (ev_pos hz1 (ev_rdM ht hx0 hx1 hy0 (by omega) (ev_rdM ht a1 a2 hz0 (by omega) (ev_rdS ht hx0 hx1 fun r hr => ev_rdM ht hy0 hy1 hz0 (by omega) (ev_rdI hr a3 (by omega) (ev_nneg he ?_))))))
    rw [W_add hz0 hz1 (by omega)]
    exact H'
  · intro z a hz0 hz1 he ha
    have a1 := hs.lo x y hx0 hx1 hy0 hy1
    have a2 := hs.hi x y hx0 hx1 hy0 hy1
    have a3 := hs.lo y z hy0 hy1 hz0 hz1
    have a4 := hs.hi y z hy0 hy1 hz0 hz1
    have r1 := hs.row x hx0 hx1
    have r2 := hs.row y hy0 hy1
    have r3 := hs.row (M t x y) a1 a2
    have hne : ¬ M t (M t x y) z = M t x (M t y z) := fun hn => by rw [if_pos hn] at he; cases he
    rw [if_neg hne] at he
    cases he
    exact ev_eq (fun _ k _ => mult_failing_3_eq k) (ev_pos hz1 (ev_rdM ht hx0 hx1 hy0 (by omega) (ev_rdM ht a1 a2 hz0 (by omega) (ev_rdS ht hx0 hx1 fun r hr => ev_rdM ht hy0 hy1 hz0 (by omega) (ev_rdI hr a3 (by omega) (ev_npos hne (ev_ret (hf _ ha))))))))
  · intro hn
    refine ev_eq (fun _ k _ => mult_failing_3_eq k) (ev_neg (by omega) ?_)
    rw [W_add hy0 hy1 (by omega)]
    exact h hn
theorem mult_failing_l1 {s : Sl} {t : List (List Int)} {H : AH} {lo : Nat} (ht : Tab H s t) (hs : Sq t) : Ev (fun ρ k κ => mult_failing_1 k s (t.length : Int) 0 lo H κ) (Is ((tri t).elim (0, 0, 0, false) (fun a => (a.1, a.2.1, a.2.2, true))) H) := by
  have hle := hs.le
  have hl := ht.len
  refine ev_fnd (f := fun x => fnd (fun y => fnd (fun z => if M t (M t x y) z = M t x (M t y z) then none else some (x, y, z)) 0 t.length) 0 t.length) (g := fun x ρ k κ => mult_failing_1 k s (t.length : Int) x lo H κ) (t.length : Int) ?_ 0 t.length (by omega) (by omega) ?_ ?_
  · intro x hx0 hx1 hn H'
    refine ev_eq (fun _ k _ => mult_failing_1_eq k) (ev_pos hx1 ?_)
    rw [hl]
    refine ev_fnd (f := fun y => fnd (fun z => if M t (M t x y) z = M t x (M t y z) then none else some (x, y, z)) 0 t.length) (g := fun y ρ k κ => mult_failing_2 k s x (t.length : Int) x (t.length : Int) y lo H κ) (t.length : Int) ?_ 0 t.length (by omega) (by omega) ?_ ?_
    · intro y hy0 hy1 hn2 H'
      refine ev_eq (fun _ k _ => mult_failing_2_eq k) (ev_pos hy1 ?_)
      rw [hl]
      exact mult_failing_l3 ht hs hx0 hx1 hy0 hy1 (fun a ha => by rw [hn2] at ha; cases ha) (fun _ => H')
    · intro y a _ _ _ ha; rw [hn] at ha; cases ha
    · intro _
      refine ev_eq (fun _ k _ => mult_failing_2_eq k) (ev_neg (by omega) ?_)
      rw [W_add hx0 hx1 (by omega)]
      exact H'
  · intro x a hx0 hx1 hfx hfa
    refine ev_eq (fun _ k _ => mult_failing_1_eq k) (ev_pos hx1 ?_)
    rw [hl]
    refine ev_fnd (f := fun y => fnd (fun z => if M t (M t x y) z = M t x (M t y z) then none else some (x, y, z)) 0 t.length) (g := fun y ρ k κ => mult_failing_2 k s x (t.length : Int) x (t.length : Int) y lo H κ) (t.length : Int) ?_ 0 t.length (by omega) (by omega) ?_ ?_
    · intro y hy0 hy1 hn2 H'
      refine ev_eq (fun _ k _ => mult_failing_2_eq k) (ev_pos hy1 ?_)
      rw [hl]
      exact mult_failing_l3 ht hs hx0 hx1 hy0 hy1 (fun a ha => by rw [hn2] at ha; cases ha) (fun _ => H')
    · intro y b hy0 hy1 hfy hfb
      refine ev_eq (fun _ k _ => mult_failing_2_eq k) (ev_pos hy1 ?_)
      rw [hl]
      refine mult_failing_l3 ht hs hx0 hx1 hy0 hy1 (fun c hc => ⟨?_, rfl⟩) (fun hn => by rw [hfy] at hn; cases hn)
      rw [hfy] at hc; cases hc
      rw [hfx] at hfb; cases hfb
      rw [show tri t = some a from hfa]; rfl
    · intro hn; rw [hfx] at hn; cases hn
  · intro hn
    refine ev_eq (fun _ k _ => mult_failing_1_eq k) (ev_neg (by omega) (ev_ret ⟨?_, rfl⟩))
    unfold tri
    rw [hn]
    rfl
theorem semigroupref14_Associative_l3 {s : Sl} {t : List (List Int)} {H : AH} {lo : Nat} {Q : (Int × Int × Int × Int) → AH → Prop} (ht : Tab H s t) (hs : Sq t) {x y : Int} (hx0 : 0 ≤ x) (hx1 : x < (t.length : Int)) (hy0 : 0 ≤ y) (hy1 : y < (t.length : Int))
    (hf : ∀ a, fnd (fun z => if M t (M t x y) z = M t x (M t y z) then none else some (x, y, z)) 0 t.length = some a → Q (a.1, a.2.1, a.2.2, 5) H)
    (h : fnd (fun z => if M t (M t x y) z = M t x (M t y z) then none else some (x, y, z)) 0 t.length = none → Ev (fun ρ k κ => semigroupref14_Associative_2 k s x (t.length : Int) x (t.length : Int) (y + 1) lo H κ) Q) :
    Ev (fun ρ k κ => semigroupref14_Associative_3 k s x y (t.length : Int) x (t.length : Int) y (t.length : Int) 0 lo H κ) Q := by
  have hle := hs.le
  refine ev_fnd (f := fun z => if M t (M t x y) z = M t x (M t y z) then none else some (x, y, z)) (g := fun z ρ k κ => semigroupref14_Associative_3 k s x y (t.length : Int) x (t.length : Int) y (t.length : Int) z lo H κ) (t.length : Int) ?_ 0 t.length (by omega) (by omega) ?_ ?_
  · intro z hz0 hz1 he H'
    have a1 := hs.lo x y hx0 hx1 hy0 hy1
    have a2 := hs.hi x y hx0 hx1 hy0 hy1
    have a3 := hs.lo y z hy0 hy1 hz0 hz1
    have a4 := hs.hi y z hy0 hy1 hz0 hz1
    have r1 := hs.row x hx0 hx1
    have r2 := hs.row y hy0 hy1
    have r3 := hs.row (M t x y) a1 a2
    have he : M t (M t x y) z = M t x (M t y z) := Classical.byContradiction fun hn => by rw [if_neg hn] at he; cases he
    refine ev_eq (fun _ k _ => semigroupref14_Associative_3_eq k) (ev_pos hz1 (ev_rdM ht hx0 hx1 hy0 (by omega) (ev_rdM ht a1 a2 hz0 (by omega) (ev_rdS ht hx0 hx1 fun r hr => ev_rdM ht hy0 hy1 hz0 (by omega) (ev_rdI hr a3 (by omega) (ev_nneg he ?_))))))
    rw [W_add hz0 hz1 (by omega)]
    exact H'
  · intro z a hz0 hz1 he ha
    have a1 := hs.lo x y hx0 hx1 hy0 hy1
    have a2 := hs.hi x y hx0 hx1 hy0 hy1
    have a3 := hs.lo y z hy0 hy1 hz0 hz1
    have a4 := hs.hi y z hy0 hy1 hz0 hz1
    have r1 := hs.row x hx0 hx1
    have r2 := hs.row y hy0 hy1
    have r3 := hs.row (M t x y) a1 a2
    have hne : ¬ M t (M t x y) z = M t x (M t y z) := fun hn => by rw [if_pos hn] at he; cases he
    rw [if_neg hne] at he
    cases he
    exact ev_eq (fun _ k _ => semigroupref14_Associative_3_eq k) (ev_pos hz1 (ev_rdM ht hx0 hx1 hy0 (by omega) (ev_rdM ht a1 a2 hz0 (by omega) (ev_rdS ht hx0 hx1 fun r hr => ev_rdM ht hy0 hy1 hz0 (by omega) (ev_rdI hr a3 (by omega) (ev_npos hne (ev_ret (hf _ ha))))))))
  · intro hn
    refine ev_eq (fun _ k _ => semigroupref14_Associative_3_eq k) (ev_neg (by omega) ?_)
    rw [W_add hy0 hy1 (by omega)]
    exact h hn
theorem semigroupref14_Associative_l1 {s : Sl} {t : List (List Int)} {H : AH} {lo : Nat} (ht : Tab H s t) (hs : Sq t) : Ev (fun ρ k κ => semigroupref14_Associative_1 k s (t.length : Int) 0 lo H κ) (Is ((tri t).elim (0, 0, 0, 0) (fun a => (a.1, a.2.1, a.2.2, 5))) H) := by
  have hle := hs.le
  have hl := ht.len
  refine ev_fnd (f := fun x => fnd (fun y => fnd (fun z => if M t (M t x y) z = M t x (M t y z) then none else some (x, y, z)) 0 t.length) 0 t.length) (g := fun x ρ k κ => semigroupref14_Associative_1 k s (t.length : Int) x lo H κ) (t.length : Int) ?_ 0 t.length (by omega) (by omega) ?_ ?_
  · intro x hx0 hx1 hn H'
    refine ev_eq (fun _ k _ => semigroupref14_Associative_1_eq k) (ev_pos hx1 ?_)
    rw [hl]
    refine ev_fnd (f := fun y => fnd (fun z => if M t (M t x y) z = M t x (M t y z) then none else some (x, y, z)) 0 t.length) (g := fun y ρ k κ => semigroupref14_Associative_2 k s x (t.length : Int) x (t.length : Int) y lo H κ) (t.length : Int) ?_ 0 t.length (by omega) (by omega) ?_ ?_
    · intro y hy0 hy1 hn2 H'
      refine ev_eq (fun _ k _ => semigroupref14_Associative_2_eq k) (ev_pos hy1 ?_)
      rw [hl]
      exact semigroupref14_Associative_l3 ht hs hx0 hx1 hy0 hy1 (fun a ha => by rw [hn2] at ha; cases ha) (fun _ => H')
    · intro y a _ _ _ ha; rw [hn] at ha; cases ha
    · intro _
      refine ev_eq (fun _ k _ => semigroupref14_Associative_2_eq k) (ev_neg (by omega) ?_)
      rw [W_add hx0 hx1 (by omega)]
      exact H'
  · intro x a hx0 hx1 hfx hfa
    refine ev_eq (fun _ k _ => semigroupref14_Associative_1_eq k) (ev_pos hx1 ?_)
    rw [hl]
    refine ev_fnd (f := fun y => fnd (fun z => if M t (M t x y) z = M t x (M t y z) then none else some (x, y, z)) 0 t.length) (g := fun y ρ k κ => semigroupref14_Associative_2 k s x (t.length : Int) x (t.length : Int) y lo H κ) (t.length : Int) ?_ 0 t.length (by omega) (by omega) ?_ ?_
    · intro y hy0 hy1 hn2 H'
      refine ev_eq (fun _ k _ => semigroupref14_Associative_2_eq k) (ev_pos hy1 ?_)
      rw [hl]
      exact semigroupref14_Associative_l3 ht hs hx0 hx1 hy0 hy1 (fun a ha => by rw [hn2] at ha; cases ha) (fun _ => H')
    · intro y b hy0 hy1 hfy hfb
      refine ev_eq (fun _ k _ => semigroupref14_Associative_2_eq k) (ev_pos hy1 ?_)
      rw [hl]
      refine semigroupref14_Associative_l3 ht hs hx0 hx1 hy0 hy1 (fun c hc => ⟨?_, rfl⟩) (fun hn => by rw [hfy] at hn; cases hn)
      rw [hfy] at hc; cases hc
      rw [hfx] at hfb; cases hfb
      rw [show tri t = some a from hfa]; rfl
    · intro hn; rw [hfx] at hn; cases hn
  · intro hn
    refine ev_eq (fun _ k _ => semigroupref14_Associative_1_eq k) (ev_neg (by omega) (ev_ret ⟨?_, rfl⟩))
    unfold tri
    rw [hn]
    rfl
theorem mult_Validate_ev {s : Sl} {t : List (List Int)} {H : AH} {lo : Nat} (ht : In2 t) (hs : Tab H s t) : Ev (fun ρ k κ => mult_Validate k s lo H κ) (Is (val t) H) := by
  unfold val
  refine ev_eq (fun _ k _ => mult_Validate_eq k) (ev_is (mult_shape_ev ht hs) ?_)
  by_cases h : shp t = 0
  · rw [if_pos h]
    refine ev_nneg h (ev_is (F' := fun ρ k κ => mult_failing k s H.length H κ) (ev_eq (fun _ k _ => mult_failing_eq k) (by rw [hs.len]; exact mult_failing_l1 hs (shp_sq.1 h))) ?_)
    cases tri t with
    | none => exact ev_f rfl (ev_ret ⟨by simp, rfl⟩)
    | some a => exact ev_t rfl (ev_ret ⟨by simp, rfl⟩)
  · rw [if_neg h]
    exact ev_npos h (ev_ret ⟨rfl, rfl⟩)
/-- What Associative answers. -/
noncomputable def asc4 (t : List (List Int)) : Int × Int × Int × Int := if shp t = 0 then ((tri t).elim (0, 0, 0, 0) (fun a => (a.1, a.2.1, a.2.2, 5))) else (0, 0, 0, shp t)
theorem asc4_val (t : List (List Int)) : (asc4 t).2.2.2 = val t := by
  unfold asc4 val
  split
  · cases tri t <;> rfl
  · rfl
theorem semigroupref14_Associative_ev {s : Sl} {t : List (List Int)} {H : AH} {lo : Nat} (ht : In2 t) (hs : Tab H s t) : Ev (fun ρ k κ => semigroupref14_Associative k s lo H κ) (Is (asc4 t) H) := by
  unfold asc4
  refine ev_eq (fun _ k _ => semigroupref14_Associative_eq k) (ev_is (semigroupref14_Shape_ev ht hs) ?_)
  by_cases h : shp t = 0
  · rw [if_pos h]
    refine ev_nneg h ?_
    rw [hs.len]
    exact semigroupref14_Associative_l1 hs (shp_sq.1 h)
  · rw [if_neg h]
    exact ev_npos h (ev_ret ⟨rfl, rfl⟩)
theorem semigroupref14_Validate_ev {s : Sl} {t : List (List Int)} {H : AH} {lo : Nat} (ht : In2 t) (hs : Tab H s t) : Ev (fun ρ k κ => semigroupref14_Validate k s lo H κ) (Is (val t) H) :=
  ev_eq (fun _ k _ => semigroupref14_Validate_eq k) (ev_is (semigroupref14_Associative_ev ht hs) (ev_ret ⟨asc4_val t, rfl⟩))
theorem semigroupref14_Valid_ev {s : Sl} {t : List (List Int)} {H : AH} {lo : Nat} (ht : In2 t) (hs : Tab H s t) : Ev (fun ρ k κ => semigroupref14_Valid k s lo H κ) (Is (decide (val t = 0)) H) :=
  ev_eq (fun _ k _ => semigroupref14_Valid_eq k) (ev_is (semigroupref14_Validate_ev ht hs) (ev_ret ⟨rfl, rfl⟩))
theorem semigroupref14_In_ev {s r : Sl} {t : List (List Int)} {l : List Int} {H : AH} {lo : Nat} (ht : s.len = t.length) (hr : Row H r l) (hl : l.length ≤ 9223372036854775807) {b : Bool} (hb : b = true ↔ El t l) : Ev (fun ρ k κ => semigroupref14_In k s r lo H κ) (Is b H) := by
  refine ev_eq (fun _ k _ => semigroupref14_In_eq k) ?_
  rw [hr.len]
  refine ev_for0 (g := fun i ρ k κ => semigroupref14_In_1 k s r (l.length : Int) i lo H κ) (l.length : Int) (fun j => ∀ i, 0 ≤ i → i < j → 0 ≤ rd l i ∧ rd l i < (t.length : Int)) ?_ ?_ 0 (by omega) (by omega) (fun i a b => by omega)
  · intro i hi0 hi1 hi
    by_cases hp : 0 ≤ rd l i ∧ rd l i < (t.length : Int)
    · right
      refine ⟨fun j j0 j1 => ?_, fun H => ?_⟩
      · by_cases hj : j = i
        · rw [hj]; exact hp
        · exact hi j j0 (by omega)
      · refine ev_eq (fun _ k _ => semigroupref14_In_1_eq k) (ev_pos hi1 (ev_rdI hr hi0 hi1 (ev_orP (fun _ => ev_ret ⟨rfl, rfl⟩) (ev_neg (by rw [ht]; omega) ?_))))
        rw [W_add hi0 hi1 (by omega)]
        exact H
    · left
      have hf : b = false := by
        cases b with
        | false => rfl
        | true => exact absurd (hb.1 rfl _ (rd_mem hi0 hi1)) hp
      exact ev_eq (fun _ k _ => semigroupref14_In_1_eq k) (ev_pos hi1 (ev_rdI hr hi0 hi1 (ev_orP (fun _ => ev_ret ⟨rfl, rfl⟩) (ev_pos (by rw [ht]; omega) (ev_ret ⟨hf.symm, rfl⟩)))))
  · intro hi
    exact ev_eq (fun _ k _ => semigroupref14_In_1_eq k) (ev_neg (by omega) (ev_ret ⟨(hb.2 (rd_all.2 hi)).symm, rfl⟩))
end Go.Ab

/- Rows compared, members; tables of Rees matrix semigroups, regularity. What they answer. No condition but that a structure comes in. -/
set_option linter.unusedVariables false
set_option linter.unusedSimpArgs false
namespace Go.Ab
open Go
theorem semigroupref03_Same_ev {a b : Sl} {x y : List Int} {H : AH} {lo : Nat} (ha : Row H a x) (hb : Row H b y) (hl : x.length ≤ 9223372036854775807) : Ev (fun ρ k κ => semigroupref03_Same k a b lo H κ) (Is (decide (x = y)) H) := by
  refine ev_eq (fun _ k _ => semigroupref03_Same_eq k) ?_
  rw [ha.len, hb.len]
  refine ev_nif (fun h => ev_ret ⟨by rw [decide_eq_false]; exact fun e => h (by rw [e]), rfl⟩) (fun h => ?_)
  refine ev_for0 (g := fun i ρ k κ => semigroupref03_Same_1 k a b (x.length : Int) i lo H κ) (x.length : Int) (fun i => ∀ j : Int, 0 ≤ j → j < i → rd x j = rd y j) ?_ ?_ 0 (by omega) (by omega) (fun j a b => by omega)
  · intro i i0 i1 hi
    by_cases hv : rd x i = rd y i
    · right
      refine ⟨fun j a b => ?_, fun h' => ?_⟩
      · by_cases hj : j = i
        · rw [hj]; exact hv
        · exact hi j a (by omega)
      · refine ev_eq (fun _ k _ => semigroupref03_Same_1_eq k) (ev_pos i1 (ev_rdI ha i0 i1 (ev_rdI hb i0 (by omega) (ev_nneg hv ?_))))
        rw [W_add i0 i1 (by omega)]; exact h'
    · left
      refine ev_eq (fun _ k _ => semigroupref03_Same_1_eq k) (ev_pos i1 (ev_rdI ha i0 i1 (ev_rdI hb i0 (by omega) (ev_npos hv (ev_ret ⟨by rw [decide_eq_false]; exact fun e => hv (by rw [e]), rfl⟩)))))
  · intro hi
    refine ev_eq (fun _ k _ => semigroupref03_Same_1_eq k) (ev_neg (by omega) (ev_ret ⟨?_, rfl⟩))
    rw [decide_eq_true]
    exact rd_ext (by omega) hi
theorem semigroupref03_SameRows_ev {a b : Sl} {x y : List (List Int)} {H : AH} {lo : Nat} (ha : Tab H a x) (hb : Tab H b y) (hl : x.length ≤ 9223372036854775807) (hr : ∀ v ∈ x, v.length ≤ 9223372036854775807) : Ev (fun ρ k κ => semigroupref03_SameRows k a b lo H κ) (Is (decide (x = y)) H) := by
  refine ev_eq (fun _ k _ => semigroupref03_SameRows_eq k) ?_
  rw [ha.len, hb.len]
  refine ev_nif (fun h => ev_ret ⟨by rw [decide_eq_false]; exact fun e => h (by rw [e]), rfl⟩) (fun h => ?_)
  refine ev_for0 (g := fun i ρ k κ => semigroupref03_SameRows_1 k a b (x.length : Int) i lo H κ) (x.length : Int) (fun i => ∀ j : Int, 0 ≤ j → j < i → R x j = R y j) ?_ ?_ 0 (by omega) (by omega) (fun j a b => by omega)
  · intro i i0 i1 hi
    by_cases hv : R x i = R y i
    · right
      refine ⟨fun j a b => ?_, fun h' => ?_⟩
      · by_cases hj : j = i
        · rw [hj]; exact hv
        · exact hi j a (by omega)
      · refine ev_eq (fun _ k _ => semigroupref03_SameRows_1_eq k) (ev_pos i1 (ev_rdS ha i0 i1 fun v hv1 => ev_rdS hb i0 (by omega) fun w hw1 => ev_is (semigroupref03_Same_ev hv1 hw1 (hr _ (R_mem i0 i1))) (ev_nf (by simpa using hv) ?_)))
        rw [W_add i0 i1 (by omega)]; exact h'
    · left
      refine ev_eq (fun _ k _ => semigroupref03_SameRows_1_eq k) (ev_pos i1 (ev_rdS ha i0 i1 fun v hv1 => ev_rdS hb i0 (by omega) fun w hw1 => ev_is (semigroupref03_Same_ev hv1 hw1 (hr _ (R_mem i0 i1))) (ev_nt (by simpa using hv) (ev_ret ⟨by rw [decide_eq_false]; exact fun e => hv (by rw [e]), rfl⟩))))
  · intro hi
    refine ev_eq (fun _ k _ => semigroupref03_SameRows_1_eq k) (ev_neg (by omega) (ev_ret ⟨?_, rfl⟩))
    rw [decide_eq_true]
    exact R_ext (by omega) hi
theorem Mk.zero {P : List (List Int)} {m k : Int} (m0 : 0 ≤ m) (k0 : 0 ≤ k) : Mk P m k 0 0 (List.replicate m.toNat false) (List.replicate k.toNat false) := by
  refine ⟨by simp; omega, by simp; omega, fun i' a0 a1 => ?_, fun l' a0 a1 => ?_⟩
  · rw [rb_rep a0 (by omega)]
    simp only [Bool.false_eq_true, false_iff]
    rintro ⟨l', s1, s2, s3, s4, s5⟩
    omega
  · rw [rb_rep a0 (by omega)]
    simp only [Bool.false_eq_true, false_iff]
    rintro ⟨i', s1, s2, s3, s4, s5⟩
    omega
end Go.Ab

/- Partitions: canonical forms, validity, meets, counts, classes. What they answer. No condition but that rows come in. -/
set_option linter.unusedVariables false
set_option linter.unusedSimpArgs false
namespace Go.Ab
open Go
abbrev ival : Int → AV := fun n => .int .i64 n
theorem partition_Canonical_ev {s : Sl} {x : List Int} {H : AH} {lo : Nat} (hlo : lo ≤ H.length) (hs : Row H s x) (hl : x.length ≤ 4096) : Ev (fun ρ k κ => partition_Canonical k s lo H κ) (fun v H' => ∃ o, Sep H H' [own reI v o] ∧ IsCl x.length (fun i j => rd x i = rd x j) o) := by
  refine ev_eq (fun _ k _ => partition_Canonical_eq k) ?_
  rw [hs.len]
  refine ev_neg (by omega) (sp_mkm ival (Sep.nil H) fun m H1 hS => sp_mks (x := (0 : Int)) hS reI (fun _ => ⟨rfl, rfl⟩) (by omega) (by omega) fun t H4 hS => ?_)
  refine ev_loop (α := AH) (g := fun i H ρ n κ => partition_Canonical_1 n (some m) t s (x.length : Int) i lo H κ) (x.length : Int) (fun i H' => ∃ o l, Sep H H' [own reI t o, ownMp ival m l] ∧ Num x o l i) ?_ ?_ 0 H4 (by omega) (by omega) ⟨_, [], hS, Num.zero (by simp)⟩
  · rintro i H1 i0 i1 ⟨o, l, hS, hN⟩ hk
    have hln := hN.len
    have step : ∀ (c : Int) (l' : List (Int × Int)) (H2 : AH), Sep H H2 [own reI t o, ownMp ival m l'] → (∀ H3, Sep H H3 [own reI t (o.set i.toNat c), ownMp ival m l'] → Num x (o.set i.toNat c) l' (i + 1)) → Ev (fun ρ n κ => partition_Canonical_2 n (some m) t i c s (x.length : Int) i lo H2 κ) (fun v H' => ∃ o, Sep H H' [own reI v o] ∧ IsCl x.length (fun i j => rd x i = rd x j) o) := by
      intro c l' H2 hS h
      refine ev_eq (fun _ k _ => partition_Canonical_2_eq k) (sp_put (x := c) hS hlo (fun _ => ⟨rfl, rfl⟩) i0 (by omega) fun H3 hS => ?_)
      rw [W_add i0 i1 (by omega)]
      exact hk H3 ⟨_, _, hS, h H3 hS⟩
    refine ev_eq (fun _ k _ => partition_Canonical_1_eq k) (ev_pos i1 (ev_rdI (hs.le hS.le) i0 i1 (sp_mlook (hS.pull 1) ?_)))
    cases e : mget l (rd x i) with
    | none =>
      exact ev_asI (n := 0) (ev_nt rfl (sp_mlen (hS.pull 1) (sp_mput (f := ival) (hS.pull 1) hlo fun H5 hS => step _ _ _ (hS.pull 1) fun _ _ => hN.new i0 i1 e)))
    | some c => exact ev_asI (n := c) (ev_nf rfl (step _ _ _ hS fun _ _ => hN.old i0 i1 e))
  · rintro H1 ⟨o, l, hS, hN⟩
    exact ev_eq (fun _ k _ => partition_Canonical_1_eq k) (ev_neg (by omega) (ev_ret ⟨o, (hS.pull 1).drop, hN.done⟩))
/-- What partition.Valid has seen of the first i. -/
structure PV1 (p : List Int) (i n : Int) : Prop where
  n0 : 0 ≤ n ∧ n ≤ i
  lt : ∀ j : Int, 0 ≤ j → j < i → 0 ≤ rd p j ∧ rd p j < n
  all : ∀ c : Int, 0 ≤ c → c < n → ∃ j : Int, 0 ≤ j ∧ j < i ∧ rd p j = c
  can : ∀ j : Int, 0 ≤ j → j < i → ∀ c : Int, 0 ≤ c → c < rd p j → ∃ j' : Int, 0 ≤ j' ∧ j' < j ∧ rd p j' = c
open Classical in
theorem partition_Valid_ev {s : Sl} {p : List Int} {H : AH} {lo : Nat} (hs : Row H s p) : Ev (fun ρ k κ => partition_Valid k s lo H κ) (Is (decide ((p.length : Int) ≤ 4096 ∧ Cano p)) H) := by
  refine ev_eq (fun _ k _ => partition_Valid_eq k) ?_
  rw [hs.len]
  refine ev_if (fun h => ev_ret ⟨by rw [decide_eq_false]; omega, rfl⟩) (fun h => ?_)
  refine ev_for (α := Int) (g := fun i n ρ k κ => partition_Valid_1 k n s (p.length : Int) i lo H κ) (p.length : Int) (fun i n => PV1 p i n) ?_ ?_ 0 0 (by omega) (by omega) ⟨by omega, fun j a b => by omega, fun c a b => by omega, fun j a b => by omega⟩
  · intro i n i0 i1 hP
    have hn := hP.n0
    by_cases hbad : rd p i < 0 ∨ rd p i > n
    · left
      refine ev_eq (fun _ k _ => partition_Valid_1_eq k) (ev_pos i1 (ev_rdI hs i0 i1 (ev_orP (c := rd p i > n) (fun _ => ev_ret ⟨rfl, rfl⟩) (ev_pos hbad (ev_ret ⟨?_, rfl⟩)))))
      rw [decide_eq_false]
      rintro ⟨_, hc⟩
      obtain ⟨c1, c2⟩ := hc i i0 i1
      rcases hbad with hbad | hbad
      · omega
      · obtain ⟨j, j0, j1, j2⟩ := c2 n hn.1 hbad
        have := hP.lt j j0 j1
        omega
    · right
      by_cases hnew : rd p i = n
      · refine ⟨n + 1, ⟨by omega, fun j a b => ?_, fun c a b => ?_, fun j a b c c0 c1 => ?_⟩, fun h' => ?_⟩
        · by_cases hj : j = i
          · rw [hj]; omega
          · have := hP.lt j a (by omega); omega
        · by_cases hc : c = n
          · exact ⟨i, i0, by omega, by omega⟩
          · obtain ⟨j, x, y, z⟩ := hP.all c a (by omega)
            exact ⟨j, x, by omega, z⟩
        · by_cases hj : j = i
          · rw [hj] at c1 ⊢
            exact hP.all c c0 (by omega)
          · exact hP.can j a (by omega) c c0 c1
        · refine ev_eq (fun _ k _ => partition_Valid_1_eq k) (ev_pos i1 (ev_rdI hs i0 i1 (ev_orP (c := rd p i > n) (fun _ => ev_ret ⟨rfl, rfl⟩) (ev_neg hbad (ev_pos hnew (ev_eq (fun _ k _ => partition_Valid_2_eq k) ?_))))))
          rw [W_add i0 i1 (by omega), W_in (by omega) (by omega)]; exact h'
      · refine ⟨n, ⟨by omega, fun j a b => ?_, fun c a b => ?_, fun j a b c c0 c1 => ?_⟩, fun h' => ?_⟩
        · by_cases hj : j = i
          · rw [hj]; omega
          · exact hP.lt j a (by omega)
        · obtain ⟨j, x, y, z⟩ := hP.all c a b
          exact ⟨j, x, by omega, z⟩
        · by_cases hj : j = i
          · rw [hj] at c1 ⊢
            exact hP.all c c0 (by omega)
          · exact hP.can j a (by omega) c c0 c1
        · refine ev_eq (fun _ k _ => partition_Valid_1_eq k) (ev_pos i1 (ev_rdI hs i0 i1 (ev_orP (c := rd p i > n) (fun _ => ev_ret ⟨rfl, rfl⟩) (ev_neg hbad (ev_neg hnew (ev_eq (fun _ k _ => partition_Valid_2_eq k) ?_))))))
          rw [W_add i0 i1 (by omega)]; exact h'
  · intro n hP
    refine ev_eq (fun _ k _ => partition_Valid_1_eq k) (ev_neg (by omega) (ev_ret ⟨?_, rfl⟩))
    rw [decide_eq_true]
    exact ⟨by omega, fun i a b => ⟨(hP.lt i a b).1, hP.can i a b⟩⟩
end Go.Ab

/- Green's relations: the classes. What they answer. No condition but that a table comes in. -/
set_option linter.unusedVariables false
set_option linter.unusedSimpArgs false
namespace Go.Ab
open Go
/-- The classes that were numbered before x, n of them. -/
structure MuI (N : Nat) (E : Int → Int → Prop) (o : List Int) (x n : Int) : Prop where
  len : o.length = N
  n0 : 0 ≤ n ∧ n ≤ x
  lt : ∀ j : Int, 0 ≤ j → j < N → -1 ≤ rd o j ∧ rd o j < n
  done : ∀ j : Int, 0 ≤ j → j < N → (0 ≤ rd o j ↔ ∃ x' : Int, 0 ≤ x' ∧ x' < x ∧ E x' j)
  eqv : ∀ j j' : Int, 0 ≤ j → j < N → 0 ≤ j' → j' < N → 0 ≤ rd o j → 0 ≤ rd o j' → (rd o j = rd o j' ↔ E j j')
  all : ∀ c : Int, 0 ≤ c → c < n → ∃ x' : Int, 0 ≤ x' ∧ x' < x ∧ rd o x' = c
  can : ∀ j : Int, 0 ≤ j → j < N → ∀ c : Int, 0 ≤ c → c < rd o j → ∃ j' : Int, 0 ≤ j' ∧ j' < j ∧ rd o j' = c
theorem MuI.new {N : Nat} {E : Int → Int → Prop} (hE : Eqv N E) {o o' : List Int} {x n : Int} (h : MuI N E o x n) (x0 : 0 ≤ x) (x1 : x < N) (hx : ¬ 0 ≤ rd o x) (hl : o'.length = N) (ho : ∀ j : Int, 0 ≤ j → j < N → (x ≤ j ∧ E x j ∧ rd o' j = n) ∨ (¬ (x ≤ j ∧ E x j) ∧ rd o' j = rd o j)) : MuI N E o' (x + 1) (n + 1) := by
  have hn := h.n0
  have hno : ∀ j : Int, 0 ≤ j → j < N → E x j → ¬ 0 ≤ rd o j := fun j a b e hj => by
    obtain ⟨y, y0, y1, y2⟩ := (h.done j a b).1 hj
    exact hx ((h.done x x0 x1).2 ⟨y, y0, y1, hE.trans y j x y0 (by omega) a b x0 x1 y2 (hE.symm x j x0 x1 a b e)⟩)
  have hlt : ∀ j : Int, 0 ≤ j → j < N → E x j → x ≤ j := fun j a b e => Classical.byContradiction fun hn => hno j a b e ((h.done j a b).2 ⟨j, a, by omega, hE.refl j a b⟩)
  have ho' : ∀ j : Int, 0 ≤ j → j < N → (E x j ∧ rd o' j = n) ∨ (¬ E x j ∧ rd o' j = rd o j) := fun j a b => by
    rcases ho j a b with ⟨p, q, r⟩ | ⟨p, q⟩
    · exact .inl ⟨q, r⟩
    · exact .inr ⟨fun e => p ⟨hlt j a b e, e⟩, q⟩
  refine ⟨hl, by omega, fun j a b => ?_, fun j a b => ?_, fun j j' a b a' b' c d => ?_, fun c a b => ?_, fun j a b c c0 c1 => ?_⟩
  · have := h.lt j a b
    rcases ho' j a b with ⟨_, e⟩ | ⟨_, e⟩ <;> omega
  · rcases ho' j a b with ⟨e, e'⟩ | ⟨e, e'⟩
    · exact ⟨fun _ => ⟨x, x0, by omega, e⟩, fun _ => by omega⟩
    · rw [e', h.done j a b]
      refine ⟨fun ⟨x', p, q, r⟩ => ⟨x', p, by omega, r⟩, fun ⟨x', p, q, r⟩ => ⟨x', p, ?_, r⟩⟩
      by_cases hxx : x' = x
      · exact absurd (hxx ▸ r) e
      · omega
  · rcases ho' j a b with ⟨e1, e2⟩ | ⟨e1, e2⟩ <;> rcases ho' j' a' b' with ⟨f1, f2⟩ | ⟨f1, f2⟩
    · exact ⟨fun _ => hE.trans j x j' a b x0 x1 a' b' (hE.symm x j x0 x1 a b e1) f1, fun _ => by omega⟩
    · have := h.lt j' a' b'
      exact ⟨fun _ => by omega, fun e => absurd (hE.trans x j j' x0 x1 a b a' b' e1 e) f1⟩
    · have := h.lt j a b
      exact ⟨fun _ => by omega, fun e => absurd (hE.trans x j' j x0 x1 a' b' a b f1 (hE.symm j j' a b a' b' e)) e1⟩
    · rw [e2] at c ⊢
      rw [f2] at d ⊢
      exact h.eqv j j' a b a' b' c d
  · by_cases hc : c = n
    · rcases ho' x x0 x1 with ⟨_, e⟩ | ⟨e, _⟩
      · exact ⟨x, x0, by omega, by omega⟩
      · exact absurd (hE.refl x x0 x1) e
    · obtain ⟨x', p, q, r⟩ := h.all c a (by omega)
      rcases ho' x' p (by omega) with ⟨e, _⟩ | ⟨_, e⟩
      · exact absurd (hlt x' p (by omega) e) (by omega)
      · exact ⟨x', p, by omega, by omega⟩
  · rcases ho' j a b with ⟨e, e'⟩ | ⟨e, e'⟩
    · obtain ⟨x', p, q, r⟩ := h.all c c0 (by omega)
      have := hlt j a b e
      rcases ho' x' p (by omega) with ⟨f, _⟩ | ⟨_, f⟩
      · exact absurd (hlt x' p (by omega) f) (by omega)
      · exact ⟨x', p, by omega, by omega⟩
    · rw [e'] at c1
      obtain ⟨j', p, q, r⟩ := h.can j a b c c0 c1
      rcases ho' j' p (by omega) with ⟨f, _⟩ | ⟨_, f⟩
      · exact absurd (show 0 ≤ rd o j' by omega) (hno j' p (by omega) f)
      · exact ⟨j', p, q, by omega⟩
end Go.Ab

/- Homomorphisms: which maps are, images, kernels. What they answer. No condition but that tables and a map come in. -/
set_option linter.unusedVariables false
set_option linter.unusedSimpArgs false
namespace Go.Ab
open Go
open Classical in
theorem morph_isHom_ev {s w q : Sl} {t u : List (List Int)} {f : List Int} {H : AH} {lo : Nat} (ht : Tab H s t) (hu : Tab H w u) (hf : Row H q f) (hv : Sq t) (hw : Sq u) : Ev (fun ρ k κ => morph_isHom k s w q lo H κ) (Is (decide (Hm t u f)) H) := by
  have hn := hv.le
  have hm := hw.le
  refine ev_eq (fun _ k _ => morph_isHom_eq k) ?_
  rw [hf.len, ht.len]
  refine ev_nif (fun h => ev_ret ⟨by rw [decide_eq_false]; exact fun hh => h (by rw [hh.len]), rfl⟩) (fun hl => ?_)
  refine ev_for0 (g := fun i ρ k κ => morph_isHom_1 k s w q q (f.length : Int) i lo H κ) (f.length : Int) (fun i => ∀ x : Int, 0 ≤ x → x < i → 0 ≤ rd f x ∧ rd f x < (u.length : Int)) ?_ ?_ 0 (by omega) (by omega) (fun x a b => by omega)
  · intro i i0 i1 hi
    by_cases hb : rd f i < 0 ∨ rd f i ≥ (u.length : Int)
    · left
      refine ev_eq (fun _ k _ => morph_isHom_1_eq k) (ev_pos i1 (ev_rdI hf i0 i1 (ev_orP (c := rd f i ≥ (u.length : Int)) (fun _ => ev_ret ⟨by rw [hu.len], rfl⟩) (ev_pos hb (ev_ret ⟨?_, rfl⟩)))))
      rw [decide_eq_false]
      intro hh
      have := hh.into i i0 (by omega)
      omega
    · right
      refine ⟨fun x a b => ?_, fun h' => ?_⟩
      · by_cases hx : x = i
        · rw [hx]; omega
        · exact hi x a (by omega)
      · refine ev_eq (fun _ k _ => morph_isHom_1_eq k) (ev_pos i1 (ev_rdI hf i0 i1 (ev_orP (c := rd f i ≥ (u.length : Int)) (fun _ => ev_ret ⟨by rw [hu.len], rfl⟩) (ev_neg hb ?_))))
        rw [W_add i0 i1 (by omega)]; exact h'
  · intro hin
    refine ev_eq (fun _ k _ => morph_isHom_1_eq k) (ev_neg (by omega) ?_)
    rw [ht.len]
    have bad : ∀ {x y : Int}, 0 ≤ x → x < (t.length : Int) → 0 ≤ y → y < (t.length : Int) → rd f (M t x y) ≠ M u (rd f x) (rd f y) → false = decide (Hm t u f) := fun a b c d e => by rw [decide_eq_false]; exact fun hh => e (hh.mul _ _ a b c d)
    refine ev_for0 (g := fun x ρ k κ => morph_isHom_2 k s w q (t.length : Int) x lo H κ) (t.length : Int) (fun x => ∀ x' : Int, 0 ≤ x' → x' < x → ∀ y : Int, 0 ≤ y → y < (t.length : Int) → rd f (M t x' y) = M u (rd f x') (rd f y)) ?_ ?_ 0 (by omega) (by omega) (fun x a b => by omega)
    · intro x x0 x1 hx
      have rx := hv.row x x0 x1
      have fx := hin x x0 (by omega)
      have rf := hw.row _ fx.1 fx.2
      have inner : ∀ {Q : Bool → AH → Prop}, (∀ y : Int, 0 ≤ y → y < (t.length : Int) → rd f (M t x y) ≠ M u (rd f x) (rd f y) → Q false H) → ((∀ y : Int, 0 ≤ y → y < (t.length : Int) → rd f (M t x y) = M u (rd f x) (rd f y)) → Ev (fun ρ k κ => morph_isHom_2 k s w q (t.length : Int) (x + 1) lo H κ) Q) → Ev (fun ρ k κ => morph_isHom_2 k s w q (t.length : Int) x lo H κ) Q := by
        intro Q c1 c2
        refine ev_eq (fun _ k _ => morph_isHom_2_eq k) (ev_pos x1 ?_)
        rw [ht.len]
        refine ev_for0 (g := fun y ρ k κ => morph_isHom_3 k s w q x (t.length : Int) x (t.length : Int) y lo H κ) (t.length : Int) (fun y => ∀ y' : Int, 0 ≤ y' → y' < y → rd f (M t x y') = M u (rd f x) (rd f y')) ?_ ?_ 0 (by omega) (by omega) (fun y a b => by omega)
        · intro y y0 y1 hy
          have m0 := hv.lo x y x0 x1 y0 y1
          have m1 := hv.hi x y x0 x1 y0 y1
          have fy := hin y y0 (by omega)
          have st : ∀ {Q' : Bool → AH → Prop}, Ev (fun ρ k κ => bif !decide (rd f (M t x y) = M u (rd f x) (rd f y)) then κ false H else morph_isHom_3 k s w q x (t.length : Int) x (t.length : Int) (W (y + 1)) lo H κ) Q' → Ev (fun ρ k κ => morph_isHom_3 k s w q x (t.length : Int) x (t.length : Int) y lo H κ) Q' := fun h =>
            ev_eq (fun _ k _ => morph_isHom_3_eq k) (ev_pos y1 (ev_rdM ht x0 x1 y0 (by omega) (ev_rdI hf m0 (by omega) (ev_rdI hf x0 (by omega) (ev_rdS hu fx.1 fx.2 fun r hr => ev_rdI hf y0 (by omega) (ev_rdI hr fy.1 (by omega) h))))))
          by_cases he : rd f (M t x y) = M u (rd f x) (rd f y)
          · right
            refine ⟨fun y' a b => ?_, fun h' => st (ev_nneg he ?_)⟩
            · by_cases hyy : y' = y
              · rw [hyy]; exact he
              · exact hy y' a (by omega)
            · rw [W_add y0 y1 (by omega)]; exact h'
          · left
            exact st (ev_npos he (ev_ret (c1 y y0 y1 he)))
        · intro hy
          refine ev_eq (fun _ k _ => morph_isHom_3_eq k) (ev_neg (by omega) ?_)
          rw [W_add x0 x1 (by omega)]
          exact c2 hy
      by_cases hall : ∀ y : Int, 0 ≤ y → y < (t.length : Int) → rd f (M t x y) = M u (rd f x) (rd f y)
      · right
        refine ⟨fun x' a b => ?_, fun h' => inner (fun y a b e => absurd (hall y a b) e) fun _ => h'⟩
        by_cases hxx : x' = x
        · rw [hxx]; exact hall
        · exact hx x' a (by omega)
      · left
        exact inner (fun y a b e => ⟨bad x0 x1 a b e, rfl⟩) fun h => absurd h hall
    · intro hx
      refine ev_eq (fun _ k _ => morph_isHom_2_eq k) (ev_neg (by omega) (ev_ret ⟨?_, rfl⟩))
      rw [decide_eq_true]
      exact ⟨by omega, fun x a b => hin x a (by omega), fun x y a b c d => hx x a b y c d⟩
open Classical in
theorem morph_IsHom_ev {s w q : Sl} {t u : List (List Int)} {f : List Int} {H : AH} {lo : Nat} (h1 : In2 t) (h2 : In2 u) (ht : Tab H s t) (hu : Tab H w u) (hf : Row H q f) : Ev (fun ρ k κ => morph_IsHom k s w q lo H κ) (Is (decide ((val t = 0 ∧ val u = 0) ∧ Hm t u f)) H) := by
  refine ev_eq (fun _ k _ => morph_IsHom_eq k) (ev_is (mult_Validate_ev h1 ht) (ev_andP (c := val u = 0) (fun _ => ev_is (mult_Validate_ev h2 hu) (ev_ret ⟨rfl, rfl⟩)) (ev_andP (c := Hm t u f) (fun h => ev_is (morph_isHom_ev ht hu hf (val_va.1 h.1).toSq (val_va.1 h.2).toSq) (ev_ret ⟨rfl, rfl⟩)) (ev_ret ⟨rfl, rfl⟩))))
open Classical in
theorem semigroupref20_IsHom_ev {s w q : Sl} {t u : List (List Int)} {f : List Int} {H : AH} {lo : Nat} (h1 : In2 t) (h2 : In2 u) (hfl : f.length ≤ 9223372036854775807) (ht : Tab H s t) (hu : Tab H w u) (hf : Row H q f) : Ev (fun ρ k κ => semigroupref20_IsHom k s w q lo H κ) (Is (decide ((val t = 0 ∧ val u = 0) ∧ Hm t u f)) H) := by
  have no : ¬ ((val t = 0 ∧ val u = 0) ∧ Hm t u f) → (false = decide ((val t = 0 ∧ val u = 0) ∧ Hm t u f) ∧ H = H) := fun h => ⟨by rw [decide_eq_false h], rfl⟩
  refine ev_eq (fun _ k _ => semigroupref20_IsHom_eq k) (ev_is (semigroupref14_Valid_ev h1 ht) ?_)
  refine ev_orV (c := !decide (val u = 0)) (fun _ => ev_is (semigroupref14_Valid_ev h2 hu) (ev_ret ⟨rfl, rfl⟩)) (ev_orV (c := !decide ((f.length : Int) = (t.length : Int))) (fun _ => ev_ret ⟨by rw [hf.len, ht.len], rfl⟩) (ev_orV (c := !decide (El u f)) (fun _ => ev_is (semigroupref14_In_ev (b := decide (El u f)) hu.len hf hfl (by simp)) (ev_ret ⟨rfl, rfl⟩)) (ev_b (fun hb => ev_ret (no fun hh => ?_)) (fun hb => ?_))))
  · obtain ⟨⟨a, b⟩, c⟩ := hh
    have hEl : El u f := by
      rw [show El u f ↔ ∀ i, 0 ≤ i → i < (f.length : Int) → 0 ≤ rd f i ∧ rd f i < (u.length : Int) from rd_all]
      exact fun i i0 i1 => c.into i i0 (by have := c.len; omega)
    simp [a, b, c.len, hEl] at hb
  simp only [Bool.or_eq_false_iff, Bool.not_eq_false', decide_eq_true_iff] at hb
  obtain ⟨⟨⟨ha, hb⟩, hl⟩, hEl⟩ := hb
  have hv := (val_va.1 ha).toSq
  have hw := (val_va.1 hb).toSq
  have hn := hv.le
  have hm := hw.le
  have hin : ∀ i : Int, 0 ≤ i → i < (f.length : Int) → 0 ≤ rd f i ∧ rd f i < (u.length : Int) := rd_all.1 hEl
  rw [ht.len]
  refine ev_for0 (g := fun x ρ k κ => semigroupref20_IsHom_1 k s w q (t.length : Int) x lo H κ) (t.length : Int) (fun x => ∀ x' : Int, 0 ≤ x' → x' < x → ∀ y : Int, 0 ≤ y → y < (t.length : Int) → rd f (M t x' y) = M u (rd f x') (rd f y)) ?_ ?_ 0 (by omega) (by omega) (fun x a b => by omega)
  · intro x x0 x1 hx
    have rx := hv.row x x0 x1
    have fx := hin x x0 (by omega)
    have rf := hw.row _ fx.1 fx.2
    have inner : ∀ {Q : Bool → AH → Prop}, (∀ y : Int, 0 ≤ y → y < (t.length : Int) → rd f (M t x y) ≠ M u (rd f x) (rd f y) → Q false H) → ((∀ y : Int, 0 ≤ y → y < (t.length : Int) → rd f (M t x y) = M u (rd f x) (rd f y)) → Ev (fun ρ k κ => semigroupref20_IsHom_1 k s w q (t.length : Int) (x + 1) lo H κ) Q) → Ev (fun ρ k κ => semigroupref20_IsHom_1 k s w q (t.length : Int) x lo H κ) Q := by
      intro Q c1 c2
      refine ev_eq (fun _ k _ => semigroupref20_IsHom_1_eq k) (ev_pos x1 ?_)
      rw [ht.len]
      refine ev_for0 (g := fun y ρ k κ => semigroupref20_IsHom_2 k s w q x (t.length : Int) x (t.length : Int) y lo H κ) (t.length : Int) (fun y => ∀ y' : Int, 0 ≤ y' → y' < y → rd f (M t x y') = M u (rd f x) (rd f y')) ?_ ?_ 0 (by omega) (by omega) (fun y a b => by omega)
      · intro y y0 y1 hy
        have m0 := hv.lo x y x0 x1 y0 y1
        have m1 := hv.hi x y x0 x1 y0 y1
        have fy := hin y y0 (by omega)
        have st : ∀ {Q' : Bool → AH → Prop}, Ev (fun ρ k κ => bif !decide (rd f (M t x y) = M u (rd f x) (rd f y)) then κ false H else semigroupref20_IsHom_2 k s w q x (t.length : Int) x (t.length : Int) (W (y + 1)) lo H κ) Q' → Ev (fun ρ k κ => semigroupref20_IsHom_2 k s w q x (t.length : Int) x (t.length : Int) y lo H κ) Q' := fun h =>
          ev_eq (fun _ k _ => semigroupref20_IsHom_2_eq k) (ev_pos y1 (ev_rdM ht x0 x1 y0 (by omega) (ev_rdI hf m0 (by omega) (ev_rdI hf x0 (by omega) (ev_rdS hu fx.1 fx.2 fun r hr => ev_rdI hf y0 (by omega) (ev_rdI hr fy.1 (by omega) h))))))
        by_cases he : rd f (M t x y) = M u (rd f x) (rd f y)
        · right
          refine ⟨fun y' a b => ?_, fun h' => st (ev_nneg he ?_)⟩
          · by_cases hyy : y' = y
            · rw [hyy]; exact he
            · exact hy y' a (by omega)
          · rw [W_add y0 y1 (by omega)]; exact h'
        · left
          exact st (ev_npos he (ev_ret (c1 y y0 y1 he)))
      · intro hy
        refine ev_eq (fun _ k _ => semigroupref20_IsHom_2_eq k) (ev_neg (by omega) ?_)
        rw [W_add x0 x1 (by omega)]
        exact c2 hy
    by_cases hall : ∀ y : Int, 0 ≤ y → y < (t.length : Int) → rd f (M t x y) = M u (rd f x) (rd f y)
    · right
      refine ⟨fun x' a b => ?_, fun h' => inner (fun y a b e => absurd (hall y a b) e) fun _ => h'⟩
      by_cases hxx : x' = x
      · rw [hxx]; exact hall
      · exact hx x' a (by omega)
    · left
      exact inner (fun y a b e => no fun hh => e (hh.2.mul x y x0 x1 a b)) fun h => absurd h hall
  · intro hx
    refine ev_eq (fun _ k _ => semigroupref20_IsHom_1_eq k) (ev_neg (by omega) (ev_ret ⟨?_, rfl⟩))
    rw [decide_eq_true]
    exact ⟨⟨ha, hb⟩, by omega, fun x a b => hin x a (by omega), fun x y a b c d => hx x a b y c d⟩
open Classical in
theorem morph_Image_ev {s w q : Sl} {t u : List (List Int)} {f : List Int} {H : AH} {lo : Nat} (hlo : lo ≤ H.length) (h1 : In2 t) (h2 : In2 u) (ht : Tab H s t) (hu : Tab H w u) (hf : Row H q f) : Ev (fun ρ k κ => morph_Image k s w q lo H κ) (fun v H' => Sep H H' [own reI v (if (val t = 0 ∧ val u = 0) ∧ Hm t u f then imgL u.length f else [])]) := by
  refine ev_eq (fun _ k _ => morph_Image_eq k) (ev_is (morph_IsHom_ev h1 h2 ht hu hf) (ev_nif (fun h => ev_ret ?_) (fun h => ?_)))
  · rw [if_neg h]; exact (Sep.nil H).nilS _
  rw [if_pos h]
  obtain ⟨⟨ha, hb⟩, hH⟩ := h
  have hn := (val_va.1 ha).le
  have hm := (val_va.1 hb).le
  have hl := hH.len
  rw [hu.len]
  refine sp_mks (x := false) (Sep.nil H) reB (fun _ => ⟨rfl, rfl⟩) (by omega) (by omega) fun n H4 hS => ?_
  rw [hf.len]
  refine ev_loop (α := AH) (g := fun i H ρ k κ => morph_Image_1 k n q (f.length : Int) i lo H κ) (f.length : Int) (fun i H' => ∃ b : List Bool, Sep H H' [own reB n b] ∧ b.length = u.length ∧ ∀ v : Int, 0 ≤ v → v < (u.length : Int) → (rdOf false b v = true ↔ ∃ i' : Int, 0 ≤ i' ∧ i' < i ∧ rd f i' = v)) ?_ ?_ 0 H4 (by omega) (by omega) ⟨_, hS, by simp, fun v a c => ?_⟩
  · rintro i H1 i0 i1 ⟨b, hS, hbl, hx⟩ hk
    have fi := hH.into i i0 (by omega)
    refine ev_eq (fun _ k _ => morph_Image_1_eq k) (ev_pos i1 (ev_rdI (hf.le hS.le) i0 i1 (sp_put (x := true) hS hlo (fun _ => ⟨rfl, rfl⟩) fi.1 (by omega) fun H3 hS => ?_)))
    rw [W_add i0 i1 (by omega)]
    refine hk H3 ⟨_, hS, by simpa using hbl, fun v v0 v1 => ?_⟩
    rw [rb_set fi.1 (by omega) v0]
    by_cases hvi : v = rd f i
    · rw [if_pos hvi]; exact ⟨fun _ => ⟨i, i0, by omega, hvi.symm⟩, fun _ => rfl⟩
    · rw [if_neg hvi, hx v v0 v1]
      refine ⟨fun ⟨i', p, q, r⟩ => ⟨i', p, by omega, r⟩, fun ⟨i', p, q, r⟩ => ⟨i', p, ?_, r⟩⟩
      by_cases hi : i' = i
      · rw [hi] at r; exact absurd r.symm hvi
      · omega
  · rintro H1 ⟨b, hS, hbl, hx⟩
    have hmem : ∀ v : Int, 0 ≤ v → v < (u.length : Int) → (rdOf false b v = true ↔ v ∈ f) := fun v v0 v1 => by
      rw [hx v v0 v1]
      exact ⟨fun ⟨i, a, c, d⟩ => d ▸ rd_mem a c, fun h => by obtain ⟨i, a, c, d⟩ := rd_of_mem h; exact ⟨i, a, c, d⟩⟩
    refine ev_eq (fun _ k _ => morph_Image_1_eq k) (ev_neg (by omega) ?_)
    rw [hS.len, hbl]
    refine ev_loop (α := Sl × AH) (g := fun v a ρ k κ => morph_Image_2 k a.1 n (u.length : Int) v lo a.2 κ) (u.length : Int) (fun v a => Sep H a.2 [own reI a.1 (sel (fun v => v ∈ f) 0 v.toNat), own reB n b]) ?_ ?_ 0 (⟨none, 0⟩, H1) (by omega) (by omega) (hS.nilS reI)
    · rintro v ⟨o, H2⟩ v0 v1 hS hk
      simp only at hS
      have hln := sel_len (P := fun v => v ∈ f) (i := 0) (m := v.toNat)
      refine ev_eq (fun _ k _ => morph_Image_2_eq k) (ev_pos v1 (ev_rdB (hS.pull 1).rowB v0 (by omega) (ev_b (fun hh => ?_) (fun hh => ?_))))
      · refine sp_app1 (x := v) hS hlo (fun _ => ⟨rfl, rfl⟩) (by omega) fun o' H3 hS => ev_eq (fun _ k _ => morph_Image_3_eq k) ?_
        rw [W_add v0 v1 (by omega)]
        exact hk (o', H3) (hS.eq (sel_snoc (P := fun v => v ∈ f) v0 ((hmem v v0 v1).1 hh)))
      · refine ev_eq (fun _ k _ => morph_Image_3_eq k) ?_
        rw [W_add v0 v1 (by omega)]
        exact hk (o, H2) (hS.eq (sel_skip (P := fun v => v ∈ f) v0 (fun h => by rw [(hmem v v0 v1).2 h] at hh; cases hh)))
    · rintro ⟨o, H2⟩ hS
      simp only [Int.toNat_natCast] at hS
      exact ev_eq (fun _ k _ => morph_Image_2_eq k) (ev_neg (by omega) (ev_ret (hS.take 1)))
  · rw [rb_rep a (by omega)]
    exact ⟨fun h => by (cases h), fun ⟨i', p, q, _⟩ => by omega⟩
open Classical in
theorem morph_Kernel_ev {s w q : Sl} {t u : List (List Int)} {f : List Int} {H : AH} {lo : Nat} (hlo : lo ≤ H.length) (h1 : In2 t) (h2 : In2 u) (ht : Tab H s t) (hu : Tab H w u) (hf : Row H q f) : Ev (fun ρ k κ => morph_Kernel k s w q lo H κ) (fun v H' => ∃ o, Sep H H' [own reI v o] ∧ (¬ ((val t = 0 ∧ val u = 0) ∧ Hm t u f) → o = []) ∧ ((val t = 0 ∧ val u = 0) ∧ Hm t u f → IsCl f.length (fun i j => rd f i = rd f j) o)) := by
  refine ev_eq (fun _ k _ => morph_Kernel_eq k) (ev_is (morph_IsHom_ev h1 h2 ht hu hf) (ev_nif (fun h => ev_ret ⟨[], (Sep.nil H).nilS _, fun _ => rfl, fun hh => absurd hh h⟩) (fun h => ?_)))
  have hl := h.2.len
  have hn := (val_va.1 h.1.1).le
  exact ev_call (partition_Canonical_ev (Nat.le_refl _) hf (by omega)) fun v H4 ⟨o, hS, ho⟩ => ev_ret ⟨o, hS, fun hh => absurd h hh, fun _ => ho⟩
theorem semigrouplaw20_large_ev {s : Sl} {t : List (List Int)} {H : AH} {lo : Nat} {n : Int} (ht : In2 t) (hs : Tab H s t) : Ev (fun ρ k κ => semigrouplaw20_large k s n lo H κ) (Is (decide ((t.length : Int) > n ∧ shp t = 0)) H) := by
  refine ev_eq (fun _ k _ => semigrouplaw20_large_eq k) ?_
  rw [hs.len]
  exact ev_andP (fun _ => ev_is (semigroupref14_Shape_ev ht hs) (ev_ret ⟨rfl, rfl⟩)) (ev_ret ⟨rfl, rfl⟩)
end Go.Ab

/- Congruences, quotients, the factorization of a homomorphism. What they answer. No condition but that tables and maps come in. -/
set_option linter.unusedVariables false
set_option linter.unusedSimpArgs false
namespace Go.Ab
open Go
theorem congr_firsts_ev {s : Sl} {p : List Int} {H : AH} {lo : Nat} (hlo : lo ≤ H.length) (hs : Row H s p) (hp : Cano p) (hl : p.length ≤ 4096) : Ev (fun ρ k κ => congr_firsts k s lo H κ) (fun v H' => Sep H H' [own reI v (frs p)]) := by
  refine ev_eq (fun _ k _ => congr_firsts_eq k) ?_
  rw [hs.len]
  refine ev_loop (α := Sl × AH) (g := fun i a ρ k κ => congr_firsts_1 k a.1 s (p.length : Int) i lo a.2 κ) (p.length : Int) (fun i a => Sep H a.2 [own reI a.1 (sel (Fst p) 0 i.toNat)]) ?_ ?_ 0 (⟨none, 0⟩, H) (by omega) (by omega) ((Sep.nil H).nilS reI)
  · rintro i ⟨t, H1⟩ i0 i1 hS hk
    simp only at hS
    have hln := sel_len (P := Fst p) (i := 0) (m := i.toNat)
    refine ev_eq (fun _ k _ => congr_firsts_1_eq k) (ev_pos i1 (ev_rdI (hs.le hS.le) i0 i1 ?_))
    rw [hS.len]
    refine ev_if (fun h => ?_) (fun h => ?_)
    · have hf := (hp.new i0 i1).1 h
      refine sp_app1 (x := i) hS hlo (fun _ => ⟨rfl, rfl⟩) (by omega) fun t' H' hS' => ev_eq (fun _ k _ => congr_firsts_2_eq k) ?_
      rw [W_add i0 i1 (by omega)]
      exact hk (t', H') (hS'.eq (sel_snoc i0 hf))
    · have hf := fun x => h ((hp.new i0 i1).2 x)
      refine ev_eq (fun _ k _ => congr_firsts_2_eq k) ?_
      rw [W_add i0 i1 (by omega)]
      exact hk (t, H1) (hS.eq (sel_skip i0 hf))
  · rintro ⟨t, H1⟩ hS
    exact ev_eq (fun _ k _ => congr_firsts_1_eq k) (ev_neg (by omega) (ev_ret (show Sep H H1 [own reI t (sel (Fst p) 0 p.length)] by simpa using hS)))
open Classical in
theorem congr_is_ev {s q : Sl} {t : List (List Int)} {p : List Int} {H : AH} {lo : Nat} (hlo : lo ≤ H.length) (hv : Sq t) (ht : Tab H s t) (hq : Row H q p) : Ev (fun ρ k κ => congr_is k s q 0 lo H κ) (fun v H' => v = decide (Cg t p) ∧ Le H H') := by
  have hn := hv.le
  refine ev_eq (fun _ k _ => congr_is_eq k) ?_
  rw [hq.len, ht.len]
  refine ev_orV (c := !decide ((p.length : Int) ≤ 4096 ∧ Cano p)) (fun _ => ev_is (partition_Valid_ev hq) (ev_ret ⟨by congr 1, rfl⟩)) (ev_b (fun hb => ev_ret ⟨by rw [decide_eq_false]; intro hh; have := hh.len; simp [hh.can, hh.len] at hb <;> omega, Le.refl _⟩) (fun hb => ?_))
  simp only [Bool.or_eq_false_iff, Bool.not_eq_false', decide_eq_true_iff] at hb
  obtain ⟨hl, h4, hc⟩ := hb
  refine ev_call (congr_firsts_ev (Nat.le_refl _) hq hc (by omega)) fun v5 H6 hS => ?_
  have hq' := hq.le hS.le
  have ht' := ht.le hS.le
  refine ev_for0 (g := fun x ρ k κ => congr_is_1 k s q 0 v5 q (p.length : Int) x lo H6 κ) (p.length : Int) (fun x => ∀ x' : Int, 0 ≤ x' → x' < x → ∀ s : Int, 0 ≤ s → s < (t.length : Int) → rd p (M t s x') = rd p (M t s (cf p x')) ∧ rd p (M t x' s) = rd p (M t (cf p x') s)) ?_ ?_ 0 (by omega) (by omega) (fun x a b => by omega)
  · intro x x0 x1 hx
    have x2 : x < (t.length : Int) := by omega
    have cx := cf_in hc x0 x1
    have c2 : cf p x < (t.length : Int) := by omega
    have rx := hv.row x x0 x2
    have rc := hv.row _ cx.1 c2
    have inner : ∀ {Q : Bool → AH → Prop}, (∀ y : Int, 0 ≤ y → y < (t.length : Int) → ¬ (rd p (M t y x) = rd p (M t y (cf p x)) ∧ rd p (M t x y) = rd p (M t (cf p x) y)) → Q false H6) → ((∀ y : Int, 0 ≤ y → y < (t.length : Int) → rd p (M t y x) = rd p (M t y (cf p x)) ∧ rd p (M t x y) = rd p (M t (cf p x) y)) → Ev (fun ρ k κ => congr_is_1 k s q 0 v5 q (p.length : Int) (x + 1) lo H6 κ) Q) → Ev (fun ρ k κ => congr_is_1 k s q 0 v5 q (p.length : Int) x lo H6 κ) Q := by
      intro Q k1 k2
      refine ev_eq (fun _ k _ => congr_is_1_eq k) (ev_pos x1 (ev_rdI hq' x0 x1 (ev_rdI hS.row (hc.lt x0 x1).1 (hc.frs_lt x0 x1) ?_)))
      rw [ht.len]
      refine ev_for0 (g := fun y ρ k κ => congr_is_2 k s q 0 v5 x (cf p x) q (p.length : Int) x (t.length : Int) y lo H6 κ) (t.length : Int) (fun y => ∀ y' : Int, 0 ≤ y' → y' < y → rd p (M t y' x) = rd p (M t y' (cf p x)) ∧ rd p (M t x y') = rd p (M t (cf p x) y')) ?_ ?_ 0 (by omega) (by omega) (fun y a b => by omega)
      · intro y y0 y1 hy
        have ry := hv.row y y0 y1
        have i1 := hv.lo y x y0 y1 x0 x2
        have i2 := hv.hi y x y0 y1 x0 x2
        have i3 := hv.lo y _ y0 y1 cx.1 c2
        have i4 := hv.hi y _ y0 y1 cx.1 c2
        have i5 := hv.lo x y x0 x2 y0 y1
        have i6 := hv.hi x y x0 x2 y0 y1
        have i7 := hv.lo _ y cx.1 c2 y0 y1
        have i8 := hv.hi _ y cx.1 c2 y0 y1
        have st : ∀ {Q' : Bool → AH → Prop}, (¬ (rd p (M t y x) = rd p (M t y (cf p x)) ∧ rd p (M t x y) = rd p (M t (cf p x) y)) → Q' false H6) → (rd p (M t y x) = rd p (M t y (cf p x)) ∧ rd p (M t x y) = rd p (M t (cf p x) y) → Ev (fun ρ k κ => congr_is_2 k s q 0 v5 x (cf p x) q (p.length : Int) x (t.length : Int) (y + 1) lo H6 κ) Q') → Ev (fun ρ k κ => congr_is_2 k s q 0 v5 x (cf p x) q (p.length : Int) x (t.length : Int) y lo H6 κ) Q' := fun h1 h2 => by
          refine ev_eq (fun _ k _ => congr_is_2_eq k) (ev_pos y1 (ev_andV (c := !decide (rd p (M t y x) = rd p (M t y (cf p x)))) (fun _ => ev_rdM ht' y0 y1 x0 (by omega) (ev_rdI hq' i1 (by omega) (ev_rdM ht' y0 y1 cx.1 (by omega) (ev_rdI hq' i3 (by omega) (ev_ret ⟨rfl, rfl⟩))))) (ev_orV (c := !decide ((0 : Int) = 1) && !decide (rd p (M t x y) = rd p (M t (cf p x) y))) (fun _ => ev_andV (c := !decide (rd p (M t x y) = rd p (M t (cf p x) y))) (fun _ => ev_rdM ht' x0 x2 y0 (by omega) (ev_rdI hq' i5 (by omega) (ev_rdM ht' cx.1 c2 y0 (by omega) (ev_rdI hq' i7 (by omega) (ev_ret ⟨rfl, rfl⟩))))) (ev_ret ⟨rfl, rfl⟩)) (ev_b (fun hh => ev_ret (h1 fun e => ?_)) (fun hh => ?_)))))
          · simp [e.1, e.2] at hh
          · rw [W_add y0 y1 (by omega)]
            exact h2 (by simpa using hh)
        by_cases he : rd p (M t y x) = rd p (M t y (cf p x)) ∧ rd p (M t x y) = rd p (M t (cf p x) y)
        · right
          refine ⟨fun y' a b => ?_, fun h' => st (fun h => absurd he h) fun _ => h'⟩
          by_cases hyy : y' = y
          · rw [hyy]; exact he
          · exact hy y' a (by omega)
        · left
          exact st (fun _ => k1 y y0 y1 he) fun h => absurd h he
      · intro hy
        refine ev_eq (fun _ k _ => congr_is_2_eq k) (ev_neg (by omega) ?_)
        rw [W_add x0 x1 (by omega)]
        exact k2 hy
    by_cases hall : ∀ y : Int, 0 ≤ y → y < (t.length : Int) → rd p (M t y x) = rd p (M t y (cf p x)) ∧ rd p (M t x y) = rd p (M t (cf p x) y)
    · right
      refine ⟨fun x' a b => ?_, fun h' => inner (fun y a b e => absurd (hall y a b) e) fun _ => h'⟩
      by_cases hxx : x' = x
      · rw [hxx]; exact hall
      · exact hx x' a (by omega)
    · left
      exact inner (fun y a b e => ⟨by rw [decide_eq_false]; exact fun hh => e ⟨hh.lft x y x0 x2 a b, hh.rgt x y x0 x2 a b⟩, hS.le⟩) fun h => absurd h hall
  · intro hx
    refine ev_eq (fun _ k _ => congr_is_1_eq k) (ev_neg (by omega) (ev_ret ⟨?_, hS.le⟩))
    rw [decide_eq_true]
    exact ⟨by omega, hc, fun x y a b c d => (hx x a (by omega) y c d).1, fun x y a b c d => (hx x a (by omega) y c d).2⟩
open Classical in
theorem congr_IsCongruence_ev {s q : Sl} {t : List (List Int)} {p : List Int} {H : AH} {lo : Nat} (h1 : In2 t) (ht : Tab H s t) (hq : Row H q p) : Ev (fun ρ k κ => congr_IsCongruence k s q 0 lo H κ) (fun v H' => v = decide (val t = 0 ∧ Cg t p) ∧ Le H H') := by
  refine ev_eq (fun _ k _ => congr_IsCongruence_eq k) (ev_is (mult_Validate_ev h1 ht) (ev_andV (c := true) (fun _ => ev_ret ⟨rfl, rfl⟩) (ev_andV (c := true) (fun _ => ev_ret ⟨rfl, rfl⟩) (ev_andVL (c := decide (Cg t p)) (fun hg => ?_) fun H' l => ev_ret ⟨?_, l⟩))))
  · have hv := val_va.1 (by simpa using hg)
    exact ev_call (congr_is_ev (Nat.le_refl _) hv.toSq ht hq) fun v H7 h => ev_ret h
  · rw [Bool.eq_iff_iff]; simp
noncomputable def qerr (t : List (List Int)) (p : List Int) : Int := open Classical in if val t = 0 then (if Cg t p then 0 else 1) else val t
open Classical in
theorem congr_Quotient_ev {s q : Sl} {t : List (List Int)} {p : List Int} {H : AH} {lo : Nat} (hlo : lo ≤ H.length) (h1 : In2 t) (ht : Tab H s t) (hq : Row H q p) : Ev (fun ρ k κ => congr_Quotient k s q lo H κ) (fun r H' => r.2 = qerr t p ∧ Sep H H' [own (reL reI) r.1 (if val t = 0 ∧ Cg t p then qt t p else [])]) := by
  unfold qerr
  refine ev_eq (fun _ k _ => congr_Quotient_eq k) (ev_is (mult_Validate_ev h1 ht) (ev_nif (fun h => ev_ret ⟨by rw [if_neg h], by rw [if_neg (fun hh => h hh.1)]; exact (Sep.nil H).nilS _⟩) (fun h => ?_)))
  have hv := val_va.1 h
  have hn := hv.le
  refine ev_call (congr_is_ev (Nat.le_refl _) hv.toSq ht hq) fun v3 H4 ⟨e, l4⟩ => ?_
  subst e
  refine ev_nif (fun hc => ev_ret ⟨by rw [if_pos h, if_neg hc], by rw [if_neg (fun hh => hc hh.2)]; exact (Sep.of_le l4).nilS _⟩) (fun hc => ?_)
  rw [if_pos h, if_pos hc, if_pos ⟨h, hc⟩]
  have hl := hc.len
  have lf := frs_len p
  refine ev_call (congr_firsts_ev (Nat.le_refl _) (hq.le l4) hc.can (by omega)) fun v5 H6 hS5 => ?_
  have l6 := l4.trans hS5.le
  have hlo' : lo ≤ H4.length := by have := l4.len; omega
  obtain ⟨N, hN⟩ : ∃ N : Nat, N = (frs p).length := ⟨_, rfl⟩
  rw [hS5.len, ← hN]
  refine sp_mks (x := []) hS5 (reL reI) (fun _ => ⟨⟨none, 0⟩, rfl, rfl, .inl ⟨rfl, rfl, rfl⟩⟩) (by omega) (by omega) fun o H8 hS => ?_
  simp only [Int.toNat_natCast] at hS ⊢
  have ht := ht.le l4
  have hq := hq.le l4
  refine ev_loop (α := AH) (g := fun i H ρ k κ => congr_Quotient_1 k s q v5 o v5 (N : Int) i lo H κ) (N : Int) (fun i H => ∃ T : List (List Int), Sep H4 H [own (reL reI) o T, own reI v5 (frs p)] ∧ T.length = N ∧ ∀ x' : Int, 0 ≤ x' → x' < i → (R T x').length = N ∧ ∀ y : Int, 0 ≤ y → y < N → M T x' y = rd p (M t (rd (frs p) x') (rd (frs p) y))) ?_ ?_ 0 H8 (by omega) (by omega) ⟨_, hS, by simp, fun x a b => by omega⟩
  · rintro i H1 i0 i1 ⟨T, hS, hT, hb⟩ hk
    have fi := hc.can.frs (c := i) i0 (by omega)
    have fi2 : rd (frs p) i < (t.length : Int) := by omega
    have ri := hv.row _ fi.1 fi2
    refine ev_eq (fun _ k _ => congr_Quotient_1_eq k) (ev_pos i1 (ev_rdI (hS.pull 1).row i0 (by omega) ?_))
    rw [(hS.pull 1).len, ← hN]
    refine sp_mks (x := (0 : Int)) hS reI (fun _ => ⟨rfl, rfl⟩) (by omega) (by omega) fun w H3 hS => ?_
    refine sp_putE hS.eltL.swap hlo' i0 (by omega) fun H5 hS => ?_
    refine ev_loop (α := AH) (g := fun j H ρ k κ => congr_Quotient_2 k s q v5 o i (rd (frs p) i) v5 (N : Int) i v5 (N : Int) j lo H κ) (N : Int) (fun j H => ∃ T : List (List Int), Sep H4 H [own (reL reI) o T, own reI v5 (frs p)] ∧ T.length = N ∧ (R T i).length = N ∧ (∀ x' : Int, 0 ≤ x' → x' < i → (R T x').length = N ∧ ∀ y : Int, 0 ≤ y → y < N → M T x' y = rd p (M t (rd (frs p) x') (rd (frs p) y))) ∧ ∀ y : Int, 0 ≤ y → y < j → M T i y = rd p (M t (rd (frs p) i) (rd (frs p) y))) ?_ ?_ 0 H5 (by omega) (by omega) ⟨_, hS, by simpa using hT, ?_, fun x' a b => ?_, fun y a b => by omega⟩
    · rintro j H6 j0 j1 ⟨T, hS, hT, hr, hb, hy⟩ hk
      have fj := hc.can.frs (c := j) j0 (by omega)
      have fj2 : rd (frs p) j < (t.length : Int) := by omega
      have m0 := hv.lo _ _ fi.1 fi2 fj.1 fj2
      have m1 := hv.hi _ _ fi.1 fi2 fj.1 fj2
      refine ev_eq (fun _ k _ => congr_Quotient_2_eq k) (ev_pos j1 (ev_rdI (hS.pull 1).row j0 (by omega) (sp_open hS i0 (by omega) fun w hS => ?_)))
      have hrl : (rdOf [] T i).length = N := hr
      refine ev_rdM (ht.le hS.le) fi.1 fi2 fj.1 (by omega) (ev_rdI (hq.le hS.le) m0 (by omega) (sp_put (x := rd p (M t (rd (frs p) i) (rd (frs p) j))) (hS.pull 1) hlo' (fun _ => ⟨rfl, rfl⟩) j0 (by omega) fun H' hS' => ?_))
      rw [W_add j0 j1 (by omega)]
      have hx1 : i < (T.length : Int) := by omega
      refine hk H' ⟨_, (hS'.pull 1).close, by simpa using hT, ?_, fun x' a b => ?_, fun y' a b => ?_⟩
      · rw [R_set i0 hx1 i0, if_pos rfl, List.length_set]; exact hr
      · have := hb x' a b
        unfold M
        rw [R_set i0 hx1 a, if_neg (by omega)]; exact this
      · unfold M
        rw [R_set i0 hx1 i0, if_pos rfl, rd_set j0 (by omega) a]
        by_cases hyy : y' = j
        · rw [if_pos hyy, hyy]
        · rw [if_neg hyy]; exact hy y' a (by omega)
    · rintro H6 ⟨T, hS, hT, hr, hb, hy⟩
      refine ev_eq (fun _ k _ => congr_Quotient_2_eq k) (ev_neg (by omega) ?_)
      rw [W_add i0 i1 (by omega)]
      refine hk H6 ⟨T, hS, hT, fun x' a b => ?_⟩
      by_cases hx : x' = i
      · subst hx; exact ⟨hr, fun y c d => hy y c d⟩
      · exact hb x' a (by omega)
    · rw [R_set i0 (by omega) i0, if_pos rfl]; simp
    · have := hb x' a b
      unfold M
      rw [R_set i0 (by omega) a, if_neg (by omega)]; exact this
  · rintro H1 ⟨T, hS, hT, hb⟩
    refine ev_eq (fun _ k _ => congr_Quotient_1_eq k) (ev_neg (by omega) (ev_ret ⟨rfl, ?_⟩))
    have : T = qt t p := by
      unfold qt
      rw [← hN]
      exact tab_eq hT (fun x a b => (hb x a b).1) (fun x y a b c d => (hb x a b).2 y c d)
    rw [← this]
    exact (hS.take 1).base l4
noncomputable def ferr (t u : List (List Int)) (f : List Int) : Int := open Classical in if val t = 0 then (if val u = 0 then (if Hm t u f then 0 else 1) else val u) else val t
open Classical in
theorem morph_Factor_ev {s w q : Sl} {t u : List (List Int)} {f : List Int} {H : AH} {lo : Nat} (hlo : lo ≤ H.length) (h1 : In2 t) (h2 : In2 u) (ht : Tab H s t) (hu : Tab H w u) (hf : Row H q f) : Ev (fun ρ k κ => morph_Factor k s w q lo H κ) (fun r H' => r.2.2.2 = ferr t u f ∧ ∃ T o l, Sep H H' [own (reL reI) r.1 T, own reI r.2.1 o, own reI r.2.2.1 l] ∧ (ferr t u f ≠ 0 → T = [] ∧ o = [] ∧ l = []) ∧ (ferr t u f = 0 → IsCl f.length (fun i j => rd f i = rd f j) o ∧ T = qt t o ∧ l = vl o f)) := by
  have no : ∀ (e : Int) (H' : AH), e = ferr t u f → e ≠ 0 → Le H H' → (((⟨none, 0⟩, ⟨none, 0⟩, ⟨none, 0⟩, e) : Sl × Sl × Sl × Int)).2.2.2 = ferr t u f ∧ ∃ T o l, Sep H H' [own (reL reI) (((⟨none, 0⟩, ⟨none, 0⟩, ⟨none, 0⟩, e) : Sl × Sl × Sl × Int)).1 T, own reI (((⟨none, 0⟩, ⟨none, 0⟩, ⟨none, 0⟩, e) : Sl × Sl × Sl × Int)).2.1 o, own reI (((⟨none, 0⟩, ⟨none, 0⟩, ⟨none, 0⟩, e) : Sl × Sl × Sl × Int)).2.2.1 l] ∧ (ferr t u f ≠ 0 → T = [] ∧ o = [] ∧ l = []) ∧ (ferr t u f = 0 → IsCl f.length (fun i j => rd f i = rd f j) o ∧ T = qt t o ∧ l = vl o f) := fun e H' h1 h2 l =>
    ⟨h1, [], [], [], (((Sep.of_le l).nilS _).nilS _).nilS _, fun _ => ⟨rfl, rfl, rfl⟩, fun h => absurd (h1.trans h) h2⟩
  refine ev_eq (fun _ k _ => morph_Factor_eq k) (ev_is (mult_Validate_ev h1 ht) (ev_nif (fun h => ev_ret (no _ _ (by unfold ferr; rw [if_neg h]) h (Le.refl _))) (fun ha => ev_is (mult_Validate_ev h2 hu) (ev_nif (fun h => ev_ret (no _ _ (by unfold ferr; rw [if_pos ha, if_neg h]) h (Le.refl _))) (fun hb => ?_)))))
  have hv := val_va.1 ha
  have hw := val_va.1 hb
  have hn := hv.le
  refine ev_is (morph_isHom_ev ht hu hf hv.toSq hw.toSq) (ev_nif (fun h => ev_ret (no _ _ (by unfold ferr; rw [if_pos ha, if_pos hb, if_neg h]) (by decide) (Le.refl _))) (fun hh => ?_))
  have e0 : ferr t u f = 0 := by unfold ferr; rw [if_pos ha, if_pos hb, if_pos hh]
  have hl := hh.len
  refine ev_call (partition_Canonical_ev (Nat.le_refl _) hf (by omega)) fun v7 H8 ⟨o, hS, hc⟩ => ?_
  have cg := ker_cg hv hh hc
  have lo' := hc.len
  refine ev_call (congr_Quotient_ev (Nat.le_refl _) h1 (ht.le hS.le) hS.row) fun r9 H10 ⟨e9, hS9⟩ => ?_
  unfold qerr at e9
  rw [if_pos ha, if_pos cg] at e9
  rw [if_pos ⟨ha, cg⟩] at hS9
  have hS10 := hS.call hS9
  have lq := qt_len (t := t) (p := o)
  have lf := frs_len o
  refine ev_nneg e9 ?_
  rw [hS9.len]
  refine sp_mks (x := (0 : Int)) hS10 reI (fun _ => ⟨rfl, rfl⟩) (by omega) (by omega) fun i H12 hS => ?_
  rw [Int.toNat_natCast] at hS
  rw [(hS.pull 2).len]
  refine ev_loop (α := AH) (g := fun x H ρ k κ => morph_Factor_1 k q v7 r9.1 i v7 (o.length : Int) x lo H κ) (o.length : Int) (fun x H' => ∃ l : List Int, Sep H H' [own reI i l, own (reL reI) r9.1 (qt t o), own reI v7 o] ∧ l.length = (qt t o).length ∧ ∀ x' : Int, 0 ≤ x' → x' < x → rd l (rd o x') = rd f x') ?_ ?_ 0 H12 (by omega) (by omega) ⟨_, hS, by simp, fun x a b => by omega⟩
  · rintro x H1 x0 x1 ⟨l, hS, hll, hx⟩ hk
    have ox := cg.at x0 (show x < (t.length : Int) by omega)
    refine ev_eq (fun _ k _ => morph_Factor_1_eq k) (ev_pos x1 (ev_rdI (hS.pull 2).row x0 x1 (ev_rdI (hf.le hS.le) x0 (by omega) (sp_put (x := rd f x) hS hlo (fun _ => ⟨rfl, rfl⟩) ox.1 (by omega) fun H4 hS => ?_))))
    rw [W_add x0 x1 (by omega)]
    refine hk H4 ⟨_, hS, by simpa using hll, fun x' a b => ?_⟩
    have ox' := cg.at a (show x' < (t.length : Int) by omega)
    rw [rd_set ox.1 (by omega) ox'.1]
    by_cases he : rd o x' = rd o x
    · rw [if_pos he]; exact ((hc.eqv x' x a (by omega) x0 (by omega)).1 he).symm
    · rw [if_neg he]
      exact hx x' a (by by_cases h : x' = x; · rw [h] at he; exact absurd rfl he
                        · omega)
  · rintro H1 ⟨l, hS, hll, hx⟩
    refine ev_eq (fun _ k _ => morph_Factor_1_eq k) (ev_neg (by omega) (ev_ret ⟨e0.symm, _, _, _, hS.ord [1, 1, 0], fun h => absurd e0 h, fun _ => ⟨hc, rfl, ?_⟩⟩))
    refine rd_ext (by rw [hll, lq, vl_len]) fun c c0 c1 => ?_
    obtain ⟨x, x0, x1, rfl⟩ := cg.of c0 (by omega)
    rw [hx x x0 (by omega), vl_at hc.can (fun x y a b c d e => (hc.eqv x y a (by omega) c (by omega)).1 e) x0 (by omega)]

end Go.Ab
