/- What functions answer. No condition but what each theorem says. -/
import Derived.Test.YtdoggefpmamoiaaRMorphRecognizesEq
import Derived.Test.YtdoggefpmamoiaaAbA2
import Derived.Test.YtdoggefpmamoiaaAbA3
import Derived.Test.YtdoggefpmamoiaaRMorphRecognizesM1
/- Layer 14: shape, failing, Validate, Associative and the like. What they answer. No condition but that a table comes in. -/
set_option linter.unusedVariables false
set_option linter.unusedSimpArgs false
namespace Go.Ab
open Go
theorem mult_shape_l2 {A : AH} {s r : Sl} {t : List (List Int)} {H : AH} {Q : Int → AH → Prop} {lo : Nat} (ht : In2 t) (hs : Tab H s t) {x : Int} (h0 : 0 ≤ x) (h1 : x < (t.length : Int)) (hr : Row H r (R t x))
    (hb : (∃ y, 0 ≤ y ∧ y < ((R t x).length : Int) ∧ (M t x y < 0 ∨ (t.length : Int) ≤ M t x y)) → Q 4 H)
    (hend : (∀ y, 0 ≤ y → y < ((R t x).length : Int) → ¬ (M t x y < 0 ∨ (t.length : Int) ≤ M t x y)) → Ev (fun ρ k κ => mult_shape_1 k s s (t.length : Int) (x + 1) lo H κ) Q) :
    Ev (fun ρ k κ => mult_shape_2 k s s (t.length : Int) x r ((R t x).length : Int) 0 lo H κ) Q := by
  have hl := ht.row h0 h1
  have hsl := hs.len
  have hx : x + 1 ≤ 9223372036854775807 := by have := ht.1; omega
  refine ev_for0 (g := fun y ρ k κ => mult_shape_2 k s s (t.length : Int) x r ((R t x).length : Int) y lo H κ) ((R t x).length : Int) (fun i => ∀ y, 0 ≤ y → y < i → ¬ (M t x y < 0 ∨ (t.length : Int) ≤ M t x y)) ?_ ?_ 0 (by omega) (by omega) (fun y a b => by omega)
  · intro y hy0 hy1 hi
    by_cases hbad : M t x y < 0 ∨ (t.length : Int) ≤ M t x y
    · left
      refine ev_eq (fun _ k _ => mult_shape_2_eq k) (ev_pos hy1 (ev_rdI hr hy0 hy1 (ev_orP (fun _ => ev_ret ⟨rfl, rfl⟩) (ev_pos ?_ (ev_ret (hb ⟨y, hy0, hy1, hbad⟩))))))
      show M t x y < 0 ∨ M t x y ≥ (s.len : Int)
      omega
    · right
      refine ⟨fun z hz0 hz1 => ?_, fun H => ?_⟩
      · by_cases hzx : z < y
        · exact hi z hz0 hzx
        · have : z = y := by omega
          rw [this]; exact hbad
      refine ev_eq (fun _ k _ => mult_shape_2_eq k) (ev_pos hy1 (ev_rdI hr hy0 hy1 (ev_orP (fun _ => ev_ret ⟨rfl, rfl⟩) (ev_neg ?_ ?_))))
      · show ¬ (M t x y < 0 ∨ M t x y ≥ (s.len : Int))
        omega
      · rw [W_add hy0 hy1 (by omega)]; exact H
  · intro hi
    refine ev_eq (fun _ k _ => mult_shape_2_eq k) (ev_neg (by omega) ?_)
    rw [W_add h0 h1 (by omega)]
    exact hend hi
open Classical in
theorem mult_shape_ev {s : Sl} {t : List (List Int)} {H : AH} {lo : Nat} (ht : In2 t) (hs : Tab H s t) : Ev (fun ρ k κ => mult_shape k s lo H κ) (Is (shp t) H) := by
  unfold shp
  have hl := hs.len
  refine ev_eq (fun _ k _ => mult_shape_eq k) ?_
  rw [hl]
  refine ev_if (fun h => ?_) (fun h => ?_)
  · rw [if_pos h]; exact ev_ret ⟨rfl, rfl⟩
  rw [if_neg h]
  refine ev_if (fun h => ?_) (fun h2 => ?_)
  · rw [if_pos h]; exact ev_ret ⟨rfl, rfl⟩
  rw [if_neg h2]
  generalize hr : (if Bad t then (4 : Int) else 0) = r
  refine ev_for0 (g := fun x ρ k κ => mult_shape_1 k s s (t.length : Int) x lo H κ) (t.length : Int) (fun i => ∀ x, 0 ≤ x → x < i → ¬ (((R t x).length : Int) ≠ (t.length : Int) ∨ ∃ y, 0 ≤ y ∧ y < ((R t x).length : Int) ∧ (M t x y < 0 ∨ (t.length : Int) ≤ M t x y))) ?_ ?_ 0 (by omega) (by omega) (fun x a b => by omega)
  · intro x hx0 hx1 hi
    by_cases hbad : ((R t x).length : Int) ≠ (t.length : Int) ∨ ∃ y, 0 ≤ y ∧ y < ((R t x).length : Int) ∧ (M t x y < 0 ∨ (t.length : Int) ≤ M t x y)
    · left
      have hr4 : (4 : Int) = r := by rw [← hr, if_pos ⟨x, hx0, hx1, hbad⟩]
      refine ev_eq (fun _ k _ => mult_shape_1_eq k) (ev_pos hx1 (ev_rdS hs hx0 hx1 fun v hv => ?_))
      rw [hl, hv.len]
      refine ev_nif (fun _ => ev_ret ⟨hr4, rfl⟩) (fun he => ?_)
      rcases hbad with hbad | ⟨y, hy0, hy1, hbad⟩
      · exact absurd he hbad
      exact mult_shape_l2 (A := H) ht hs hx0 hx1 hv (fun _ => ⟨hr4, rfl⟩) (fun hn => absurd hbad (hn y hy0 hy1))
    · right
      refine ⟨fun z hz0 hz1 => ?_, fun H' => ?_⟩
      · by_cases hzx : z < x
        · exact hi z hz0 hzx
        · have : z = x := by omega
          rw [this]; exact hbad
      · have he : ((R t x).length : Int) = (t.length : Int) := Classical.byContradiction fun hn => hbad (.inl hn)
        refine ev_eq (fun _ k _ => mult_shape_1_eq k) (ev_pos hx1 (ev_rdS hs hx0 hx1 fun v hv => ?_))
        rw [hl, hv.len]
        exact ev_nneg he (mult_shape_l2 (A := H) ht hs hx0 hx1 hv (fun hy => absurd (.inr hy) hbad) (fun _ => H'))
  · intro hi
    refine ev_eq (fun _ k _ => mult_shape_1_eq k) (ev_neg (by omega) (ev_ret ⟨?_, rfl⟩))
    rw [← hr, if_neg]
    rintro ⟨x, a, b, c⟩
    exact hi x a b c
theorem semigroupref14_Shape_l2 {A : AH} {s r : Sl} {t : List (List Int)} {H : AH} {Q : Int → AH → Prop} {lo : Nat} (ht : In2 t) (hs : Tab H s t) {x : Int} (h0 : 0 ≤ x) (h1 : x < (t.length : Int)) (hr : Row H r (R t x))
    (hb : (∃ y, 0 ≤ y ∧ y < ((R t x).length : Int) ∧ (M t x y < 0 ∨ (t.length : Int) ≤ M t x y)) → Q 4 H)
    (hend : (∀ y, 0 ≤ y → y < ((R t x).length : Int) → ¬ (M t x y < 0 ∨ (t.length : Int) ≤ M t x y)) → Ev (fun ρ k κ => semigroupref14_Shape_1 k s s (t.length : Int) (x + 1) lo H κ) Q) :
    Ev (fun ρ k κ => semigroupref14_Shape_2 k s s (t.length : Int) x r ((R t x).length : Int) 0 lo H κ) Q := by
  have hl := ht.row h0 h1
  have hsl := hs.len
  have hx : x + 1 ≤ 9223372036854775807 := by have := ht.1; omega
  refine ev_for0 (g := fun y ρ k κ => semigroupref14_Shape_2 k s s (t.length : Int) x r ((R t x).length : Int) y lo H κ) ((R t x).length : Int) (fun i => ∀ y, 0 ≤ y → y < i → ¬ (M t x y < 0 ∨ (t.length : Int) ≤ M t x y)) ?_ ?_ 0 (by omega) (by omega) (fun y a b => by omega)
  · intro y hy0 hy1 hi
    by_cases hbad : M t x y < 0 ∨ (t.length : Int) ≤ M t x y
    · left
      refine ev_eq (fun _ k _ => semigroupref14_Shape_2_eq k) (ev_pos hy1 (ev_rdI hr hy0 hy1 (ev_orP (fun _ => ev_ret ⟨rfl, rfl⟩) (ev_pos ?_ (ev_ret (hb ⟨y, hy0, hy1, hbad⟩))))))
      show M t x y < 0 ∨ M t x y ≥ (s.len : Int)
      omega
    · right
      refine ⟨fun z hz0 hz1 => ?_, fun H => ?_⟩
      · by_cases hzx : z < y
        · exact hi z hz0 hzx
        · have : z = y := by omega
          rw [this]; exact hbad
      refine ev_eq (fun _ k _ => semigroupref14_Shape_2_eq k) (ev_pos hy1 (ev_rdI hr hy0 hy1 (ev_orP (fun _ => ev_ret ⟨rfl, rfl⟩) (ev_neg ?_ ?_))))
      · show ¬ (M t x y < 0 ∨ M t x y ≥ (s.len : Int))
        omega
      · rw [W_add hy0 hy1 (by omega)]; exact H
  · intro hi
    refine ev_eq (fun _ k _ => semigroupref14_Shape_2_eq k) (ev_neg (by omega) ?_)
    rw [W_add h0 h1 (by omega)]
    exact hend hi
open Classical in
theorem semigroupref14_Shape_ev {s : Sl} {t : List (List Int)} {H : AH} {lo : Nat} (ht : In2 t) (hs : Tab H s t) : Ev (fun ρ k κ => semigroupref14_Shape k s lo H κ) (Is (shp t) H) := by
  unfold shp
  have hl := hs.len
  refine ev_eq (fun _ k _ => semigroupref14_Shape_eq k) ?_
  rw [hl]
  refine ev_if (fun h => ?_) (fun h => ?_)
  · rw [if_pos h]; exact ev_ret ⟨rfl, rfl⟩
  rw [if_neg h]
  refine ev_if (fun h => ?_) (fun h2 => ?_)
  · rw [if_pos h]; exact ev_ret ⟨rfl, rfl⟩
  rw [if_neg h2]
  generalize hr : (if Bad t then (4 : Int) else 0) = r
  refine ev_for0 (g := fun x ρ k κ => semigroupref14_Shape_1 k s s (t.length : Int) x lo H κ) (t.length : Int) (fun i => ∀ x, 0 ≤ x → x < i → ¬ (((R t x).length : Int) ≠ (t.length : Int) ∨ ∃ y, 0 ≤ y ∧ y < ((R t x).length : Int) ∧ (M t x y < 0 ∨ (t.length : Int) ≤ M t x y))) ?_ ?_ 0 (by omega) (by omega) (fun x a b => by omega)
  · intro x hx0 hx1 hi
    by_cases hbad : ((R t x).length : Int) ≠ (t.length : Int) ∨ ∃ y, 0 ≤ y ∧ y < ((R t x).length : Int) ∧ (M t x y < 0 ∨ (t.length : Int) ≤ M t x y)
    · left
      have hr4 : (4 : Int) = r := by rw [← hr, if_pos ⟨x, hx0, hx1, hbad⟩]
      refine ev_eq (fun _ k _ => semigroupref14_Shape_1_eq k) (ev_pos hx1 (ev_rdS hs hx0 hx1 fun v hv => ?_))
      rw [hl, hv.len]
      refine ev_nif (fun _ => ev_ret ⟨hr4, rfl⟩) (fun he => ?_)
      rcases hbad with hbad | ⟨y, hy0, hy1, hbad⟩
      · exact absurd he hbad
      exact semigroupref14_Shape_l2 (A := H) ht hs hx0 hx1 hv (fun _ => ⟨hr4, rfl⟩) (fun hn => absurd hbad (hn y hy0 hy1))
    · right
      refine ⟨fun z hz0 hz1 => ?_, fun H' => ?_⟩
      · by_cases hzx : z < x
        · exact hi z hz0 hzx
        · have : z = x := by omega
          rw [this]; exact hbad
      · have he : ((R t x).length : Int) = (t.length : Int) := Classical.byContradiction fun hn => hbad (.inl hn)
        refine ev_eq (fun _ k _ => semigroupref14_Shape_1_eq k) (ev_pos hx1 (ev_rdS hs hx0 hx1 fun v hv => ?_))
        rw [hl, hv.len]
        exact ev_nneg he (semigroupref14_Shape_l2 (A := H) ht hs hx0 hx1 hv (fun hy => absurd (.inr hy) hbad) (fun _ => H'))
  · intro hi
    refine ev_eq (fun _ k _ => semigroupref14_Shape_1_eq k) (ev_neg (by omega) (ev_ret ⟨?_, rfl⟩))
    rw [← hr, if_neg]
    rintro ⟨x, a, b, c⟩
    exact hi x a b c
theorem mult_failing_l3 {s : Sl} {t : List (List Int)} {H : AH} {lo : Nat} {Q : (Int × Int × Int × Bool) → AH → Prop} (ht : Tab H s t) (hs : Sq t) {x y : Int} (hx0 : 0 ≤ x) (hx1 : x < (t.length : Int)) (hy0 : 0 ≤ y) (hy1 : y < (t.length : Int))
    (hf : ∀ a, fnd (fun z => if M t (M t x y) z = M t x (M t y z) then none else some (x, y, z)) 0 t.length = some a → Q (a.1, a.2.1, a.2.2, true) H)
    (h : fnd (fun z => if M t (M t x y) z = M t x (M t y z) then none else some (x, y, z)) 0 t.length = none → Ev (fun ρ k κ => mult_failing_2 k s x (t.length : Int) x (t.length : Int) (y + 1) lo H κ) Q) :
    Ev (fun ρ k κ => mult_failing_3 k s x y (t.length : Int) x (t.length : Int) y (t.length : Int) 0 lo H κ) Q := by
  have hle := hs.le
  refine ev_fnd (f := fun z => if M t (M t x y) z = M t x (M t y z) then none else some (x, y, z)) (g := fun z ρ k κ => mult_failing_3 k s x y (t.length : Int) x (t.length : Int) y (t.length : Int) z lo H κ) (t.length : Int) ?_ 0 t.length (by omega) (by omega) ?_ ?_
  · intro z hz0 hz1 he H'
    have a1 := hs.lo x y hx0 hx1 hy0 hy1
    have a2 := hs.hi x y hx0 hx1 hy0 hy1
    have a3 := hs.lo y z hy0 hy1 hz0 hz1
    have a4 := hs.hi y z hy0 hy1 hz0 hz1
    have r1 := hs.row x hx0 hx1
    have r2 := hs.row y hy0 hy1
    have r3 := hs.row (M t x y) a1 a2
    have he : M t (M t x y) z = M t x (M t y z) := Classical.byContradiction fun hn => by rw [if_neg hn] at he; cases he
    refine ev_eq (fun _ k _ => mult_failing_3_eq k) (ev_pos hz1 (ev_rdM ht hx0 hx1 hy0 (by omega) (ev_rdM ht a1 a2 hz0 (by omega) (ev_rdS ht hx0 hx1 fun r hr => ev_rdM ht hy0 hy1 hz0 (by omega) (ev_rdI hr a3 (by omega) (ev_nneg he ?_))))))
    rw [W_add hz0 hz1 (by omega)]
    exact H'
  · intro z a hz0 hz1 he ha
    have a1 := hs.lo x y hx0 hx1 hy0 hy1
    have a2 := hs.hi x y hx0 hx1 hy0 hy1
    have a3 := hs.lo y z hy0 hy1 hz0 hz1
    have a4 := hs.hi y z hy0 hy1 hz0 hz1
    have r1 := hs.row x hx0 hx1
    have r2 := hs.row y hy0 hy1
    have r3 := hs.row (M t x y) a1 a2
    have hne : ¬ M t (M t x y) z = M t x (M t y z) := fun hn => by rw [if_pos hn] at he; cases he
    rw [if_neg hne] at he
    cases he
    exact ev_eq (fun _ k _ => mult_failing_3_eq k) (ev_pos hz1 (ev_rdM ht hx0 hx1 hy0 (by omega) (ev_rdM ht a1 a2 hz0 (by omega) (ev_rdS ht hx0 hx1 fun r hr => ev_rdM ht hy0 hy1 hz0 (by omega) (ev_rdI hr a3 (by omega) (ev_npos hne (ev_ret (hf _ ha))))))))
  · intro hn
    refine ev_eq (fun _ k _ => mult_failing_3_eq k) (ev_neg (by omega) ?_)
    rw [W_add hy0 hy1 (by omega)]
    exact h hn
theorem mult_failing_l1 {s : Sl} {t : List (List Int)} {H : AH} {lo : Nat} (ht : Tab H s t) (hs : Sq t) : Ev (fun ρ k κ => mult_failing_1 k s (t.length : Int) 0 lo H κ) (Is ((tri t).elim (0, 0, 0, false) (fun a => (a.1, a.2.1, a.2.2, true))) H) := by
  have hle := hs.le
  have hl := ht.len
  refine ev_fnd (f := fun x => fnd (fun y => fnd (fun z => if M t (M t x y) z = M t x (M t y z) then none else some (x, y, z)) 0 t.length) 0 t.length) (g := fun x ρ k κ => mult_failing_1 k s (t.length : Int) x lo H κ) (t.length : Int) ?_ 0 t.length (by omega) (by omega) ?_ ?_
  · intro x hx0 hx1 hn H'
    refine ev_eq (fun _ k _ => mult_failing_1_eq k) (ev_pos hx1 ?_)
    rw [hl]
    refine ev_fnd (f := fun y => fnd (fun z => if M t (M t x y) z = M t x (M t y z) then none else some (x, y, z)) 0 t.length) (g := fun y ρ k κ => mult_failing_2 k s x (t.length : Int) x (t.length : Int) y lo H κ) (t.length : Int) ?_ 0 t.length (by omega) (by omega) ?_ ?_
    · intro y hy0 hy1 hn2 H'
      refine ev_eq (fun _ k _ => mult_failing_2_eq k) (ev_pos hy1 ?_)
      rw [hl]
      exact mult_failing_l3 ht hs hx0 hx1 hy0 hy1 (fun a ha => by rw [hn2] at ha; cases ha) (fun _ => H')
    · intro y a _ _ _ ha; rw [hn] at ha; cases ha
    · intro _
      refine ev_eq (fun _ k _ => mult_failing_2_eq k) (ev_neg (by omega) ?_)
      rw [W_add hx0 hx1 (by omega)]
      exact H'
  · intro x a hx0 hx1 hfx hfa
    refine ev_eq (fun _ k _ => mult_failing_1_eq k) (ev_pos hx1 ?_)
    rw [hl]
    refine ev_fnd (f := fun y => fnd (fun z => if M t (M t x y) z = M t x (M t y z) then none else some (x, y, z)) 0 t.length) (g := fun y ρ k κ => mult_failing_2 k s x (t.length : Int) x (t.length : Int) y lo H κ) (t.length : Int) ?_ 0 t.length (by omega) (by omega) ?_ ?_
    · intro y hy0 hy1 hn2 H'
      refine ev_eq (fun _ k _ => mult_failing_2_eq k) (ev_pos hy1 ?_)
      rw [hl]
      exact mult_failing_l3 ht hs hx0 hx1 hy0 hy1 (fun a ha => by rw [hn2] at ha; cases ha) (fun _ => H')
    · intro y b hy0 hy1 hfy hfb
      refine ev_eq (fun _ k _ => mult_failing_2_eq k) (ev_pos hy1 ?_)
      rw [hl]
      refine mult_failing_l3 ht hs hx0 hx1 hy0 hy1 (fun c hc => ⟨?_, rfl⟩) (fun hn => by rw [hfy] at hn; cases hn)
      rw [hfy] at hc; cases hc
      rw [hfx] at hfb; cases hfb
      rw [show tri t = some a from hfa]; rfl
    · intro hn; rw [hfx] at hn; cases hn
  · intro hn
    refine ev_eq (fun _ k _ => mult_failing_1_eq k) (ev_neg (by omega) (ev_ret ⟨?_, rfl⟩))
    unfold tri
    rw [hn]
    rfl
theorem semigroupref14_Associative_l3 {s : Sl} {t : List (List Int)} {H : AH} {lo : Nat} {Q : (Int × Int × Int × Int) → AH → Prop} (ht : Tab H s t) (hs : Sq t) {x y : Int} (hx0 : 0 ≤ x) (hx1 : x < (t.length : Int)) (hy0 : 0 ≤ y) (hy1 : y < (t.length : Int))
    (hf : ∀ a, fnd (fun z => if M t (M t x y) z = M t x (M t y z) then none else some (x, y, z)) 0 t.length = some a → Q (a.1, a.2.1, a.2.2, 5) H)
    (h : fnd (fun z => if M t (M t x y) z = M t x (M t y z) then none else some (x, y, z)) 0 t.length = none → Ev (fun ρ k κ => semigroupref14_Associative_2 k s x (t.length : Int) x (t.length : Int) (y + 1) lo H κ) Q) :
    Ev (fun ρ k κ => semigroupref14_Associative_3 k s x y (t.length : Int) x (t.length : Int) y (t.length : Int) 0 lo H κ) Q := by
  have hle := hs.le
  refine ev_fnd (f := fun z => if M t (M t x y) z = M t x (M t y z) then none else some (x, y, z)) (g := fun z ρ k κ => semigroupref14_Associative_3 k s x y (t.length : Int) x (t.length : Int) y (t.length : Int) z lo H κ) (t.length : Int) ?_ 0 t.length (by omega) (by omega) ?_ ?_
  · intro z hz0 hz1 he H'
    have a1 := hs.lo x y hx0 hx1 hy0 hy1
    have a2 := hs.hi x y hx0 hx1 hy0 hy1
    have a3 := hs.lo y z hy0 hy1 hz0 hz1
    have a4 := hs.hi y z hy0 hy1 hz0 hz1
    have r1 := hs.row x hx0 hx1
    have r2 := hs.row y hy0 hy1
    have r3 := hs.row (M t x y) a1 a2
    have he : M t (M t x y) z = M t x (M t y z) := Classical.byContradiction fun hn => by rw [if_neg hn] at he; cases he
    refine ev_eq (fun _ k _ => semigroupref14_Associative_3_eq k) (ev_pos hz1 (ev_rdM ht hx0 hx1 hy0 (by omega) (ev_rdM ht a1 a2 hz0 (by omega) (ev_rdS ht hx0 hx1 fun r hr => ev_rdM ht hy0 hy1 hz0 (by omega) (ev_rdI hr a3 (by omega) (ev_nneg he ?_))))))
    rw [W_add hz0 hz1 (by omega)]
    exact H'
  · intro z a hz0 hz1 he ha
    have a1 := hs.lo x y hx0 hx1 hy0 hy1
    have a2 := hs.hi x y hx0 hx1 hy0 hy1
    have a3 := hs.lo y z hy0 hy1 hz0 hz1
    have a4 := hs.hi y z hy0 hy1 hz0 hz1
    have r1 := hs.row x hx0 hx1
    have r2 := hs.row y hy0 hy1
    have r3 := hs.row (M t x y) a1 a2
    have hne : ¬ M t (M t x y) z = M t x (M t y z) := fun hn => by rw [if_pos hn] at he; cases he
    rw [if_neg hne] at he
    cases he
    exact ev_eq (fun _ k _ => semigroupref14_Associative_3_eq k) (ev_pos hz1 (ev_rdM ht hx0 hx1 hy0 (by omega) (ev_rdM ht a1 a2 hz0 (by omega) (ev_rdS ht hx0 hx1 fun r hr => ev_rdM ht hy0 hy1 hz0 (by omega) (ev_rdI hr a3 (by omega) (ev_npos hne (ev_ret (hf _ ha))))))))
  · intro hn
    refine ev_eq (fun _ k _ => semigroupref14_Associative_3_eq k) (ev_neg (by omega) ?_)
    rw [W_add hy0 hy1 (by omega)]
    exact h hn
theorem semigroupref14_Associative_l1 {s : Sl} {t : List (List Int)} {H : AH} {lo : Nat} (ht : Tab H s t) (hs : Sq t) : Ev (fun ρ k κ => semigroupref14_Associative_1 k s (t.length : Int) 0 lo H κ) (Is ((tri t).elim (0, 0, 0, 0) (fun a => (a.1, a.2.1, a.2.2, 5))) H) := by
  have hle := hs.le
  have hl := ht.len
  refine ev_fnd (f := fun x => fnd (fun y => fnd (fun z => if M t (M t x y) z = M t x (M t y z) then none else some (x, y, z)) 0 t.length) 0 t.length) (g := fun x ρ k κ => semigroupref14_Associative_1 k s (t.length : Int) x lo H κ) (t.length : Int) ?_ 0 t.length (by omega) (by omega) ?_ ?_
  · intro x hx0 hx1 hn H'
    refine ev_eq (fun _ k _ => semigroupref14_Associative_1_eq k) (ev_pos hx1 ?_)
    rw [hl]
    refine ev_fnd (f := fun y => fnd (fun z => if M t (M t x y) z = M t x (M t y z) then none else some (x, y, z)) 0 t.length) (g := fun y ρ k κ => semigroupref14_Associative_2 k s x (t.length : Int) x (t.length : Int) y lo H κ) (t.length : Int) ?_ 0 t.length (by omega) (by omega) ?_ ?_
    · intro y hy0 hy1 hn2 H'
      refine ev_eq (fun _ k _ => semigroupref14_Associative_2_eq k) (ev_pos hy1 ?_)
      rw [hl]
      exact semigroupref14_Associative_l3 ht hs hx0 hx1 hy0 hy1 (fun a ha => by rw [hn2] at ha; cases ha) (fun _ => H')
    · intro y a _ _ _ ha; rw [hn] at ha; cases ha
    · intro _
      refine ev_eq (fun _ k _ => semigroupref14_Associative_2_eq k) (ev_neg (by omega) ?_)
      rw [W_add hx0 hx1 (by omega)]
      exact H'
  · intro x a hx0 hx1 hfx hfa
    refine ev_eq (fun _ k _ => semigroupref14_Associative_1_eq k) (ev_pos hx1 ?_)
    rw [hl]
    refine ev_fnd (f := fun y => fnd (fun z => if M t (M t x y) z = M t x (M t y z) then none else some (x, y, z)) 0 t.length) (g := fun y ρ k κ => semigroupref14_Associative_2 k s x (t.length : Int) x (t.length : Int) y lo H κ) (t.length : Int) ?_ 0 t.length (by omega) (by omega) ?_ ?_
    · intro y hy0 hy1 hn2 H'
      refine ev_eq (fun _ k _ => semigroupref14_Associative_2_eq k) (ev_pos hy1 ?_)
      rw [hl]
      exact semigroupref14_Associative_l3 ht hs hx0 hx1 hy0 hy1 (fun a ha => by rw [hn2] at ha; cases ha) (fun _ => H')
    · intro y b hy0 hy1 hfy hfb
      refine ev_eq (fun _ k _ => semigroupref14_Associative_2_eq k) (ev_pos hy1 ?_)
      rw [hl]
      refine semigroupref14_Associative_l3 ht hs hx0 hx1 hy0 hy1 (fun c hc => ⟨?_, rfl⟩) (fun hn => by rw [hfy] at hn; cases hn)
      rw [hfy] at hc; cases hc
      rw [hfx] at hfb; cases hfb
      rw [show tri t = some a from hfa]; rfl
    · intro hn; rw [hfx] at hn; cases hn
  · intro hn
    refine ev_eq (fun _ k _ => semigroupref14_Associative_1_eq k) (ev_neg (by omega) (ev_ret ⟨?_, rfl⟩))
    unfold tri
    rw [hn]
    rfl
theorem mult_Validate_ev {s : Sl} {t : List (List Int)} {H : AH} {lo : Nat} (ht : In2 t) (hs : Tab H s t) : Ev (fun ρ k κ => mult_Validate k s lo H κ) (Is (val t) H) := by
  unfold val
  refine ev_eq (fun _ k _ => mult_Validate_eq k) (ev_is (mult_shape_ev ht hs) ?_)
  by_cases h : shp t = 0
  · rw [if_pos h]
    refine ev_nneg h (ev_is (F' := fun ρ k κ => mult_failing k s H.length H κ) (ev_eq (fun _ k _ => mult_failing_eq k) (by rw [hs.len]; exact mult_failing_l1 hs (shp_sq.1 h))) ?_)
    cases tri t with
    | none => exact ev_f rfl (ev_ret ⟨by simp, rfl⟩)
    | some a => exact ev_t rfl (ev_ret ⟨by simp, rfl⟩)
  · rw [if_neg h]
    exact ev_npos h (ev_ret ⟨rfl, rfl⟩)
/-- What Associative answers. -/
noncomputable def asc4 (t : List (List Int)) : Int × Int × Int × Int := if shp t = 0 then ((tri t).elim (0, 0, 0, 0) (fun a => (a.1, a.2.1, a.2.2, 5))) else (0, 0, 0, shp t)
theorem asc4_val (t : List (List Int)) : (asc4 t).2.2.2 = val t := by
  unfold asc4 val
  split
  · cases tri t <;> rfl
  · rfl
theorem semigroupref14_Associative_ev {s : Sl} {t : List (List Int)} {H : AH} {lo : Nat} (ht : In2 t) (hs : Tab H s t) : Ev (fun ρ k κ => semigroupref14_Associative k s lo H κ) (Is (asc4 t) H) := by
  unfold asc4
  refine ev_eq (fun _ k _ => semigroupref14_Associative_eq k) (ev_is (semigroupref14_Shape_ev ht hs) ?_)
  by_cases h : shp t = 0
  · rw [if_pos h]
    refine ev_nneg h ?_
    rw [hs.len]
    exact semigroupref14_Associative_l1 hs (shp_sq.1 h)
  · rw [if_neg h]
    exact ev_npos h (ev_ret ⟨rfl, rfl⟩)
theorem semigroupref14_Validate_ev {s : Sl} {t : List (List Int)} {H : AH} {lo : Nat} (ht : In2 t) (hs : Tab H s t) : Ev (fun ρ k κ => semigroupref14_Validate k s lo H κ) (Is (val t) H) :=
  ev_eq (fun _ k _ => semigroupref14_Validate_eq k) (ev_is (semigroupref14_Associative_ev ht hs) (ev_ret ⟨asc4_val t, rfl⟩))
theorem semigroupref14_Valid_ev {s : Sl} {t : List (List Int)} {H : AH} {lo : Nat} (ht : In2 t) (hs : Tab H s t) : Ev (fun ρ k κ => semigroupref14_Valid k s lo H κ) (Is (decide (val t = 0)) H) :=
  ev_eq (fun _ k _ => semigroupref14_Valid_eq k) (ev_is (semigroupref14_Validate_ev ht hs) (ev_ret ⟨rfl, rfl⟩))
theorem semigroupref14_In_ev {s r : Sl} {t : List (List Int)} {l : List Int} {H : AH} {lo : Nat} (ht : s.len = t.length) (hr : Row H r l) (hl : l.length ≤ 9223372036854775807) {b : Bool} (hb : b = true ↔ El t l) : Ev (fun ρ k κ => semigroupref14_In k s r lo H κ) (Is b H) := by
  refine ev_eq (fun _ k _ => semigroupref14_In_eq k) ?_
  rw [hr.len]
  refine ev_for0 (g := fun i ρ k κ => semigroupref14_In_1 k s r (l.length : Int) i lo H κ) (l.length : Int) (fun j => ∀ i, 0 ≤ i → i < j → 0 ≤ rd l i ∧ rd l i < (t.length : Int)) ?_ ?_ 0 (by omega) (by omega) (fun i a b => by omega)
  · intro i hi0 hi1 hi
    by_cases hp : 0 ≤ rd l i ∧ rd l i < (t.length : Int)
    · right
      refine ⟨fun j j0 j1 => ?_, fun H => ?_⟩
      · by_cases hj : j = i
        · rw [hj]; exact hp
        · exact hi j j0 (by omega)
      · refine ev_eq (fun _ k _ => semigroupref14_In_1_eq k) (ev_pos hi1 (ev_rdI hr hi0 hi1 (ev_orP (fun _ => ev_ret ⟨rfl, rfl⟩) (ev_neg (by rw [ht]; omega) ?_))))
        rw [W_add hi0 hi1 (by omega)]
        exact H
    · left
      have hf : b = false := by
        cases b with
        | false => rfl
        | true => exact absurd (hb.1 rfl _ (rd_mem hi0 hi1)) hp
      exact ev_eq (fun _ k _ => semigroupref14_In_1_eq k) (ev_pos hi1 (ev_rdI hr hi0 hi1 (ev_orP (fun _ => ev_ret ⟨rfl, rfl⟩) (ev_pos (by rw [ht]; omega) (ev_ret ⟨hf.symm, rfl⟩)))))
  · intro hi
    exact ev_eq (fun _ k _ => semigroupref14_In_1_eq k) (ev_neg (by omega) (ev_ret ⟨(hb.2 (rd_all.2 hi)).symm, rfl⟩))
end Go.Ab

/- Rows compared, members; tables of Rees matrix semigroups, regularity. What they answer. No condition but that a structure comes in. -/
set_option linter.unusedVariables false
set_option linter.unusedSimpArgs false
namespace Go.Ab
open Go
theorem semigroupref03_Same_ev {a b : Sl} {x y : List Int} {H : AH} {lo : Nat} (ha : Row H a x) (hb : Row H b y) (hl : x.length ≤ 9223372036854775807) : Ev (fun ρ k κ => semigroupref03_Same k a b lo H κ) (Is (decide (x = y)) H) := by
  refine ev_eq (fun _ k _ => semigroupref03_Same_eq k) ?_
  rw [ha.len, hb.len]
  refine ev_nif (fun h => ev_ret ⟨by rw [decide_eq_false]; exact fun e => h (by rw [e]), rfl⟩) (fun h => ?_)
  refine ev_for0 (g := fun i ρ k κ => semigroupref03_Same_1 k a b (x.length : Int) i lo H κ) (x.length : Int) (fun i => ∀ j : Int, 0 ≤ j → j < i → rd x j = rd y j) ?_ ?_ 0 (by omega) (by omega) (fun j a b => by omega)
  · intro i i0 i1 hi
    by_cases hv : rd x i = rd y i
    · right
      refine ⟨fun j a b => ?_, fun h' => ?_⟩
      · by_cases hj : j = i
        · rw [hj]; exact hv
        · exact hi j a (by omega)
      · refine ev_eq (fun _ k _ => semigroupref03_Same_1_eq k) (ev_pos i1 (ev_rdI ha i0 i1 (ev_rdI hb i0 (by omega) (ev_nneg hv ?_))))
        rw [W_add i0 i1 (by omega)]; exact h'
    · left
      refine ev_eq (fun _ k _ => semigroupref03_Same_1_eq k) (ev_pos i1 (ev_rdI ha i0 i1 (ev_rdI hb i0 (by omega) (ev_npos hv (ev_ret ⟨by rw [decide_eq_false]; exact fun e => hv (by rw [e]), rfl⟩)))))
  · intro hi
    refine ev_eq (fun _ k _ => semigroupref03_Same_1_eq k) (ev_neg (by omega) (ev_ret ⟨?_, rfl⟩))
    rw [decide_eq_true]
    exact rd_ext (by omega) hi
theorem semigroupref03_Members_ev {s : Sl} {b : List Bool} {H : AH} {lo : Nat} (hlo : lo ≤ H.length) (hb : RowB H s b) (hl : b.length ≤ 8796093022207) : Ev (fun ρ k κ => semigroupref03_Members k s lo H κ) (fun v H' => Sep H H' [own reI v (sel (fun x => rdOf false b x = true) 0 b.length)]) := by
  refine ev_eq (fun _ k _ => semigroupref03_Members_eq k) ?_
  rw [hb.len]
  refine ev_loop (α := Sl × AH) (g := fun i a ρ k κ => semigroupref03_Members_1 k a.1 s (b.length : Int) i lo a.2 κ) (b.length : Int) (fun i a => Sep H a.2 [own reI a.1 (sel (fun x => rdOf false b x = true) 0 i.toNat)]) ?_ ?_ 0 (⟨none, 0⟩, H) (by omega) (by omega) ((Sep.nil H).nilS reI)
  · rintro i ⟨t, H1⟩ i0 i1 hS hk
    have hb1 : RowB H1 s b := RowOf.le hb hS.le
    have hln := sel_len (P := fun x => rdOf false b x = true) (i := 0) (m := i.toNat)
    refine ev_eq (fun _ k _ => semigroupref03_Members_1_eq k) (ev_pos i1 (ev_rdB hb1 i0 i1 (ev_b (fun hv => ?_) (fun hv => ?_))))
    · refine sp_app1 (x := i) hS hlo (fun _ => ⟨rfl, rfl⟩) (by omega) fun t' H' hS' => ev_eq (fun _ k _ => semigroupref03_Members_2_eq k) ?_
      rw [W_add i0 i1 (by omega)]
      exact hk (t', H') (hS'.eq (sel_snoc i0 hv))
    · refine ev_eq (fun _ k _ => semigroupref03_Members_2_eq k) ?_
      rw [W_add i0 i1 (by omega)]
      exact hk (t, H1) (hS.eq (sel_skip i0 (by simp [hv])))
  · rintro ⟨t, H1⟩ hS
    exact ev_eq (fun _ k _ => semigroupref03_Members_1_eq k) (ev_neg (by omega) (ev_ret (by simpa using hS)))
theorem Mk.zero {P : List (List Int)} {m k : Int} (m0 : 0 ≤ m) (k0 : 0 ≤ k) : Mk P m k 0 0 (List.replicate m.toNat false) (List.replicate k.toNat false) := by
  refine ⟨by simp; omega, by simp; omega, fun i' a0 a1 => ?_, fun l' a0 a1 => ?_⟩
  · rw [rb_rep a0 (by omega)]
    simp only [Bool.false_eq_true, false_iff]
    rintro ⟨l', s1, s2, s3, s4, s5⟩
    omega
  · rw [rb_rep a0 (by omega)]
    simp only [Bool.false_eq_true, false_iff]
    rintro ⟨i', s1, s2, s3, s4, s5⟩
    omega
end Go.Ab

/- Partitions: canonical forms, validity, meets, counts, classes. What they answer. No condition but that rows come in. -/
set_option linter.unusedVariables false
set_option linter.unusedSimpArgs false
namespace Go.Ab
open Go
abbrev ival : Int → AV := fun n => .int .i64 n
theorem partition_Canonical_ev {s : Sl} {x : List Int} {H : AH} {lo : Nat} (hlo : lo ≤ H.length) (hs : Row H s x) (hl : x.length ≤ 4096) : Ev (fun ρ k κ => partition_Canonical k s lo H κ) (fun v H' => ∃ o, Sep H H' [own reI v o] ∧ IsCl x.length (fun i j => rd x i = rd x j) o) := by
  refine ev_eq (fun _ k _ => partition_Canonical_eq k) ?_
  rw [hs.len]
  refine ev_neg (by omega) (sp_mkm ival (Sep.nil H) fun m H1 hS => sp_mks (x := (0 : Int)) hS reI (fun _ => ⟨rfl, rfl⟩) (by omega) (by omega) fun t H4 hS => ?_)
  refine ev_loop (α := AH) (g := fun i H ρ n κ => partition_Canonical_1 n (some m) t s (x.length : Int) i lo H κ) (x.length : Int) (fun i H' => ∃ o l, Sep H H' [own reI t o, ownMp ival m l] ∧ Num x o l i) ?_ ?_ 0 H4 (by omega) (by omega) ⟨_, [], hS, Num.zero (by simp)⟩
  · rintro i H1 i0 i1 ⟨o, l, hS, hN⟩ hk
    have hln := hN.len
    have step : ∀ (c : Int) (l' : List (Int × Int)) (H2 : AH), Sep H H2 [own reI t o, ownMp ival m l'] → (∀ H3, Sep H H3 [own reI t (o.set i.toNat c), ownMp ival m l'] → Num x (o.set i.toNat c) l' (i + 1)) → Ev (fun ρ n κ => partition_Canonical_2 n (some m) t i c s (x.length : Int) i lo H2 κ) (fun v H' => ∃ o, Sep H H' [own reI v o] ∧ IsCl x.length (fun i j => rd x i = rd x j) o) := by
      intro c l' H2 hS h
      refine ev_eq (fun _ k _ => partition_Canonical_2_eq k) (sp_put (x := c) hS hlo (fun _ => ⟨rfl, rfl⟩) i0 (by omega) fun H3 hS => ?_)
      rw [W_add i0 i1 (by omega)]
      exact hk H3 ⟨_, _, hS, h H3 hS⟩
    refine ev_eq (fun _ k _ => partition_Canonical_1_eq k) (ev_pos i1 (ev_rdI (hs.le hS.le) i0 i1 (sp_mlook (hS.pull 1) ?_)))
    cases e : mget l (rd x i) with
    | none =>
      exact ev_asI (n := 0) (ev_nt rfl (sp_mlen (hS.pull 1) (sp_mput (f := ival) (hS.pull 1) hlo fun H5 hS => step _ _ _ (hS.pull 1) fun _ _ => hN.new i0 i1 e)))
    | some c => exact ev_asI (n := c) (ev_nf rfl (step _ _ _ hS fun _ _ => hN.old i0 i1 e))
  · rintro H1 ⟨o, l, hS, hN⟩
    exact ev_eq (fun _ k _ => partition_Canonical_1_eq k) (ev_neg (by omega) (ev_ret ⟨o, (hS.pull 1).drop, hN.done⟩))
theorem semigroupref03_Canonical_ev {s : Sl} {x : List Int} {H : AH} {lo : Nat} (hlo : lo ≤ H.length) (hs : Row H s x) (hl : x.length ≤ 4096) : Ev (fun ρ k κ => semigroupref03_Canonical k s lo H κ) (fun v H' => ∃ o, Sep H H' [own reI v o] ∧ IsCl x.length (fun i j => rd x i = rd x j) o) := by
  refine ev_eq (fun _ k _ => semigroupref03_Canonical_eq k) ?_
  rw [hs.len]
  refine ev_neg (by omega) (sp_mks (x := (0 : Int)) (Sep.nil H) reI (fun _ => ⟨rfl, rfl⟩) (by omega) (by omega) fun t H4 hS => sp_mkm ival hS fun m H1 hS => ?_)
  refine ev_loop (α := Int × AH) (g := fun i a ρ n κ => semigroupref03_Canonical_1 n t a.1 (some m) s (x.length : Int) i lo a.2 κ) (x.length : Int) (fun i a => ∃ o l, Sep H a.2 [own reI t o, ownMp ival m l] ∧ Num x o l i ∧ a.1 = (l.length : Int) ∧ (l.length : Int) ≤ i) ?_ ?_ 0 (0, H1) (by omega) (by omega) ⟨_, [], hS.pull 1, Num.zero (by simp), rfl, by simp⟩
  · rintro i ⟨c0, H1⟩ i0 i1 ⟨o, l, hS, hN, hc0, hli⟩ hk
    simp only at hS hc0
    have hln := hN.len
    have step : ∀ (c c' : Int) (l' : List (Int × Int)) (H2 : AH), Sep H H2 [own reI t o, ownMp ival m l'] → c' = (l'.length : Int) → (l'.length : Int) ≤ i + 1 → (∀ H3, Sep H H3 [own reI t (o.set i.toNat c), ownMp ival m l'] → Num x (o.set i.toNat c) l' (i + 1)) → Ev (fun ρ n κ => semigroupref03_Canonical_2 n t c' (some m) i c s (x.length : Int) i lo H2 κ) (fun v H' => ∃ o, Sep H H' [own reI v o] ∧ IsCl x.length (fun i j => rd x i = rd x j) o) := by
      intro c c' l' H2 hS e1 e2 h
      refine ev_eq (fun _ k _ => semigroupref03_Canonical_2_eq k) (sp_put (x := c) hS hlo (fun _ => ⟨rfl, rfl⟩) i0 (by omega) fun H3 hS => ?_)
      rw [W_add i0 i1 (by omega)]
      exact hk (c', H3) ⟨_, _, hS, h H3 hS, e1, e2⟩
    refine ev_eq (fun _ k _ => semigroupref03_Canonical_1_eq k) (ev_pos i1 (ev_rdI (hs.le hS.le) i0 i1 (sp_mlook (hS.pull 1) ?_)))
    cases e : mget l (rd x i) with
    | none =>
      have hm := mset_len (w := (l.length : Int)) e
      rw [hc0]
      refine ev_asI (n := 0) (ev_nt rfl (sp_mput (f := ival) (w := (l.length : Int)) (hS.pull 1) hlo fun H5 hS => ?_))
      rw [W_in (i := (l.length : Int) + 1) (by omega) (by omega)]
      exact step _ _ _ _ (hS.pull 1) (by omega) (by omega) fun _ _ => hN.new i0 i1 e
    | some c => exact ev_asI (n := c) (ev_nf rfl (step _ _ _ _ hS hc0 (by omega) fun _ _ => hN.old i0 i1 e))
  · rintro ⟨c0, H1⟩ ⟨o, l, hS, hN, _⟩
    exact ev_eq (fun _ k _ => semigroupref03_Canonical_1_eq k) (ev_neg (by omega) (ev_ret ⟨o, (hS.pull 1).drop, hN.done⟩))
end Go.Ab

/- Green's relations: the classes. What they answer. No condition but that a table comes in. -/
set_option linter.unusedVariables false
set_option linter.unusedSimpArgs false
namespace Go.Ab
open Go
/-- The classes that were numbered before x, n of them. -/
structure MuI (N : Nat) (E : Int → Int → Prop) (o : List Int) (x n : Int) : Prop where
  len : o.length = N
  n0 : 0 ≤ n ∧ n ≤ x
  lt : ∀ j : Int, 0 ≤ j → j < N → -1 ≤ rd o j ∧ rd o j < n
  done : ∀ j : Int, 0 ≤ j → j < N → (0 ≤ rd o j ↔ ∃ x' : Int, 0 ≤ x' ∧ x' < x ∧ E x' j)
  eqv : ∀ j j' : Int, 0 ≤ j → j < N → 0 ≤ j' → j' < N → 0 ≤ rd o j → 0 ≤ rd o j' → (rd o j = rd o j' ↔ E j j')
  all : ∀ c : Int, 0 ≤ c → c < n → ∃ x' : Int, 0 ≤ x' ∧ x' < x ∧ rd o x' = c
  can : ∀ j : Int, 0 ≤ j → j < N → ∀ c : Int, 0 ≤ c → c < rd o j → ∃ j' : Int, 0 ≤ j' ∧ j' < j ∧ rd o j' = c
theorem MuI.new {N : Nat} {E : Int → Int → Prop} (hE : Eqv N E) {o o' : List Int} {x n : Int} (h : MuI N E o x n) (x0 : 0 ≤ x) (x1 : x < N) (hx : ¬ 0 ≤ rd o x) (hl : o'.length = N) (ho : ∀ j : Int, 0 ≤ j → j < N → (x ≤ j ∧ E x j ∧ rd o' j = n) ∨ (¬ (x ≤ j ∧ E x j) ∧ rd o' j = rd o j)) : MuI N E o' (x + 1) (n + 1) := by
  have hn := h.n0
  have hno : ∀ j : Int, 0 ≤ j → j < N → E x j → ¬ 0 ≤ rd o j := fun j a b e hj => by
    obtain ⟨y, y0, y1, y2⟩ := (h.done j a b).1 hj
    exact hx ((h.done x x0 x1).2 ⟨y, y0, y1, hE.trans y j x y0 (by omega) a b x0 x1 y2 (hE.symm x j x0 x1 a b e)⟩)
  have hlt : ∀ j : Int, 0 ≤ j → j < N → E x j → x ≤ j := fun j a b e => Classical.byContradiction fun hn => hno j a b e ((h.done j a b).2 ⟨j, a, by omega, hE.refl j a b⟩)
  have ho' : ∀ j : Int, 0 ≤ j → j < N → (E x j ∧ rd o' j = n) ∨ (¬ E x j ∧ rd o' j = rd o j) := fun j a b => by
    rcases ho j a b with ⟨p, q, r⟩ | ⟨p, q⟩
    · exact .inl ⟨q, r⟩
    · exact .inr ⟨fun e => p ⟨hlt j a b e, e⟩, q⟩
  refine ⟨hl, by omega, fun j a b => ?_, fun j a b => ?_, fun j j' a b a' b' c d => ?_, fun c a b => ?_, fun j a b c c0 c1 => ?_⟩
  · have := h.lt j a b
    rcases ho' j a b with ⟨_, e⟩ | ⟨_, e⟩ <;> omega
  · rcases ho' j a b with ⟨e, e'⟩ | ⟨e, e'⟩
    · exact ⟨fun _ => ⟨x, x0, by omega, e⟩, fun _ => by omega⟩
    · rw [e', h.done j a b]
      refine ⟨fun ⟨x', p, q, r⟩ => ⟨x', p, by omega, r⟩, fun ⟨x', p, q, r⟩ => ⟨x', p, ?_, r⟩⟩
      by_cases hxx : x' = x
      · exact absurd (hxx ▸ r) e
      · omega
  · rcases ho' j a b with ⟨e1, e2⟩ | ⟨e1, e2⟩ <;> rcases ho' j' a' b' with ⟨f1, f2⟩ | ⟨f1, f2⟩
    · exact ⟨fun _ => hE.trans j x j' a b x0 x1 a' b' (hE.symm x j x0 x1 a b e1) f1, fun _ => by omega⟩
    · have := h.lt j' a' b'
      exact ⟨fun _ => by omega, fun e => absurd (hE.trans x j j' x0 x1 a b a' b' e1 e) f1⟩
    · have := h.lt j a b
      exact ⟨fun _ => by omega, fun e => absurd (hE.trans x j' j x0 x1 a' b' a b f1 (hE.symm j j' a b a' b' e)) e1⟩
    · rw [e2] at c ⊢
      rw [f2] at d ⊢
      exact h.eqv j j' a b a' b' c d
  · by_cases hc : c = n
    · rcases ho' x x0 x1 with ⟨_, e⟩ | ⟨e, _⟩
      · exact ⟨x, x0, by omega, by omega⟩
      · exact absurd (hE.refl x x0 x1) e
    · obtain ⟨x', p, q, r⟩ := h.all c a (by omega)
      rcases ho' x' p (by omega) with ⟨e, _⟩ | ⟨_, e⟩
      · exact absurd (hlt x' p (by omega) e) (by omega)
      · exact ⟨x', p, by omega, by omega⟩
  · rcases ho' j a b with ⟨e, e'⟩ | ⟨e, e'⟩
    · obtain ⟨x', p, q, r⟩ := h.all c c0 (by omega)
      have := hlt j a b e
      rcases ho' x' p (by omega) with ⟨f, _⟩ | ⟨_, f⟩
      · exact absurd (hlt x' p (by omega) f) (by omega)
      · exact ⟨x', p, by omega, by omega⟩
    · rw [e'] at c1
      obtain ⟨j', p, q, r⟩ := h.can j a b c c0 c1
      rcases ho' j' p (by omega) with ⟨f, _⟩ | ⟨_, f⟩
      · exact absurd (show 0 ≤ rd o j' by omega) (hno j' p (by omega) f)
      · exact ⟨j', p, q, by omega⟩
end Go.Ab

/- Green's relations by the reference; comparisons. What they answer. No condition but that a table comes in. -/
set_option linter.unusedVariables false
set_option linter.unusedSimpArgs false
namespace Go.Ab
open Go
open Classical in
/-- A row of bools. -/
noncomputable def brow (n : Nat) (Q : Int → Prop) : List Bool := (List.range n).map fun x : Nat => decide (Q x)
theorem brow_len (n : Nat) (Q : Int → Prop) : (brow n Q).length = n := by simp [brow]
open Classical in
theorem brow_at {n : Nat} {Q : Int → Prop} {x : Int} (x0 : 0 ≤ x) (x1 : x < n) : rdOf false (brow n Q) x = decide (Q x) := by
  unfold brow; rw [rdOf_map false x0 x1, show ((x.toNat : Nat) : Int) = x by omega]
open Classical in
theorem brow_eq {n : Nat} {Q : Int → Prop} {l : List Bool} (hl : l.length = n) (h : ∀ x : Int, 0 ≤ x → x < n → (rdOf false l x = true ↔ Q x)) : l = brow n Q :=
  rdOf_ext false (by rw [brow_len, hl]) fun x x0 x1 => by rw [brow_at x0 (by omega), Bool.eq_iff_iff, decide_eq_true_iff]; exact h x x0 (by omega)
open Classical in
theorem brow_iff {n : Nat} {Q : Int → Prop} {x : Int} (x0 : 0 ≤ x) (x1 : x < n) : rdOf false (brow n Q) x = true ↔ Q x := by rw [brow_at x0 x1]; exact decide_eq_true_iff
end Go.Ab

/- J-classes and principal factors. What they answer. No condition but that a table comes in. -/
set_option linter.unusedVariables false
set_option linter.unusedSimpArgs false
namespace Go.Ab
open Go
open Classical in
theorem semigroupref03_Set_ev {s : Sl} {l : List Int} {n : Int} {H : AH} {lo : Nat} (hlo : lo ≤ H.length) (hs : Row H s l) (hl : l.length ≤ 9223372036854775807) (n0 : 0 ≤ n) (n1 : n ≤ 4096) : Ev (fun ρ k κ => semigroupref03_Set k s n lo H κ) (fun v H' => Sep H H' [own reB v (brow n.toNat fun x => x ∈ l)]) := by
  refine ev_eq (fun _ k _ => semigroupref03_Set_eq k) (sp_mks (x := false) (Sep.nil H) reB (fun _ => ⟨rfl, rfl⟩) n0 (by omega) fun u H2 hS => ?_)
  rw [hs.len]
  refine ev_loop (α := AH) (g := fun i H ρ k κ => semigroupref03_Set_1 k n u s (l.length : Int) i lo H κ) (l.length : Int) (fun i H' => ∃ b : List Bool, Sep H H' [own reB u b] ∧ (b.length : Int) = n ∧ ∀ x : Int, 0 ≤ x → x < n → (rdOf false b x = true ↔ ∃ i' : Int, 0 ≤ i' ∧ i' < i ∧ rd l i' = x)) ?_ ?_ 0 H2 (by omega) (by omega) ⟨_, hS, by simp; omega, fun x a b => ?_⟩
  · rintro i H1 i0 i1 ⟨b, hS, hb, hx⟩ hk
    have next : ∀ (H2 : AH) (b2 : List Bool), Sep H H2 [own reB u b2] → (b2.length : Int) = n → (∀ x : Int, 0 ≤ x → x < n → (rdOf false b2 x = true ↔ ∃ i' : Int, 0 ≤ i' ∧ i' < i + 1 ∧ rd l i' = x)) → Ev (fun ρ k κ => semigroupref03_Set_2 k n u s (l.length : Int) i lo H2 κ) _ := fun H2 b2 a c d => by
      refine ev_eq (fun _ k _ => semigroupref03_Set_2_eq k) ?_
      rw [W_add i0 i1 (by omega)]
      exact hk H2 ⟨b2, a, c, d⟩
    refine ev_eq (fun _ k _ => semigroupref03_Set_1_eq k) (ev_pos i1 (ev_rdI (hs.le hS.le) i0 i1 (ev_andP (c := rd l i < n) (fun _ => ev_ret ⟨rfl, rfl⟩) (ev_if (fun h => ?_) (fun h => ?_)))))
    · refine sp_put (x := true) hS hlo (fun _ => ⟨rfl, rfl⟩) (by omega) (by omega) fun H3 hS => next H3 _ hS (by simpa using hb) fun x x0 x1 => ?_
      rw [rb_set (by omega) (by omega) x0]
      by_cases hxi : x = rd l i
      · rw [if_pos hxi]; exact ⟨fun _ => ⟨i, i0, by omega, hxi.symm⟩, fun _ => rfl⟩
      · rw [if_neg hxi, hx x x0 x1]
        refine ⟨fun ⟨i', p, q, r⟩ => ⟨i', p, by omega, r⟩, fun ⟨i', p, q, r⟩ => ⟨i', p, ?_, r⟩⟩
        by_cases hi : i' = i
        · rw [hi] at r; exact absurd r.symm hxi
        · omega
    · refine next H1 b hS hb fun x x0 x1 => ?_
      rw [hx x x0 x1]
      refine ⟨fun ⟨i', p, q, r⟩ => ⟨i', p, by omega, r⟩, fun ⟨i', p, q, r⟩ => ⟨i', p, ?_, r⟩⟩
      by_cases hi : i' = i
      · rw [hi] at r; exact absurd ⟨by omega, by omega⟩ h
      · omega
  · rintro H1 ⟨b, hS, hb, hx⟩
    refine ev_eq (fun _ k _ => semigroupref03_Set_1_eq k) (ev_neg (by omega) (ev_ret (hS.eq (brow_eq (by omega) fun x x0 x1 => ?_))))
    rw [hx x x0 (by omega)]
    refine ⟨fun ⟨i, a, b, c⟩ => c ▸ rd_mem a b, fun h => ?_⟩
    obtain ⟨i, a, b, c⟩ := rd_of_mem h
    exact ⟨i, a, b, c⟩
  · rw [rb_rep a (by omega)]
    exact ⟨fun h => by (cases h), fun ⟨i', p, q, _⟩ => by omega⟩
end Go.Ab

/- Homomorphisms: which maps are, images, kernels. What they answer. No condition but that tables and a map come in. -/
set_option linter.unusedVariables false
set_option linter.unusedSimpArgs false
namespace Go.Ab
open Go
open Classical in
theorem morph_isHom_ev {s w q : Sl} {t u : List (List Int)} {f : List Int} {H : AH} {lo : Nat} (ht : Tab H s t) (hu : Tab H w u) (hf : Row H q f) (hv : Sq t) (hw : Sq u) : Ev (fun ρ k κ => morph_isHom k s w q lo H κ) (Is (decide (Hm t u f)) H) := by
  have hn := hv.le
  have hm := hw.le
  refine ev_eq (fun _ k _ => morph_isHom_eq k) ?_
  rw [hf.len, ht.len]
  refine ev_nif (fun h => ev_ret ⟨by rw [decide_eq_false]; exact fun hh => h (by rw [hh.len]), rfl⟩) (fun hl => ?_)
  refine ev_for0 (g := fun i ρ k κ => morph_isHom_1 k s w q q (f.length : Int) i lo H κ) (f.length : Int) (fun i => ∀ x : Int, 0 ≤ x → x < i → 0 ≤ rd f x ∧ rd f x < (u.length : Int)) ?_ ?_ 0 (by omega) (by omega) (fun x a b => by omega)
  · intro i i0 i1 hi
    by_cases hb : rd f i < 0 ∨ rd f i ≥ (u.length : Int)
    · left
      refine ev_eq (fun _ k _ => morph_isHom_1_eq k) (ev_pos i1 (ev_rdI hf i0 i1 (ev_orP (c := rd f i ≥ (u.length : Int)) (fun _ => ev_ret ⟨by rw [hu.len], rfl⟩) (ev_pos hb (ev_ret ⟨?_, rfl⟩)))))
      rw [decide_eq_false]
      intro hh
      have := hh.into i i0 (by omega)
      omega
    · right
      refine ⟨fun x a b => ?_, fun h' => ?_⟩
      · by_cases hx : x = i
        · rw [hx]; omega
        · exact hi x a (by omega)
      · refine ev_eq (fun _ k _ => morph_isHom_1_eq k) (ev_pos i1 (ev_rdI hf i0 i1 (ev_orP (c := rd f i ≥ (u.length : Int)) (fun _ => ev_ret ⟨by rw [hu.len], rfl⟩) (ev_neg hb ?_))))
        rw [W_add i0 i1 (by omega)]; exact h'
  · intro hin
    refine ev_eq (fun _ k _ => morph_isHom_1_eq k) (ev_neg (by omega) ?_)
    rw [ht.len]
    have bad : ∀ {x y : Int}, 0 ≤ x → x < (t.length : Int) → 0 ≤ y → y < (t.length : Int) → rd f (M t x y) ≠ M u (rd f x) (rd f y) → false = decide (Hm t u f) := fun a b c d e => by rw [decide_eq_false]; exact fun hh => e (hh.mul _ _ a b c d)
    refine ev_for0 (g := fun x ρ k κ => morph_isHom_2 k s w q (t.length : Int) x lo H κ) (t.length : Int) (fun x => ∀ x' : Int, 0 ≤ x' → x' < x → ∀ y : Int, 0 ≤ y → y < (t.length : Int) → rd f (M t x' y) = M u (rd f x') (rd f y)) ?_ ?_ 0 (by omega) (by omega) (fun x a b => by omega)
    · intro x x0 x1 hx
      have rx := hv.row x x0 x1
      have fx := hin x x0 (by omega)
      have rf := hw.row _ fx.1 fx.2
      have inner : ∀ {Q : Bool → AH → Prop}, (∀ y : Int, 0 ≤ y → y < (t.length : Int) → rd f (M t x y) ≠ M u (rd f x) (rd f y) → Q false H) → ((∀ y : Int, 0 ≤ y → y < (t.length : Int) → rd f (M t x y) = M u (rd f x) (rd f y)) → Ev (fun ρ k κ => morph_isHom_2 k s w q (t.length : Int) (x + 1) lo H κ) Q) → Ev (fun ρ k κ => morph_isHom_2 k s w q (t.length : Int) x lo H κ) Q := by
        intro Q c1 c2
        refine ev_eq (fun _ k _ => morph_isHom_2_eq k) (ev_pos x1 ?_)
        rw [ht.len]
        refine ev_for0 (g := fun y ρ k κ => morph_isHom_3 k s w q x (t.length : Int) x (t.length : Int) y lo H κ) (t.length : Int) (fun y => ∀ y' : Int, 0 ≤ y' → y' < y → rd f (M t x y') = M u (rd f x) (rd f y')) ?_ ?_ 0 (by omega) (by omega) (fun y a b => by omega)
        · intro y y0 y1 hy
          have m0 := hv.lo x y x0 x1 y0 y1
          have m1 := hv.hi x y x0 x1 y0 y1
          have fy := hin y y0 (by omega)
          have st : ∀ {Q' : Bool → AH → Prop}, Ev (fun ρ k κ => bif !decide (rd f (M t x y) = M u (rd f x) (rd f y)) then κ false H else morph_isHom_3 k s w q x (t.length : Int) x (t.length : Int) (W (y + 1)) lo H κ) Q' → Ev (fun ρ k κ => morph_isHom_3 k s w q x (t.length : Int) x (t.length : Int) y lo H κ) Q' := fun h =>
            ev_eq (fun _ k _ => morph_isHom_3_eq k) (ev_pos y1 (ev_rdM ht x0 x1 y0 (by omega) (ev_rdI hf m0 (by omega) (ev_rdI hf x0 (by omega) (ev_rdS hu fx.1 fx.2 fun r hr => ev_rdI hf y0 (by omega) (ev_rdI hr fy.1 (by omega) h))))))
          by_cases he : rd f (M t x y) = M u (rd f x) (rd f y)
          · right
            refine ⟨fun y' a b => ?_, fun h' => st (ev_nneg he ?_)⟩
            · by_cases hyy : y' = y
              · rw [hyy]; exact he
              · exact hy y' a (by omega)
            · rw [W_add y0 y1 (by omega)]; exact h'
          · left
            exact st (ev_npos he (ev_ret (c1 y y0 y1 he)))
        · intro hy
          refine ev_eq (fun _ k _ => morph_isHom_3_eq k) (ev_neg (by omega) ?_)
          rw [W_add x0 x1 (by omega)]
          exact c2 hy
      by_cases hall : ∀ y : Int, 0 ≤ y → y < (t.length : Int) → rd f (M t x y) = M u (rd f x) (rd f y)
      · right
        refine ⟨fun x' a b => ?_, fun h' => inner (fun y a b e => absurd (hall y a b) e) fun _ => h'⟩
        by_cases hxx : x' = x
        · rw [hxx]; exact hall
        · exact hx x' a (by omega)
      · left
        exact inner (fun y a b e => ⟨bad x0 x1 a b e, rfl⟩) fun h => absurd h hall
    · intro hx
      refine ev_eq (fun _ k _ => morph_isHom_2_eq k) (ev_neg (by omega) (ev_ret ⟨?_, rfl⟩))
      rw [decide_eq_true]
      exact ⟨by omega, fun x a b => hin x a (by omega), fun x y a b c d => hx x a b y c d⟩
open Classical in
theorem morph_IsHom_ev {s w q : Sl} {t u : List (List Int)} {f : List Int} {H : AH} {lo : Nat} (h1 : In2 t) (h2 : In2 u) (ht : Tab H s t) (hu : Tab H w u) (hf : Row H q f) : Ev (fun ρ k κ => morph_IsHom k s w q lo H κ) (Is (decide ((val t = 0 ∧ val u = 0) ∧ Hm t u f)) H) := by
  refine ev_eq (fun _ k _ => morph_IsHom_eq k) (ev_is (mult_Validate_ev h1 ht) (ev_andP (c := val u = 0) (fun _ => ev_is (mult_Validate_ev h2 hu) (ev_ret ⟨rfl, rfl⟩)) (ev_andP (c := Hm t u f) (fun h => ev_is (morph_isHom_ev ht hu hf (val_va.1 h.1).toSq (val_va.1 h.2).toSq) (ev_ret ⟨rfl, rfl⟩)) (ev_ret ⟨rfl, rfl⟩))))
open Classical in
theorem semigroupref20_IsHom_ev {s w q : Sl} {t u : List (List Int)} {f : List Int} {H : AH} {lo : Nat} (h1 : In2 t) (h2 : In2 u) (hfl : f.length ≤ 9223372036854775807) (ht : Tab H s t) (hu : Tab H w u) (hf : Row H q f) : Ev (fun ρ k κ => semigroupref20_IsHom k s w q lo H κ) (Is (decide ((val t = 0 ∧ val u = 0) ∧ Hm t u f)) H) := by
  have no : ¬ ((val t = 0 ∧ val u = 0) ∧ Hm t u f) → (false = decide ((val t = 0 ∧ val u = 0) ∧ Hm t u f) ∧ H = H) := fun h => ⟨by rw [decide_eq_false h], rfl⟩
  refine ev_eq (fun _ k _ => semigroupref20_IsHom_eq k) (ev_is (semigroupref14_Valid_ev h1 ht) ?_)
  refine ev_orV (c := !decide (val u = 0)) (fun _ => ev_is (semigroupref14_Valid_ev h2 hu) (ev_ret ⟨rfl, rfl⟩)) (ev_orV (c := !decide ((f.length : Int) = (t.length : Int))) (fun _ => ev_ret ⟨by rw [hf.len, ht.len], rfl⟩) (ev_orV (c := !decide (El u f)) (fun _ => ev_is (semigroupref14_In_ev (b := decide (El u f)) hu.len hf hfl (by simp)) (ev_ret ⟨rfl, rfl⟩)) (ev_b (fun hb => ev_ret (no fun hh => ?_)) (fun hb => ?_))))
  · obtain ⟨⟨a, b⟩, c⟩ := hh
    have hEl : El u f := by
      rw [show El u f ↔ ∀ i, 0 ≤ i → i < (f.length : Int) → 0 ≤ rd f i ∧ rd f i < (u.length : Int) from rd_all]
      exact fun i i0 i1 => c.into i i0 (by have := c.len; omega)
    simp [a, b, c.len, hEl] at hb
  simp only [Bool.or_eq_false_iff, Bool.not_eq_false', decide_eq_true_iff] at hb
  obtain ⟨⟨⟨ha, hb⟩, hl⟩, hEl⟩ := hb
  have hv := (val_va.1 ha).toSq
  have hw := (val_va.1 hb).toSq
  have hn := hv.le
  have hm := hw.le
  have hin : ∀ i : Int, 0 ≤ i → i < (f.length : Int) → 0 ≤ rd f i ∧ rd f i < (u.length : Int) := rd_all.1 hEl
  rw [ht.len]
  refine ev_for0 (g := fun x ρ k κ => semigroupref20_IsHom_1 k s w q (t.length : Int) x lo H κ) (t.length : Int) (fun x => ∀ x' : Int, 0 ≤ x' → x' < x → ∀ y : Int, 0 ≤ y → y < (t.length : Int) → rd f (M t x' y) = M u (rd f x') (rd f y)) ?_ ?_ 0 (by omega) (by omega) (fun x a b => by omega)
  · intro x x0 x1 hx
    have rx := hv.row x x0 x1
    have fx := hin x x0 (by omega)
    have rf := hw.row _ fx.1 fx.2
    have inner : ∀ {Q : Bool → AH → Prop}, (∀ y : Int, 0 ≤ y → y < (t.length : Int) → rd f (M t x y) ≠ M u (rd f x) (rd f y) → Q false H) → ((∀ y : Int, 0 ≤ y → y < (t.length : Int) → rd f (M t x y) = M u (rd f x) (rd f y)) → Ev (fun ρ k κ => semigroupref20_IsHom_1 k s w q (t.length : Int) (x + 1) lo H κ) Q) → Ev (fun ρ k κ => semigroupref20_IsHom_1 k s w q (t.length : Int) x lo H κ) Q := by
      intro Q c1 c2
      refine ev_eq (fun _ k _ => semigroupref20_IsHom_1_eq k) (ev_pos x1 ?_)
      rw [ht.len]
      refine ev_for0 (g := fun y ρ k κ => semigroupref20_IsHom_2 k s w q x (t.length : Int) x (t.length : Int) y lo H κ) (t.length : Int) (fun y => ∀ y' : Int, 0 ≤ y' → y' < y → rd f (M t x y') = M u (rd f x) (rd f y')) ?_ ?_ 0 (by omega) (by omega) (fun y a b => by omega)
      · intro y y0 y1 hy
        have m0 := hv.lo x y x0 x1 y0 y1
        have m1 := hv.hi x y x0 x1 y0 y1
        have fy := hin y y0 (by omega)
        have st : ∀ {Q' : Bool → AH → Prop}, Ev (fun ρ k κ => bif !decide (rd f (M t x y) = M u (rd f x) (rd f y)) then κ false H else semigroupref20_IsHom_2 k s w q x (t.length : Int) x (t.length : Int) (W (y + 1)) lo H κ) Q' → Ev (fun ρ k κ => semigroupref20_IsHom_2 k s w q x (t.length : Int) x (t.length : Int) y lo H κ) Q' := fun h =>
          ev_eq (fun _ k _ => semigroupref20_IsHom_2_eq k) (ev_pos y1 (ev_rdM ht x0 x1 y0 (by omega) (ev_rdI hf m0 (by omega) (ev_rdI hf x0 (by omega) (ev_rdS hu fx.1 fx.2 fun r hr => ev_rdI hf y0 (by omega) (ev_rdI hr fy.1 (by omega) h))))))
        by_cases he : rd f (M t x y) = M u (rd f x) (rd f y)
        · right
          refine ⟨fun y' a b => ?_, fun h' => st (ev_nneg he ?_)⟩
          · by_cases hyy : y' = y
            · rw [hyy]; exact he
            · exact hy y' a (by omega)
          · rw [W_add y0 y1 (by omega)]; exact h'
        · left
          exact st (ev_npos he (ev_ret (c1 y y0 y1 he)))
      · intro hy
        refine ev_eq (fun _ k _ => semigroupref20_IsHom_2_eq k) (ev_neg (by omega) ?_)
        rw [W_add x0 x1 (by omega)]
        exact c2 hy
    by_cases hall : ∀ y : Int, 0 ≤ y → y < (t.length : Int) → rd f (M t x y) = M u (rd f x) (rd f y)
    · right
      refine ⟨fun x' a b => ?_, fun h' => inner (fun y a b e => absurd (hall y a b) e) fun _ => h'⟩
      by_cases hxx : x' = x
      · rw [hxx]; exact hall
      · exact hx x' a (by omega)
    · left
      exact inner (fun y a b e => no fun hh => e (hh.2.mul x y x0 x1 a b)) fun h => absurd h hall
  · intro hx
    refine ev_eq (fun _ k _ => semigroupref20_IsHom_1_eq k) (ev_neg (by omega) (ev_ret ⟨?_, rfl⟩))
    rw [decide_eq_true]
    exact ⟨⟨ha, hb⟩, by omega, fun x a b => hin x a (by omega), fun x y a b c d => hx x a b y c d⟩
open Classical in
theorem morph_Image_ev {s w q : Sl} {t u : List (List Int)} {f : List Int} {H : AH} {lo : Nat} (hlo : lo ≤ H.length) (h1 : In2 t) (h2 : In2 u) (ht : Tab H s t) (hu : Tab H w u) (hf : Row H q f) : Ev (fun ρ k κ => morph_Image k s w q lo H κ) (fun v H' => Sep H H' [own reI v (if (val t = 0 ∧ val u = 0) ∧ Hm t u f then imgL u.length f else [])]) := by
  refine ev_eq (fun _ k _ => morph_Image_eq k) (ev_is (morph_IsHom_ev h1 h2 ht hu hf) (ev_nif (fun h => ev_ret ?_) (fun h => ?_)))
  · rw [if_neg h]; exact (Sep.nil H).nilS _
  rw [if_pos h]
  obtain ⟨⟨ha, hb⟩, hH⟩ := h
  have hn := (val_va.1 ha).le
  have hm := (val_va.1 hb).le
  have hl := hH.len
  rw [hu.len]
  refine sp_mks (x := false) (Sep.nil H) reB (fun _ => ⟨rfl, rfl⟩) (by omega) (by omega) fun n H4 hS => ?_
  rw [hf.len]
  refine ev_loop (α := AH) (g := fun i H ρ k κ => morph_Image_1 k n q (f.length : Int) i lo H κ) (f.length : Int) (fun i H' => ∃ b : List Bool, Sep H H' [own reB n b] ∧ b.length = u.length ∧ ∀ v : Int, 0 ≤ v → v < (u.length : Int) → (rdOf false b v = true ↔ ∃ i' : Int, 0 ≤ i' ∧ i' < i ∧ rd f i' = v)) ?_ ?_ 0 H4 (by omega) (by omega) ⟨_, hS, by simp, fun v a c => ?_⟩
  · rintro i H1 i0 i1 ⟨b, hS, hbl, hx⟩ hk
    have fi := hH.into i i0 (by omega)
    refine ev_eq (fun _ k _ => morph_Image_1_eq k) (ev_pos i1 (ev_rdI (hf.le hS.le) i0 i1 (sp_put (x := true) hS hlo (fun _ => ⟨rfl, rfl⟩) fi.1 (by omega) fun H3 hS => ?_)))
    rw [W_add i0 i1 (by omega)]
    refine hk H3 ⟨_, hS, by simpa using hbl, fun v v0 v1 => ?_⟩
    rw [rb_set fi.1 (by omega) v0]
    by_cases hvi : v = rd f i
    · rw [if_pos hvi]; exact ⟨fun _ => ⟨i, i0, by omega, hvi.symm⟩, fun _ => rfl⟩
    · rw [if_neg hvi, hx v v0 v1]
      refine ⟨fun ⟨i', p, q, r⟩ => ⟨i', p, by omega, r⟩, fun ⟨i', p, q, r⟩ => ⟨i', p, ?_, r⟩⟩
      by_cases hi : i' = i
      · rw [hi] at r; exact absurd r.symm hvi
      · omega
  · rintro H1 ⟨b, hS, hbl, hx⟩
    have hmem : ∀ v : Int, 0 ≤ v → v < (u.length : Int) → (rdOf false b v = true ↔ v ∈ f) := fun v v0 v1 => by
      rw [hx v v0 v1]
      exact ⟨fun ⟨i, a, c, d⟩ => d ▸ rd_mem a c, fun h => by obtain ⟨i, a, c, d⟩ := rd_of_mem h; exact ⟨i, a, c, d⟩⟩
    refine ev_eq (fun _ k _ => morph_Image_1_eq k) (ev_neg (by omega) ?_)
    rw [hS.len, hbl]
    refine ev_loop (α := Sl × AH) (g := fun v a ρ k κ => morph_Image_2 k a.1 n (u.length : Int) v lo a.2 κ) (u.length : Int) (fun v a => Sep H a.2 [own reI a.1 (sel (fun v => v ∈ f) 0 v.toNat), own reB n b]) ?_ ?_ 0 (⟨none, 0⟩, H1) (by omega) (by omega) (hS.nilS reI)
    · rintro v ⟨o, H2⟩ v0 v1 hS hk
      simp only at hS
      have hln := sel_len (P := fun v => v ∈ f) (i := 0) (m := v.toNat)
      refine ev_eq (fun _ k _ => morph_Image_2_eq k) (ev_pos v1 (ev_rdB (hS.pull 1).rowB v0 (by omega) (ev_b (fun hh => ?_) (fun hh => ?_))))
      · refine sp_app1 (x := v) hS hlo (fun _ => ⟨rfl, rfl⟩) (by omega) fun o' H3 hS => ev_eq (fun _ k _ => morph_Image_3_eq k) ?_
        rw [W_add v0 v1 (by omega)]
        exact hk (o', H3) (hS.eq (sel_snoc (P := fun v => v ∈ f) v0 ((hmem v v0 v1).1 hh)))
      · refine ev_eq (fun _ k _ => morph_Image_3_eq k) ?_
        rw [W_add v0 v1 (by omega)]
        exact hk (o, H2) (hS.eq (sel_skip (P := fun v => v ∈ f) v0 (fun h => by rw [(hmem v v0 v1).2 h] at hh; cases hh)))
    · rintro ⟨o, H2⟩ hS
      simp only [Int.toNat_natCast] at hS
      exact ev_eq (fun _ k _ => morph_Image_2_eq k) (ev_neg (by omega) (ev_ret (hS.take 1)))
  · rw [rb_rep a (by omega)]
    exact ⟨fun h => by (cases h), fun ⟨i', p, q, _⟩ => by omega⟩
theorem semigroupref20_Image_ev {w q : Sl} {u : List (List Int)} {f : List Int} {H : AH} {lo : Nat} (hlo : lo ≤ H.length) (hu : Tab H w u) (hul : u.length ≤ 400) (hf : Row H q f) (hl : f.length ≤ 400) : Ev (fun ρ k κ => semigroupref20_Image k w q lo H κ) (fun v H' => Sep H H' [own reI v (imgL u.length f)]) := by
  refine ev_eq (fun _ k _ => semigroupref20_Image_eq k) ?_
  rw [hu.len]
  refine ev_call (semigroupref03_Set_ev (Nat.le_refl _) hf (by omega) (by omega) (by omega)) fun v H2 h2 => ev_call (semigroupref03_Members_ev (Nat.le_refl _) h2.rowB (by rw [brow_len]; omega)) fun m H4 h4 => ev_ret ((h4.base h2.le).eq ?_)
  rw [brow_len, Int.toNat_natCast]
  unfold imgL
  exact sel_congr fun j j0 j1 => brow_iff j0 (by omega)
open Classical in
theorem morph_Kernel_ev {s w q : Sl} {t u : List (List Int)} {f : List Int} {H : AH} {lo : Nat} (hlo : lo ≤ H.length) (h1 : In2 t) (h2 : In2 u) (ht : Tab H s t) (hu : Tab H w u) (hf : Row H q f) : Ev (fun ρ k κ => morph_Kernel k s w q lo H κ) (fun v H' => ∃ o, Sep H H' [own reI v o] ∧ (¬ ((val t = 0 ∧ val u = 0) ∧ Hm t u f) → o = []) ∧ ((val t = 0 ∧ val u = 0) ∧ Hm t u f → IsCl f.length (fun i j => rd f i = rd f j) o)) := by
  refine ev_eq (fun _ k _ => morph_Kernel_eq k) (ev_is (morph_IsHom_ev h1 h2 ht hu hf) (ev_nif (fun h => ev_ret ⟨[], (Sep.nil H).nilS _, fun _ => rfl, fun hh => absurd hh h⟩) (fun h => ?_)))
  have hl := h.2.len
  have hn := (val_va.1 h.1.1).le
  exact ev_call (partition_Canonical_ev (Nat.le_refl _) hf (by omega)) fun v H4 ⟨o, hS, ho⟩ => ev_ret ⟨o, hS, fun hh => absurd h hh, fun _ => ho⟩
theorem semigrouplaw20_large_ev {s : Sl} {t : List (List Int)} {H : AH} {lo : Nat} {n : Int} (ht : In2 t) (hs : Tab H s t) : Ev (fun ρ k κ => semigrouplaw20_large k s n lo H κ) (Is (decide ((t.length : Int) > n ∧ shp t = 0)) H) := by
  refine ev_eq (fun _ k _ => semigrouplaw20_large_eq k) ?_
  rw [hs.len]
  exact ev_andP (fun _ => ev_is (semigroupref14_Shape_ev ht hs) (ev_ret ⟨rfl, rfl⟩)) (ev_ret ⟨rfl, rfl⟩)
end Go.Ab
