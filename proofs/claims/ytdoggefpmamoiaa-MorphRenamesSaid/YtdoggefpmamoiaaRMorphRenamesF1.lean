/- What functions answer. No condition but what each theorem says. -/
import Derived.Test.YtdoggefpmamoiaaRMorphRenamesEq
import Derived.Test.YtdoggefpmamoiaaAbA2
import Derived.Test.YtdoggefpmamoiaaAbA3
import Derived.Test.YtdoggefpmamoiaaRMorphRenamesM1
/- Layer 14: shape, failing, Validate, Associative and the like. What they answer. No condition but that a table comes in. -/
set_option linter.unusedVariables false
set_option linter.unusedSimpArgs false
namespace Go.Ab
open Go
theorem mult_shape_l2 {A : AH} {s r : Sl} {t : List (List Int)} {H : AH} {Q : Int → AH → Prop} {lo : Nat} (ht : In2 t) (hs : Tab H s t) {x : Int} (h0 : 0 ≤ x) (h1 : x < (t.length : Int)) (hr : Row H r (R t x))
    (hb : (∃ y, 0 ≤ y ∧ y < ((R t x).length : Int) ∧ (M t x y < 0 ∨ (t.length : Int) ≤ M t x y)) → Q 4 H)
    (hend : (∀ y, 0 ≤ y → y < ((R t x).length : Int) → ¬ (M t x y < 0 ∨ (t.length : Int) ≤ M t x y)) → Ev (fun ρ k κ => mult_shape_1 k s s (t.length : Int) (x + 1) lo H κ) Q) :
    Ev (fun ρ k κ => mult_shape_2 k s s (t.length : Int) x r ((R t x).length : Int) 0 lo H κ) Q := by
  have hl := ht.row h0 h1
  have hsl := hs.len
  have hx : x + 1 ≤ 9223372036854775807 := by have := ht.1; omega
  refine ev_for0 (g := fun y ρ k κ => mult_shape_2 k s s (t.length : Int) x r ((R t x).length : Int) y lo H κ) ((R t x).length : Int) (fun i => ∀ y, 0 ≤ y → y < i → ¬ (M t x y < 0 ∨ (t.length : Int) ≤ M t x y)) ?_ ?_ 0 (by omega) (by omega) (fun y a b => by omega)
  · intro y hy0 hy1 hi
    by_cases hbad : M t x y < 0 ∨ (t.length : Int) ≤ M t x y
    · left
      refine ev_eq (fun _ k _ => mult_shape_2_eq k) (ev_pos hy1 (ev_rdI hr hy0 hy1 (ev_orP (fun _ => ev_ret ⟨rfl, rfl⟩) (ev_pos ?_ (ev_ret (hb ⟨y, hy0, hy1, hbad⟩))))))
      show M t x y < 0 ∨ M t x y ≥ (s.len : Int)
      omega
    · right
      refine ⟨fun z hz0 hz1 => ?_, fun H => ?_⟩
      · by_cases hzx : z < y
        · exact hi z hz0 hzx
        · have : z = y := by omega
          rw [this]; exact hbad
      refine ev_eq (fun _ k _ => mult_shape_2_eq k) (ev_pos hy1 (ev_rdI hr hy0 hy1 (ev_orP (fun _ => ev_ret ⟨rfl, rfl⟩) (ev_neg ?_ ?_))))
      · show ¬ (M t x y < 0 ∨ M t x y ≥ (s.len : Int))
        omega
      · rw [W_add hy0 hy1 (by omega)]; exact H
  · intro hi
    refine ev_eq (fun _ k _ => mult_shape_2_eq k) (ev_neg (by omega) ?_)
    rw [W_add h0 h1 (by omega)]
    exact hend hi
open Classical in
theorem mult_shape_ev {s : Sl} {t : List (List Int)} {H : AH} {lo : Nat} (ht : In2 t) (hs : Tab H s t) : Ev (fun ρ k κ => mult_shape k s lo H κ) (Is (shp t) H) := by
  unfold shp
  have hl := hs.len
  refine ev_eq (fun _ k _ => mult_shape_eq k) ?_
  rw [hl]
  refine ev_if (fun h => ?_) (fun h => ?_)
  · rw [if_pos h]; exact ev_ret ⟨rfl, rfl⟩
  rw [if_neg h]
  refine ev_if (fun h => ?_) (fun h2 => ?_)
  · rw [if_pos h]; exact ev_ret ⟨rfl, rfl⟩
  rw [if_neg h2]
  generalize hr : (if Bad t then (4 : Int) else 0) = r
  refine ev_for0 (g := fun x ρ k κ => mult_shape_1 k s s (t.length : Int) x lo H κ) (t.length : Int) (fun i => ∀ x, 0 ≤ x → x < i → ¬ (((R t x).length : Int) ≠ (t.length : Int) ∨ ∃ y, 0 ≤ y ∧ y < ((R t x).length : Int) ∧ (M t x y < 0 ∨ (t.length : Int) ≤ M t x y))) ?_ ?_ 0 (by omega) (by omega) (fun x a b => by omega)
  · intro x hx0 hx1 hi
    by_cases hbad : ((R t x).length : Int) ≠ (t.length : Int) ∨ ∃ y, 0 ≤ y ∧ y < ((R t x).length : Int) ∧ (M t x y < 0 ∨ (t.length : Int) ≤ M t x y)
    · left
      have hr4 : (4 : Int) = r := by rw [← hr, if_pos ⟨x, hx0, hx1, hbad⟩]
      refine ev_eq (fun _ k _ => mult_shape_1_eq k) (ev_pos hx1 (ev_rdS hs hx0 hx1 fun v hv => ?_))
      rw [hl, hv.len]
      refine ev_nif (fun _ => ev_ret ⟨hr4, rfl⟩) (fun he => ?_)
      rcases hbad with hbad | ⟨y, hy0, hy1, hbad⟩
      · exact absurd he hbad
      exact mult_shape_l2 (A := H) ht hs hx0 hx1 hv (fun _ => ⟨hr4, rfl⟩) (fun hn => absurd hbad (hn y hy0 hy1))
    · right
      refine ⟨fun z hz0 hz1 => ?_, fun H' => ?_⟩
      · by_cases hzx : z < x
        · exact hi z hz0 hzx
        · have : z = x := by omega
          rw [this]; exact hbad
      · have he : ((R t x).length : Int) = (t.length : Int) := Classical.byContradiction fun hn => hbad (.inl hn)
        refine ev_eq (fun _ k _ => mult_shape_1_eq k) (ev_pos hx1 (ev_rdS hs hx0 hx1 fun v hv => ?_))
        rw [hl, hv.len]
        exact ev_nneg he (mult_shape_l2 (A := H) ht hs hx0 hx1 hv (fun hy => absurd (.inr hy) hbad) (fun _ => H'))
  · intro hi
    refine ev_eq (fun _ k _ => mult_shape_1_eq k) (ev_neg (by omega) (ev_ret ⟨?_, rfl⟩))
    rw [← hr, if_neg]
    rintro ⟨x, a, b, c⟩
    exact hi x a b c
theorem semigroupref14_Shape_l2 {A : AH} {s r : Sl} {t : List (List Int)} {H : AH} {Q : Int → AH → Prop} {lo : Nat} (ht : In2 t) (hs : Tab H s t) {x : Int} (h0 : 0 ≤ x) (h1 : x < (t.length : Int)) (hr : Row H r (R t x))
    (hb : (∃ y, 0 ≤ y ∧ y < ((R t x).length : Int) ∧ (M t x y < 0 ∨ (t.length : Int) ≤ M t x y)) → Q 4 H)
    (hend : (∀ y, 0 ≤ y → y < ((R t x).length : Int) → ¬ (M t x y < 0 ∨ (t.length : Int) ≤ M t x y)) → Ev (fun ρ k κ => semigroupref14_Shape_1 k s s (t.length : Int) (x + 1) lo H κ) Q) :
    Ev (fun ρ k κ => semigroupref14_Shape_2 k s s (t.length : Int) x r ((R t x).length : Int) 0 lo H κ) Q := by
  have hl := ht.row h0 h1
  have hsl := hs.len
  have hx : x + 1 ≤ 9223372036854775807 := by have := ht.1; omega
  refine ev_for0 (g := fun y ρ k κ => semigroupref14_Shape_2 k s s (t.length : Int) x r ((R t x).length : Int) y lo H κ) ((R t x).length : Int) (fun i => ∀ y, 0 ≤ y → y < i → ¬ (M t x y < 0 ∨ (t.length : Int) ≤ M t x y)) ?_ ?_ 0 (by omega) (by omega) (fun y a b => by omega)
  · intro y hy0 hy1 hi
    by_cases hbad : M t x y < 0 ∨ (t.length : Int) ≤ M t x y
    · left
      refine ev_eq (fun _ k _ => semigroupref14_Shape_2_eq k) (ev_pos hy1 (ev_rdI hr hy0 hy1 (ev_orP (fun _ => ev_ret ⟨rfl, rfl⟩) (ev_pos ?_ (ev_ret (hb ⟨y, hy0, hy1, hbad⟩))))))
      show M t x y < 0 ∨ M t x y ≥ (s.len : Int)
      omega
    · right
      refine ⟨fun z hz0 hz1 => ?_, fun H => ?_⟩
      · by_cases hzx : z < y
        · exact hi z hz0 hzx
        · have : z = y := by omega
          rw [this]; exact hbad
      refine ev_eq (fun _ k _ => semigroupref14_Shape_2_eq k) (ev_pos hy1 (ev_rdI hr hy0 hy1 (ev_orP (fun _ => ev_ret ⟨rfl, rfl⟩) (ev_neg ?_ ?_))))
      · show ¬ (M t x y < 0 ∨ M t x y ≥ (s.len : Int))
        omega
      · rw [W_add hy0 hy1 (by omega)]; exact H
  · intro hi
    refine ev_eq (fun _ k _ => semigroupref14_Shape_2_eq k) (ev_neg (by omega) ?_)
    rw [W_add h0 h1 (by omega)]
    exact hend hi
open Classical in
theorem semigroupref14_Shape_ev {s : Sl} {t : List (List Int)} {H : AH} {lo : Nat} (ht : In2 t) (hs : Tab H s t) : Ev (fun ρ k κ => semigroupref14_Shape k s lo H κ) (Is (shp t) H) := by
  unfold shp
  have hl := hs.len
  refine ev_eq (fun _ k _ => semigroupref14_Shape_eq k) ?_
  rw [hl]
  refine ev_if (fun h => ?_) (fun h => ?_)
  · rw [if_pos h]; exact ev_ret ⟨rfl, rfl⟩
  rw [if_neg h]
  refine ev_if (fun h => ?_) (fun h2 => ?_)
  · rw [if_pos h]; exact ev_ret ⟨rfl, rfl⟩
  rw [if_neg h2]
  generalize hr : (if Bad t then (4 : Int) else 0) = r
  refine ev_for0 (g := fun x ρ k κ => semigroupref14_Shape_1 k s s (t.length : Int) x lo H κ) (t.length : Int) (fun i => ∀ x, 0 ≤ x → x < i → ¬ (((R t x).length : Int) ≠ (t.length : Int) ∨ ∃ y, 0 ≤ y ∧ y < ((R t x).length : Int) ∧ (M t x y < 0 ∨ (t.length : Int) ≤ M t x y))) ?_ ?_ 0 (by omega) (by omega) (fun x a b => by omega)
  · intro x hx0 hx1 hi
    by_cases hbad : ((R t x).length : Int) ≠ (t.length : Int) ∨ ∃ y, 0 ≤ y ∧ y < ((R t x).length : Int) ∧ (M t x y < 0 ∨ (t.length : Int) ≤ M t x y)
    · left
      have hr4 : (4 : Int) = r := by rw [← hr, if_pos ⟨x, hx0, hx1, hbad⟩]
      refine ev_eq (fun _ k _ => semigroupref14_Shape_1_eq k) (ev_pos hx1 (ev_rdS hs hx0 hx1 fun v hv => ?_))
      rw [hl, hv.len]
      refine ev_nif (fun _ => ev_ret ⟨hr4, rfl⟩) (fun he => ?_)
      rcases hbad with hbad | ⟨y, hy0, hy1, hbad⟩
      · exact absurd he hbad
      exact semigroupref14_Shape_l2 (A := H) ht hs hx0 hx1 hv (fun _ => ⟨hr4, rfl⟩) (fun hn => absurd hbad (hn y hy0 hy1))
    · right
      refine ⟨fun z hz0 hz1 => ?_, fun H' => ?_⟩
      · by_cases hzx : z < x
        · exact hi z hz0 hzx
        · have : z = x := by omega
          rw [this]; exact hbad
      · have he : ((R t x).length : Int) = (t.length : Int) := Classical.byContradiction fun hn => hbad (.inl hn)
        refine ev_eq (fun _ k _ => semigroupref14_Shape_1_eq k) (ev_pos hx1 (ev_rdS hs hx0 hx1 fun v hv => ?_))
        rw [hl, hv.len]
        exact ev_nneg he (semigroupref14_Shape_l2 (A := H) ht hs hx0 hx1 hv (fun hy => absurd (.inr hy) hbad) (fun _ => H'))
  · intro hi
    refine ev_eq (fun _ k _ => semigroupref14_Shape_1_eq k) (ev_neg (by omega) (ev_ret ⟨?_, rfl⟩))
    rw [← hr, if_neg]
    rintro ⟨x, a, b, c⟩
    exact hi x a b c
theorem mult_failing_l3 {s : Sl} {t : List (List Int)} {H : AH} {lo : Nat} {Q : (Int × Int × Int × Bool) → AH → Prop} (ht : Tab H s t) (hs : Sq t) {x y : Int} (hx0 : 0 ≤ x) (hx1 : x < (t.length : Int)) (hy0 : 0 ≤ y) (hy1 : y < (t.length : Int))
    (hf : ∀ a, fnd (fun z => if M t (M t x y) z = M t x (M t y z) then none else some (x, y, z)) 0 t.length = some a → Q (a.1, a.2.1, a.2.2, true) H)
    (h : fnd (fun z => if M t (M t x y) z = M t x (M t y z) then none else some (x, y, z)) 0 t.length = none → Ev (fun ρ k κ => mult_failing_2 k s x (t.length : Int) x (t.length : Int) (y + 1) lo H κ) Q) :
    Ev (fun ρ k κ => mult_failing_3 k s x y (t.length : Int) x (t.length : Int) y (t.length : Int) 0 lo H κ) Q := by
  have hle := hs.le
  refine ev_fnd (f := fun z => if M t (M t x y) z = M t x (M t y z) then none else some (x, y, z)) (g := fun z ρ k κ => mult_failing_3 k s x y (t.length : Int) x (t.length : Int) y (t.length : Int) z lo H κ) (t.length : Int) ?_ 0 t.length (by omega) (by omega) ?_ ?_
  · intro z hz0 hz1 he H'
    have a1 := hs.lo x y hx0 hx1 hy0 hy1
    have a2 := hs.hi x y hx0 hx1 hy0 hy1
    have a3 := hs.lo y z hy0 hy1 hz0 hz1
    have a4 := hs.hi y z hy0 hy1 hz0 hz1
    have r1 := hs.row x hx0 hx1
    have r2 := hs.row y hy0 hy1
    have r3 := hs.row (M t x y) a1 a2
    have he : M t (M t x y) z = M t x (M t y z) := Classical.byContradiction fun hn => by rw [if_neg hn] at he; cases he
    refine ev_eq (fun _ k _ => mult_failing_3_eq k) (ev_pos hz1 (ev_rdM ht hx0 hx1 hy0 (by omega) (ev_rdM ht a1 a2 hz0 (by omega) (ev_rdS ht hx0 hx1 fun r hr => ev_rdM ht hy0 hy1 hz0 (by omega) (ev_rdI hr a3 (by omega) (ev_nneg he ?_))))))
    rw [W_add hz0 hz1 (by omega)]
    exact H'
  · intro z a hz0 hz1 he ha
    have a1 := hs.lo x y hx0 hx1 hy0 hy1
    have a2 := hs.hi x y hx0 hx1 hy0 hy1
    have a3 := hs.lo y z hy0 hy1 hz0 hz1
    have a4 := hs.hi y z hy0 hy1 hz0 hz1
    have r1 := hs.row x hx0 hx1
    have r2 := hs.row y hy0 hy1
    have r3 := hs.row (M t x y) a1 a2
    have hne : ¬ M t (M t x y) z = M t x (M t y z) := fun hn => by rw [if_pos hn] at he; cases he
    rw [if_neg hne] at he
    cases he
    exact ev_eq (fun _ k _ => mult_failing_3_eq k) (ev_pos hz1 (ev_rdM ht hx0 hx1 hy0 (by omega) (ev_rdM ht a1 a2 hz0 (by omega) (ev_rdS ht hx0 hx1 fun r hr => ev_rdM ht hy0 hy1 hz0 (by omega) (ev_rdI hr a3 (by omega) (ev_npos hne (ev_ret (hf _ ha))))))))
  · intro hn
    refine ev_eq (fun _ k _ => mult_failing_3_eq k) (ev_neg (by omega) ?_)
    rw [W_add hy0 hy1 (by omega)]
    exact h hn
theorem mult_failing_l1 {s : Sl} {t : List (List Int)} {H : AH} {lo : Nat} (ht : Tab H s t) (hs : Sq t) : Ev (fun ρ k κ => mult_failing_1 k s (t.length : Int) 0 lo H κ) (Is ((tri t).elim (0, 0, 0, false) (fun a => (a.1, a.2.1, a.2.2, true))) H) := by
  have hle := hs.le
  have hl := ht.len
  refine ev_fnd (f := fun x => fnd (fun y => fnd (fun z => if M t (M t x y) z = M t x (M t y z) then none else some (x, y, z)) 0 t.length) 0 t.length) (g := fun x ρ k κ => mult_failing_1 k s (t.length : Int) x lo H κ) (t.length : Int) ?_ 0 t.length (by omega) (by omega) ?_ ?_
  · intro x hx0 hx1 hn H'
    refine ev_eq (fun _ k _ => mult_failing_1_eq k) (ev_pos hx1 ?_)
    rw [hl]
    refine ev_fnd (f := fun y => fnd (fun z => if M t (M t x y) z = M t x (M t y z) then none else some (x, y, z)) 0 t.length) (g := fun y ρ k κ => mult_failing_2 k s x (t.length : Int) x (t.length : Int) y lo H κ) (t.length : Int) ?_ 0 t.length (by omega) (by omega) ?_ ?_
    · intro y hy0 hy1 hn2 H'
      refine ev_eq (fun _ k _ => mult_failing_2_eq k) (ev_pos hy1 ?_)
      rw [hl]
      exact mult_failing_l3 ht hs hx0 hx1 hy0 hy1 (fun a ha => by rw [hn2] at ha; cases ha) (fun _ => H')
    · intro y a _ _ _ ha; rw [hn] at ha; cases ha
    · intro _
      refine ev_eq (fun _ k _ => mult_failing_2_eq k) (ev_neg (by omega) ?_)
      rw [W_add hx0 hx1 (by omega)]
      exact H'
  · intro x a hx0 hx1 hfx hfa
    refine ev_eq (fun _ k _ => mult_failing_1_eq k) (ev_pos hx1 ?_)
    rw [hl]
    refine ev_fnd (f := fun y => fnd (fun z => if M t (M t x y) z = M t x (M t y z) then none else some (x, y, z)) 0 t.length) (g := fun y ρ k κ => mult_failing_2 k s x (t.length : Int) x (t.length : Int) y lo H κ) (t.length : Int) ?_ 0 t.length (by omega) (by omega) ?_ ?_
    · intro y hy0 hy1 hn2 H'
      refine ev_eq (fun _ k _ => mult_failing_2_eq k) (ev_pos hy1 ?_)
      rw [hl]
      exact mult_failing_l3 ht hs hx0 hx1 hy0 hy1 (fun a ha => by rw [hn2] at ha; cases ha) (fun _ => H')
    · intro y b hy0 hy1 hfy hfb
      refine ev_eq (fun _ k _ => mult_failing_2_eq k) (ev_pos hy1 ?_)
      rw [hl]
      refine mult_failing_l3 ht hs hx0 hx1 hy0 hy1 (fun c hc => ⟨?_, rfl⟩) (fun hn => by rw [hfy] at hn; cases hn)
      rw [hfy] at hc; cases hc
      rw [hfx] at hfb; cases hfb
      rw [show tri t = some a from hfa]; rfl
    · intro hn; rw [hfx] at hn; cases hn
  · intro hn
    refine ev_eq (fun _ k _ => mult_failing_1_eq k) (ev_neg (by omega) (ev_ret ⟨?_, rfl⟩))
    unfold tri
    rw [hn]
    rfl
theorem semigroupref14_Associative_l3 {s : Sl} {t : List (List Int)} {H : AH} {lo : Nat} {Q : (Int × Int × Int × Int) → AH → Prop} (ht : Tab H s t) (hs : Sq t) {x y : Int} (hx0 : 0 ≤ x) (hx1 : x < (t.length : Int)) (hy0 : 0 ≤ y) (hy1 : y < (t.length : Int))
    (hf : ∀ a, fnd (fun z => if M t (M t x y) z = M t x (M t y z) then none else some (x, y, z)) 0 t.length = some a → Q (a.1, a.2.1, a.2.2, 5) H)
    (h : fnd (fun z => if M t (M t x y) z = M t x (M t y z) then none else some (x, y, z)) 0 t.length = none → Ev (fun ρ k κ => semigroupref14_Associative_2 k s x (t.length : Int) x (t.length : Int) (y + 1) lo H κ) Q) :
    Ev (fun ρ k κ => semigroupref14_Associative_3 k s x y (t.length : Int) x (t.length : Int) y (t.length : Int) 0 lo H κ) Q := by
  have hle := hs.le
  refine ev_fnd (f := fun z => if M t (M t x y) z = M t x (M t y z) then none else some (x, y, z)) (g := fun z ρ k κ => semigroupref14_Associative_3 k s x y (t.length : Int) x (t.length : Int) y (t.length : Int) z lo H κ) (t.length : Int) ?_ 0 t.length (by omega) (by omega) ?_ ?_
  · intro z hz0 hz1 he H'
    have a1 := hs.lo x y hx0 hx1 hy0 hy1
    have a2 := hs.hi x y hx0 hx1 hy0 hy1
    have a3 := hs.lo y z hy0 hy1 hz0 hz1
    have a4 := hs.hi y z hy0 hy1 hz0 hz1
    have r1 := hs.row x hx0 hx1
    have r2 := hs.row y hy0 hy1
    have r3 := hs.row (M t x y) a1 a2
    have he : M t (M t x y) z = M t x (M t y z) := Classical.byContradiction fun hn => by rw [if_neg hn] at he; cases he
    refine ev_eq (fun _ k _ => semigroupref14_Associative_3_eq k) (ev_pos hz1 (ev_rdM ht hx0 hx1 hy0 (by omega) (ev_rdM ht a1 a2 hz0 (by omega) (ev_rdS ht hx0 hx1 fun r hr => ev_rdM ht hy0 hy1 hz0 (by omega) (ev_rdI hr a3 (by omega) (ev_nneg he ?_))))))
    rw [W_add hz0 hz1 (by omega)]
    exact H'
  · intro z a hz0 hz1 he ha
    have a1 := hs.lo x y hx0 hx1 hy0 hy1
    have a2 := hs.hi x y hx0 hx1 hy0 hy1
    have a3 := hs.lo y z hy0 hy1 hz0 hz1
    have a4 := hs.hi y z hy0 hy1 hz0 hz1
    have r1 := hs.row x hx0 hx1
    have r2 := hs.row y hy0 hy1
    have r3 := hs.row (M t x y) a1 a2
    have hne : ¬ M t (M t x y) z = M t x (M t y z) := fun hn => by rw [if_pos hn] at he; cases he
    rw [if_neg hne] at he
    cases he
    exact ev_eq (fun _ k _ => semigroupref14_Associative_3_eq k) (ev_pos hz1 (ev_rdM ht hx0 hx1 hy0 (by omega) (ev_rdM ht a1 a2 hz0 (by omega) (ev_rdS ht hx0 hx1 fun r hr => ev_rdM ht hy0 hy1 hz0 (by omega) (ev_rdI hr a3 (by omega) (ev_npos hne (ev_ret (hf _ ha))))))))
  · intro hn
    refine ev_eq (fun _ k _ => semigroupref14_Associative_3_eq k) (ev_neg (by omega) ?_)
    rw [W_add hy0 hy1 (by omega)]
    exact h hn
theorem semigroupref14_Associative_l1 {s : Sl} {t : List (List Int)} {H : AH} {lo : Nat} (ht : Tab H s t) (hs : Sq t) : Ev (fun ρ k κ => semigroupref14_Associative_1 k s (t.length : Int) 0 lo H κ) (Is ((tri t).elim (0, 0, 0, 0) (fun a => (a.1, a.2.1, a.2.2, 5))) H) := by
  have hle := hs.le
  have hl := ht.len
  refine ev_fnd (f := fun x => fnd (fun y => fnd (fun z => if M t (M t x y) z = M t x (M t y z) then none else some (x, y, z)) 0 t.length) 0 t.length) (g := fun x ρ k κ => semigroupref14_Associative_1 k s (t.length : Int) x lo H κ) (t.length : Int) ?_ 0 t.length (by omega) (by omega) ?_ ?_
  · intro x hx0 hx1 hn H'
    refine ev_eq (fun _ k _ => semigroupref14_Associative_1_eq k) (ev_pos hx1 ?_)
    rw [hl]
    refine ev_fnd (f := fun y => fnd (fun z => if M t (M t x y) z = M t x (M t y z) then none else some (x, y, z)) 0 t.length) (g := fun y ρ k κ => semigroupref14_Associative_2 k s x (t.length : Int) x (t.length : Int) y lo H κ) (t.length : Int) ?_ 0 t.length (by omega) (by omega) ?_ ?_
    · intro y hy0 hy1 hn2 H'
      refine ev_eq (fun _ k _ => semigroupref14_Associative_2_eq k) (ev_pos hy1 ?_)
      rw [hl]
      exact semigroupref14_Associative_l3 ht hs hx0 hx1 hy0 hy1 (fun a ha => by rw [hn2] at ha; cases ha) (fun _ => H')
    · intro y a _ _ _ ha; rw [hn] at ha; cases ha
    · intro _
      refine ev_eq (fun _ k _ => semigroupref14_Associative_2_eq k) (ev_neg (by omega) ?_)
      rw [W_add hx0 hx1 (by omega)]
      exact H'
  · intro x a hx0 hx1 hfx hfa
    refine ev_eq (fun _ k _ => semigroupref14_Associative_1_eq k) (ev_pos hx1 ?_)
    rw [hl]
    refine ev_fnd (f := fun y => fnd (fun z => if M t (M t x y) z = M t x (M t y z) then none else some (x, y, z)) 0 t.length) (g := fun y ρ k κ => semigroupref14_Associative_2 k s x (t.length : Int) x (t.length : Int) y lo H κ) (t.length : Int) ?_ 0 t.length (by omega) (by omega) ?_ ?_
    · intro y hy0 hy1 hn2 H'
      refine ev_eq (fun _ k _ => semigroupref14_Associative_2_eq k) (ev_pos hy1 ?_)
      rw [hl]
      exact semigroupref14_Associative_l3 ht hs hx0 hx1 hy0 hy1 (fun a ha => by rw [hn2] at ha; cases ha) (fun _ => H')
    · intro y b hy0 hy1 hfy hfb
      refine ev_eq (fun _ k _ => semigroupref14_Associative_2_eq k) (ev_pos hy1 ?_)
      rw [hl]
      refine semigroupref14_Associative_l3 ht hs hx0 hx1 hy0 hy1 (fun c hc => ⟨?_, rfl⟩) (fun hn => by rw [hfy] at hn; cases hn)
      rw [hfy] at hc; cases hc
      rw [hfx] at hfb; cases hfb
      rw [show tri t = some a from hfa]; rfl
    · intro hn; rw [hfx] at hn; cases hn
  · intro hn
    refine ev_eq (fun _ k _ => semigroupref14_Associative_1_eq k) (ev_neg (by omega) (ev_ret ⟨?_, rfl⟩))
    unfold tri
    rw [hn]
    rfl
theorem mult_Validate_ev {s : Sl} {t : List (List Int)} {H : AH} {lo : Nat} (ht : In2 t) (hs : Tab H s t) : Ev (fun ρ k κ => mult_Validate k s lo H κ) (Is (val t) H) := by
  unfold val
  refine ev_eq (fun _ k _ => mult_Validate_eq k) (ev_is (mult_shape_ev ht hs) ?_)
  by_cases h : shp t = 0
  · rw [if_pos h]
    refine ev_nneg h (ev_is (F' := fun ρ k κ => mult_failing k s H.length H κ) (ev_eq (fun _ k _ => mult_failing_eq k) (by rw [hs.len]; exact mult_failing_l1 hs (shp_sq.1 h))) ?_)
    cases tri t with
    | none => exact ev_f rfl (ev_ret ⟨by simp, rfl⟩)
    | some a => exact ev_t rfl (ev_ret ⟨by simp, rfl⟩)
  · rw [if_neg h]
    exact ev_npos h (ev_ret ⟨rfl, rfl⟩)
/-- What Associative answers. -/
noncomputable def asc4 (t : List (List Int)) : Int × Int × Int × Int := if shp t = 0 then ((tri t).elim (0, 0, 0, 0) (fun a => (a.1, a.2.1, a.2.2, 5))) else (0, 0, 0, shp t)
theorem asc4_val (t : List (List Int)) : (asc4 t).2.2.2 = val t := by
  unfold asc4 val
  split
  · cases tri t <;> rfl
  · rfl
theorem semigroupref14_Associative_ev {s : Sl} {t : List (List Int)} {H : AH} {lo : Nat} (ht : In2 t) (hs : Tab H s t) : Ev (fun ρ k κ => semigroupref14_Associative k s lo H κ) (Is (asc4 t) H) := by
  unfold asc4
  refine ev_eq (fun _ k _ => semigroupref14_Associative_eq k) (ev_is (semigroupref14_Shape_ev ht hs) ?_)
  by_cases h : shp t = 0
  · rw [if_pos h]
    refine ev_nneg h ?_
    rw [hs.len]
    exact semigroupref14_Associative_l1 hs (shp_sq.1 h)
  · rw [if_neg h]
    exact ev_npos h (ev_ret ⟨rfl, rfl⟩)
theorem semigroupref14_Validate_ev {s : Sl} {t : List (List Int)} {H : AH} {lo : Nat} (ht : In2 t) (hs : Tab H s t) : Ev (fun ρ k κ => semigroupref14_Validate k s lo H κ) (Is (val t) H) :=
  ev_eq (fun _ k _ => semigroupref14_Validate_eq k) (ev_is (semigroupref14_Associative_ev ht hs) (ev_ret ⟨asc4_val t, rfl⟩))
theorem semigroupref14_Valid_ev {s : Sl} {t : List (List Int)} {H : AH} {lo : Nat} (ht : In2 t) (hs : Tab H s t) : Ev (fun ρ k κ => semigroupref14_Valid k s lo H κ) (Is (decide (val t = 0)) H) :=
  ev_eq (fun _ k _ => semigroupref14_Valid_eq k) (ev_is (semigroupref14_Validate_ev ht hs) (ev_ret ⟨rfl, rfl⟩))
end Go.Ab

/- Rows compared, members; tables of Rees matrix semigroups, regularity. What they answer. No condition but that a structure comes in. -/
set_option linter.unusedVariables false
set_option linter.unusedSimpArgs false
namespace Go.Ab
open Go
theorem semigroupref03_Same_ev {a b : Sl} {x y : List Int} {H : AH} {lo : Nat} (ha : Row H a x) (hb : Row H b y) (hl : x.length ≤ 9223372036854775807) : Ev (fun ρ k κ => semigroupref03_Same k a b lo H κ) (Is (decide (x = y)) H) := by
  refine ev_eq (fun _ k _ => semigroupref03_Same_eq k) ?_
  rw [ha.len, hb.len]
  refine ev_nif (fun h => ev_ret ⟨by rw [decide_eq_false]; exact fun e => h (by rw [e]), rfl⟩) (fun h => ?_)
  refine ev_for0 (g := fun i ρ k κ => semigroupref03_Same_1 k a b (x.length : Int) i lo H κ) (x.length : Int) (fun i => ∀ j : Int, 0 ≤ j → j < i → rd x j = rd y j) ?_ ?_ 0 (by omega) (by omega) (fun j a b => by omega)
  · intro i i0 i1 hi
    by_cases hv : rd x i = rd y i
    · right
      refine ⟨fun j a b => ?_, fun h' => ?_⟩
      · by_cases hj : j = i
        · rw [hj]; exact hv
        · exact hi j a (by omega)
      · refine ev_eq (fun _ k _ => semigroupref03_Same_1_eq k) (ev_pos i1 (ev_rdI ha i0 i1 (ev_rdI hb i0 (by omega) (ev_nneg hv ?_))))
        rw [W_add i0 i1 (by omega)]; exact h'
    · left
      refine ev_eq (fun _ k _ => semigroupref03_Same_1_eq k) (ev_pos i1 (ev_rdI ha i0 i1 (ev_rdI hb i0 (by omega) (ev_npos hv (ev_ret ⟨by rw [decide_eq_false]; exact fun e => hv (by rw [e]), rfl⟩)))))
  · intro hi
    refine ev_eq (fun _ k _ => semigroupref03_Same_1_eq k) (ev_neg (by omega) (ev_ret ⟨?_, rfl⟩))
    rw [decide_eq_true]
    exact rd_ext (by omega) hi
theorem Mk.zero {P : List (List Int)} {m k : Int} (m0 : 0 ≤ m) (k0 : 0 ≤ k) : Mk P m k 0 0 (List.replicate m.toNat false) (List.replicate k.toNat false) := by
  refine ⟨by simp; omega, by simp; omega, fun i' a0 a1 => ?_, fun l' a0 a1 => ?_⟩
  · rw [rb_rep a0 (by omega)]
    simp only [Bool.false_eq_true, false_iff]
    rintro ⟨l', s1, s2, s3, s4, s5⟩
    omega
  · rw [rb_rep a0 (by omega)]
    simp only [Bool.false_eq_true, false_iff]
    rintro ⟨i', s1, s2, s3, s4, s5⟩
    omega
end Go.Ab

/- Green's relations: the classes. What they answer. No condition but that a table comes in. -/
set_option linter.unusedVariables false
set_option linter.unusedSimpArgs false
namespace Go.Ab
open Go
/-- The classes that were numbered before x, n of them. -/
structure MuI (N : Nat) (E : Int → Int → Prop) (o : List Int) (x n : Int) : Prop where
  len : o.length = N
  n0 : 0 ≤ n ∧ n ≤ x
  lt : ∀ j : Int, 0 ≤ j → j < N → -1 ≤ rd o j ∧ rd o j < n
  done : ∀ j : Int, 0 ≤ j → j < N → (0 ≤ rd o j ↔ ∃ x' : Int, 0 ≤ x' ∧ x' < x ∧ E x' j)
  eqv : ∀ j j' : Int, 0 ≤ j → j < N → 0 ≤ j' → j' < N → 0 ≤ rd o j → 0 ≤ rd o j' → (rd o j = rd o j' ↔ E j j')
  all : ∀ c : Int, 0 ≤ c → c < n → ∃ x' : Int, 0 ≤ x' ∧ x' < x ∧ rd o x' = c
  can : ∀ j : Int, 0 ≤ j → j < N → ∀ c : Int, 0 ≤ c → c < rd o j → ∃ j' : Int, 0 ≤ j' ∧ j' < j ∧ rd o j' = c
theorem MuI.skip {N : Nat} {E : Int → Int → Prop} (hE : Eqv N E) {o : List Int} {x n : Int} (h : MuI N E o x n) (x0 : 0 ≤ x) (x1 : x < N) (hx : 0 ≤ rd o x) : MuI N E o (x + 1) n := by
  have := h.n0
  refine ⟨h.len, by omega, h.lt, fun j a b => (h.done j a b).trans ⟨fun ⟨x', p, q, r⟩ => ⟨x', p, by omega, r⟩, fun ⟨x', p, q, r⟩ => ?_⟩, h.eqv, fun c a b => ?_, h.can⟩
  · by_cases hxx : x' = x
    · obtain ⟨y, y0, y1, y2⟩ := (h.done x x0 x1).1 hx
      exact ⟨y, y0, y1, hE.trans y x j y0 (by omega) x0 x1 a b y2 (hxx ▸ r)⟩
    · exact ⟨x', p, by omega, r⟩
  · obtain ⟨x', p, q, r⟩ := h.all c a b
    exact ⟨x', p, by omega, r⟩
end Go.Ab

/- Homomorphisms: which maps are, images, kernels. What they answer. No condition but that tables and a map come in. -/
set_option linter.unusedVariables false
set_option linter.unusedSimpArgs false
namespace Go.Ab
open Go
open Classical in
theorem morph_isHom_ev {s w q : Sl} {t u : List (List Int)} {f : List Int} {H : AH} {lo : Nat} (ht : Tab H s t) (hu : Tab H w u) (hf : Row H q f) (hv : Sq t) (hw : Sq u) : Ev (fun ρ k κ => morph_isHom k s w q lo H κ) (Is (decide (Hm t u f)) H) := by
  have hn := hv.le
  have hm := hw.le
  refine ev_eq (fun _ k _ => morph_isHom_eq k) ?_
  rw [hf.len, ht.len]
  refine ev_nif (fun h => ev_ret ⟨by rw [decide_eq_false]; exact fun hh => h (by rw [hh.len]), rfl⟩) (fun hl => ?_)
  refine ev_for0 (g := fun i ρ k κ => morph_isHom_1 k s w q q (f.length : Int) i lo H κ) (f.length : Int) (fun i => ∀ x : Int, 0 ≤ x → x < i → 0 ≤ rd f x ∧ rd f x < (u.length : Int)) ?_ ?_ 0 (by omega) (by omega) (fun x a b => by omega)
  · intro i i0 i1 hi
    by_cases hb : rd f i < 0 ∨ rd f i ≥ (u.length : Int)
    · left
      refine ev_eq (fun _ k _ => morph_isHom_1_eq k) (ev_pos i1 (ev_rdI hf i0 i1 (ev_orP (c := rd f i ≥ (u.length : Int)) (fun _ => ev_ret ⟨by rw [hu.len], rfl⟩) (ev_pos hb (ev_ret ⟨?_, rfl⟩)))))
      rw [decide_eq_false]
      intro hh
      have := hh.into i i0 (by omega)
      omega
    · right
      refine ⟨fun x a b => ?_, fun h' => ?_⟩
      · by_cases hx : x = i
        · rw [hx]; omega
        · exact hi x a (by omega)
      · refine ev_eq (fun _ k _ => morph_isHom_1_eq k) (ev_pos i1 (ev_rdI hf i0 i1 (ev_orP (c := rd f i ≥ (u.length : Int)) (fun _ => ev_ret ⟨by rw [hu.len], rfl⟩) (ev_neg hb ?_))))
        rw [W_add i0 i1 (by omega)]; exact h'
  · intro hin
    refine ev_eq (fun _ k _ => morph_isHom_1_eq k) (ev_neg (by omega) ?_)
    rw [ht.len]
    have bad : ∀ {x y : Int}, 0 ≤ x → x < (t.length : Int) → 0 ≤ y → y < (t.length : Int) → rd f (M t x y) ≠ M u (rd f x) (rd f y) → false = decide (Hm t u f) := fun a b c d e => by rw [decide_eq_false]; exact fun hh => e (hh.mul _ _ a b c d)
    refine ev_for0 (g := fun x ρ k κ => morph_isHom_2 k s w q (t.length : Int) x lo H κ) (t.length : Int) (fun x => ∀ x' : Int, 0 ≤ x' → x' < x → ∀ y : Int, 0 ≤ y → y < (t.length : Int) → rd f (M t x' y) = M u (rd f x') (rd f y)) ?_ ?_ 0 (by omega) (by omega) (fun x a b => by omega)
    · intro x x0 x1 hx
      have rx := hv.row x x0 x1
      have fx := hin x x0 (by omega)
      have rf := hw.row _ fx.1 fx.2
      have inner : ∀ {Q : Bool → AH → Prop}, (∀ y : Int, 0 ≤ y → y < (t.length : Int) → rd f (M t x y) ≠ M u (rd f x) (rd f y) → Q false H) → ((∀ y : Int, 0 ≤ y → y < (t.length : Int) → rd f (M t x y) = M u (rd f x) (rd f y)) → Ev (fun ρ k κ => morph_isHom_2 k s w q (t.length : Int) (x + 1) lo H κ) Q) → Ev (fun ρ k κ => morph_isHom_2 k s w q (t.length : Int) x lo H κ) Q := by
        intro Q c1 c2
        refine ev_eq (fun _ k _ => morph_isHom_2_eq k) (ev_pos x1 ?_)
        rw [ht.len]
        refine ev_for0 (g := fun y ρ k κ => morph_isHom_3 k s w q x (t.length : Int) x (t.length : Int) y lo H κ) (t.length : Int) (fun y => ∀ y' : Int, 0 ≤ y' → y' < y → rd f (M t x y') = M u (rd f x) (rd f y')) ?_ ?_ 0 (by omega) (by omega) (fun y a b => by omega)
        · intro y y0 y1 hy
          have m0 := hv.lo x y x0 x1 y0 y1
          have m1 := hv.hi x y x0 x1 y0 y1
          have fy := hin y y0 (by omega)
          have st : ∀ {Q' : Bool → AH → Prop}, Ev (fun ρ k κ => bif !decide (rd f (M t x y) = M u (rd f x) (rd f y)) then κ false H else morph_isHom_3 k s w q x (t.length : Int) x (t.length : Int) (W (y + 1)) lo H κ) Q' → Ev (fun ρ k κ => morph_isHom_3 k s w q x (t.length : Int) x (t.length : Int) y lo H κ) Q' := fun h =>
            ev_eq (fun _ k _ => morph_isHom_3_eq k) (ev_pos y1 (ev_rdM ht x0 x1 y0 (by omega) (ev_rdI hf m0 (by omega) (ev_rdI hf x0 (by omega) (ev_rdS hu fx.1 fx.2 fun r hr => ev_rdI hf y0 (by omega) (ev_rdI hr fy.1 (by omega) h))))))
          by_cases he : rd f (M t x y) = M u (rd f x) (rd f y)
          · right
            refine ⟨fun y' a b => ?_, fun h' => st (ev_nneg he ?_)⟩
            · by_cases hyy : y' = y
              · rw [hyy]; exact he
              · exact hy y' a (by omega)
            · rw [W_add y0 y1 (by omega)]; exact h'
          · left
            exact st (ev_npos he (ev_ret (c1 y y0 y1 he)))
        · intro hy
          refine ev_eq (fun _ k _ => morph_isHom_3_eq k) (ev_neg (by omega) ?_)
          rw [W_add x0 x1 (by omega)]
          exact c2 hy
      by_cases hall : ∀ y : Int, 0 ≤ y → y < (t.length : Int) → rd f (M t x y) = M u (rd f x) (rd f y)
      · right
        refine ⟨fun x' a b => ?_, fun h' => inner (fun y a b e => absurd (hall y a b) e) fun _ => h'⟩
        by_cases hxx : x' = x
        · rw [hxx]; exact hall
        · exact hx x' a (by omega)
      · left
        exact inner (fun y a b e => ⟨bad x0 x1 a b e, rfl⟩) fun h => absurd h hall
    · intro hx
      refine ev_eq (fun _ k _ => morph_isHom_2_eq k) (ev_neg (by omega) (ev_ret ⟨?_, rfl⟩))
      rw [decide_eq_true]
      exact ⟨by omega, fun x a b => hin x a (by omega), fun x y a b c d => hx x a b y c d⟩
open Classical in
theorem morph_IsHom_ev {s w q : Sl} {t u : List (List Int)} {f : List Int} {H : AH} {lo : Nat} (h1 : In2 t) (h2 : In2 u) (ht : Tab H s t) (hu : Tab H w u) (hf : Row H q f) : Ev (fun ρ k κ => morph_IsHom k s w q lo H κ) (Is (decide ((val t = 0 ∧ val u = 0) ∧ Hm t u f)) H) := by
  refine ev_eq (fun _ k _ => morph_IsHom_eq k) (ev_is (mult_Validate_ev h1 ht) (ev_andP (c := val u = 0) (fun _ => ev_is (mult_Validate_ev h2 hu) (ev_ret ⟨rfl, rfl⟩)) (ev_andP (c := Hm t u f) (fun h => ev_is (morph_isHom_ev ht hu hf (val_va.1 h.1).toSq (val_va.1 h.2).toSq) (ev_ret ⟨rfl, rfl⟩)) (ev_ret ⟨rfl, rfl⟩))))
open Classical in
theorem morph_Image_ev {s w q : Sl} {t u : List (List Int)} {f : List Int} {H : AH} {lo : Nat} (hlo : lo ≤ H.length) (h1 : In2 t) (h2 : In2 u) (ht : Tab H s t) (hu : Tab H w u) (hf : Row H q f) : Ev (fun ρ k κ => morph_Image k s w q lo H κ) (fun v H' => Sep H H' [own reI v (if (val t = 0 ∧ val u = 0) ∧ Hm t u f then imgL u.length f else [])]) := by
  refine ev_eq (fun _ k _ => morph_Image_eq k) (ev_is (morph_IsHom_ev h1 h2 ht hu hf) (ev_nif (fun h => ev_ret ?_) (fun h => ?_)))
  · rw [if_neg h]; exact (Sep.nil H).nilS _
  rw [if_pos h]
  obtain ⟨⟨ha, hb⟩, hH⟩ := h
  have hn := (val_va.1 ha).le
  have hm := (val_va.1 hb).le
  have hl := hH.len
  rw [hu.len]
  refine sp_mks (x := false) (Sep.nil H) reB (fun _ => ⟨rfl, rfl⟩) (by omega) (by omega) fun n H4 hS => ?_
  rw [hf.len]
  refine ev_loop (α := AH) (g := fun i H ρ k κ => morph_Image_1 k n q (f.length : Int) i lo H κ) (f.length : Int) (fun i H' => ∃ b : List Bool, Sep H H' [own reB n b] ∧ b.length = u.length ∧ ∀ v : Int, 0 ≤ v → v < (u.length : Int) → (rdOf false b v = true ↔ ∃ i' : Int, 0 ≤ i' ∧ i' < i ∧ rd f i' = v)) ?_ ?_ 0 H4 (by omega) (by omega) ⟨_, hS, by simp, fun v a c => ?_⟩
  · rintro i H1 i0 i1 ⟨b, hS, hbl, hx⟩ hk
    have fi := hH.into i i0 (by omega)
    refine ev_eq (fun _ k _ => morph_Image_1_eq k) (ev_pos i1 (ev_rdI (hf.le hS.le) i0 i1 (sp_put (x := true) hS hlo (fun _ => ⟨rfl, rfl⟩) fi.1 (by omega) fun H3 hS => ?_)))
    rw [W_add i0 i1 (by omega)]
    refine hk H3 ⟨_, hS, by simpa using hbl, fun v v0 v1 => ?_⟩
    rw [rb_set fi.1 (by omega) v0]
    by_cases hvi : v = rd f i
    · rw [if_pos hvi]; exact ⟨fun _ => ⟨i, i0, by omega, hvi.symm⟩, fun _ => rfl⟩
    · rw [if_neg hvi, hx v v0 v1]
      refine ⟨fun ⟨i', p, q, r⟩ => ⟨i', p, by omega, r⟩, fun ⟨i', p, q, r⟩ => ⟨i', p, ?_, r⟩⟩
      by_cases hi : i' = i
      · rw [hi] at r; exact absurd r.symm hvi
      · omega
  · rintro H1 ⟨b, hS, hbl, hx⟩
    have hmem : ∀ v : Int, 0 ≤ v → v < (u.length : Int) → (rdOf false b v = true ↔ v ∈ f) := fun v v0 v1 => by
      rw [hx v v0 v1]
      exact ⟨fun ⟨i, a, c, d⟩ => d ▸ rd_mem a c, fun h => by obtain ⟨i, a, c, d⟩ := rd_of_mem h; exact ⟨i, a, c, d⟩⟩
    refine ev_eq (fun _ k _ => morph_Image_1_eq k) (ev_neg (by omega) ?_)
    rw [hS.len, hbl]
    refine ev_loop (α := Sl × AH) (g := fun v a ρ k κ => morph_Image_2 k a.1 n (u.length : Int) v lo a.2 κ) (u.length : Int) (fun v a => Sep H a.2 [own reI a.1 (sel (fun v => v ∈ f) 0 v.toNat), own reB n b]) ?_ ?_ 0 (⟨none, 0⟩, H1) (by omega) (by omega) (hS.nilS reI)
    · rintro v ⟨o, H2⟩ v0 v1 hS hk
      simp only at hS
      have hln := sel_len (P := fun v => v ∈ f) (i := 0) (m := v.toNat)
      refine ev_eq (fun _ k _ => morph_Image_2_eq k) (ev_pos v1 (ev_rdB (hS.pull 1).rowB v0 (by omega) (ev_b (fun hh => ?_) (fun hh => ?_))))
      · refine sp_app1 (x := v) hS hlo (fun _ => ⟨rfl, rfl⟩) (by omega) fun o' H3 hS => ev_eq (fun _ k _ => morph_Image_3_eq k) ?_
        rw [W_add v0 v1 (by omega)]
        exact hk (o', H3) (hS.eq (sel_snoc (P := fun v => v ∈ f) v0 ((hmem v v0 v1).1 hh)))
      · refine ev_eq (fun _ k _ => morph_Image_3_eq k) ?_
        rw [W_add v0 v1 (by omega)]
        exact hk (o, H2) (hS.eq (sel_skip (P := fun v => v ∈ f) v0 (fun h => by rw [(hmem v v0 v1).2 h] at hh; cases hh)))
    · rintro ⟨o, H2⟩ hS
      simp only [Int.toNat_natCast] at hS
      exact ev_eq (fun _ k _ => morph_Image_2_eq k) (ev_neg (by omega) (ev_ret (hS.take 1)))
  · rw [rb_rep a (by omega)]
    exact ⟨fun h => by (cases h), fun ⟨i', p, q, _⟩ => by omega⟩
theorem semigrouplaw20_small_ev {s : Sl} {t : List (List Int)} {H : AH} {lo : Nat} {n : Int} (ht : In2 t) (hs : Tab H s t) : Ev (fun ρ k κ => semigrouplaw20_small k s n lo H κ) (Is (decide ((t.length : Int) ≤ n ∧ val t = 0)) H) := by
  refine ev_eq (fun _ k _ => semigrouplaw20_small_eq k) ?_
  rw [hs.len]
  exact ev_andP (fun _ => ev_is (semigroupref14_Valid_ev ht hs) (ev_ret ⟨rfl, rfl⟩)) (ev_ret ⟨rfl, rfl⟩)

end Go.Ab

/- The search for homomorphisms. What it answers. No condition but that small tables come in. -/
set_option linter.unusedVariables false
set_option linter.unusedSimpArgs false
namespace Go.Ab
open Go
theorem sp_lastA {A : Type} {Q : A → AH → Prop} {H0 H : AH} {L : List Asr} {s : Sl} {wl : List (Int × Int)} {a b : Int} {n : Int} {K : (ρ : Type) → Nat → (A → AH → Option ρ) → Int → Int → Option ρ} (hS : Sep H0 H (ownP s (wl ++ [(a, b)]) :: L)) (hn : n = wl.length) (hK : Ev (fun ρ k κ => K ρ k κ a b) Q) : Ev (fun ρ k κ => idx s n 2 fun p => ldA_ii H p (K ρ k κ)) Q := sp_last hS hn hK
theorem morph_set_ev {p : Pt} {sT sU so fs : Sl} {once : Bool} {most : Int} {t u : List (List Int)} {f : List Int} {x y : Int} {H : AH} {lo : Nat} (hlo : lo ≤ H.length) (hv : Sq t) (hu : Sq u) (hn : (t.length : Int) ≤ 8) (hp : At1 H p [.sl sT, .sl sU, .bool once, .int .i64 most, .sl so]) (hT : Tab H sT t) (hU : Tab H sU u) (hf : Row H fs f) (pm : Pm t u once f) (hc : Clo t u f) (x0 : 0 ≤ x) (x1 : x < (t.length : Int)) (y0 : 0 ≤ y) (y1 : y < (u.length : Int)) : Ev (fun ρ k κ => semigroup_morph_search_set k (some p) fs x y lo H κ) (fun r H' => (r.2 = true ∧ ∃ g, Sep H H' [own reI r.1 g] ∧ Wd t u once f x y g) ∨ (r.2 = false ∧ Le H H' ∧ ∀ h, Hn once t u h → Ag t.length f h → rd h x = y → False)) := by
  have hfl := pm.len
  refine ev_eq (fun _ k _ => semigroup_morph_search_set_eq k) (sp_lit [] (Sep.nil H) reI (fun _ => .nil) fun s1 H2 hS => sp_appR hS hlo ((hf.le hS.le).imp fun v x e => ⟨e, rfl⟩) (by simp; omega) fun s3 H4 hS => sp_mk2 hS fun s5 H6 hS => ?_)
  rw [List.nil_append] at hS
  have all : ∀ (m : Nat), m ≤ 1000 → ∀ (H1 : AH) (g : List Int) (wl : List (Int × Int)) (s7 : Sl), wl.length + (t.length - nset t.length g) * 17 ≤ m → Sep H H1 [ownP s7 wl, own reI s3 g] → Ws t u once f x y g wl → Ev (fun ρ k κ => semigroup_morph_search_set_1 k (some p) s3 s7 lo H1 κ) (fun r H' => (r.2 = true ∧ ∃ g, Sep H H' [own reI r.1 g] ∧ Wd t u once f x y g) ∨ (r.2 = false ∧ Le H H' ∧ ∀ h, Hn once t u h → Ag t.length f h → rd h x = y → False)) := by
    intro m
    induction m with
    | zero =>
      intro _ H1 g wl s7 hm hS ws
      have : wl = [] := List.eq_nil_of_length_eq_zero (by omega)
      subst this
      refine ev_eq (fun _ k _ => semigroup_morph_search_set_1_eq k) ?_
      rw [hS.plen]
      exact ev_neg (by simp) (ev_ret (.inl ⟨rfl, g, (hS.pull 1).take 1, ws.done x1⟩))
    | succ m ih =>
      intro hm1 H1 g wl s7 hm hS ws
      refine ev_eq (fun _ k _ => semigroup_morph_search_set_1_eq k) ?_
      rw [hS.plen]
      rcases List.eq_nil_or_concat wl with rfl | ⟨wl', ⟨a, b⟩, he⟩
      · exact ev_neg (by simp) (ev_ret (.inl ⟨rfl, g, (hS.pull 1).take 1, ws.done x1⟩))
      rw [List.concat_eq_append] at he
      subst he
      rw [List.length_append] at hm
      simp only [List.length_cons, List.length_nil] at hm
      have e : W (((wl' ++ [(a, b)]).length : Int) - 1) = (wl'.length : Int) := by
        rw [W_in (by simp <;> omega) (by simp <;> omega)]; simp
      rw [e]
      have i := ws.into (a, b) (by simp)
      simp only at i
      obtain ⟨⟨a0, a1⟩, b0, b1⟩ := i
      have hgl := ws.pm.len
      have ra := hv.row a a0 a1
      have rb := hu.row b b0 b1
      refine ev_pos (by simp <;> omega) (sp_lastA hS rfl (sp_alc hS fun p4 H5 hS => sp_stnC hS hlo rfl fun H6 hS => sp_cutP (hS.pull 1) rfl fun s8 hS => ev_fldI (hS.pull 1).at1 rfl (ev_rdI (hS.pull 2).row a0 (by omega) (ev_if (fun h => ?_) (fun h => ?_)))))
      · refine ev_fldI (hS.pull 1).at1 rfl (ev_rdI (hS.pull 2).row a0 (by omega) (ev_fldI (hS.pull 1).at1 rfl (ev_nif (fun ne => ev_ret (.inr ⟨rfl, hS.le, ws.bad h ne⟩)) (fun e => ih (by omega) H6 g wl' s8 (by omega) (hS.ord [0, 1]) (ws.skip e)))))
      · rw [(hS.pull 2).len]
        have ha : rd g a < 0 := by omega
        refine ev_for0 (g := fun z ρ k κ => semigroup_morph_search_set_2 k (some p) s3 s8 (some p4) s3 (g.length : Int) z lo H6 κ) (g.length : Int) (fun z => once = true → ∀ z' : Int, 0 ≤ z' → z' < z → rd g z' ≠ b) ?_ ?_ 0 (by omega) (by omega) (fun _ z a b => by omega)
        · intro z z0 z1 hz
          have st : ∀ {Q' : (Sl × Bool) → AH → Prop}, (once = true → rd g z = b → Q' (⟨none, 0⟩, false) H6) → (¬ (once = true ∧ rd g z = b) → Ev (fun ρ k κ => semigroup_morph_search_set_2 k (some p) s3 s8 (some p4) s3 (g.length : Int) (z + 1) lo H6 κ) Q') → Ev (fun ρ k κ => semigroup_morph_search_set_2 k (some p) s3 s8 (some p4) s3 (g.length : Int) z lo H6 κ) Q' := fun h1 h2 => by
            refine ev_eq (fun _ k _ => semigroup_morph_search_set_2_eq k) (ev_pos z1 (ev_rdI (hS.pull 2).row z0 z1 (ev_asP (ev_fldB (hp.le hS.le) rfl (ev_andV (c := decide (rd g z = b)) (fun _ => ev_asP (ev_fldI (hS.pull 1).at1 rfl (ev_ret ⟨rfl, rfl⟩))) (ev_b (fun hh => ev_ret ?_) (fun hh => ?_)))))))
            · simp only [Bool.and_eq_true, decide_eq_true_iff] at hh
              exact h1 hh.1 hh.2
            · rw [W_add z0 z1 (by omega)]
              exact h2 fun e => by simp [e.1, e.2] at hh
          by_cases he : once = true ∧ rd g z = b
          · left
            exact st (fun h1 h2 => .inr ⟨rfl, hS.le, ws.dup h1 z0 (by omega) h2 ha⟩) fun h => absurd he h
          · right
            refine ⟨fun ho z' p q => ?_, fun h' => st (fun h1 h2 => absurd ⟨h1, h2⟩ he) fun _ => h'⟩
            by_cases hzz : z' = z
            · rw [hzz]; exact fun e => he ⟨ho, e⟩
            · exact hz ho z' p (by omega)
        · intro hz
          have ws' := ws.set hv hu ha fun ho z z0 z1 => hz ho z z0 (by omega)
          have hns := nset_lt (n := t.length) (f := g) (g := g.set a.toNat b) a0 a1 (fun z z0 z1 h => by
            rw [rd_set a0 (by omega) z0]; split
            · exact b0
            · exact h) ha (by rw [rd_set a0 (by omega) a0, if_pos rfl]; exact b0)
          have hnl := nset_le t.length (g.set a.toNat b)
          have gl' : (g.set a.toNat b).length = t.length := by simpa using hgl
          refine ev_eq (fun _ k _ => semigroup_morph_search_set_2_eq k) (ev_neg (by omega) (ev_asP (ev_fldI (hS.pull 1).at1 rfl (ev_asP (ev_fldI (hS.pull 1).at1 rfl (sp_put (x := b) (hS.pull 2) hlo (fun _ => ⟨rfl, rfl⟩) a0 (by omega) fun H7 hS => ?_))))))
          rw [hS.len, gl']
          refine ev_loop (α := Sl × AH) (g := fun z c ρ k κ => semigroup_morph_search_set_3 k (some p) s3 c.1 (some p4) s3 (t.length : Int) z lo c.2 κ) (t.length : Int) (fun z c => Sep H c.2 [ownP c.1 (wl' ++ prd t u (g.set a.toNat b) a b z.toNat), own reI s3 (g.set a.toNat b), ownC p4 [.int .i64 a, .int .i64 b]]) ?_ ?_ 0 (s8, H7) (by omega) (by omega) (by rw [show ((0 : Int).toNat) = 0 from rfl, show prd t u (g.set a.toNat b) a b 0 = [] from rfl, List.append_nil]; exact hS.pull 1)
          · rintro z ⟨s9, H8⟩ z0 z1 hS hk
            simp only at hS
            have hpp := hp.le hS.le
            have rz := hv.row z z0 z1
            have pl := prd_len (t := t) (u := u) (g := g.set a.toNat b) (a := a) (b := b) (k := z.toNat)
            have ps := prd_succ (t := t) (u := u) (g := g.set a.toNat b) (a := a) (b := b) z0
            refine ev_eq (fun _ k _ => semigroup_morph_search_set_3_eq k) (ev_pos z1 (ev_rdI (hS.pull 1).row z0 (by omega) (ev_if (fun hg => ?_) (fun hg => ?_))))
            · have hg1 := ws'.pm.hi z z0 z1
              have rg := hu.row _ hg hg1
              have hT' := hT.le hS.le
              have hU' := hU.le hS.le
              have hC := (hS.pull 2).at1
              refine ev_asP (ev_fldS hpp rfl (ev_asP (ev_fldI hC rfl (ev_rdM hT' a0 a1 z0 (by omega) (ev_asP (ev_fldS hpp rfl (ev_asP (ev_fldI hC rfl (ev_rdM hU' b0 b1 hg (by omega) (ev_asP (ev_fldS hpp rfl (ev_rdS hT' z0 z1 fun w1 hw1 => ev_asP (ev_fldI hC rfl (ev_rdI hw1 a0 (by omega) (ev_asP (ev_fldS hpp rfl (ev_rdS hU' hg hg1 fun w2 hw2 => ev_asP (ev_fldI hC rfl (ev_rdI hw2 b0 (by omega) (sp_app2 hS hlo (by simp; omega) fun s10 H9 hS => ev_eq (fun _ k _ => semigroup_morph_search_set_4_eq k) ?_))))))))))))))))))))
              rw [W_add z0 z1 (by omega)]
              refine hk (s10, H9) ?_
              simp only
              rw [ps, if_pos hg, ← List.append_assoc]
              exact hS
            · refine ev_eq (fun _ k _ => semigroup_morph_search_set_4_eq k) ?_
              rw [W_add z0 z1 (by omega)]
              refine hk (s9, H8) ?_
              simp only
              rw [ps, if_neg hg, List.append_nil]
              exact hS
          · rintro ⟨s9, H8⟩ hS
            simp only [Int.toNat_natCast] at hS
            have pl := prd_len (t := t) (u := u) (g := g.set a.toNat b) (a := a) (b := b) (k := t.length)
            exact ev_eq (fun _ k _ => semigroup_morph_search_set_3_eq k) (ev_neg (by omega) (ih (by omega) H8 _ _ s9 (by rw [List.length_append]; omega) (hS.take 2) ws'))
  exact all 137 (by omega) H6 f [(x, y)] s5 (by simp; omega) hS (Ws.zero pm hc x0 x1 y0 y1)

end Go.Ab

/- All homomorphisms in order. What the search answers. No condition but that small tables come in. -/
set_option linter.unusedVariables false
set_option linter.unusedSimpArgs false
namespace Go.Ab
open Go
theorem morph_extend_ev {p : Pt} {sT sU : Sl} {once : Bool} {most : Int} {K : Nat} {t u full : List (List Int)} {H0 : AH} {lo : Nat} (hlo : lo ≤ H0.length) (hv : Sq t) (hu : Sq u) (hn : (t.length : Int) ≤ 8) (hT : Tab H0 sT t) (hU : Tab H0 sU u) (hF : Full (Hn once t u) full) (hK : most = (K : Int) - 1) (hK1 : K ≤ 2001) : ∀ (m : Nat) (f : List Int) (fs so : Sl) (o : List (List Int)) (H : AH) (Fr : List Asr), t.length - nset t.length f ≤ m → Sep H0 H (ownC p [.sl sT, .sl sU, .bool once, .int .i64 most, .sl so] :: own (reL reI) so o :: own reI fs f :: Fr) → Pm t u once f → Clo t u f → o.length < K → Ev (fun ρ k κ => semigroup_morph_search_extend k (some p) fs lo H κ) (fun _ H' => ∃ so', Sep H0 H' (ownC p [.sl sT, .sl sU, .bool once, .int .i64 most, .sl so'] :: own (reL reI) so' (lst K o full (Ag t.length f)) :: Fr)) := by
  have fnd : full.Nodup := lex_nodup hF.lex
  have leaf : ∀ (f : List Int) (fs so : Sl) (o : List (List Int)) (H : AH) (Fr : List Asr), Sep H0 H (ownC p [.sl sT, .sl sU, .bool once, .int .i64 most, .sl so] :: own (reL reI) so o :: own reI fs f :: Fr) → Pm t u once f → Clo t u f → o.length < K → (∀ z : Int, 0 ≤ z → z < (t.length : Int) → 0 ≤ rd f z) → Ev (fun ρ k κ => semigroup_morph_search_extend_1 k (some p) fs (t.length : Int) lo H κ) (fun _ H' => ∃ so', Sep H0 H' (ownC p [.sl sT, .sl sU, .bool once, .int .i64 most, .sl so'] :: own (reL reI) so' (lst K o full (Ag t.length f)) :: Fr)) := by
    intro f fs so o H Fr hS pm hc ho hw
    have hfl := pm.len
    obtain ⟨hh, hone⟩ := Clo.whole hv pm hc hw
    refine ev_eq (fun _ k _ => semigroup_morph_search_extend_1_eq k) ?_
    rw [(hS.pull 2).len, hfl]
    refine ev_andV (c := false) (fun h => absurd (of_decide_eq_true h) (by omega)) (ev_f (by simp) (ev_pos rfl (ev_asP (ev_fldS (j := 4) hS.at1 rfl (sp_appL (hS.push 2) hlo (by omega) fun so' H' hS => ev_asP (sp_stcC (j := 4) hS.swap hlo (by simp) fun H2 hS => ev_ret ⟨so', ?_⟩))))))
    rw [lst_one ho fnd ((hF.mem f).2 hh) fun b hb => hone b ((hF.mem b).1 hb)]
    exact hS
  have neg : ∀ h ∈ full, ∀ x : Int, 0 ≤ x → x < (t.length : Int) → 0 ≤ rd h x ∧ rd h x < (u.length : Int) := fun h hh x x0 x1 => ((hF.mem h).1 hh).1.into x x0 x1
  -- the search at a point whose value is not known
  have branch : ∀ (m : Nat), (∀ (f : List Int) (fs so : Sl) (o : List (List Int)) (H : AH) (Fr : List Asr), t.length - nset t.length f < m → Sep H0 H (ownC p [.sl sT, .sl sU, .bool once, .int .i64 most, .sl so] :: own (reL reI) so o :: own reI fs f :: Fr) → Pm t u once f → Clo t u f → o.length < K → Ev (fun ρ k κ => semigroup_morph_search_extend k (some p) fs lo H κ) (fun _ H' => ∃ so', Sep H0 H' (ownC p [.sl sT, .sl sU, .bool once, .int .i64 most, .sl so'] :: own (reL reI) so' (lst K o full (Ag t.length f)) :: Fr))) → ∀ (f : List Int) (fs so : Sl) (o : List (List Int)) (H : AH) (Fr : List Asr) (x : Int), t.length - nset t.length f ≤ m → Sep H0 H (ownC p [.sl sT, .sl sU, .bool once, .int .i64 most, .sl so] :: own (reL reI) so o :: own reI fs f :: Fr) → Pm t u once f → Clo t u f → o.length < K → 0 ≤ x → x < (t.length : Int) → rd f x < 0 → (∀ z : Int, 0 ≤ z → z < x → 0 ≤ rd f z) → Ev (fun ρ k κ => semigroup_morph_search_extend_1 k (some p) fs x lo H κ) (fun _ H' => ∃ so', Sep H0 H' (ownC p [.sl sT, .sl sU, .bool once, .int .i64 most, .sl so'] :: own (reL reI) so' (lst K o full (Ag t.length f)) :: Fr)) := by
    intro m ih f fs so o H Fr x hm hS pm hc ho x0 x1 hx hpre
    have hfl := pm.len
    have hum := hu.le
    have agree : ∀ a b, Ag t.length f a → Ag t.length f b → ∀ j : Int, 0 ≤ j → j < x → rd a j = rd b j := fun a b ha hb j j0 j1 => by
      rw [ha j j0 (by omega) (hpre j j0 j1), hb j j0 (by omega) (hpre j j0 j1)]
    refine ev_eq (fun _ k _ => semigroup_morph_search_extend_1_eq k) ?_
    rw [(hS.pull 2).len, hfl]
    refine ev_andV (c := false) (fun h => ev_rdI (hS.pull 2).row x0 (by omega) (ev_ret ⟨by rw [decide_eq_false]; omega, rfl⟩)) (ev_f (by simp) (ev_neg (by omega) (ev_asP (ev_fldS (j := 1) hS.at1 rfl ?_))))
    rw [hU.len]
    refine ev_loop (α := AH) (g := fun y H ρ k κ => semigroup_morph_search_extend_2 k (some p) fs x (u.length : Int) y lo H κ) (u.length : Int) (fun y H' => ∃ so', Sep H0 H' (ownC p [.sl sT, .sl sU, .bool once, .int .i64 most, .sl so'] :: own (reL reI) so' (lst K o full fun h => Ag t.length f h ∧ rd h x < y) :: own reI fs f :: Fr)) ?_ ?_ 0 H (by omega) (by omega) ⟨so, ?_⟩
    · rintro y H1 y0 y1 ⟨so, hS⟩ hk
      have hl := lst_len (K := K) (o := o) (full := full) (D := fun h => Ag t.length f h ∧ rd h x < y)
      have next : ∀ (so2 : Sl) (H2 : AH) (o2 : List (List Int)), Sep H0 H2 (ownC p [.sl sT, .sl sU, .bool once, .int .i64 most, .sl so2] :: own (reL reI) so2 o2 :: own reI fs f :: Fr) → o2 = lst K o full (fun h => Ag t.length f h ∧ rd h x < y + 1) → Ev (fun ρ k κ => semigroup_morph_search_extend_3 k (some p) fs x (u.length : Int) y lo H2 κ) (fun _ H' => ∃ so', Sep H0 H' (ownC p [.sl sT, .sl sU, .bool once, .int .i64 most, .sl so'] :: own (reL reI) so' (lst K o full (Ag t.length f)) :: Fr)) := fun so2 H2 o2 h e => by
        subst e
        refine ev_eq (fun _ k _ => semigroup_morph_search_extend_3_eq k) ?_
        rw [W_add y0 y1 (by omega)]
        exact hk H2 ⟨so2, h⟩
      refine ev_eq (fun _ k _ => semigroup_morph_search_extend_2_eq k) (ev_pos y1 (ev_asP (ev_fldS (j := 4) hS.at1 rfl (ev_asP (ev_fldI (j := 3) hS.at1 rfl ?_)))))
      rw [(hS.pull 1).len]
      refine ev_if (fun h => ev_ret ⟨so, ?_⟩) (fun h => ?_)
      · rw [lst_full hF x0 agree (by omega)] at hS
        exact (hS.pull 2).drop
      · refine ev_call (morph_set_ev (H := H1) (by have := hS.le.len; omega) hv hu hn hS.at1 (hT.le hS.le) (hU.le hS.le) (hS.pull 2).row pm hc x0 x1 y0 y1) fun r H8 hr => ?_
        rcases hr with ⟨e, g, hg, wd⟩ | ⟨e, l8, hno⟩
        · have hS8 := (hS.call hg).push 2
          have hlt := nset_lt (n := t.length) (f := f) (g := g) x0 x1 (fun z a b h => by rw [wd.ext z a b h]; exact h) hx (by rw [wd.value]; exact y0)
          have nl := nset_le t.length g
          refine ev_t e (ev_call (ih g r.1 so _ H8 (own reI fs f :: Fr) (by omega) hS8 wd.pm wd.clo (by omega)) fun _ H10 ⟨so2, hS2⟩ => next so2 H10 _ hS2 ?_)
          rw [lst_next hF x0 agree (by omega)]
          exact lst_congr fun h hh => wd.iff h ((hF.mem h).1 hh)
        · refine ev_f e (next so H8 _ (hS.on l8) ?_)
          rw [lst_next hF x0 agree (by omega)]
          exact (lst_none (by omega) fun a ha h => hno a ((hF.mem a).1 ha) h.1 h.2).symm
    · rintro H1 ⟨so, hS⟩
      refine ev_eq (fun _ k _ => semigroup_morph_search_extend_2_eq k) (ev_neg (by omega) (ev_ret ⟨so, ?_⟩))
      have e := lst_congr (K := K) (o := o) (full := full) (D := fun h => Ag t.length f h ∧ rd h x < (u.length : Int)) (E := Ag t.length f) fun a ha => ⟨fun h => h.1, fun h => ⟨h, (neg a ha x x0 x1).2⟩⟩
      rw [e] at hS
      exact (hS.pull 2).drop
    · rw [lst_none (by omega) fun a ha h => by have := (neg a ha x x0 x1).1; omega]
      exact hS
  have all : ∀ (m : Nat) (f : List Int) (fs so : Sl) (o : List (List Int)) (H : AH) (Fr : List Asr), t.length - nset t.length f ≤ m → Sep H0 H (ownC p [.sl sT, .sl sU, .bool once, .int .i64 most, .sl so] :: own (reL reI) so o :: own reI fs f :: Fr) → Pm t u once f → Clo t u f → o.length < K → (∀ (f : List Int) (fs so : Sl) (o : List (List Int)) (H : AH) (Fr : List Asr), t.length - nset t.length f < m → Sep H0 H (ownC p [.sl sT, .sl sU, .bool once, .int .i64 most, .sl so] :: own (reL reI) so o :: own reI fs f :: Fr) → Pm t u once f → Clo t u f → o.length < K → Ev (fun ρ k κ => semigroup_morph_search_extend k (some p) fs lo H κ) (fun _ H' => ∃ so', Sep H0 H' (ownC p [.sl sT, .sl sU, .bool once, .int .i64 most, .sl so'] :: own (reL reI) so' (lst K o full (Ag t.length f)) :: Fr))) → Ev (fun ρ k κ => semigroup_morph_search_extend k (some p) fs lo H κ) (fun _ H' => ∃ so', Sep H0 H' (ownC p [.sl sT, .sl sU, .bool once, .int .i64 most, .sl so'] :: own (reL reI) so' (lst K o full (Ag t.length f)) :: Fr)) := by
    intro m f fs so o H Fr hm hS pm hc ho ih
    have hfl := pm.len
    refine ev_eq (fun _ k _ => semigroup_morph_search_extend_eq k) ?_
    refine ev_for0 (g := fun x ρ k κ => semigroup_morph_search_extend_1 k (some p) fs x lo H κ) (t.length : Int) (fun x => ∀ z : Int, 0 ≤ z → z < x → 0 ≤ rd f z) ?_ ?_ 0 (by omega) (by omega) (fun z a b => by omega)
    · intro x x0 x1 hx
      by_cases h : 0 ≤ rd f x
      · right
        refine ⟨fun z a b => ?_, fun h' => ?_⟩
        · by_cases hz : z = x
          · rw [hz]; exact h
          · exact hx z a (by omega)
        · refine ev_eq (fun _ k _ => semigroup_morph_search_extend_1_eq k) ?_
          rw [(hS.pull 2).len, hfl]
          refine ev_andV (c := true) (fun _ => ev_rdI (hS.pull 2).row x0 (by omega) (ev_ret ⟨by rw [decide_eq_true h], rfl⟩)) (ev_t (by simpa using x1) ?_)
          rw [W_add x0 x1 (by omega)]
          exact h'
      · left
        exact branch m ih f fs so o H Fr x hm hS pm hc ho x0 x1 (by omega) hx
    · intro hx
      exact leaf f fs so o H Fr hS pm hc ho hx
  intro m
  induction m with
  | zero => exact fun f fs so o H Fr hm hS pm hc ho => all 0 f fs so o H Fr hm hS pm hc ho fun f fs so o H Fr h => absurd h (by omega)
  | succ m ih => exact fun f fs so o H Fr hm hS pm hc ho => all (m + 1) f fs so o H Fr hm hS pm hc ho fun f fs so o H Fr h => ih f fs so o H Fr (by omega)
theorem morph_find_ev {sT sU : Sl} {once : Bool} {most : Int} {K : Nat} {t u full : List (List Int)} {H : AH} {lo : Nat} (hlo : lo ≤ H.length) (hv : Sq t) (hu : Sq u) (hn : (t.length : Int) ≤ 8) (hT : Tab H sT t) (hU : Tab H sU u) (hF : Full (Hn once t u) full) (hK : most = (K : Int) - 1) (hK0 : 0 < K) (hK1 : K ≤ 2001) : Ev (fun ρ k κ => morph_find k sT sU once most lo H κ) (fun v H' => Sep H H' [own (reL reI) v (full.take K)]) := by
  refine ev_eq (fun _ k _ => morph_find_eq k) (sp_alc (Sep.nil H) fun p H2 hS => ?_)
  rw [hT.len]
  refine sp_mks (x := (0 : Int)) hS reI (fun _ => ⟨rfl, rfl⟩) (by omega) (by omega) fun f0 H4 hS => ?_
  have hf0 : (f0.len : Int) = (t.length : Int) := by rw [hS.len]; simp
  rw [hf0]
  refine ev_loop (α := AH) (g := fun x H ρ k κ => morph_find_1 k (some p) f0 (t.length : Int) x lo H κ) (t.length : Int) (fun x H' => ∃ f, Sep H H' [own reI f0 f, ownC p [.sl sT, .sl sU, .bool once, .int .i64 most, .sl ⟨none, 0⟩]] ∧ f.length = t.length ∧ ∀ y : Int, 0 ≤ y → y < x → rd f y = -1) ?_ ?_ 0 H4 (by omega) (by omega) ⟨_, hS, by simp, fun y a b => by omega⟩
  · rintro x H1 x0 x1 ⟨f, hS, hfl, hx⟩ hk
    refine ev_eq (fun _ k _ => morph_find_1_eq k) (ev_pos x1 (sp_put (x := (-1 : Int)) hS hlo (fun _ => ⟨rfl, rfl⟩) x0 (by omega) fun H3 hS => ?_))
    rw [W_add x0 x1 (by omega)]
    refine hk H3 ⟨_, hS, by simpa using hfl, fun y y0 y1 => ?_⟩
    rw [rd_set x0 (by omega) y0]
    by_cases hy : y = x
    · rw [if_pos hy]
    · rw [if_neg hy]; exact hx y y0 (by omega)
  rintro H1 ⟨f, hS, hfl, hx⟩
  have pm : Pm t u once f := ⟨hfl, fun x x0 x1 => by rw [hx x x0 x1]; omega, fun _ x y x0 x1 y0 y1 h => by rw [hx x x0 x1] at h; omega⟩
  have hc : Clo t u f := fun a b a0 a1 b0 b1 h => by rw [hx a a0 a1] at h; omega
  refine ev_eq (fun _ k _ => morph_find_1_eq k) (ev_neg (by omega) (ev_call (morph_extend_ev hlo hv hu hn hT hU hF hK hK1 t.length f f0 ⟨none, 0⟩ [] H1 [] (by omega) ((hS.swap.nilS (reL reI)).swap) pm hc (by simpa using hK0)) fun _ H4 ⟨so, hS⟩ => ev_asP (ev_fldS (j := 4) hS.at1 rfl (ev_ret ?_))))
  refine (hS.drop).eq ?_
  unfold lst
  rw [List.nil_append, flt_all fun a ha x x0 x1 h => by rw [hx x x0 x1] at h; omega]
theorem morph_check_ev {s w : Sl} {t u : List (List Int)} {H : AH} {lo : Nat} (h1 : In2 t) (h2 : In2 u) (ht : Tab H s t) (hu : Tab H w u) : Ev (fun ρ k κ => morph_check k s w lo H κ) (Is (if val t ≠ 0 then val t else if val u ≠ 0 then val u else if (t.length : Int) > 8 ∨ (u.length : Int) > 8 then 3 else 0) H) := by
  refine ev_eq (fun _ k _ => morph_check_eq k) (ev_is (mult_Validate_ev h1 ht) (ev_nif (fun h => ev_ret ⟨by rw [if_pos h], rfl⟩) (fun h => ev_is (mult_Validate_ev h2 hu) (ev_nif (fun h' => ev_ret ⟨by rw [if_neg (by simpa using h), if_pos h'], rfl⟩) (fun h' => ?_)))))
  rw [ht.len, if_neg (by simpa using h), if_neg (by simpa using h')]
  exact ev_orP (c := (u.length : Int) > 8) (fun _ => ev_ret ⟨by rw [hu.len], rfl⟩) (ev_if (fun hh => ev_ret ⟨by rw [if_pos hh], rfl⟩) (fun hh => ev_ret ⟨by rw [if_neg hh], rfl⟩))
end Go.Ab

/- Homs, Isomorphism, Automorphisms. What they answer. No condition but that tables come in. -/
set_option linter.unusedVariables false
set_option linter.unusedSimpArgs false
namespace Go.Ab
open Go
theorem morph_Automorphisms_ev {s : Sl} {t : List (List Int)} {H : AH} {lo : Nat} (hlo : lo ≤ H.length) (h1 : In2 t) (ht : Tab H s t) : Ev (fun ρ k κ => morph_Automorphisms k s lo H κ) (fun r H' => r.2 = fErr true t t ∧ Sep H H' [own (reL reI) r.1 (if fErr true t t = 0 then hms true t t else [])]) := by
  refine ev_eq (fun _ k _ => morph_Automorphisms_eq k) (ev_is (show Ev _ (Is (sErr t t) H) from morph_check_ev h1 h1 ht ht) (ev_nif (fun h => ev_ret ⟨(fErr_bad h).symm, ?_⟩) (fun h => ?_)))
  · rw [fErr_bad h, if_neg h]; exact (Sep.nil H).nilS _
  obtain ⟨⟨ha, hb⟩, hn, hm⟩ := sErr_zero.1 h
  refine ev_call (morph_find_ev (K := 2001) (Nat.le_refl _) (val_va.1 ha).toSq (val_va.1 hb).toSq hn ht ht (hms_full true t t) (by omega) (by omega) (by omega)) fun v H4 hS => ?_
  rw [hS.len, List.length_take]
  refine ev_if (fun hh => ev_ret ⟨?_, ?_⟩) (fun hh => ev_ret ⟨?_, ?_⟩)
  · unfold fErr; rw [if_neg (by simpa using h), if_pos (by omega)]
  · rw [if_neg (by unfold fErr; rw [if_neg (by simpa using h), if_pos (by omega)]; decide)]; exact (Sep.of_le hS.le).nilS _
  · exact (fErr_ok h (by omega)).symm
  · rw [if_pos (fErr_ok h (by omega))]
    exact hS.eq (List.take_of_length_le (by omega))
theorem nil_row (H : AH) : Row H ⟨none, 0⟩ [] := ((Sep.nil H).nilS reI).row
theorem morph_Isomorphism_ev {s w : Sl} {t u : List (List Int)} {H : AH} {lo : Nat} (hlo : lo ≤ H.length) (h1 : In2 t) (h2 : In2 u) (ht : Tab H s t) (hu : Tab H w u) : Ev (fun ρ k κ => morph_Isomorphism k s w lo H κ) (fun r H' => r.2.2 = sErr t u ∧ r.2.1 = decide ((isoL t u).length = 1) ∧ Row H' r.1 (R (isoL t u) 0) ∧ Le H H') := by
  have no : isoL t u = [] → ∀ (e : Int) (H' : AH), e = sErr t u → Le H H' → (((⟨none, 0⟩, false, e) : Sl × Bool × Int)).2.2 = sErr t u ∧ (((⟨none, 0⟩, false, e) : Sl × Bool × Int)).2.1 = decide ((isoL t u).length = 1) ∧ Row H' (((⟨none, 0⟩, false, e) : Sl × Bool × Int)).1 (R (isoL t u) 0) ∧ Le H H' := fun h e H' he hl => by
    rw [h]; exact ⟨he, rfl, nil_row H', hl⟩
  refine ev_eq (fun _ k _ => morph_Isomorphism_eq k) (ev_is (show Ev _ (Is (sErr t u) H) from morph_check_ev h1 h2 ht hu) (ev_nif (fun h => ev_ret (no (by unfold isoL; rw [if_neg (fun hh => h hh.1)]) _ _ rfl (Le.refl _))) (fun h => ?_)))
  rw [ht.len, hu.len]
  refine ev_nif (fun hl => ev_ret (no (by unfold isoL; rw [if_neg (fun hh => hl (by omega))]) _ _ h.symm (Le.refl _))) (fun hl => ?_)
  obtain ⟨⟨ha, hb⟩, hn, hm⟩ := sErr_zero.1 h
  have e : isoL t u = (hms true t u).take 1 := by unfold isoL; rw [if_pos ⟨h, by omega⟩]
  refine ev_call (morph_find_ev (K := 1) (Nat.le_refl _) (val_va.1 ha).toSq (val_va.1 hb).toSq hn ht hu (hms_full true t u) (by omega) (by omega) (by omega)) fun v H4 hS => ?_
  rw [← e] at hS
  rw [hS.len]
  have l1 := isoL_len t u
  refine ev_if (fun hh => ev_ret (no (List.eq_nil_of_length_eq_zero (by omega)) _ _ h.symm hS.le)) (fun hh => ev_rdS hS.tab (by omega) (by omega) fun r hr => ev_ret ⟨h.symm, by rw [decide_eq_true]; omega, hr, hS.le⟩)

end Go.Ab

/- A table copied; points in their order. What they answer. No condition but that a table comes in. -/
set_option linter.unusedVariables false
set_option linter.unusedSimpArgs false
namespace Go.Ab
open Go
theorem semigroupref03_Discrete_ev {n : Nat} {H : AH} {lo : Nat} (hlo : lo ≤ H.length) (hn : (n : Int) ≤ 4096) : Ev (fun ρ k κ => semigroupref03_Discrete k (n : Int) lo H κ) (fun v H' => Sep H H' [own reI v (idL n)]) := by
  refine ev_eq (fun _ k _ => semigroupref03_Discrete_eq k) (sp_mks (x := (0 : Int)) (Sep.nil H) reI (fun _ => ⟨rfl, rfl⟩) (by omega) (by omega) fun f0 H4 hS => ?_)
  have hf0 : (f0.len : Int) = (n : Int) := by rw [hS.len]; simp
  rw [hf0]
  refine ev_loop (α := AH) (g := fun x H ρ k κ => semigroupref03_Discrete_1 k f0 (n : Int) x lo H κ) (n : Int) (fun x H' => ∃ f, Sep H H' [own reI f0 f] ∧ f.length = n ∧ ∀ y : Int, 0 ≤ y → y < x → rd f y = y) ?_ ?_ 0 H4 (by omega) (by omega) ⟨_, hS, by simp, fun y a b => by omega⟩
  · rintro x H1 x0 x1 ⟨f, hS, hfl, hx⟩ hk
    refine ev_eq (fun _ k _ => semigroupref03_Discrete_1_eq k) (ev_pos x1 (sp_put (x := x) hS hlo (fun _ => ⟨rfl, rfl⟩) x0 (by omega) fun H3 hS => ?_))
    rw [W_add x0 x1 (by omega)]
    refine hk H3 ⟨_, hS, by simpa using hfl, fun y y0 y1 => ?_⟩
    rw [rd_set x0 (by omega) y0]
    by_cases hy : y = x
    · rw [if_pos hy, hy]
    · rw [if_neg hy]; exact hx y y0 (by omega)
  · rintro H1 ⟨f, hS, hfl, hx⟩
    refine ev_eq (fun _ k _ => semigroupref03_Discrete_1_eq k) (ev_neg (by omega) (ev_ret (hS.eq (rd_ext (by simp [idL, hfl]) fun j j0 j1 => ?_))))
    rw [hx j j0 (by omega), idL_at j0 (by omega)]
theorem semigroupref03_Copy_ev {s : Sl} {T : List (List Int)} {H : AH} {lo : Nat} (hlo : lo ≤ H.length) (hs : Tab H s T) (hl : T.length ≤ 4096) (hr : ∀ x : Int, 0 ≤ x → x < (T.length : Int) → (R T x).length ≤ 4096) : Ev (fun ρ k κ => semigroupref03_Copy k s lo H κ) (fun v H' => Sep H H' [own (reL reI) v T]) := by
  refine ev_eq (fun _ k _ => semigroupref03_Copy_eq k) ?_
  rw [hs.len]
  refine ev_loop (α := Sl × AH) (g := fun x a ρ k κ => semigroupref03_Copy_1 k a.1 s (T.length : Int) x lo a.2 κ) (T.length : Int) (fun x a => Sep H a.2 [own (reL reI) a.1 (T.take x.toNat)]) ?_ ?_ 0 (⟨none, 0⟩, H) (by omega) (by omega) (by simpa using (Sep.nil H).nilS (reL reI))
  · rintro x ⟨o, H1⟩ x0 x1 hS hk
    simp only at hS
    have hrx := hr x x0 x1
    refine ev_eq (fun _ k _ => semigroupref03_Copy_1_eq k) (ev_pos x1 (sp_rdS hs hS.le x0 x1 fun r hr' => sp_lit [] hS reI (fun _ => .nil) fun s2 H3 hS => sp_appR hS hlo ((hr'.le hS.le).imp fun v x e => ⟨e, rfl⟩) (by simp; omega) fun s4 H5 hS => sp_appL hS.swap hlo (by rw [List.length_take]; omega) fun s8 H9 hS => ?_))
    rw [W_add x0 x1 (by omega)]
    refine hk (s8, H9) (hS.eq ?_)
    rw [List.nil_append, show (x + 1).toNat = x.toNat + 1 by omega, List.take_add_one]
    congr 1
    unfold R
    rw [List.getD_eq_getElem?_getD, List.getElem?_eq_getElem (by omega)]; rfl
  · rintro ⟨o, H1⟩ hS
    simp only [Int.toNat_natCast, List.take_length] at hS
    exact ev_eq (fun _ k _ => semigroupref03_Copy_1_eq k) (ev_neg (by omega) (ev_ret hS))

end Go.Ab
