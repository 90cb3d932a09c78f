/- What functions answer. No condition but what each theorem says. -/
import Derived.Test.YtnoickhdbinciaaRReesFactorsEq
import Derived.Test.YtnoickhdbinciaaAbA2
import Derived.Test.YtnoickhdbinciaaAbA3
import Derived.Test.YtnoickhdbinciaaRReesFactorsM1
/- Layer 14: shape, failing, Validate, Associative and the like. What they answer. No condition but that a table comes in. -/
set_option linter.unusedVariables false
set_option linter.unusedSimpArgs false
namespace Go.Ab
open Go
theorem mult_shape_l2 {A : AH} {s r : Sl} {t : List (List Int)} {H : AH} {Q : Int → AH → Prop} {lo : Nat} (ht : In2 t) (hs : Tab H s t) {x : Int} (h0 : 0 ≤ x) (h1 : x < (t.length : Int)) (hr : Row H r (R t x))
    (hb : (∃ y, 0 ≤ y ∧ y < ((R t x).length : Int) ∧ (M t x y < 0 ∨ (t.length : Int) ≤ M t x y)) → Q 4 H)
    (hend : (∀ y, 0 ≤ y → y < ((R t x).length : Int) → ¬ (M t x y < 0 ∨ (t.length : Int) ≤ M t x y)) → Ev (fun ρ k κ => mult_shape_1 k s s (t.length : Int) (x + 1) lo H κ) Q) :
    Ev (fun ρ k κ => mult_shape_2 k s s (t.length : Int) x r ((R t x).length : Int) 0 lo H κ) Q := by
  have hl := ht.row h0 h1
  have hsl := hs.len
  have hx : x + 1 ≤ 9223372036854775807 := by have := ht.1; omega
  refine ev_for0 (g := fun y ρ k κ => mult_shape_2 k s s (t.length : Int) x r ((R t x).length : Int) y lo H κ) ((R t x).length : Int) (fun i => ∀ y, 0 ≤ y → y < i → ¬ (M t x y < 0 ∨ (t.length : Int) ≤ M t x y)) ?_ ?_ 0 (by omega) (by omega) (fun y a b => by omega)
  · intro y hy0 hy1 hi
    by_cases hbad : M t x y < 0 ∨ (t.length : Int) ≤ M t x y
    · left
      refine ev_eq (fun _ k _ => mult_shape_2_eq k) (ev_pos hy1 (ev_rdI hr hy0 hy1 (ev_orP (fun _ => ev_ret ⟨rfl, rfl⟩) (ev_pos ?_ (ev_ret (hb ⟨y, hy0, hy1, hbad⟩))))))
      show M t x y < 0 ∨ M t x y ≥ (s.len : Int)
      omega
    · right
      refine ⟨fun z hz0 hz1 => ?_, fun H => ?_⟩
      · by_cases hzx : z < y
        · exact hi z hz0 hzx
        · have : z = y := by omega
          rw [this]; exact hbad
      refine ev_eq (fun _ k _ => mult_shape_2_eq k) (ev_pos hy1 (ev_rdI hr hy0 hy1 (ev_orP (fun _ => ev_ret ⟨rfl, rfl⟩) (ev_neg ?_ ?_))))
      · show ¬ (M t x y < 0 ∨ M t x y ≥ (s.len : Int))
        omega
      · rw [W_add hy0 hy1 (by omega)]; exact H
  · intro hi
    refine ev_eq (fun _ k _ => mult_shape_2_eq k) (ev_neg (by omega) ?_)
    rw [W_add h0 h1 (by omega)]
    exact hend hi
open Classical in
theorem mult_shape_ev {s : Sl} {t : List (List Int)} {H : AH} {lo : Nat} (ht : In2 t) (hs : Tab H s t) : Ev (fun ρ k κ => mult_shape k s lo H κ) (Is (shp t) H) := by
  unfold shp
  have hl := hs.len
  refine ev_eq (fun _ k _ => mult_shape_eq k) ?_
  rw [hl]
  refine ev_if (fun h => ?_) (fun h => ?_)
  · rw [if_pos h]; exact ev_ret ⟨rfl, rfl⟩
  rw [if_neg h]
  refine ev_if (fun h => ?_) (fun h2 => ?_)
  · rw [if_pos h]; exact ev_ret ⟨rfl, rfl⟩
  rw [if_neg h2]
  generalize hr : (if Bad t then (4 : Int) else 0) = r
  refine ev_for0 (g := fun x ρ k κ => mult_shape_1 k s s (t.length : Int) x lo H κ) (t.length : Int) (fun i => ∀ x, 0 ≤ x → x < i → ¬ (((R t x).length : Int) ≠ (t.length : Int) ∨ ∃ y, 0 ≤ y ∧ y < ((R t x).length : Int) ∧ (M t x y < 0 ∨ (t.length : Int) ≤ M t x y))) ?_ ?_ 0 (by omega) (by omega) (fun x a b => by omega)
  · intro x hx0 hx1 hi
    by_cases hbad : ((R t x).length : Int) ≠ (t.length : Int) ∨ ∃ y, 0 ≤ y ∧ y < ((R t x).length : Int) ∧ (M t x y < 0 ∨ (t.length : Int) ≤ M t x y)
    · left
      have hr4 : (4 : Int) = r := by rw [← hr, if_pos ⟨x, hx0, hx1, hbad⟩]
      refine ev_eq (fun _ k _ => mult_shape_1_eq k) (ev_pos hx1 (ev_rdS hs hx0 hx1 fun v hv => ?_))
      rw [hl, hv.len]
      refine ev_nif (fun _ => ev_ret ⟨hr4, rfl⟩) (fun he => ?_)
      rcases hbad with hbad | ⟨y, hy0, hy1, hbad⟩
      · exact absurd he hbad
      exact mult_shape_l2 (A := H) ht hs hx0 hx1 hv (fun _ => ⟨hr4, rfl⟩) (fun hn => absurd hbad (hn y hy0 hy1))
    · right
      refine ⟨fun z hz0 hz1 => ?_, fun H' => ?_⟩
      · by_cases hzx : z < x
        · exact hi z hz0 hzx
        · have : z = x := by omega
          rw [this]; exact hbad
      · have he : ((R t x).length : Int) = (t.length : Int) := Classical.byContradiction fun hn => hbad (.inl hn)
        refine ev_eq (fun _ k _ => mult_shape_1_eq k) (ev_pos hx1 (ev_rdS hs hx0 hx1 fun v hv => ?_))
        rw [hl, hv.len]
        exact ev_nneg he (mult_shape_l2 (A := H) ht hs hx0 hx1 hv (fun hy => absurd (.inr hy) hbad) (fun _ => H'))
  · intro hi
    refine ev_eq (fun _ k _ => mult_shape_1_eq k) (ev_neg (by omega) (ev_ret ⟨?_, rfl⟩))
    rw [← hr, if_neg]
    rintro ⟨x, a, b, c⟩
    exact hi x a b c
theorem semigroupref14_Shape_l2 {A : AH} {s r : Sl} {t : List (List Int)} {H : AH} {Q : Int → AH → Prop} {lo : Nat} (ht : In2 t) (hs : Tab H s t) {x : Int} (h0 : 0 ≤ x) (h1 : x < (t.length : Int)) (hr : Row H r (R t x))
    (hb : (∃ y, 0 ≤ y ∧ y < ((R t x).length : Int) ∧ (M t x y < 0 ∨ (t.length : Int) ≤ M t x y)) → Q 4 H)
    (hend : (∀ y, 0 ≤ y → y < ((R t x).length : Int) → ¬ (M t x y < 0 ∨ (t.length : Int) ≤ M t x y)) → Ev (fun ρ k κ => semigroupref14_Shape_1 k s s (t.length : Int) (x + 1) lo H κ) Q) :
    Ev (fun ρ k κ => semigroupref14_Shape_2 k s s (t.length : Int) x r ((R t x).length : Int) 0 lo H κ) Q := by
  have hl := ht.row h0 h1
  have hsl := hs.len
  have hx : x + 1 ≤ 9223372036854775807 := by have := ht.1; omega
  refine ev_for0 (g := fun y ρ k κ => semigroupref14_Shape_2 k s s (t.length : Int) x r ((R t x).length : Int) y lo H κ) ((R t x).length : Int) (fun i => ∀ y, 0 ≤ y → y < i → ¬ (M t x y < 0 ∨ (t.length : Int) ≤ M t x y)) ?_ ?_ 0 (by omega) (by omega) (fun y a b => by omega)
  · intro y hy0 hy1 hi
    by_cases hbad : M t x y < 0 ∨ (t.length : Int) ≤ M t x y
    · left
      refine ev_eq (fun _ k _ => semigroupref14_Shape_2_eq k) (ev_pos hy1 (ev_rdI hr hy0 hy1 (ev_orP (fun _ => ev_ret ⟨rfl, rfl⟩) (ev_pos ?_ (ev_ret (hb ⟨y, hy0, hy1, hbad⟩))))))
      show M t x y < 0 ∨ M t x y ≥ (s.len : Int)
      omega
    · right
      refine ⟨fun z hz0 hz1 => ?_, fun H => ?_⟩
      · by_cases hzx : z < y
        · exact hi z hz0 hzx
        · have : z = y := by omega
          rw [this]; exact hbad
      refine ev_eq (fun _ k _ => semigroupref14_Shape_2_eq k) (ev_pos hy1 (ev_rdI hr hy0 hy1 (ev_orP (fun _ => ev_ret ⟨rfl, rfl⟩) (ev_neg ?_ ?_))))
      · show ¬ (M t x y < 0 ∨ M t x y ≥ (s.len : Int))
        omega
      · rw [W_add hy0 hy1 (by omega)]; exact H
  · intro hi
    refine ev_eq (fun _ k _ => semigroupref14_Shape_2_eq k) (ev_neg (by omega) ?_)
    rw [W_add h0 h1 (by omega)]
    exact hend hi
open Classical in
theorem semigroupref14_Shape_ev {s : Sl} {t : List (List Int)} {H : AH} {lo : Nat} (ht : In2 t) (hs : Tab H s t) : Ev (fun ρ k κ => semigroupref14_Shape k s lo H κ) (Is (shp t) H) := by
  unfold shp
  have hl := hs.len
  refine ev_eq (fun _ k _ => semigroupref14_Shape_eq k) ?_
  rw [hl]
  refine ev_if (fun h => ?_) (fun h => ?_)
  · rw [if_pos h]; exact ev_ret ⟨rfl, rfl⟩
  rw [if_neg h]
  refine ev_if (fun h => ?_) (fun h2 => ?_)
  · rw [if_pos h]; exact ev_ret ⟨rfl, rfl⟩
  rw [if_neg h2]
  generalize hr : (if Bad t then (4 : Int) else 0) = r
  refine ev_for0 (g := fun x ρ k κ => semigroupref14_Shape_1 k s s (t.length : Int) x lo H κ) (t.length : Int) (fun i => ∀ x, 0 ≤ x → x < i → ¬ (((R t x).length : Int) ≠ (t.length : Int) ∨ ∃ y, 0 ≤ y ∧ y < ((R t x).length : Int) ∧ (M t x y < 0 ∨ (t.length : Int) ≤ M t x y))) ?_ ?_ 0 (by omega) (by omega) (fun x a b => by omega)
  · intro x hx0 hx1 hi
    by_cases hbad : ((R t x).length : Int) ≠ (t.length : Int) ∨ ∃ y, 0 ≤ y ∧ y < ((R t x).length : Int) ∧ (M t x y < 0 ∨ (t.length : Int) ≤ M t x y)
    · left
      have hr4 : (4 : Int) = r := by rw [← hr, if_pos ⟨x, hx0, hx1, hbad⟩]
      refine ev_eq (fun _ k _ => semigroupref14_Shape_1_eq k) (ev_pos hx1 (ev_rdS hs hx0 hx1 fun v hv => ?_))
      rw [hl, hv.len]
      refine ev_nif (fun _ => ev_ret ⟨hr4, rfl⟩) (fun he => ?_)
      rcases hbad with hbad | ⟨y, hy0, hy1, hbad⟩
      · exact absurd he hbad
      exact semigroupref14_Shape_l2 (A := H) ht hs hx0 hx1 hv (fun _ => ⟨hr4, rfl⟩) (fun hn => absurd hbad (hn y hy0 hy1))
    · right
      refine ⟨fun z hz0 hz1 => ?_, fun H' => ?_⟩
      · by_cases hzx : z < x
        · exact hi z hz0 hzx
        · have : z = x := by omega
          rw [this]; exact hbad
      · have he : ((R t x).length : Int) = (t.length : Int) := Classical.byContradiction fun hn => hbad (.inl hn)
        refine ev_eq (fun _ k _ => semigroupref14_Shape_1_eq k) (ev_pos hx1 (ev_rdS hs hx0 hx1 fun v hv => ?_))
        rw [hl, hv.len]
        exact ev_nneg he (semigroupref14_Shape_l2 (A := H) ht hs hx0 hx1 hv (fun hy => absurd (.inr hy) hbad) (fun _ => H'))
  · intro hi
    refine ev_eq (fun _ k _ => semigroupref14_Shape_1_eq k) (ev_neg (by omega) (ev_ret ⟨?_, rfl⟩))
    rw [← hr, if_neg]
    rintro ⟨x, a, b, c⟩
    exact hi x a b c
theorem mult_failing_l3 {s : Sl} {t : List (List Int)} {H : AH} {lo : Nat} {Q : (Int × Int × Int × Bool) → AH → Prop} (ht : Tab H s t) (hs : Sq t) {x y : Int} (hx0 : 0 ≤ x) (hx1 : x < (t.length : Int)) (hy0 : 0 ≤ y) (hy1 : y < (t.length : Int))
    (hf : ∀ a, fnd (fun z => if M t (M t x y) z = M t x (M t y z) then none else some (x, y, z)) 0 t.length = some a → Q (a.1, a.2.1, a.2.2, true) H)
    (h : fnd (fun z => if M t (M t x y) z = M t x (M t y z) then none else some (x, y, z)) 0 t.length = none → Ev (fun ρ k κ => mult_failing_2 k s x (t.length : Int) x (t.length : Int) (y + 1) lo H κ) Q) :
    Ev (fun ρ k κ => mult_failing_3 k s x y (t.length : Int) x (t.length : Int) y (t.length : Int) 0 lo H κ) Q := by
  have hle := hs.le
  refine ev_fnd (f := fun z => if M t (M t x y) z = M t x (M t y z) then none else some (x, y, z)) (g := fun z ρ k κ => mult_failing_3 k s x y (t.length : Int) x (t.length : Int) y (t.length : Int) z lo H κ) (t.length : Int) ?_ 0 t.length (by omega) (by omega) ?_ ?_
  · intro z hz0 hz1 he H'
    have a1 := hs.lo x y hx0 hx1 hy0 hy1
    have a2 := hs.hi x y hx0 hx1 hy0 hy1
    have a3 := hs.lo y z hy0 hy1 hz0 hz1
    have a4 := hs.hi y z hy0 hy1 hz0 hz1
    have r1 := hs.row x hx0 hx1
    have r2 := hs.row y hy0 hy1
    have r3 := hs.row (M t x y) a1 a2
    have he : M t (M t x y) z = M t x (M t y z) := Classical.byContradiction fun hn => by rw [if_neg hn] at he; cases he
    refine ev_eq (fun _ k _ => mult_failing_3_eq k) (ev_pos hz1 (ev_rdM ht hx0 hx1 hy0 (by omega) (ev_rdM ht a1 a2 hz0 (by omega) (ev_rdS ht hx0 hx1 fun r hr => ev_rdM ht hy0 hy1 hz0 (by omega) (ev_rdI hr a3 (by omega) (ev_nneg he ?_))))))
    rw [W_add hz0 hz1 (by omega)]
    exact H'
  · intro z a hz0 hz1 he ha
    have a1 := hs.lo x y hx0 hx1 hy0 hy1
    have a2 := hs.hi x y hx0 hx1 hy0 hy1
    have a3 := hs.lo y z hy0 hy1 hz0 hz1
    have a4 := hs.hi y z hy0 hy1 hz0 hz1
    have r1 := hs.row x hx0 hx1
    have r2 := hs.row y hy0 hy1
    have r3 := hs.row (M t x y) a1 a2
    have hne : ¬ M t (M t x y) z = M t x (M t y z) := fun hn => by rw [if_pos hn] at he; cases he
    rw [if_neg hne] at he
    cases he
    exact ev_eq (fun _ k _ => mult_failing_3_eq k) (ev_pos hz1 (ev_rdM ht hx0 hx1 hy0 (by omega) (ev_rdM ht a1 a2 hz0 (by omega) (ev_rdS ht hx0 hx1 fun r hr => ev_rdM ht hy0 hy1 hz0 (by omega) (ev_rdI hr a3 (by omega) (ev_npos hne (ev_ret (hf _ ha))))))))
  · intro hn
    refine ev_eq (fun _ k _ => mult_failing_3_eq k) (ev_neg (by omega) ?_)
    rw [W_add hy0 hy1 (by omega)]
    exact h hn
theorem mult_failing_l1 {s : Sl} {t : List (List Int)} {H : AH} {lo : Nat} (ht : Tab H s t) (hs : Sq t) : Ev (fun ρ k κ => mult_failing_1 k s (t.length : Int) 0 lo H κ) (Is ((tri t).elim (0, 0, 0, false) (fun a => (a.1, a.2.1, a.2.2, true))) H) := by
  have hle := hs.le
  have hl := ht.len
  refine ev_fnd (f := fun x => fnd (fun y => fnd (fun z => if M t (M t x y) z = M t x (M t y z) then none else some (x, y, z)) 0 t.length) 0 t.length) (g := fun x ρ k κ => mult_failing_1 k s (t.length : Int) x lo H κ) (t.length : Int) ?_ 0 t.length (by omega) (by omega) ?_ ?_
  · intro x hx0 hx1 hn H'
    refine ev_eq (fun _ k _ => mult_failing_1_eq k) (ev_pos hx1 ?_)
    rw [hl]
    refine ev_fnd (f := fun y => fnd (fun z => if M t (M t x y) z = M t x (M t y z) then none else some (x, y, z)) 0 t.length) (g := fun y ρ k κ => mult_failing_2 k s x (t.length : Int) x (t.length : Int) y lo H κ) (t.length : Int) ?_ 0 t.length (by omega) (by omega) ?_ ?_
    · intro y hy0 hy1 hn2 H'
      refine ev_eq (fun _ k _ => mult_failing_2_eq k) (ev_pos hy1 ?_)
      rw [hl]
      exact mult_failing_l3 ht hs hx0 hx1 hy0 hy1 (fun a ha => by rw [hn2] at ha; cases ha) (fun _ => H')
    · intro y a _ _ _ ha; rw [hn] at ha; cases ha
    · intro _
      refine ev_eq (fun _ k _ => mult_failing_2_eq k) (ev_neg (by omega) ?_)
      rw [W_add hx0 hx1 (by omega)]
      exact H'
  · intro x a hx0 hx1 hfx hfa
    refine ev_eq (fun _ k _ => mult_failing_1_eq k) (ev_pos hx1 ?_)
    rw [hl]
    refine ev_fnd (f := fun y => fnd (fun z => if M t (M t x y) z = M t x (M t y z) then none else some (x, y, z)) 0 t.length) (g := fun y ρ k κ => mult_failing_2 k s x (t.length : Int) x (t.length : Int) y lo H κ) (t.length : Int) ?_ 0 t.length (by omega) (by omega) ?_ ?_
    · intro y hy0 hy1 hn2 H'
      refine ev_eq (fun _ k _ => mult_failing_2_eq k) (ev_pos hy1 ?_)
      rw [hl]
      exact mult_failing_l3 ht hs hx0 hx1 hy0 hy1 (fun a ha => by rw [hn2] at ha; cases ha) (fun _ => H')
    · intro y b hy0 hy1 hfy hfb
      refine ev_eq (fun _ k _ => mult_failing_2_eq k) (ev_pos hy1 ?_)
      rw [hl]
      refine mult_failing_l3 ht hs hx0 hx1 hy0 hy1 (fun c hc => ⟨?_, rfl⟩) (fun hn => by rw [hfy] at hn; cases hn)
      rw [hfy] at hc; cases hc
      rw [hfx] at hfb; cases hfb
      rw [show tri t = some a from hfa]; rfl
    · intro hn; rw [hfx] at hn; cases hn
  · intro hn
    refine ev_eq (fun _ k _ => mult_failing_1_eq k) (ev_neg (by omega) (ev_ret ⟨?_, rfl⟩))
    unfold tri
    rw [hn]
    rfl
theorem semigroupref14_Associative_l3 {s : Sl} {t : List (List Int)} {H : AH} {lo : Nat} {Q : (Int × Int × Int × Int) → AH → Prop} (ht : Tab H s t) (hs : Sq t) {x y : Int} (hx0 : 0 ≤ x) (hx1 : x < (t.length : Int)) (hy0 : 0 ≤ y) (hy1 : y < (t.length : Int))
    (hf : ∀ a, fnd (fun z => if M t (M t x y) z = M t x (M t y z) then none else some (x, y, z)) 0 t.length = some a → Q (a.1, a.2.1, a.2.2, 5) H)
    (h : fnd (fun z => if M t (M t x y) z = M t x (M t y z) then none else some (x, y, z)) 0 t.length = none → Ev (fun ρ k κ => semigroupref14_Associative_2 k s x (t.length : Int) x (t.length : Int) (y + 1) lo H κ) Q) :
    Ev (fun ρ k κ => semigroupref14_Associative_3 k s x y (t.length : Int) x (t.length : Int) y (t.length : Int) 0 lo H κ) Q := by
  have hle := hs.le
  refine ev_fnd (f := fun z => if M t (M t x y) z = M t x (M t y z) then none else some (x, y, z)) (g := fun z ρ k κ => semigroupref14_Associative_3 k s x y (t.length : Int) x (t.length : Int) y (t.length : Int) z lo H κ) (t.length : Int) ?_ 0 t.length (by omega) (by omega) ?_ ?_
  · intro z hz0 hz1 he H'
    have a1 := hs.lo x y hx0 hx1 hy0 hy1
    have a2 := hs.hi x y hx0 hx1 hy0 hy1
    have a3 := hs.lo y z hy0 hy1 hz0 hz1
    have a4 := hs.hi y z hy0 hy1 hz0 hz1
    have r1 := hs.row x hx0 hx1
    have r2 := hs.row y hy0 hy1
    have r3 := hs.row (M t x y) a1 a2
    have he : M t (M t x y) z = M t x (M t y z) := Classical.byContradiction fun hn => by rw [if_neg hn] at he; cases he
    refine ev_eq (fun _ k _ => semigroupref14_Associative_3_eq k) (ev_pos hz1 (ev_rdM ht hx0 hx1 hy0 (by omega) (ev_rdM ht a1 a2 hz0 (by omega) (ev_rdS ht hx0 hx1 fun r hr => ev_rdM ht hy0 hy1 hz0 (by omega) (ev_rdI hr a3 (by omega) (ev_nneg he ?_))))))
    rw [W_add hz0 hz1 (by omega)]
    exact H'
  · intro z a hz0 hz1 he ha
    have a1 := hs.lo x y hx0 hx1 hy0 hy1
    have a2 := hs.hi x y hx0 hx1 hy0 hy1
    have a3 := hs.lo y z hy0 hy1 hz0 hz1
    have a4 := hs.hi y z hy0 hy1 hz0 hz1
    have r1 := hs.row x hx0 hx1
    have r2 := hs.row y hy0 hy1
    have r3 := hs.row (M t x y) a1 a2
    have hne : ¬ M t (M t x y) z = M t x (M t y z) := fun hn => by rw [if_pos hn] at he; cases he
    rw [if_neg hne] at he
    cases he
    exact ev_eq (fun _ k _ => semigroupref14_Associative_3_eq k) (ev_pos hz1 (ev_rdM ht hx0 hx1 hy0 (by omega) (ev_rdM ht a1 a2 hz0 (by omega) (ev_rdS ht hx0 hx1 fun r hr => ev_rdM ht hy0 hy1 hz0 (by omega) (ev_rdI hr a3 (by omega) (ev_npos hne (ev_ret (hf _ ha))))))))
  · intro hn
    refine ev_eq (fun _ k _ => semigroupref14_Associative_3_eq k) (ev_neg (by omega) ?_)
    rw [W_add hy0 hy1 (by omega)]
    exact h hn
theorem semigroupref14_Associative_l1 {s : Sl} {t : List (List Int)} {H : AH} {lo : Nat} (ht : Tab H s t) (hs : Sq t) : Ev (fun ρ k κ => semigroupref14_Associative_1 k s (t.length : Int) 0 lo H κ) (Is ((tri t).elim (0, 0, 0, 0) (fun a => (a.1, a.2.1, a.2.2, 5))) H) := by
  have hle := hs.le
  have hl := ht.len
  refine ev_fnd (f := fun x => fnd (fun y => fnd (fun z => if M t (M t x y) z = M t x (M t y z) then none else some (x, y, z)) 0 t.length) 0 t.length) (g := fun x ρ k κ => semigroupref14_Associative_1 k s (t.length : Int) x lo H κ) (t.length : Int) ?_ 0 t.length (by omega) (by omega) ?_ ?_
  · intro x hx0 hx1 hn H'
    refine ev_eq (fun _ k _ => semigroupref14_Associative_1_eq k) (ev_pos hx1 ?_)
    rw [hl]
    refine ev_fnd (f := fun y => fnd (fun z => if M t (M t x y) z = M t x (M t y z) then none else some (x, y, z)) 0 t.length) (g := fun y ρ k κ => semigroupref14_Associative_2 k s x (t.length : Int) x (t.length : Int) y lo H κ) (t.length : Int) ?_ 0 t.length (by omega) (by omega) ?_ ?_
    · intro y hy0 hy1 hn2 H'
      refine ev_eq (fun _ k _ => semigroupref14_Associative_2_eq k) (ev_pos hy1 ?_)
      rw [hl]
      exact semigroupref14_Associative_l3 ht hs hx0 hx1 hy0 hy1 (fun a ha => by rw [hn2] at ha; cases ha) (fun _ => H')
    · intro y a _ _ _ ha; rw [hn] at ha; cases ha
    · intro _
      refine ev_eq (fun _ k _ => semigroupref14_Associative_2_eq k) (ev_neg (by omega) ?_)
      rw [W_add hx0 hx1 (by omega)]
      exact H'
  · intro x a hx0 hx1 hfx hfa
    refine ev_eq (fun _ k _ => semigroupref14_Associative_1_eq k) (ev_pos hx1 ?_)
    rw [hl]
    refine ev_fnd (f := fun y => fnd (fun z => if M t (M t x y) z = M t x (M t y z) then none else some (x, y, z)) 0 t.length) (g := fun y ρ k κ => semigroupref14_Associative_2 k s x (t.length : Int) x (t.length : Int) y lo H κ) (t.length : Int) ?_ 0 t.length (by omega) (by omega) ?_ ?_
    · intro y hy0 hy1 hn2 H'
      refine ev_eq (fun _ k _ => semigroupref14_Associative_2_eq k) (ev_pos hy1 ?_)
      rw [hl]
      exact semigroupref14_Associative_l3 ht hs hx0 hx1 hy0 hy1 (fun a ha => by rw [hn2] at ha; cases ha) (fun _ => H')
    · intro y b hy0 hy1 hfy hfb
      refine ev_eq (fun _ k _ => semigroupref14_Associative_2_eq k) (ev_pos hy1 ?_)
      rw [hl]
      refine semigroupref14_Associative_l3 ht hs hx0 hx1 hy0 hy1 (fun c hc => ⟨?_, rfl⟩) (fun hn => by rw [hfy] at hn; cases hn)
      rw [hfy] at hc; cases hc
      rw [hfx] at hfb; cases hfb
      rw [show tri t = some a from hfa]; rfl
    · intro hn; rw [hfx] at hn; cases hn
  · intro hn
    refine ev_eq (fun _ k _ => semigroupref14_Associative_1_eq k) (ev_neg (by omega) (ev_ret ⟨?_, rfl⟩))
    unfold tri
    rw [hn]
    rfl
theorem mult_Validate_ev {s : Sl} {t : List (List Int)} {H : AH} {lo : Nat} (ht : In2 t) (hs : Tab H s t) : Ev (fun ρ k κ => mult_Validate k s lo H κ) (Is (val t) H) := by
  unfold val
  refine ev_eq (fun _ k _ => mult_Validate_eq k) (ev_is (mult_shape_ev ht hs) ?_)
  by_cases h : shp t = 0
  · rw [if_pos h]
    refine ev_nneg h (ev_is (F' := fun ρ k κ => mult_failing k s H.length H κ) (ev_eq (fun _ k _ => mult_failing_eq k) (by rw [hs.len]; exact mult_failing_l1 hs (shp_sq.1 h))) ?_)
    cases tri t with
    | none => exact ev_f rfl (ev_ret ⟨by simp, rfl⟩)
    | some a => exact ev_t rfl (ev_ret ⟨by simp, rfl⟩)
  · rw [if_neg h]
    exact ev_npos h (ev_ret ⟨rfl, rfl⟩)
/-- What Associative answers. -/
noncomputable def asc4 (t : List (List Int)) : Int × Int × Int × Int := if shp t = 0 then ((tri t).elim (0, 0, 0, 0) (fun a => (a.1, a.2.1, a.2.2, 5))) else (0, 0, 0, shp t)
theorem asc4_val (t : List (List Int)) : (asc4 t).2.2.2 = val t := by
  unfold asc4 val
  split
  · cases tri t <;> rfl
  · rfl
theorem semigroupref14_Associative_ev {s : Sl} {t : List (List Int)} {H : AH} {lo : Nat} (ht : In2 t) (hs : Tab H s t) : Ev (fun ρ k κ => semigroupref14_Associative k s lo H κ) (Is (asc4 t) H) := by
  unfold asc4
  refine ev_eq (fun _ k _ => semigroupref14_Associative_eq k) (ev_is (semigroupref14_Shape_ev ht hs) ?_)
  by_cases h : shp t = 0
  · rw [if_pos h]
    refine ev_nneg h ?_
    rw [hs.len]
    exact semigroupref14_Associative_l1 hs (shp_sq.1 h)
  · rw [if_neg h]
    exact ev_npos h (ev_ret ⟨rfl, rfl⟩)
theorem semigroupref14_Validate_ev {s : Sl} {t : List (List Int)} {H : AH} {lo : Nat} (ht : In2 t) (hs : Tab H s t) : Ev (fun ρ k κ => semigroupref14_Validate k s lo H κ) (Is (val t) H) :=
  ev_eq (fun _ k _ => semigroupref14_Validate_eq k) (ev_is (semigroupref14_Associative_ev ht hs) (ev_ret ⟨asc4_val t, rfl⟩))
theorem semigroupref14_Valid_ev {s : Sl} {t : List (List Int)} {H : AH} {lo : Nat} (ht : In2 t) (hs : Tab H s t) : Ev (fun ρ k κ => semigroupref14_Valid k s lo H κ) (Is (decide (val t = 0)) H) :=
  ev_eq (fun _ k _ => semigroupref14_Valid_eq k) (ev_is (semigroupref14_Validate_ev ht hs) (ev_ret ⟨rfl, rfl⟩))
theorem semigroupref14_In_ev {s r : Sl} {t : List (List Int)} {l : List Int} {H : AH} {lo : Nat} (ht : s.len = t.length) (hr : Row H r l) (hl : l.length ≤ 9223372036854775807) {b : Bool} (hb : b = true ↔ El t l) : Ev (fun ρ k κ => semigroupref14_In k s r lo H κ) (Is b H) := by
  refine ev_eq (fun _ k _ => semigroupref14_In_eq k) ?_
  rw [hr.len]
  refine ev_for0 (g := fun i ρ k κ => semigroupref14_In_1 k s r (l.length : Int) i lo H κ) (l.length : Int) (fun j => ∀ i, 0 ≤ i → i < j → 0 ≤ rd l i ∧ rd l i < (t.length : Int)) ?_ ?_ 0 (by omega) (by omega) (fun i a b => by omega)
  · intro i hi0 hi1 hi
    by_cases hp : 0 ≤ rd l i ∧ rd l i < (t.length : Int)
    · right
      refine ⟨fun j j0 j1 => ?_, fun H => ?_⟩
      · by_cases hj : j = i
        · rw [hj]; exact hp
        · exact hi j j0 (by omega)
      · refine ev_eq (fun _ k _ => semigroupref14_In_1_eq k) (ev_pos hi1 (ev_rdI hr hi0 hi1 (ev_orP (fun _ => ev_ret ⟨rfl, rfl⟩) (ev_neg (by rw [ht]; omega) ?_))))
        rw [W_add hi0 hi1 (by omega)]
        exact H
    · left
      have hf : b = false := by
        cases b with
        | false => rfl
        | true => exact absurd (hb.1 rfl _ (rd_mem hi0 hi1)) hp
      exact ev_eq (fun _ k _ => semigroupref14_In_1_eq k) (ev_pos hi1 (ev_rdI hr hi0 hi1 (ev_orP (fun _ => ev_ret ⟨rfl, rfl⟩) (ev_pos (by rw [ht]; omega) (ev_ret ⟨hf.symm, rfl⟩)))))
  · intro hi
    exact ev_eq (fun _ k _ => semigroupref14_In_1_eq k) (ev_neg (by omega) (ev_ret ⟨(hb.2 (rd_all.2 hi)).symm, rfl⟩))
end Go.Ab

/- Rows compared, members; tables of Rees matrix semigroups, regularity. What they answer. No condition but that a structure comes in. -/
set_option linter.unusedVariables false
set_option linter.unusedSimpArgs false
namespace Go.Ab
open Go
theorem Mk.zero {P : List (List Int)} {m k : Int} (m0 : 0 ≤ m) (k0 : 0 ≤ k) : Mk P m k 0 0 (List.replicate m.toNat false) (List.replicate k.toNat false) := by
  refine ⟨by simp; omega, by simp; omega, fun i' a0 a1 => ?_, fun l' a0 a1 => ?_⟩
  · rw [rb_rep a0 (by omega)]
    simp only [Bool.false_eq_true, false_iff]
    rintro ⟨l', s1, s2, s3, s4, s5⟩
    omega
  · rw [rb_rep a0 (by omega)]
    simp only [Bool.false_eq_true, false_iff]
    rintro ⟨i', s1, s2, s3, s4, s5⟩
    omega
end Go.Ab

/- Partitions: canonical forms, validity, meets, counts, classes. What they answer. No condition but that rows come in. -/
set_option linter.unusedVariables false
set_option linter.unusedSimpArgs false
namespace Go.Ab
open Go
abbrev ival : Int → AV := fun n => .int .i64 n
theorem partition_Canonical_ev {s : Sl} {x : List Int} {H : AH} {lo : Nat} (hlo : lo ≤ H.length) (hs : Row H s x) (hl : x.length ≤ 4096) : Ev (fun ρ k κ => partition_Canonical k s lo H κ) (fun v H' => ∃ o, Sep H H' [own reI v o] ∧ IsCl x.length (fun i j => rd x i = rd x j) o) := by
  refine ev_eq (fun _ k _ => partition_Canonical_eq k) ?_
  rw [hs.len]
  refine ev_neg (by omega) (sp_mkm ival (Sep.nil H) fun m H1 hS => sp_mks (x := (0 : Int)) hS reI (fun _ => ⟨rfl, rfl⟩) (by omega) (by omega) fun t H4 hS => ?_)
  refine ev_loop (α := AH) (g := fun i H ρ n κ => partition_Canonical_1 n (some m) t s (x.length : Int) i lo H κ) (x.length : Int) (fun i H' => ∃ o l, Sep H H' [own reI t o, ownMp ival m l] ∧ Num x o l i) ?_ ?_ 0 H4 (by omega) (by omega) ⟨_, [], hS, Num.zero (by simp)⟩
  · rintro i H1 i0 i1 ⟨o, l, hS, hN⟩ hk
    have hln := hN.len
    have step : ∀ (c : Int) (l' : List (Int × Int)) (H2 : AH), Sep H H2 [own reI t o, ownMp ival m l'] → (∀ H3, Sep H H3 [own reI t (o.set i.toNat c), ownMp ival m l'] → Num x (o.set i.toNat c) l' (i + 1)) → Ev (fun ρ n κ => partition_Canonical_2 n (some m) t i c s (x.length : Int) i lo H2 κ) (fun v H' => ∃ o, Sep H H' [own reI v o] ∧ IsCl x.length (fun i j => rd x i = rd x j) o) := by
      intro c l' H2 hS h
      refine ev_eq (fun _ k _ => partition_Canonical_2_eq k) (sp_put (x := c) hS hlo (fun _ => ⟨rfl, rfl⟩) i0 (by omega) fun H3 hS => ?_)
      rw [W_add i0 i1 (by omega)]
      exact hk H3 ⟨_, _, hS, h H3 hS⟩
    refine ev_eq (fun _ k _ => partition_Canonical_1_eq k) (ev_pos i1 (ev_rdI (hs.le hS.le) i0 i1 (sp_mlook (hS.pull 1) ?_)))
    cases e : mget l (rd x i) with
    | none =>
      exact ev_asI (n := 0) (ev_nt rfl (sp_mlen (hS.pull 1) (sp_mput (f := ival) (hS.pull 1) hlo fun H5 hS => step _ _ _ (hS.pull 1) fun _ _ => hN.new i0 i1 e)))
    | some c => exact ev_asI (n := c) (ev_nf rfl (step _ _ _ hS fun _ _ => hN.old i0 i1 e))
  · rintro H1 ⟨o, l, hS, hN⟩
    exact ev_eq (fun _ k _ => partition_Canonical_1_eq k) (ev_neg (by omega) (ev_ret ⟨o, (hS.pull 1).drop, hN.done⟩))
/-- What partition.Valid has seen of the first i. -/
structure PV1 (p : List Int) (i n : Int) : Prop where
  n0 : 0 ≤ n ∧ n ≤ i
  lt : ∀ j : Int, 0 ≤ j → j < i → 0 ≤ rd p j ∧ rd p j < n
  all : ∀ c : Int, 0 ≤ c → c < n → ∃ j : Int, 0 ≤ j ∧ j < i ∧ rd p j = c
  can : ∀ j : Int, 0 ≤ j → j < i → ∀ c : Int, 0 ≤ c → c < rd p j → ∃ j' : Int, 0 ≤ j' ∧ j' < j ∧ rd p j' = c
open Classical in
theorem partition_Valid_ev {s : Sl} {p : List Int} {H : AH} {lo : Nat} (hs : Row H s p) : Ev (fun ρ k κ => partition_Valid k s lo H κ) (Is (decide ((p.length : Int) ≤ 4096 ∧ Cano p)) H) := by
  refine ev_eq (fun _ k _ => partition_Valid_eq k) ?_
  rw [hs.len]
  refine ev_if (fun h => ev_ret ⟨by rw [decide_eq_false]; omega, rfl⟩) (fun h => ?_)
  refine ev_for (α := Int) (g := fun i n ρ k κ => partition_Valid_1 k n s (p.length : Int) i lo H κ) (p.length : Int) (fun i n => PV1 p i n) ?_ ?_ 0 0 (by omega) (by omega) ⟨by omega, fun j a b => by omega, fun c a b => by omega, fun j a b => by omega⟩
  · intro i n i0 i1 hP
    have hn := hP.n0
    by_cases hbad : rd p i < 0 ∨ rd p i > n
    · left
      refine ev_eq (fun _ k _ => partition_Valid_1_eq k) (ev_pos i1 (ev_rdI hs i0 i1 (ev_orP (c := rd p i > n) (fun _ => ev_ret ⟨rfl, rfl⟩) (ev_pos hbad (ev_ret ⟨?_, rfl⟩)))))
      rw [decide_eq_false]
      rintro ⟨_, hc⟩
      obtain ⟨c1, c2⟩ := hc i i0 i1
      rcases hbad with hbad | hbad
      · omega
      · obtain ⟨j, j0, j1, j2⟩ := c2 n hn.1 hbad
        have := hP.lt j j0 j1
        omega
    · right
      by_cases hnew : rd p i = n
      · refine ⟨n + 1, ⟨by omega, fun j a b => ?_, fun c a b => ?_, fun j a b c c0 c1 => ?_⟩, fun h' => ?_⟩
        · by_cases hj : j = i
          · rw [hj]; omega
          · have := hP.lt j a (by omega); omega
        · by_cases hc : c = n
          · exact ⟨i, i0, by omega, by omega⟩
          · obtain ⟨j, x, y, z⟩ := hP.all c a (by omega)
            exact ⟨j, x, by omega, z⟩
        · by_cases hj : j = i
          · rw [hj] at c1 ⊢
            exact hP.all c c0 (by omega)
          · exact hP.can j a (by omega) c c0 c1
        · refine ev_eq (fun _ k _ => partition_Valid_1_eq k) (ev_pos i1 (ev_rdI hs i0 i1 (ev_orP (c := rd p i > n) (fun _ => ev_ret ⟨rfl, rfl⟩) (ev_neg hbad (ev_pos hnew (ev_eq (fun _ k _ => partition_Valid_2_eq k) ?_))))))
          rw [W_add i0 i1 (by omega), W_in (by omega) (by omega)]; exact h'
      · refine ⟨n, ⟨by omega, fun j a b => ?_, fun c a b => ?_, fun j a b c c0 c1 => ?_⟩, fun h' => ?_⟩
        · by_cases hj : j = i
          · rw [hj]; omega
          · exact hP.lt j a (by omega)
        · obtain ⟨j, x, y, z⟩ := hP.all c a b
          exact ⟨j, x, by omega, z⟩
        · by_cases hj : j = i
          · rw [hj] at c1 ⊢
            exact hP.all c c0 (by omega)
          · exact hP.can j a (by omega) c c0 c1
        · refine ev_eq (fun _ k _ => partition_Valid_1_eq k) (ev_pos i1 (ev_rdI hs i0 i1 (ev_orP (c := rd p i > n) (fun _ => ev_ret ⟨rfl, rfl⟩) (ev_neg hbad (ev_neg hnew (ev_eq (fun _ k _ => partition_Valid_2_eq k) ?_))))))
          rw [W_add i0 i1 (by omega)]; exact h'
  · intro n hP
    refine ev_eq (fun _ k _ => partition_Valid_1_eq k) (ev_neg (by omega) (ev_ret ⟨?_, rfl⟩))
    rw [decide_eq_true]
    exact ⟨by omega, fun i a b => ⟨(hP.lt i a b).1, hP.can i a b⟩⟩
open Classical in
theorem partition_both_ev {s t : Sl} {p q : List Int} {H : AH} {lo : Nat} (hs : Row H s p) (ht : Row H t q) : Ev (fun ρ k κ => partition_both k s t lo H κ) (Is (decide ((p.length : Int) = q.length ∧ ((p.length : Int) ≤ 4096 ∧ Cano p) ∧ ((q.length : Int) ≤ 4096 ∧ Cano q))) H) := by
  refine ev_eq (fun _ k _ => partition_both_eq k) ?_
  rw [hs.len, ht.len]
  refine ev_andP (c := (p.length : Int) ≤ 4096 ∧ Cano p) (fun _ => ev_is (partition_Valid_ev hs) (ev_ret ⟨rfl, rfl⟩)) (ev_andP (c := (q.length : Int) ≤ 4096 ∧ Cano q) (fun _ => ev_is (partition_Valid_ev ht) (ev_ret ⟨rfl, rfl⟩)) (ev_ret ⟨?_, rfl⟩))
  apply decide_eq_decide.2
  exact and_assoc
/-- Pairs of class numbers, coded. -/
theorem pair_inj {a b c d : Int} (h0 : 0 ≤ b ∧ b < 4096) (h1 : 0 ≤ d ∧ d < 4096) : a * 4096 + b = c * 4096 + d ↔ a = c ∧ b = d := by
  constructor
  · intro h; omega
  · rintro ⟨rfl, rfl⟩; rfl
def meetL (p q : List Int) : List Int := (List.range p.length).map fun i : Nat => rd p i * 4096 + rd q i
theorem meetL_cl {p q o : List Int} (hp : Cano p) (hq : Cano q) (hl : p.length = q.length) (h4 : p.length ≤ 4096) (ho : IsCl (meetL p q).length (fun i j => rd (meetL p q) i = rd (meetL p q) j) o) : IsCl p.length (fun i j => rd p i = rd p j ∧ rd q i = rd q j) o := by
  have e : (meetL p q).length = p.length := by simp [meetL]
  rw [e] at ho
  refine ho.congr fun x y x0 x1 y0 y1 => ?_
  unfold meetL
  rw [rd_map x0 x1, rd_map y0 y1, show ((x.toNat : Nat) : Int) = x by omega, show ((y.toNat : Nat) : Int) = y by omega]
  have := hq.lt x0 (by omega)
  have := hq.lt y0 (by omega)
  exact pair_inj (by omega) (by omega)
open Classical in
theorem partition_Meet_ev {s t : Sl} {p q : List Int} {H : AH} {lo : Nat} (hlo : lo ≤ H.length) (hs : Row H s p) (ht : Row H t q) (hp : Cano p) (hq : Cano q) (hl : p.length = q.length) (h4 : p.length ≤ 4096) : Ev (fun ρ k κ => partition_Meet k s t lo H κ) (fun v H' => ∃ o, Sep H H' [own reI v o] ∧ IsCl p.length (fun i j => rd p i = rd p j ∧ rd q i = rd q j) o) := by
  refine ev_eq (fun _ k _ => partition_Meet_eq k) (ev_is (partition_both_ev hs ht) (ev_nf ?_ ?_))
  · rw [decide_eq_true]; exact ⟨by omega, ⟨by omega, hp⟩, by omega, hq⟩
  rw [hs.len]
  refine sp_mks (x := (0 : Int)) (Sep.nil H) reI (fun _ => ⟨rfl, rfl⟩) (by omega) (by omega) fun u H4 hS => ?_
  refine ev_loop (α := AH) (g := fun i H ρ k κ => partition_Meet_1 k s t u (p.length : Int) i lo H κ) (p.length : Int) (fun i H' => ∃ o, Sep H H' [own reI u o] ∧ o.length = p.length ∧ ∀ j : Int, 0 ≤ j → j < i → rd o j = rd p j * 4096 + rd q j) ?_ ?_ 0 H4 (by omega) (by omega) ⟨_, hS, by simp, fun j a b => by omega⟩
  · rintro i H1 i0 i1 ⟨o, hS, ho, hv⟩ hk
    have := hp.lt i0 i1
    have := hq.lt i0 (by omega)
    refine ev_eq (fun _ k _ => partition_Meet_1_eq k) (ev_pos i1 (ev_rdI (hs.le hS.le) i0 i1 (ev_rdI (ht.le hS.le) i0 (by omega) ?_)))
    rw [W_in (i := rd p i * 4096) (by omega) (by omega), W_in (i := rd p i * 4096 + rd q i) (by omega) (by omega), W_add i0 i1 (by omega)]
    refine sp_put (x := rd p i * 4096 + rd q i) hS hlo (fun _ => ⟨rfl, rfl⟩) i0 (by omega) fun H2 hS => hk H2 ⟨_, hS, by simpa using ho, fun j a b => ?_⟩
    rw [rd_set i0 (by omega) a]
    by_cases hj : j = i
    · rw [if_pos hj, hj]
    · rw [if_neg hj]; exact hv j a (by omega)
  · rintro H1 ⟨o, hS, ho, hv⟩
    have e : o = meetL p q := rd_ext (by simp [meetL, ho]) fun j a b => by
      unfold meetL; rw [rd_map a (by omega), show ((j.toNat : Nat) : Int) = j by omega]; exact hv j a (by omega)
    subst e
    refine ev_eq (fun _ k _ => partition_Meet_1_eq k) (ev_neg (by omega) (ev_call (partition_Canonical_ev (Nat.le_refl _) hS.row (by omega)) fun v H2 ⟨o, hS2, ho⟩ => ev_ret ⟨o, hS2.base hS.le, meetL_cl hp hq hl h4 ho⟩))
theorem green_firsts_ev {s : Sl} {p : List Int} {H : AH} {lo : Nat} (hlo : lo ≤ H.length) (hs : Row H s p) (hp : Cano p) (hl : p.length ≤ 4096) : Ev (fun ρ k κ => green_firsts k s lo H κ) (fun v H' => Sep H H' [own reI v (frs p)]) := by
  refine ev_eq (fun _ k _ => green_firsts_eq k) ?_
  rw [hs.len]
  refine ev_loop (α := Sl × AH) (g := fun i a ρ k κ => green_firsts_1 k a.1 s (p.length : Int) i lo a.2 κ) (p.length : Int) (fun i a => Sep H a.2 [own reI a.1 (sel (Fst p) 0 i.toNat)]) ?_ ?_ 0 (⟨none, 0⟩, H) (by omega) (by omega) ((Sep.nil H).nilS reI)
  · rintro i ⟨t, H1⟩ i0 i1 hS hk
    simp only at hS
    have hln := sel_len (P := Fst p) (i := 0) (m := i.toNat)
    refine ev_eq (fun _ k _ => green_firsts_1_eq k) (ev_pos i1 (ev_rdI (hs.le hS.le) i0 i1 ?_))
    rw [hS.len]
    refine ev_if (fun h => ?_) (fun h => ?_)
    · have hf := (hp.new i0 i1).1 h
      refine sp_app1 (x := i) hS hlo (fun _ => ⟨rfl, rfl⟩) (by omega) fun t' H' hS' => ev_eq (fun _ k _ => green_firsts_2_eq k) ?_
      rw [W_add i0 i1 (by omega)]
      exact hk (t', H') (hS'.eq (sel_snoc i0 hf))
    · have hf := fun x => h ((hp.new i0 i1).2 x)
      refine ev_eq (fun _ k _ => green_firsts_2_eq k) ?_
      rw [W_add i0 i1 (by omega)]
      exact hk (t, H1) (hS.eq (sel_skip i0 hf))
  · rintro ⟨t, H1⟩ hS
    exact ev_eq (fun _ k _ => green_firsts_1_eq k) (ev_neg (by omega) (ev_ret (show Sep H H1 [own reI t (sel (Fst p) 0 p.length)] by simpa using hS)))
end Go.Ab

/- Green's relations: ideals, classes. What they answer. No condition but that a valid table comes in. -/
set_option linter.unusedVariables false
set_option linter.unusedSimpArgs false
namespace Go.Ab
open Go
theorem nilRow {H : AH} : (reL reB).on H (.sl ⟨none, 0⟩) [] [] := ⟨⟨none, 0⟩, rfl, rfl, .inl ⟨rfl, rfl, rfl⟩⟩
theorem green_right_ev {s : Sl} {t : List (List Int)} {H : AH} {lo : Nat} (hlo : lo ≤ H.length) (hv : Sq t) (ht : Tab H s t) : Ev (fun ρ k κ => green_right k s lo H κ) (fun v H' => Sep H H' [own (reL reB) v (btab t.length t.length (JR t))]) := by
  have hn := hv.le
  have hp := hv.pos
  refine ev_eq (fun _ k _ => green_right_eq k) ?_
  rw [ht.len]
  refine sp_mks (x := []) (Sep.nil H) (reL reB) (fun _ => nilRow) (by omega) (by omega) fun u H2 hS => ?_
  refine ev_loop (α := AH) (g := fun y H ρ k κ => green_right_1 k s u (t.length : Int) y lo H κ) (t.length : Int) (fun y H' => ∃ T : List (List Bool), Sep H H' [own (reL reB) u T] ∧ T.length = t.length ∧ ∀ z : Int, 0 ≤ z → z < y → (rdOf [] T z).length = t.length ∧ ∀ x : Int, 0 ≤ x → x < (t.length : Int) → (rdOf false (rdOf [] T z) x = true ↔ JR t z x)) ?_ ?_ 0 H2 (by omega) (by omega) ⟨_, hS, by simp, fun z a b => by omega⟩
  · rintro y H1 y0 y1 ⟨T, hS, hT, hz⟩ hk
    have hT' : y < (T.length : Int) := by omega
    refine ev_eq (fun _ k _ => green_right_1_eq k) (ev_pos y1 ?_)
    rw [ht.len]
    refine sp_mks (x := false) hS reB (fun _ => ⟨rfl, rfl⟩) (by omega) (by omega) fun w H2 hS => sp_putE hS.eltL.swap hlo y0 hT' fun H3 hS => sp_openS hS y0 hT' fun w hS => ?_
    refine sp_put (x := true) (hS.pull 1) hlo (fun _ => ⟨rfl, rfl⟩) y0 (by simp; omega) fun H4 hS => ?_
    have hS := (hS.pull 1).closeS
    refine ev_loop (α := AH) (g := fun i H ρ k κ => green_right_2 k s u y (t.length : Int) y (t.length : Int) i lo H κ) (t.length : Int) (fun i H' => ∃ row : List Bool, Sep H H' [own (reL reB) u (T.set y.toNat row)] ∧ row.length = t.length ∧ ∀ x : Int, 0 ≤ x → x < (t.length : Int) → (rdOf false row x = true ↔ x = y ∨ ∃ i' : Int, 0 ≤ i' ∧ i' < i ∧ x = M t y i')) ?_ ?_ 0 H4 (by omega) (by omega) ⟨_, hS, by simp, fun x a b => ?_⟩
    · rintro i H1 i0 i1 ⟨row, hS, hr, hx⟩ hk
      have m0 := hv.lo y i y0 y1 i0 i1
      have m1 := hv.hi y i y0 y1 i0 i1
      have hrow := hv.row y y0 y1
      refine ev_eq (fun _ k _ => green_right_2_eq k) (ev_pos i1 (sp_openS hS y0 hT' fun w hS => ev_rdM (ht.le hS.le) y0 y1 i0 (by omega) (sp_put (x := true) (hS.pull 1) hlo (fun _ => ⟨rfl, rfl⟩) m0 (by omega) fun H2 hS => ?_)))
      rw [W_add i0 i1 (by omega)]
      refine hk H2 ⟨_, (hS.pull 1).closeS, by simpa using hr, fun x a b => ?_⟩
      rw [rb_set m0 (by omega) a]
      by_cases hxm : x = M t y i
      · rw [if_pos hxm]; exact ⟨fun _ => .inr ⟨i, i0, by omega, hxm⟩, fun _ => rfl⟩
      · rw [if_neg hxm, hx x a b]
        refine ⟨fun h => h.imp id fun ⟨i', p, q, r⟩ => ⟨i', p, by omega, r⟩, fun h => h.imp id fun ⟨i', p, q, r⟩ => ⟨i', p, ?_, r⟩⟩
        by_cases hi : i' = i
        · rw [hi] at r; exact absurd r hxm
        · omega
    · rintro H1 ⟨row, hS, hr, hx⟩
      refine ev_eq (fun _ k _ => green_right_2_eq k) (ev_neg (by omega) ?_)
      rw [W_add y0 y1 (by omega)]
      refine hk H1 ⟨_, hS, by simpa using hT, fun z a b => ?_⟩
      rw [rdOf_set [] y0 hT' a]
      by_cases hzy : z = y
      · rw [if_pos hzy, hzy]; exact ⟨hr, hx⟩
      · rw [if_neg hzy]; exact hz z a (by omega)
    · rw [rb_set y0 (by simp; omega) a]
      by_cases hxy : x = y
      · rw [if_pos hxy]; exact ⟨fun _ => .inl hxy, fun _ => rfl⟩
      · rw [if_neg hxy, rb_rep a (by omega)]
        refine ⟨fun h => by (cases h), fun h => ?_⟩
        rcases h with h | ⟨i', p, q, _⟩
        · exact absurd h hxy
        · omega
  · rintro H1 ⟨T, hS, hT, hz⟩
    exact ev_eq (fun _ k _ => green_right_1_eq k) (ev_neg (by omega) (ev_ret (hS.eq (btab_eq hT hz))))
theorem green_left_ev {s : Sl} {t : List (List Int)} {H : AH} {lo : Nat} (hlo : lo ≤ H.length) (hv : Sq t) (ht : Tab H s t) : Ev (fun ρ k κ => green_left k s lo H κ) (fun v H' => Sep H H' [own (reL reB) v (btab t.length t.length (JL t))]) := by
  have hn := hv.le
  have hp := hv.pos
  refine ev_eq (fun _ k _ => green_left_eq k) ?_
  rw [ht.len]
  refine sp_mks (x := []) (Sep.nil H) (reL reB) (fun _ => nilRow) (by omega) (by omega) fun u H2 hS => ?_
  refine ev_loop (α := AH) (g := fun y H ρ k κ => green_left_1 k s u (t.length : Int) y lo H κ) (t.length : Int) (fun y H' => ∃ T : List (List Bool), Sep H H' [own (reL reB) u T] ∧ T.length = t.length ∧ ∀ z : Int, 0 ≤ z → z < y → (rdOf [] T z).length = t.length ∧ ∀ x : Int, 0 ≤ x → x < (t.length : Int) → (rdOf false (rdOf [] T z) x = true ↔ JL t z x)) ?_ ?_ 0 H2 (by omega) (by omega) ⟨_, hS, by simp, fun z a b => by omega⟩
  · rintro y H1 y0 y1 ⟨T, hS, hT, hz⟩ hk
    have hT' : y < (T.length : Int) := by omega
    refine ev_eq (fun _ k _ => green_left_1_eq k) (ev_pos y1 ?_)
    rw [ht.len]
    refine sp_mks (x := false) hS reB (fun _ => ⟨rfl, rfl⟩) (by omega) (by omega) fun w H2 hS => sp_putE hS.eltL.swap hlo y0 hT' fun H3 hS => sp_openS hS y0 hT' fun w hS => ?_
    refine sp_put (x := true) (hS.pull 1) hlo (fun _ => ⟨rfl, rfl⟩) y0 (by simp; omega) fun H4 hS => ?_
    have hS := (hS.pull 1).closeS
    refine ev_loop (α := AH) (g := fun i H ρ k κ => green_left_2 k s u y (t.length : Int) y (t.length : Int) i lo H κ) (t.length : Int) (fun i H' => ∃ row : List Bool, Sep H H' [own (reL reB) u (T.set y.toNat row)] ∧ row.length = t.length ∧ ∀ x : Int, 0 ≤ x → x < (t.length : Int) → (rdOf false row x = true ↔ x = y ∨ ∃ i' : Int, 0 ≤ i' ∧ i' < i ∧ x = M t i' y)) ?_ ?_ 0 H4 (by omega) (by omega) ⟨_, hS, by simp, fun x a b => ?_⟩
    · rintro i H1 i0 i1 ⟨row, hS, hr, hx⟩ hk
      have m0 := hv.lo i y i0 i1 y0 y1
      have m1 := hv.hi i y i0 i1 y0 y1
      have hrow := hv.row i i0 i1
      refine ev_eq (fun _ k _ => green_left_2_eq k) (ev_pos i1 (sp_openS hS y0 hT' fun w hS => ev_rdM (ht.le hS.le) i0 i1 y0 (by omega) (sp_put (x := true) (hS.pull 1) hlo (fun _ => ⟨rfl, rfl⟩) m0 (by omega) fun H2 hS => ?_)))
      rw [W_add i0 i1 (by omega)]
      refine hk H2 ⟨_, (hS.pull 1).closeS, by simpa using hr, fun x a b => ?_⟩
      rw [rb_set m0 (by omega) a]
      by_cases hxm : x = M t i y
      · rw [if_pos hxm]; exact ⟨fun _ => .inr ⟨i, i0, by omega, hxm⟩, fun _ => rfl⟩
      · rw [if_neg hxm, hx x a b]
        refine ⟨fun h => h.imp id fun ⟨i', p, q, r⟩ => ⟨i', p, by omega, r⟩, fun h => h.imp id fun ⟨i', p, q, r⟩ => ⟨i', p, ?_, r⟩⟩
        by_cases hi : i' = i
        · rw [hi] at r; exact absurd r hxm
        · omega
    · rintro H1 ⟨row, hS, hr, hx⟩
      refine ev_eq (fun _ k _ => green_left_2_eq k) (ev_neg (by omega) ?_)
      rw [W_add y0 y1 (by omega)]
      refine hk H1 ⟨_, hS, by simpa using hT, fun z a b => ?_⟩
      rw [rdOf_set [] y0 hT' a]
      by_cases hzy : z = y
      · rw [if_pos hzy, hzy]; exact ⟨hr, hx⟩
      · rw [if_neg hzy]; exact hz z a (by omega)
    · rw [rb_set y0 (by simp; omega) a]
      by_cases hxy : x = y
      · rw [if_pos hxy]; exact ⟨fun _ => .inl hxy, fun _ => rfl⟩
      · rw [if_neg hxy, rb_rep a (by omega)]
        refine ⟨fun h => by (cases h), fun h => ?_⟩
        rcases h with h | ⟨i', p, q, _⟩
        · exact absurd h hxy
        · omega
  · rintro H1 ⟨T, hS, hT, hz⟩
    exact ev_eq (fun _ k _ => green_left_1_eq k) (ev_neg (by omega) (ev_ret (hS.eq (btab_eq hT hz))))
open Classical in
theorem green_two_ev {s : Sl} {t : List (List Int)} {H : AH} {lo : Nat} (hlo : lo ≤ H.length) (hv : Sq t) (ht : Tab H s t) : Ev (fun ρ k κ => green_two k s lo H κ) (fun v H' => Sep H H' [own (reL reB) v (btab t.length t.length (JJ t))]) := by
  have hn := hv.le
  have hp := hv.pos
  refine ev_eq (fun _ k _ => green_two_eq k) (ev_call (green_right_ev (Nat.le_refl _) hv ht) fun r H2 hSr => ev_call (green_left_ev (Nat.le_refl _) hv (ht.le hSr.le)) fun l Hb hSl => ?_)
  have hb : Le H Hb := hSr.le.trans hSl.le
  have hr : TabB Hb r (btab t.length t.length (JR t)) := hSr.tabB.le hSl.le
  have hl : TabB Hb l (btab t.length t.length (JL t)) := hSl.tabB
  have hlb : lo ≤ Hb.length := by have := hb.len; omega
  have rl := btab_len t.length t.length (JR t)
  have ll := btab_len t.length t.length (JL t)
  rw [ht.len]
  refine sp_mks (x := []) (Sep.nil Hb) (reL reB) (fun _ => nilRow) (by omega) (by omega) fun u H2 hS => ?_
  refine ev_loop (α := AH) (g := fun y H ρ k κ => green_two_1 k s r l u (t.length : Int) y lo H κ) (t.length : Int) (fun y H' => ∃ T : List (List Bool), Sep Hb H' [own (reL reB) u T] ∧ T.length = t.length ∧ ∀ z : Int, 0 ≤ z → z < y → (rdOf [] T z).length = t.length ∧ ∀ x : Int, 0 ≤ x → x < (t.length : Int) → (rdOf false (rdOf [] T z) x = true ↔ JJ t z x)) ?_ ?_ 0 H2 (by omega) (by omega) ⟨_, hS, by simp, fun z a b => by omega⟩
  · rintro y H1 y0 y1 ⟨T, hS, hT, hz⟩ hk
    have hT' : y < (T.length : Int) := by omega
    refine ev_eq (fun _ k _ => green_two_1_eq k) (ev_pos y1 ?_)
    rw [ht.len]
    refine sp_mks (x := false) hS reB (fun _ => ⟨rfl, rfl⟩) (by omega) (by omega) fun w H2 hS => sp_putE hS.eltL.swap hlb y0 hT' fun H3 hS => sp_rdSB hl hS.le y0 (by omega) fun ly hly => ?_
    have lyl : (rdOf [] (btab t.length t.length (JL t)) y).length = t.length := btab_rlen y0 y1
    rw [hly.len, lyl]
    refine ev_loop (α := AH) (g := fun z H ρ k κ => green_two_2 k s r l u y (t.length : Int) y ly (t.length : Int) z lo H κ) (t.length : Int) (fun z H' => ∃ row : List Bool, Sep Hb H' [own (reL reB) u (T.set y.toNat row)] ∧ row.length = t.length ∧ ∀ x : Int, 0 ≤ x → x < (t.length : Int) → (rdOf false row x = true ↔ ∃ z' : Int, 0 ≤ z' ∧ z' < z ∧ JL t y z' ∧ JR t z' x)) ?_ ?_ 0 H3 (by omega) (by omega) ⟨_, hS, by simp, fun x a b => ?_⟩
    · rintro z H1 z0 z1 ⟨row, hS, hr', hx⟩ hk
      have next : ∀ H1, (∃ row : List Bool, Sep Hb H1 [own (reL reB) u (T.set y.toNat row)] ∧ row.length = t.length ∧ ∀ x : Int, 0 ≤ x → x < (t.length : Int) → (rdOf false row x = true ↔ ∃ z' : Int, 0 ≤ z' ∧ z' < z + 1 ∧ JL t y z' ∧ JR t z' x)) → Ev (fun ρ k κ => green_two_4 k s r l u y (t.length : Int) y ly (t.length : Int) z lo H1 κ) (fun v H' => Sep H H' [own (reL reB) v (btab t.length t.length (JJ t))]) := fun H1 h => by
        refine ev_eq (fun _ k _ => green_two_4_eq k) ?_
        rw [W_add z0 z1 (by omega)]
        exact hk H1 h
      refine ev_eq (fun _ k _ => green_two_2_eq k) (ev_pos z1 (ev_rdB (hly.le hS.le) z0 (by omega) ?_))
      rw [btab_at y0 y1 z0 z1]
      refine ev_nif (fun h => next H1 ⟨row, hS, hr', fun x a b => ?_⟩) (fun h => sp_rdSB hr hS.le z0 (by omega) fun rz hrz => ?_)
      · rw [hx x a b]
        refine ⟨fun ⟨z', p, q, r⟩ => ⟨z', p, by omega, r⟩, fun ⟨z', p, q, r⟩ => ⟨z', p, ?_, r⟩⟩
        by_cases hzz : z' = z
        · rw [hzz] at r; exact absurd r.1 h
        · omega
      · have rzl : (rdOf [] (btab t.length t.length (JR t)) z).length = t.length := btab_rlen z0 z1
        rw [hrz.len, rzl]
        refine ev_loop (α := AH) (g := fun i H ρ k κ => green_two_3 k s r l u y (t.length : Int) y ly (t.length : Int) z rz (t.length : Int) i lo H κ) (t.length : Int) (fun i H' => ∃ row : List Bool, Sep Hb H' [own (reL reB) u (T.set y.toNat row)] ∧ row.length = t.length ∧ ∀ x : Int, 0 ≤ x → x < (t.length : Int) → (rdOf false row x = true ↔ (∃ z' : Int, 0 ≤ z' ∧ z' < z ∧ JL t y z' ∧ JR t z' x) ∨ (x < i ∧ JR t z x))) ?_ ?_ 0 H1 (by omega) (by omega) ⟨row, hS, hr', fun x a b => (hx x a b).trans ⟨.inl, fun h => h.elim id fun ⟨p, _⟩ => by omega⟩⟩
        · rintro i H1 i0 i1 ⟨row, hS, hr', hx⟩ hk
          refine ev_eq (fun _ k _ => green_two_3_eq k) (ev_pos i1 (ev_rdB (hrz.le hS.le) i0 (by omega) ?_))
          rw [btab_at z0 z1 i0 i1]
          refine sp_openS hS y0 hT' fun w hSo => ?_
          have hSo2 := (hSo.pull 1 |>.pull 1).closeS
          refine sp_openS hSo2 y0 hT' fun w2 hSo3 => ?_
          -- both reads give the same row
          have hw : w = w2 := by
            obtain ⟨f, hf⟩ := hSo.head
            obtain ⟨g, hg⟩ := hSo3.head
            obtain ⟨_, b1, us1, vs1, vs2, ws1, xs1, x1, xs2, g1, g2, e1, e2, e3, e4, e5, e6, e7⟩ := hf
            obtain ⟨_, b2, us2, ws1', ws2', ws2, ys1, y1', ys2, k1, k2, d1, d2, d3, d4, d5, d6, d7⟩ := hg
            rw [e1] at d1
            have : b1 = b2 ∧ us1.length = us2.length := by simpa using d1
            obtain ⟨rfl, hu⟩ := this
            rw [e2] at d2
            have d2 : us1 ++ (vs1 ++ AV.sl w :: vs2 ++ ws1) = us2 ++ (ws1' ++ AV.sl w2 :: ws2' ++ ws2) := by simpa using d2
            have l1 := e5.len
            have l2 := d5.len
            have a1 : (us1 ++ (vs1 ++ AV.sl w :: vs2 ++ ws1))[us1.length + y.toNat]? = some (AV.sl w) := by rw [List.getElem?_append_right (by omega)]; simp; rw [List.getElem?_append_right (by omega)]; simp [l1, e4]
            have a2 : (us2 ++ (ws1' ++ AV.sl w2 :: ws2' ++ ws2))[us1.length + y.toNat]? = some (AV.sl w2) := by rw [hu, List.getElem?_append_right (by omega)]; simp; rw [List.getElem?_append_right (by omega)]; simp [l2, d4]
            rw [d2, a2] at a1
            simpa [eq_comm] using a1
          subst hw
          refine ev_rdB (hSo3.pull 1).rowB i0 (by omega) (ev_orI (c := rdOf false row i || decide (JR t z i)) (fun hh => ev_ret ⟨by rw [hh]; rfl, rfl⟩) (fun hh => by rw [hh]; rfl) (sp_put (hSo3.pull 1) hlb (fun _ => ⟨rfl, rfl⟩) i0 (by omega) fun H2 hS => ?_))
          rw [W_add i0 i1 (by omega)]
          refine hk H2 ⟨_, (hS.pull 1).closeS, by simpa using hr', fun x a b => ?_⟩
          rw [rb_set i0 (by omega) a]
          by_cases hxi : x = i
          · rw [if_pos hxi, hxi, Bool.or_eq_true, hx i i0 i1, decide_eq_true_iff]
            exact ⟨fun h => h.elim (fun h => h.imp id fun ⟨p, q⟩ => ⟨by omega, q⟩) fun h => .inr ⟨by omega, h⟩, fun h => h.elim (fun h => .inl (.inl h)) fun h => .inr h.2⟩
          · rw [if_neg hxi, hx x a b]
            exact ⟨fun h => h.imp id fun ⟨p, q⟩ => ⟨by omega, q⟩, fun h => h.imp id fun ⟨p, q⟩ => ⟨by omega, q⟩⟩
        · rintro H1 ⟨row, hS, hr', hx⟩
          refine ev_eq (fun _ k _ => green_two_3_eq k) (ev_neg (by omega) (next H1 ⟨row, hS, hr', fun x a b => ?_⟩))
          rw [hx x a b]
          constructor
          · rintro (⟨z', p, q, r⟩ | ⟨p, q⟩)
            · exact ⟨z', p, by omega, r⟩
            · exact ⟨z, z0, by omega, h, q⟩
          · rintro ⟨z', p, q, r⟩
            by_cases hzz : z' = z
            · rw [hzz] at r; exact .inr ⟨b, r.2⟩
            · exact .inl ⟨z', p, by omega, r⟩
    · rintro H1 ⟨row, hS, hr', hx⟩
      refine ev_eq (fun _ k _ => green_two_2_eq k) (ev_neg (by omega) ?_)
      rw [W_add y0 y1 (by omega)]
      refine hk H1 ⟨_, hS, by simpa using hT, fun z a b => ?_⟩
      rw [rdOf_set [] y0 hT' a]
      by_cases hzy : z = y
      · rw [if_pos hzy, hzy]; exact ⟨hr', hx⟩
      · rw [if_neg hzy]; exact hz z a (by omega)
    · rw [rb_rep a (by omega)]
      refine ⟨fun h => by (cases h), fun ⟨z', p, q, _⟩ => by omega⟩
  · rintro H1 ⟨T, hS, hT, hz⟩
    exact ev_eq (fun _ k _ => green_two_1_eq k) (ev_neg (by omega) (ev_ret ((hS.base hb).eq (btab_eq hT hz))))

end Go.Ab

/- Green's relations: the classes. What they answer. No condition but that a table comes in. -/
set_option linter.unusedVariables false
set_option linter.unusedSimpArgs false
namespace Go.Ab
open Go
/-- The classes that were numbered before x, n of them. -/
structure MuI (N : Nat) (E : Int → Int → Prop) (o : List Int) (x n : Int) : Prop where
  len : o.length = N
  n0 : 0 ≤ n ∧ n ≤ x
  lt : ∀ j : Int, 0 ≤ j → j < N → -1 ≤ rd o j ∧ rd o j < n
  done : ∀ j : Int, 0 ≤ j → j < N → (0 ≤ rd o j ↔ ∃ x' : Int, 0 ≤ x' ∧ x' < x ∧ E x' j)
  eqv : ∀ j j' : Int, 0 ≤ j → j < N → 0 ≤ j' → j' < N → 0 ≤ rd o j → 0 ≤ rd o j' → (rd o j = rd o j' ↔ E j j')
  all : ∀ c : Int, 0 ≤ c → c < n → ∃ x' : Int, 0 ≤ x' ∧ x' < x ∧ rd o x' = c
  can : ∀ j : Int, 0 ≤ j → j < N → ∀ c : Int, 0 ≤ c → c < rd o j → ∃ j' : Int, 0 ≤ j' ∧ j' < j ∧ rd o j' = c
theorem MuI.skip {N : Nat} {E : Int → Int → Prop} (hE : Eqv N E) {o : List Int} {x n : Int} (h : MuI N E o x n) (x0 : 0 ≤ x) (x1 : x < N) (hx : 0 ≤ rd o x) : MuI N E o (x + 1) n := by
  have := h.n0
  refine ⟨h.len, by omega, h.lt, fun j a b => (h.done j a b).trans ⟨fun ⟨x', p, q, r⟩ => ⟨x', p, by omega, r⟩, fun ⟨x', p, q, r⟩ => ?_⟩, h.eqv, fun c a b => ?_, h.can⟩
  · by_cases hxx : x' = x
    · obtain ⟨y, y0, y1, y2⟩ := (h.done x x0 x1).1 hx
      exact ⟨y, y0, y1, hE.trans y x j y0 (by omega) x0 x1 a b y2 (hxx ▸ r)⟩
    · exact ⟨x', p, by omega, r⟩
  · obtain ⟨x', p, q, r⟩ := h.all c a b
    exact ⟨x', p, by omega, r⟩
theorem MuI.new {N : Nat} {E : Int → Int → Prop} (hE : Eqv N E) {o o' : List Int} {x n : Int} (h : MuI N E o x n) (x0 : 0 ≤ x) (x1 : x < N) (hx : ¬ 0 ≤ rd o x) (hl : o'.length = N) (ho : ∀ j : Int, 0 ≤ j → j < N → (x ≤ j ∧ E x j ∧ rd o' j = n) ∨ (¬ (x ≤ j ∧ E x j) ∧ rd o' j = rd o j)) : MuI N E o' (x + 1) (n + 1) := by
  have hn := h.n0
  have hno : ∀ j : Int, 0 ≤ j → j < N → E x j → ¬ 0 ≤ rd o j := fun j a b e hj => by
    obtain ⟨y, y0, y1, y2⟩ := (h.done j a b).1 hj
    exact hx ((h.done x x0 x1).2 ⟨y, y0, y1, hE.trans y j x y0 (by omega) a b x0 x1 y2 (hE.symm x j x0 x1 a b e)⟩)
  have hlt : ∀ j : Int, 0 ≤ j → j < N → E x j → x ≤ j := fun j a b e => Classical.byContradiction fun hn => hno j a b e ((h.done j a b).2 ⟨j, a, by omega, hE.refl j a b⟩)
  have ho' : ∀ j : Int, 0 ≤ j → j < N → (E x j ∧ rd o' j = n) ∨ (¬ E x j ∧ rd o' j = rd o j) := fun j a b => by
    rcases ho j a b with ⟨p, q, r⟩ | ⟨p, q⟩
    · exact .inl ⟨q, r⟩
    · exact .inr ⟨fun e => p ⟨hlt j a b e, e⟩, q⟩
  refine ⟨hl, by omega, fun j a b => ?_, fun j a b => ?_, fun j j' a b a' b' c d => ?_, fun c a b => ?_, fun j a b c c0 c1 => ?_⟩
  · have := h.lt j a b
    rcases ho' j a b with ⟨_, e⟩ | ⟨_, e⟩ <;> omega
  · rcases ho' j a b with ⟨e, e'⟩ | ⟨e, e'⟩
    · exact ⟨fun _ => ⟨x, x0, by omega, e⟩, fun _ => by omega⟩
    · rw [e', h.done j a b]
      refine ⟨fun ⟨x', p, q, r⟩ => ⟨x', p, by omega, r⟩, fun ⟨x', p, q, r⟩ => ⟨x', p, ?_, r⟩⟩
      by_cases hxx : x' = x
      · exact absurd (hxx ▸ r) e
      · omega
  · rcases ho' j a b with ⟨e1, e2⟩ | ⟨e1, e2⟩ <;> rcases ho' j' a' b' with ⟨f1, f2⟩ | ⟨f1, f2⟩
    · exact ⟨fun _ => hE.trans j x j' a b x0 x1 a' b' (hE.symm x j x0 x1 a b e1) f1, fun _ => by omega⟩
    · have := h.lt j' a' b'
      exact ⟨fun _ => by omega, fun e => absurd (hE.trans x j j' x0 x1 a b a' b' e1 e) f1⟩
    · have := h.lt j a b
      exact ⟨fun _ => by omega, fun e => absurd (hE.trans x j' j x0 x1 a' b' a b f1 (hE.symm j j' a b a' b' e)) e1⟩
    · rw [e2] at c ⊢
      rw [f2] at d ⊢
      exact h.eqv j j' a b a' b' c d
  · by_cases hc : c = n
    · rcases ho' x x0 x1 with ⟨_, e⟩ | ⟨e, _⟩
      · exact ⟨x, x0, by omega, by omega⟩
      · exact absurd (hE.refl x x0 x1) e
    · obtain ⟨x', p, q, r⟩ := h.all c a (by omega)
      rcases ho' x' p (by omega) with ⟨e, _⟩ | ⟨_, e⟩
      · exact absurd (hlt x' p (by omega) e) (by omega)
      · exact ⟨x', p, by omega, by omega⟩
  · rcases ho' j a b with ⟨e, e'⟩ | ⟨e, e'⟩
    · obtain ⟨x', p, q, r⟩ := h.all c c0 (by omega)
      have := hlt j a b e
      rcases ho' x' p (by omega) with ⟨f, _⟩ | ⟨_, f⟩
      · exact absurd (hlt x' p (by omega) f) (by omega)
      · exact ⟨x', p, by omega, by omega⟩
    · rw [e'] at c1
      obtain ⟨j', p, q, r⟩ := h.can j a b c c0 c1
      rcases ho' j' p (by omega) with ⟨f, _⟩ | ⟨_, f⟩
      · exact absurd (show 0 ≤ rd o j' by omega) (hno j' p (by omega) f)
      · exact ⟨j', p, q, by omega⟩
theorem MuI.end' {N : Nat} {E : Int → Int → Prop} (hE : Eqv N E) {o : List Int} {n : Int} (h : MuI N E o N n) : IsCl N E o := by
  have hl := h.len
  have h0 : ∀ j : Int, 0 ≤ j → j < N → 0 ≤ rd o j := fun j a b => (h.done j a b).2 ⟨j, a, b, hE.refl j a b⟩
  exact ⟨h.len, fun x y a b c d => h.eqv x y a b c d (h0 x a b) (h0 y c d), fun i a b => ⟨h0 i a (by omega), h.can i a (by omega)⟩⟩
open Classical in
theorem green_mutual_ev {s : Sl} {N : Nat} {P : Int → Int → Prop} {H : AH} {lo : Nat} (hlo : lo ≤ H.length) (hN : N ≤ 4096) (hP : Pre N P) (hs : TabB H s (btab N N P)) : Ev (fun ρ k κ => green_mutual k s lo H κ) (fun v H' => Sep H H' [own reI v (clN N (Mu P))]) := by
  have hE := hP.mu
  have hlen := btab_len N N P
  refine ev_eq (fun _ k _ => green_mutual_eq k) ?_
  rw [hs.len, hlen]
  refine sp_mks (x := (0 : Int)) (Sep.nil H) reI (fun _ => ⟨rfl, rfl⟩) (by omega) (by omega) fun u H2 hS => ?_
  rw [hS.len]
  simp only [Int.toNat_natCast, List.length_replicate] at hS ⊢
  refine ev_loop (α := AH) (g := fun i H ρ k κ => green_mutual_1 k s u (N : Int) i lo H κ) (N : Int) (fun i H' => ∃ o : List Int, Sep H H' [own reI u o] ∧ o.length = N ∧ ∀ j : Int, 0 ≤ j → j < i → rd o j = -1) ?_ ?_ 0 H2 (by omega) (by omega) ⟨_, hS, by simp, fun j a b => by omega⟩
  · rintro i H1 i0 i1 ⟨o, hS, ho, hv⟩ hk
    refine ev_eq (fun _ k _ => green_mutual_1_eq k) (ev_pos i1 (sp_put (x := (-1 : Int)) hS hlo (fun _ => ⟨rfl, rfl⟩) i0 (by omega) fun H2 hS => ?_))
    rw [W_add i0 i1 (by omega)]
    refine hk H2 ⟨_, hS, by simpa using ho, fun j a b => ?_⟩
    rw [rd_set i0 (by omega) a]
    by_cases hj : j = i
    · rw [if_pos hj]
    · rw [if_neg hj]; exact hv j a (by omega)
  · rintro H1 ⟨o, hS, ho, hv⟩
    refine ev_eq (fun _ k _ => green_mutual_1_eq k) (ev_neg (by omega) ?_)
    rw [hS.len, ho]
    have next : ∀ {x : Int}, 0 ≤ x → x < N → ∀ (n : Int) (H1 : AH), Ev (fun ρ k κ => green_mutual_2 k s u n (N : Int) (x + 1) lo H1 κ) (fun v H' => Sep H H' [own reI v (clN N (Mu P))]) → Ev (fun ρ k κ => green_mutual_5 k s u n (N : Int) x lo H1 κ) (fun v H' => Sep H H' [own reI v (clN N (Mu P))]) := fun x0 x1 n H1 h => by
      refine ev_eq (fun _ k _ => green_mutual_5_eq k) ?_
      rw [W_add x0 x1 (by omega)]; exact h
    refine ev_loop (α := Int × AH) (g := fun x a ρ k κ => green_mutual_2 k s u a.1 (N : Int) x lo a.2 κ) (N : Int) (fun x a => ∃ o : List Int, Sep H a.2 [own reI u o] ∧ MuI N (Mu P) o x a.1) ?_ ?_ 0 (0, H1) (by omega) (by omega) ⟨o, hS, ho, by simp, fun j a b => ?_, fun j a b => ?_, fun j j' a b c d e f => ?_, fun c a b => by simp at b; omega, fun j a b c c0 c1 => ?_⟩
    · rintro x ⟨n, H1⟩ x0 x1 ⟨o, hS, hM⟩ hk
      simp only at hS hM
      have ho := hM.len
      have hn := hM.n0
      refine ev_eq (fun _ k _ => green_mutual_2_eq k) (ev_pos x1 (ev_rdI hS.row x0 (by omega) (ev_if (fun h => next x0 x1 n H1 (hk (n, H1) ⟨o, hS, hM.skip hE x0 x1 h⟩)) (fun h => ?_))))
      refine ev_loop (α := AH) (g := fun y H ρ k κ => green_mutual_3 k s u n x y (N : Int) x lo H κ) (N : Int) (fun y H' => x ≤ y ∧ ∃ o' : List Int, Sep H H' [own reI u o'] ∧ o'.length = N ∧ ∀ j : Int, 0 ≤ j → j < N → (x ≤ j ∧ j < y ∧ Mu P x j ∧ rd o' j = n) ∨ (¬ (x ≤ j ∧ j < y ∧ Mu P x j) ∧ rd o' j = rd o j)) ?_ ?_ x H1 x0 (by omega) ⟨Int.le_refl x, o, hS, ho, fun j a b => .inr ⟨by omega, rfl⟩⟩
      · rintro y H1 y0 y1 ⟨hxy, o', hS, ho', hj⟩ hk
        refine ev_eq (fun _ k _ => green_mutual_3_eq k) (ev_pos (by rw [hS.len]; omega) (sp_rdSB hs hS.le x0 (by omega) fun rx hrx => ev_rdB (hrx.le hS.le) y0 (by rw [btab_rlen x0 x1]; omega) ?_))
        rw [btab_at x0 x1 y0 y1]
        refine ev_andP (c := P y x) (fun _ => sp_rdSB hs hS.le y0 (by omega) fun ry hry => ev_rdB (hry.le hS.le) x0 (by rw [btab_rlen y0 y1]; omega) (ev_ret ⟨by rw [btab_at y0 y1 x0 x1], rfl⟩)) (ev_if (fun hm => ?_) (fun hm => ?_))
        · refine sp_put (x := n) hS hlo (fun _ => ⟨rfl, rfl⟩) y0 (by omega) fun H2 hS => ev_eq (fun _ k _ => green_mutual_4_eq k) ?_
          rw [W_add y0 y1 (by omega)]
          refine hk H2 ⟨by omega, _, hS, by simpa using ho', fun j a b => ?_⟩
          rw [rd_set y0 (by omega) a]
          by_cases hjy : j = y
          · rw [if_pos hjy, hjy]; exact .inl ⟨hxy, by omega, hm, rfl⟩
          · rw [if_neg hjy]
            rcases hj j a b with ⟨p, q, r⟩ | ⟨p, q⟩
            · exact .inl ⟨p, by omega, r⟩
            · exact .inr ⟨fun ⟨u, v, w⟩ => p ⟨u, by omega, w⟩, q⟩
        · refine ev_eq (fun _ k _ => green_mutual_4_eq k) ?_
          rw [W_add y0 y1 (by omega)]
          refine hk H1 ⟨by omega, _, hS, ho', fun j a b => ?_⟩
          rcases hj j a b with ⟨p, q, r⟩ | ⟨p, q⟩
          · exact .inl ⟨p, by omega, r⟩
          · refine .inr ⟨fun ⟨u, v, w⟩ => p ⟨u, ?_, w⟩, q⟩
            by_cases hjy : j = y
            · rw [hjy] at w; exact absurd w hm
            · omega
      · rintro H1 ⟨_, o', hS, ho', hj⟩
        refine ev_eq (fun _ k _ => green_mutual_3_eq k) (ev_neg (by rw [hS.len]; omega) ?_)
        rw [W_in (i := n + 1) (by omega) (by omega)]
        refine next x0 x1 _ _ (hk (n + 1, H1) ⟨o', hS, hM.new hE x0 x1 h ho' fun j a b => ?_⟩)
        rcases hj j a b with ⟨p, q, r⟩ | ⟨p, q⟩
        · exact .inl ⟨p, r⟩
        · exact .inr ⟨fun ⟨u, w⟩ => p ⟨u, b, w⟩, q⟩
    · rintro ⟨n, H1⟩ ⟨o, hS, hM⟩
      exact ev_eq (fun _ k _ => green_mutual_2_eq k) (ev_neg (by omega) (ev_ret (hS.eq (hM.end' hE).eq_clN)))
    · rw [hv j a b]; simp
    · rw [hv j a b]
      exact ⟨fun h => by omega, fun ⟨x', p, q, _⟩ => by omega⟩
    · rw [hv j a b] at e; omega
    · rw [hv j a b] at c1; omega
theorem ev_sssss {A : Type} {Q : A → AH → Prop} {H : AH} {p : Pt} {a b c d e : Sl} {K : (ρ : Type) → Nat → (A → AH → Option ρ) → Sl → Sl → Sl → Sl → Sl → Option ρ} (hp : At1 H p [.sl a, .sl b, .sl c, .sl d, .sl e])
    (hK : Ev (fun ρ n κ => K ρ n κ a b c d e) Q) : Ev (fun ρ n κ => ldA_sssss H p (K ρ n κ)) Q := by
  unfold ldA_sssss
  refine ev_ldnB (n := 5) hp rfl ?_
  simpa [castLfs, castLf, asS] using hK
/-- What Classes answers of a valid table. -/
noncomputable abbrev OwnG (t : List (List Int)) (v : Sl × Sl × Sl × Sl × Sl) : List Asr := [own reI v.1 (gR t), own reI v.2.1 (gL t), own reI v.2.2.1 (gJ t), own reI v.2.2.2.1 (gH t), own (reL reB) v.2.2.2.2 (gB t)]
open Classical in
theorem green_classes_ev {s : Sl} {t : List (List Int)} {H : AH} {lo : Nat} (hlo : lo ≤ H.length) (hv : Va t) (ht : Tab H s t) : Ev (fun ρ k κ => green_classes k s lo H κ) (fun v H' => Sep H H' (OwnG t v)) := by
  have hn := hv.le
  have hp := hv.pos
  have hsq := hv.toSq
  have cR := gR_cl hv
  have cL := gL_cl hv
  have cJ := gJ_cl hv
  have lR := cR.len
  have lL := cL.len
  have lJ := cJ.len
  refine ev_eq (fun _ k _ => green_classes_eq k) (sp_alc (Sep.nil H) fun p1 H2 hS => ?_)
  refine ev_call (green_two_ev (Nat.le_refl _) hsq (ht.le hS.le)) fun v3 H4 h4 => ?_
  have hS := hS.call h4
  refine ev_call (green_right_ev (Nat.le_refl _) hsq (ht.le hS.le)) fun v5 H6 h6 => ?_
  have hS := hS.on h6.le
  refine ev_call (green_mutual_ev (Nat.le_refl _) (by omega) (JR_pre hv) h6.tabB) fun v7 H8 h8 => ?_
  have h8 : Sep H6 H8 [own reI v7 (gR t)] := h8
  have hS := hS.call h8
  refine ev_call (green_left_ev (Nat.le_refl _) hsq (ht.le hS.le)) fun v9 H10 h10 => ?_
  have hS := hS.on h10.le
  refine ev_call (green_mutual_ev (Nat.le_refl _) (by omega) (JL_pre hv) h10.tabB) fun v11 H12 h12 => ?_
  have h12 : Sep H10 H12 [own reI v11 (gL t)] := h12
  have hS := hS.call h12
  refine ev_call (green_mutual_ev (Nat.le_refl _) (by omega) (JJ_pre hv) (hS.pull 2).tabB) fun v13 H14 h14 => ?_
  have h14 : Sep H12 H14 [own reI v13 (gJ t)] := h14
  have hS := hS.call h14
  refine sp_alc hS fun p15 H16 hS => sp_stnC hS hlo rfl fun H17 hS => ev_fldS hS.at1 rfl (ev_fldS hS.at1 rfl ?_)
  refine ev_call (partition_Meet_ev (Nat.le_refl _) (hS.pull 3).row (hS.pull 2).row cR.can cL.can (by omega) (by omega)) fun v22 H23 ⟨h, h23, hh⟩ => ?_
  have eh : h = gH t := by
    rw [lR] at hh
    exact hh.eq_clN
  subst eh
  have hS := hS.call h23
  refine sp_stcC (j := 3) (hS.pull 1) hlo (by simp) fun H24 hS => ev_fldS hS.at1 rfl ?_
  refine ev_call (green_firsts_ev (Nat.le_refl _) (hS.pull 2).row cJ.can (by show (gJ t).length ≤ 4096; omega)) fun v27 H28 h28 => ?_
  have hS := hS.call h28
  have hfl : (frs (gJ t)).length = nJ t := rfl
  have hnJ := nJ_le hv
  rw [hS.len]
  refine sp_mks (x := []) hS (reL reB) (fun _ => nilRow) (by omega) (by show ((nJ t : Nat) : Int) * _ ≤ _; omega) fun s29 H30 hS => ?_
  refine sp_stcC (j := 4) (hS.pull 2) hlo (by simp) fun H31 hS => ?_
  simp only [List.set_cons_succ, List.set_cons_zero] at hS
  have hS := hS.pull 1
  refine ev_loop (α := AH) (g := fun a H ρ k κ => green_classes_1 k (some p1) v3 (some p15) v27 v27 ((frs (gJ t)).length : Int) a lo H κ) ((frs (gJ t)).length : Int) (fun a H' => ∃ T : List (List Bool), Sep H H' [own (reL reB) s29 T, ownC p15 [.sl v7, .sl v11, .sl v13, .sl v22, .sl s29], own reI v27 (frs (gJ t)), own reI v22 (gH t), own reI v13 (gJ t), own reI v11 (gL t), own reI v7 (gR t), own (reL reB) v3 (btab t.length t.length (JJ t)), ownC p1 [.sl ⟨none, 0⟩, .sl ⟨none, 0⟩, .sl ⟨none, 0⟩, .sl ⟨none, 0⟩, .sl ⟨none, 0⟩]] ∧ T.length = nJ t ∧ ∀ z : Int, 0 ≤ z → z < a → (rdOf [] T z).length = nJ t ∧ ∀ x : Int, 0 ≤ x → x < (nJ t : Int) → (rdOf false (rdOf [] T z) x = true ↔ JJ t (fJ t x) (fJ t z))) ?_ ?_ 0 H31 (by omega) (by omega) ⟨_, hS, by simp [hfl], fun z a b => by omega⟩
  · rintro a H1 a0 a1 ⟨T, hS, hT, hz⟩ hk
    have hT' : a < (T.length : Int) := by omega
    obtain ⟨fa0, fa1, _⟩ := fJ_in hv a0 (show a < (nJ t : Int) by omega)
    refine ev_eq (fun _ k _ => green_classes_1_eq k) (ev_pos a1 (ev_rdI (hS.pull 2).row a0 a1 (ev_fldS (p := p15) (hS.pull 1).at1 rfl ?_)))
    rw [(hS.pull 2).len]
    refine sp_mks (x := false) hS reB (fun _ => ⟨rfl, rfl⟩) (by omega) (by omega) fun w H2 hS => sp_putE hS.eltL.swap hlo a0 hT' fun H3 hS => ?_
    refine ev_loop (α := AH) (g := fun b H ρ k κ => green_classes_2 k (some p1) v3 (some p15) v27 a (fJ t a) v27 ((frs (gJ t)).length : Int) a v27 ((frs (gJ t)).length : Int) b lo H κ) ((frs (gJ t)).length : Int) (fun b H' => ∃ row : List Bool, Sep H H' [own (reL reB) s29 (T.set a.toNat row), ownC p15 [.sl v7, .sl v11, .sl v13, .sl v22, .sl s29], own reI v27 (frs (gJ t)), own reI v22 (gH t), own reI v13 (gJ t), own reI v11 (gL t), own reI v7 (gR t), own (reL reB) v3 (btab t.length t.length (JJ t)), ownC p1 [.sl ⟨none, 0⟩, .sl ⟨none, 0⟩, .sl ⟨none, 0⟩, .sl ⟨none, 0⟩, .sl ⟨none, 0⟩]] ∧ row.length = nJ t ∧ ∀ x : Int, 0 ≤ x → x < b → (rdOf false row x = true ↔ JJ t (fJ t x) (fJ t a))) ?_ ?_ 0 H3 (by omega) (by omega) ⟨_, hS, by simp [hfl], fun x c d => by omega⟩
    · rintro b H1 b0 b1 ⟨row, hS, hr, hx⟩ hk
      obtain ⟨fb0, fb1, _⟩ := fJ_in hv b0 (show b < (nJ t : Int) by omega)
      refine ev_eq (fun _ k _ => green_classes_2_eq k) (ev_pos b1 (ev_rdI (hS.pull 2).row b0 b1 (ev_fldS (p := p15) (hS.pull 1).at1 rfl (sp_openS hS a0 hT' fun w hS => ev_rdSB (hS.pull 8).tabB fb0 (by rw [btab_len]; exact fb1) fun jy hjy => ev_rdB hjy fa0 (by rw [show rdOf [] (btab t.length t.length (JJ t)) (rd (frs (gJ t)) b) = rdOf [] (btab t.length t.length (JJ t)) (fJ t b) from rfl, btab_rlen fb0 fb1]; exact fa1) ?_))))
      rw [show rdOf [] (btab t.length t.length (JJ t)) (rd (frs (gJ t)) b) = rdOf [] (btab t.length t.length (JJ t)) (fJ t b) from rfl, btab_at fb0 fb1 fa0 fa1]
      refine sp_put (x := decide (JJ t (fJ t b) (fJ t a))) (hS.pull 1) hlo (fun _ => ⟨rfl, rfl⟩) b0 (by omega) fun H2 hS => ?_
      rw [W_add b0 b1 (by omega)]
      refine hk H2 ⟨_, (hS.pull 1).closeS, by simpa using hr, fun x c d => ?_⟩
      rw [rb_set b0 (by omega) c]
      by_cases hxb : x = b
      · rw [if_pos hxb, hxb, decide_eq_true_iff]
      · rw [if_neg hxb]; exact hx x c (by omega)
    · rintro H1 ⟨row, hS, hr, hx⟩
      refine ev_eq (fun _ k _ => green_classes_2_eq k) (ev_neg (by omega) ?_)
      rw [W_add a0 a1 (by omega)]
      refine hk H1 ⟨_, hS, by simpa using hT, fun z c d => ?_⟩
      rw [rdOf_set [] a0 hT' c]
      by_cases hza : z = a
      · rw [if_pos hza, hza]; exact ⟨hr, fun x e f => hx x e (by omega)⟩
      · rw [if_neg hza]; exact hz z c (by omega)
  · rintro H1 ⟨T, hS, hT, hz⟩
    have eT : T = gB t := btab_eq hT fun y a b => hz y a (by omega)
    subst eT
    refine ev_eq (fun _ k _ => green_classes_1_eq k) (ev_neg (by omega) (ev_asP (ev_sssss (hS.pull 1).at1 (ev_asP ?_))))
    refine sp_stnC (p := p1) (us := [.sl v7, .sl v11, .sl v13, .sl v22, .sl s29]) (hS.pull 8) hlo rfl fun H2 hS => ?_
    have hp1 := hS.at1
    refine ev_asP (ev_sssss hp1 (ev_ret ?_))
    have h5 := (hS.pull 1 |>.pull 4 |>.pull 5 |>.pull 6 |>.pull 7).take 5
    exact h5

end Go.Ab

/- Green's relations by the reference; comparisons. What they answer. No condition but that a table comes in. -/
set_option linter.unusedVariables false
set_option linter.unusedSimpArgs false
namespace Go.Ab
open Go
/-- What Classes answers. -/
noncomputable def vif {α : Type} (t : List (List Int)) (l : List α) : List α := open Classical in if val t = 0 then l else []
theorem vif_pos {α : Type} {t : List (List Int)} {l : List α} (h : val t = 0) : vif t l = l := by unfold vif; rw [if_pos h]
theorem vif_neg {α : Type} {t : List (List Int)} {l : List α} (h : ¬ val t = 0) : vif t l = [] := by unfold vif; rw [if_neg h]
noncomputable abbrev OwnG' (t : List (List Int)) (v : Sl × Sl × Sl × Sl × Sl) : List Asr := [own reI v.1 (vif t (gR t)), own reI v.2.1 (vif t (gL t)), own reI v.2.2.1 (vif t (gJ t)), own reI v.2.2.2.1 (vif t (gH t)), own (reL reB) v.2.2.2.2 (vif t (gB t))]
theorem green_Classes_ev {s : Sl} {t : List (List Int)} {H : AH} {lo : Nat} (hlo : lo ≤ H.length) (hin : In2 t) (ht : Tab H s t) : Ev (fun ρ k κ => green_Classes k s lo H κ) (fun v H' => Sep H H' (OwnG' t v)) := by
  refine ev_eq (fun _ k _ => green_Classes_eq k) (sp_alc (Sep.nil H) fun p1 H2 hS => ev_is (mult_Validate_ev hin (ht.le hS.le)) (ev_nif (fun h => ?_) (fun h => ?_)))
  · refine sp_stnC hS hlo rfl fun H3 hS => ev_sssss hS.at1 (ev_ret ?_)
    have h5 := ((((((hS.nilS (reL reB)).nilS reI).nilS reI).nilS reI).nilS reI).take 5)
    simp only [OwnG', vif_neg h]
    exact h5
  · refine ev_call (green_classes_ev (Nat.le_refl _) (val_va.1 h) (ht.le hS.le)) fun v H12 h12 => ?_
    have hS := hS.call h12
    refine sp_stnC (p := p1) (us := [.sl v.1, .sl v.2.1, .sl v.2.2.1, .sl v.2.2.2.1, .sl v.2.2.2.2]) (hS.pull 5) hlo rfl fun H3 hS => ?_
    have hp1 := hS.at1
    refine ev_sssss hp1 (ev_ret ?_)
    have h5 := hS.ord [1, 1, 1, 1, 1]
    simp only [OwnG', vif_pos h]
    exact h5
end Go.Ab

/- J-classes and principal factors. What they answer. No condition but that a table comes in. -/
set_option linter.unusedVariables false
set_option linter.unusedSimpArgs false
namespace Go.Ab
open Go
theorem mem_len (t : List (List Int)) (hv : Va t) (j : Int) : (mem (gJ t) j).length ≤ t.length := by
  have := sel_len (P := fun x => rd (gJ t) x = j) (i := 0) (m := (gJ t).length)
  rw [(gJ_cl hv).len] at this
  unfold mem
  rwa [(gJ_cl hv).len]
open Classical in
theorem rees_class_ev {s : Sl} {t : List (List Int)} {H : AH} {lo : Nat} {j : Int} (hlo : lo ≤ H.length) (hin : In2 t) (ht : Tab H s t) : Ev (fun ρ k κ => rees_class k s j lo H κ) (fun v H' => (cerr t j ≠ 0 ∧ v.2.2.2.2.2.2.2 = cerr t j ∧ Le H H') ∨ (cerr t j = 0 ∧ v.2.2.2.2.2.2.2 = 0 ∧ v.2.2.2.2.2.2.1 = decide (MinC t j) ∧ Sep H H' (own reI v.2.2.2.2.2.1 (mem (gJ t) j) :: OwnG t (v.1, v.2.1, v.2.2.1, v.2.2.2.1, v.2.2.2.2.1)))) := by
  refine ev_eq (fun _ k _ => rees_class_eq k) (sp_alc (Sep.nil H) fun p1 H2 hS => ev_is (mult_Validate_ev hin (ht.le hS.le)) (ev_nif (fun h => ?_) (fun h => ?_)))
  · refine ev_sssss hS.at1 (sp_stnC hS hlo (by rfl) fun H3 hS => ev_sssss hS.at1 (ev_ret (.inl ⟨?_, ?_, hS.le⟩)))
    · rw [ne_eq, cerr_ok]; exact fun hh => h hh.1
    · unfold cerr; rw [if_neg h]
  have hv := val_va.1 h
  have hn := hv.le
  have hnJ := nJ_le hv
  have lB : (gB t).length = nJ t := btab_len _ _ _
  have lJ := (gJ_cl hv).len
  refine ev_call (green_Classes_ev (Nat.le_refl _) hin (ht.le hS.le)) fun r H17 hg => ?_
  simp only [OwnG', vif_pos h] at hg
  have hS := hS.call hg
  refine sp_stnC (p := p1) (us := [.sl r.1, .sl r.2.1, .sl r.2.2.1, .sl r.2.2.2.1, .sl r.2.2.2.2]) (hS.pull 5) hlo rfl fun H18 hS => ?_
  refine ev_orV (c := decide (j ≥ (nJ t : Int))) (fun _ => ev_fldS hS.at1 rfl (ev_ret ⟨by rw [(hS.pull 5).len, lB], rfl⟩)) (ev_b (fun hb => ?_) (fun hb => ?_))
  · refine sp_stnC hS hlo rfl fun H3 hS => ev_sssss hS.at1 (ev_ret (.inl ?_))
    have hno : ¬ (0 ≤ j ∧ j < (nJ t : Int)) := by
      simp only [Bool.or_eq_true, decide_eq_true_iff] at hb; omega
    refine ⟨?_, ?_, hS.le⟩
    · rw [ne_eq, cerr_ok]; exact fun hh => hno hh.2
    · unfold cerr; rw [if_pos h, if_neg hno]
  simp only [Bool.or_eq_false_iff, decide_eq_false_iff_not] at hb
  have j0 : 0 ≤ j := by omega
  have j1 : j < (nJ t : Int) := by omega
  have hok : cerr t j = 0 := cerr_ok.2 ⟨h, j0, j1⟩
  refine ev_fldS hS.at1 rfl ?_
  rw [(hS.pull 3).len, lJ]
  refine ev_loop (α := Sl × AH) (g := fun x c ρ k κ => rees_class_1 k j (some p1) c.1 r.2.2.1 (t.length : Int) x lo c.2 κ) (t.length : Int) (fun x c => Sep H c.2 [own reI c.1 (sel (fun x => rd (gJ t) x = j) 0 x.toNat), ownC p1 [.sl r.1, .sl r.2.1, .sl r.2.2.1, .sl r.2.2.2.1, .sl r.2.2.2.2], own reI r.1 (gR t), own reI r.2.1 (gL t), own reI r.2.2.1 (gJ t), own reI r.2.2.2.1 (gH t), own (reL reB) r.2.2.2.2 (gB t)]) ?_ ?_ 0 (⟨none, 0⟩, H18) (by omega) (by omega) (hS.nilS reI)
  · rintro x ⟨u, H1⟩ x0 x1 hS hk
    simp only at hS
    have hln := sel_len (P := fun x => rd (gJ t) x = j) (i := 0) (m := x.toNat)
    refine ev_eq (fun _ k _ => rees_class_1_eq k) (ev_pos x1 (ev_rdI (hS.pull 4).row x0 (by omega) (ev_if (fun hx => ?_) (fun hx => ?_))))
    · refine sp_app1 (x := x) hS hlo (fun _ => ⟨rfl, rfl⟩) (by omega) fun u' H2 hS => ev_eq (fun _ k _ => rees_class_2_eq k) ?_
      rw [W_add x0 x1 (by omega)]
      exact hk (u', H2) (hS.eq (sel_snoc (P := fun x => rd (gJ t) x = j) x0 hx))
    · refine ev_eq (fun _ k _ => rees_class_2_eq k) ?_
      rw [W_add x0 x1 (by omega)]
      exact hk (u, H1) (hS.eq (sel_skip (P := fun x => rd (gJ t) x = j) x0 hx))
  · rintro ⟨u, H1⟩ hS
    simp only [Int.toNat_natCast] at hS
    have em : sel (fun x => rd (gJ t) x = j) 0 t.length = mem (gJ t) j := by unfold mem; rw [lJ]
    rw [em] at hS
    have hp := (hS.pull 1).at1
    have hB := (hS.pull 6).tabB
    refine ev_eq (fun _ k _ => rees_class_1_eq k) (ev_neg (by omega) (ev_asP (ev_fldS hp rfl ?_)))
    rw [hB.len, lB]
    refine ev_loop (α := Bool) (g := fun i b ρ k κ => rees_class_3 k j (some p1) u b (nJ t : Int) i lo H1 κ) (nJ t : Int) (fun i b => b = true ↔ ∀ i' : Int, 0 ≤ i' → i' < i → ¬ DJ t i' j) ?_ ?_ 0 true (by omega) (by omega) ⟨fun _ i a b => by omega, fun _ => rfl⟩
    · intro i b i0 i1 hb hk
      have lr : (rdOf [] (gB t) i).length = nJ t := btab_rlen i0 i1
      refine ev_eq (fun _ k _ => rees_class_3_eq k) (ev_pos i1 (ev_andV (c := decide (¬ DJ t i j)) (fun _ => ev_orV (c := !decide (JJ t (fJ t j) (fJ t i))) (fun _ => ev_asP (ev_fldS hp rfl (ev_rdSB hB i0 (by omega) fun w hw => ev_rdB hw j0 (by omega) (ev_ret ⟨by rw [show rdOf false (rdOf [] (gB t) i) j = _ from btab_at i0 i1 j0 j1], rfl⟩)))) (ev_ret ⟨?_, rfl⟩)) ?_))
      · unfold DJ
        by_cases h1 : i = j <;> by_cases h2 : JJ t (fJ t j) (fJ t i) <;> simp [h1, h2]
      · rw [W_add i0 i1 (by omega)]
        refine hk _ ?_
        rw [Bool.and_eq_true, hb, decide_eq_true_iff]
        refine ⟨fun ⟨a, b⟩ i' c d => ?_, fun a => ⟨fun i' c d => a i' c (by omega), a i i0 (by omega)⟩⟩
        by_cases hii : i' = i
        · rw [hii]; exact b
        · exact a i' c (by omega)
    · intro b hb
      refine ev_eq (fun _ k _ => rees_class_3_eq k) (ev_neg (by omega) (ev_asP (ev_sssss hp (ev_asP ?_))))
      refine sp_stnC (p := p1) (us := [.sl r.1, .sl r.2.1, .sl r.2.2.1, .sl r.2.2.2.1, .sl r.2.2.2.2]) (hS.pull 1) hlo rfl fun H2 hS => ?_
      have hp := hS.at1
      refine ev_asP (ev_sssss hp (ev_ret (.inr ⟨hok, rfl, ?_, hS.drop⟩)))
      rw [Bool.eq_iff_iff, decide_eq_true_iff]
      exact hb
end Go.Ab

/- Principal factors, of the program and of the reference. What they answer. No condition but that a table comes in. -/
set_option linter.unusedVariables false
set_option linter.unusedSimpArgs false
namespace Go.Ab
open Go
open Classical in
theorem rees_Principal_l1 {s x8 : Sl} {t : List (List Int)} {H0 H : AH} {lo : Nat} {j : Int} {Q : Sl × Sl × Int → AH → Prop} (hlo : lo ≤ H0.length) (hv : Va t) (ht : Tab H0 s t) (hn : t.length ≤ 399) (hS : Sep H0 H [own reI x8 (prL t j)]) (hQ : ∀ (u : Sl) (H' : AH), Sep H0 H' [own (reL reI) u (prT t j), own reI x8 (prL t j)] → Q (u, x8, 0) H') : Ev (fun ρ k κ => rees_Principal_1 k s x8 lo H κ) Q := by
  have hsq := hv.toSq
  have hpl := prL_len hv j
  have hnd := prL_nodup t j
  refine ev_eq (fun _ k _ => rees_Principal_1_eq k) ?_
  rw [hS.len]
  refine ev_neg (by omega) (sp_mkm ival hS fun m H1 hS => ?_)
  refine ev_loop (α := AH) (g := fun i H ρ k κ => rees_Principal_2 k s x8 (some m) x8 ((prL t j).length : Int) i lo H κ) ((prL t j).length : Int) (fun i H' => ∃ l, Sep H0 H' [ownMp ival m l, own reI x8 (prL t j)] ∧ ∀ v, mget l v = if ∃ p : Int, 0 ≤ p ∧ p < i ∧ rd (prL t j) p = v then some (idxOf (prL t j) v) else none) ?_ ?_ 0 H1 (by omega) (by omega) ⟨[], hS, fun v => by rw [if_neg (fun ⟨p, a, b, _⟩ => by omega)]; rfl⟩
  · rintro i H1 i0 i1 ⟨l, hS, hl⟩ hk
    refine ev_eq (fun _ k _ => rees_Principal_2_eq k) (ev_pos i1 (ev_rdI (hS.pull 1).row i0 i1 (sp_mput (f := ival) (w := i) hS hlo fun H2 hS => ?_)))
    rw [W_add i0 i1 (by omega)]
    refine hk H2 ⟨_, hS, fun v => ?_⟩
    rw [mget_mset]
    by_cases hvi : v = rd (prL t j) i
    · rw [if_pos hvi, if_pos ⟨i, i0, by omega, hvi.symm⟩, hvi, idxOf_rd hnd i0 i1]
    · rw [if_neg hvi, hl v]
      by_cases hex : ∃ p : Int, 0 ≤ p ∧ p < i ∧ rd (prL t j) p = v
      · obtain ⟨p, a, b, c⟩ := hex
        rw [if_pos ⟨p, a, b, c⟩, if_pos ⟨p, a, by omega, c⟩]
      · rw [if_neg hex, if_neg]
        rintro ⟨p, a, b, c⟩
        by_cases hp : p = i
        · rw [hp] at c; exact hvi c.symm
        · exact hex ⟨p, a, by omega, c⟩
  rintro H1 ⟨l, hS, hl⟩
  have hl' : ∀ v, mget l v = if v ∈ prL t j then some (idxOf (prL t j) v) else none := fun v => by
    rw [hl v]
    by_cases hm : v ∈ prL t j
    · rw [if_pos hm, if_pos (rd_of_mem hm)]
    · rw [if_neg hm, if_neg]
      rintro ⟨p, a, b, c⟩
      exact hm (c ▸ rd_mem a b)
  refine ev_eq (fun _ k _ => rees_Principal_2_eq k) (ev_neg (by omega) ?_)
  rw [(hS.pull 1).len]
  refine sp_mks (x := []) hS (reL reI) (fun _ => ⟨⟨none, 0⟩, rfl, rfl, .inl ⟨rfl, rfl, rfl⟩⟩) (by omega) (by omega) fun u H2 hS => ?_
  refine ev_loop (α := AH) (g := fun i H ρ k κ => rees_Principal_3 k s x8 (some m) u x8 ((prL t j).length : Int) i lo H κ) ((prL t j).length : Int) (fun i H' => ∃ T : List (List Int), Sep H0 H' [own (reL reI) u T, ownMp ival m l, own reI x8 (prL t j)] ∧ T.length = (prL t j).length ∧ ∀ z : Int, 0 ≤ z → z < i → (R T z).length = (prL t j).length ∧ ∀ y : Int, 0 ≤ y → y < ((prL t j).length : Int) → M T z y = prM t j z y) ?_ ?_ 0 H2 (by omega) (by omega) ⟨_, hS, by simp, fun z a b => by omega⟩
  · rintro i H1 i0 i1 ⟨T, hS, hT, hz⟩ hk
    have hT' : i < (T.length : Int) := by omega
    refine ev_eq (fun _ k _ => rees_Principal_3_eq k) (ev_pos i1 (ev_rdI (hS.pull 2).row i0 i1 ?_))
    rw [(hS.pull 2).len]
    refine sp_mks (x := (0 : Int)) hS reI (fun _ => ⟨rfl, rfl⟩) (by omega) (by omega) fun w H2 hS => sp_putE hS.eltL.swap hlo i0 hT' fun H3 hS => ?_
    refine ev_loop (α := AH) (g := fun y H ρ k κ => rees_Principal_4 k s x8 (some m) u i (rd (prL t j) i) x8 ((prL t j).length : Int) i x8 ((prL t j).length : Int) y lo H κ) ((prL t j).length : Int) (fun y H' => ∃ row : List Int, Sep H0 H' [own (reL reI) u (T.set i.toNat row), ownMp ival m l, own reI x8 (prL t j)] ∧ row.length = (prL t j).length ∧ (∀ y' : Int, 0 ≤ y' → y' < y → rd row y' = prM t j i y') ∧ ∀ y' : Int, y ≤ y' → y' < ((prL t j).length : Int) → rd row y' = 0) ?_ ?_ 0 H3 (by omega) (by omega) ⟨_, hS, by simp, fun y' a b => by omega, fun y' a b => rd_rep (by omega) (by omega)⟩
    · rintro y H1 y0 y1 ⟨row, hS, hr, hy, hy0⟩ hk
      have next : ∀ (H2 : AH) (row2 : List Int), Sep H0 H2 [own (reL reI) u (T.set i.toNat row2), ownMp ival m l, own reI x8 (prL t j)] → row2.length = (prL t j).length → (∀ y' : Int, 0 ≤ y' → y' < ((prL t j).length : Int) → rd row2 y' = if y' = y then prM t j i y else rd row y') → Ev (fun ρ k κ => rees_Principal_5 k s x8 (some m) u i (rd (prL t j) i) x8 ((prL t j).length : Int) i x8 ((prL t j).length : Int) y lo H2 κ) Q := fun H2 row2 a b c => by
        refine ev_eq (fun _ k _ => rees_Principal_5_eq k) ?_
        rw [W_add y0 y1 (by omega)]
        refine hk H2 ⟨row2, a, b, fun y' d e => ?_, fun y' d e => ?_⟩
        · rw [c y' d (by omega)]
          by_cases hyy : y' = y
          · rw [if_pos hyy, hyy]
          · rw [if_neg hyy]; exact hy y' d (by omega)
        · rw [c y' (by omega) e, if_neg (by omega)]; exact hy0 y' (by omega) e
      refine ev_eq (fun _ k _ => rees_Principal_4_eq k) (ev_pos y1 (ev_rdI (hS.pull 2).row y0 y1 (ev_andP (c := rd (prL t j) y ≥ 0) (fun _ => ev_ret ⟨rfl, rfl⟩) (ev_if (fun hge => ?_) (fun hge => ?_)))))
      · have a0 : 0 ≤ rd (prL t j) i := hge.1
        have b0 : 0 ≤ rd (prL t j) y := hge.2
        have a1 : rd (prL t j) i < (t.length : Int) := by
          rcases prL_in hv i0 i1 with h | h
          · omega
          · exact h.2.1
        have b1 : rd (prL t j) y < (t.length : Int) := by
          rcases prL_in hv y0 y1 with h | h
          · omega
          · exact h.2.1
        have hrow := hsq.row _ a0 a1
        have m0 := hsq.lo _ _ a0 a1 b0 b1
        refine sp_openS hS i0 hT' fun w hS => ev_rdM (ht.le hS.le) a0 a1 b0 (by omega) (sp_mlook (hS.pull 2) ?_)
        have hval : (Option.getD ((mget l (M t (rd (prL t j) i) (rd (prL t j) y))).map ival) (.int .i64 0)) = .int .i64 (prM t j i y) := by
          rw [hl']
          unfold prM
          by_cases hm : M t (rd (prL t j) i) (rd (prL t j) y) ∈ mem (gJ t) j
          · rw [if_pos (prL_mem.2 (.inr hm)), if_pos ⟨a0, b0, hm⟩]; rfl
          · rw [if_neg, if_neg (fun h => hm h.2.2)]
            · rfl
            · intro h
              rcases prL_mem.1 h with h | h
              · omega
              · exact hm h
        rw [hval]
        refine ev_asI (sp_put (x := prM t j i y) (hS.pull 1) hlo (fun _ => ⟨rfl, rfl⟩) y0 (by omega) fun H2 hS => next H2 _ (hS.pull 1).closeS (by simpa using hr) fun y' c d => ?_)
        rw [rd_set y0 (by omega) c]
      · refine next H1 row hS hr fun y' c d => ?_
        by_cases hyy : y' = y
        · rw [if_pos hyy, hyy, hy0 y (Int.le_refl _) y1]
          unfold prM
          rw [if_neg (fun h => hge ⟨h.1, h.2.1⟩)]
        · rw [if_neg hyy]
    · rintro H1 ⟨row, hS, hr, hy, hy0⟩
      refine ev_eq (fun _ k _ => rees_Principal_4_eq k) (ev_neg (by omega) ?_)
      rw [W_add i0 i1 (by omega)]
      refine hk H1 ⟨_, hS, by simpa using hT, fun z a b => ?_⟩
      unfold M
      rw [R_set i0 hT' a]
      by_cases hzi : z = i
      · rw [if_pos hzi, hzi]; exact ⟨hr, hy⟩
      · rw [if_neg hzi]; exact hz z a (by omega)
  · rintro H1 ⟨T, hS, hT, hz⟩
    refine ev_eq (fun _ k _ => rees_Principal_3_eq k) (ev_neg (by omega) (ev_ret (hQ u H1 ?_)))
    have e : T = prT t j := tab_eq hT (fun x a b => (hz x a b).1) (fun x y a b c d => (hz x a b).2 y c d)
    rw [← e]
    exact hS.ord [0, 1]
open Classical in
theorem rees_Principal_ev {s : Sl} {t : List (List Int)} {H : AH} {lo : Nat} {j : Int} (hlo : lo ≤ H.length) (hin : In2 t) (ht : Tab H s t) (hn : val t = 0 → t.length ≤ 399) : Ev (fun ρ k κ => rees_Principal k s j lo H κ) (fun v H' => v.2.2 = cerr t j ∧ Sep H H' [own (reL reI) v.1 (if cerr t j = 0 then prT t j else []), own reI v.2.1 (if cerr t j = 0 then prL t j else [])]) := by
  refine ev_eq (fun _ k _ => rees_Principal_eq k) (ev_call (rees_class_ev (Nat.le_refl _) hin ht) fun r H2 hr => ?_)
  rcases hr with ⟨h1, h2, h3⟩ | ⟨h1, h2, h3, h4⟩
  · refine sp_alc (Sep.of_le h3) fun p H4 hS => sp_stnC hS hlo (by rfl) fun H5 hS => ev_npos (by rw [h2]; exact h1) (ev_ret ⟨h2, ?_⟩)
    rw [if_neg h1, if_neg h1]
    exact ((hS.nilS reI).nilS (reL reI)).take 2
  · obtain ⟨hval, j0, j1⟩ := cerr_ok.1 h1
    have hv := val_va.1 hval
    refine sp_alc h4 fun p H4 hS => sp_stnC hS hlo (by rfl) fun H5 hS => ev_nneg h2 ?_
    have hS := hS.ord [1]
    rw [h3]
    have ml := mem_len t hv j
    have hn9 := hn hval
    have fin : ∀ (x8 : Sl) (H6 : AH), Sep H H6 [own reI x8 (prL t j)] → Ev (fun ρ k κ => rees_Principal_1 k s x8 lo H6 κ) (fun v H' => v.2.2 = cerr t j ∧ Sep H H' [own (reL reI) v.1 (if cerr t j = 0 then prT t j else []), own reI v.2.1 (if cerr t j = 0 then prL t j else [])]) := fun x8 H6 hS =>
      rees_Principal_l1 hlo hv ht hn9 hS fun u H' hS' => ⟨h1.symm, by rw [if_pos h1, if_pos h1]; exact hS'⟩
    refine ev_nif (fun hm => ?_) (fun hm => ?_)
    · refine sp_lit [-1] hS reI (fun _ => by simpa using All3.cons (r := reI) (v := .int .i64 (-1)) ⟨rfl, rfl⟩ .nil) fun s6 H7 hS => sp_appR hS hlo ((hS.pull 1).row.imp fun v x e => ⟨e, rfl⟩) (by simp; omega) fun s8 H9 hS => fin s8 H9 ((hS.take 1).eq ?_)
      unfold prL; rw [if_neg hm]
    · exact fin _ H5 (hS.eq (by unfold prL; rw [if_pos hm]; simp))
end Go.Ab
