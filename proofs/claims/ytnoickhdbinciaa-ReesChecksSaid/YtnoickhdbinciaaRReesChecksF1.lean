/- What functions answer. No condition but what each theorem says. -/
import Derived.Test.YtnoickhdbinciaaRReesChecksEq
import Derived.Test.YtnoickhdbinciaaAbA2
import Derived.Test.YtnoickhdbinciaaAbA3
import Derived.Test.YtnoickhdbinciaaRReesChecksM1
/- Layer 14: shape, failing, Validate, Associative and the like. What they answer. No condition but that a table comes in. -/
set_option linter.unusedVariables false
set_option linter.unusedSimpArgs false
namespace Go.Ab
open Go
theorem mult_shape_l2 {A : AH} {s r : Sl} {t : List (List Int)} {H : AH} {Q : Int → AH → Prop} {lo : Nat} (ht : In2 t) (hs : Tab H s t) {x : Int} (h0 : 0 ≤ x) (h1 : x < (t.length : Int)) (hr : Row H r (R t x))
    (hb : (∃ y, 0 ≤ y ∧ y < ((R t x).length : Int) ∧ (M t x y < 0 ∨ (t.length : Int) ≤ M t x y)) → Q 4 H)
    (hend : (∀ y, 0 ≤ y → y < ((R t x).length : Int) → ¬ (M t x y < 0 ∨ (t.length : Int) ≤ M t x y)) → Ev (fun ρ k κ => mult_shape_1 k s s (t.length : Int) (x + 1) lo H κ) Q) :
    Ev (fun ρ k κ => mult_shape_2 k s s (t.length : Int) x r ((R t x).length : Int) 0 lo H κ) Q := by
  have hl := ht.row h0 h1
  have hsl := hs.len
  have hx : x + 1 ≤ 9223372036854775807 := by have := ht.1; omega
  refine ev_for0 (g := fun y ρ k κ => mult_shape_2 k s s (t.length : Int) x r ((R t x).length : Int) y lo H κ) ((R t x).length : Int) (fun i => ∀ y, 0 ≤ y → y < i → ¬ (M t x y < 0 ∨ (t.length : Int) ≤ M t x y)) ?_ ?_ 0 (by omega) (by omega) (fun y a b => by omega)
  · intro y hy0 hy1 hi
    by_cases hbad : M t x y < 0 ∨ (t.length : Int) ≤ M t x y
    · left
      refine ev_eq (fun _ k _ => mult_shape_2_eq k) (ev_pos hy1 (ev_rdI hr hy0 hy1 (ev_orP (fun _ => ev_ret ⟨rfl, rfl⟩) (ev_pos ?_ (ev_ret (hb ⟨y, hy0, hy1, hbad⟩))))))
      show M t x y < 0 ∨ M t x y ≥ (s.len : Int)
      omega
    · right
      refine ⟨fun z hz0 hz1 => ?_, fun H => ?_⟩
      · by_cases hzx : z < y
        · exact hi z hz0 hzx
        · have : z = y := by omega
          rw [this]; exact hbad
      refine ev_eq (fun _ k _ => mult_shape_2_eq k) (ev_pos hy1 (ev_rdI hr hy0 hy1 (ev_orP (fun _ => ev_ret ⟨rfl, rfl⟩) (ev_neg ?_ ?_))))
      · show ¬ (M t x y < 0 ∨ M t x y ≥ (s.len : Int))
        omega
      · rw [W_add hy0 hy1 (by omega)]; exact H
  · intro hi
    refine ev_eq (fun _ k _ => mult_shape_2_eq k) (ev_neg (by omega) ?_)
    rw [W_add h0 h1 (by omega)]
    exact hend hi
open Classical in
theorem mult_shape_ev {s : Sl} {t : List (List Int)} {H : AH} {lo : Nat} (ht : In2 t) (hs : Tab H s t) : Ev (fun ρ k κ => mult_shape k s lo H κ) (Is (shp t) H) := by
  unfold shp
  have hl := hs.len
  refine ev_eq (fun _ k _ => mult_shape_eq k) ?_
  rw [hl]
  refine ev_if (fun h => ?_) (fun h => ?_)
  · rw [if_pos h]; exact ev_ret ⟨rfl, rfl⟩
  rw [if_neg h]
  refine ev_if (fun h => ?_) (fun h2 => ?_)
  · rw [if_pos h]; exact ev_ret ⟨rfl, rfl⟩
  rw [if_neg h2]
  generalize hr : (if Bad t then (4 : Int) else 0) = r
  refine ev_for0 (g := fun x ρ k κ => mult_shape_1 k s s (t.length : Int) x lo H κ) (t.length : Int) (fun i => ∀ x, 0 ≤ x → x < i → ¬ (((R t x).length : Int) ≠ (t.length : Int) ∨ ∃ y, 0 ≤ y ∧ y < ((R t x).length : Int) ∧ (M t x y < 0 ∨ (t.length : Int) ≤ M t x y))) ?_ ?_ 0 (by omega) (by omega) (fun x a b => by omega)
  · intro x hx0 hx1 hi
    by_cases hbad : ((R t x).length : Int) ≠ (t.length : Int) ∨ ∃ y, 0 ≤ y ∧ y < ((R t x).length : Int) ∧ (M t x y < 0 ∨ (t.length : Int) ≤ M t x y)
    · left
      have hr4 : (4 : Int) = r := by rw [← hr, if_pos ⟨x, hx0, hx1, hbad⟩]
      refine ev_eq (fun _ k _ => mult_shape_1_eq k) (ev_pos hx1 (ev_rdS hs hx0 hx1 fun v hv => ?_))
      rw [hl, hv.len]
      refine ev_nif (fun _ => ev_ret ⟨hr4, rfl⟩) (fun he => ?_)
      rcases hbad with hbad | ⟨y, hy0, hy1, hbad⟩
      · exact absurd he hbad
      exact mult_shape_l2 (A := H) ht hs hx0 hx1 hv (fun _ => ⟨hr4, rfl⟩) (fun hn => absurd hbad (hn y hy0 hy1))
    · right
      refine ⟨fun z hz0 hz1 => ?_, fun H' => ?_⟩
      · by_cases hzx : z < x
        · exact hi z hz0 hzx
        · have : z = x := by omega
          rw [this]; exact hbad
      · have he : ((R t x).length : Int) = (t.length : Int) := Classical.byContradiction fun hn => hbad (.inl hn)
        refine ev_eq (fun _ k _ => mult_shape_1_eq k) (ev_pos hx1 (ev_rdS hs hx0 hx1 fun v hv => ?_))
        rw [hl, hv.len]
        exact ev_nneg he (mult_shape_l2 (A := H) ht hs hx0 hx1 hv (fun hy => absurd (.inr hy) hbad) (fun _ => H'))
  · intro hi
    refine ev_eq (fun _ k _ => mult_shape_1_eq k) (ev_neg (by omega) (ev_ret ⟨?_, rfl⟩))
    rw [← hr, if_neg]
    rintro ⟨x, a, b, c⟩
    exact hi x a b c
theorem semigroupref14_Shape_l2 {A : AH} {s r : Sl} {t : List (List Int)} {H : AH} {Q : Int → AH → Prop} {lo : Nat} (ht : In2 t) (hs : Tab H s t) {x : Int} (h0 : 0 ≤ x) (h1 : x < (t.length : Int)) (hr : Row H r (R t x))
    (hb : (∃ y, 0 ≤ y ∧ y < ((R t x).length : Int) ∧ (M t x y < 0 ∨ (t.length : Int) ≤ M t x y)) → Q 4 H)
    (hend : (∀ y, 0 ≤ y → y < ((R t x).length : Int) → ¬ (M t x y < 0 ∨ (t.length : Int) ≤ M t x y)) → Ev (fun ρ k κ => semigroupref14_Shape_1 k s s (t.length : Int) (x + 1) lo H κ) Q) :
    Ev (fun ρ k κ => semigroupref14_Shape_2 k s s (t.length : Int) x r ((R t x).length : Int) 0 lo H κ) Q := by
  have hl := ht.row h0 h1
  have hsl := hs.len
  have hx : x + 1 ≤ 9223372036854775807 := by have := ht.1; omega
  refine ev_for0 (g := fun y ρ k κ => semigroupref14_Shape_2 k s s (t.length : Int) x r ((R t x).length : Int) y lo H κ) ((R t x).length : Int) (fun i => ∀ y, 0 ≤ y → y < i → ¬ (M t x y < 0 ∨ (t.length : Int) ≤ M t x y)) ?_ ?_ 0 (by omega) (by omega) (fun y a b => by omega)
  · intro y hy0 hy1 hi
    by_cases hbad : M t x y < 0 ∨ (t.length : Int) ≤ M t x y
    · left
      refine ev_eq (fun _ k _ => semigroupref14_Shape_2_eq k) (ev_pos hy1 (ev_rdI hr hy0 hy1 (ev_orP (fun _ => ev_ret ⟨rfl, rfl⟩) (ev_pos ?_ (ev_ret (hb ⟨y, hy0, hy1, hbad⟩))))))
      show M t x y < 0 ∨ M t x y ≥ (s.len : Int)
      omega
    · right
      refine ⟨fun z hz0 hz1 => ?_, fun H => ?_⟩
      · by_cases hzx : z < y
        · exact hi z hz0 hzx
        · have : z = y := by omega
          rw [this]; exact hbad
      refine ev_eq (fun _ k _ => semigroupref14_Shape_2_eq k) (ev_pos hy1 (ev_rdI hr hy0 hy1 (ev_orP (fun _ => ev_ret ⟨rfl, rfl⟩) (ev_neg ?_ ?_))))
      · show ¬ (M t x y < 0 ∨ M t x y ≥ (s.len : Int))
        omega
      · rw [W_add hy0 hy1 (by omega)]; exact H
  · intro hi
    refine ev_eq (fun _ k _ => semigroupref14_Shape_2_eq k) (ev_neg (by omega) ?_)
    rw [W_add h0 h1 (by omega)]
    exact hend hi
open Classical in
theorem semigroupref14_Shape_ev {s : Sl} {t : List (List Int)} {H : AH} {lo : Nat} (ht : In2 t) (hs : Tab H s t) : Ev (fun ρ k κ => semigroupref14_Shape k s lo H κ) (Is (shp t) H) := by
  unfold shp
  have hl := hs.len
  refine ev_eq (fun _ k _ => semigroupref14_Shape_eq k) ?_
  rw [hl]
  refine ev_if (fun h => ?_) (fun h => ?_)
  · rw [if_pos h]; exact ev_ret ⟨rfl, rfl⟩
  rw [if_neg h]
  refine ev_if (fun h => ?_) (fun h2 => ?_)
  · rw [if_pos h]; exact ev_ret ⟨rfl, rfl⟩
  rw [if_neg h2]
  generalize hr : (if Bad t then (4 : Int) else 0) = r
  refine ev_for0 (g := fun x ρ k κ => semigroupref14_Shape_1 k s s (t.length : Int) x lo H κ) (t.length : Int) (fun i => ∀ x, 0 ≤ x → x < i → ¬ (((R t x).length : Int) ≠ (t.length : Int) ∨ ∃ y, 0 ≤ y ∧ y < ((R t x).length : Int) ∧ (M t x y < 0 ∨ (t.length : Int) ≤ M t x y))) ?_ ?_ 0 (by omega) (by omega) (fun x a b => by omega)
  · intro x hx0 hx1 hi
    by_cases hbad : ((R t x).length : Int) ≠ (t.length : Int) ∨ ∃ y, 0 ≤ y ∧ y < ((R t x).length : Int) ∧ (M t x y < 0 ∨ (t.length : Int) ≤ M t x y)
    · left
      have hr4 : (4 : Int) = r := by rw [← hr, if_pos ⟨x, hx0, hx1, hbad⟩]
      refine ev_eq (fun _ k _ => semigroupref14_Shape_1_eq k) (ev_pos hx1 (ev_rdS hs hx0 hx1 fun v hv => ?_))
      rw [hl, hv.len]
      refine ev_nif (fun _ => ev_ret ⟨hr4, rfl⟩) (fun he => ?_)
      rcases hbad with hbad | ⟨y, hy0, hy1, hbad⟩
      · exact absurd he hbad
      exact semigroupref14_Shape_l2 (A := H) ht hs hx0 hx1 hv (fun _ => ⟨hr4, rfl⟩) (fun hn => absurd hbad (hn y hy0 hy1))
    · right
      refine ⟨fun z hz0 hz1 => ?_, fun H' => ?_⟩
      · by_cases hzx : z < x
        · exact hi z hz0 hzx
        · have : z = x := by omega
          rw [this]; exact hbad
      · have he : ((R t x).length : Int) = (t.length : Int) := Classical.byContradiction fun hn => hbad (.inl hn)
        refine ev_eq (fun _ k _ => semigroupref14_Shape_1_eq k) (ev_pos hx1 (ev_rdS hs hx0 hx1 fun v hv => ?_))
        rw [hl, hv.len]
        exact ev_nneg he (semigroupref14_Shape_l2 (A := H) ht hs hx0 hx1 hv (fun hy => absurd (.inr hy) hbad) (fun _ => H'))
  · intro hi
    refine ev_eq (fun _ k _ => semigroupref14_Shape_1_eq k) (ev_neg (by omega) (ev_ret ⟨?_, rfl⟩))
    rw [← hr, if_neg]
    rintro ⟨x, a, b, c⟩
    exact hi x a b c
theorem mult_failing_l3 {s : Sl} {t : List (List Int)} {H : AH} {lo : Nat} {Q : (Int × Int × Int × Bool) → AH → Prop} (ht : Tab H s t) (hs : Sq t) {x y : Int} (hx0 : 0 ≤ x) (hx1 : x < (t.length : Int)) (hy0 : 0 ≤ y) (hy1 : y < (t.length : Int))
    (hf : ∀ a, fnd (fun z => if M t (M t x y) z = M t x (M t y z) then none else some (x, y, z)) 0 t.length = some a → Q (a.1, a.2.1, a.2.2, true) H)
    (h : fnd (fun z => if M t (M t x y) z = M t x (M t y z) then none else some (x, y, z)) 0 t.length = none → Ev (fun ρ k κ => mult_failing_2 k s x (t.length : Int) x (t.length : Int) (y + 1) lo H κ) Q) :
    Ev (fun ρ k κ => mult_failing_3 k s x y (t.length : Int) x (t.length : Int) y (t.length : Int) 0 lo H κ) Q := by
  have hle := hs.le
  refine ev_fnd (f := fun z => if M t (M t x y) z = M t x (M t y z) then none else some (x, y, z)) (g := fun z ρ k κ => mult_failing_3 k s x y (t.length : Int) x (t.length : Int) y (t.length : Int) z lo H κ) (t.length : Int) ?_ 0 t.length (by omega) (by omega) ?_ ?_
  · intro z hz0 hz1 he H'
    have a1 := hs.lo x y hx0 hx1 hy0 hy1
    have a2 := hs.hi x y hx0 hx1 hy0 hy1
    have a3 := hs.lo y z hy0 hy1 hz0 hz1
    have a4 := hs.hi y z hy0 hy1 hz0 hz1
    have r1 := hs.row x hx0 hx1
    have r2 := hs.row y hy0 hy1
    have r3 := hs.row (M t x y) a1 a2
    have he : M t (M t x y) z = M t x (M t y z) := Classical.byContradiction fun hn => by rw [if_neg hn] at he; cases he
    refine ev_eq (fun _ k _ => mult_failing_3_eq k) (ev_pos hz1 (ev_rdM ht hx0 hx1 hy0 (by omega) (ev_rdM ht a1 a2 hz0 (by omega) (ev_rdS ht hx0 hx1 fun r hr => ev_rdM ht hy0 hy1 hz0 (by omega) (ev_rdI hr a3 (by omega) (ev_nneg he ?_))))))
    rw [W_add hz0 hz1 (by omega)]
    exact H'
  · intro z a hz0 hz1 he ha
    have a1 := hs.lo x y hx0 hx1 hy0 hy1
    have a2 := hs.hi x y hx0 hx1 hy0 hy1
    have a3 := hs.lo y z hy0 hy1 hz0 hz1
    have a4 := hs.hi y z hy0 hy1 hz0 hz1
    have r1 := hs.row x hx0 hx1
    have r2 := hs.row y hy0 hy1
    have r3 := hs.row (M t x y) a1 a2
    have hne : ¬ M t (M t x y) z = M t x (M t y z) := fun hn => by rw [if_pos hn] at he; cases he
    rw [if_neg hne] at he
    cases he
    exact ev_eq (fun _ k _ => mult_failing_3_eq k) (ev_pos hz1 (ev_rdM ht hx0 hx1 hy0 (by omega) (ev_rdM ht a1 a2 hz0 (by omega) (ev_rdS ht hx0 hx1 fun r hr => ev_rdM ht hy0 hy1 hz0 (by omega) (ev_rdI hr a3 (by omega) (ev_npos hne (ev_ret (hf _ ha))))))))
  · intro hn
    refine ev_eq (fun _ k _ => mult_failing_3_eq k) (ev_neg (by omega) ?_)
    rw [W_add hy0 hy1 (by omega)]
    exact h hn
theorem mult_failing_l1 {s : Sl} {t : List (List Int)} {H : AH} {lo : Nat} (ht : Tab H s t) (hs : Sq t) : Ev (fun ρ k κ => mult_failing_1 k s (t.length : Int) 0 lo H κ) (Is ((tri t).elim (0, 0, 0, false) (fun a => (a.1, a.2.1, a.2.2, true))) H) := by
  have hle := hs.le
  have hl := ht.len
  refine ev_fnd (f := fun x => fnd (fun y => fnd (fun z => if M t (M t x y) z = M t x (M t y z) then none else some (x, y, z)) 0 t.length) 0 t.length) (g := fun x ρ k κ => mult_failing_1 k s (t.length : Int) x lo H κ) (t.length : Int) ?_ 0 t.length (by omega) (by omega) ?_ ?_
  · intro x hx0 hx1 hn H'
    refine ev_eq (fun _ k _ => mult_failing_1_eq k) (ev_pos hx1 ?_)
    rw [hl]
    refine ev_fnd (f := fun y => fnd (fun z => if M t (M t x y) z = M t x (M t y z) then none else some (x, y, z)) 0 t.length) (g := fun y ρ k κ => mult_failing_2 k s x (t.length : Int) x (t.length : Int) y lo H κ) (t.length : Int) ?_ 0 t.length (by omega) (by omega) ?_ ?_
    · intro y hy0 hy1 hn2 H'
      refine ev_eq (fun _ k _ => mult_failing_2_eq k) (ev_pos hy1 ?_)
      rw [hl]
      exact mult_failing_l3 ht hs hx0 hx1 hy0 hy1 (fun a ha => by rw [hn2] at ha; cases ha) (fun _ => H')
    · intro y a _ _ _ ha; rw [hn] at ha; cases ha
    · intro _
      refine ev_eq (fun _ k _ => mult_failing_2_eq k) (ev_neg (by omega) ?_)
      rw [W_add hx0 hx1 (by omega)]
      exact H'
  · intro x a hx0 hx1 hfx hfa
    refine ev_eq (fun _ k _ => mult_failing_1_eq k) (ev_pos hx1 ?_)
    rw [hl]
    refine ev_fnd (f := fun y => fnd (fun z => if M t (M t x y) z = M t x (M t y z) then none else some (x, y, z)) 0 t.length) (g := fun y ρ k κ => mult_failing_2 k s x (t.length : Int) x (t.length : Int) y lo H κ) (t.length : Int) ?_ 0 t.length (by omega) (by omega) ?_ ?_
    · intro y hy0 hy1 hn2 H'
      refine ev_eq (fun _ k _ => mult_failing_2_eq k) (ev_pos hy1 ?_)
      rw [hl]
      exact mult_failing_l3 ht hs hx0 hx1 hy0 hy1 (fun a ha => by rw [hn2] at ha; cases ha) (fun _ => H')
    · intro y b hy0 hy1 hfy hfb
      refine ev_eq (fun _ k _ => mult_failing_2_eq k) (ev_pos hy1 ?_)
      rw [hl]
      refine mult_failing_l3 ht hs hx0 hx1 hy0 hy1 (fun c hc => ⟨?_, rfl⟩) (fun hn => by rw [hfy] at hn; cases hn)
      rw [hfy] at hc; cases hc
      rw [hfx] at hfb; cases hfb
      rw [show tri t = some a from hfa]; rfl
    · intro hn; rw [hfx] at hn; cases hn
  · intro hn
    refine ev_eq (fun _ k _ => mult_failing_1_eq k) (ev_neg (by omega) (ev_ret ⟨?_, rfl⟩))
    unfold tri
    rw [hn]
    rfl
theorem semigroupref14_Associative_l3 {s : Sl} {t : List (List Int)} {H : AH} {lo : Nat} {Q : (Int × Int × Int × Int) → AH → Prop} (ht : Tab H s t) (hs : Sq t) {x y : Int} (hx0 : 0 ≤ x) (hx1 : x < (t.length : Int)) (hy0 : 0 ≤ y) (hy1 : y < (t.length : Int))
    (hf : ∀ a, fnd (fun z => if M t (M t x y) z = M t x (M t y z) then none else some (x, y, z)) 0 t.length = some a → Q (a.1, a.2.1, a.2.2, 5) H)
    (h : fnd (fun z => if M t (M t x y) z = M t x (M t y z) then none else some (x, y, z)) 0 t.length = none → Ev (fun ρ k κ => semigroupref14_Associative_2 k s x (t.length : Int) x (t.length : Int) (y + 1) lo H κ) Q) :
    Ev (fun ρ k κ => semigroupref14_Associative_3 k s x y (t.length : Int) x (t.length : Int) y (t.length : Int) 0 lo H κ) Q := by
  have hle := hs.le
  refine ev_fnd (f := fun z => if M t (M t x y) z = M t x (M t y z) then none else some (x, y, z)) (g := fun z ρ k κ => semigroupref14_Associative_3 k s x y (t.length : Int) x (t.length : Int) y (t.length : Int) z lo H κ) (t.length : Int) ?_ 0 t.length (by omega) (by omega) ?_ ?_
  · intro z hz0 hz1 he H'
    have a1 := hs.lo x y hx0 hx1 hy0 hy1
    have a2 := hs.hi x y hx0 hx1 hy0 hy1
    have a3 := hs.lo y z hy0 hy1 hz0 hz1
    have a4 := hs.hi y z hy0 hy1 hz0 hz1
    have r1 := hs.row x hx0 hx1
    have r2 := hs.row y hy0 hy1
    have r3 := hs.row (M t x y) a1 a2
    have he : M t (M t x y) z = M t x (M t y z) := Classical.byContradiction fun hn => by rw [if_neg hn] at he; cases he
    refine ev_eq (fun _ k _ => semigroupref14_Associative_3_eq k) (ev_pos hz1 (ev_rdM ht hx0 hx1 hy0 (by omega) (ev_rdM ht a1 a2 hz0 (by omega) (ev_rdS ht hx0 hx1 fun r hr => ev_rdM ht hy0 hy1 hz0 (by omega) (ev_rdI hr a3 (by omega) (ev_nneg he ?_))))))
    rw [W_add hz0 hz1 (by omega)]
    exact H'
  · intro z a hz0 hz1 he ha
    have a1 := hs.lo x y hx0 hx1 hy0 hy1
    have a2 := hs.hi x y hx0 hx1 hy0 hy1
    have a3 := hs.lo y z hy0 hy1 hz0 hz1
    have a4 := hs.hi y z hy0 hy1 hz0 hz1
    have r1 := hs.row x hx0 hx1
    have r2 := hs.row y hy0 hy1
    have r3 := hs.row (M t x y) a1 a2
    have hne : ¬ M t (M t x y) z = M t x (M t y z) := fun hn => by rw [if_pos hn] at he; cases he
    rw [if_neg hne] at he
    cases he
    exact ev_eq (fun _ k _ => semigroupref14_Associative_3_eq k) (ev_pos hz1 (ev_rdM ht hx0 hx1 hy0 (by omega) (ev_rdM ht a1 a2 hz0 (by omega) (ev_rdS ht hx0 hx1 fun r hr => ev_rdM ht hy0 hy1 hz0 (by omega) (ev_rdI hr a3 (by omega) (ev_npos hne (ev_ret (hf _ ha))))))))
  · intro hn
    refine ev_eq (fun _ k _ => semigroupref14_Associative_3_eq k) (ev_neg (by omega) ?_)
    rw [W_add hy0 hy1 (by omega)]
    exact h hn
theorem semigroupref14_Associative_l1 {s : Sl} {t : List (List Int)} {H : AH} {lo : Nat} (ht : Tab H s t) (hs : Sq t) : Ev (fun ρ k κ => semigroupref14_Associative_1 k s (t.length : Int) 0 lo H κ) (Is ((tri t).elim (0, 0, 0, 0) (fun a => (a.1, a.2.1, a.2.2, 5))) H) := by
  have hle := hs.le
  have hl := ht.len
  refine ev_fnd (f := fun x => fnd (fun y => fnd (fun z => if M t (M t x y) z = M t x (M t y z) then none else some (x, y, z)) 0 t.length) 0 t.length) (g := fun x ρ k κ => semigroupref14_Associative_1 k s (t.length : Int) x lo H κ) (t.length : Int) ?_ 0 t.length (by omega) (by omega) ?_ ?_
  · intro x hx0 hx1 hn H'
    refine ev_eq (fun _ k _ => semigroupref14_Associative_1_eq k) (ev_pos hx1 ?_)
    rw [hl]
    refine ev_fnd (f := fun y => fnd (fun z => if M t (M t x y) z = M t x (M t y z) then none else some (x, y, z)) 0 t.length) (g := fun y ρ k κ => semigroupref14_Associative_2 k s x (t.length : Int) x (t.length : Int) y lo H κ) (t.length : Int) ?_ 0 t.length (by omega) (by omega) ?_ ?_
    · intro y hy0 hy1 hn2 H'
      refine ev_eq (fun _ k _ => semigroupref14_Associative_2_eq k) (ev_pos hy1 ?_)
      rw [hl]
      exact semigroupref14_Associative_l3 ht hs hx0 hx1 hy0 hy1 (fun a ha => by rw [hn2] at ha; cases ha) (fun _ => H')
    · intro y a _ _ _ ha; rw [hn] at ha; cases ha
    · intro _
      refine ev_eq (fun _ k _ => semigroupref14_Associative_2_eq k) (ev_neg (by omega) ?_)
      rw [W_add hx0 hx1 (by omega)]
      exact H'
  · intro x a hx0 hx1 hfx hfa
    refine ev_eq (fun _ k _ => semigroupref14_Associative_1_eq k) (ev_pos hx1 ?_)
    rw [hl]
    refine ev_fnd (f := fun y => fnd (fun z => if M t (M t x y) z = M t x (M t y z) then none else some (x, y, z)) 0 t.length) (g := fun y ρ k κ => semigroupref14_Associative_2 k s x (t.length : Int) x (t.length : Int) y lo H κ) (t.length : Int) ?_ 0 t.length (by omega) (by omega) ?_ ?_
    · intro y hy0 hy1 hn2 H'
      refine ev_eq (fun _ k _ => semigroupref14_Associative_2_eq k) (ev_pos hy1 ?_)
      rw [hl]
      exact semigroupref14_Associative_l3 ht hs hx0 hx1 hy0 hy1 (fun a ha => by rw [hn2] at ha; cases ha) (fun _ => H')
    · intro y b hy0 hy1 hfy hfb
      refine ev_eq (fun _ k _ => semigroupref14_Associative_2_eq k) (ev_pos hy1 ?_)
      rw [hl]
      refine semigroupref14_Associative_l3 ht hs hx0 hx1 hy0 hy1 (fun c hc => ⟨?_, rfl⟩) (fun hn => by rw [hfy] at hn; cases hn)
      rw [hfy] at hc; cases hc
      rw [hfx] at hfb; cases hfb
      rw [show tri t = some a from hfa]; rfl
    · intro hn; rw [hfx] at hn; cases hn
  · intro hn
    refine ev_eq (fun _ k _ => semigroupref14_Associative_1_eq k) (ev_neg (by omega) (ev_ret ⟨?_, rfl⟩))
    unfold tri
    rw [hn]
    rfl
theorem mult_Validate_ev {s : Sl} {t : List (List Int)} {H : AH} {lo : Nat} (ht : In2 t) (hs : Tab H s t) : Ev (fun ρ k κ => mult_Validate k s lo H κ) (Is (val t) H) := by
  unfold val
  refine ev_eq (fun _ k _ => mult_Validate_eq k) (ev_is (mult_shape_ev ht hs) ?_)
  by_cases h : shp t = 0
  · rw [if_pos h]
    refine ev_nneg h (ev_is (F' := fun ρ k κ => mult_failing k s H.length H κ) (ev_eq (fun _ k _ => mult_failing_eq k) (by rw [hs.len]; exact mult_failing_l1 hs (shp_sq.1 h))) ?_)
    cases tri t with
    | none => exact ev_f rfl (ev_ret ⟨by simp, rfl⟩)
    | some a => exact ev_t rfl (ev_ret ⟨by simp, rfl⟩)
  · rw [if_neg h]
    exact ev_npos h (ev_ret ⟨rfl, rfl⟩)
/-- What Associative answers. -/
noncomputable def asc4 (t : List (List Int)) : Int × Int × Int × Int := if shp t = 0 then ((tri t).elim (0, 0, 0, 0) (fun a => (a.1, a.2.1, a.2.2, 5))) else (0, 0, 0, shp t)
theorem asc4_val (t : List (List Int)) : (asc4 t).2.2.2 = val t := by
  unfold asc4 val
  split
  · cases tri t <;> rfl
  · rfl
theorem semigroupref14_Associative_ev {s : Sl} {t : List (List Int)} {H : AH} {lo : Nat} (ht : In2 t) (hs : Tab H s t) : Ev (fun ρ k κ => semigroupref14_Associative k s lo H κ) (Is (asc4 t) H) := by
  unfold asc4
  refine ev_eq (fun _ k _ => semigroupref14_Associative_eq k) (ev_is (semigroupref14_Shape_ev ht hs) ?_)
  by_cases h : shp t = 0
  · rw [if_pos h]
    refine ev_nneg h ?_
    rw [hs.len]
    exact semigroupref14_Associative_l1 hs (shp_sq.1 h)
  · rw [if_neg h]
    exact ev_npos h (ev_ret ⟨rfl, rfl⟩)
theorem semigroupref14_Validate_ev {s : Sl} {t : List (List Int)} {H : AH} {lo : Nat} (ht : In2 t) (hs : Tab H s t) : Ev (fun ρ k κ => semigroupref14_Validate k s lo H κ) (Is (val t) H) :=
  ev_eq (fun _ k _ => semigroupref14_Validate_eq k) (ev_is (semigroupref14_Associative_ev ht hs) (ev_ret ⟨asc4_val t, rfl⟩))
theorem semigroupref14_Valid_ev {s : Sl} {t : List (List Int)} {H : AH} {lo : Nat} (ht : In2 t) (hs : Tab H s t) : Ev (fun ρ k κ => semigroupref14_Valid k s lo H κ) (Is (decide (val t = 0)) H) :=
  ev_eq (fun _ k _ => semigroupref14_Valid_eq k) (ev_is (semigroupref14_Validate_ev ht hs) (ev_ret ⟨rfl, rfl⟩))
end Go.Ab

/- Layer 14: identity, zero, powers, index and period. What they answer. No condition but that a table comes in. -/
set_option linter.unusedVariables false
set_option linter.unusedSimpArgs false
namespace Go.Ab
open Go
open Classical
theorem semigroupref14_Identity_l1 {s : Sl} {t : List (List Int)} {H : AH} {lo : Nat} (ht : Tab H s t) (hs : Sq t) : Ev (fun ρ k κ => semigroupref14_Identity_1 k s (t.length : Int) 0 lo H κ) (Is (idn t) H) := by
  have hle := hs.le
  have hpos := hs.pos
  have hl := ht.len
  have round : ∀ e : Int, 0 ≤ e → e < (t.length : Int) → ∀ Q : Int → AH → Prop, (IsId t e → Q e H) → (¬ IsId t e → Ev (fun ρ k κ => semigroupref14_Identity_1 k s (t.length : Int) (e + 1) lo H κ) Q) → Ev (fun ρ k κ => semigroupref14_Identity_1 k s (t.length : Int) e lo H κ) Q := by
    intro e he0 he1 Q q1 q2
    have r1 := hs.row e he0 he1
    refine ev_eq (fun _ k _ => semigroupref14_Identity_1_eq k) (ev_pos he1 ?_)
    rw [hl]
    refine ev_all (g := fun y a ρ k κ => semigroupref14_Identity_2 k s e a (t.length : Int) e (t.length : Int) y lo H κ) (t.length : Int) (fun y => M t e y = y ∧ M t y e = y) (by omega) ?_ ?_
    · intro y b hy0 hy1 H'
      have r2 := hs.row y hy0 hy1
      refine ev_eq (fun _ k _ => semigroupref14_Identity_2_eq k) (ev_pos hy1 ?_)
      rw [W_add hy0 hy1 (by omega)]
      refine ev_andI (c := b && decide (M t e y = y)) (fun hb => ?_) (fun hb => by simp [hb]) ?_
      · exact ev_rdM ht he0 he1 hy0 (by omega) (ev_ret ⟨by simp [hb], rfl⟩)
      refine ev_andI (c := (b && decide (M t e y = y)) && decide (M t y e = y)) (fun hb => ?_) (fun hb => by simp [hb]) (H' _ (by simp [and_assoc]))
      exact ev_rdM ht hy0 hy1 he0 (by omega) (ev_ret ⟨by rw [hb, Bool.true_and], rfl⟩)
    · intro c hc
      refine ev_eq (fun _ k _ => semigroupref14_Identity_2_eq k) (ev_neg (by omega) (ev_b (fun hb => ev_ret (q1 (hc.1 hb))) fun hb => ?_))
      rw [W_add he0 he1 (by omega)]
      exact q2 fun hp => by rw [hc.2 hp] at hb; cases hb
  refine ev_first (g := fun e ρ k κ => semigroupref14_Identity_1 k s (t.length : Int) e lo H κ) t.length (IsId t) ?_ ?_ ?_
  · intro e he0 he1 hp H'
    exact round e he0 he1 _ (fun h => absurd h hp) (fun _ => H')
  · intro e he0 he1 hp hf
    exact round e he0 he1 _ (fun _ => ⟨hf.symm, rfl⟩) (fun h => absurd hp h)
  · intro hf
    exact ev_eq (fun _ k _ => semigroupref14_Identity_1_eq k) (ev_neg (by omega) (ev_ret ⟨hf.symm, rfl⟩))
theorem va_of {t : List (List Int)} (h : val t = 0) : Va t := val_va.1 h
theorem semigroupref14_Identity_ev {s : Sl} {t : List (List Int)} {H : AH} {lo : Nat} (hv : Sq t) (hs : Tab H s t) : Ev (fun ρ k κ => semigroupref14_Identity k s lo H κ) (Is (idn t) H) :=
  ev_eq (fun _ k _ => semigroupref14_Identity_eq k) (by rw [hs.len]; exact semigroupref14_Identity_l1 hs hv)
end Go.Ab

/- Groups: inverses, of, IsGroup; Inverse and IsGroup of the reference. What they answer. No condition but that a table comes in. -/
set_option linter.unusedVariables false
set_option linter.unusedSimpArgs false
namespace Go.Ab
open Go
theorem group_inverses_l5 {s : Sl} {t : List (List Int)} {H0 : AH} {lo b : Nat} {Q : (Int × Sl × Bool) → AH → Prop} (hTab : ∀ H, Le H0 H → Tab H s t) (hlo : lo ≤ b) (hb : H0.length ≤ b) (hv : Va t) (hi : 0 ≤ idn t) {x : Int} (x0 : 0 ≤ x) (x1 : x < (t.length : Int)) {inv : List Int} {H : AH} (hle : Le H0 H) (hbk : BlkI H b inv) (hl : inv.length = t.length)
    (hn : (¬ ∃ y : Int, 0 ≤ y ∧ y < (t.length : Int) ∧ InvP t x y) → ∀ H', Le H0 H' → Q (0, ⟨none, 0⟩, false) H')
    (hc : ∀ inv' H', Le H0 H' → BlkI H' b inv' → inv'.length = t.length → (∀ x' : Int, 0 ≤ x' → x' ≠ x → rd inv' x' = rd inv x') → rd inv' x = invOf t x → 0 ≤ invOf t x → Ev (fun ρ k κ => group_inverses_4 k s (idn t) (sl0 b t.length) (t.length : Int) (x + 1) lo H' κ) Q) (hm : rd inv x = -1) :
    Ev (fun ρ k κ => group_inverses_5 k s (idn t) (sl0 b t.length) x (t.length : Int) x (t.length : Int) 0 lo H κ) Q := by
  have hs := hv.toSq
  have hle4 := hs.le
  have r1 := hs.row x x0 x1
  refine ev_loop (α := List Int × AH) (g := fun y st ρ k κ => group_inverses_5 k s (idn t) (sl0 b t.length) x (t.length : Int) x (t.length : Int) y lo st.2 κ) (t.length : Int)
    (fun y st => Le H0 st.2 ∧ BlkI st.2 b st.1 ∧ st.1.length = t.length ∧ (∀ x' : Int, 0 ≤ x' → x' ≠ x → rd st.1 x' = rd inv x') ∧ ((rd st.1 x = -1 ∧ ∀ y' : Int, 0 ≤ y' → y' < y → ¬ InvP t x y') ∨ (0 ≤ rd st.1 x ∧ rd st.1 x < (t.length : Int) ∧ InvP t x (rd st.1 x)))) ?_ ?_ 0 (inv, H) (by omega) (by omega)
    ⟨hle, hbk, hl, fun _ _ _ => rfl, .inl ⟨hm, fun y' a b => by omega⟩⟩
  · intro y ⟨i, H1⟩ hy0 hy1 ⟨g1, g2, i1, i2, i3⟩ hk
    simp only at g1 g2 i1 i2 i3
    have r2 := hs.row y hy0 hy1
    have ht := hTab _ g1
    refine ev_eq (fun _ k _ => group_inverses_5_eq k) (ev_pos hy1 (ev_rdM ht x0 x1 hy0 (by omega) (ev_andP (c := M t y x = idn t) (fun _ => ev_rdM ht hy0 hy1 x0 (by omega) (ev_ret ⟨rfl, rfl⟩)) (ev_if (fun hp => ?_) (fun hp => ?_)))))
    · have hp : InvP t x y := hp
      refine ev_put (e := fun n : Int => .int .i64 n) g2 i1.symm hlo x0 (by omega) fun H' hH' hbk' => ev_eq (fun _ k _ => group_inverses_6_eq k) ?_
      rw [W_add hy0 hy1 (by omega)]
      refine hk (i.set x.toNat y, H') ⟨by rw [hH']; exact g1.set hb _, hbk', by simpa using i1, fun x' a b => by rw [rd_set x0 (by omega) a, if_neg b]; exact i2 x' a b, .inr ?_⟩
      simp only [rd_set x0 (show x < (i.length : Int) by omega) x0, if_true]
      exact ⟨hy0, hy1, hp⟩
    · have hp : ¬ InvP t x y := hp
      refine ev_eq (fun _ k _ => group_inverses_6_eq k) ?_
      rw [W_add hy0 hy1 (by omega)]
      refine hk (i, H1) ⟨g1, g2, i1, i2, ?_⟩
      rcases i3 with ⟨a, b⟩ | h
      · refine .inl ⟨a, fun y' c d => ?_⟩
        by_cases hyy : y' = y
        · rw [hyy]; exact hp
        · exact b y' c (by omega)
      · exact .inr h
  · intro ⟨i, H1⟩ ⟨g1, g2, i1, i2, i3⟩
    simp only at g1 g2 i1 i2 i3
    have hr := g2.row
    rw [i1] at hr
    refine ev_eq (fun _ k _ => group_inverses_5_eq k) (ev_neg (by omega) (ev_rdI hr x0 (by omega) ?_))
    rcases i3 with ⟨a, b⟩ | ⟨a, b, c⟩
    · exact ev_pos (by omega) (ev_ret (hn (fun ⟨y, y0, y1, hy⟩ => b y y0 y1 hy) _ g1))
    · have e := invOf_eq hv hi x0 x1 a b c
      rw [W_add x0 x1 (by omega)]
      exact ev_neg (by omega) (hc i H1 g1 g2 i1 i2 e.symm (by omega))
theorem group_inverses_l3 {s : Sl} {t : List (List Int)} {H : AH} {lo : Nat} (ht : Tab H s t) (hlo : lo ≤ H.length) (hv : Va t) {e : Int} (he : e = idn t) : Ev (fun ρ k κ => group_inverses_3 k s e lo H κ) (fun r H' => Le H H' ∧ (r.2.2 = true ↔ Grp t)) := by
  subst he
  have hs := hv.toSq
  have hle := hs.le
  have hpos := hs.pos
  by_cases hi : 0 ≤ idn t
  case neg =>
    refine ev_eq (fun _ k _ => group_inverses_3_eq k) (ev_pos (by omega) (ev_ret ⟨Le.refl _, ?_⟩))
    simp
    exact fun h => hi h.id0
  refine ev_eq (fun _ k _ => group_inverses_3_eq k) (ev_neg (by omega) ?_)
  rw [ht.len]
  refine ev_mks (by omega) (by omega) (by omega) ?_
  rw [flatten_rep]
  have e : (List.replicate ((t.length : Int).toNat) (AV.int .i64 0)) = (List.replicate t.length (0 : Int)).map (fun n => .int .i64 n) := by simp
  rw [e]
  refine ev_loop (α := List Int × AH) (g := fun x st ρ k κ => group_inverses_4 k s (idn t) (sl0 H.length t.length) (t.length : Int) x lo st.2 κ) (t.length : Int)
    (fun x st => Le H st.2 ∧ BlkI st.2 H.length st.1 ∧ st.1.length = t.length ∧ ∀ x' : Int, 0 ≤ x' → x' < x → ∃ y : Int, 0 ≤ y ∧ y < (t.length : Int) ∧ InvP t x' y) ?_ ?_ 0 (List.replicate t.length (0 : Int), _) (by omega) (by omega) ⟨⟨_, rfl⟩, Blk1.new _ _ _, by simp, fun x' a b => by omega⟩
  · intro x ⟨inv, H1⟩ x0 x1 ⟨h0, h1, h2, h3⟩ hk
    simp only at h0 h1 h2 h3
    refine ev_eq (fun _ k _ => group_inverses_4_eq k) (ev_pos x1 (ev_put (e := fun n : Int => .int .i64 n) h1 h2.symm hlo x0 (by omega) fun H' hH' hbk' => ?_))
    rw [ht.len]
    refine group_inverses_l5 (H0 := H) (fun H' hl => ht.le hl) hlo (Nat.le_refl _) hv hi x0 x1 (by rw [hH']; exact h0.set (Nat.le_refl _) _) hbk' (by simpa using h2) (fun hn H' hl => ⟨hl, ?_⟩) ?_ (by rw [rd_set x0 (by omega) x0, if_pos rfl])
    · simp
      exact fun hg => hn (hg.inv x x0 x1)
    · intro inv' H2 g0 g1 g2 g3 g4 g5
      refine hk (inv', H2) ⟨g0, g1, g2, fun x' a b => ?_⟩
      by_cases hx : x' = x
      · rw [hx]
        rcases first_spec (n := t.length) (P := InvP t x) with ⟨e, _⟩ | ⟨a, b, c, _⟩
        · unfold invOf at g5; omega
        · exact ⟨_, a, b, c⟩
      · exact h3 x' a (by omega)
  · intro ⟨inv, H1⟩ ⟨h0, h1, h2, h3⟩
    exact ev_eq (fun _ k _ => group_inverses_4_eq k) (ev_neg (by omega) (ev_ret ⟨h0, by simp; exact ⟨hv, hi, h3⟩⟩))
theorem group_inverses_ev {s : Sl} {t : List (List Int)} {H : AH} {lo : Nat} (ht : Tab H s t) (hlo : lo ≤ H.length) (hv : Va t) : Ev (fun ρ k κ => group_inverses k s lo H κ) (fun r H' => Le H H' ∧ (r.2.2 = true ↔ Grp t)) := by
  have hs := hv.toSq
  have hle := hs.le
  have hpos := hs.pos
  refine ev_eq (fun _ k _ => group_inverses_eq k) ?_
  rw [ht.len]
  have round : ∀ e : Int, 0 ≤ e → e < (t.length : Int) → (∀ j : Int, 0 ≤ j → j < e → ¬ IsId t j) → (¬ IsId t e → Ev (fun ρ k κ => group_inverses_1 k s (-1) (t.length : Int) (e + 1) lo H κ) (fun r H' => Le H H' ∧ (r.2.2 = true ↔ Grp t))) → Ev (fun ρ k κ => group_inverses_1 k s (-1) (t.length : Int) e lo H κ) (fun r H' => Le H H' ∧ (r.2.2 = true ↔ Grp t)) := by
    intro e he0 he1 hf q2
    have r1 := hs.row e he0 he1
    refine ev_eq (fun _ k _ => group_inverses_1_eq k) (ev_pos he1 ?_)
    rw [ht.len]
    refine ev_all (g := fun y a ρ k κ => group_inverses_2 k s (-1) e a (t.length : Int) e (t.length : Int) y lo H κ) (t.length : Int) (fun y => M t e y = y ∧ M t y e = y) (by omega) ?_ ?_
    · intro y b hy0 hy1 H'
      have r2 := hs.row y hy0 hy1
      refine ev_eq (fun _ k _ => group_inverses_2_eq k) (ev_pos hy1 ?_)
      rw [W_add hy0 hy1 (by omega)]
      refine ev_andI (c := b && decide (M t e y = y)) (fun hb => ?_) (fun hb => by simp [hb]) ?_
      · exact ev_rdM ht he0 he1 hy0 (by omega) (ev_ret ⟨by simp [hb], rfl⟩)
      refine ev_andI (c := (b && decide (M t e y = y)) && decide (M t y e = y)) (fun hb => ?_) (fun hb => by simp [hb]) (H' _ (by simp [and_assoc]))
      exact ev_rdM ht hy0 hy1 he0 (by omega) (ev_ret ⟨by rw [hb, Bool.true_and], rfl⟩)
    · intro c hc
      refine ev_eq (fun _ k _ => group_inverses_2_eq k) (ev_neg (by omega) (ev_b (fun hb => group_inverses_l3 ht hlo hv (first_eq he0 he1 (hc.1 hb) hf).symm) fun hb => ?_))
      rw [W_add he0 he1 (by omega)]
      exact q2 fun hp => by rw [hc.2 hp] at hb; cases hb
  refine ev_for0 (g := fun e ρ k κ => group_inverses_1 k s (-1) (t.length : Int) e lo H κ) (t.length : Int) (fun i => ∀ j : Int, 0 ≤ j → j < i → ¬ IsId t j) ?_ ?_ 0 (by omega) (by omega) (fun j a b => by omega)
  · intro e he0 he1 hf
    by_cases hp : IsId t e
    · exact .inl (round e he0 he1 hf (fun h => absurd hp h))
    · refine .inr ⟨fun j j0 j1 => ?_, fun H' => round e he0 he1 hf (fun _ => H')⟩
      by_cases hj : j = e
      · rw [hj]; exact hp
      · exact hf j j0 (by omega)
  · intro hf
    exact ev_eq (fun _ k _ => group_inverses_1_eq k) (ev_neg (by omega) (group_inverses_l3 ht hlo hv (first_no fun i a b => hf i a b).symm))
theorem group_of_ev {s : Sl} {t : List (List Int)} {H : AH} {lo : Nat} (hlo : lo ≤ H.length) (ht : In2 t) (hs : Tab H s t) : Ev (fun ρ k κ => group_of k s lo H κ) (fun r H' => Le H H' ∧ (r.2.2.2 = true ↔ Grp t)) := by
  refine ev_eq (fun _ k _ => group_of_eq k) (ev_alcB fun p H2 hp hpb l2 => ev_is (mult_Validate_ev ht (hs.le l2)) (ev_nif (fun hv => ?_) (fun hv => ?_)))
  · refine ev_stnB hp rfl (by omega) fun H5 e5 hp5 => ?_
    refine ev_ldnB (n := 3) hp5 rfl ?_
    refine ev_ret ⟨by rw [e5]; exact l2.set (by omega) _, ?_⟩
    simp
    exact fun hg => hv (val_va.2 hg.toVa)
  · refine ev_call (group_inverses_ev (hs.le l2) (Nat.le_refl _) (va_of hv)) fun r H10 ⟨l10, hr⟩ => ?_
    refine ev_stnB (hp.le l10) rfl (by omega) fun H5 e5 hp5 => ?_
    refine ev_ldnB (n := 3) hp5 rfl ?_
    exact ev_ret ⟨by rw [e5]; exact (l2.trans l10).set (by omega) _, hr⟩
theorem group_IsGroup_ev {s : Sl} {t : List (List Int)} {H : AH} {lo : Nat} {b : Bool} (hlo : lo ≤ H.length) (ht : In2 t) (hs : Tab H s t) (hb : b = true ↔ Grp t) : Ev (fun ρ k κ => group_IsGroup k s lo H κ) (fun v H' => v = b ∧ Le H H') := by
  refine ev_eq (fun _ k _ => group_IsGroup_eq k) (ev_call (group_of_ev (Nat.le_refl _) ht hs) fun r H2 ⟨l2, hr⟩ => ev_alcB fun p H4 hp hpb l4 => ev_stnB hp rfl ?_ fun H5 e5 hp5 => ev_ret ⟨?_, ?_⟩)
  · have := l2.len; omega
  · rw [Bool.eq_iff_iff, hr, hb]
  · rw [e5]; exact (l2.trans l4).set (by have := l2.len; omega) _
theorem semigroupref16_Inverse_ev {s : Sl} {t : List (List Int)} {H : AH} {lo : Nat} (ht : Tab H s t) (hs : Sq t) {x : Int} (x0 : 0 ≤ x) (x1 : x < (t.length : Int)) : Ev (fun ρ k κ => semigroupref16_Inverse k s x lo H κ) (Is (invOf t x) H) := by
  have hle := hs.le
  have r1 := hs.row x x0 x1
  refine ev_eq (fun _ k _ => semigroupref16_Inverse_eq k) (ev_is (semigroupref14_Identity_ev hs ht) ?_)
  rw [ht.len]
  refine ev_first (g := fun y ρ k κ => semigroupref16_Inverse_1 k s x (idn t) (t.length : Int) y lo H κ) t.length (InvP t x) ?_ ?_ ?_
  · intro y y0 y1 hp H'
    have r2 := hs.row y y0 y1
    refine ev_eq (fun _ k _ => semigroupref16_Inverse_1_eq k) (ev_pos y1 (ev_rdM ht x0 x1 y0 (by omega) (ev_andP (c := M t y x = idn t) (fun _ => ev_rdM ht y0 y1 x0 (by omega) (ev_ret ⟨rfl, rfl⟩)) (ev_neg hp ?_))))
    rw [W_add y0 y1 (by omega)]
    exact H'
  · intro y y0 y1 hp hf
    have r2 := hs.row y y0 y1
    exact ev_eq (fun _ k _ => semigroupref16_Inverse_1_eq k) (ev_pos y1 (ev_rdM ht x0 x1 y0 (by omega) (ev_andP (c := M t y x = idn t) (fun _ => ev_rdM ht y0 y1 x0 (by omega) (ev_ret ⟨rfl, rfl⟩)) (ev_pos hp (ev_ret ⟨hf.symm, rfl⟩)))))
  · intro hf
    exact ev_eq (fun _ k _ => semigroupref16_Inverse_1_eq k) (ev_neg (by omega) (ev_ret ⟨hf.symm, rfl⟩))
theorem semigroupref16_IsGroup_ev {s : Sl} {t : List (List Int)} {H : AH} {lo : Nat} {b : Bool} (ht : In2 t) (hs : Tab H s t) (hb : b = true ↔ Grp t) : Ev (fun ρ k κ => semigroupref16_IsGroup k s lo H κ) (Is b H) := by
  refine ev_eq (fun _ k _ => semigroupref16_IsGroup_eq k) (ev_is (semigroupref14_Valid_ev ht hs) ?_)
  by_cases hv : val t = 0
  case neg =>
    refine ev_orI (c := true) (fun h => by simp [hv] at h) (fun _ => rfl) (ev_t rfl (ev_ret ⟨?_, rfl⟩))
    rw [eq_comm, Bool.eq_false_iff]
    exact fun h => hv (val_va.2 (hb.1 h).toVa)
  have va := va_of hv
  have hsq := va.toSq
  have hle := hsq.le
  have hpos := hsq.pos
  refine ev_orI (c := decide (idn t < 0)) (fun _ => ev_is (semigroupref14_Identity_ev hsq hs) (ev_ret ⟨rfl, rfl⟩)) (fun h => by simp [hv] at h) (ev_if (fun hi => ev_ret ⟨?_, rfl⟩) (fun hi => ?_))
  · rw [eq_comm, Bool.eq_false_iff]
    intro h; have := (hb.1 h).id0; omega
  rw [hs.len]
  refine ev_for0 (g := fun x ρ k κ => semigroupref16_IsGroup_1 k s (t.length : Int) x lo H κ) (t.length : Int) (fun x => ∀ x' : Int, 0 ≤ x' → x' < x → ∃ y : Int, 0 ≤ y ∧ y < (t.length : Int) ∧ InvP t x' y) ?_ ?_ 0 (by omega) (by omega) (fun _ a b => by omega)
  · intro x x0 x1 hx
    rcases first_spec (n := t.length) (P := InvP t x) with ⟨e, hn⟩ | ⟨a, b', c, _⟩
    · left
      refine ev_eq (fun _ k _ => semigroupref16_IsGroup_1_eq k) (ev_pos x1 (ev_is (semigroupref16_Inverse_ev hs hsq x0 x1) (ev_pos (by unfold invOf; omega) (ev_ret ⟨?_, rfl⟩))))
      rw [eq_comm, Bool.eq_false_iff]
      intro h
      obtain ⟨y, y0, y1, hy⟩ := (hb.1 h).inv x x0 x1
      exact hn y y0 y1 hy
    · right
      refine ⟨fun x' a' b' => ?_, fun H' => ?_⟩
      · by_cases hxx : x' = x
        · rw [hxx]; exact ⟨_, a, by assumption, c⟩
        · exact hx x' a' (by omega)
      · refine ev_eq (fun _ k _ => semigroupref16_IsGroup_1_eq k) (ev_pos x1 (ev_is (semigroupref16_Inverse_ev hs hsq x0 x1) (ev_neg (by unfold invOf; omega) ?_)))
        rw [W_add x0 x1 (by omega)]
        exact H'
  · intro hx
    exact ev_eq (fun _ k _ => semigroupref16_IsGroup_1_eq k) (ev_neg (by omega) (ev_ret ⟨(hb.2 ⟨va, by omega, hx⟩).symm, rfl⟩))

end Go.Ab

/- Rees matrix semigroups: zero, size, Validate, number. What they answer. No condition but that a structure comes in. -/
set_option linter.unusedVariables false
set_option linter.unusedSimpArgs false
namespace Go.Ab
open Go
theorem ev_siisb {A : Type} {Q : A → AH → Prop} {H : AH} {p : Pt} {a b : Sl} {m k : Int} {z : Bool} {K : (ρ : Type) → Nat → (A → AH → Option ρ) → Sl → Int → Int → Sl → Bool → Option ρ} (hp : At1 H p [.sl a, .int .i64 m, .int .i64 k, .sl b, .bool z])
    (hK : Ev (fun ρ n κ => K ρ n κ a m k b z) Q) : Ev (fun ρ n κ => ldA_siisb H p (K ρ n κ)) Q := by
  unfold ldA_siisb
  refine ev_ldnB (n := 5) hp rfl ?_
  simpa [castLfs, castLf, asS, asI, asB] using hK
theorem rees_zero_ev {g q : Sl} {m k : Int} {Z : Bool} {H : AH} {lo : Nat} : Ev (fun ρ n κ => rees_zero n g m k q Z lo H κ) (fun v H' => v = zz Z ∧ Le H H') := by
  refine ev_eq (fun _ k _ => rees_zero_eq k) (ev_alcB fun p H2 hp _ l2 => ev_fldB hp rfl (ev_b (fun h => ev_ret ⟨by simp [zz, h], l2⟩) (fun h => ev_ret ⟨by simp [zz, h], l2⟩)))
theorem rees_size_ev {g q : Sl} {m k : Int} {Z : Bool} {G : List (List Int)} {H : AH} {lo : Nat} (hl : g.len = G.length) (hg : Grp G) (m1 : 1 ≤ m) (k1 : 1 ≤ k) : Ev (fun ρ n κ => rees_size n g m k q Z lo H κ) (fun v H' => v = rsize G m k Z ∧ Le H H') := by
  have hz := zz_cases Z
  have hpos := hg.pos
  have hle := hg.le
  refine ev_eq (fun _ k _ => rees_size_eq k) (ev_alcB fun p H2 hp _ l2 => ev_fldI hp rfl (ev_orP (c := k > 400) (fun _ => ev_fldI hp rfl (ev_ret ⟨rfl, rfl⟩)) (ev_if (fun h => ev_ret ⟨?_, l2⟩) (fun h => ?_))))
  · unfold rsize; split
    · rfl
    · rw [if_pos (by omega)]
  refine ev_fldI hp rfl (ev_fldI hp rfl (ev_fldS hp rfl (ev_siisb hp (ev_call rees_zero_ev fun v H21 ⟨e, l21⟩ => ev_ret ⟨?_, l2.trans l21⟩))))
  subst e
  obtain ⟨b1, b2, b3, b4⟩ := prod_bounds m1 (by omega) k1 (by omega) hpos hle
  rw [hl, W_in (i := m * k) (by omega) (by omega), W_in (i := m * k * (G.length : Int)) (by omega) (by omega), W_in (by omega) (by omega)]
  unfold rsize
  rw [if_neg (by omega), if_neg (by omega)]
theorem rees_Validate_l2 {g q r : Sl} {m k : Int} {Z : Bool} {G P : List (List Int)} {H : AH} {lo : Nat} {Q : Int → AH → Prop} {p : Pt} (hp : At1 H p [.sl g, .int .i64 m, .int .i64 k, .sl q, .bool Z]) (hG : g.len = G.length) (hP : In2 P) (hq : Tab H q P) {l : Int} (l0 : 0 ≤ l) (l1 : l < (P.length : Int)) (hr : Row H r (R P l)) (hrm : ((R P l).length : Int) = m)
    (hb : RBad G m P Z l → Q 4 H) (hg : ¬ RBad G m P Z l → Ev (fun ρ n κ => rees_Validate_1 n (some p) q (P.length : Int) (l + 1) lo H κ) Q) :
    Ev (fun ρ n κ => rees_Validate_2 n (some p) q (P.length : Int) l r ((R P l).length : Int) 0 lo H κ) Q := by
  have hl := hP.row l0 l1
  have hPl := hP.1
  refine ev_for0 (g := fun i ρ n κ => rees_Validate_2 n (some p) q (P.length : Int) l r ((R P l).length : Int) i lo H κ) ((R P l).length : Int) (fun i => ∀ i' : Int, 0 ≤ i' → i' < i → ¬ (M P l i' < -1 ∨ (G.length : Int) ≤ M P l i' ∨ (M P l i' < 0 ∧ Z = false))) ?_ ?_ 0 (by omega) (by omega) (fun i a b => by omega)
  · intro i i0 i1 hi
    have step : ∀ Q' : Int → AH → Prop, ((M P l i < -1 ∨ (G.length : Int) ≤ M P l i ∨ (M P l i < 0 ∧ Z = false)) → Q' 4 H) → (¬ (M P l i < -1 ∨ (G.length : Int) ≤ M P l i ∨ (M P l i < 0 ∧ Z = false)) → Ev (fun ρ n κ => rees_Validate_2 n (some p) q (P.length : Int) l r ((R P l).length : Int) (i + 1) lo H κ) Q') →
        Ev (fun ρ n κ => rees_Validate_2 n (some p) q (P.length : Int) l r ((R P l).length : Int) i lo H κ) Q' := by
      intro Q' c1 c2
      refine ev_eq (fun _ k _ => rees_Validate_2_eq k) (ev_pos i1 (ev_rdI hr i0 i1 (ev_orP (c := M P l i ≥ (g.len : Int)) (fun _ => ev_fldS hp rfl (ev_ret ⟨rfl, rfl⟩)) ?_)))
      refine ev_orP (c := M P l i < 0 ∧ Z = false) (fun _ => ev_andP (c := Z = false) (fun _ => ev_fldB hp rfl (ev_ret ⟨by cases Z <;> rfl, rfl⟩)) (ev_ret ⟨rfl, rfl⟩)) (ev_if (fun h => ev_ret (c1 ?_)) (fun h => ?_))
      · rw [hG] at h
        rcases h with (h | h) | h
        · exact .inl h
        · exact .inr (.inl h)
        · exact .inr (.inr h)
      · rw [W_add i0 i1 (by omega)]
        refine c2 fun hx => h ?_
        rw [hG]
        rcases hx with h | h | h
        · exact .inl (.inl h)
        · exact .inl (.inr h)
        · exact .inr h
    by_cases hbad : M P l i < -1 ∨ (G.length : Int) ≤ M P l i ∨ (M P l i < 0 ∧ Z = false)
    · exact .inl (step _ (fun _ => hb (.inr ⟨i, i0, i1, hbad⟩)) (fun h => absurd hbad h))
    · refine .inr ⟨fun j j0 j1 => ?_, fun H' => step _ (fun h => absurd h hbad) (fun _ => H')⟩
      by_cases hj : j = i
      · rw [hj]; exact hbad
      · exact hi j j0 (by omega)
  · intro hi
    refine ev_eq (fun _ k _ => rees_Validate_2_eq k) (ev_neg (by omega) ?_)
    rw [W_add l0 l1 (by omega)]
    refine hg ?_
    rintro (h | ⟨i, a, b, c⟩)
    · exact h hrm
    · exact hi i a b c
theorem rees_Validate_l1 {g q : Sl} {m k : Int} {Z : Bool} {G P : List (List Int)} {H : AH} {lo : Nat} {Q : Int → AH → Prop} {p : Pt} (hp : At1 H p [.sl g, .int .i64 m, .int .i64 k, .sl q, .bool Z]) (hG : g.len = G.length) (hP : In2 P) (hq : Tab H q P)
    (hb : (∃ l : Int, 0 ≤ l ∧ l < (P.length : Int) ∧ RBad G m P Z l) → Q 4 H) (hg : (∀ l : Int, 0 ≤ l → l < (P.length : Int) → ¬ RBad G m P Z l) → Ev (fun ρ n κ => rees_size n g m k q Z H.length H fun v11 H12 => bif decide (v11 > 400) then κ 3 H12 else κ 0 H12) Q) :
    Ev (fun ρ n κ => rees_Validate_1 n (some p) q (P.length : Int) 0 lo H κ) Q := by
  refine ev_for0 (g := fun l ρ n κ => rees_Validate_1 n (some p) q (P.length : Int) l lo H κ) (P.length : Int) (fun l => ∀ l' : Int, 0 ≤ l' → l' < l → ¬ RBad G m P Z l') ?_ ?_ 0 (by omega) (by omega) (fun l a b => by omega)
  · intro l l0 l1 hl
    have step : ∀ Q' : Int → AH → Prop, (RBad G m P Z l → Q' 4 H) → (¬ RBad G m P Z l → Ev (fun ρ n κ => rees_Validate_1 n (some p) q (P.length : Int) (l + 1) lo H κ) Q') → Ev (fun ρ n κ => rees_Validate_1 n (some p) q (P.length : Int) l lo H κ) Q' := by
      intro Q' c1 c2
      refine ev_eq (fun _ k _ => rees_Validate_1_eq k) (ev_pos l1 (ev_rdS hq l0 l1 fun r hr => ?_))
      rw [hr.len]
      refine ev_fldI hp rfl (ev_nif (fun h => ev_ret (c1 (.inl h))) (fun h => rees_Validate_l2 hp hG hP hq l0 l1 hr h c1 c2))
    by_cases hbad : RBad G m P Z l
    · exact .inl (step _ (fun _ => hb ⟨l, l0, l1, hbad⟩) (fun h => absurd hbad h))
    · refine .inr ⟨fun j j0 j1 => ?_, fun H' => step _ (fun h => absurd h hbad) (fun _ => H')⟩
      by_cases hj : j = l
      · rw [hj]; exact hbad
      · exact hl j j0 (by omega)
  · intro hl
    exact ev_eq (fun _ k _ => rees_Validate_1_eq k) (ev_neg (by omega) (ev_siisb hp (hg hl)))
theorem rees_Validate_ev {g q : Sl} {m k : Int} {Z : Bool} {G P : List (List Int)} {H : AH} {lo : Nat} (hG : In2 G) (hg : Tab H g G) (hP : In2 P) (hq : Tab H q P) : Ev (fun ρ n κ => rees_Validate n g m k q Z lo H κ) (fun v H' => v = rval G m k P Z ∧ Le H H') := by
  have no : ∀ {x : Prop}, ¬ RSh G m k P Z → (4 : Int) = rval G m k P Z := fun h => by unfold rval; rw [if_neg h]
  refine ev_eq (fun _ k _ => rees_Validate_eq k) (ev_alcB fun p H2 hp _ l2 => ev_fldS hp rfl (ev_call (group_IsGroup_ev (b := @decide (Grp G) (Classical.propDecidable _)) (Nat.le_refl _) hG (hg.le l2) (by simp)) fun v H6 ⟨ev, l6⟩ => ?_))
  subst ev
  have l6 := l2.trans l6
  have hp := hp.le ‹_›
  by_cases hgr : Grp G
  case neg =>
    refine ev_orI (c := true) (fun h => by simp [hgr] at h) (fun _ => rfl) (ev_orI (c := true) (fun h => by cases h) (fun _ => rfl) (ev_orI (c := true) (fun h => by cases h) (fun _ => rfl) (ev_t rfl (ev_ret ⟨no (x := True) fun h => hgr h.grp, l6⟩))))
  refine ev_orI (c := decide (m < 1)) (fun _ => ev_fldI hp rfl (ev_ret ⟨rfl, rfl⟩)) (fun h => by simp [hgr] at h) (ev_orP (c := k < 1) (fun _ => ev_fldI hp rfl (ev_ret ⟨rfl, rfl⟩)) (ev_orP (c := ¬ (P.length : Int) = k) (fun _ => ev_fldS hp rfl (ev_fldI hp rfl (ev_ret ⟨by rw [hq.len, decide_not], rfl⟩))) (ev_if (fun h => ev_ret ⟨?_, l6⟩) (fun h => ?_))))
  · refine no (x := True) fun hs => ?_
    have := hs.m1; have := hs.k1; have := hs.len
    omega
  refine ev_fldS hp rfl ?_
  rw [hq.len]
  have hsh := rsh_of (Z := Z) hgr (m := m) (k := k) (P := P) (by omega) (by omega) (by omega)
  refine rees_Validate_l1 hp hg.len hP (hq.le l6) (fun ⟨l, a, b, c⟩ => ⟨no (x := True) fun hs => hsh.2 hs l a b c, l6⟩) (fun hall => ?_)
  have hs := hsh.1 hall
  refine ev_call (rees_size_ev hg.len hgr (by omega) (by omega)) fun v H12 ⟨e, l12⟩ => ?_
  subst e
  unfold rval
  rw [if_pos hs]
  exact ev_if (fun h => ev_ret ⟨by rw [if_pos h], l6.trans l12⟩) (fun h => ev_ret ⟨by rw [if_neg h], l6.trans l12⟩)
theorem semigroupref17_Validate_l2 {g q r : Sl} {m k : Int} {Z : Bool} {G P : List (List Int)} {H : AH} {lo : Nat} {Q : Int → AH → Prop} {p : Pt} (hp : At1 H p [.sl g, .int .i64 m, .int .i64 k, .sl q, .bool Z]) (hG : g.len = G.length) (hP : In2 P) (hq : Tab H q P) {l : Int} (l0 : 0 ≤ l) (l1 : l < (P.length : Int)) (hr : Row H r (R P l)) (hrm : ((R P l).length : Int) = m)
    (hb : RBad G m P Z l → Q 4 H) (hg : ¬ RBad G m P Z l → Ev (fun ρ n κ => semigroupref17_Validate_1 n (some p) q (P.length : Int) (l + 1) lo H κ) Q) :
    Ev (fun ρ n κ => semigroupref17_Validate_2 n (some p) q (P.length : Int) l r ((R P l).length : Int) 0 lo H κ) Q := by
  have hl := hP.row l0 l1
  have hPl := hP.1
  refine ev_for0 (g := fun i ρ n κ => semigroupref17_Validate_2 n (some p) q (P.length : Int) l r ((R P l).length : Int) i lo H κ) ((R P l).length : Int) (fun i => ∀ i' : Int, 0 ≤ i' → i' < i → ¬ (M P l i' < -1 ∨ (G.length : Int) ≤ M P l i' ∨ (M P l i' < 0 ∧ Z = false))) ?_ ?_ 0 (by omega) (by omega) (fun i a b => by omega)
  · intro i i0 i1 hi
    have step : ∀ Q' : Int → AH → Prop, ((M P l i < -1 ∨ (G.length : Int) ≤ M P l i ∨ (M P l i < 0 ∧ Z = false)) → Q' 4 H) → (¬ (M P l i < -1 ∨ (G.length : Int) ≤ M P l i ∨ (M P l i < 0 ∧ Z = false)) → Ev (fun ρ n κ => semigroupref17_Validate_2 n (some p) q (P.length : Int) l r ((R P l).length : Int) (i + 1) lo H κ) Q') →
        Ev (fun ρ n κ => semigroupref17_Validate_2 n (some p) q (P.length : Int) l r ((R P l).length : Int) i lo H κ) Q' := by
      intro Q' c1 c2
      refine ev_eq (fun _ k _ => semigroupref17_Validate_2_eq k) (ev_pos i1 (ev_rdI hr i0 i1 (ev_orP (c := M P l i ≥ (g.len : Int)) (fun _ => ev_fldS hp rfl (ev_ret ⟨rfl, rfl⟩)) ?_)))
      refine ev_orP (c := M P l i < 0 ∧ Z = false) (fun _ => ev_andP (c := Z = false) (fun _ => ev_fldB hp rfl (ev_ret ⟨by cases Z <;> rfl, rfl⟩)) (ev_ret ⟨rfl, rfl⟩)) (ev_if (fun h => ev_ret (c1 ?_)) (fun h => ?_))
      · rw [hG] at h
        rcases h with (h | h) | h
        · exact .inl h
        · exact .inr (.inl h)
        · exact .inr (.inr h)
      · rw [W_add i0 i1 (by omega)]
        refine c2 fun hx => h ?_
        rw [hG]
        rcases hx with h | h | h
        · exact .inl (.inl h)
        · exact .inl (.inr h)
        · exact .inr h
    by_cases hbad : M P l i < -1 ∨ (G.length : Int) ≤ M P l i ∨ (M P l i < 0 ∧ Z = false)
    · exact .inl (step _ (fun _ => hb (.inr ⟨i, i0, i1, hbad⟩)) (fun h => absurd hbad h))
    · refine .inr ⟨fun j j0 j1 => ?_, fun H' => step _ (fun h => absurd h hbad) (fun _ => H')⟩
      by_cases hj : j = i
      · rw [hj]; exact hbad
      · exact hi j j0 (by omega)
  · intro hi
    refine ev_eq (fun _ k _ => semigroupref17_Validate_2_eq k) (ev_neg (by omega) ?_)
    rw [W_add l0 l1 (by omega)]
    refine hg ?_
    rintro (h | ⟨i, a, b, c⟩)
    · exact h hrm
    · exact hi i a b c
theorem semigroupref17_Validate_l1 {g q : Sl} {m k : Int} {Z : Bool} {G P : List (List Int)} {H : AH} {lo : Nat} {Q : Int → AH → Prop} {p : Pt} (hp : At1 H p [.sl g, .int .i64 m, .int .i64 k, .sl q, .bool Z]) (hG : g.len = G.length) (hP : In2 P) (hq : Tab H q P)
    (hb : (∃ l : Int, 0 ≤ l ∧ l < (P.length : Int) ∧ RBad G m P Z l) → Q 4 H) (hg : (∀ l : Int, 0 ≤ l → l < (P.length : Int) → ¬ RBad G m P Z l) → Ev (fun ρ n κ => semigroupref17_Validate_3 n (some p) (400 - zz Z) lo H κ) Q) :
    Ev (fun ρ n κ => semigroupref17_Validate_1 n (some p) q (P.length : Int) 0 lo H κ) Q := by
  refine ev_for0 (g := fun l ρ n κ => semigroupref17_Validate_1 n (some p) q (P.length : Int) l lo H κ) (P.length : Int) (fun l => ∀ l' : Int, 0 ≤ l' → l' < l → ¬ RBad G m P Z l') ?_ ?_ 0 (by omega) (by omega) (fun l a b => by omega)
  · intro l l0 l1 hl
    have step : ∀ Q' : Int → AH → Prop, (RBad G m P Z l → Q' 4 H) → (¬ RBad G m P Z l → Ev (fun ρ n κ => semigroupref17_Validate_1 n (some p) q (P.length : Int) (l + 1) lo H κ) Q') → Ev (fun ρ n κ => semigroupref17_Validate_1 n (some p) q (P.length : Int) l lo H κ) Q' := by
      intro Q' c1 c2
      refine ev_eq (fun _ k _ => semigroupref17_Validate_1_eq k) (ev_pos l1 (ev_rdS hq l0 l1 fun r hr => ?_))
      rw [hr.len]
      refine ev_fldI hp rfl (ev_nif (fun h => ev_ret (c1 (.inl h))) (fun h => semigroupref17_Validate_l2 hp hG hP hq l0 l1 hr h c1 c2))
    by_cases hbad : RBad G m P Z l
    · exact .inl (step _ (fun _ => hb ⟨l, l0, l1, hbad⟩) (fun h => absurd hbad h))
    · refine .inr ⟨fun j j0 j1 => ?_, fun H' => step _ (fun h => absurd h hbad) (fun _ => H')⟩
      by_cases hj : j = l
      · rw [hj]; exact hbad
      · exact hl j j0 (by omega)
  · intro hl
    refine ev_eq (fun _ k _ => semigroupref17_Validate_1_eq k) (ev_neg (by omega) (ev_fldB hp rfl (ev_b (fun h => ?_) (fun h => ?_))))
    · have := hg hl
      rw [show (400 : Int) - zz Z = 400 - 1 by simp [zz, h]] at this
      rw [W_in (by omega) (by omega)]; exact this
    · have := hg hl
      rw [show (400 : Int) - zz Z = 400 by simp [zz, h]] at this
      exact this
theorem semigroupref17_Validate_ev {g q : Sl} {m k : Int} {Z : Bool} {G P : List (List Int)} {H : AH} {lo : Nat} (hG : In2 G) (hg : Tab H g G) (hP : In2 P) (hq : Tab H q P) : Ev (fun ρ n κ => semigroupref17_Validate n g m k q Z lo H κ) (fun v H' => v = rval G m k P Z ∧ Le H H') := by
  have no : ∀ {x : Prop}, ¬ RSh G m k P Z → (4 : Int) = rval G m k P Z := fun h => by unfold rval; rw [if_neg h]
  refine ev_eq (fun _ k _ => semigroupref17_Validate_eq k) (ev_alcB fun p H2 hp _ l2 => ev_fldS hp rfl (ev_is (semigroupref16_IsGroup_ev (b := @decide (Grp G) (Classical.propDecidable _)) hG (hg.le l2) (by simp)) ?_))
  by_cases hgr : Grp G
  case neg =>
    refine ev_orI (c := true) (fun h => by simp [hgr] at h) (fun _ => rfl) (ev_orI (c := true) (fun h => by cases h) (fun _ => rfl) (ev_orI (c := true) (fun h => by cases h) (fun _ => rfl) (ev_t rfl (ev_ret ⟨no (x := True) fun h => hgr h.grp, l2⟩))))
  refine ev_orI (c := decide (m < 1)) (fun _ => ev_fldI hp rfl (ev_ret ⟨rfl, rfl⟩)) (fun h => by simp [hgr] at h) (ev_orP (c := k < 1) (fun _ => ev_fldI hp rfl (ev_ret ⟨rfl, rfl⟩)) (ev_orP (c := ¬ (P.length : Int) = k) (fun _ => ev_fldS hp rfl (ev_fldI hp rfl (ev_ret ⟨by rw [hq.len, decide_not], rfl⟩))) (ev_if (fun h => ev_ret ⟨?_, l2⟩) (fun h => ?_))))
  · refine no (x := True) fun hs => ?_
    have := hs.m1; have := hs.k1; have := hs.len
    omega
  refine ev_fldS hp rfl ?_
  rw [hq.len]
  have hsh := rsh_of (Z := Z) hgr (m := m) (k := k) (P := P) (by omega) (by omega) (by omega)
  refine semigroupref17_Validate_l1 hp hg.len hP (hq.le l2) (fun ⟨l, a, b, c⟩ => ⟨no (x := True) fun hs => hsh.2 hs l a b c, l2⟩) (fun hall => ?_)
  have hs := hsh.1 hall
  have hpos := hgr.pos
  have hle := hgr.le
  have m1 := hs.m1
  have k1 := hs.k1
  have hzc := zz_cases Z
  have d1 : (400 - zz Z) / (G.length : Int) ≤ 400 - zz Z := Int.ediv_le_self _ (by omega)
  have d2 : 0 ≤ (400 - zz Z) / (G.length : Int) := Int.ediv_nonneg (by omega) (by omega)
  have d3 : (400 - zz Z) / k ≤ 400 - zz Z := Int.ediv_le_self _ (by omega)
  have d4 : 0 ≤ (400 - zz Z) / k := Int.ediv_nonneg (by omega) (by omega)
  have hh : (m > (400 - zz Z) / (G.length : Int) ∨ m * (G.length : Int) > (400 - zz Z) / k) ↔ rsize G m k Z > 400 := by
    rw [ref_limit m1 k1 (by omega) (by omega)]
    unfold rsize
    have hmk : m * 1 ≤ m * k := Int.mul_le_mul_of_nonneg_left k1 (by omega)
    have hkm : 1 * k ≤ m * k := Int.mul_le_mul_of_nonneg_right m1 (by omega)
    have hmg : m * k * 1 ≤ m * k * (G.length : Int) := Int.mul_le_mul_of_nonneg_left (by omega) (by omega)
    split
    · omega
    split
    · omega
    · omega
  refine ev_eq (fun _ k _ => semigroupref17_Validate_3_eq k) (ev_fldI hp rfl (ev_fldS hp rfl ?_))
  rw [hg.len, Int.tdiv_eq_ediv_of_nonneg (by omega), W_in (i := (400 - zz Z) / (G.length : Int)) (by omega) (by omega)]
  refine ev_neg (by omega) (ev_orP (c := m * (G.length : Int) > (400 - zz Z) / k) (fun hn => ev_fldI hp rfl (ev_fldS hp rfl (ev_fldI hp rfl (ev_neg (by omega) ?_)))) ?_)
  · have hb : m * (G.length : Int) ≤ 400 * 400 := Int.mul_le_mul (by omega) hle (by omega) (by omega)
    have hb2 : 0 ≤ m * (G.length : Int) := Int.mul_nonneg (by omega) (by omega)
    rw [hg.len, Int.tdiv_eq_ediv_of_nonneg (by omega), W_in (i := (400 - zz Z) / k) (by omega) (by omega), W_in (i := m * (G.length : Int)) (by omega) (by omega)]
    exact ev_ret ⟨rfl, rfl⟩
  · unfold rval
    rw [if_pos hs]
    exact ev_if (fun h => ev_ret ⟨by rw [if_pos (hh.1 h)], l2⟩) (fun h => ev_ret ⟨by rw [if_neg (fun hx => h (hh.2 hx))], l2⟩)
theorem semigroupref17_base_ev {g q : Sl} {m k : Int} {Z : Bool} {H : AH} {lo : Nat} : Ev (fun ρ n κ => semigroupref17_base n g m k q Z lo H κ) (fun v H' => v = zz Z ∧ Le H H') := by
  refine ev_eq (fun _ k _ => semigroupref17_base_eq k) (ev_alcB fun p H2 hp _ l2 => ev_fldB hp rfl (ev_b (fun h => ev_ret ⟨by simp [zz, h], l2⟩) (fun h => ev_ret ⟨by simp [zz, h], l2⟩)))
theorem semigroupref17_Size_ev {g q : Sl} {m k : Int} {Z : Bool} {G P : List (List Int)} {H : AH} {lo : Nat} (hl : g.len = G.length) (h : RVa G m k P Z) : Ev (fun ρ n κ => semigroupref17_Size n g m k q Z lo H κ) (fun v H' => v = m * k * (G.length : Int) + zz Z ∧ Le H H') := by
  have hz := zz_cases Z
  have hpos := h.grp.pos
  have hle := h.grp.le
  obtain ⟨b1, b2, b3, b4⟩ := prod_bounds h.m1 h.m4 hpos hle h.k1 h.k4
  refine ev_eq (fun _ k _ => semigroupref17_Size_eq k) (ev_alcB fun p H2 hp _ l2 => ev_fldI hp rfl (ev_fldS hp rfl (ev_fldI hp rfl (ev_siisb hp (ev_call semigroupref17_base_ev fun v H15 ⟨e, l15⟩ => ev_ret ⟨?_, l2.trans l15⟩)))))
  subst e
  rw [hl, W_in (i := m * (G.length : Int)) (by omega) (by omega), W_in (i := m * (G.length : Int) * k) (by omega) (by omega), W_in (by omega) (by omega), RVa.ord]
theorem semigrouplaw17_large_ev {s : Sl} {t : List (List Int)} {H : AH} {lo : Nat} {n : Int} (ht : In2 t) (hs : Tab H s t) : Ev (fun ρ k κ => semigrouplaw17_large k s n lo H κ) (Is (decide ((t.length : Int) > n ∧ shp t = 0)) H) := by
  refine ev_eq (fun _ k _ => semigrouplaw17_large_eq k) ?_
  rw [hs.len]
  exact ev_andP (fun _ => ev_is (semigroupref14_Shape_ev ht hs) (ev_ret ⟨rfl, rfl⟩)) (ev_ret ⟨rfl, rfl⟩)
end Go.Ab

/- Rees matrix semigroups: numbers and products. What they answer. No condition but that a structure comes in. -/
set_option linter.unusedVariables false
set_option linter.unusedSimpArgs false
namespace Go.Ab
open Go
theorem rees_number_ev {g q : Sl} {m k : Int} {Z : Bool} {G P : List (List Int)} {H : AH} {lo : Nat} (hl : g.len = G.length) (h : RVa G m k P Z) {i a l : Int} (i0 : 0 ≤ i) (i1 : i < m) (a0 : 0 ≤ a) (a1 : a < (G.length : Int)) (l0 : 0 ≤ l) (l1 : l < k) :
    Ev (fun ρ n κ => rees_number n g m k q Z i a l lo H κ) (fun v H' => v = (i * (G.length : Int) + a) * k + l + zz Z ∧ Le H H') := by
  have he := h.enc i0 i1 a0 a1 l0 l1
  have hs := h.sz
  have hz := zz_cases Z
  refine ev_eq (fun _ k _ => rees_number_eq k) (ev_alcB fun p H2 hp _ l2 => ev_fldS hp rfl (ev_fldI hp rfl (ev_siisb hp (ev_call rees_zero_ev fun v H13 ⟨e, l13⟩ => ev_ret ⟨?_, l2.trans l13⟩))))
  subst e
  rw [hl, W_in (i := i * (G.length : Int)) (by omega) (by omega), W_in (i := i * (G.length : Int) + a) (by omega) (by omega), W_in (i := (i * (G.length : Int) + a) * k) (by omega) (by omega), W_in (i := (i * (G.length : Int) + a) * k + l) (by omega) (by omega), W_in (by omega) (by omega)]
theorem semigroupref17_Number_ev {g q : Sl} {m k : Int} {Z : Bool} {G P : List (List Int)} {H : AH} {lo : Nat} (hl : g.len = G.length) (h : RVa G m k P Z) {i a l : Int} :
    Ev (fun ρ n κ => semigroupref17_Number n g m k q Z i a l lo H κ) (fun v H' => v = rnum G m k Z i a l ∧ Le H H') := by
  have hs := h.sz
  have hz := zz_cases Z
  refine ev_eq (fun _ k _ => semigroupref17_Number_eq k) (ev_alcB fun p H2 hp _ l2 => ?_)
  refine ev_orP (c := i ≥ m) (fun _ => ev_fldI hp rfl (ev_ret ⟨rfl, rfl⟩)) (ev_orP (c := a < 0) (fun _ => ev_ret ⟨rfl, rfl⟩) (ev_orP (c := a ≥ (G.length : Int)) (fun _ => ev_fldS hp rfl (ev_ret ⟨by rw [hl], rfl⟩)) (ev_orP (c := l < 0) (fun _ => ev_ret ⟨rfl, rfl⟩) (ev_orP (c := l ≥ k) (fun _ => ev_fldI hp rfl (ev_ret ⟨rfl, rfl⟩)) (ev_if (fun hb => ev_ret ⟨?_, l2⟩) (fun hb => ?_))))))
  · unfold rnum; rw [if_neg (by omega)]
  have he := h.enc (i := i) (a := a) (l := l) (by omega) (by omega) (by omega) (by omega) (by omega) (by omega)
  refine ev_fldS hp rfl (ev_fldI hp rfl (ev_siisb hp (ev_call semigroupref17_base_ev fun v H29 ⟨e, l29⟩ => ev_ret ⟨?_, l2.trans l29⟩)))
  subst e
  unfold rnum
  rw [if_pos (by omega), hl, W_in (i := i * (G.length : Int)) (by omega) (by omega), W_in (i := i * (G.length : Int) + a) (by omega) (by omega), W_in (i := (i * (G.length : Int) + a) * k) (by omega) (by omega), W_in (i := (i * (G.length : Int) + a) * k + l) (by omega) (by omega), W_in (by omega) (by omega)]
theorem rees_mul_ev {g q : Sl} {m k : Int} {Z : Bool} {G P : List (List Int)} {H : AH} {lo : Nat} (hgt : Tab H g G) (hqt : Tab H q P) (h : RVa G m k P Z) {x y : Int} (x0 : 0 ≤ x) (x1 : x < m * k * (G.length : Int) + zz Z) (y0 : 0 ≤ y) (y1 : y < m * k * (G.length : Int) + zz Z) :
    Ev (fun ρ n κ => rees_mul n g m k q Z x y lo H κ) (fun v H' => v = rmul G k P Z x y ∧ Le H H') := by
  have hz := zz_cases Z
  have hsz := h.sz
  have hk := h.k1
  have hs := h.grp.toSq
  have hg := hs.pos
  refine ev_eq (fun _ k _ => rees_mul_eq k) (ev_alcB fun p H2 hp _ l2 => ev_siisb hp (ev_call rees_zero_ev fun v H9 ⟨e, l9⟩ => ?_))
  subst e
  have hp := hp.le l9
  have l9 := l2.trans l9
  have hgt := hgt.le l9
  have hqt := hqt.le l9
  refine ev_andP (c := x = 0 ∨ y = 0) (fun _ => ev_orP (c := y = 0) (fun _ => ev_ret ⟨rfl, rfl⟩) (ev_ret ⟨rfl, rfl⟩)) (ev_if (fun hb => ev_ret ⟨?_, l9⟩) (fun hb => ?_))
  · unfold rmul; rw [if_pos ⟨zz_one hb.1, hb.2⟩]
  have x0' : zz Z ≤ x := by omega
  have y0' : zz Z ≤ y := by omega
  unfold rmul
  rw [if_neg (rmul_nz (G := G) (k := k) (P := P) x0' y0')]
  obtain ⟨u, hu⟩ : ∃ u, x - zz Z = u := ⟨_, rfl⟩
  obtain ⟨v, hv⟩ : ∃ v, y - zz Z = v := ⟨_, rfl⟩
  rw [hu, hv]
  obtain ⟨ua, ub, uc, ud, ue, uf, ug, uh⟩ := h.dec (u := u) (by omega) (by omega)
  obtain ⟨va, vb, vc, vd, ve, vf, vg, vh⟩ := h.dec (u := v) (by omega) (by omega)
  obtain ⟨p1, p2, p3, p4, p5⟩ := h.P_in ug uh vc vd
  have e1 : Int.tmod u k = u % k := Int.tmod_eq_emod_of_nonneg (by omega)
  have e2 : Int.tdiv u k = u / k := Int.tdiv_eq_ediv_of_nonneg (by omega)
  have e3 : W (u / k) = u / k := W_in (by omega) (by omega)
  have e4 : Int.tdiv (u / k) (G.length : Int) = u / k / (G.length : Int) := Int.tdiv_eq_ediv_of_nonneg ua
  have u5 : u / k / (G.length : Int) ≤ u / k := Int.ediv_le_self _ ua
  have e5 : W (u / k / (G.length : Int)) = u / k / (G.length : Int) := W_in (by omega) (by omega)
  have e6 : Int.tmod (u / k) (G.length : Int) = u / k % (G.length : Int) := Int.tmod_eq_emod_of_nonneg ua
  have f1 : Int.tmod v k = v % k := Int.tmod_eq_emod_of_nonneg (by omega)
  have f2 : Int.tdiv v k = v / k := Int.tdiv_eq_ediv_of_nonneg (by omega)
  have f3 : W (v / k) = v / k := W_in (by omega) (by omega)
  have f4 : Int.tdiv (v / k) (G.length : Int) = v / k / (G.length : Int) := Int.tdiv_eq_ediv_of_nonneg va
  have v5 : v / k / (G.length : Int) ≤ v / k := Int.ediv_le_self _ va
  have f5 : W (v / k / (G.length : Int)) = v / k / (G.length : Int) := W_in (by omega) (by omega)
  have f6 : Int.tmod (v / k) (G.length : Int) = v / k % (G.length : Int) := Int.tmod_eq_emod_of_nonneg va
  have w1 : W u = u := W_in (by omega) (by omega)
  have w2 : W v = v := W_in (by omega) (by omega)
  simp only [hu, hv, w1, w2, e1, e2, e3, f1, f2, f3, hgt.len, hqt.len]
  refine ev_fldI hp rfl (ev_neg (by omega) (ev_fldI hp rfl (ev_neg (by omega) (ev_fldI hp rfl (ev_neg (by omega) (ev_fldS hp rfl (ev_neg (by rw [hgt.len]; omega) (ev_fldI hp rfl (ev_neg (by omega) (ev_fldS hp rfl (ev_neg (by rw [hgt.len]; omega) (ev_fldI hp rfl (ev_neg (by omega) (ev_fldS hp rfl (ev_neg (by rw [hgt.len]; omega) (ev_fldI hp rfl (ev_neg (by omega) (ev_fldS hp rfl (ev_neg (by rw [hgt.len]; omega) (ev_fldS hp rfl ?_))))))))))))))))))))
  simp only [e1, e2, e3, f1, f2, f3, hgt.len, e4, e5, e6, f4, f5, f6]
  refine ev_rdM hqt ug p1 vc p2 (ev_if (fun hn => ev_ret ⟨by rw [if_pos hn], l9⟩) (fun hn => ?_))
  rw [if_neg hn]
  have g1 := hs.lo _ _ ue uf (by omega) p4
  have g2 := hs.hi _ _ ue uf (by omega) p4
  have r1 := hs.row _ ue uf
  have r2 := hs.row _ g1 g2
  have g3 := hs.lo _ _ g1 g2 ve vf
  have g4 := hs.hi _ _ g1 g2 ve vf
  refine ev_siisb hp (ev_fldS hp rfl (ev_fldS hp rfl (ev_rdM hgt ue uf (by omega) (by omega) (ev_rdM hgt g1 g2 ve (by omega) (ev_call (rees_number_ev hgt.len h uc ud g3 g4 vg vh) fun w H' ⟨e, l⟩ => ev_ret ⟨e, l9.trans l⟩)))))
theorem rees_size_rv {g q : Sl} {m k : Int} {Z : Bool} {G P : List (List Int)} {H : AH} {lo : Nat} (hl : g.len = G.length) (h : RVa G m k P Z) : Ev (fun ρ n κ => rees_size n g m k q Z lo H κ) (fun v H' => v = m * k * (G.length : Int) + zz Z ∧ Le H H') :=
  ev_imp (rees_size_ev hl h.grp h.m1 h.k1) fun v H' ⟨e, l⟩ => ⟨by rw [e]; unfold rsize; rw [if_neg (by have := h.m4; omega), if_neg (by have := h.k4; omega)], l⟩
theorem semigroupref17_Mul_ev {g q : Sl} {m k : Int} {Z : Bool} {G P : List (List Int)} {H : AH} {lo : Nat} (hgt : Tab H g G) (hqt : Tab H q P) (h : RVa G m k P Z) {x y : Int} (hx : -9223372036854775808 ≤ x ∧ x ≤ 9223372036854775807) :
    Ev (fun ρ n κ => semigroupref17_Mul n g m k q Z x y lo H κ) (fun v H' => v = rmulc G m k P Z x y ∧ Le H H') := by
  have hz := zz_cases Z
  have hsz := h.sz
  have hk := h.k1
  have hs := h.grp.toSq
  have hg := hs.pos
  refine ev_eq (fun _ k _ => semigroupref17_Mul_eq k) (ev_alcB fun p H2 hp _ l2 => ?_)
  refine ev_orL (c := decide (x < 0 ∨ x ≥ m * k * (G.length : Int) + zz Z)) (fun hh => ev_siisb hp (ev_call (semigroupref17_Size_ev hgt.len h) fun v H18 ⟨e, l18⟩ => ev_ret ⟨?_, l18⟩)) (fun hh => ?_) fun H20 l20 => ?_
  · have hh := of_decide_eq_false hh
    rw [e]; simp [hh]
  · have hh := of_decide_eq_true hh
    simp [hh]
  have hp := hp.le l20
  have l20 := l2.trans l20
  refine ev_orP (c := y < 0) (fun _ => ev_ret ⟨rfl, rfl⟩) (ev_orL (c := decide (((x < 0 ∨ x ≥ m * k * (G.length : Int) + zz Z) ∨ y < 0) ∨ y ≥ m * k * (G.length : Int) + zz Z)) (fun hh => ev_siisb hp (ev_call (semigroupref17_Size_ev hgt.len h) fun v H18 ⟨e, l18⟩ => ev_ret ⟨?_, l18⟩)) (fun hh => ?_) fun H31 l31 => ?_)
  · have hh := of_decide_eq_false hh
    rw [e]; exact decide_eq_decide.2 ⟨.inr, fun hx => hx.elim (fun h => absurd h hh) id⟩
  · exact decide_eq_true (.inl (of_decide_eq_true hh))
  have hp := hp.le l31
  have l31 := l20.trans l31
  unfold rmulc
  refine ev_if (fun hb => ev_ret ⟨by rw [if_neg (by omega)], l31⟩) (fun hb => ?_)
  rw [if_pos (by omega)]
  refine ev_siisb hp (ev_call semigroupref17_base_ev fun v H29 ⟨e, l29⟩ => ?_)
  subst e
  have hp := hp.le l29
  have l29 := l31.trans l29
  refine ev_siisb hp (ev_call semigroupref17_base_ev fun v H36 ⟨e, l36⟩ => ?_)
  subst e
  have hp := hp.le l36
  have l36 := l29.trans l36
  have hgt := hgt.le l36
  have hqt := hqt.le l36
  rw [W_in (i := x - zz Z) (by omega) (by omega), W_in (i := y - zz Z) (by omega) (by omega)]
  refine ev_orP (c := y - zz Z < 0) (fun _ => ev_ret ⟨rfl, rfl⟩) (ev_if (fun hb => ev_ret ⟨?_, l36⟩) (fun hb => ?_))
  · unfold rmul; rw [if_pos ⟨zz_one (by omega), by omega⟩]
  unfold rmul
  rw [if_neg (rmul_nz (G := G) (k := k) (P := P) (by omega) (by omega))]
  obtain ⟨u, hu⟩ : ∃ u, x - zz Z = u := ⟨_, rfl⟩
  obtain ⟨v, hv⟩ : ∃ v, y - zz Z = v := ⟨_, rfl⟩
  rw [hu, hv]
  obtain ⟨ua, ub, uc, ud, ue, uf, ug, uh⟩ := h.dec (u := u) (by omega) (by omega)
  obtain ⟨va, vb, vc, vd, ve, vf, vg, vh⟩ := h.dec (u := v) (by omega) (by omega)
  obtain ⟨p1, p2, p3, p4, p5⟩ := h.P_in ug uh vc vd
  have e1 : Int.tmod u k = u % k := Int.tmod_eq_emod_of_nonneg (by omega)
  have e2 : Int.tdiv u k = u / k := Int.tdiv_eq_ediv_of_nonneg (by omega)
  have e3 : W (u / k) = u / k := W_in (by omega) (by omega)
  have e4 : Int.tdiv (u / k) (G.length : Int) = u / k / (G.length : Int) := Int.tdiv_eq_ediv_of_nonneg ua
  have u5 : u / k / (G.length : Int) ≤ u / k := Int.ediv_le_self _ ua
  have e5 : W (u / k / (G.length : Int)) = u / k / (G.length : Int) := W_in (by omega) (by omega)
  have e6 : Int.tmod (u / k) (G.length : Int) = u / k % (G.length : Int) := Int.tmod_eq_emod_of_nonneg ua
  have f1 : Int.tmod v k = v % k := Int.tmod_eq_emod_of_nonneg (by omega)
  have f2 : Int.tdiv v k = v / k := Int.tdiv_eq_ediv_of_nonneg (by omega)
  have f3 : W (v / k) = v / k := W_in (by omega) (by omega)
  have f4 : Int.tdiv (v / k) (G.length : Int) = v / k / (G.length : Int) := Int.tdiv_eq_ediv_of_nonneg va
  have v5 : v / k / (G.length : Int) ≤ v / k := Int.ediv_le_self _ va
  have f5 : W (v / k / (G.length : Int)) = v / k / (G.length : Int) := W_in (by omega) (by omega)
  have f6 : Int.tmod (v / k) (G.length : Int) = v / k % (G.length : Int) := Int.tmod_eq_emod_of_nonneg va
  refine ev_fldS hp rfl (ev_fldS hp rfl (ev_fldI hp rfl (ev_neg (by omega) ?_)))
  simp only [e1, e2, e3, f1, f2, f3, hgt.len, e4, e5, e6, f4, f5, f6]
  refine ev_rdS hqt ug p1 fun r hr => ev_fldI hp rfl (ev_neg (by omega) (ev_neg (by omega) ?_))
  rw [f2, f3, f4, f5]
  refine ev_rdI hr vc p2 (ev_if (fun hn => ev_ret ⟨by rw [if_pos (show M P (u % k) (v / k / (G.length : Int)) < 0 from hn)], l36⟩) (fun hn => ?_))
  have hn : ¬ M P (u % k) (v / k / (G.length : Int)) < 0 := hn
  rw [if_neg hn]
  have g1 := hs.lo _ _ ue uf (by omega) p4
  have g2 := hs.hi _ _ ue uf (by omega) p4
  have r1 := hs.row _ ue uf
  have r2 := hs.row _ g1 g2
  have g3 := hs.lo _ _ g1 g2 ve vf
  have g4 := hs.hi _ _ g1 g2 ve vf
  refine ev_fldS hp rfl (ev_fldS hp rfl (ev_fldI hp rfl (ev_neg (by omega) (ev_neg (by omega) ?_))))
  rw [e2, e3, e6]
  refine ev_rdM hgt ue uf (by omega) (show M P (u % k) (v / k / (G.length : Int)) < _ by omega) (ev_rdS hgt g1 g2 fun r3 hr3 => ev_fldI hp rfl (ev_neg (by omega) (ev_neg (by omega) ?_)))
  rw [f2, f3, f6]
  have r2b : ((R G (M G (u / k % (G.length : Int)) (M P (u % k) (v / k / (G.length : Int))))).length : Int) = (G.length : Int) := r2
  refine ev_rdI hr3 ve (show v / k % (G.length : Int) < ((R G (M G (u / k % (G.length : Int)) (M P (u % k) (v / k / (G.length : Int))))).length : Int) by rw [r2b]; exact vf) (ev_siisb hp (ev_fldI hp rfl (ev_neg (by omega) (ev_neg (by omega) (ev_fldI hp rfl (ev_neg (by omega) ?_))))))
  rw [e2, e3, e4, e5, f1]
  refine ev_call (semigroupref17_Number_ev hgt.len h) fun w H' ⟨e, l⟩ => ev_ret ⟨?_, l36.trans l⟩
  rw [e]
  unfold rnum
  rw [if_pos ⟨uc, ud, g3, g4, vg, vh⟩]
  rfl

end Go.Ab

/- Rows compared, members; tables of Rees matrix semigroups, regularity. What they answer. No condition but that a structure comes in. -/
set_option linter.unusedVariables false
set_option linter.unusedSimpArgs false
namespace Go.Ab
open Go
theorem Mk.zero {P : List (List Int)} {m k : Int} (m0 : 0 ≤ m) (k0 : 0 ≤ k) : Mk P m k 0 0 (List.replicate m.toNat false) (List.replicate k.toNat false) := by
  refine ⟨by simp; omega, by simp; omega, fun i' a0 a1 => ?_, fun l' a0 a1 => ?_⟩
  · rw [rb_rep a0 (by omega)]
    simp only [Bool.false_eq_true, false_iff]
    rintro ⟨l', s1, s2, s3, s4, s5⟩
    omega
  · rw [rb_rep a0 (by omega)]
    simp only [Bool.false_eq_true, false_iff]
    rintro ⟨i', s1, s2, s3, s4, s5⟩
    omega
end Go.Ab

/- Partitions: canonical forms, validity, meets, counts, classes. What they answer. No condition but that rows come in. -/
set_option linter.unusedVariables false
set_option linter.unusedSimpArgs false
namespace Go.Ab
open Go
abbrev ival : Int → AV := fun n => .int .i64 n
theorem partition_Canonical_ev {s : Sl} {x : List Int} {H : AH} {lo : Nat} (hlo : lo ≤ H.length) (hs : Row H s x) (hl : x.length ≤ 4096) : Ev (fun ρ k κ => partition_Canonical k s lo H κ) (fun v H' => ∃ o, Sep H H' [own reI v o] ∧ IsCl x.length (fun i j => rd x i = rd x j) o) := by
  refine ev_eq (fun _ k _ => partition_Canonical_eq k) ?_
  rw [hs.len]
  refine ev_neg (by omega) (sp_mkm ival (Sep.nil H) fun m H1 hS => sp_mks (x := (0 : Int)) hS reI (fun _ => ⟨rfl, rfl⟩) (by omega) (by omega) fun t H4 hS => ?_)
  refine ev_loop (α := AH) (g := fun i H ρ n κ => partition_Canonical_1 n (some m) t s (x.length : Int) i lo H κ) (x.length : Int) (fun i H' => ∃ o l, Sep H H' [own reI t o, ownMp ival m l] ∧ Num x o l i) ?_ ?_ 0 H4 (by omega) (by omega) ⟨_, [], hS, Num.zero (by simp)⟩
  · rintro i H1 i0 i1 ⟨o, l, hS, hN⟩ hk
    have hln := hN.len
    have step : ∀ (c : Int) (l' : List (Int × Int)) (H2 : AH), Sep H H2 [own reI t o, ownMp ival m l'] → (∀ H3, Sep H H3 [own reI t (o.set i.toNat c), ownMp ival m l'] → Num x (o.set i.toNat c) l' (i + 1)) → Ev (fun ρ n κ => partition_Canonical_2 n (some m) t i c s (x.length : Int) i lo H2 κ) (fun v H' => ∃ o, Sep H H' [own reI v o] ∧ IsCl x.length (fun i j => rd x i = rd x j) o) := by
      intro c l' H2 hS h
      refine ev_eq (fun _ k _ => partition_Canonical_2_eq k) (sp_put (x := c) hS hlo (fun _ => ⟨rfl, rfl⟩) i0 (by omega) fun H3 hS => ?_)
      rw [W_add i0 i1 (by omega)]
      exact hk H3 ⟨_, _, hS, h H3 hS⟩
    refine ev_eq (fun _ k _ => partition_Canonical_1_eq k) (ev_pos i1 (ev_rdI (hs.le hS.le) i0 i1 (sp_mlook (hS.pull 1) ?_)))
    cases e : mget l (rd x i) with
    | none =>
      exact ev_asI (n := 0) (ev_nt rfl (sp_mlen (hS.pull 1) (sp_mput (f := ival) (hS.pull 1) hlo fun H5 hS => step _ _ _ (hS.pull 1) fun _ _ => hN.new i0 i1 e)))
    | some c => exact ev_asI (n := c) (ev_nf rfl (step _ _ _ hS fun _ _ => hN.old i0 i1 e))
  · rintro H1 ⟨o, l, hS, hN⟩
    exact ev_eq (fun _ k _ => partition_Canonical_1_eq k) (ev_neg (by omega) (ev_ret ⟨o, (hS.pull 1).drop, hN.done⟩))
theorem semigroupref03_Canonical_ev {s : Sl} {x : List Int} {H : AH} {lo : Nat} (hlo : lo ≤ H.length) (hs : Row H s x) (hl : x.length ≤ 4096) : Ev (fun ρ k κ => semigroupref03_Canonical k s lo H κ) (fun v H' => ∃ o, Sep H H' [own reI v o] ∧ IsCl x.length (fun i j => rd x i = rd x j) o) := by
  refine ev_eq (fun _ k _ => semigroupref03_Canonical_eq k) ?_
  rw [hs.len]
  refine ev_neg (by omega) (sp_mks (x := (0 : Int)) (Sep.nil H) reI (fun _ => ⟨rfl, rfl⟩) (by omega) (by omega) fun t H4 hS => sp_mkm ival hS fun m H1 hS => ?_)
  refine ev_loop (α := Int × AH) (g := fun i a ρ n κ => semigroupref03_Canonical_1 n t a.1 (some m) s (x.length : Int) i lo a.2 κ) (x.length : Int) (fun i a => ∃ o l, Sep H a.2 [own reI t o, ownMp ival m l] ∧ Num x o l i ∧ a.1 = (l.length : Int) ∧ (l.length : Int) ≤ i) ?_ ?_ 0 (0, H1) (by omega) (by omega) ⟨_, [], hS.pull 1, Num.zero (by simp), rfl, by simp⟩
  · rintro i ⟨c0, H1⟩ i0 i1 ⟨o, l, hS, hN, hc0, hli⟩ hk
    simp only at hS hc0
    have hln := hN.len
    have step : ∀ (c c' : Int) (l' : List (Int × Int)) (H2 : AH), Sep H H2 [own reI t o, ownMp ival m l'] → c' = (l'.length : Int) → (l'.length : Int) ≤ i + 1 → (∀ H3, Sep H H3 [own reI t (o.set i.toNat c), ownMp ival m l'] → Num x (o.set i.toNat c) l' (i + 1)) → Ev (fun ρ n κ => semigroupref03_Canonical_2 n t c' (some m) i c s (x.length : Int) i lo H2 κ) (fun v H' => ∃ o, Sep H H' [own reI v o] ∧ IsCl x.length (fun i j => rd x i = rd x j) o) := by
      intro c c' l' H2 hS e1 e2 h
      refine ev_eq (fun _ k _ => semigroupref03_Canonical_2_eq k) (sp_put (x := c) hS hlo (fun _ => ⟨rfl, rfl⟩) i0 (by omega) fun H3 hS => ?_)
      rw [W_add i0 i1 (by omega)]
      exact hk (c', H3) ⟨_, _, hS, h H3 hS, e1, e2⟩
    refine ev_eq (fun _ k _ => semigroupref03_Canonical_1_eq k) (ev_pos i1 (ev_rdI (hs.le hS.le) i0 i1 (sp_mlook (hS.pull 1) ?_)))
    cases e : mget l (rd x i) with
    | none =>
      have hm := mset_len (w := (l.length : Int)) e
      rw [hc0]
      refine ev_asI (n := 0) (ev_nt rfl (sp_mput (f := ival) (w := (l.length : Int)) (hS.pull 1) hlo fun H5 hS => ?_))
      rw [W_in (i := (l.length : Int) + 1) (by omega) (by omega)]
      exact step _ _ _ _ (hS.pull 1) (by omega) (by omega) fun _ _ => hN.new i0 i1 e
    | some c => exact ev_asI (n := c) (ev_nf rfl (step _ _ _ _ hS hc0 (by omega) fun _ _ => hN.old i0 i1 e))
  · rintro ⟨c0, H1⟩ ⟨o, l, hS, hN, _⟩
    exact ev_eq (fun _ k _ => semigroupref03_Canonical_1_eq k) (ev_neg (by omega) (ev_ret ⟨o, (hS.pull 1).drop, hN.done⟩))
/-- What partition.Valid has seen of the first i. -/
structure PV1 (p : List Int) (i n : Int) : Prop where
  n0 : 0 ≤ n ∧ n ≤ i
  lt : ∀ j : Int, 0 ≤ j → j < i → 0 ≤ rd p j ∧ rd p j < n
  all : ∀ c : Int, 0 ≤ c → c < n → ∃ j : Int, 0 ≤ j ∧ j < i ∧ rd p j = c
  can : ∀ j : Int, 0 ≤ j → j < i → ∀ c : Int, 0 ≤ c → c < rd p j → ∃ j' : Int, 0 ≤ j' ∧ j' < j ∧ rd p j' = c
open Classical in
theorem partition_Valid_ev {s : Sl} {p : List Int} {H : AH} {lo : Nat} (hs : Row H s p) : Ev (fun ρ k κ => partition_Valid k s lo H κ) (Is (decide ((p.length : Int) ≤ 4096 ∧ Cano p)) H) := by
  refine ev_eq (fun _ k _ => partition_Valid_eq k) ?_
  rw [hs.len]
  refine ev_if (fun h => ev_ret ⟨by rw [decide_eq_false]; omega, rfl⟩) (fun h => ?_)
  refine ev_for (α := Int) (g := fun i n ρ k κ => partition_Valid_1 k n s (p.length : Int) i lo H κ) (p.length : Int) (fun i n => PV1 p i n) ?_ ?_ 0 0 (by omega) (by omega) ⟨by omega, fun j a b => by omega, fun c a b => by omega, fun j a b => by omega⟩
  · intro i n i0 i1 hP
    have hn := hP.n0
    by_cases hbad : rd p i < 0 ∨ rd p i > n
    · left
      refine ev_eq (fun _ k _ => partition_Valid_1_eq k) (ev_pos i1 (ev_rdI hs i0 i1 (ev_orP (c := rd p i > n) (fun _ => ev_ret ⟨rfl, rfl⟩) (ev_pos hbad (ev_ret ⟨?_, rfl⟩)))))
      rw [decide_eq_false]
      rintro ⟨_, hc⟩
      obtain ⟨c1, c2⟩ := hc i i0 i1
      rcases hbad with hbad | hbad
      · omega
      · obtain ⟨j, j0, j1, j2⟩ := c2 n hn.1 hbad
        have := hP.lt j j0 j1
        omega
    · right
      by_cases hnew : rd p i = n
      · refine ⟨n + 1, ⟨by omega, fun j a b => ?_, fun c a b => ?_, fun j a b c c0 c1 => ?_⟩, fun h' => ?_⟩
        · by_cases hj : j = i
          · rw [hj]; omega
          · have := hP.lt j a (by omega); omega
        · by_cases hc : c = n
          · exact ⟨i, i0, by omega, by omega⟩
          · obtain ⟨j, x, y, z⟩ := hP.all c a (by omega)
            exact ⟨j, x, by omega, z⟩
        · by_cases hj : j = i
          · rw [hj] at c1 ⊢
            exact hP.all c c0 (by omega)
          · exact hP.can j a (by omega) c c0 c1
        · refine ev_eq (fun _ k _ => partition_Valid_1_eq k) (ev_pos i1 (ev_rdI hs i0 i1 (ev_orP (c := rd p i > n) (fun _ => ev_ret ⟨rfl, rfl⟩) (ev_neg hbad (ev_pos hnew (ev_eq (fun _ k _ => partition_Valid_2_eq k) ?_))))))
          rw [W_add i0 i1 (by omega), W_in (by omega) (by omega)]; exact h'
      · refine ⟨n, ⟨by omega, fun j a b => ?_, fun c a b => ?_, fun j a b c c0 c1 => ?_⟩, fun h' => ?_⟩
        · by_cases hj : j = i
          · rw [hj]; omega
          · exact hP.lt j a (by omega)
        · obtain ⟨j, x, y, z⟩ := hP.all c a b
          exact ⟨j, x, by omega, z⟩
        · by_cases hj : j = i
          · rw [hj] at c1 ⊢
            exact hP.all c c0 (by omega)
          · exact hP.can j a (by omega) c c0 c1
        · refine ev_eq (fun _ k _ => partition_Valid_1_eq k) (ev_pos i1 (ev_rdI hs i0 i1 (ev_orP (c := rd p i > n) (fun _ => ev_ret ⟨rfl, rfl⟩) (ev_neg hbad (ev_neg hnew (ev_eq (fun _ k _ => partition_Valid_2_eq k) ?_))))))
          rw [W_add i0 i1 (by omega)]; exact h'
  · intro n hP
    refine ev_eq (fun _ k _ => partition_Valid_1_eq k) (ev_neg (by omega) (ev_ret ⟨?_, rfl⟩))
    rw [decide_eq_true]
    exact ⟨by omega, fun i a b => ⟨(hP.lt i a b).1, hP.can i a b⟩⟩
open Classical in
theorem partition_both_ev {s t : Sl} {p q : List Int} {H : AH} {lo : Nat} (hs : Row H s p) (ht : Row H t q) : Ev (fun ρ k κ => partition_both k s t lo H κ) (Is (decide ((p.length : Int) = q.length ∧ ((p.length : Int) ≤ 4096 ∧ Cano p) ∧ ((q.length : Int) ≤ 4096 ∧ Cano q))) H) := by
  refine ev_eq (fun _ k _ => partition_both_eq k) ?_
  rw [hs.len, ht.len]
  refine ev_andP (c := (p.length : Int) ≤ 4096 ∧ Cano p) (fun _ => ev_is (partition_Valid_ev hs) (ev_ret ⟨rfl, rfl⟩)) (ev_andP (c := (q.length : Int) ≤ 4096 ∧ Cano q) (fun _ => ev_is (partition_Valid_ev ht) (ev_ret ⟨rfl, rfl⟩)) (ev_ret ⟨?_, rfl⟩))
  apply decide_eq_decide.2
  exact and_assoc
/-- Pairs of class numbers, coded. -/
theorem pair_inj {a b c d : Int} (h0 : 0 ≤ b ∧ b < 4096) (h1 : 0 ≤ d ∧ d < 4096) : a * 4096 + b = c * 4096 + d ↔ a = c ∧ b = d := by
  constructor
  · intro h; omega
  · rintro ⟨rfl, rfl⟩; rfl
def meetL (p q : List Int) : List Int := (List.range p.length).map fun i : Nat => rd p i * 4096 + rd q i
theorem meetL_cl {p q o : List Int} (hp : Cano p) (hq : Cano q) (hl : p.length = q.length) (h4 : p.length ≤ 4096) (ho : IsCl (meetL p q).length (fun i j => rd (meetL p q) i = rd (meetL p q) j) o) : IsCl p.length (fun i j => rd p i = rd p j ∧ rd q i = rd q j) o := by
  have e : (meetL p q).length = p.length := by simp [meetL]
  rw [e] at ho
  refine ho.congr fun x y x0 x1 y0 y1 => ?_
  unfold meetL
  rw [rd_map x0 x1, rd_map y0 y1, show ((x.toNat : Nat) : Int) = x by omega, show ((y.toNat : Nat) : Int) = y by omega]
  have := hq.lt x0 (by omega)
  have := hq.lt y0 (by omega)
  exact pair_inj (by omega) (by omega)
open Classical in
theorem partition_Meet_ev {s t : Sl} {p q : List Int} {H : AH} {lo : Nat} (hlo : lo ≤ H.length) (hs : Row H s p) (ht : Row H t q) (hp : Cano p) (hq : Cano q) (hl : p.length = q.length) (h4 : p.length ≤ 4096) : Ev (fun ρ k κ => partition_Meet k s t lo H κ) (fun v H' => ∃ o, Sep H H' [own reI v o] ∧ IsCl p.length (fun i j => rd p i = rd p j ∧ rd q i = rd q j) o) := by
  refine ev_eq (fun _ k _ => partition_Meet_eq k) (ev_is (partition_both_ev hs ht) (ev_nf ?_ ?_))
  · rw [decide_eq_true]; exact ⟨by omega, ⟨by omega, hp⟩, by omega, hq⟩
  rw [hs.len]
  refine sp_mks (x := (0 : Int)) (Sep.nil H) reI (fun _ => ⟨rfl, rfl⟩) (by omega) (by omega) fun u H4 hS => ?_
  refine ev_loop (α := AH) (g := fun i H ρ k κ => partition_Meet_1 k s t u (p.length : Int) i lo H κ) (p.length : Int) (fun i H' => ∃ o, Sep H H' [own reI u o] ∧ o.length = p.length ∧ ∀ j : Int, 0 ≤ j → j < i → rd o j = rd p j * 4096 + rd q j) ?_ ?_ 0 H4 (by omega) (by omega) ⟨_, hS, by simp, fun j a b => by omega⟩
  · rintro i H1 i0 i1 ⟨o, hS, ho, hv⟩ hk
    have := hp.lt i0 i1
    have := hq.lt i0 (by omega)
    refine ev_eq (fun _ k _ => partition_Meet_1_eq k) (ev_pos i1 (ev_rdI (hs.le hS.le) i0 i1 (ev_rdI (ht.le hS.le) i0 (by omega) ?_)))
    rw [W_in (i := rd p i * 4096) (by omega) (by omega), W_in (i := rd p i * 4096 + rd q i) (by omega) (by omega), W_add i0 i1 (by omega)]
    refine sp_put (x := rd p i * 4096 + rd q i) hS hlo (fun _ => ⟨rfl, rfl⟩) i0 (by omega) fun H2 hS => hk H2 ⟨_, hS, by simpa using ho, fun j a b => ?_⟩
    rw [rd_set i0 (by omega) a]
    by_cases hj : j = i
    · rw [if_pos hj, hj]
    · rw [if_neg hj]; exact hv j a (by omega)
  · rintro H1 ⟨o, hS, ho, hv⟩
    have e : o = meetL p q := rd_ext (by simp [meetL, ho]) fun j a b => by
      unfold meetL; rw [rd_map a (by omega), show ((j.toNat : Nat) : Int) = j by omega]; exact hv j a (by omega)
    subst e
    refine ev_eq (fun _ k _ => partition_Meet_1_eq k) (ev_neg (by omega) (ev_call (partition_Canonical_ev (Nat.le_refl _) hS.row (by omega)) fun v H2 ⟨o, hS2, ho⟩ => ev_ret ⟨o, hS2.base hS.le, meetL_cl hp hq hl h4 ho⟩))
theorem semigroupref03_Meet_ev {s t : Sl} {p q : List Int} {H : AH} {lo : Nat} (hlo : lo ≤ H.length) (hs : Row H s p) (ht : Row H t q) (hp : Cano p) (hq : Cano q) (hl : p.length = q.length) (h4 : p.length ≤ 4096) : Ev (fun ρ k κ => semigroupref03_Meet k s t lo H κ) (fun v H' => ∃ o, Sep H H' [own reI v o] ∧ IsCl p.length (fun i j => rd p i = rd p j ∧ rd q i = rd q j) o) := by
  refine ev_eq (fun _ k _ => semigroupref03_Meet_eq k) ?_
  rw [hs.len]
  refine sp_mks (x := (0 : Int)) (Sep.nil H) reI (fun _ => ⟨rfl, rfl⟩) (by omega) (by omega) fun u H4 hS => ?_
  refine ev_loop (α := AH) (g := fun i H ρ k κ => semigroupref03_Meet_1 k s t u (p.length : Int) i lo H κ) (p.length : Int) (fun i H' => ∃ o, Sep H H' [own reI u o] ∧ o.length = p.length ∧ ∀ j : Int, 0 ≤ j → j < i → rd o j = rd p j * 4096 + rd q j) ?_ ?_ 0 H4 (by omega) (by omega) ⟨_, hS, by simp, fun j a b => by omega⟩
  · rintro i H1 i0 i1 ⟨o, hS, ho, hv⟩ hk
    have := hp.lt i0 i1
    have := hq.lt i0 (by omega)
    refine ev_eq (fun _ k _ => semigroupref03_Meet_1_eq k) (ev_pos i1 (ev_rdI (hs.le hS.le) i0 i1 (ev_rdI (ht.le hS.le) i0 (by omega) ?_)))
    rw [W_in (i := rd p i * 4096) (by omega) (by omega), W_in (i := rd p i * 4096 + rd q i) (by omega) (by omega), W_add i0 i1 (by omega)]
    refine sp_put (x := rd p i * 4096 + rd q i) hS hlo (fun _ => ⟨rfl, rfl⟩) i0 (by omega) fun H2 hS => hk H2 ⟨_, hS, by simpa using ho, fun j a b => ?_⟩
    rw [rd_set i0 (by omega) a]
    by_cases hj : j = i
    · rw [if_pos hj, hj]
    · rw [if_neg hj]; exact hv j a (by omega)
  · rintro H1 ⟨o, hS, ho, hv⟩
    have e : o = meetL p q := rd_ext (by simp [meetL, ho]) fun j a b => by
      unfold meetL; rw [rd_map a (by omega), show ((j.toNat : Nat) : Int) = j by omega]; exact hv j a (by omega)
    subst e
    refine ev_eq (fun _ k _ => semigroupref03_Meet_1_eq k) (ev_neg (by omega) (ev_call (semigroupref03_Canonical_ev (Nat.le_refl _) hS.row (by omega)) fun v H2 ⟨o, hS2, ho⟩ => ev_ret ⟨o, hS2.base hS.le, meetL_cl hp hq hl h4 ho⟩))
theorem green_firsts_ev {s : Sl} {p : List Int} {H : AH} {lo : Nat} (hlo : lo ≤ H.length) (hs : Row H s p) (hp : Cano p) (hl : p.length ≤ 4096) : Ev (fun ρ k κ => green_firsts k s lo H κ) (fun v H' => Sep H H' [own reI v (frs p)]) := by
  refine ev_eq (fun _ k _ => green_firsts_eq k) ?_
  rw [hs.len]
  refine ev_loop (α := Sl × AH) (g := fun i a ρ k κ => green_firsts_1 k a.1 s (p.length : Int) i lo a.2 κ) (p.length : Int) (fun i a => Sep H a.2 [own reI a.1 (sel (Fst p) 0 i.toNat)]) ?_ ?_ 0 (⟨none, 0⟩, H) (by omega) (by omega) ((Sep.nil H).nilS reI)
  · rintro i ⟨t, H1⟩ i0 i1 hS hk
    simp only at hS
    have hln := sel_len (P := Fst p) (i := 0) (m := i.toNat)
    refine ev_eq (fun _ k _ => green_firsts_1_eq k) (ev_pos i1 (ev_rdI (hs.le hS.le) i0 i1 ?_))
    rw [hS.len]
    refine ev_if (fun h => ?_) (fun h => ?_)
    · have hf := (hp.new i0 i1).1 h
      refine sp_app1 (x := i) hS hlo (fun _ => ⟨rfl, rfl⟩) (by omega) fun t' H' hS' => ev_eq (fun _ k _ => green_firsts_2_eq k) ?_
      rw [W_add i0 i1 (by omega)]
      exact hk (t', H') (hS'.eq (sel_snoc i0 hf))
    · have hf := fun x => h ((hp.new i0 i1).2 x)
      refine ev_eq (fun _ k _ => green_firsts_2_eq k) ?_
      rw [W_add i0 i1 (by omega)]
      exact hk (t, H1) (hS.eq (sel_skip i0 hf))
  · rintro ⟨t, H1⟩ hS
    exact ev_eq (fun _ k _ => green_firsts_1_eq k) (ev_neg (by omega) (ev_ret (show Sep H H1 [own reI t (sel (Fst p) 0 p.length)] by simpa using hS)))
theorem semigroupref03_Count_ev {s : Sl} {p : List Int} {H : AH} {lo : Nat} (hs : Row H s p) (hp : Cano p) (hl : p.length ≤ 4096) : Ev (fun ρ k κ => semigroupref03_Count k s lo H κ) (Is ((frs p).length : Int) H) := by
  refine ev_eq (fun _ k _ => semigroupref03_Count_eq k) ?_
  have hfl := frs_len p
  rw [hs.len]
  refine ev_loop (α := Int) (g := fun i c ρ k κ => semigroupref03_Count_1 k c s (p.length : Int) i lo H κ) (p.length : Int) (fun i c => 0 ≤ c ∧ c ≤ ((frs p).length : Int) ∧ ∀ j : Int, 0 ≤ j → j < i → rd p j + 1 ≤ c) ?_ ?_ 0 0 (by omega) (by omega) ⟨by omega, by omega, fun j a b => by omega⟩
  · rintro i c i0 i1 ⟨h0, h1, h2⟩ hk
    have a1 := hp.lt i0 i1
    have a2 := hp.frs_lt i0 i1
    refine ev_eq (fun _ k _ => semigroupref03_Count_1_eq k) (ev_pos i1 (ev_rdI hs i0 i1 ?_))
    rw [W_add i0 i1 (by omega), W_in (i := rd p i + 1) (by omega) (by omega)]
    refine hk _ ?_
    unfold mxI
    refine ⟨by split <;> omega, by split <;> omega, fun j a b => ?_⟩
    by_cases hj : j = i
    · rw [hj]; split <;> omega
    · have := h2 j a (by omega)
      split <;> omega
  · rintro c ⟨h0, h1, h2⟩
    refine ev_eq (fun _ k _ => semigroupref03_Count_1_eq k) (ev_neg (by omega) (ev_ret ⟨?_, rfl⟩))
    by_cases hp0 : 0 < (p.length : Int)
    · obtain ⟨_, i, a, b, d⟩ := hp.count hp0
      have := h2 i a b
      omega
    · omega
/-- The classes of a partition. -/
noncomputable def clsL (p : List Int) : List (List Int) := (List.range (frs p).length).map fun c : Nat => mem p c
theorem clsL_len (p : List Int) : (clsL p).length = (frs p).length := by simp [clsL]
theorem clsL_R {p : List Int} {c : Int} (c0 : 0 ≤ c) (c1 : c < ((frs p).length : Int)) : R (clsL p) c = mem p c := by
  unfold clsL; rw [R_map c0 c1, show ((c.toNat : Nat) : Int) = c by omega]
theorem semigroupref03_Classes_ev {s : Sl} {p : List Int} {H : AH} {lo : Nat} (hlo : lo ≤ H.length) (hs : Row H s p) (hp : Cano p) (hl : p.length ≤ 4096) : Ev (fun ρ k κ => semigroupref03_Classes k s lo H κ) (fun v H' => Sep H H' [own (reL reI) v (clsL p)]) := by
  have hfl := frs_len p
  refine ev_eq (fun _ k _ => semigroupref03_Classes_eq k) (ev_is (semigroupref03_Count_ev hs hp hl) ?_)
  rw [hs.len]
  refine sp_mks (x := []) (Sep.nil H) (reL reI) (fun _ => ⟨⟨none, 0⟩, rfl, rfl, .inl ⟨rfl, rfl, rfl⟩⟩) (by omega) (by omega) fun t H4 hS => ?_
  refine ev_loop (α := AH) (g := fun i H ρ k κ => semigroupref03_Classes_1 k t s (p.length : Int) i lo H κ) (p.length : Int) (fun i H' => ∃ T : List (List Int), Sep H H' [own (reL reI) t T] ∧ T.length = (frs p).length ∧ ∀ c : Int, 0 ≤ c → c < ((frs p).length : Int) → R T c = sel (fun x => rd p x = c) 0 i.toNat) ?_ ?_ 0 H4 (by omega) (by omega) ⟨_, hS, by simp, fun c a b => by rw [R_rep a (by omega)]; rfl⟩
  · rintro i H1 i0 i1 ⟨T, hS, hT, hc⟩ hk
    have a1 := hp.lt i0 i1
    have a2 := hp.frs_lt i0 i1
    have hln := sel_len (P := fun x => rd p x = rd p i) (i := 0) (m := i.toNat)
    refine ev_eq (fun _ k _ => semigroupref03_Classes_1_eq k) (ev_pos i1 (ev_rdI (hs.le hS.le) i0 i1 (sp_open hS a1.1 (by omega) fun u hS => ?_)))
    have e : rdOf [] T (rd p i) = sel (fun x => rd p x = rd p i) 0 i.toNat := hc _ a1.1 a2
    rw [e] at hS
    refine sp_app1 (x := i) (hS.pull 1) hlo (fun _ => ⟨rfl, rfl⟩) (by omega) fun u' H' hS' => ?_
    refine sp_putH (hS'.pull 1) hlo a1.1 rfl fun H2 hS2 => ?_
    rw [W_add i0 i1 (by omega)]
    refine hk H2 ⟨_, hS2.close, by simpa using hT, fun c c0 c1 => ?_⟩
    rw [R_set a1.1 (by omega) c0]
    by_cases hcc : c = rd p i
    · rw [if_pos hcc, hcc]; exact sel_snoc i0 rfl
    · rw [if_neg hcc, hc c c0 c1]; exact sel_skip i0 (fun e => hcc e.symm)
  · rintro H1 ⟨T, hS, hT, hc⟩
    refine ev_eq (fun _ k _ => semigroupref03_Classes_1_eq k) (ev_neg (by omega) (ev_ret (hS.eq ?_)))
    refine R_ext (by rw [clsL_len, hT]) fun c c0 c1 => ?_
    rw [clsL_R c0 (by omega), hc c c0 (by omega)]
    unfold mem
    rw [Int.toNat_natCast]

end Go.Ab

/- Green's relations: ideals, classes. What they answer. No condition but that a valid table comes in. -/
set_option linter.unusedVariables false
set_option linter.unusedSimpArgs false
namespace Go.Ab
open Go
theorem nilRow {H : AH} : (reL reB).on H (.sl ⟨none, 0⟩) [] [] := ⟨⟨none, 0⟩, rfl, rfl, .inl ⟨rfl, rfl, rfl⟩⟩
theorem green_right_ev {s : Sl} {t : List (List Int)} {H : AH} {lo : Nat} (hlo : lo ≤ H.length) (hv : Sq t) (ht : Tab H s t) : Ev (fun ρ k κ => green_right k s lo H κ) (fun v H' => Sep H H' [own (reL reB) v (btab t.length t.length (JR t))]) := by
  have hn := hv.le
  have hp := hv.pos
  refine ev_eq (fun _ k _ => green_right_eq k) ?_
  rw [ht.len]
  refine sp_mks (x := []) (Sep.nil H) (reL reB) (fun _ => nilRow) (by omega) (by omega) fun u H2 hS => ?_
  refine ev_loop (α := AH) (g := fun y H ρ k κ => green_right_1 k s u (t.length : Int) y lo H κ) (t.length : Int) (fun y H' => ∃ T : List (List Bool), Sep H H' [own (reL reB) u T] ∧ T.length = t.length ∧ ∀ z : Int, 0 ≤ z → z < y → (rdOf [] T z).length = t.length ∧ ∀ x : Int, 0 ≤ x → x < (t.length : Int) → (rdOf false (rdOf [] T z) x = true ↔ JR t z x)) ?_ ?_ 0 H2 (by omega) (by omega) ⟨_, hS, by simp, fun z a b => by omega⟩
  · rintro y H1 y0 y1 ⟨T, hS, hT, hz⟩ hk
    have hT' : y < (T.length : Int) := by omega
    refine ev_eq (fun _ k _ => green_right_1_eq k) (ev_pos y1 ?_)
    rw [ht.len]
    refine sp_mks (x := false) hS reB (fun _ => ⟨rfl, rfl⟩) (by omega) (by omega) fun w H2 hS => sp_putE hS.eltL.swap hlo y0 hT' fun H3 hS => sp_openS hS y0 hT' fun w hS => ?_
    refine sp_put (x := true) (hS.pull 1) hlo (fun _ => ⟨rfl, rfl⟩) y0 (by simp; omega) fun H4 hS => ?_
    have hS := (hS.pull 1).closeS
    refine ev_loop (α := AH) (g := fun i H ρ k κ => green_right_2 k s u y (t.length : Int) y (t.length : Int) i lo H κ) (t.length : Int) (fun i H' => ∃ row : List Bool, Sep H H' [own (reL reB) u (T.set y.toNat row)] ∧ row.length = t.length ∧ ∀ x : Int, 0 ≤ x → x < (t.length : Int) → (rdOf false row x = true ↔ x = y ∨ ∃ i' : Int, 0 ≤ i' ∧ i' < i ∧ x = M t y i')) ?_ ?_ 0 H4 (by omega) (by omega) ⟨_, hS, by simp, fun x a b => ?_⟩
    · rintro i H1 i0 i1 ⟨row, hS, hr, hx⟩ hk
      have m0 := hv.lo y i y0 y1 i0 i1
      have m1 := hv.hi y i y0 y1 i0 i1
      have hrow := hv.row y y0 y1
      refine ev_eq (fun _ k _ => green_right_2_eq k) (ev_pos i1 (sp_openS hS y0 hT' fun w hS => ev_rdM (ht.le hS.le) y0 y1 i0 (by omega) (sp_put (x := true) (hS.pull 1) hlo (fun _ => ⟨rfl, rfl⟩) m0 (by omega) fun H2 hS => ?_)))
      rw [W_add i0 i1 (by omega)]
      refine hk H2 ⟨_, (hS.pull 1).closeS, by simpa using hr, fun x a b => ?_⟩
      rw [rb_set m0 (by omega) a]
      by_cases hxm : x = M t y i
      · rw [if_pos hxm]; exact ⟨fun _ => .inr ⟨i, i0, by omega, hxm⟩, fun _ => rfl⟩
      · rw [if_neg hxm, hx x a b]
        refine ⟨fun h => h.imp id fun ⟨i', p, q, r⟩ => ⟨i', p, by omega, r⟩, fun h => h.imp id fun ⟨i', p, q, r⟩ => ⟨i', p, ?_, r⟩⟩
        by_cases hi : i' = i
        · rw [hi] at r; exact absurd r hxm
        · omega
    · rintro H1 ⟨row, hS, hr, hx⟩
      refine ev_eq (fun _ k _ => green_right_2_eq k) (ev_neg (by omega) ?_)
      rw [W_add y0 y1 (by omega)]
      refine hk H1 ⟨_, hS, by simpa using hT, fun z a b => ?_⟩
      rw [rdOf_set [] y0 hT' a]
      by_cases hzy : z = y
      · rw [if_pos hzy, hzy]; exact ⟨hr, hx⟩
      · rw [if_neg hzy]; exact hz z a (by omega)
    · rw [rb_set y0 (by simp; omega) a]
      by_cases hxy : x = y
      · rw [if_pos hxy]; exact ⟨fun _ => .inl hxy, fun _ => rfl⟩
      · rw [if_neg hxy, rb_rep a (by omega)]
        refine ⟨fun h => by (cases h), fun h => ?_⟩
        rcases h with h | ⟨i', p, q, _⟩
        · exact absurd h hxy
        · omega
  · rintro H1 ⟨T, hS, hT, hz⟩
    exact ev_eq (fun _ k _ => green_right_1_eq k) (ev_neg (by omega) (ev_ret (hS.eq (btab_eq hT hz))))
theorem green_left_ev {s : Sl} {t : List (List Int)} {H : AH} {lo : Nat} (hlo : lo ≤ H.length) (hv : Sq t) (ht : Tab H s t) : Ev (fun ρ k κ => green_left k s lo H κ) (fun v H' => Sep H H' [own (reL reB) v (btab t.length t.length (JL t))]) := by
  have hn := hv.le
  have hp := hv.pos
  refine ev_eq (fun _ k _ => green_left_eq k) ?_
  rw [ht.len]
  refine sp_mks (x := []) (Sep.nil H) (reL reB) (fun _ => nilRow) (by omega) (by omega) fun u H2 hS => ?_
  refine ev_loop (α := AH) (g := fun y H ρ k κ => green_left_1 k s u (t.length : Int) y lo H κ) (t.length : Int) (fun y H' => ∃ T : List (List Bool), Sep H H' [own (reL reB) u T] ∧ T.length = t.length ∧ ∀ z : Int, 0 ≤ z → z < y → (rdOf [] T z).length = t.length ∧ ∀ x : Int, 0 ≤ x → x < (t.length : Int) → (rdOf false (rdOf [] T z) x = true ↔ JL t z x)) ?_ ?_ 0 H2 (by omega) (by omega) ⟨_, hS, by simp, fun z a b => by omega⟩
  · rintro y H1 y0 y1 ⟨T, hS, hT, hz⟩ hk
    have hT' : y < (T.length : Int) := by omega
    refine ev_eq (fun _ k _ => green_left_1_eq k) (ev_pos y1 ?_)
    rw [ht.len]
    refine sp_mks (x := false) hS reB (fun _ => ⟨rfl, rfl⟩) (by omega) (by omega) fun w H2 hS => sp_putE hS.eltL.swap hlo y0 hT' fun H3 hS => sp_openS hS y0 hT' fun w hS => ?_
    refine sp_put (x := true) (hS.pull 1) hlo (fun _ => ⟨rfl, rfl⟩) y0 (by simp; omega) fun H4 hS => ?_
    have hS := (hS.pull 1).closeS
    refine ev_loop (α := AH) (g := fun i H ρ k κ => green_left_2 k s u y (t.length : Int) y (t.length : Int) i lo H κ) (t.length : Int) (fun i H' => ∃ row : List Bool, Sep H H' [own (reL reB) u (T.set y.toNat row)] ∧ row.length = t.length ∧ ∀ x : Int, 0 ≤ x → x < (t.length : Int) → (rdOf false row x = true ↔ x = y ∨ ∃ i' : Int, 0 ≤ i' ∧ i' < i ∧ x = M t i' y)) ?_ ?_ 0 H4 (by omega) (by omega) ⟨_, hS, by simp, fun x a b => ?_⟩
    · rintro i H1 i0 i1 ⟨row, hS, hr, hx⟩ hk
      have m0 := hv.lo i y i0 i1 y0 y1
      have m1 := hv.hi i y i0 i1 y0 y1
      have hrow := hv.row i i0 i1
      refine ev_eq (fun _ k _ => green_left_2_eq k) (ev_pos i1 (sp_openS hS y0 hT' fun w hS => ev_rdM (ht.le hS.le) i0 i1 y0 (by omega) (sp_put (x := true) (hS.pull 1) hlo (fun _ => ⟨rfl, rfl⟩) m0 (by omega) fun H2 hS => ?_)))
      rw [W_add i0 i1 (by omega)]
      refine hk H2 ⟨_, (hS.pull 1).closeS, by simpa using hr, fun x a b => ?_⟩
      rw [rb_set m0 (by omega) a]
      by_cases hxm : x = M t i y
      · rw [if_pos hxm]; exact ⟨fun _ => .inr ⟨i, i0, by omega, hxm⟩, fun _ => rfl⟩
      · rw [if_neg hxm, hx x a b]
        refine ⟨fun h => h.imp id fun ⟨i', p, q, r⟩ => ⟨i', p, by omega, r⟩, fun h => h.imp id fun ⟨i', p, q, r⟩ => ⟨i', p, ?_, r⟩⟩
        by_cases hi : i' = i
        · rw [hi] at r; exact absurd r hxm
        · omega
    · rintro H1 ⟨row, hS, hr, hx⟩
      refine ev_eq (fun _ k _ => green_left_2_eq k) (ev_neg (by omega) ?_)
      rw [W_add y0 y1 (by omega)]
      refine hk H1 ⟨_, hS, by simpa using hT, fun z a b => ?_⟩
      rw [rdOf_set [] y0 hT' a]
      by_cases hzy : z = y
      · rw [if_pos hzy, hzy]; exact ⟨hr, hx⟩
      · rw [if_neg hzy]; exact hz z a (by omega)
    · rw [rb_set y0 (by simp; omega) a]
      by_cases hxy : x = y
      · rw [if_pos hxy]; exact ⟨fun _ => .inl hxy, fun _ => rfl⟩
      · rw [if_neg hxy, rb_rep a (by omega)]
        refine ⟨fun h => by (cases h), fun h => ?_⟩
        rcases h with h | ⟨i', p, q, _⟩
        · exact absurd h hxy
        · omega
  · rintro H1 ⟨T, hS, hT, hz⟩
    exact ev_eq (fun _ k _ => green_left_1_eq k) (ev_neg (by omega) (ev_ret (hS.eq (btab_eq hT hz))))
open Classical in
theorem green_two_ev {s : Sl} {t : List (List Int)} {H : AH} {lo : Nat} (hlo : lo ≤ H.length) (hv : Sq t) (ht : Tab H s t) : Ev (fun ρ k κ => green_two k s lo H κ) (fun v H' => Sep H H' [own (reL reB) v (btab t.length t.length (JJ t))]) := by
  have hn := hv.le
  have hp := hv.pos
  refine ev_eq (fun _ k _ => green_two_eq k) (ev_call (green_right_ev (Nat.le_refl _) hv ht) fun r H2 hSr => ev_call (green_left_ev (Nat.le_refl _) hv (ht.le hSr.le)) fun l Hb hSl => ?_)
  have hb : Le H Hb := hSr.le.trans hSl.le
  have hr : TabB Hb r (btab t.length t.length (JR t)) := hSr.tabB.le hSl.le
  have hl : TabB Hb l (btab t.length t.length (JL t)) := hSl.tabB
  have hlb : lo ≤ Hb.length := by have := hb.len; omega
  have rl := btab_len t.length t.length (JR t)
  have ll := btab_len t.length t.length (JL t)
  rw [ht.len]
  refine sp_mks (x := []) (Sep.nil Hb) (reL reB) (fun _ => nilRow) (by omega) (by omega) fun u H2 hS => ?_
  refine ev_loop (α := AH) (g := fun y H ρ k κ => green_two_1 k s r l u (t.length : Int) y lo H κ) (t.length : Int) (fun y H' => ∃ T : List (List Bool), Sep Hb H' [own (reL reB) u T] ∧ T.length = t.length ∧ ∀ z : Int, 0 ≤ z → z < y → (rdOf [] T z).length = t.length ∧ ∀ x : Int, 0 ≤ x → x < (t.length : Int) → (rdOf false (rdOf [] T z) x = true ↔ JJ t z x)) ?_ ?_ 0 H2 (by omega) (by omega) ⟨_, hS, by simp, fun z a b => by omega⟩
  · rintro y H1 y0 y1 ⟨T, hS, hT, hz⟩ hk
    have hT' : y < (T.length : Int) := by omega
    refine ev_eq (fun _ k _ => green_two_1_eq k) (ev_pos y1 ?_)
    rw [ht.len]
    refine sp_mks (x := false) hS reB (fun _ => ⟨rfl, rfl⟩) (by omega) (by omega) fun w H2 hS => sp_putE hS.eltL.swap hlb y0 hT' fun H3 hS => sp_rdSB hl hS.le y0 (by omega) fun ly hly => ?_
    have lyl : (rdOf [] (btab t.length t.length (JL t)) y).length = t.length := btab_rlen y0 y1
    rw [hly.len, lyl]
    refine ev_loop (α := AH) (g := fun z H ρ k κ => green_two_2 k s r l u y (t.length : Int) y ly (t.length : Int) z lo H κ) (t.length : Int) (fun z H' => ∃ row : List Bool, Sep Hb H' [own (reL reB) u (T.set y.toNat row)] ∧ row.length = t.length ∧ ∀ x : Int, 0 ≤ x → x < (t.length : Int) → (rdOf false row x = true ↔ ∃ z' : Int, 0 ≤ z' ∧ z' < z ∧ JL t y z' ∧ JR t z' x)) ?_ ?_ 0 H3 (by omega) (by omega) ⟨_, hS, by simp, fun x a b => ?_⟩
    · rintro z H1 z0 z1 ⟨row, hS, hr', hx⟩ hk
      have next : ∀ H1, (∃ row : List Bool, Sep Hb H1 [own (reL reB) u (T.set y.toNat row)] ∧ row.length = t.length ∧ ∀ x : Int, 0 ≤ x → x < (t.length : Int) → (rdOf false row x = true ↔ ∃ z' : Int, 0 ≤ z' ∧ z' < z + 1 ∧ JL t y z' ∧ JR t z' x)) → Ev (fun ρ k κ => green_two_4 k s r l u y (t.length : Int) y ly (t.length : Int) z lo H1 κ) (fun v H' => Sep H H' [own (reL reB) v (btab t.length t.length (JJ t))]) := fun H1 h => by
        refine ev_eq (fun _ k _ => green_two_4_eq k) ?_
        rw [W_add z0 z1 (by omega)]
        exact hk H1 h
      refine ev_eq (fun _ k _ => green_two_2_eq k) (ev_pos z1 (ev_rdB (hly.le hS.le) z0 (by omega) ?_))
      rw [btab_at y0 y1 z0 z1]
      refine ev_nif (fun h => next H1 ⟨row, hS, hr', fun x a b => ?_⟩) (fun h => sp_rdSB hr hS.le z0 (by omega) fun rz hrz => ?_)
      · rw [hx x a b]
        refine ⟨fun ⟨z', p, q, r⟩ => ⟨z', p, by omega, r⟩, fun ⟨z', p, q, r⟩ => ⟨z', p, ?_, r⟩⟩
        by_cases hzz : z' = z
        · rw [hzz] at r; exact absurd r.1 h
        · omega
      · have rzl : (rdOf [] (btab t.length t.length (JR t)) z).length = t.length := btab_rlen z0 z1
        rw [hrz.len, rzl]
        refine ev_loop (α := AH) (g := fun i H ρ k κ => green_two_3 k s r l u y (t.length : Int) y ly (t.length : Int) z rz (t.length : Int) i lo H κ) (t.length : Int) (fun i H' => ∃ row : List Bool, Sep Hb H' [own (reL reB) u (T.set y.toNat row)] ∧ row.length = t.length ∧ ∀ x : Int, 0 ≤ x → x < (t.length : Int) → (rdOf false row x = true ↔ (∃ z' : Int, 0 ≤ z' ∧ z' < z ∧ JL t y z' ∧ JR t z' x) ∨ (x < i ∧ JR t z x))) ?_ ?_ 0 H1 (by omega) (by omega) ⟨row, hS, hr', fun x a b => (hx x a b).trans ⟨.inl, fun h => h.elim id fun ⟨p, _⟩ => by omega⟩⟩
        · rintro i H1 i0 i1 ⟨row, hS, hr', hx⟩ hk
          refine ev_eq (fun _ k _ => green_two_3_eq k) (ev_pos i1 (ev_rdB (hrz.le hS.le) i0 (by omega) ?_))
          rw [btab_at z0 z1 i0 i1]
          refine sp_openS hS y0 hT' fun w hSo => ?_
          have hSo2 := (hSo.pull 1 |>.pull 1).closeS
          refine sp_openS hSo2 y0 hT' fun w2 hSo3 => ?_
          -- both reads give the same row
          have hw : w = w2 := by
            obtain ⟨f, hf⟩ := hSo.head
            obtain ⟨g, hg⟩ := hSo3.head
            obtain ⟨_, b1, us1, vs1, vs2, ws1, xs1, x1, xs2, g1, g2, e1, e2, e3, e4, e5, e6, e7⟩ := hf
            obtain ⟨_, b2, us2, ws1', ws2', ws2, ys1, y1', ys2, k1, k2, d1, d2, d3, d4, d5, d6, d7⟩ := hg
            rw [e1] at d1
            have : b1 = b2 ∧ us1.length = us2.length := by simpa using d1
            obtain ⟨rfl, hu⟩ := this
            rw [e2] at d2
            have d2 : us1 ++ (vs1 ++ AV.sl w :: vs2 ++ ws1) = us2 ++ (ws1' ++ AV.sl w2 :: ws2' ++ ws2) := by simpa using d2
            have l1 := e5.len
            have l2 := d5.len
            have a1 : (us1 ++ (vs1 ++ AV.sl w :: vs2 ++ ws1))[us1.length + y.toNat]? = some (AV.sl w) := by rw [List.getElem?_append_right (by omega)]; simp; rw [List.getElem?_append_right (by omega)]; simp [l1, e4]
            have a2 : (us2 ++ (ws1' ++ AV.sl w2 :: ws2' ++ ws2))[us1.length + y.toNat]? = some (AV.sl w2) := by rw [hu, List.getElem?_append_right (by omega)]; simp; rw [List.getElem?_append_right (by omega)]; simp [l2, d4]
            rw [d2, a2] at a1
            simpa [eq_comm] using a1
          subst hw
          refine ev_rdB (hSo3.pull 1).rowB i0 (by omega) (ev_orI (c := rdOf false row i || decide (JR t z i)) (fun hh => ev_ret ⟨by rw [hh]; rfl, rfl⟩) (fun hh => by rw [hh]; rfl) (sp_put (hSo3.pull 1) hlb (fun _ => ⟨rfl, rfl⟩) i0 (by omega) fun H2 hS => ?_))
          rw [W_add i0 i1 (by omega)]
          refine hk H2 ⟨_, (hS.pull 1).closeS, by simpa using hr', fun x a b => ?_⟩
          rw [rb_set i0 (by omega) a]
          by_cases hxi : x = i
          · rw [if_pos hxi, hxi, Bool.or_eq_true, hx i i0 i1, decide_eq_true_iff]
            exact ⟨fun h => h.elim (fun h => h.imp id fun ⟨p, q⟩ => ⟨by omega, q⟩) fun h => .inr ⟨by omega, h⟩, fun h => h.elim (fun h => .inl (.inl h)) fun h => .inr h.2⟩
          · rw [if_neg hxi, hx x a b]
            exact ⟨fun h => h.imp id fun ⟨p, q⟩ => ⟨by omega, q⟩, fun h => h.imp id fun ⟨p, q⟩ => ⟨by omega, q⟩⟩
        · rintro H1 ⟨row, hS, hr', hx⟩
          refine ev_eq (fun _ k _ => green_two_3_eq k) (ev_neg (by omega) (next H1 ⟨row, hS, hr', fun x a b => ?_⟩))
          rw [hx x a b]
          constructor
          · rintro (⟨z', p, q, r⟩ | ⟨p, q⟩)
            · exact ⟨z', p, by omega, r⟩
            · exact ⟨z, z0, by omega, h, q⟩
          · rintro ⟨z', p, q, r⟩
            by_cases hzz : z' = z
            · rw [hzz] at r; exact .inr ⟨b, r.2⟩
            · exact .inl ⟨z', p, by omega, r⟩
    · rintro H1 ⟨row, hS, hr', hx⟩
      refine ev_eq (fun _ k _ => green_two_2_eq k) (ev_neg (by omega) ?_)
      rw [W_add y0 y1 (by omega)]
      refine hk H1 ⟨_, hS, by simpa using hT, fun z a b => ?_⟩
      rw [rdOf_set [] y0 hT' a]
      by_cases hzy : z = y
      · rw [if_pos hzy, hzy]; exact ⟨hr', hx⟩
      · rw [if_neg hzy]; exact hz z a (by omega)
    · rw [rb_rep a (by omega)]
      refine ⟨fun h => by (cases h), fun ⟨z', p, q, _⟩ => by omega⟩
  · rintro H1 ⟨T, hS, hT, hz⟩
    exact ev_eq (fun _ k _ => green_two_1_eq k) (ev_neg (by omega) (ev_ret ((hS.base hb).eq (btab_eq hT hz))))

end Go.Ab

/- Green's relations: the classes. What they answer. No condition but that a table comes in. -/
set_option linter.unusedVariables false
set_option linter.unusedSimpArgs false
namespace Go.Ab
open Go
/-- The classes that were numbered before x, n of them. -/
structure MuI (N : Nat) (E : Int → Int → Prop) (o : List Int) (x n : Int) : Prop where
  len : o.length = N
  n0 : 0 ≤ n ∧ n ≤ x
  lt : ∀ j : Int, 0 ≤ j → j < N → -1 ≤ rd o j ∧ rd o j < n
  done : ∀ j : Int, 0 ≤ j → j < N → (0 ≤ rd o j ↔ ∃ x' : Int, 0 ≤ x' ∧ x' < x ∧ E x' j)
  eqv : ∀ j j' : Int, 0 ≤ j → j < N → 0 ≤ j' → j' < N → 0 ≤ rd o j → 0 ≤ rd o j' → (rd o j = rd o j' ↔ E j j')
  all : ∀ c : Int, 0 ≤ c → c < n → ∃ x' : Int, 0 ≤ x' ∧ x' < x ∧ rd o x' = c
  can : ∀ j : Int, 0 ≤ j → j < N → ∀ c : Int, 0 ≤ c → c < rd o j → ∃ j' : Int, 0 ≤ j' ∧ j' < j ∧ rd o j' = c
theorem MuI.skip {N : Nat} {E : Int → Int → Prop} (hE : Eqv N E) {o : List Int} {x n : Int} (h : MuI N E o x n) (x0 : 0 ≤ x) (x1 : x < N) (hx : 0 ≤ rd o x) : MuI N E o (x + 1) n := by
  have := h.n0
  refine ⟨h.len, by omega, h.lt, fun j a b => (h.done j a b).trans ⟨fun ⟨x', p, q, r⟩ => ⟨x', p, by omega, r⟩, fun ⟨x', p, q, r⟩ => ?_⟩, h.eqv, fun c a b => ?_, h.can⟩
  · by_cases hxx : x' = x
    · obtain ⟨y, y0, y1, y2⟩ := (h.done x x0 x1).1 hx
      exact ⟨y, y0, y1, hE.trans y x j y0 (by omega) x0 x1 a b y2 (hxx ▸ r)⟩
    · exact ⟨x', p, by omega, r⟩
  · obtain ⟨x', p, q, r⟩ := h.all c a b
    exact ⟨x', p, by omega, r⟩
theorem MuI.new {N : Nat} {E : Int → Int → Prop} (hE : Eqv N E) {o o' : List Int} {x n : Int} (h : MuI N E o x n) (x0 : 0 ≤ x) (x1 : x < N) (hx : ¬ 0 ≤ rd o x) (hl : o'.length = N) (ho : ∀ j : Int, 0 ≤ j → j < N → (x ≤ j ∧ E x j ∧ rd o' j = n) ∨ (¬ (x ≤ j ∧ E x j) ∧ rd o' j = rd o j)) : MuI N E o' (x + 1) (n + 1) := by
  have hn := h.n0
  have hno : ∀ j : Int, 0 ≤ j → j < N → E x j → ¬ 0 ≤ rd o j := fun j a b e hj => by
    obtain ⟨y, y0, y1, y2⟩ := (h.done j a b).1 hj
    exact hx ((h.done x x0 x1).2 ⟨y, y0, y1, hE.trans y j x y0 (by omega) a b x0 x1 y2 (hE.symm x j x0 x1 a b e)⟩)
  have hlt : ∀ j : Int, 0 ≤ j → j < N → E x j → x ≤ j := fun j a b e => Classical.byContradiction fun hn => hno j a b e ((h.done j a b).2 ⟨j, a, by omega, hE.refl j a b⟩)
  have ho' : ∀ j : Int, 0 ≤ j → j < N → (E x j ∧ rd o' j = n) ∨ (¬ E x j ∧ rd o' j = rd o j) := fun j a b => by
    rcases ho j a b with ⟨p, q, r⟩ | ⟨p, q⟩
    · exact .inl ⟨q, r⟩
    · exact .inr ⟨fun e => p ⟨hlt j a b e, e⟩, q⟩
  refine ⟨hl, by omega, fun j a b => ?_, fun j a b => ?_, fun j j' a b a' b' c d => ?_, fun c a b => ?_, fun j a b c c0 c1 => ?_⟩
  · have := h.lt j a b
    rcases ho' j a b with ⟨_, e⟩ | ⟨_, e⟩ <;> omega
  · rcases ho' j a b with ⟨e, e'⟩ | ⟨e, e'⟩
    · exact ⟨fun _ => ⟨x, x0, by omega, e⟩, fun _ => by omega⟩
    · rw [e', h.done j a b]
      refine ⟨fun ⟨x', p, q, r⟩ => ⟨x', p, by omega, r⟩, fun ⟨x', p, q, r⟩ => ⟨x', p, ?_, r⟩⟩
      by_cases hxx : x' = x
      · exact absurd (hxx ▸ r) e
      · omega
  · rcases ho' j a b with ⟨e1, e2⟩ | ⟨e1, e2⟩ <;> rcases ho' j' a' b' with ⟨f1, f2⟩ | ⟨f1, f2⟩
    · exact ⟨fun _ => hE.trans j x j' a b x0 x1 a' b' (hE.symm x j x0 x1 a b e1) f1, fun _ => by omega⟩
    · have := h.lt j' a' b'
      exact ⟨fun _ => by omega, fun e => absurd (hE.trans x j j' x0 x1 a b a' b' e1 e) f1⟩
    · have := h.lt j a b
      exact ⟨fun _ => by omega, fun e => absurd (hE.trans x j' j x0 x1 a' b' a b f1 (hE.symm j j' a b a' b' e)) e1⟩
    · rw [e2] at c ⊢
      rw [f2] at d ⊢
      exact h.eqv j j' a b a' b' c d
  · by_cases hc : c = n
    · rcases ho' x x0 x1 with ⟨_, e⟩ | ⟨e, _⟩
      · exact ⟨x, x0, by omega, by omega⟩
      · exact absurd (hE.refl x x0 x1) e
    · obtain ⟨x', p, q, r⟩ := h.all c a (by omega)
      rcases ho' x' p (by omega) with ⟨e, _⟩ | ⟨_, e⟩
      · exact absurd (hlt x' p (by omega) e) (by omega)
      · exact ⟨x', p, by omega, by omega⟩
  · rcases ho' j a b with ⟨e, e'⟩ | ⟨e, e'⟩
    · obtain ⟨x', p, q, r⟩ := h.all c c0 (by omega)
      have := hlt j a b e
      rcases ho' x' p (by omega) with ⟨f, _⟩ | ⟨_, f⟩
      · exact absurd (hlt x' p (by omega) f) (by omega)
      · exact ⟨x', p, by omega, by omega⟩
    · rw [e'] at c1
      obtain ⟨j', p, q, r⟩ := h.can j a b c c0 c1
      rcases ho' j' p (by omega) with ⟨f, _⟩ | ⟨_, f⟩
      · exact absurd (show 0 ≤ rd o j' by omega) (hno j' p (by omega) f)
      · exact ⟨j', p, q, by omega⟩
theorem MuI.end' {N : Nat} {E : Int → Int → Prop} (hE : Eqv N E) {o : List Int} {n : Int} (h : MuI N E o N n) : IsCl N E o := by
  have hl := h.len
  have h0 : ∀ j : Int, 0 ≤ j → j < N → 0 ≤ rd o j := fun j a b => (h.done j a b).2 ⟨j, a, b, hE.refl j a b⟩
  exact ⟨h.len, fun x y a b c d => h.eqv x y a b c d (h0 x a b) (h0 y c d), fun i a b => ⟨h0 i a (by omega), h.can i a (by omega)⟩⟩
open Classical in
theorem green_mutual_ev {s : Sl} {N : Nat} {P : Int → Int → Prop} {H : AH} {lo : Nat} (hlo : lo ≤ H.length) (hN : N ≤ 4096) (hP : Pre N P) (hs : TabB H s (btab N N P)) : Ev (fun ρ k κ => green_mutual k s lo H κ) (fun v H' => Sep H H' [own reI v (clN N (Mu P))]) := by
  have hE := hP.mu
  have hlen := btab_len N N P
  refine ev_eq (fun _ k _ => green_mutual_eq k) ?_
  rw [hs.len, hlen]
  refine sp_mks (x := (0 : Int)) (Sep.nil H) reI (fun _ => ⟨rfl, rfl⟩) (by omega) (by omega) fun u H2 hS => ?_
  rw [hS.len]
  simp only [Int.toNat_natCast, List.length_replicate] at hS ⊢
  refine ev_loop (α := AH) (g := fun i H ρ k κ => green_mutual_1 k s u (N : Int) i lo H κ) (N : Int) (fun i H' => ∃ o : List Int, Sep H H' [own reI u o] ∧ o.length = N ∧ ∀ j : Int, 0 ≤ j → j < i → rd o j = -1) ?_ ?_ 0 H2 (by omega) (by omega) ⟨_, hS, by simp, fun j a b => by omega⟩
  · rintro i H1 i0 i1 ⟨o, hS, ho, hv⟩ hk
    refine ev_eq (fun _ k _ => green_mutual_1_eq k) (ev_pos i1 (sp_put (x := (-1 : Int)) hS hlo (fun _ => ⟨rfl, rfl⟩) i0 (by omega) fun H2 hS => ?_))
    rw [W_add i0 i1 (by omega)]
    refine hk H2 ⟨_, hS, by simpa using ho, fun j a b => ?_⟩
    rw [rd_set i0 (by omega) a]
    by_cases hj : j = i
    · rw [if_pos hj]
    · rw [if_neg hj]; exact hv j a (by omega)
  · rintro H1 ⟨o, hS, ho, hv⟩
    refine ev_eq (fun _ k _ => green_mutual_1_eq k) (ev_neg (by omega) ?_)
    rw [hS.len, ho]
    have next : ∀ {x : Int}, 0 ≤ x → x < N → ∀ (n : Int) (H1 : AH), Ev (fun ρ k κ => green_mutual_2 k s u n (N : Int) (x + 1) lo H1 κ) (fun v H' => Sep H H' [own reI v (clN N (Mu P))]) → Ev (fun ρ k κ => green_mutual_5 k s u n (N : Int) x lo H1 κ) (fun v H' => Sep H H' [own reI v (clN N (Mu P))]) := fun x0 x1 n H1 h => by
      refine ev_eq (fun _ k _ => green_mutual_5_eq k) ?_
      rw [W_add x0 x1 (by omega)]; exact h
    refine ev_loop (α := Int × AH) (g := fun x a ρ k κ => green_mutual_2 k s u a.1 (N : Int) x lo a.2 κ) (N : Int) (fun x a => ∃ o : List Int, Sep H a.2 [own reI u o] ∧ MuI N (Mu P) o x a.1) ?_ ?_ 0 (0, H1) (by omega) (by omega) ⟨o, hS, ho, by simp, fun j a b => ?_, fun j a b => ?_, fun j j' a b c d e f => ?_, fun c a b => by simp at b; omega, fun j a b c c0 c1 => ?_⟩
    · rintro x ⟨n, H1⟩ x0 x1 ⟨o, hS, hM⟩ hk
      simp only at hS hM
      have ho := hM.len
      have hn := hM.n0
      refine ev_eq (fun _ k _ => green_mutual_2_eq k) (ev_pos x1 (ev_rdI hS.row x0 (by omega) (ev_if (fun h => next x0 x1 n H1 (hk (n, H1) ⟨o, hS, hM.skip hE x0 x1 h⟩)) (fun h => ?_))))
      refine ev_loop (α := AH) (g := fun y H ρ k κ => green_mutual_3 k s u n x y (N : Int) x lo H κ) (N : Int) (fun y H' => x ≤ y ∧ ∃ o' : List Int, Sep H H' [own reI u o'] ∧ o'.length = N ∧ ∀ j : Int, 0 ≤ j → j < N → (x ≤ j ∧ j < y ∧ Mu P x j ∧ rd o' j = n) ∨ (¬ (x ≤ j ∧ j < y ∧ Mu P x j) ∧ rd o' j = rd o j)) ?_ ?_ x H1 x0 (by omega) ⟨Int.le_refl x, o, hS, ho, fun j a b => .inr ⟨by omega, rfl⟩⟩
      · rintro y H1 y0 y1 ⟨hxy, o', hS, ho', hj⟩ hk
        refine ev_eq (fun _ k _ => green_mutual_3_eq k) (ev_pos (by rw [hS.len]; omega) (sp_rdSB hs hS.le x0 (by omega) fun rx hrx => ev_rdB (hrx.le hS.le) y0 (by rw [btab_rlen x0 x1]; omega) ?_))
        rw [btab_at x0 x1 y0 y1]
        refine ev_andP (c := P y x) (fun _ => sp_rdSB hs hS.le y0 (by omega) fun ry hry => ev_rdB (hry.le hS.le) x0 (by rw [btab_rlen y0 y1]; omega) (ev_ret ⟨by rw [btab_at y0 y1 x0 x1], rfl⟩)) (ev_if (fun hm => ?_) (fun hm => ?_))
        · refine sp_put (x := n) hS hlo (fun _ => ⟨rfl, rfl⟩) y0 (by omega) fun H2 hS => ev_eq (fun _ k _ => green_mutual_4_eq k) ?_
          rw [W_add y0 y1 (by omega)]
          refine hk H2 ⟨by omega, _, hS, by simpa using ho', fun j a b => ?_⟩
          rw [rd_set y0 (by omega) a]
          by_cases hjy : j = y
          · rw [if_pos hjy, hjy]; exact .inl ⟨hxy, by omega, hm, rfl⟩
          · rw [if_neg hjy]
            rcases hj j a b with ⟨p, q, r⟩ | ⟨p, q⟩
            · exact .inl ⟨p, by omega, r⟩
            · exact .inr ⟨fun ⟨u, v, w⟩ => p ⟨u, by omega, w⟩, q⟩
        · refine ev_eq (fun _ k _ => green_mutual_4_eq k) ?_
          rw [W_add y0 y1 (by omega)]
          refine hk H1 ⟨by omega, _, hS, ho', fun j a b => ?_⟩
          rcases hj j a b with ⟨p, q, r⟩ | ⟨p, q⟩
          · exact .inl ⟨p, by omega, r⟩
          · refine .inr ⟨fun ⟨u, v, w⟩ => p ⟨u, ?_, w⟩, q⟩
            by_cases hjy : j = y
            · rw [hjy] at w; exact absurd w hm
            · omega
      · rintro H1 ⟨_, o', hS, ho', hj⟩
        refine ev_eq (fun _ k _ => green_mutual_3_eq k) (ev_neg (by rw [hS.len]; omega) ?_)
        rw [W_in (i := n + 1) (by omega) (by omega)]
        refine next x0 x1 _ _ (hk (n + 1, H1) ⟨o', hS, hM.new hE x0 x1 h ho' fun j a b => ?_⟩)
        rcases hj j a b with ⟨p, q, r⟩ | ⟨p, q⟩
        · exact .inl ⟨p, r⟩
        · exact .inr ⟨fun ⟨u, w⟩ => p ⟨u, b, w⟩, q⟩
    · rintro ⟨n, H1⟩ ⟨o, hS, hM⟩
      exact ev_eq (fun _ k _ => green_mutual_2_eq k) (ev_neg (by omega) (ev_ret (hS.eq (hM.end' hE).eq_clN)))
    · rw [hv j a b]; simp
    · rw [hv j a b]
      exact ⟨fun h => by omega, fun ⟨x', p, q, _⟩ => by omega⟩
    · rw [hv j a b] at e; omega
    · rw [hv j a b] at c1; omega
theorem ev_sssss {A : Type} {Q : A → AH → Prop} {H : AH} {p : Pt} {a b c d e : Sl} {K : (ρ : Type) → Nat → (A → AH → Option ρ) → Sl → Sl → Sl → Sl → Sl → Option ρ} (hp : At1 H p [.sl a, .sl b, .sl c, .sl d, .sl e])
    (hK : Ev (fun ρ n κ => K ρ n κ a b c d e) Q) : Ev (fun ρ n κ => ldA_sssss H p (K ρ n κ)) Q := by
  unfold ldA_sssss
  refine ev_ldnB (n := 5) hp rfl ?_
  simpa [castLfs, castLf, asS] using hK
/-- What Classes answers of a valid table. -/
noncomputable abbrev OwnG (t : List (List Int)) (v : Sl × Sl × Sl × Sl × Sl) : List Asr := [own reI v.1 (gR t), own reI v.2.1 (gL t), own reI v.2.2.1 (gJ t), own reI v.2.2.2.1 (gH t), own (reL reB) v.2.2.2.2 (gB t)]
open Classical in
theorem green_classes_ev {s : Sl} {t : List (List Int)} {H : AH} {lo : Nat} (hlo : lo ≤ H.length) (hv : Va t) (ht : Tab H s t) : Ev (fun ρ k κ => green_classes k s lo H κ) (fun v H' => Sep H H' (OwnG t v)) := by
  have hn := hv.le
  have hp := hv.pos
  have hsq := hv.toSq
  have cR := gR_cl hv
  have cL := gL_cl hv
  have cJ := gJ_cl hv
  have lR := cR.len
  have lL := cL.len
  have lJ := cJ.len
  refine ev_eq (fun _ k _ => green_classes_eq k) (sp_alc (Sep.nil H) fun p1 H2 hS => ?_)
  refine ev_call (green_two_ev (Nat.le_refl _) hsq (ht.le hS.le)) fun v3 H4 h4 => ?_
  have hS := hS.call h4
  refine ev_call (green_right_ev (Nat.le_refl _) hsq (ht.le hS.le)) fun v5 H6 h6 => ?_
  have hS := hS.on h6.le
  refine ev_call (green_mutual_ev (Nat.le_refl _) (by omega) (JR_pre hv) h6.tabB) fun v7 H8 h8 => ?_
  have h8 : Sep H6 H8 [own reI v7 (gR t)] := h8
  have hS := hS.call h8
  refine ev_call (green_left_ev (Nat.le_refl _) hsq (ht.le hS.le)) fun v9 H10 h10 => ?_
  have hS := hS.on h10.le
  refine ev_call (green_mutual_ev (Nat.le_refl _) (by omega) (JL_pre hv) h10.tabB) fun v11 H12 h12 => ?_
  have h12 : Sep H10 H12 [own reI v11 (gL t)] := h12
  have hS := hS.call h12
  refine ev_call (green_mutual_ev (Nat.le_refl _) (by omega) (JJ_pre hv) (hS.pull 2).tabB) fun v13 H14 h14 => ?_
  have h14 : Sep H12 H14 [own reI v13 (gJ t)] := h14
  have hS := hS.call h14
  refine sp_alc hS fun p15 H16 hS => sp_stnC hS hlo rfl fun H17 hS => ev_fldS hS.at1 rfl (ev_fldS hS.at1 rfl ?_)
  refine ev_call (partition_Meet_ev (Nat.le_refl _) (hS.pull 3).row (hS.pull 2).row cR.can cL.can (by omega) (by omega)) fun v22 H23 ⟨h, h23, hh⟩ => ?_
  have eh : h = gH t := by
    rw [lR] at hh
    exact hh.eq_clN
  subst eh
  have hS := hS.call h23
  refine sp_stcC (j := 3) (hS.pull 1) hlo (by simp) fun H24 hS => ev_fldS hS.at1 rfl ?_
  refine ev_call (green_firsts_ev (Nat.le_refl _) (hS.pull 2).row cJ.can (by show (gJ t).length ≤ 4096; omega)) fun v27 H28 h28 => ?_
  have hS := hS.call h28
  have hfl : (frs (gJ t)).length = nJ t := rfl
  have hnJ := nJ_le hv
  rw [hS.len]
  refine sp_mks (x := []) hS (reL reB) (fun _ => nilRow) (by omega) (by show ((nJ t : Nat) : Int) * _ ≤ _; omega) fun s29 H30 hS => ?_
  refine sp_stcC (j := 4) (hS.pull 2) hlo (by simp) fun H31 hS => ?_
  simp only [List.set_cons_succ, List.set_cons_zero] at hS
  have hS := hS.pull 1
  refine ev_loop (α := AH) (g := fun a H ρ k κ => green_classes_1 k (some p1) v3 (some p15) v27 v27 ((frs (gJ t)).length : Int) a lo H κ) ((frs (gJ t)).length : Int) (fun a H' => ∃ T : List (List Bool), Sep H H' [own (reL reB) s29 T, ownC p15 [.sl v7, .sl v11, .sl v13, .sl v22, .sl s29], own reI v27 (frs (gJ t)), own reI v22 (gH t), own reI v13 (gJ t), own reI v11 (gL t), own reI v7 (gR t), own (reL reB) v3 (btab t.length t.length (JJ t)), ownC p1 [.sl ⟨none, 0⟩, .sl ⟨none, 0⟩, .sl ⟨none, 0⟩, .sl ⟨none, 0⟩, .sl ⟨none, 0⟩]] ∧ T.length = nJ t ∧ ∀ z : Int, 0 ≤ z → z < a → (rdOf [] T z).length = nJ t ∧ ∀ x : Int, 0 ≤ x → x < (nJ t : Int) → (rdOf false (rdOf [] T z) x = true ↔ JJ t (fJ t x) (fJ t z))) ?_ ?_ 0 H31 (by omega) (by omega) ⟨_, hS, by simp [hfl], fun z a b => by omega⟩
  · rintro a H1 a0 a1 ⟨T, hS, hT, hz⟩ hk
    have hT' : a < (T.length : Int) := by omega
    obtain ⟨fa0, fa1, _⟩ := fJ_in hv a0 (show a < (nJ t : Int) by omega)
    refine ev_eq (fun _ k _ => green_classes_1_eq k) (ev_pos a1 (ev_rdI (hS.pull 2).row a0 a1 (ev_fldS (p := p15) (hS.pull 1).at1 rfl ?_)))
    rw [(hS.pull 2).len]
    refine sp_mks (x := false) hS reB (fun _ => ⟨rfl, rfl⟩) (by omega) (by omega) fun w H2 hS => sp_putE hS.eltL.swap hlo a0 hT' fun H3 hS => ?_
    refine ev_loop (α := AH) (g := fun b H ρ k κ => green_classes_2 k (some p1) v3 (some p15) v27 a (fJ t a) v27 ((frs (gJ t)).length : Int) a v27 ((frs (gJ t)).length : Int) b lo H κ) ((frs (gJ t)).length : Int) (fun b H' => ∃ row : List Bool, Sep H H' [own (reL reB) s29 (T.set a.toNat row), ownC p15 [.sl v7, .sl v11, .sl v13, .sl v22, .sl s29], own reI v27 (frs (gJ t)), own reI v22 (gH t), own reI v13 (gJ t), own reI v11 (gL t), own reI v7 (gR t), own (reL reB) v3 (btab t.length t.length (JJ t)), ownC p1 [.sl ⟨none, 0⟩, .sl ⟨none, 0⟩, .sl ⟨none, 0⟩, .sl ⟨none, 0⟩, .sl ⟨none, 0⟩]] ∧ row.length = nJ t ∧ ∀ x : Int, 0 ≤ x → x < b → (rdOf false row x = true ↔ JJ t (fJ t x) (fJ t a))) ?_ ?_ 0 H3 (by omega) (by omega) ⟨_, hS, by simp [hfl], fun x c d => by omega⟩
    · rintro b H1 b0 b1 ⟨row, hS, hr, hx⟩ hk
      obtain ⟨fb0, fb1, _⟩ := fJ_in hv b0 (show b < (nJ t : Int) by omega)
      refine ev_eq (fun _ k _ => green_classes_2_eq k) (ev_pos b1 (ev_rdI (hS.pull 2).row b0 b1 (ev_fldS (p := p15) (hS.pull 1).at1 rfl (sp_openS hS a0 hT' fun w hS => ev_rdSB (hS.pull 8).tabB fb0 (by rw [btab_len]; exact fb1) fun jy hjy => ev_rdB hjy fa0 (by rw [show rdOf [] (btab t.length t.length (JJ t)) (rd (frs (gJ t)) b) = rdOf [] (btab t.length t.length (JJ t)) (fJ t b) from rfl, btab_rlen fb0 fb1]; exact fa1) ?_))))
      rw [show rdOf [] (btab t.length t.length (JJ t)) (rd (frs (gJ t)) b) = rdOf [] (btab t.length t.length (JJ t)) (fJ t b) from rfl, btab_at fb0 fb1 fa0 fa1]
      refine sp_put (x := decide (JJ t (fJ t b) (fJ t a))) (hS.pull 1) hlo (fun _ => ⟨rfl, rfl⟩) b0 (by omega) fun H2 hS => ?_
      rw [W_add b0 b1 (by omega)]
      refine hk H2 ⟨_, (hS.pull 1).closeS, by simpa using hr, fun x c d => ?_⟩
      rw [rb_set b0 (by omega) c]
      by_cases hxb : x = b
      · rw [if_pos hxb, hxb, decide_eq_true_iff]
      · rw [if_neg hxb]; exact hx x c (by omega)
    · rintro H1 ⟨row, hS, hr, hx⟩
      refine ev_eq (fun _ k _ => green_classes_2_eq k) (ev_neg (by omega) ?_)
      rw [W_add a0 a1 (by omega)]
      refine hk H1 ⟨_, hS, by simpa using hT, fun z c d => ?_⟩
      rw [rdOf_set [] a0 hT' c]
      by_cases hza : z = a
      · rw [if_pos hza, hza]; exact ⟨hr, fun x e f => hx x e (by omega)⟩
      · rw [if_neg hza]; exact hz z c (by omega)
  · rintro H1 ⟨T, hS, hT, hz⟩
    have eT : T = gB t := btab_eq hT fun y a b => hz y a (by omega)
    subst eT
    refine ev_eq (fun _ k _ => green_classes_1_eq k) (ev_neg (by omega) (ev_asP (ev_sssss (hS.pull 1).at1 (ev_asP ?_))))
    refine sp_stnC (p := p1) (us := [.sl v7, .sl v11, .sl v13, .sl v22, .sl s29]) (hS.pull 8) hlo rfl fun H2 hS => ?_
    have hp1 := hS.at1
    refine ev_asP (ev_sssss hp1 (ev_ret ?_))
    have h5 := (hS.pull 1 |>.pull 4 |>.pull 5 |>.pull 6 |>.pull 7).take 5
    exact h5

end Go.Ab

/- Green's relations by the reference; comparisons. What they answer. No condition but that a table comes in. -/
set_option linter.unusedVariables false
set_option linter.unusedSimpArgs false
namespace Go.Ab
open Go
open Classical in
/-- A row of bools. -/
noncomputable def brow (n : Nat) (Q : Int → Prop) : List Bool := (List.range n).map fun x : Nat => decide (Q x)
theorem brow_len (n : Nat) (Q : Int → Prop) : (brow n Q).length = n := by simp [brow]
open Classical in
theorem brow_at {n : Nat} {Q : Int → Prop} {x : Int} (x0 : 0 ≤ x) (x1 : x < n) : rdOf false (brow n Q) x = decide (Q x) := by
  unfold brow; rw [rdOf_map false x0 x1, show ((x.toNat : Nat) : Int) = x by omega]
open Classical in
theorem brow_eq {n : Nat} {Q : Int → Prop} {l : List Bool} (hl : l.length = n) (h : ∀ x : Int, 0 ≤ x → x < n → (rdOf false l x = true ↔ Q x)) : l = brow n Q :=
  rdOf_ext false (by rw [brow_len, hl]) fun x x0 x1 => by rw [brow_at x0 (by omega), Bool.eq_iff_iff, decide_eq_true_iff]; exact h x x0 (by omega)
open Classical in
theorem brow_iff {n : Nat} {Q : Int → Prop} {x : Int} (x0 : 0 ≤ x) (x1 : x < n) : rdOf false (brow n Q) x = true ↔ Q x := by rw [brow_at x0 x1]; exact decide_eq_true_iff
theorem semigroupref15_Right_ev {s : Sl} {t : List (List Int)} {H : AH} {lo : Nat} (hlo : lo ≤ H.length) (hv : Sq t) (ht : Tab H s t) {y : Int} (y0 : 0 ≤ y) (y1 : y < (t.length : Int)) : Ev (fun ρ k κ => semigroupref15_Right k s y lo H κ) (fun v H' => Sep H H' [own reB v (brow t.length (JR t y))]) := by
  have hn := hv.le
  have hrow := hv.row y y0 y1
  refine ev_eq (fun _ k _ => semigroupref15_Right_eq k) ?_
  rw [ht.len]
  refine sp_mks (x := false) (Sep.nil H) reB (fun _ => ⟨rfl, rfl⟩) (by omega) (by omega) fun u H2 hS => sp_put (x := true) hS hlo (fun _ => ⟨rfl, rfl⟩) y0 (by simp; omega) fun H4 hS => sp_rdS ht hS.le y0 y1 fun r hr => ?_
  rw [hr.len, hrow]
  refine ev_loop (α := AH) (g := fun i H ρ k κ => semigroupref15_Right_1 k u r (t.length : Int) i lo H κ) (t.length : Int) (fun i H' => ∃ row : List Bool, Sep H H' [own reB u row] ∧ row.length = t.length ∧ ∀ x : Int, 0 ≤ x → x < (t.length : Int) → (rdOf false row x = true ↔ x = y ∨ ∃ i' : Int, 0 ≤ i' ∧ i' < i ∧ x = M t y i')) ?_ ?_ 0 H4 (by omega) (by omega) ⟨_, hS, by simp, fun x a b => ?_⟩
  · rintro i H1 i0 i1 ⟨row, hS, hr', hx⟩ hk
    have m0 := hv.lo y i y0 y1 i0 i1
    have m1 := hv.hi y i y0 y1 i0 i1
    refine ev_eq (fun _ k _ => semigroupref15_Right_1_eq k) (ev_pos i1 (ev_rdI (hr.le hS.le) i0 (by omega) (sp_put (i := M t y i) (x := true) hS hlo (fun _ => ⟨rfl, rfl⟩) m0 (by omega) fun H2 hS => ?_)))
    rw [W_add i0 i1 (by omega)]
    refine hk H2 ⟨_, hS, by simpa using hr', fun x a b => ?_⟩
    rw [rb_set m0 (by omega) a]
    by_cases hxm : x = M t y i
    · rw [if_pos hxm]; exact ⟨fun _ => .inr ⟨i, i0, by omega, hxm⟩, fun _ => rfl⟩
    · rw [if_neg hxm, hx x a b]
      refine ⟨fun h => h.imp id fun ⟨i', p, q, r⟩ => ⟨i', p, by omega, r⟩, fun h => h.imp id fun ⟨i', p, q, r⟩ => ⟨i', p, ?_, r⟩⟩
      by_cases hi : i' = i
      · rw [hi] at r; exact absurd r hxm
      · omega
  · rintro H1 ⟨row, hS, hr', hx⟩
    exact ev_eq (fun _ k _ => semigroupref15_Right_1_eq k) (ev_neg (by omega) (ev_ret (hS.eq (brow_eq hr' hx))))
  · rw [rb_set y0 (by simp; omega) a]
    by_cases hxy : x = y
    · rw [if_pos hxy]; exact ⟨fun _ => .inl hxy, fun _ => rfl⟩
    · rw [if_neg hxy, rb_rep a (by omega)]
      refine ⟨fun h => by (cases h), fun h => ?_⟩
      rcases h with h | ⟨i', p, q, _⟩
      · exact absurd h hxy
      · omega
theorem semigroupref15_Left_ev {s : Sl} {t : List (List Int)} {H : AH} {lo : Nat} (hlo : lo ≤ H.length) (hv : Sq t) (ht : Tab H s t) {y : Int} (y0 : 0 ≤ y) (y1 : y < (t.length : Int)) : Ev (fun ρ k κ => semigroupref15_Left k s y lo H κ) (fun v H' => Sep H H' [own reB v (brow t.length (JL t y))]) := by
  have hn := hv.le
  refine ev_eq (fun _ k _ => semigroupref15_Left_eq k) ?_
  rw [ht.len]
  refine sp_mks (x := false) (Sep.nil H) reB (fun _ => ⟨rfl, rfl⟩) (by omega) (by omega) fun u H2 hS => sp_put (x := true) hS hlo (fun _ => ⟨rfl, rfl⟩) y0 (by simp; omega) fun H4 hS => ?_
  refine ev_loop (α := AH) (g := fun i H ρ k κ => semigroupref15_Left_1 k s y u (t.length : Int) i lo H κ) (t.length : Int) (fun i H' => ∃ row : List Bool, Sep H H' [own reB u row] ∧ row.length = t.length ∧ ∀ x : Int, 0 ≤ x → x < (t.length : Int) → (rdOf false row x = true ↔ x = y ∨ ∃ i' : Int, 0 ≤ i' ∧ i' < i ∧ x = M t i' y)) ?_ ?_ 0 H4 (by omega) (by omega) ⟨_, hS, by simp, fun x a b => ?_⟩
  · rintro i H1 i0 i1 ⟨row, hS, hr', hx⟩ hk
    have m0 := hv.lo i y i0 i1 y0 y1
    have m1 := hv.hi i y i0 i1 y0 y1
    have hrow := hv.row i i0 i1
    refine ev_eq (fun _ k _ => semigroupref15_Left_1_eq k) (ev_pos i1 (ev_rdM (ht.le hS.le) i0 i1 y0 (by omega) (sp_put (x := true) hS hlo (fun _ => ⟨rfl, rfl⟩) m0 (by omega) fun H2 hS => ?_)))
    rw [W_add i0 i1 (by omega)]
    refine hk H2 ⟨_, hS, by simpa using hr', fun x a b => ?_⟩
    rw [rb_set m0 (by omega) a]
    by_cases hxm : x = M t i y
    · rw [if_pos hxm]; exact ⟨fun _ => .inr ⟨i, i0, by omega, hxm⟩, fun _ => rfl⟩
    · rw [if_neg hxm, hx x a b]
      refine ⟨fun h => h.imp id fun ⟨i', p, q, r⟩ => ⟨i', p, by omega, r⟩, fun h => h.imp id fun ⟨i', p, q, r⟩ => ⟨i', p, ?_, r⟩⟩
      by_cases hi : i' = i
      · rw [hi] at r; exact absurd r hxm
      · omega
  · rintro H1 ⟨row, hS, hr', hx⟩
    exact ev_eq (fun _ k _ => semigroupref15_Left_1_eq k) (ev_neg (by omega) (ev_ret (hS.eq (brow_eq hr' hx))))
  · rw [rb_set y0 (by simp; omega) a]
    by_cases hxy : x = y
    · rw [if_pos hxy]; exact ⟨fun _ => .inl hxy, fun _ => rfl⟩
    · rw [if_neg hxy, rb_rep a (by omega)]
      refine ⟨fun h => by (cases h), fun h => ?_⟩
      rcases h with h | ⟨i', p, q, _⟩
      · exact absurd h hxy
      · omega
open Classical in
theorem semigroupref15_Both_ev {s : Sl} {t : List (List Int)} {H : AH} {lo : Nat} (hlo : lo ≤ H.length) (hv : Sq t) (ht : Tab H s t) {y : Int} (y0 : 0 ≤ y) (y1 : y < (t.length : Int)) : Ev (fun ρ k κ => semigroupref15_Both k s y lo H κ) (fun v H' => Sep H H' [own reB v (brow t.length (JJ t y))]) := by
  have hn := hv.le
  refine ev_eq (fun _ k _ => semigroupref15_Both_eq k) ?_
  rw [ht.len]
  refine sp_mks (x := false) (Sep.nil H) reB (fun _ => ⟨rfl, rfl⟩) (by omega) (by omega) fun u H2 hS => ?_
  refine ev_call (semigroupref15_Left_ev (Nat.le_refl _) hv (ht.le hS.le) y0 y1) fun l H4 h4 => ?_
  have hS := (hS.call h4).pull 1
  rw [h4.len, brow_len]
  refine ev_loop (α := AH) (g := fun z H ρ k κ => semigroupref15_Both_1 k s u l (t.length : Int) z lo H κ) (t.length : Int) (fun z H' => ∃ row : List Bool, Sep H H' [own reB u row, own reB l (brow t.length (JL t y))] ∧ row.length = t.length ∧ ∀ x : Int, 0 ≤ x → x < (t.length : Int) → (rdOf false row x = true ↔ ∃ z' : Int, 0 ≤ z' ∧ z' < z ∧ JL t y z' ∧ JR t z' x)) ?_ ?_ 0 H4 (by omega) (by omega) ⟨_, hS, by simp, fun x a b => ?_⟩
  · rintro z H1 z0 z1 ⟨row, hS, hr', hx⟩ hk
    have hrow := hv.row z z0 z1
    have next : ∀ H1, (∃ row : List Bool, Sep H H1 [own reB u row, own reB l (brow t.length (JL t y))] ∧ row.length = t.length ∧ ∀ x : Int, 0 ≤ x → x < (t.length : Int) → (rdOf false row x = true ↔ ∃ z' : Int, 0 ≤ z' ∧ z' < z + 1 ∧ JL t y z' ∧ JR t z' x)) → Ev (fun ρ k κ => semigroupref15_Both_3 k s u l (t.length : Int) z lo H1 κ) (fun v H' => Sep H H' [own reB v (brow t.length (JJ t y))]) := fun H1 h => by
      refine ev_eq (fun _ k _ => semigroupref15_Both_3_eq k) ?_
      rw [W_add z0 z1 (by omega)]
      exact hk H1 h
    refine ev_eq (fun _ k _ => semigroupref15_Both_1_eq k) (ev_pos z1 (ev_rdB (hS.pull 1).rowB z0 (by rw [brow_len]; exact z1) ?_))
    rw [brow_at z0 z1]
    refine ev_nif (fun h => next H1 ⟨row, hS, hr', fun x a b => ?_⟩) (fun h => ?_)
    · rw [hx x a b]
      refine ⟨fun ⟨z', p, q, r⟩ => ⟨z', p, by omega, r⟩, fun ⟨z', p, q, r⟩ => ⟨z', p, ?_, r⟩⟩
      by_cases hzz : z' = z
      · rw [hzz] at r; exact absurd r.1 h
      · omega
    · refine sp_put (x := true) hS hlo (fun _ => ⟨rfl, rfl⟩) z0 (by omega) fun H3 hS => sp_rdS ht hS.le z0 z1 fun r hr => ?_
      rw [hr.len, hrow]
      refine ev_loop (α := AH) (g := fun i H ρ k κ => semigroupref15_Both_2 k s u l (t.length : Int) z r (t.length : Int) i lo H κ) (t.length : Int) (fun i H' => ∃ row : List Bool, Sep H H' [own reB u row, own reB l (brow t.length (JL t y))] ∧ row.length = t.length ∧ ∀ x : Int, 0 ≤ x → x < (t.length : Int) → (rdOf false row x = true ↔ (∃ z' : Int, 0 ≤ z' ∧ z' < z ∧ JL t y z' ∧ JR t z' x) ∨ x = z ∨ ∃ i' : Int, 0 ≤ i' ∧ i' < i ∧ x = M t z i')) ?_ ?_ 0 H3 (by omega) (by omega) ⟨_, hS, by simpa using hr', fun x a b => ?_⟩
      · rintro i H1 i0 i1 ⟨row, hS, hr', hx⟩ hk
        have m0 := hv.lo z i z0 z1 i0 i1
        have m1 := hv.hi z i z0 z1 i0 i1
        refine ev_eq (fun _ k _ => semigroupref15_Both_2_eq k) (ev_pos i1 (ev_rdI (hr.le hS.le) i0 (by omega) (sp_put (i := M t z i) (x := true) hS hlo (fun _ => ⟨rfl, rfl⟩) m0 (by omega) fun H2 hS => ?_)))
        rw [W_add i0 i1 (by omega)]
        refine hk H2 ⟨_, hS, by simpa using hr', fun x a b => ?_⟩
        rw [rb_set m0 (by omega) a]
        by_cases hxm : x = M t z i
        · rw [if_pos hxm]; exact ⟨fun _ => .inr (.inr ⟨i, i0, by omega, hxm⟩), fun _ => rfl⟩
        · rw [if_neg hxm, hx x a b]
          refine ⟨fun h => h.imp id fun h => h.imp id fun ⟨i', p, q, r⟩ => ⟨i', p, by omega, r⟩, fun h => h.imp id fun h => h.imp id fun ⟨i', p, q, r⟩ => ⟨i', p, ?_, r⟩⟩
          by_cases hi : i' = i
          · rw [hi] at r; exact absurd r hxm
          · omega
      · rintro H1 ⟨row, hS, hr', hx⟩
        refine ev_eq (fun _ k _ => semigroupref15_Both_2_eq k) (ev_neg (by omega) (next H1 ⟨row, hS, hr', fun x a b => ?_⟩))
        rw [hx x a b]
        constructor
        · rintro (⟨z', p, q, r⟩ | h')
          · exact ⟨z', p, by omega, r⟩
          · exact ⟨z, z0, by omega, h, h'⟩
        · rintro ⟨z', p, q, r⟩
          by_cases hzz : z' = z
          · rw [hzz] at r; exact .inr r.2
          · exact .inl ⟨z', p, by omega, r⟩
      · rw [rb_set z0 (by omega) a]
        by_cases hxz : x = z
        · rw [if_pos hxz]; exact ⟨fun _ => .inr (.inl hxz), fun _ => rfl⟩
        · rw [if_neg hxz, hx x a b]
          refine ⟨.inl, fun h => h.elim id fun h => ?_⟩
          rcases h with h | ⟨i', p, q, _⟩
          · exact absurd h hxz
          · omega
  · rintro H1 ⟨row, hS, hr', hx⟩
    refine ev_eq (fun _ k _ => semigroupref15_Both_1_eq k) (ev_neg (by omega) (ev_ret ((hS.take 1).eq (brow_eq hr' fun x a b => ?_))))
    exact hx x a b
  · rw [rb_rep a (by omega)]
    exact ⟨fun h => by (cases h), fun ⟨z', p, q, _⟩ => by omega⟩
/-- Which relation 'which' asks for. -/
def JW (t : List (List Int)) (w : Int) : Int → Int → Prop := if w = 82 then JR t else if w = 76 then JL t else JJ t
theorem semigroupref15_ideals_ev {s : Sl} {t : List (List Int)} {H : AH} {lo : Nat} {w : Int} (hlo : lo ≤ H.length) (hv : Sq t) (ht : Tab H s t) : Ev (fun ρ k κ => semigroupref15_ideals k s w lo H κ) (fun v H' => Sep H H' [own (reL reB) v (btab t.length t.length (JW t w))]) := by
  have hn := hv.le
  refine ev_eq (fun _ k _ => semigroupref15_ideals_eq k) ?_
  rw [ht.len]
  refine ev_loop (α := Sl × AH) (g := fun y a ρ k κ => semigroupref15_ideals_1 k s w a.1 (t.length : Int) y lo a.2 κ) (t.length : Int) (fun y a => Sep H a.2 [own (reL reB) a.1 ((List.range y.toNat).map fun y : Nat => brow t.length (JW t w y))]) ?_ ?_ 0 (⟨none, 0⟩, H) (by omega) (by omega) ((Sep.nil H).nilS _)
  · rintro y ⟨u, H1⟩ y0 y1 hS hk
    simp only at hS
    have fin : ∀ {P : Int → Int → Prop} (v : Sl) (H2 : AH), JW t w = P → Sep H1 H2 [own reB v (brow t.length (P y))] → Ev (fun ρ k κ => mkb H2 [.sl v] 1 1 fun s3 H4 => appS lo H4 u s3 1 24 fun s5 H6 => semigroupref15_ideals_2 k s w s5 (t.length : Int) y lo H6 κ) (fun v H' => Sep H H' [own (reL reB) v (btab t.length t.length (JW t w))]) := by
      intro P v H2 hP h2
      have hS := (hS.call h2).pull 1
      refine sp_appL hS hlo (by simp; omega) fun s' H' hS' => ev_eq (fun _ k _ => semigroupref15_ideals_2_eq k) ?_
      rw [W_add y0 y1 (by omega)]
      refine hk (s', H') (hS'.eq ?_)
      have := range_snoc (fun y : Nat => brow t.length (JW t w y)) y0
      rw [show ((y.toNat : Nat) : Int) = y by omega] at this
      rw [← this, hP]
    refine ev_eq (fun _ k _ => semigroupref15_ideals_1_eq k) (ev_pos y1 (ev_if (fun h => ?_) (fun h => ev_if (fun h' => ?_) (fun h' => ?_))))
    · exact ev_call (semigroupref15_Right_ev (Nat.le_refl _) hv (ht.le hS.le) y0 y1) fun v H2 h2 => fin v H2 (by unfold JW; rw [if_pos h]) h2
    · exact ev_call (semigroupref15_Left_ev (Nat.le_refl _) hv (ht.le hS.le) y0 y1) fun v H2 h2 => fin v H2 (by unfold JW; rw [if_neg h, if_pos h']) h2
    · exact ev_call (semigroupref15_Both_ev (Nat.le_refl _) hv (ht.le hS.le) y0 y1) fun v H2 h2 => fin v H2 (by unfold JW; rw [if_neg h, if_neg h']) h2
  · rintro ⟨u, H1⟩ hS
    exact ev_eq (fun _ k _ => semigroupref15_ideals_1_eq k) (ev_neg (by omega) (ev_ret (hS.eq (by simp; rfl))))
open Classical in
theorem semigroupref15_mutual_ev {s : Sl} {N : Nat} {P : Int → Int → Prop} {H : AH} {lo : Nat} (hlo : lo ≤ H.length) (hN : N ≤ 4096) (hP : Pre N P) (hs : TabB H s (btab N N P)) : Ev (fun ρ k κ => semigroupref15_mutual k s lo H κ) (fun v H' => Sep H H' [own reI v (clN N (Mu P))]) := by
  have hE := hP.mu
  have hlen := btab_len N N P
  refine ev_eq (fun _ k _ => semigroupref15_mutual_eq k) ?_
  rw [hs.len, hlen]
  refine sp_mks (x := (0 : Int)) (Sep.nil H) reI (fun _ => ⟨rfl, rfl⟩) (by omega) (by omega) fun u H2 hS => ?_
  rw [hS.len]
  simp only [Int.toNat_natCast, List.length_replicate] at hS ⊢
  refine ev_loop (α := AH) (g := fun x H ρ k κ => semigroupref15_mutual_1 k s u (N : Int) x lo H κ) (N : Int) (fun x H' => ∃ p : List Int, Sep H H' [own reI u p] ∧ p.length = N ∧ (∀ j : Int, 0 ≤ j → j < x → rd p j ≤ j) ∧ ∀ j j' : Int, 0 ≤ j → j < x → 0 ≤ j' → j' < x → (rd p j = rd p j' ↔ Mu P j j')) ?_ ?_ 0 H2 (by omega) (by omega) ⟨_, hS, by simp, fun j a b => by omega, fun j j' a b => by omega⟩
  · rintro x H1 x0 x1 ⟨p, hS, hp, hle, heq⟩ hk
    have next : ∀ (c : Int) (H1 : AH), Sep H H1 [own reI u (p.set x.toNat c)] → c ≤ x → (∀ j : Int, 0 ≤ j → j < x → (rd p j = c ↔ Mu P j x)) → Ev (fun ρ k κ => semigroupref15_mutual_3 k s u (N : Int) x lo H1 κ) (fun v H' => Sep H H' [own reI v (clN N (Mu P))]) := fun c H1 hS hc h => by
      refine ev_eq (fun _ k _ => semigroupref15_mutual_3_eq k) ?_
      rw [W_add x0 x1 (by omega)]
      have hs : ∀ j : Int, 0 ≤ j → rd (p.set x.toNat c) j = if j = x then c else rd p j := fun j j0 => rd_set x0 (by omega) j0
      refine hk H1 ⟨_, hS, by simpa using hp, fun j a b => ?_, fun j j' a b a' b' => ?_⟩
      · rw [hs j a]; split
        · omega
        · exact hle j a (by omega)
      · rw [hs j a, hs j' a']
        by_cases hj : j = x
        · by_cases hj' : j' = x
          · rw [hj, hj']; exact ⟨fun _ => hE.refl x x0 x1, fun _ => rfl⟩
          · rw [if_pos hj, if_neg hj', hj, eq_comm, h j' a' (by omega)]
            exact ⟨hE.symm _ _ a' (by omega) x0 x1, hE.symm _ _ x0 x1 a' (by omega)⟩
        · by_cases hj' : j' = x
          · rw [if_neg hj, if_pos hj', hj']; exact h j a (by omega)
          · rw [if_neg hj, if_neg hj']; exact heq j j' a (by omega) a' (by omega)
    refine ev_eq (fun _ k _ => semigroupref15_mutual_1_eq k) (ev_pos x1 (sp_put (x := x) hS hlo (fun _ => ⟨rfl, rfl⟩) x0 (by omega) fun H2 hS => ?_))
    refine ev_for0 (g := fun y ρ k κ => semigroupref15_mutual_2 k s u x y (N : Int) x lo H2 κ) x (fun y => ∀ y' : Int, 0 ≤ y' → y' < y → ¬ Mu P x y') ?_ ?_ 0 (by omega) (by omega) (fun y' a b => by omega)
    · intro y y0 y1 hy
      have rx := btab_rlen (n := N) (m := N) (P := P) x0 x1
      have ry := btab_rlen (n := N) (m := N) (P := P) y0 (show y < N by omega)
      by_cases hm : Mu P x y
      · left
        refine ev_eq (fun _ k _ => semigroupref15_mutual_2_eq k) (ev_pos y1 (sp_rdSB hs hS.le x0 (by omega) fun rx hrx => ev_rdB (hrx.le hS.le) y0 (by omega) ?_))
        rw [btab_at x0 x1 y0 (by omega)]
        refine ev_andP (c := P y x) (fun _ => sp_rdSB hs hS.le y0 (by omega) fun ry hry => ev_rdB (hry.le hS.le) x0 (by omega) (ev_ret ⟨by rw [btab_at y0 (by omega) x0 x1], rfl⟩)) (ev_pos hm (ev_rdI hS.row y0 (by simp; omega) (sp_put (x := rd (p.set x.toNat x) y) hS hlo (fun _ => ⟨rfl, rfl⟩) x0 (by simp; omega) fun H3 hS => ?_)))
        rw [List.set_set, rd_set x0 (by omega) y0, if_neg (by omega)] at hS
        refine next (rd p y) H3 hS (by have := hle y y0 (by omega); omega) fun j a b => ?_
        rw [heq j y a b y0 y1]
        exact ⟨fun e => hE.trans j y x a (by omega) y0 (by omega) x0 x1 e (hE.symm x y x0 x1 y0 (by omega) hm), fun e => hE.trans j x y a (by omega) x0 x1 y0 (by omega) e hm⟩
      · right
        refine ⟨fun y' a b => ?_, fun h' => ?_⟩
        · by_cases hyy : y' = y
          · rw [hyy]; exact hm
          · exact hy y' a (by omega)
        refine ev_eq (fun _ k _ => semigroupref15_mutual_2_eq k) (ev_pos y1 (sp_rdSB hs hS.le x0 (by omega) fun rx hrx => ev_rdB (hrx.le hS.le) y0 (by omega) ?_))
        rw [btab_at x0 x1 y0 (by omega)]
        refine ev_andP (c := P y x) (fun _ => sp_rdSB hs hS.le y0 (by omega) fun ry hry => ev_rdB (hry.le hS.le) x0 (by omega) (ev_ret ⟨by rw [btab_at y0 (by omega) x0 x1], rfl⟩)) (ev_neg hm ?_)
        rw [W_add y0 y1 (by omega)]; exact h'
    · intro hy
      refine ev_eq (fun _ k _ => semigroupref15_mutual_2_eq k) (ev_neg (by omega) (next x H2 hS (Int.le_refl _) fun j a b => ?_))
      refine ⟨fun e => ?_, fun e => absurd (hE.symm j x a (by omega) x0 x1 e) (hy j a b)⟩
      have := hle j a b
      omega
  · rintro H1 ⟨p, hS, hp, hle, heq⟩
    refine ev_eq (fun _ k _ => semigroupref15_mutual_1_eq k) (ev_neg (by omega) (ev_call (semigroupref03_Canonical_ev (Nat.le_refl _) hS.row (by omega)) fun v H2 ⟨o, h2, ho⟩ => ev_ret ((h2.base hS.le).eq ?_)))
    rw [hp] at ho
    exact (ho.congr fun x y a b c d => heq x y a b c d).eq_clN
theorem JW_R (t : List (List Int)) : JW t 82 = JR t := by unfold JW; rw [if_pos rfl]
theorem JW_L (t : List (List Int)) : JW t 76 = JL t := by unfold JW; rw [if_neg (by omega), if_pos rfl]
theorem JW_J (t : List (List Int)) : JW t 74 = JJ t := by unfold JW; rw [if_neg (by omega), if_neg (by omega)]
open Classical in
theorem semigroupref15_Classes_ev {s : Sl} {t : List (List Int)} {H : AH} {lo : Nat} (hlo : lo ≤ H.length) (hv : Va t) (ht : Tab H s t) : Ev (fun ρ k κ => semigroupref15_Classes k s lo H κ) (fun v H' => Sep H H' (OwnG t v)) := by
  have hn := hv.le
  have hp := hv.pos
  have hsq := hv.toSq
  have cR := gR_cl hv
  have cL := gL_cl hv
  have cJ := gJ_cl hv
  have lR := cR.len
  have lL := cL.len
  have lJ := cJ.len
  refine ev_eq (fun _ k _ => semigroupref15_Classes_eq k) (sp_alc (Sep.nil H) fun p1 H2 hS => ?_)
  refine ev_call (semigroupref15_ideals_ev (Nat.le_refl _) hsq (ht.le hS.le)) fun v3 H4 h4 => ?_
  rw [JW_R] at h4
  have hS := hS.on h4.le
  refine ev_call (semigroupref15_mutual_ev (Nat.le_refl _) (by omega) (JR_pre hv) h4.tabB) fun v5 H6 h6 => ?_
  have h6 : Sep H4 H6 [own reI v5 (gR t)] := h6
  have hS := hS.call h6
  refine ev_call (semigroupref15_ideals_ev (Nat.le_refl _) hsq (ht.le hS.le)) fun v7 H8 h8 => ?_
  rw [JW_L] at h8
  have hS := hS.on h8.le
  refine ev_call (semigroupref15_mutual_ev (Nat.le_refl _) (by omega) (JL_pre hv) h8.tabB) fun v9 H10 h10 => ?_
  have h10 : Sep H8 H10 [own reI v9 (gL t)] := h10
  have hS := hS.call h10
  refine sp_alc hS fun p11 H12 hS => sp_stnC hS hlo rfl fun H13 hS => ?_
  refine ev_call (semigroupref15_ideals_ev (Nat.le_refl _) hsq (ht.le hS.le)) fun v14 H15 h15 => ?_
  rw [JW_J] at h15
  have hS := hS.call h15
  refine ev_call (semigroupref15_mutual_ev (Nat.le_refl _) (by omega) (JJ_pre hv) hS.tabB) fun v16 H17 h17 => ?_
  have h17 : Sep H15 H17 [own reI v16 (gJ t)] := h17
  have hS := hS.call h17
  refine sp_stcC (j := 2) (hS.pull 2) hlo (by simp) fun H18 hS => ev_fldS hS.at1 rfl (ev_fldS hS.at1 rfl ?_)
  refine ev_call (semigroupref03_Meet_ev (Nat.le_refl _) (hS.pull 4).row (hS.pull 3).row cR.can cL.can (by omega) (by omega)) fun v23 H24 ⟨h, h24, hh⟩ => ?_
  have eh : h = gH t := by
    rw [lR] at hh
    exact hh.eq_clN
  subst eh
  have hS := hS.call h24
  refine sp_stcC (j := 3) (hS.pull 1) hlo (by simp) fun H25 hS => ev_fldS hS.at1 rfl ?_
  refine ev_call (semigroupref03_Classes_ev (Nat.le_refl _) (hS.pull 2).row cJ.can (by omega)) fun v28 H29 h29 => ?_
  have hS := hS.call h29
  simp only [List.set_cons_succ, List.set_cons_zero] at hS
  obtain ⟨ss, hss, hS⟩ := hS.rows
  have hcl : (clsL (gJ t)).length = nJ t := clsL_len _
  rw [hS.tlen, hcl]
  have hnJ := nJ_le hv
  -- v28 | p11 | v23 | v16 | v14 | v9 | v5 | p1
  have hd : ∀ {c : Int}, 0 ≤ c → c < (nJ t : Int) → 0 < ((R (clsL (gJ t)) c).length : Int) ∧ rd (R (clsL (gJ t)) c) 0 = fJ t c := fun c0 c1 => by
    rw [clsL_R c0 c1]
    obtain ⟨l, hl⟩ := cJ.can.mem_head c0 c1
    rw [hl]; exact ⟨by simp, rfl⟩
  refine ev_loop (α := AH) (g := fun a H ρ k κ => semigroupref15_Classes_1 k (some p1) (some p11) v14 v28 v28 (nJ t : Int) a lo H κ) (nJ t : Int) (fun a H' => ∃ sB, Sep H H' [own (reL reB) sB ((List.range a.toNat).map fun a : Nat => brow (nJ t) fun b => JJ t (fJ t b) (fJ t a)), ownT reI v28 ss (clsL (gJ t)), ownC p11 [.sl v5, .sl v9, .sl v16, .sl v23, .sl sB], own reI v23 (gH t), own reI v16 (gJ t), own (reL reB) v14 (btab t.length t.length (JJ t)), own reI v9 (gL t), own reI v5 (gR t), ownC p1 [.sl ⟨none, 0⟩, .sl ⟨none, 0⟩, .sl ⟨none, 0⟩, .sl ⟨none, 0⟩, .sl ⟨none, 0⟩]]) ?_ ?_ 0 H29 (by omega) (by omega) ⟨⟨none, 0⟩, hS.nilS (reL reB)⟩
  · rintro a H1 a0 a1 ⟨sB, hS⟩ hk
    obtain ⟨ha, ha'⟩ := hd a0 a1
    obtain ⟨fa0, fa1, _⟩ := fJ_in hv a0 a1
    refine ev_eq (fun _ k _ => semigroupref15_Classes_1_eq k) (ev_pos a1 (sp_rdT (hS.pull 1) a0 (by rw [hcl]; exact a1) ?_))
    rw [(hS.pull 1).tlen, hcl]
    refine ev_loop (α := Sl × AH) (g := fun b c ρ k κ => semigroupref15_Classes_2 k (some p1) (some p11) v14 v28 (slAt ss a) c.1 v28 (nJ t : Int) a v28 (nJ t : Int) b lo c.2 κ) (nJ t : Int) (fun b c => Sep H c.2 [own reB c.1 ((List.range b.toNat).map fun b : Nat => decide (JJ t (fJ t b) (fJ t a))), own (reL reB) sB ((List.range a.toNat).map fun a : Nat => brow (nJ t) fun b => JJ t (fJ t b) (fJ t a)), ownT reI v28 ss (clsL (gJ t)), ownC p11 [.sl v5, .sl v9, .sl v16, .sl v23, .sl sB], own reI v23 (gH t), own reI v16 (gJ t), own (reL reB) v14 (btab t.length t.length (JJ t)), own reI v9 (gL t), own reI v5 (gR t), ownC p1 [.sl ⟨none, 0⟩, .sl ⟨none, 0⟩, .sl ⟨none, 0⟩, .sl ⟨none, 0⟩, .sl ⟨none, 0⟩]]) ?_ ?_ 0 (⟨none, 0⟩, H1) (by omega) (by omega) (hS.nilS reB)
    · rintro b ⟨u, H1⟩ b0 b1 hS hk
      simp only at hS
      obtain ⟨hb, hb'⟩ := hd b0 b1
      obtain ⟨fb0, fb1, _⟩ := fJ_in hv b0 b1
      refine ev_eq (fun _ k _ => semigroupref15_Classes_2_eq k) (ev_pos b1 (sp_rdT (hS.pull 2) b0 (by rw [hcl]; exact b1) (ev_rdI ((hS.pull 2).rowAtI b0 (by rw [hcl]; exact b1)) (by omega) hb ?_)))
      rw [hb']
      refine ev_rdSB (hS.pull 6).tabB fb0 (by rw [btab_len]; exact fb1) fun jy hjy => ev_rdI ((hS.pull 2).rowAtI a0 (by rw [hcl]; exact a1)) (by omega) ha ?_
      rw [ha']
      refine ev_rdB hjy fa0 (by rw [btab_rlen fb0 fb1]; exact fa1) ?_
      rw [btab_at fb0 fb1 fa0 fa1]
      refine sp_app1 (x := decide (JJ t (fJ t b) (fJ t a))) hS hlo (fun _ => ⟨rfl, rfl⟩) (by simp; omega) fun u' H2 hS => ?_
      rw [W_add b0 b1 (by omega)]
      refine hk (u', H2) (hS.eq ?_)
      have := range_snoc (fun b : Nat => decide (JJ t (fJ t b) (fJ t a))) b0
      rwa [show ((b.toNat : Nat) : Int) = b by omega] at this
    · rintro ⟨u, H1⟩ hS
      simp only at hS
      refine ev_eq (fun _ k _ => semigroupref15_Classes_2_eq k) (ev_neg (by omega) (ev_asP (ev_fldS (hS.pull 3).at1 rfl ?_)))
      refine sp_appL (hS.pull 1) hlo (by simp; omega) fun sB' H2 hS => ev_asP (sp_stcC (j := 4) (hS.pull 2) hlo (by simp) fun H3 hS => ?_)
      simp only [List.set_cons_succ, List.set_cons_zero] at hS
      rw [W_add a0 a1 (by omega)]
      have e := range_snoc (fun a : Nat => brow (nJ t) fun b => JJ t (fJ t b) (fJ t a)) a0
      rw [show ((a.toNat : Nat) : Int) = a by omega] at e
      refine hk H3 ⟨sB', ?_⟩
      rw [← e]
      exact hS.push 2
  · rintro H1 ⟨sB, hS⟩
    refine ev_eq (fun _ k _ => semigroupref15_Classes_1_eq k) (ev_neg (by omega) (ev_asP (ev_sssss (hS.pull 2).at1 (ev_asP ?_))))
    refine sp_stnC (p := p1) (us := [.sl v5, .sl v9, .sl v16, .sl v23, .sl sB]) (hS.pull 8) hlo rfl fun H2 hS => ?_
    have hp1 := hS.at1
    have h5 := hS.ord [8, 7, 5, 4, 1]
    exact ev_asP (ev_sssss hp1 (ev_ret h5))
/-- What Classes answers. -/
noncomputable def vif {α : Type} (t : List (List Int)) (l : List α) : List α := open Classical in if val t = 0 then l else []
theorem vif_pos {α : Type} {t : List (List Int)} {l : List α} (h : val t = 0) : vif t l = l := by unfold vif; rw [if_pos h]
theorem vif_neg {α : Type} {t : List (List Int)} {l : List α} (h : ¬ val t = 0) : vif t l = [] := by unfold vif; rw [if_neg h]
noncomputable abbrev OwnG' (t : List (List Int)) (v : Sl × Sl × Sl × Sl × Sl) : List Asr := [own reI v.1 (vif t (gR t)), own reI v.2.1 (vif t (gL t)), own reI v.2.2.1 (vif t (gJ t)), own reI v.2.2.2.1 (vif t (gH t)), own (reL reB) v.2.2.2.2 (vif t (gB t))]
theorem green_Classes_ev {s : Sl} {t : List (List Int)} {H : AH} {lo : Nat} (hlo : lo ≤ H.length) (hin : In2 t) (ht : Tab H s t) : Ev (fun ρ k κ => green_Classes k s lo H κ) (fun v H' => Sep H H' (OwnG' t v)) := by
  refine ev_eq (fun _ k _ => green_Classes_eq k) (sp_alc (Sep.nil H) fun p1 H2 hS => ev_is (mult_Validate_ev hin (ht.le hS.le)) (ev_nif (fun h => ?_) (fun h => ?_)))
  · refine sp_stnC hS hlo rfl fun H3 hS => ev_sssss hS.at1 (ev_ret ?_)
    have h5 := ((((((hS.nilS (reL reB)).nilS reI).nilS reI).nilS reI).nilS reI).take 5)
    simp only [OwnG', vif_neg h]
    exact h5
  · refine ev_call (green_classes_ev (Nat.le_refl _) (val_va.1 h) (ht.le hS.le)) fun v H12 h12 => ?_
    have hS := hS.call h12
    refine sp_stnC (p := p1) (us := [.sl v.1, .sl v.2.1, .sl v.2.2.1, .sl v.2.2.2.1, .sl v.2.2.2.2]) (hS.pull 5) hlo rfl fun H3 hS => ?_
    have hp1 := hS.at1
    refine ev_sssss hp1 (ev_ret ?_)
    have h5 := hS.ord [1, 1, 1, 1, 1]
    simp only [OwnG', vif_pos h]
    exact h5
end Go.Ab

/- J-classes and principal factors. What they answer. No condition but that a table comes in. -/
set_option linter.unusedVariables false
set_option linter.unusedSimpArgs false
namespace Go.Ab
open Go
open Classical in
theorem semigroupref03_Set_ev {s : Sl} {l : List Int} {n : Int} {H : AH} {lo : Nat} (hlo : lo ≤ H.length) (hs : Row H s l) (hl : l.length ≤ 9223372036854775807) (n0 : 0 ≤ n) (n1 : n ≤ 4096) : Ev (fun ρ k κ => semigroupref03_Set k s n lo H κ) (fun v H' => Sep H H' [own reB v (brow n.toNat fun x => x ∈ l)]) := by
  refine ev_eq (fun _ k _ => semigroupref03_Set_eq k) (sp_mks (x := false) (Sep.nil H) reB (fun _ => ⟨rfl, rfl⟩) n0 (by omega) fun u H2 hS => ?_)
  rw [hs.len]
  refine ev_loop (α := AH) (g := fun i H ρ k κ => semigroupref03_Set_1 k n u s (l.length : Int) i lo H κ) (l.length : Int) (fun i H' => ∃ b : List Bool, Sep H H' [own reB u b] ∧ (b.length : Int) = n ∧ ∀ x : Int, 0 ≤ x → x < n → (rdOf false b x = true ↔ ∃ i' : Int, 0 ≤ i' ∧ i' < i ∧ rd l i' = x)) ?_ ?_ 0 H2 (by omega) (by omega) ⟨_, hS, by simp; omega, fun x a b => ?_⟩
  · rintro i H1 i0 i1 ⟨b, hS, hb, hx⟩ hk
    have next : ∀ (H2 : AH) (b2 : List Bool), Sep H H2 [own reB u b2] → (b2.length : Int) = n → (∀ x : Int, 0 ≤ x → x < n → (rdOf false b2 x = true ↔ ∃ i' : Int, 0 ≤ i' ∧ i' < i + 1 ∧ rd l i' = x)) → Ev (fun ρ k κ => semigroupref03_Set_2 k n u s (l.length : Int) i lo H2 κ) _ := fun H2 b2 a c d => by
      refine ev_eq (fun _ k _ => semigroupref03_Set_2_eq k) ?_
      rw [W_add i0 i1 (by omega)]
      exact hk H2 ⟨b2, a, c, d⟩
    refine ev_eq (fun _ k _ => semigroupref03_Set_1_eq k) (ev_pos i1 (ev_rdI (hs.le hS.le) i0 i1 (ev_andP (c := rd l i < n) (fun _ => ev_ret ⟨rfl, rfl⟩) (ev_if (fun h => ?_) (fun h => ?_)))))
    · refine sp_put (x := true) hS hlo (fun _ => ⟨rfl, rfl⟩) (by omega) (by omega) fun H3 hS => next H3 _ hS (by simpa using hb) fun x x0 x1 => ?_
      rw [rb_set (by omega) (by omega) x0]
      by_cases hxi : x = rd l i
      · rw [if_pos hxi]; exact ⟨fun _ => ⟨i, i0, by omega, hxi.symm⟩, fun _ => rfl⟩
      · rw [if_neg hxi, hx x x0 x1]
        refine ⟨fun ⟨i', p, q, r⟩ => ⟨i', p, by omega, r⟩, fun ⟨i', p, q, r⟩ => ⟨i', p, ?_, r⟩⟩
        by_cases hi : i' = i
        · rw [hi] at r; exact absurd r.symm hxi
        · omega
    · refine next H1 b hS hb fun x x0 x1 => ?_
      rw [hx x x0 x1]
      refine ⟨fun ⟨i', p, q, r⟩ => ⟨i', p, by omega, r⟩, fun ⟨i', p, q, r⟩ => ⟨i', p, ?_, r⟩⟩
      by_cases hi : i' = i
      · rw [hi] at r; exact absurd ⟨by omega, by omega⟩ h
      · omega
  · rintro H1 ⟨b, hS, hb, hx⟩
    refine ev_eq (fun _ k _ => semigroupref03_Set_1_eq k) (ev_neg (by omega) (ev_ret (hS.eq (brow_eq (by omega) fun x x0 x1 => ?_))))
    rw [hx x x0 (by omega)]
    refine ⟨fun ⟨i, a, b, c⟩ => c ▸ rd_mem a b, fun h => ?_⟩
    obtain ⟨i, a, b, c⟩ := rd_of_mem h
    exact ⟨i, a, b, c⟩
  · rw [rb_rep a (by omega)]
    exact ⟨fun h => by (cases h), fun ⟨i', p, q, _⟩ => by omega⟩
open Classical in
theorem semigroupref15_Minimal_ev {a b c d e : Sl} {t : List (List Int)} {H : AH} {lo : Nat} {j : Int} (hB : TabB H e (gB t)) (hn : nJ t ≤ 400) (j0 : 0 ≤ j) (j1 : j < (nJ t : Int)) : Ev (fun ρ k κ => semigroupref15_Minimal k a b c d e j lo H κ) (fun v H' => v = decide (MinC t j) ∧ Le H H') := by
  have lB : (gB t).length = nJ t := btab_len _ _ _
  refine ev_eq (fun _ k _ => semigroupref15_Minimal_eq k) (ev_alcB fun p H2 hp _ l2 => ev_fldS hp rfl ?_)
  have hB := hB.le l2
  rw [hB.len, lB]
  refine ev_for0 (g := fun i ρ k κ => semigroupref15_Minimal_1 k j (some p) (nJ t : Int) i lo H2 κ) (nJ t : Int) (fun i => ∀ i' : Int, 0 ≤ i' → i' < i → ¬ DJ t i' j) ?_ ?_ 0 (by omega) (by omega) (fun i a b => by omega)
  · intro i i0 i1 hi
    have lr : (rdOf [] (gB t) i).length = nJ t := btab_rlen i0 i1
    have test : ∀ {Q : Bool → AH → Prop}, Ev (fun (ρ : Type) k κ => bif decide (DJ t i j) then κ false H2 else semigroupref15_Minimal_1 k j (some p) (nJ t : Int) (i + 1) lo H2 κ) Q → Ev (fun ρ k κ => semigroupref15_Minimal_1 k j (some p) (nJ t : Int) i lo H2 κ) Q := by
      intro Q hQ
      refine ev_eq (fun _ k _ => semigroupref15_Minimal_1_eq k) (ev_pos i1 (ev_andV (c := decide (JJ t (fJ t j) (fJ t i))) (fun _ => ev_asP (ev_fldS hp rfl (ev_rdSB hB i0 (by omega) fun w hw => ev_rdB hw j0 (by omega) (ev_ret ⟨btab_at i0 i1 j0 j1, rfl⟩)))) ?_))
      rw [W_add i0 i1 (by omega)]
      have : (!decide (i = j) && decide (JJ t (fJ t j) (fJ t i))) = decide (DJ t i j) := by
        unfold DJ
        by_cases h1 : i = j <;> by_cases h2 : JJ t (fJ t j) (fJ t i) <;> simp [h1, h2]
      rw [this]
      exact hQ
    by_cases hd : DJ t i j
    · left
      exact test (ev_pos hd (ev_ret ⟨by rw [decide_eq_false]; exact fun h => h i i0 i1 hd, l2⟩))
    · right
      refine ⟨fun i' a b => ?_, fun h' => test (ev_neg hd h')⟩
      by_cases hii : i' = i
      · rw [hii]; exact hd
      · exact hi i' a (by omega)
  · intro hi
    exact ev_eq (fun _ k _ => semigroupref15_Minimal_1_eq k) (ev_neg (by omega) (ev_ret ⟨by rw [decide_eq_true]; exact hi, l2⟩))
theorem mem_len (t : List (List Int)) (hv : Va t) (j : Int) : (mem (gJ t) j).length ≤ t.length := by
  have := sel_len (P := fun x => rd (gJ t) x = j) (i := 0) (m := (gJ t).length)
  rw [(gJ_cl hv).len] at this
  unfold mem
  rwa [(gJ_cl hv).len]
open Classical in
theorem rees_class_ev {s : Sl} {t : List (List Int)} {H : AH} {lo : Nat} {j : Int} (hlo : lo ≤ H.length) (hin : In2 t) (ht : Tab H s t) : Ev (fun ρ k κ => rees_class k s j lo H κ) (fun v H' => (cerr t j ≠ 0 ∧ v.2.2.2.2.2.2.2 = cerr t j ∧ Le H H') ∨ (cerr t j = 0 ∧ v.2.2.2.2.2.2.2 = 0 ∧ v.2.2.2.2.2.2.1 = decide (MinC t j) ∧ Sep H H' (own reI v.2.2.2.2.2.1 (mem (gJ t) j) :: OwnG t (v.1, v.2.1, v.2.2.1, v.2.2.2.1, v.2.2.2.2.1)))) := by
  refine ev_eq (fun _ k _ => rees_class_eq k) (sp_alc (Sep.nil H) fun p1 H2 hS => ev_is (mult_Validate_ev hin (ht.le hS.le)) (ev_nif (fun h => ?_) (fun h => ?_)))
  · refine ev_sssss hS.at1 (sp_stnC hS hlo (by rfl) fun H3 hS => ev_sssss hS.at1 (ev_ret (.inl ⟨?_, ?_, hS.le⟩)))
    · rw [ne_eq, cerr_ok]; exact fun hh => h hh.1
    · unfold cerr; rw [if_neg h]
  have hv := val_va.1 h
  have hn := hv.le
  have hnJ := nJ_le hv
  have lB : (gB t).length = nJ t := btab_len _ _ _
  have lJ := (gJ_cl hv).len
  refine ev_call (green_Classes_ev (Nat.le_refl _) hin (ht.le hS.le)) fun r H17 hg => ?_
  simp only [OwnG', vif_pos h] at hg
  have hS := hS.call hg
  refine sp_stnC (p := p1) (us := [.sl r.1, .sl r.2.1, .sl r.2.2.1, .sl r.2.2.2.1, .sl r.2.2.2.2]) (hS.pull 5) hlo rfl fun H18 hS => ?_
  refine ev_orV (c := decide (j ≥ (nJ t : Int))) (fun _ => ev_fldS hS.at1 rfl (ev_ret ⟨by rw [(hS.pull 5).len, lB], rfl⟩)) (ev_b (fun hb => ?_) (fun hb => ?_))
  · refine sp_stnC hS hlo rfl fun H3 hS => ev_sssss hS.at1 (ev_ret (.inl ?_))
    have hno : ¬ (0 ≤ j ∧ j < (nJ t : Int)) := by
      simp only [Bool.or_eq_true, decide_eq_true_iff] at hb; omega
    refine ⟨?_, ?_, hS.le⟩
    · rw [ne_eq, cerr_ok]; exact fun hh => hno hh.2
    · unfold cerr; rw [if_pos h, if_neg hno]
  simp only [Bool.or_eq_false_iff, decide_eq_false_iff_not] at hb
  have j0 : 0 ≤ j := by omega
  have j1 : j < (nJ t : Int) := by omega
  have hok : cerr t j = 0 := cerr_ok.2 ⟨h, j0, j1⟩
  refine ev_fldS hS.at1 rfl ?_
  rw [(hS.pull 3).len, lJ]
  refine ev_loop (α := Sl × AH) (g := fun x c ρ k κ => rees_class_1 k j (some p1) c.1 r.2.2.1 (t.length : Int) x lo c.2 κ) (t.length : Int) (fun x c => Sep H c.2 [own reI c.1 (sel (fun x => rd (gJ t) x = j) 0 x.toNat), ownC p1 [.sl r.1, .sl r.2.1, .sl r.2.2.1, .sl r.2.2.2.1, .sl r.2.2.2.2], own reI r.1 (gR t), own reI r.2.1 (gL t), own reI r.2.2.1 (gJ t), own reI r.2.2.2.1 (gH t), own (reL reB) r.2.2.2.2 (gB t)]) ?_ ?_ 0 (⟨none, 0⟩, H18) (by omega) (by omega) (hS.nilS reI)
  · rintro x ⟨u, H1⟩ x0 x1 hS hk
    simp only at hS
    have hln := sel_len (P := fun x => rd (gJ t) x = j) (i := 0) (m := x.toNat)
    refine ev_eq (fun _ k _ => rees_class_1_eq k) (ev_pos x1 (ev_rdI (hS.pull 4).row x0 (by omega) (ev_if (fun hx => ?_) (fun hx => ?_))))
    · refine sp_app1 (x := x) hS hlo (fun _ => ⟨rfl, rfl⟩) (by omega) fun u' H2 hS => ev_eq (fun _ k _ => rees_class_2_eq k) ?_
      rw [W_add x0 x1 (by omega)]
      exact hk (u', H2) (hS.eq (sel_snoc (P := fun x => rd (gJ t) x = j) x0 hx))
    · refine ev_eq (fun _ k _ => rees_class_2_eq k) ?_
      rw [W_add x0 x1 (by omega)]
      exact hk (u, H1) (hS.eq (sel_skip (P := fun x => rd (gJ t) x = j) x0 hx))
  · rintro ⟨u, H1⟩ hS
    simp only [Int.toNat_natCast] at hS
    have em : sel (fun x => rd (gJ t) x = j) 0 t.length = mem (gJ t) j := by unfold mem; rw [lJ]
    rw [em] at hS
    have hp := (hS.pull 1).at1
    have hB := (hS.pull 6).tabB
    refine ev_eq (fun _ k _ => rees_class_1_eq k) (ev_neg (by omega) (ev_asP (ev_fldS hp rfl ?_)))
    rw [hB.len, lB]
    refine ev_loop (α := Bool) (g := fun i b ρ k κ => rees_class_3 k j (some p1) u b (nJ t : Int) i lo H1 κ) (nJ t : Int) (fun i b => b = true ↔ ∀ i' : Int, 0 ≤ i' → i' < i → ¬ DJ t i' j) ?_ ?_ 0 true (by omega) (by omega) ⟨fun _ i a b => by omega, fun _ => rfl⟩
    · intro i b i0 i1 hb hk
      have lr : (rdOf [] (gB t) i).length = nJ t := btab_rlen i0 i1
      refine ev_eq (fun _ k _ => rees_class_3_eq k) (ev_pos i1 (ev_andV (c := decide (¬ DJ t i j)) (fun _ => ev_orV (c := !decide (JJ t (fJ t j) (fJ t i))) (fun _ => ev_asP (ev_fldS hp rfl (ev_rdSB hB i0 (by omega) fun w hw => ev_rdB hw j0 (by omega) (ev_ret ⟨by rw [show rdOf false (rdOf [] (gB t) i) j = _ from btab_at i0 i1 j0 j1], rfl⟩)))) (ev_ret ⟨?_, rfl⟩)) ?_))
      · unfold DJ
        by_cases h1 : i = j <;> by_cases h2 : JJ t (fJ t j) (fJ t i) <;> simp [h1, h2]
      · rw [W_add i0 i1 (by omega)]
        refine hk _ ?_
        rw [Bool.and_eq_true, hb, decide_eq_true_iff]
        refine ⟨fun ⟨a, b⟩ i' c d => ?_, fun a => ⟨fun i' c d => a i' c (by omega), a i i0 (by omega)⟩⟩
        by_cases hii : i' = i
        · rw [hii]; exact b
        · exact a i' c (by omega)
    · intro b hb
      refine ev_eq (fun _ k _ => rees_class_3_eq k) (ev_neg (by omega) (ev_asP (ev_sssss hp (ev_asP ?_))))
      refine sp_stnC (p := p1) (us := [.sl r.1, .sl r.2.1, .sl r.2.2.1, .sl r.2.2.2.1, .sl r.2.2.2.2]) (hS.pull 1) hlo rfl fun H2 hS => ?_
      have hp := hS.at1
      refine ev_asP (ev_sssss hp (ev_ret (.inr ⟨hok, rfl, ?_, hS.drop⟩)))
      rw [Bool.eq_iff_iff, decide_eq_true_iff]
      exact hb
open Classical in
theorem semigroupref17_class_ev {s : Sl} {t : List (List Int)} {H : AH} {lo : Nat} {j : Int} (hlo : lo ≤ H.length) (hin : In2 t) (ht : Tab H s t) : Ev (fun ρ k κ => semigroupref17_class k s j lo H κ) (fun v H' => (cerr t j ≠ 0 ∧ v.2.2 = cerr t j ∧ Le H H') ∨ (cerr t j = 0 ∧ v.2.2 = 0 ∧ v.2.1 = decide (MinC t j) ∧ Le H H' ∧ Row H' v.1 (mem (gJ t) j))) := by
  refine ev_eq (fun _ k _ => semigroupref17_class_eq k) (ev_is (semigroupref14_Validate_ev hin ht) (ev_nif (fun h => ev_ret (.inl ⟨?_, ?_, Le.refl _⟩)) (fun h => ?_)))
  · rw [ne_eq, cerr_ok]; exact fun hh => h hh.1
  · unfold cerr; rw [if_neg h]
  have hv := val_va.1 h
  have hn := hv.le
  have hnJ := nJ_le hv
  have lB : (gB t).length = nJ t := btab_len _ _ _
  have cJ := gJ_cl hv
  have lJ := cJ.len
  refine ev_call (semigroupref15_Classes_ev (Nat.le_refl _) hv ht) fun r H4 hg => sp_alc hg fun p H6 hS => sp_stnC hS hlo rfl fun H7 hS => ?_
  refine ev_orV (c := decide (j ≥ (nJ t : Int))) (fun _ => ev_fldS hS.at1 rfl (ev_ret ⟨by rw [(hS.pull 5).len, lB], rfl⟩)) (ev_b (fun hb => ev_ret (.inl ?_)) (fun hb => ?_))
  · have hno : ¬ (0 ≤ j ∧ j < (nJ t : Int)) := by
      simp only [Bool.or_eq_true, decide_eq_true_iff] at hb; omega
    refine ⟨?_, ?_, hS.le⟩
    · rw [ne_eq, cerr_ok]; exact fun hh => hno hh.2
    · unfold cerr; rw [if_pos h, if_neg hno]
  simp only [Bool.or_eq_false_iff, decide_eq_false_iff_not] at hb
  have j0 : 0 ≤ j := by omega
  have j1 : j < (nJ t : Int) := by omega
  have hok : cerr t j = 0 := cerr_ok.2 ⟨h, j0, j1⟩
  have hp := hS.at1
  have lC : (clsL (gJ t)).length = nJ t := clsL_len _
  refine ev_fldS hp rfl (ev_call (semigroupref03_Classes_ev (Nat.le_refl _) (hS.pull 3).row cJ.can (by omega)) fun v14 H15 h15 => ev_rdS h15.tab j0 (by omega) fun w hw => ev_sssss (hp.le h15.le) ?_)
  rw [clsL_R j0 j1] at hw
  exact ev_call (semigroupref15_Minimal_ev ((hS.on h15.le).pull 5).tabB (by omega) j0 j1) fun v22 H23 ⟨e, l23⟩ => ev_ret (.inr ⟨hok, rfl, e, (hS.le.trans h15.le).trans l23, hw.le l23⟩)

end Go.Ab

/- Which coordinates are right: Check, of the program and of the reference. What they answer. No condition but that the arguments come in. -/
set_option linter.unusedVariables false
set_option linter.unusedSimpArgs false
namespace Go.Ab
open Go
/-- A product is right. -/
def PB (t : List (List Int)) (j : Int) (G : List (List Int)) (k : Int) (P : List (List Int)) (Z : Bool) (f : List Int) (x y : Int) : Prop := (rd (gJ t) (M t x y) = j → rmul G k P Z (rd f x) (rd f y) = rd f (M t x y)) ∧ (rd (gJ t) (M t x y) ≠ j → Z = true ∧ rmul G k P Z (rd f x) (rd f y) = 0)
/-- What is asked before the map is looked at. -/
def Gd (t : List (List Int)) (j : Int) (G : List (List Int)) (m k : Int) (P : List (List Int)) (Z : Bool) (f : List Int) : Prop := RVa G m k P Z ∧ (Z = true ↔ ¬ MinC t j) ∧ f.length = t.length ∧ m * k * (G.length : Int) = ((mem (gJ t) j).length : Int)
theorem mem_all {t : List (List Int)} (hv : Va t) {j : Int} {Q : Int → Prop} : (∀ x : Int, 0 ≤ x → x < (t.length : Int) → rd (gJ t) x = j → Q x) ↔ ∀ i : Int, 0 ≤ i → i < ((mem (gJ t) j).length : Int) → Q (rd (mem (gJ t) j) i) := by
  have lJ := (gJ_cl hv).len
  constructor
  · intro h i i0 i1
    obtain ⟨a, b, c⟩ := mem_mem.1 (rd_mem i0 i1)
    exact h _ a (by omega) c
  · intro h x x0 x1 hx
    obtain ⟨i, i0, i1, e⟩ := rd_of_mem (mem_mem.2 ⟨x0, by omega, hx⟩ : x ∈ mem (gJ t) j)
    rw [← e]; exact h i i0 i1
theorem mem_at {t : List (List Int)} (hv : Va t) {j i : Int} (i0 : 0 ≤ i) (i1 : i < ((mem (gJ t) j).length : Int)) : 0 ≤ rd (mem (gJ t) j) i ∧ rd (mem (gJ t) j) i < (t.length : Int) ∧ rd (gJ t) (rd (mem (gJ t) j) i) = j := by
  have lJ := (gJ_cl hv).len
  obtain ⟨a, b, c⟩ := mem_mem.1 (rd_mem i0 i1)
  exact ⟨a, by omega, c⟩
theorem Chk.good {t : List (List Int)} {j : Int} {G : List (List Int)} {m k : Int} {P : List (List Int)} {Z : Bool} {f : List Int} (h : Chk t j G m k P Z f) : Gd t j G m k P Z f := ⟨h.rv, h.zm, h.len, h.size⟩
theorem chk_of {t : List (List Int)} {j : Int} {G : List (List Int)} {m k : Int} {P : List (List Int)} {Z : Bool} {f : List Int} {seen : List Bool} (hok : cerr t j = 0) (h : Gd t j G m k P Z f) (hM : ChkM t j (m * k * (G.length : Int) + zz Z) (zz Z) f (t.length : Int) seen) (hm : ∀ x y : Int, 0 ≤ x → x < (t.length : Int) → 0 ≤ y → y < (t.length : Int) → rd (gJ t) x = j → rd (gJ t) y = j → PB t j G k P Z f x y) : Chk t j G m k P Z f :=
  ⟨hok, h.1, h.2.1, h.2.2.1, h.2.2.2, hM.out, hM.into, hM.inj, hm⟩
open Classical in
theorem rees_Check_ev {s g q u : Sl} {t G P : List (List Int)} {m k : Int} {Z : Bool} {f : List Int} {j : Int} {H : AH} {lo : Nat} (hlo : lo ≤ H.length) (hin : In2 t) (ht : Tab H s t) (hG : In2 G) (hg : Tab H g G) (hP : In2 P) (hq : Tab H q P) (hf : Row H u f) : Ev (fun ρ n κ => rees_Check n s j g m k q Z u lo H κ) (fun v H' => v = decide (Chk t j G m k P Z f) ∧ Le H H') := by
  refine ev_eq (fun _ k _ => rees_Check_eq k) (sp_alc (Sep.nil H) fun p H2 hS => ev_call (rees_class_ev (Nat.le_refl _) hin (ht.le hS.le)) fun r H4 hr => ?_)
  have no : ∀ {H' : AH}, ¬ Chk t j G m k P Z f → Le H H' → (false = decide (Chk t j G m k P Z f) ∧ Le H H') := fun hn l => ⟨by rw [decide_eq_false hn], l⟩
  rcases hr with ⟨h1, h2, h3⟩ | ⟨h1, h2, h3, h4⟩
  · have hS := hS.on h3
    refine sp_alc hS fun p5 H6 hS => sp_stnC hS hlo (by rfl) fun H7 hS => ?_
    have t1 : (!decide (r.2.2.2.2.2.2.2 = 0)) = true := by rw [h2, decide_eq_false h1]; rfl
    exact ev_orI (c := true) (fun e => by rw [t1] at e; cases e) (fun _ => rfl) (ev_orI (c := true) (fun e => by cases e) (fun _ => rfl) (ev_orI (c := true) (fun e => by cases e) (fun _ => rfl) (ev_orI (c := true) (fun e => by cases e) (fun _ => rfl) (ev_t rfl (ev_ret (no (fun h => h1 h.ok) hS.le))))))
  obtain ⟨hval, j0, j1⟩ := cerr_ok.1 h1
  have hv := val_va.1 hval
  have hsq := hv.toSq
  have hn := hv.le
  have lJ := (gJ_cl hv).len
  have lm := mem_len t hv j
  have hS := hS.call h4
  refine sp_alc hS fun p5 H6 hS => sp_stnC hS hlo (by rfl) fun Hb hS => ?_
  -- what is laid till now stays
  have hlb : lo ≤ Hb.length := by have := hS.le.len; omega
  have lb := hS.le
  have he : Row Hb r.2.2.2.2.2.1 (mem (gJ t) j) := (hS.pull 1).row
  have hp : At1 Hb p [.sl g, .int .i64 m, .int .i64 k, .sl q, .bool Z] := (hS.pull 7).at1
  have ht := ht.le lb
  have hg := hg.le lb
  have hq := hq.le lb
  have hf := hf.le lb
  have hz := zz_cases Z
  rw [hf.len, ht.len]
  refine ev_orVL (c := !decide (rval G m k P Z = 0)) (fun _ => ev_siisb hp (ev_call (rees_Validate_ev hG hg hP hq) fun v H14 ⟨e, l⟩ => ev_ret ⟨by rw [e], l⟩)) fun H16 l16 => ?_
  refine ev_orV (c := Z == r.2.2.2.2.2.2.1) (fun _ => ev_fldB (hp.le l16) rfl (ev_ret ⟨rfl, rfl⟩)) (ev_orV (c := !decide ((f.length : Int) = (t.length : Int))) (fun _ => ev_ret ⟨rfl, rfl⟩) ?_)
  have pre : ((((!decide (r.2.2.2.2.2.2.2 = 0)) || (!decide (rval G m k P Z = 0))) || (Z == r.2.2.2.2.2.2.1)) || (!decide ((f.length : Int) = (t.length : Int)))) = false ↔ RVa G m k P Z ∧ (Z = true ↔ ¬ MinC t j) ∧ f.length = t.length := by
    rw [h2, h3]
    simp only [decide_true, Bool.not_true, Bool.false_or, Bool.or_eq_false_iff, Bool.not_eq_false', decide_eq_true_iff, rval_rv]
    constructor
    · rintro ⟨⟨a, b⟩, c⟩
      refine ⟨a, ?_, by omega⟩
      by_cases hmin : MinC t j
      · simp [hmin] at b; simp [hmin, b]
      · simp [hmin] at b; simp [hmin, b]
    · rintro ⟨a, b, c⟩
      refine ⟨⟨a, ?_⟩, by omega⟩
      by_cases hmin : MinC t j
      · have : Z = false := by cases Z; rfl; exact absurd hmin (b.1 rfl)
        simp [hmin, this]
      · have : Z = true := b.2 hmin
        simp [hmin, this]
  refine ev_or (S := fun b H' => (b = false ↔ Gd t j G m k P Z f) ∧ Le Hb H') (fun hg' => ?_) (fun hg' => ⟨⟨fun e => by (cases e), fun hgd => by rw [pre.2 ⟨hgd.1, hgd.2.1, hgd.2.2.1⟩] at hg'; cases hg'⟩, l16⟩) fun b37 H38 ⟨hb, l38⟩ => ?_
  · obtain ⟨hrv, hzm, hfl⟩ := pre.1 hg'
    refine ev_siisb (hp.le l16) (ev_call (rees_size_rv (hg.le l16).len hrv) fun v28 H29 ⟨e28, l29⟩ => ev_siisb ((hp.le l16).le l29) (ev_call rees_zero_ev fun v35 H36 ⟨e35, l36⟩ => ev_ret ⟨?_, (l16.trans l29).trans l36⟩))
    have hsz := hrv.sz
    rw [e28, e35, he.len, W_in (by omega) (by omega)]
    simp only [Bool.not_eq_false', decide_eq_true_iff]
    exact ⟨fun h => ⟨hrv, hzm, hfl, by omega⟩, fun h => by have := h.2.2.2; omega⟩
  cases b37 with
  | true => exact ev_t rfl (ev_ret (no (fun h => by have := hb.2 h.good; cases this) (lb.trans l38)))
  | false =>
  have hgd := hb.1 rfl
  obtain ⟨hrv, hzm, hfl, hsize⟩ := hgd
  have hsz := hrv.sz
  refine ev_f rfl ?_
  have he := he.le l38
  have hp := hp.le l38
  have ht := ht.le l38
  have hg := hg.le l38
  have hq := hq.le l38
  have hf := hf.le l38
  have lb := lb.trans l38
  have hlb : lo ≤ H38.length := by have := l38.len; omega
  refine sp_mks (x := false) (Sep.nil H38) reB (fun _ => ⟨rfl, rfl⟩) (by omega) (by omega) fun inn H40 hS => ?_
  rw [he.len]
  refine ev_loop (α := AH) (g := fun i H ρ n κ => rees_Check_1 n s u (some p) r.2.2.2.2.2.1 inn r.2.2.2.2.2.1 ((mem (gJ t) j).length : Int) i lo H κ) ((mem (gJ t) j).length : Int) (fun i H' => ∃ b : List Bool, Sep H38 H' [own reB inn b] ∧ b.length = t.length ∧ ∀ x : Int, 0 ≤ x → x < (t.length : Int) → (rdOf false b x = true ↔ ∃ i' : Int, 0 ≤ i' ∧ i' < i ∧ rd (mem (gJ t) j) i' = x)) ?_ ?_ 0 H40 (by omega) (by omega) ⟨_, hS, by simp, fun x a b => ?_⟩
  · rintro i H1 i0 i1 ⟨b, hS, hb, hx⟩ hk
    obtain ⟨e0, e1, _⟩ := mem_at hv i0 i1
    refine ev_eq (fun _ k _ => rees_Check_1_eq k) (ev_pos i1 (ev_rdI (he.le hS.le) i0 i1 (sp_put (x := true) hS hlb (fun _ => ⟨rfl, rfl⟩) e0 (by omega) fun H3 hS => ?_)))
    rw [W_add i0 i1 (by omega)]
    refine hk H3 ⟨_, hS, by simpa using hb, fun x x0 x1 => ?_⟩
    rw [rb_set e0 (by omega) x0]
    by_cases hxi : x = rd (mem (gJ t) j) i
    · rw [if_pos hxi]; exact ⟨fun _ => ⟨i, i0, by omega, hxi.symm⟩, fun _ => rfl⟩
    · rw [if_neg hxi, hx x x0 x1]
      refine ⟨fun ⟨i', p, q, r⟩ => ⟨i', p, by omega, r⟩, fun ⟨i', p, q, r⟩ => ⟨i', p, ?_, r⟩⟩
      by_cases hi : i' = i
      · rw [hi] at r; exact absurd r.symm hxi
      · omega
  · rintro H1 ⟨b, hS, hb, hx⟩
    have hin' : ∀ x : Int, 0 ≤ x → x < (t.length : Int) → (rdOf false b x = true ↔ rd (gJ t) x = j) := fun x x0 x1 => by
      rw [hx x x0 x1]
      refine ⟨fun ⟨i, a, c, d⟩ => d ▸ (mem_at hv a c).2.2, fun h => ?_⟩
      obtain ⟨i, a, c, d⟩ := rd_of_mem (mem_mem.2 ⟨x0, by omega, h⟩ : x ∈ mem (gJ t) j)
      exact ⟨i, a, c, d⟩
    refine ev_eq (fun _ k _ => rees_Check_1_eq k) (ev_neg (by omega) (ev_asP (ev_siisb (hp.le hS.le) (ev_call (rees_size_rv (hg.le hS.le).len hrv) fun v10 H11 ⟨e10, l11⟩ => ?_))))
    subst e10
    have hS := hS.on l11
    refine sp_mks (x := false) hS reB (fun _ => ⟨rfl, rfl⟩) (by omega) (by omega) fun sn H13 hS => ?_
    rw [hf.len]
    refine ev_for (α := AH) (g := fun x H ρ n κ => rees_Check_2 n s u (some p) r.2.2.2.2.2.1 inn sn u (f.length : Int) x lo H κ) (f.length : Int) (fun x H' => ∃ seen : List Bool, Sep H38 H' [own reB sn seen, own reB inn b] ∧ ChkM t j (m * k * (G.length : Int) + zz Z) (zz Z) f x seen) ?_ ?_ 0 H13 (by omega) (by omega) ⟨_, hS, by simp; omega, fun y a c => by omega, fun y a c => by omega, fun v a c => ?_, fun y y' a c => by omega⟩
    · rintro x H1 x0 x1 ⟨seen, hS, hM⟩
      have xt : x < (t.length : Int) := by omega
      have hl := hM.len
      have step : ∀ {Q : Bool → AH → Prop} {H2 : AH}, Ev (fun ρ n κ => rees_Check_2 n s u (some p) r.2.2.2.2.2.1 inn sn u (f.length : Int) (x + 1) lo H2 κ) Q → Ev (fun ρ n κ => rees_Check_3 n s u (some p) r.2.2.2.2.2.1 inn sn u (f.length : Int) x lo H2 κ) Q := fun h => by
        refine ev_eq (fun _ k _ => rees_Check_3_eq k) ?_
        rw [W_add x0 x1 (by omega)]; exact h
      have pre2 : ∀ {Q : Bool → AH → Prop}, Ev (fun ρ n κ => bif !(rdOf false b x) then (bif !decide (rd f x = (-1)) then κ false H1 else rees_Check_3 n s u (some p) r.2.2.2.2.2.1 inn sn u (f.length : Int) x lo H1 κ) else asP (.ptr (some p)) fun p3 => ldA_siisb H1 p3 fun v4 v5 v6 v7 v8 => rees_zero n v4 v5 v6 v7 v8 H1.length H1 fun v9 H10 => orB (decide (rd f x < v9)) (fun _ κ' => asP (.ptr (some p)) fun p11 => ldA_siisb H10 p11 fun v12 v13 v14 v15 v16 => rees_size n v12 v13 v14 v15 v16 H10.length H10 fun v17 H18 => κ' (decide (rd f x ≥ v17)) H18) H10 fun b19 H20 => orB b19 (fun _ κ' => rdB H20 sn (rd f x) fun v21 => κ' v21 H20) H20 fun b22 H23 => bif b22 then κ false H23 else idx sn (rd f x) 1 fun p24 => stc lo H23 p24 (.bool true) fun H25 => rees_Check_3 n s u (some p) r.2.2.2.2.2.1 inn sn u (f.length : Int) x lo H25 κ) Q → Ev (fun ρ n κ => rees_Check_2 n s u (some p) r.2.2.2.2.2.1 inn sn u (f.length : Int) x lo H1 κ) Q := fun h =>
        ev_eq (fun _ k _ => rees_Check_2_eq k) (ev_pos x1 (ev_rdI (hf.le hS.le) x0 x1 (ev_rdB (hS.pull 1).rowB x0 (by omega) h)))
      by_cases hx : rd (gJ t) x = j
      · have bt : rdOf false b x = true := (hin' x x0 xt).2 hx
        -- its image
        have img : ∀ {Q : Bool → AH → Prop}, (∀ H2, Sep H38 H2 [own reB sn seen, own reB inn b] → ((rd f x < zz Z ∨ rd f x ≥ m * k * (G.length : Int) + zz Z) ∨ rdOf false seen (rd f x) = true) → Q false H2) → (∀ H2, Sep H38 H2 [own reB sn (seen.set (rd f x).toNat true), own reB inn b] → ¬ ((rd f x < zz Z ∨ rd f x ≥ m * k * (G.length : Int) + zz Z) ∨ rdOf false seen (rd f x) = true) → Ev (fun ρ n κ => rees_Check_2 n s u (some p) r.2.2.2.2.2.1 inn sn u (f.length : Int) (x + 1) lo H2 κ) Q) → Ev (fun ρ n κ => rees_Check_2 n s u (some p) r.2.2.2.2.2.1 inn sn u (f.length : Int) x lo H1 κ) Q := by
          intro Q c1 c2
          refine pre2 (ev_f (by rw [bt]; rfl) (ev_asP (ev_siisb (hp.le hS.le) (ev_call rees_zero_ev fun v9 H10 ⟨e9, l10⟩ => ?_))))
          subst e9
          have hS := hS.on l10
          refine ev_orVL (c := decide (rd f x ≥ m * k * (G.length : Int) + zz Z)) (fun _ => ev_asP (ev_siisb (hp.le hS.le) (ev_call (rees_size_rv (hg.le hS.le).len hrv) fun v17 H18 ⟨e17, l18⟩ => ev_ret ⟨by rw [e17], l18⟩))) fun H20 l20 => ?_
          have hS := hS.on l20
          refine ev_orV (c := rdOf false seen (rd f x)) (fun hno => ?_) (ev_b (fun hh => ev_ret (c1 H20 hS ?_)) (fun hh => ?_))
          · simp only [Bool.or_eq_false_iff, decide_eq_false_iff_not] at hno
            exact ev_rdB hS.rowB (by omega) (by omega) (ev_ret ⟨rfl, rfl⟩)
          · simpa only [Bool.or_eq_true, decide_eq_true_iff] using hh
          · have hh' : ¬ ((rd f x < zz Z ∨ rd f x ≥ m * k * (G.length : Int) + zz Z) ∨ rdOf false seen (rd f x) = true) := fun h => by
              have : (decide (rd f x < zz Z) || decide (rd f x ≥ m * k * (G.length : Int) + zz Z) || rdOf false seen (rd f x)) = true := by simpa only [Bool.or_eq_true, decide_eq_true_iff] using h
              rw [hh] at this; cases this
            exact sp_put (x := true) hS hlb (fun _ => ⟨rfl, rfl⟩) (by omega) (by omega) fun H25 hS => step (c2 H25 hS hh')
        by_cases hbad : (rd f x < zz Z ∨ rd f x ≥ m * k * (G.length : Int) + zz Z) ∨ rdOf false seen (rd f x) = true
        · left
          refine img (fun H2 hS2 _ => no (fun hC => ?_) (lb.trans hS2.le)) (fun H2 _ hh => absurd hbad hh)
          have := hC.into x x0 xt hx
          rcases hbad with h | h
          · omega
          · obtain ⟨y, y0, y1, y2, y3⟩ := (hM.seen _ (by omega) this.2).1 h
            have := hC.inj y x y0 (by omega) x0 xt y2 hx y3
            omega
        · refine Classical.byContradiction fun hno => hno (.inl (img (fun H2 _ hh => absurd hh hbad) fun H2 hS2 _ => Classical.byContradiction fun hn => hno (.inr ⟨H2, ⟨_, hS2, hM.next (by omega) hx x0 (by omega) (by omega) fun h => hbad (.inr h)⟩, fun h => absurd h hn⟩)))
      · have bf : rdOf false b x = false := by rw [Bool.eq_false_iff]; exact fun h => hx ((hin' x x0 xt).1 h)
        by_cases hm1 : rd f x = -1
        · right
          exact ⟨H1, ⟨seen, hS, hM.skip hx hm1⟩, fun h => pre2 (ev_t (by rw [bf]; rfl) (ev_nneg hm1 (step h)))⟩
        · left
          exact pre2 (ev_t (by rw [bf]; rfl) (ev_npos hm1 (ev_ret (no (fun hC => hm1 (hC.out x x0 xt hx)) (lb.trans hS.le)))))
    · rintro H1 ⟨seen, hS, hM⟩
      rw [hfl] at hM
      refine ev_eq (fun _ k _ => rees_Check_2_eq k) (ev_neg (by omega) ?_)
      rw [he.len]
      have hS := hS.ord [1]
      -- one row of products
      have inner : ∀ (i : Int) (H2 : AH), 0 ≤ i → i < ((mem (gJ t) j).length : Int) → Sep H38 H2 [own reB inn b] → ∀ {Q : Bool → AH → Prop}, (∀ i' H3, 0 ≤ i' → i' < ((mem (gJ t) j).length : Int) → ¬ PB t j G k P Z f (rd (mem (gJ t) j) i) (rd (mem (gJ t) j) i') → Le H38 H3 → Q false H3) → ((∀ i' : Int, 0 ≤ i' → i' < ((mem (gJ t) j).length : Int) → PB t j G k P Z f (rd (mem (gJ t) j) i) (rd (mem (gJ t) j) i')) → ∀ H3, Sep H38 H3 [own reB inn b] → Ev (fun ρ n κ => rees_Check_4 n s u (some p) r.2.2.2.2.2.1 inn r.2.2.2.2.2.1 ((mem (gJ t) j).length : Int) (i + 1) lo H3 κ) Q) → Ev (fun ρ n κ => rees_Check_5 n s u (some p) r.2.2.2.2.2.1 inn (rd (mem (gJ t) j) i) r.2.2.2.2.2.1 ((mem (gJ t) j).length : Int) i r.2.2.2.2.2.1 ((mem (gJ t) j).length : Int) 0 lo H2 κ) Q := by
        intro i H2 i0 i1 hS Q c1 c2
        obtain ⟨a0, a1, aj⟩ := mem_at hv i0 i1
        refine ev_for (α := AH) (g := fun i' H ρ n κ => rees_Check_5 n s u (some p) r.2.2.2.2.2.1 inn (rd (mem (gJ t) j) i) r.2.2.2.2.2.1 ((mem (gJ t) j).length : Int) i r.2.2.2.2.2.1 ((mem (gJ t) j).length : Int) i' lo H κ) ((mem (gJ t) j).length : Int) (fun i' H' => Sep H38 H' [own reB inn b] ∧ ∀ i2 : Int, 0 ≤ i2 → i2 < i' → PB t j G k P Z f (rd (mem (gJ t) j) i) (rd (mem (gJ t) j) i2)) ?_ ?_ 0 H2 (by omega) (by omega) ⟨hS, fun i2 x y => by omega⟩
        · rintro i' H2 i'0 i'1 ⟨hS, hall⟩
          obtain ⟨b0, b1, bj⟩ := mem_at hv i'0 i'1
          have c0 := hsq.lo _ _ a0 a1 b0 b1
          have cl := hsq.hi _ _ a0 a1 b0 b1
          have rrow := hsq.row _ a0 a1
          have fx := hM.into _ a0 a1 aj
          have fy := hM.into _ b0 b1 bj
          have six : ∀ (want : Int) {Q : Bool → AH → Prop}, (rmul G k P Z (rd f (rd (mem (gJ t) j) i)) (rd f (rd (mem (gJ t) j) i')) ≠ want → ∀ H3, Sep H38 H3 [own reB inn b] → Q false H3) → (rmul G k P Z (rd f (rd (mem (gJ t) j) i)) (rd f (rd (mem (gJ t) j) i')) = want → ∀ H3, Sep H38 H3 [own reB inn b] → Ev (fun ρ n κ => rees_Check_5 n s u (some p) r.2.2.2.2.2.1 inn (rd (mem (gJ t) j) i) r.2.2.2.2.2.1 ((mem (gJ t) j).length : Int) i r.2.2.2.2.2.1 ((mem (gJ t) j).length : Int) (i' + 1) lo H3 κ) Q) → Ev (fun ρ n κ => rees_Check_6 n s u (some p) r.2.2.2.2.2.1 inn (rd (mem (gJ t) j) i) (rd (mem (gJ t) j) i') want r.2.2.2.2.2.1 ((mem (gJ t) j).length : Int) i r.2.2.2.2.2.1 ((mem (gJ t) j).length : Int) i' lo H2 κ) Q := by
            intro want Q d1 d2
            refine ev_eq (fun _ k _ => rees_Check_6_eq k) (ev_asP (ev_siisb (hp.le hS.le) (ev_rdI (hf.le hS.le) a0 (by omega) (ev_rdI (hf.le hS.le) b0 (by omega) (ev_call (rees_mul_ev (hg.le hS.le) (hq.le hS.le) hrv (by omega) (by omega) (by omega) (by omega)) fun v H10 ⟨e, l10⟩ => ?_)))))
            subst e
            refine ev_nif (fun hne => ev_ret (d1 hne H10 (hS.on l10))) (fun heq => ?_)
            rw [W_add i'0 i'1 (by omega)]
            exact d2 heq H10 (hS.on l10)
          have five : ∀ {Q : Bool → AH → Prop}, (¬ PB t j G k P Z f (rd (mem (gJ t) j) i) (rd (mem (gJ t) j) i') → ∀ H3, Sep H38 H3 [own reB inn b] → Q false H3) → (PB t j G k P Z f (rd (mem (gJ t) j) i) (rd (mem (gJ t) j) i') → ∀ H3, Sep H38 H3 [own reB inn b] → Ev (fun ρ n κ => rees_Check_5 n s u (some p) r.2.2.2.2.2.1 inn (rd (mem (gJ t) j) i) r.2.2.2.2.2.1 ((mem (gJ t) j).length : Int) i r.2.2.2.2.2.1 ((mem (gJ t) j).length : Int) (i' + 1) lo H3 κ) Q) → Ev (fun ρ n κ => rees_Check_5 n s u (some p) r.2.2.2.2.2.1 inn (rd (mem (gJ t) j) i) r.2.2.2.2.2.1 ((mem (gJ t) j).length : Int) i r.2.2.2.2.2.1 ((mem (gJ t) j).length : Int) i' lo H2 κ) Q := by
            intro Q d1 d2
            refine ev_eq (fun _ k _ => rees_Check_5_eq k) (ev_pos i'1 (ev_rdI (he.le hS.le) i'0 i'1 (ev_rdM (ht.le hS.le) a0 a1 b0 (by omega) (ev_rdB hS.rowB c0 (by omega) ?_))))
            by_cases hc : rd (gJ t) (M t (rd (mem (gJ t) j) i) (rd (mem (gJ t) j) i')) = j
            · refine ev_t ((hin' _ c0 cl).2 hc) (ev_rdM (ht.le hS.le) a0 a1 b0 (by omega) (ev_rdI (hf.le hS.le) c0 (by omega) (six _ (fun hne => d1 fun hPB => hne (hPB.1 hc)) (fun heq => d2 ⟨fun _ => heq, fun hn => absurd hc hn⟩))))
            · have bf : rdOf false b (M t (rd (mem (gJ t) j) i) (rd (mem (gJ t) j) i')) = false := by rw [Bool.eq_false_iff]; exact fun h => hc ((hin' _ c0 cl).1 h)
              refine ev_f bf (ev_asP (ev_fldB (hp.le hS.le) rfl (ev_b (fun hz' => ev_ret (d1 (fun hPB => ?_) H2 hS)) (fun hz' => six 0 (fun hne => d1 fun hPB => hne (hPB.2 hc).2) (fun heq => d2 ⟨fun hn => absurd hn hc, fun _ => ⟨?_, heq⟩⟩)))))
              · rw [(hPB.2 hc).1] at hz'; cases hz'
              · cases Z
                · cases hz'
                · rfl
          by_cases hPB : PB t j G k P Z f (rd (mem (gJ t) j) i) (rd (mem (gJ t) j) i')
          · refine Classical.byContradiction fun hno => hno (.inl (five (fun hn => absurd hPB hn) fun _ H3 hS3 => Classical.byContradiction fun hn => hno (.inr ⟨H3, ⟨hS3, fun i2 x y => ?_⟩, fun h => absurd h hn⟩)))
            by_cases h2 : i2 = i'
            · rw [h2]; exact hPB
            · exact hall i2 x (by omega)
          · left
            exact five (fun hn H3 hS3 => c1 i' H3 i'0 i'1 hPB hS3.le) (fun h => absurd h hPB)
        · rintro H2 ⟨hS, hall⟩
          refine ev_eq (fun _ k _ => rees_Check_5_eq k) (ev_neg (by omega) ?_)
          rw [W_add i0 i1 (by omega)]
          exact c2 hall H2 hS
      refine ev_for (α := AH) (g := fun i H ρ n κ => rees_Check_4 n s u (some p) r.2.2.2.2.2.1 inn r.2.2.2.2.2.1 ((mem (gJ t) j).length : Int) i lo H κ) ((mem (gJ t) j).length : Int) (fun i H' => Sep H38 H' [own reB inn b] ∧ ∀ i2 : Int, 0 ≤ i2 → i2 < i → ∀ i' : Int, 0 ≤ i' → i' < ((mem (gJ t) j).length : Int) → PB t j G k P Z f (rd (mem (gJ t) j) i2) (rd (mem (gJ t) j) i')) ?_ ?_ 0 H1 (by omega) (by omega) ⟨hS, fun i2 x y => by omega⟩
      · rintro i H2 i0 i1 ⟨hS, hall⟩
        obtain ⟨a0, a1, aj⟩ := mem_at hv i0 i1
        have four : ∀ {Q : Bool → AH → Prop}, Ev (fun ρ n κ => rees_Check_5 n s u (some p) r.2.2.2.2.2.1 inn (rd (mem (gJ t) j) i) r.2.2.2.2.2.1 ((mem (gJ t) j).length : Int) i r.2.2.2.2.2.1 ((mem (gJ t) j).length : Int) 0 lo H2 κ) Q → Ev (fun ρ n κ => rees_Check_4 n s u (some p) r.2.2.2.2.2.1 inn r.2.2.2.2.2.1 ((mem (gJ t) j).length : Int) i lo H2 κ) Q := fun h => by
          refine ev_eq (fun _ k _ => rees_Check_4_eq k) (ev_pos i1 (ev_rdI (he.le hS.le) i0 i1 ?_))
          rw [he.len]; exact h
        by_cases hbad : ∀ i' : Int, 0 ≤ i' → i' < ((mem (gJ t) j).length : Int) → PB t j G k P Z f (rd (mem (gJ t) j) i) (rd (mem (gJ t) j) i')
        · refine Classical.byContradiction fun hno => hno (.inl (four (inner i H2 i0 i1 hS (fun i' H3 x y hn _ => absurd (hbad i' x y) hn) fun _ H3 hS3 => Classical.byContradiction fun hn => hno (.inr ⟨H3, ⟨hS3, fun i2 x y => ?_⟩, fun h => absurd h hn⟩))))
          by_cases h2 : i2 = i
          · rw [h2]; exact hbad
          · exact hall i2 x (by omega)
        · left
          refine four (inner i H2 i0 i1 hS (fun i' H3 x y hn l => no (fun hC => ?_) (lb.trans l)) fun h => absurd h hbad)
          obtain ⟨b0, b1, bj⟩ := mem_at hv x y
          exact hn (hC.mul _ _ a0 a1 b0 b1 aj bj)
      · rintro H2 ⟨hS, hall⟩
        refine ev_eq (fun _ k _ => rees_Check_4_eq k) (ev_neg (by omega) (ev_ret ⟨?_, lb.trans hS.le⟩))
        refine (decide_eq_true (chk_of h1 ⟨hrv, hzm, hfl, hsize⟩ hM fun x y x0 x1 y0 y1 hx hy => ?_)).symm
        exact (mem_all hv (Q := fun y => PB t j G k P Z f x y)).2 (fun i' a c => (mem_all hv (Q := fun x => PB t j G k P Z f x (rd (mem (gJ t) j) i'))).2 (fun i d e => hall i d e i' a c) x x0 x1 hx) y y0 y1 hy
    · rw [rb_rep a (by omega)]
      exact ⟨fun h => by (cases h), fun ⟨y, p, q, _⟩ => by omega⟩
  · rw [rb_rep a (by omega)]
    exact ⟨fun h => by (cases h), fun ⟨y, p, q, _⟩ => by omega⟩
open Classical in
theorem semigroupref17_Check_ev {s g q u : Sl} {t G P : List (List Int)} {m k : Int} {Z : Bool} {f : List Int} {j : Int} {H : AH} {lo : Nat} (hlo : lo ≤ H.length) (hin : In2 t) (ht : Tab H s t) (hG : In2 G) (hg : Tab H g G) (hP : In2 P) (hq : Tab H q P) (hf : Row H u f) : Ev (fun ρ n κ => semigroupref17_Check n s j g m k q Z u lo H κ) (fun v H' => v = decide (Chk t j G m k P Z f) ∧ Le H H') := by
  refine ev_eq (fun _ k _ => semigroupref17_Check_eq k) (ev_alcB fun p H2 hp _ l2 => ev_call (semigroupref17_class_ev (Nat.le_refl _) hin (ht.le l2)) fun r H4 hr => ?_)
  have no : ∀ {H' : AH}, ¬ Chk t j G m k P Z f → Le H H' → (false = decide (Chk t j G m k P Z f) ∧ Le H H') := fun hn l => ⟨by rw [decide_eq_false hn], l⟩
  rcases hr with ⟨h1, h2, h3⟩ | ⟨h1, h2, h3, l4, he⟩
  · have t1 : (!decide (r.2.2 = 0)) = true := by rw [h2, decide_eq_false h1]; rfl
    exact ev_orI (c := true) (fun e => by rw [t1] at e; cases e) (fun _ => rfl) (ev_orI (c := true) (fun e => by cases e) (fun _ => rfl) (ev_orI (c := true) (fun e => by cases e) (fun _ => rfl) (ev_orI (c := true) (fun e => by cases e) (fun _ => rfl) (ev_t rfl (ev_ret (no (fun h => h1 h.ok) (l2.trans h3)))))))
  obtain ⟨hval, j0, j1⟩ := cerr_ok.1 h1
  have hv := val_va.1 hval
  have hsq := hv.toSq
  have hn := hv.le
  have lJ := (gJ_cl hv).len
  have lm := mem_len t hv j
  have hp := hp.le l4
  have lb := l2.trans l4
  have ht := ht.le lb
  have hg := hg.le lb
  have hq := hq.le lb
  have hf := hf.le lb
  have hz := zz_cases Z
  rw [hf.len, ht.len]
  refine ev_orVL (c := !decide (rval G m k P Z = 0)) (fun _ => ev_siisb hp (ev_call (semigroupref17_Validate_ev hG hg hP hq) fun v H14 ⟨e, l⟩ => ev_ret ⟨by rw [e], l⟩)) fun H16 l16 => ?_
  refine ev_orV (c := Z == r.2.1) (fun _ => ev_fldB (hp.le l16) rfl (ev_ret ⟨rfl, rfl⟩)) (ev_orV (c := !decide ((f.length : Int) = (t.length : Int))) (fun _ => ev_ret ⟨rfl, rfl⟩) ?_)
  have pre : ((((!decide (r.2.2 = 0)) || (!decide (rval G m k P Z = 0))) || (Z == r.2.1)) || (!decide ((f.length : Int) = (t.length : Int)))) = false ↔ RVa G m k P Z ∧ (Z = true ↔ ¬ MinC t j) ∧ f.length = t.length := by
    rw [h2, h3]
    simp only [decide_true, Bool.not_true, Bool.false_or, Bool.or_eq_false_iff, Bool.not_eq_false', decide_eq_true_iff, rval_rv]
    constructor
    · rintro ⟨⟨a, b⟩, c⟩
      refine ⟨a, ?_, by omega⟩
      by_cases hmin : MinC t j
      · simp [hmin] at b; simp [hmin, b]
      · simp [hmin] at b; simp [hmin, b]
    · rintro ⟨a, b, c⟩
      refine ⟨⟨a, ?_⟩, by omega⟩
      by_cases hmin : MinC t j
      · have : Z = false := by cases Z; rfl; exact absurd hmin (b.1 rfl)
        simp [hmin, this]
      · have : Z = true := b.2 hmin
        simp [hmin, this]
  refine ev_or (S := fun b H' => (b = false ↔ Gd t j G m k P Z f) ∧ Le H4 H') (fun hg' => ?_) (fun hg' => ⟨⟨fun e => by (cases e), fun hgd => by rw [pre.2 ⟨hgd.1, hgd.2.1, hgd.2.2.1⟩] at hg'; cases hg'⟩, l16⟩) fun b37 H38 ⟨hb, l38⟩ => ?_
  · obtain ⟨hrv, hzm, hfl⟩ := pre.1 hg'
    refine ev_siisb (hp.le l16) (ev_call (semigroupref17_Size_ev (hg.le l16).len hrv) fun v28 H29 ⟨e28, l29⟩ => ev_siisb ((hp.le l16).le l29) (ev_call semigroupref17_base_ev fun v35 H36 ⟨e35, l36⟩ => ev_ret ⟨?_, (l16.trans l29).trans l36⟩))
    have hsz := hrv.sz
    have hpos : 0 < m * k * (G.length : Int) := Int.mul_pos (Int.mul_pos (by have := hrv.m1; omega) (by have := hrv.k1; omega)) hrv.grp.pos
    rw [e28, e35, he.len, W_in (by omega) (by omega)]
    simp only [Bool.not_eq_false', decide_eq_true_iff]
    exact ⟨fun h => ⟨hrv, hzm, hfl, by omega⟩, fun h => by have := h.2.2.2; omega⟩
  cases b37 with
  | true => exact ev_t rfl (ev_ret (no (fun h => by have := hb.2 h.good; cases this) (lb.trans l38)))
  | false =>
  have hgd := hb.1 rfl
  obtain ⟨hrv, hzm, hfl, hsize⟩ := hgd
  have hsz := hrv.sz
  refine ev_f rfl ?_
  have he := he.le l38
  have hp := hp.le l38
  have ht := ht.le l38
  have hg := hg.le l38
  have hq := hq.le l38
  have hf := hf.le l38
  have lb := lb.trans l38
  have hlb : lo ≤ H38.length := by have := lb.len; omega
  refine ev_call (semigroupref03_Set_ev (Nat.le_refl _) he (by omega) (by omega) (by omega)) fun inn H37 hS => ?_
  rw [Int.toNat_natCast] at hS
  refine ev_siisb (hp.le hS.le) (ev_call (semigroupref17_Size_ev (hg.le hS.le).len hrv) fun v43 H44 ⟨e43, l44⟩ => ?_)
  subst e43
  have hS := hS.on l44
  obtain ⟨b, hbb⟩ : ∃ b, brow t.length (fun x => x ∈ mem (gJ t) j) = b := ⟨_, rfl⟩
  have hb : b.length = t.length := by rw [← hbb]; exact brow_len _ _
  have hin' : ∀ x : Int, 0 ≤ x → x < (t.length : Int) → (rdOf false b x = true ↔ rd (gJ t) x = j) := fun x x0 x1 => by
    rw [← hbb, brow_iff x0 x1, mem_mem]
    exact ⟨fun h => h.2.2, fun h => ⟨x0, by omega, h⟩⟩
  rw [hbb] at hS
  refine sp_mks (x := false) hS reB (fun _ => ⟨rfl, rfl⟩) (by omega) (by omega) fun sn H46 hS => ?_
  refine ev_for (α := AH) (g := fun x H ρ n κ => semigroupref17_Check_1 n s u (some p) r.1 inn sn (t.length : Int) x lo H κ) (t.length : Int) (fun x H' => ∃ seen : List Bool, Sep H38 H' [own reB sn seen, own reB inn b] ∧ ChkM t j (m * k * (G.length : Int) + zz Z) (zz Z) f x seen) ?_ ?_ 0 H46 (by omega) (by omega) ⟨_, hS, by simp; omega, fun y a c => by omega, fun y a c => by omega, fun v a c => ?_, fun y y' a c => by omega⟩
  · rintro x H1 x0 x1 ⟨seen, hS, hM⟩
    have hl := hM.len
    have step : ∀ {Q : Bool → AH → Prop} {H2 : AH}, Ev (fun ρ n κ => semigroupref17_Check_1 n s u (some p) r.1 inn sn (t.length : Int) (x + 1) lo H2 κ) Q → Ev (fun ρ n κ => semigroupref17_Check_2 n s u (some p) r.1 inn sn (t.length : Int) x lo H2 κ) Q := fun h => by
      refine ev_eq (fun _ k _ => semigroupref17_Check_2_eq k) ?_
      rw [W_add x0 x1 (by omega)]; exact h
    by_cases hx : rd (gJ t) x = j
    · have bt : rdOf false b x = true := (hin' x x0 x1).2 hx
      have img : ∀ {Q : Bool → AH → Prop}, (∀ H2, Sep H38 H2 [own reB sn seen, own reB inn b] → ((rd f x < zz Z ∨ rd f x ≥ m * k * (G.length : Int) + zz Z) ∨ rdOf false seen (rd f x) = true) → Q false H2) → (∀ H2, Sep H38 H2 [own reB sn (seen.set (rd f x).toNat true), own reB inn b] → ¬ ((rd f x < zz Z ∨ rd f x ≥ m * k * (G.length : Int) + zz Z) ∨ rdOf false seen (rd f x) = true) → Ev (fun ρ n κ => semigroupref17_Check_1 n s u (some p) r.1 inn sn (t.length : Int) (x + 1) lo H2 κ) Q) → Ev (fun ρ n κ => semigroupref17_Check_1 n s u (some p) r.1 inn sn (t.length : Int) x lo H1 κ) Q := by
        intro Q c1 c2
        refine ev_eq (fun _ k _ => semigroupref17_Check_1_eq k) (ev_pos x1 (ev_rdB (hS.pull 1).rowB x0 (by omega) (ev_f (by rw [bt]; rfl) (ev_rdI (hf.le hS.le) x0 (by omega) (ev_asP (ev_siisb (hp.le hS.le) (ev_call semigroupref17_base_ev fun v9 H10 ⟨e9, l10⟩ => ?_)))))))
        subst e9
        have hS := hS.on l10
        refine ev_orVL (c := decide (rd f x ≥ m * k * (G.length : Int) + zz Z)) (fun _ => ev_rdI (hf.le hS.le) x0 (by omega) (ev_asP (ev_siisb (hp.le hS.le) (ev_call (semigroupref17_Size_ev (hg.le hS.le).len hrv) fun v17 H18 ⟨e17, l18⟩ => ev_ret ⟨by rw [e17], l18⟩)))) fun H20 l20 => ?_
        have hS := hS.on l20
        refine ev_orV (c := rdOf false seen (rd f x)) (fun hno => ?_) (ev_b (fun hh => ev_ret (c1 H20 hS ?_)) (fun hh => ?_))
        · simp only [Bool.or_eq_false_iff, decide_eq_false_iff_not] at hno
          exact ev_rdI (hf.le hS.le) x0 (by omega) (ev_rdB hS.rowB (by omega) (by omega) (ev_ret ⟨rfl, rfl⟩))
        · simpa only [Bool.or_eq_true, decide_eq_true_iff] using hh
        · have hh' : ¬ ((rd f x < zz Z ∨ rd f x ≥ m * k * (G.length : Int) + zz Z) ∨ rdOf false seen (rd f x) = true) := fun h => by
            have : (decide (rd f x < zz Z) || decide (rd f x ≥ m * k * (G.length : Int) + zz Z) || rdOf false seen (rd f x)) = true := by simpa only [Bool.or_eq_true, decide_eq_true_iff] using h
            rw [hh] at this; cases this
          exact ev_rdI (hf.le hS.le) x0 (by omega) (sp_put (x := true) hS hlb (fun _ => ⟨rfl, rfl⟩) (by omega) (by omega) fun H25 hS => step (c2 H25 hS hh'))
      by_cases hbad : (rd f x < zz Z ∨ rd f x ≥ m * k * (G.length : Int) + zz Z) ∨ rdOf false seen (rd f x) = true
      · left
        refine img (fun H2 hS2 _ => no (fun hC => ?_) (lb.trans hS2.le)) (fun H2 _ hh => absurd hbad hh)
        have := hC.into x x0 x1 hx
        rcases hbad with h | h
        · omega
        · obtain ⟨y, y0, y1, y2, y3⟩ := (hM.seen _ (by omega) this.2).1 h
          have := hC.inj y x y0 (by omega) x0 x1 y2 hx y3
          omega
      · refine Classical.byContradiction fun hno => hno (.inl (img (fun H2 _ hh => absurd hh hbad) fun H2 hS2 _ => Classical.byContradiction fun hn => hno (.inr ⟨H2, ⟨_, hS2, hM.next (by omega) hx x0 (by omega) (by omega) fun h => hbad (.inr h)⟩, fun h => absurd h hn⟩)))
    · have bf : rdOf false b x = false := by rw [Bool.eq_false_iff]; exact fun h => hx ((hin' x x0 x1).1 h)
      by_cases hm1 : rd f x = -1
      · right
        exact ⟨H1, ⟨seen, hS, hM.skip hx hm1⟩, fun h => ev_eq (fun _ k _ => semigroupref17_Check_1_eq k) (ev_pos x1 (ev_rdB (hS.pull 1).rowB x0 (by omega) (ev_t (by rw [bf]; rfl) (ev_rdI (hf.le hS.le) x0 (by omega) (ev_nneg hm1 (step h))))))⟩
      · left
        exact ev_eq (fun _ k _ => semigroupref17_Check_1_eq k) (ev_pos x1 (ev_rdB (hS.pull 1).rowB x0 (by omega) (ev_t (by rw [bf]; rfl) (ev_rdI (hf.le hS.le) x0 (by omega) (ev_npos hm1 (ev_ret (no (fun hC => hm1 (hC.out x x0 x1 hx)) (lb.trans hS.le))))))))
  · rintro H1 ⟨seen, hS, hM⟩
    refine ev_eq (fun _ k _ => semigroupref17_Check_1_eq k) (ev_neg (by omega) ?_)
    rw [he.len]
    have hS := hS.ord [1]
    have inner : ∀ (i : Int) (H2 : AH), 0 ≤ i → i < ((mem (gJ t) j).length : Int) → Sep H38 H2 [own reB inn b] → ∀ {Q : Bool → AH → Prop}, (∀ i' H3, 0 ≤ i' → i' < ((mem (gJ t) j).length : Int) → ¬ PB t j G k P Z f (rd (mem (gJ t) j) i) (rd (mem (gJ t) j) i') → Le H38 H3 → Q false H3) → ((∀ i' : Int, 0 ≤ i' → i' < ((mem (gJ t) j).length : Int) → PB t j G k P Z f (rd (mem (gJ t) j) i) (rd (mem (gJ t) j) i')) → ∀ H3, Sep H38 H3 [own reB inn b] → Ev (fun ρ n κ => semigroupref17_Check_3 n s u (some p) r.1 inn r.1 ((mem (gJ t) j).length : Int) (i + 1) lo H3 κ) Q) → Ev (fun ρ n κ => semigroupref17_Check_4 n s u (some p) r.1 inn (rd (mem (gJ t) j) i) r.1 ((mem (gJ t) j).length : Int) i r.1 ((mem (gJ t) j).length : Int) 0 lo H2 κ) Q := by
      intro i H2 i0 i1 hS Q c1 c2
      obtain ⟨a0, a1, aj⟩ := mem_at hv i0 i1
      refine ev_for (α := AH) (g := fun i' H ρ n κ => semigroupref17_Check_4 n s u (some p) r.1 inn (rd (mem (gJ t) j) i) r.1 ((mem (gJ t) j).length : Int) i r.1 ((mem (gJ t) j).length : Int) i' lo H κ) ((mem (gJ t) j).length : Int) (fun i' H' => Sep H38 H' [own reB inn b] ∧ ∀ i2 : Int, 0 ≤ i2 → i2 < i' → PB t j G k P Z f (rd (mem (gJ t) j) i) (rd (mem (gJ t) j) i2)) ?_ ?_ 0 H2 (by omega) (by omega) ⟨hS, fun i2 x y => by omega⟩
      · rintro i' H2 i'0 i'1 ⟨hS, hall⟩
        obtain ⟨b0, b1, bj⟩ := mem_at hv i'0 i'1
        have c0 := hsq.lo _ _ a0 a1 b0 b1
        have cl := hsq.hi _ _ a0 a1 b0 b1
        have rrow := hsq.row _ a0 a1
        have fx := hM.into _ a0 a1 aj
        have fy := hM.into _ b0 b1 bj
        have five : ∀ {Q : Bool → AH → Prop}, (¬ PB t j G k P Z f (rd (mem (gJ t) j) i) (rd (mem (gJ t) j) i') → ∀ H3, Sep H38 H3 [own reB inn b] → Q false H3) → (PB t j G k P Z f (rd (mem (gJ t) j) i) (rd (mem (gJ t) j) i') → ∀ H3, Sep H38 H3 [own reB inn b] → Ev (fun ρ n κ => semigroupref17_Check_4 n s u (some p) r.1 inn (rd (mem (gJ t) j) i) r.1 ((mem (gJ t) j).length : Int) i r.1 ((mem (gJ t) j).length : Int) (i' + 1) lo H3 κ) Q) → Ev (fun ρ n κ => semigroupref17_Check_4 n s u (some p) r.1 inn (rd (mem (gJ t) j) i) r.1 ((mem (gJ t) j).length : Int) i r.1 ((mem (gJ t) j).length : Int) i' lo H2 κ) Q := by
          intro Q d1 d2
          refine ev_eq (fun _ k _ => semigroupref17_Check_4_eq k) (ev_pos i'1 (ev_rdI (he.le hS.le) i'0 i'1 (ev_asP (ev_siisb (hp.le hS.le) (ev_rdI (hf.le hS.le) a0 (by omega) (ev_rdI (hf.le hS.le) b0 (by omega) (ev_call (semigroupref17_Mul_ev (hg.le hS.le) (hq.le hS.le) hrv ⟨by omega, by omega⟩) fun v H11 ⟨e, l11⟩ => ?_)))))))
          have hS := hS.on l11
          have e' : v = rmul G k P Z (rd f (rd (mem (gJ t) j) i)) (rd f (rd (mem (gJ t) j) i')) := by
            rw [e]; unfold rmulc; rw [if_pos ⟨by omega, by omega, by omega, by omega⟩]
          refine ev_rdM (ht.le hS.le) a0 a1 b0 (by omega) (ev_rdB hS.rowB c0 (by omega) ?_)
          refine ev_andV (c := !decide (v = rd f (M t (rd (mem (gJ t) j) i) (rd (mem (gJ t) j) i')))) (fun _ => ev_rdM (ht.le hS.le) a0 a1 b0 (by omega) (ev_rdI (hf.le hS.le) c0 (by omega) (ev_ret ⟨rfl, rfl⟩))) ?_
          refine ev_orV (c := !(rdOf false b (M t (rd (mem (gJ t) j) i) (rd (mem (gJ t) j) i'))) && (!decide (v = 0) || !Z)) (fun _ => ev_rdM (ht.le hS.le) a0 a1 b0 (by omega) (ev_rdB hS.rowB c0 (by omega) (ev_andV (c := !decide (v = 0) || !Z) (fun _ => ev_orV (c := !Z) (fun _ => ev_asP (ev_fldB (hp.le hS.le) rfl (ev_ret ⟨rfl, rfl⟩))) (ev_ret ⟨rfl, rfl⟩)) (ev_ret ⟨rfl, rfl⟩)))) ?_
          have key : ((rdOf false b (M t (rd (mem (gJ t) j) i) (rd (mem (gJ t) j) i')) && !decide (v = rd f (M t (rd (mem (gJ t) j) i) (rd (mem (gJ t) j) i')))) || (!(rdOf false b (M t (rd (mem (gJ t) j) i) (rd (mem (gJ t) j) i'))) && (!decide (v = 0) || !Z))) = false ↔ PB t j G k P Z f (rd (mem (gJ t) j) i) (rd (mem (gJ t) j) i') := by
            unfold PB
            rw [← e']
            by_cases hj : rd (gJ t) (M t (rd (mem (gJ t) j) i) (rd (mem (gJ t) j) i')) = j
            · rw [(hin' _ c0 cl).2 hj]; simp [hj]
            · have hbv : rdOf false b (M t (rd (mem (gJ t) j) i) (rd (mem (gJ t) j) i')) = false := by rw [Bool.eq_false_iff]; exact fun h => hj ((hin' _ c0 cl).1 h)
              rw [hbv]; simp [hj]; exact and_comm
          refine ev_b (fun hh => ev_ret (d1 (fun hPB => ?_) H11 hS)) (fun hh => ?_)
          · rw [key.2 hPB] at hh; cases hh
          · rw [W_add i'0 i'1 (by omega)]
            exact d2 (key.1 hh) H11 hS
        by_cases hPB : PB t j G k P Z f (rd (mem (gJ t) j) i) (rd (mem (gJ t) j) i')
        · refine Classical.byContradiction fun hno => hno (.inl (five (fun hn => absurd hPB hn) fun _ H3 hS3 => Classical.byContradiction fun hn => hno (.inr ⟨H3, ⟨hS3, fun i2 x y => ?_⟩, fun h => absurd h hn⟩)))
          by_cases h2 : i2 = i'
          · rw [h2]; exact hPB
          · exact hall i2 x (by omega)
        · left
          exact five (fun hn H3 hS3 => c1 i' H3 i'0 i'1 hPB hS3.le) (fun h => absurd h hPB)
      · rintro H2 ⟨hS, hall⟩
        refine ev_eq (fun _ k _ => semigroupref17_Check_4_eq k) (ev_neg (by omega) ?_)
        rw [W_add i0 i1 (by omega)]
        exact c2 hall H2 hS
    refine ev_for (α := AH) (g := fun i H ρ n κ => semigroupref17_Check_3 n s u (some p) r.1 inn r.1 ((mem (gJ t) j).length : Int) i lo H κ) ((mem (gJ t) j).length : Int) (fun i H' => Sep H38 H' [own reB inn b] ∧ ∀ i2 : Int, 0 ≤ i2 → i2 < i → ∀ i' : Int, 0 ≤ i' → i' < ((mem (gJ t) j).length : Int) → PB t j G k P Z f (rd (mem (gJ t) j) i2) (rd (mem (gJ t) j) i')) ?_ ?_ 0 H1 (by omega) (by omega) ⟨hS, fun i2 x y => by omega⟩
    · rintro i H2 i0 i1 ⟨hS, hall⟩
      obtain ⟨a0, a1, aj⟩ := mem_at hv i0 i1
      have four : ∀ {Q : Bool → AH → Prop}, Ev (fun ρ n κ => semigroupref17_Check_4 n s u (some p) r.1 inn (rd (mem (gJ t) j) i) r.1 ((mem (gJ t) j).length : Int) i r.1 ((mem (gJ t) j).length : Int) 0 lo H2 κ) Q → Ev (fun ρ n κ => semigroupref17_Check_3 n s u (some p) r.1 inn r.1 ((mem (gJ t) j).length : Int) i lo H2 κ) Q := fun h => by
        refine ev_eq (fun _ k _ => semigroupref17_Check_3_eq k) (ev_pos i1 (ev_rdI (he.le hS.le) i0 i1 ?_))
        rw [he.len]; exact h
      by_cases hbad : ∀ i' : Int, 0 ≤ i' → i' < ((mem (gJ t) j).length : Int) → PB t j G k P Z f (rd (mem (gJ t) j) i) (rd (mem (gJ t) j) i')
      · refine Classical.byContradiction fun hno => hno (.inl (four (inner i H2 i0 i1 hS (fun i' H3 x y hn _ => absurd (hbad i' x y) hn) fun _ H3 hS3 => Classical.byContradiction fun hn => hno (.inr ⟨H3, ⟨hS3, fun i2 x y => ?_⟩, fun h => absurd h hn⟩))))
        by_cases h2 : i2 = i
        · rw [h2]; exact hbad
        · exact hall i2 x (by omega)
      · left
        refine four (inner i H2 i0 i1 hS (fun i' H3 x y hn l => no (fun hC => ?_) (lb.trans l)) fun h => absurd h hbad)
        obtain ⟨b0, b1, bj⟩ := mem_at hv x y
        exact hn (hC.mul _ _ a0 a1 b0 b1 aj bj)
    · rintro H2 ⟨hS, hall⟩
      refine ev_eq (fun _ k _ => semigroupref17_Check_3_eq k) (ev_neg (by omega) (ev_ret ⟨?_, lb.trans hS.le⟩))
      refine (decide_eq_true (chk_of h1 ⟨hrv, hzm, hfl, hsize⟩ hM fun x y x0 x1 y0 y1 hx hy => ?_)).symm
      exact (mem_all hv (Q := fun y => PB t j G k P Z f x y)).2 (fun i' a c => (mem_all hv (Q := fun x => PB t j G k P Z f x (rd (mem (gJ t) j) i'))).2 (fun i d e => hall i d e i' a c) x x0 x1 hx) y y0 y1 hy
  · rw [rb_rep a (by omega)]
    exact ⟨fun h => by (cases h), fun ⟨y, p, q, _⟩ => by omega⟩

end Go.Ab
