/- Layer 14: shape, failing, Validate, Associative and the like. What they answer. No condition but that a table comes in. -/
import Derived.Test.YtmdndoghdbhipaaRGreenInvertsEq
import Derived.Test.YtmdndoghdbhipaaAbAR
import Derived.Test.YtmdndoghdbhipaaAbM4
set_option linter.unusedVariables false
set_option linter.unusedSimpArgs false
namespace Go.Ab
open Go
theorem mult_shape_l2 {A : AH} {s r : Sl} {t : List (List Int)} {H : AH} {Q : Int → AH → Prop} {lo : Nat} (ht : In2 t) (hs : Tab H s t) {x : Int} (h0 : 0 ≤ x) (h1 : x < (t.length : Int)) (hr : Row H r (R t x))
    (hb : (∃ y, 0 ≤ y ∧ y < ((R t x).length : Int) ∧ (M t x y < 0 ∨ (t.length : Int) ≤ M t x y)) → Q 4 H)
    (hend : (∀ y, 0 ≤ y → y < ((R t x).length : Int) → ¬ (M t x y < 0 ∨ (t.length : Int) ≤ M t x y)) → Ev (fun ρ k κ => mult_shape_1 k s s (t.length : Int) (x + 1) lo H κ) Q) :
    Ev (fun ρ k κ => mult_shape_2 k s s (t.length : Int) x r ((R t x).length : Int) 0 lo H κ) Q := by
  have hl := ht.row h0 h1
  have hsl := hs.len
  have hx : x + 1 ≤ 9223372036854775807 := by have := ht.1; omega
  refine ev_for0 (g := fun y ρ k κ => mult_shape_2 k s s (t.length : Int) x r ((R t x).length : Int) y lo H κ) ((R t x).length : Int) (fun i => ∀ y, 0 ≤ y → y < i → ¬ (M t x y < 0 ∨ (t.length : Int) ≤ M t x y)) ?_ ?_ 0 (by omega) (by omega) (fun y a b => by omega)
  · intro y hy0 hy1 hi
    by_cases hbad : M t x y < 0 ∨ (t.length : Int) ≤ M t x y
    · left
      refine ev_eq (fun _ k _ => mult_shape_2_eq k) (ev_pos hy1 (ev_rdI hr hy0 hy1 (ev_orP (fun _ => ev_ret ⟨rfl, rfl⟩) (ev_pos ?_ (ev_ret (hb ⟨y, hy0, hy1, hbad⟩))))))
      show M t x y < 0 ∨ M t x y ≥ (s.len : Int)
      omega
    · right
      refine ⟨fun z hz0 hz1 => ?_, fun H => ?_⟩
      · by_cases hzx : z < y
        · exact hi z hz0 hzx
        · have : z = y := by omega
          rw [this]; exact hbad
      refine ev_eq (fun _ k _ => mult_shape_2_eq k) (ev_pos hy1 (ev_rdI hr hy0 hy1 (ev_orP (fun _ => ev_ret ⟨rfl, rfl⟩) (ev_neg ?_ ?_))))
      · show ¬ (M t x y < 0 ∨ M t x y ≥ (s.len : Int))
        omega
      · rw [W_add hy0 hy1 (by omega)]; exact H
  · intro hi
    refine ev_eq (fun _ k _ => mult_shape_2_eq k) (ev_neg (by omega) ?_)
    rw [W_add h0 h1 (by omega)]
    exact hend hi
open Classical in
theorem mult_shape_ev {s : Sl} {t : List (List Int)} {H : AH} {lo : Nat} (ht : In2 t) (hs : Tab H s t) : Ev (fun ρ k κ => mult_shape k s lo H κ) (Is (shp t) H) := by
  unfold shp
  have hl := hs.len
  refine ev_eq (fun _ k _ => mult_shape_eq k) ?_
  rw [hl]
  refine ev_if (fun h => ?_) (fun h => ?_)
  · rw [if_pos h]; exact ev_ret ⟨rfl, rfl⟩
  rw [if_neg h]
  refine ev_if (fun h => ?_) (fun h2 => ?_)
  · rw [if_pos h]; exact ev_ret ⟨rfl, rfl⟩
  rw [if_neg h2]
  generalize hr : (if Bad t then (4 : Int) else 0) = r
  refine ev_for0 (g := fun x ρ k κ => mult_shape_1 k s s (t.length : Int) x lo H κ) (t.length : Int) (fun i => ∀ x, 0 ≤ x → x < i → ¬ (((R t x).length : Int) ≠ (t.length : Int) ∨ ∃ y, 0 ≤ y ∧ y < ((R t x).length : Int) ∧ (M t x y < 0 ∨ (t.length : Int) ≤ M t x y))) ?_ ?_ 0 (by omega) (by omega) (fun x a b => by omega)
  · intro x hx0 hx1 hi
    by_cases hbad : ((R t x).length : Int) ≠ (t.length : Int) ∨ ∃ y, 0 ≤ y ∧ y < ((R t x).length : Int) ∧ (M t x y < 0 ∨ (t.length : Int) ≤ M t x y)
    · left
      have hr4 : (4 : Int) = r := by rw [← hr, if_pos ⟨x, hx0, hx1, hbad⟩]
      refine ev_eq (fun _ k _ => mult_shape_1_eq k) (ev_pos hx1 (ev_rdS hs hx0 hx1 fun v hv => ?_))
      rw [hl, hv.len]
      refine ev_nif (fun _ => ev_ret ⟨hr4, rfl⟩) (fun he => ?_)
      rcases hbad with hbad | ⟨y, hy0, hy1, hbad⟩
      · exact absurd he hbad
      exact mult_shape_l2 (A := H) ht hs hx0 hx1 hv (fun _ => ⟨hr4, rfl⟩) (fun hn => absurd hbad (hn y hy0 hy1))
    · right
      refine ⟨fun z hz0 hz1 => ?_, fun H' => ?_⟩
      · by_cases hzx : z < x
        · exact hi z hz0 hzx
        · have : z = x := by omega
          rw [this]; exact hbad
      · have he : ((R t x).length : Int) = (t.length : Int) := Classical.byContradiction fun hn => hbad (.inl hn)
        refine ev_eq (fun _ k _ => mult_shape_1_eq k) (ev_pos hx1 (ev_rdS hs hx0 hx1 fun v hv => ?_))
        rw [hl, hv.len]
        exact ev_nneg he (mult_shape_l2 (A := H) ht hs hx0 hx1 hv (fun hy => absurd (.inr hy) hbad) (fun _ => H'))
  · intro hi
    refine ev_eq (fun _ k _ => mult_shape_1_eq k) (ev_neg (by omega) (ev_ret ⟨?_, rfl⟩))
    rw [← hr, if_neg]
    rintro ⟨x, a, b, c⟩
    exact hi x a b c
theorem semigroupref14_Shape_l2 {A : AH} {s r : Sl} {t : List (List Int)} {H : AH} {Q : Int → AH → Prop} {lo : Nat} (ht : In2 t) (hs : Tab H s t) {x : Int} (h0 : 0 ≤ x) (h1 : x < (t.length : Int)) (hr : Row H r (R t x))
    (hb : (∃ y, 0 ≤ y ∧ y < ((R t x).length : Int) ∧ (M t x y < 0 ∨ (t.length : Int) ≤ M t x y)) → Q 4 H)
    (hend : (∀ y, 0 ≤ y → y < ((R t x).length : Int) → ¬ (M t x y < 0 ∨ (t.length : Int) ≤ M t x y)) → Ev (fun ρ k κ => semigroupref14_Shape_1 k s s (t.length : Int) (x + 1) lo H κ) Q) :
    Ev (fun ρ k κ => semigroupref14_Shape_2 k s s (t.length : Int) x r ((R t x).length : Int) 0 lo H κ) Q := by
  have hl := ht.row h0 h1
  have hsl := hs.len
  have hx : x + 1 ≤ 9223372036854775807 := by have := ht.1; omega
  refine ev_for0 (g := fun y ρ k κ => semigroupref14_Shape_2 k s s (t.length : Int) x r ((R t x).length : Int) y lo H κ) ((R t x).length : Int) (fun i => ∀ y, 0 ≤ y → y < i → ¬ (M t x y < 0 ∨ (t.length : Int) ≤ M t x y)) ?_ ?_ 0 (by omega) (by omega) (fun y a b => by omega)
  · intro y hy0 hy1 hi
    by_cases hbad : M t x y < 0 ∨ (t.length : Int) ≤ M t x y
    · left
      refine ev_eq (fun _ k _ => semigroupref14_Shape_2_eq k) (ev_pos hy1 (ev_rdI hr hy0 hy1 (ev_orP (fun _ => ev_ret ⟨rfl, rfl⟩) (ev_pos ?_ (ev_ret (hb ⟨y, hy0, hy1, hbad⟩))))))
      show M t x y < 0 ∨ M t x y ≥ (s.len : Int)
      omega
    · right
      refine ⟨fun z hz0 hz1 => ?_, fun H => ?_⟩
      · by_cases hzx : z < y
        · exact hi z hz0 hzx
        · have : z = y := by omega
          rw [this]; exact hbad
      refine ev_eq (fun _ k _ => semigroupref14_Shape_2_eq k) (ev_pos hy1 (ev_rdI hr hy0 hy1 (ev_orP (fun _ => ev_ret ⟨rfl, rfl⟩) (ev_neg ?_ ?_))))
      · show ¬ (M t x y < 0 ∨ M t x y ≥ (s.len : Int))
        omega
      · rw [W_add hy0 hy1 (by omega)]; exact H
  · intro hi
    refine ev_eq (fun _ k _ => semigroupref14_Shape_2_eq k) (ev_neg (by omega) ?_)
    rw [W_add h0 h1 (by omega)]
    exact hend hi
open Classical in
theorem semigroupref14_Shape_ev {s : Sl} {t : List (List Int)} {H : AH} {lo : Nat} (ht : In2 t) (hs : Tab H s t) : Ev (fun ρ k κ => semigroupref14_Shape k s lo H κ) (Is (shp t) H) := by
  unfold shp
  have hl := hs.len
  refine ev_eq (fun _ k _ => semigroupref14_Shape_eq k) ?_
  rw [hl]
  refine ev_if (fun h => ?_) (fun h => ?_)
  · rw [if_pos h]; exact ev_ret ⟨rfl, rfl⟩
  rw [if_neg h]
  refine ev_if (fun h => ?_) (fun h2 => ?_)
  · rw [if_pos h]; exact ev_ret ⟨rfl, rfl⟩
  rw [if_neg h2]
  generalize hr : (if Bad t then (4 : Int) else 0) = r
  refine ev_for0 (g := fun x ρ k κ => semigroupref14_Shape_1 k s s (t.length : Int) x lo H κ) (t.length : Int) (fun i => ∀ x, 0 ≤ x → x < i → ¬ (((R t x).length : Int) ≠ (t.length : Int) ∨ ∃ y, 0 ≤ y ∧ y < ((R t x).length : Int) ∧ (M t x y < 0 ∨ (t.length : Int) ≤ M t x y))) ?_ ?_ 0 (by omega) (by omega) (fun x a b => by omega)
  · intro x hx0 hx1 hi
    by_cases hbad : ((R t x).length : Int) ≠ (t.length : Int) ∨ ∃ y, 0 ≤ y ∧ y < ((R t x).length : Int) ∧ (M t x y < 0 ∨ (t.length : Int) ≤ M t x y)
    · left
      have hr4 : (4 : Int) = r := by rw [← hr, if_pos ⟨x, hx0, hx1, hbad⟩]
      refine ev_eq (fun _ k _ => semigroupref14_Shape_1_eq k) (ev_pos hx1 (ev_rdS hs hx0 hx1 fun v hv => ?_))
      rw [hl, hv.len]
      refine ev_nif (fun _ => ev_ret ⟨hr4, rfl⟩) (fun he => ?_)
      rcases hbad with hbad | ⟨y, hy0, hy1, hbad⟩
      · exact absurd he hbad
      exact semigroupref14_Shape_l2 (A := H) ht hs hx0 hx1 hv (fun _ => ⟨hr4, rfl⟩) (fun hn => absurd hbad (hn y hy0 hy1))
    · right
      refine ⟨fun z hz0 hz1 => ?_, fun H' => ?_⟩
      · by_cases hzx : z < x
        · exact hi z hz0 hzx
        · have : z = x := by omega
          rw [this]; exact hbad
      · have he : ((R t x).length : Int) = (t.length : Int) := Classical.byContradiction fun hn => hbad (.inl hn)
        refine ev_eq (fun _ k _ => semigroupref14_Shape_1_eq k) (ev_pos hx1 (ev_rdS hs hx0 hx1 fun v hv => ?_))
        rw [hl, hv.len]
        exact ev_nneg he (semigroupref14_Shape_l2 (A := H) ht hs hx0 hx1 hv (fun hy => absurd (.inr hy) hbad) (fun _ => H'))
  · intro hi
    refine ev_eq (fun _ k _ => semigroupref14_Shape_1_eq k) (ev_neg (by omega) (ev_ret ⟨?_, rfl⟩))
    rw [← hr, if_neg]
    rintro ⟨x, a, b, c⟩
    exact hi x a b c
theorem mult_failing_l3 {s : Sl} {t : List (List Int)} {H : AH} {lo : Nat} {Q : (Int × Int × Int × Bool) → AH → Prop} (ht : Tab H s t) (hs : Sq t) {x y : Int} (hx0 : 0 ≤ x) (hx1 : x < (t.length : Int)) (hy0 : 0 ≤ y) (hy1 : y < (t.length : Int))
    (hf : ∀ a, fnd (fun z => if M t (M t x y) z = M t x (M t y z) then none else some (x, y, z)) 0 t.length = some a → Q (a.1, a.2.1, a.2.2, true) H)
    (h : fnd (fun z => if M t (M t x y) z = M t x (M t y z) then none else some (x, y, z)) 0 t.length = none → Ev (fun ρ k κ => mult_failing_2 k s x (t.length : Int) x (t.length : Int) (y + 1) lo H κ) Q) :
    Ev (fun ρ k κ => mult_failing_3 k s x y (t.length : Int) x (t.length : Int) y (t.length : Int) 0 lo H κ) Q := by
  have hle := hs.le
  refine ev_fnd (f := fun z => if M t (M t x y) z = M t x (M t y z) then none else some (x, y, z)) (g := fun z ρ k κ => mult_failing_3 k s x y (t.length : Int) x (t.length : Int) y (t.length : Int) z lo H κ) (t.length : Int) ?_ 0 t.length (by omega) (by omega) ?_ ?_
  · intro z hz0 hz1 he H'
    have a1 := hs.lo x y hx0 hx1 hy0 hy1
    have a2 := hs.hi x y hx0 hx1 hy0 hy1
    have a3 := hs.lo y z hy0 hy1 hz0 hz1
    have a4 := hs.hi y z hy0 hy1 hz0 hz1
    have r1 := hs.row x hx0 hx1
    have r2 := hs.row y hy0 hy1
    have r3 := hs.row (M t x y) a1 a2
    have he : M t (M t x y) z = M t x (M t y z) := Classical.byContradiction fun hn => by rw [if_neg hn] at he; cases he
    refine ev_eq (fun _ k _ => mult_failing_3_eq k) (ev_pos hz1 (ev_rdM ht hx0 hx1 hy0 (by omega) (ev_rdM ht a1 a2 hz0 (by omega) (ev_rdS ht hx0 hx1 fun r hr => ev_rdM ht hy0 hy1 hz0 (by omega) (ev_rdI hr a3 (by omega) (ev_nneg he ?_))))))
    rw [W_add hz0 hz1 (by omega)]
    exact H'
  · intro z a hz0 hz1 he ha
    have a1 := hs.lo x y hx0 hx1 hy0 hy1
    have a2 := hs.hi x y hx0 hx1 hy0 hy1
    have a3 := hs.lo y z hy0 hy1 hz0 hz1
    have a4 := hs.hi y z hy0 hy1 hz0 hz1
    have r1 := hs.row x hx0 hx1
    have r2 := hs.row y hy0 hy1
    have r3 := hs.row (M t x y) a1 a2
    have hne : ¬ M t (M t x y) z = M t x (M t y z) := fun hn => by rw [if_pos hn] at he; cases he
    rw [if_neg hne] at he
    cases he
    exact ev_eq (fun _ k _ => mult_failing_3_eq k) (ev_pos hz1 (ev_rdM ht hx0 hx1 hy0 (by omega) (ev_rdM ht a1 a2 hz0 (by omega) (ev_rdS ht hx0 hx1 fun r hr => ev_rdM ht hy0 hy1 hz0 (by omega) (ev_rdI hr a3 (by omega) (ev_npos hne (ev_ret (hf _ ha))))))))
  · intro hn
    refine ev_eq (fun _ k _ => mult_failing_3_eq k) (ev_neg (by omega) ?_)
    rw [W_add hy0 hy1 (by omega)]
    exact h hn
theorem mult_failing_l1 {s : Sl} {t : List (List Int)} {H : AH} {lo : Nat} (ht : Tab H s t) (hs : Sq t) : Ev (fun ρ k κ => mult_failing_1 k s (t.length : Int) 0 lo H κ) (Is ((tri t).elim (0, 0, 0, false) (fun a => (a.1, a.2.1, a.2.2, true))) H) := by
  have hle := hs.le
  have hl := ht.len
  refine ev_fnd (f := fun x => fnd (fun y => fnd (fun z => if M t (M t x y) z = M t x (M t y z) then none else some (x, y, z)) 0 t.length) 0 t.length) (g := fun x ρ k κ => mult_failing_1 k s (t.length : Int) x lo H κ) (t.length : Int) ?_ 0 t.length (by omega) (by omega) ?_ ?_
  · intro x hx0 hx1 hn H'
    refine ev_eq (fun _ k _ => mult_failing_1_eq k) (ev_pos hx1 ?_)
    rw [hl]
    refine ev_fnd (f := fun y => fnd (fun z => if M t (M t x y) z = M t x (M t y z) then none else some (x, y, z)) 0 t.length) (g := fun y ρ k κ => mult_failing_2 k s x (t.length : Int) x (t.length : Int) y lo H κ) (t.length : Int) ?_ 0 t.length (by omega) (by omega) ?_ ?_
    · intro y hy0 hy1 hn2 H'
      refine ev_eq (fun _ k _ => mult_failing_2_eq k) (ev_pos hy1 ?_)
      rw [hl]
      exact mult_failing_l3 ht hs hx0 hx1 hy0 hy1 (fun a ha => by rw [hn2] at ha; cases ha) (fun _ => H')
    · intro y a _ _ _ ha; rw [hn] at ha; cases ha
    · intro _
      refine ev_eq (fun _ k _ => mult_failing_2_eq k) (ev_neg (by omega) ?_)
      rw [W_add hx0 hx1 (by omega)]
      exact H'
  · intro x a hx0 hx1 hfx hfa
    refine ev_eq (fun _ k _ => mult_failing_1_eq k) (ev_pos hx1 ?_)
    rw [hl]
    refine ev_fnd (f := fun y => fnd (fun z => if M t (M t x y) z = M t x (M t y z) then none else some (x, y, z)) 0 t.length) (g := fun y ρ k κ => mult_failing_2 k s x (t.length : Int) x (t.length : Int) y lo H κ) (t.length : Int) ?_ 0 t.length (by omega) (by omega) ?_ ?_
    · intro y hy0 hy1 hn2 H'
      refine ev_eq (fun _ k _ => mult_failing_2_eq k) (ev_pos hy1 ?_)
      rw [hl]
      exact mult_failing_l3 ht hs hx0 hx1 hy0 hy1 (fun a ha => by rw [hn2] at ha; cases ha) (fun _ => H')
    · intro y b hy0 hy1 hfy hfb
      refine ev_eq (fun _ k _ => mult_failing_2_eq k) (ev_pos hy1 ?_)
      rw [hl]
      refine mult_failing_l3 ht hs hx0 hx1 hy0 hy1 (fun c hc => ⟨?_, rfl⟩) (fun hn => by rw [hfy] at hn; cases hn)
      rw [hfy] at hc; cases hc
      rw [hfx] at hfb; cases hfb
      rw [show tri t = some a from hfa]; rfl
    · intro hn; rw [hfx] at hn; cases hn
  · intro hn
    refine ev_eq (fun _ k _ => mult_failing_1_eq k) (ev_neg (by omega) (ev_ret ⟨?_, rfl⟩))
    unfold tri
    rw [hn]
    rfl
theorem semigroupref14_Associative_l3 {s : Sl} {t : List (List Int)} {H : AH} {lo : Nat} {Q : (Int × Int × Int × Int) → AH → Prop} (ht : Tab H s t) (hs : Sq t) {x y : Int} (hx0 : 0 ≤ x) (hx1 : x < (t.length : Int)) (hy0 : 0 ≤ y) (hy1 : y < (t.length : Int))
    (hf : ∀ a, fnd (fun z => if M t (M t x y) z = M t x (M t y z) then none else some (x, y, z)) 0 t.length = some a → Q (a.1, a.2.1, a.2.2, 5) H)
    (h : fnd (fun z => if M t (M t x y) z = M t x (M t y z) then none else some (x, y, z)) 0 t.length = none → Ev (fun ρ k κ => semigroupref14_Associative_2 k s x (t.length : Int) x (t.length : Int) (y + 1) lo H κ) Q) :
    Ev (fun ρ k κ => semigroupref14_Associative_3 k s x y (t.length : Int) x (t.length : Int) y (t.length : Int) 0 lo H κ) Q := by
  have hle := hs.le
  refine ev_fnd (f := fun z => if M t (M t x y) z = M t x (M t y z) then none else some (x, y, z)) (g := fun z ρ k κ => semigroupref14_Associative_3 k s x y (t.length : Int) x (t.length : Int) y (t.length : Int) z lo H κ) (t.length : Int) ?_ 0 t.length (by omega) (by omega) ?_ ?_
  · intro z hz0 hz1 he H'
    have a1 := hs.lo x y hx0 hx1 hy0 hy1
    have a2 := hs.hi x y hx0 hx1 hy0 hy1
    have a3 := hs.lo y z hy0 hy1 hz0 hz1
    have a4 := hs.hi y z hy0 hy1 hz0 hz1
    have r1 := hs.row x hx0 hx1
    have r2 := hs.row y hy0 hy1
    have r3 := hs.row (M t x y) a1 a2
    have he : M t (M t x y) z = M t x (M t y z) := Classical.byContradiction fun hn => by rw [if_neg hn] at he; cases he
    refine ev_eq (fun _ k _ => semigroupref14_Associative_3_eq k) (ev_pos hz1 (ev_rdM ht hx0 hx1 hy0 (by omega) (ev_rdM ht a1 a2 hz0 (by omega) (ev_rdS ht hx0 hx1 fun r hr => ev_rdM ht hy0 hy1 hz0 (by omega) (ev_rdI hr a3 (by omega) (ev_nneg he ?_))))))
    rw [W_add hz0 hz1 (by omega)]
    exact H'
  · intro z a hz0 hz1 he ha
    have a1 := hs.lo x y hx0 hx1 hy0 hy1
    have a2 := hs.hi x y hx0 hx1 hy0 hy1
    have a3 := hs.lo y z hy0 hy1 hz0 hz1
    have a4 := hs.hi y z hy0 hy1 hz0 hz1
    have r1 := hs.row x hx0 hx1
    have r2 := hs.row y hy0 hy1
    have r3 := hs.row (M t x y) a1 a2
    have hne : ¬ M t (M t x y) z = M t x (M t y z) := fun hn => by rw [if_pos hn] at he; cases he
    rw [if_neg hne] at he
    cases he
    exact ev_eq (fun _ k _ => semigroupref14_Associative_3_eq k) (ev_pos hz1 (ev_rdM ht hx0 hx1 hy0 (by omega) (ev_rdM ht a1 a2 hz0 (by omega) (ev_rdS ht hx0 hx1 fun r hr => ev_rdM ht hy0 hy1 hz0 (by omega) (ev_rdI hr a3 (by omega) (ev_npos hne (ev_ret (hf _ ha))))))))
  · intro hn
    refine ev_eq (fun _ k _ => semigroupref14_Associative_3_eq k) (ev_neg (by omega) ?_)
    rw [W_add hy0 hy1 (by omega)]
    exact h hn
theorem semigroupref14_Associative_l1 {s : Sl} {t : List (List Int)} {H : AH} {lo : Nat} (ht : Tab H s t) (hs : Sq t) : Ev (fun ρ k κ => semigroupref14_Associative_1 k s (t.length : Int) 0 lo H κ) (Is ((tri t).elim (0, 0, 0, 0) (fun a => (a.1, a.2.1, a.2.2, 5))) H) := by
  have hle := hs.le
  have hl := ht.len
  refine ev_fnd (f := fun x => fnd (fun y => fnd (fun z => if M t (M t x y) z = M t x (M t y z) then none else some (x, y, z)) 0 t.length) 0 t.length) (g := fun x ρ k κ => semigroupref14_Associative_1 k s (t.length : Int) x lo H κ) (t.length : Int) ?_ 0 t.length (by omega) (by omega) ?_ ?_
  · intro x hx0 hx1 hn H'
    refine ev_eq (fun _ k _ => semigroupref14_Associative_1_eq k) (ev_pos hx1 ?_)
    rw [hl]
    refine ev_fnd (f := fun y => fnd (fun z => if M t (M t x y) z = M t x (M t y z) then none else some (x, y, z)) 0 t.length) (g := fun y ρ k κ => semigroupref14_Associative_2 k s x (t.length : Int) x (t.length : Int) y lo H κ) (t.length : Int) ?_ 0 t.length (by omega) (by omega) ?_ ?_
    · intro y hy0 hy1 hn2 H'
      refine ev_eq (fun _ k _ => semigroupref14_Associative_2_eq k) (ev_pos hy1 ?_)
      rw [hl]
      exact semigroupref14_Associative_l3 ht hs hx0 hx1 hy0 hy1 (fun a ha => by rw [hn2] at ha; cases ha) (fun _ => H')
    · intro y a _ _ _ ha; rw [hn] at ha; cases ha
    · intro _
      refine ev_eq (fun _ k _ => semigroupref14_Associative_2_eq k) (ev_neg (by omega) ?_)
      rw [W_add hx0 hx1 (by omega)]
      exact H'
  · intro x a hx0 hx1 hfx hfa
    refine ev_eq (fun _ k _ => semigroupref14_Associative_1_eq k) (ev_pos hx1 ?_)
    rw [hl]
    refine ev_fnd (f := fun y => fnd (fun z => if M t (M t x y) z = M t x (M t y z) then none else some (x, y, z)) 0 t.length) (g := fun y ρ k κ => semigroupref14_Associative_2 k s x (t.length : Int) x (t.length : Int) y lo H κ) (t.length : Int) ?_ 0 t.length (by omega) (by omega) ?_ ?_
    · intro y hy0 hy1 hn2 H'
      refine ev_eq (fun _ k _ => semigroupref14_Associative_2_eq k) (ev_pos hy1 ?_)
      rw [hl]
      exact semigroupref14_Associative_l3 ht hs hx0 hx1 hy0 hy1 (fun a ha => by rw [hn2] at ha; cases ha) (fun _ => H')
    · intro y b hy0 hy1 hfy hfb
      refine ev_eq (fun _ k _ => semigroupref14_Associative_2_eq k) (ev_pos hy1 ?_)
      rw [hl]
      refine semigroupref14_Associative_l3 ht hs hx0 hx1 hy0 hy1 (fun c hc => ⟨?_, rfl⟩) (fun hn => by rw [hfy] at hn; cases hn)
      rw [hfy] at hc; cases hc
      rw [hfx] at hfb; cases hfb
      rw [show tri t = some a from hfa]; rfl
    · intro hn; rw [hfx] at hn; cases hn
  · intro hn
    refine ev_eq (fun _ k _ => semigroupref14_Associative_1_eq k) (ev_neg (by omega) (ev_ret ⟨?_, rfl⟩))
    unfold tri
    rw [hn]
    rfl
theorem mult_Validate_ev {s : Sl} {t : List (List Int)} {H : AH} {lo : Nat} (ht : In2 t) (hs : Tab H s t) : Ev (fun ρ k κ => mult_Validate k s lo H κ) (Is (val t) H) := by
  unfold val
  refine ev_eq (fun _ k _ => mult_Validate_eq k) (ev_is (mult_shape_ev ht hs) ?_)
  by_cases h : shp t = 0
  · rw [if_pos h]
    refine ev_nneg h (ev_is (F' := fun ρ k κ => mult_failing k s H.length H κ) (ev_eq (fun _ k _ => mult_failing_eq k) (by rw [hs.len]; exact mult_failing_l1 hs (shp_sq.1 h))) ?_)
    cases tri t with
    | none => exact ev_f rfl (ev_ret ⟨by simp, rfl⟩)
    | some a => exact ev_t rfl (ev_ret ⟨by simp, rfl⟩)
  · rw [if_neg h]
    exact ev_npos h (ev_ret ⟨rfl, rfl⟩)
/-- What Associative answers. -/
noncomputable def asc4 (t : List (List Int)) : Int × Int × Int × Int := if shp t = 0 then ((tri t).elim (0, 0, 0, 0) (fun a => (a.1, a.2.1, a.2.2, 5))) else (0, 0, 0, shp t)
theorem asc4_val (t : List (List Int)) : (asc4 t).2.2.2 = val t := by
  unfold asc4 val
  split
  · cases tri t <;> rfl
  · rfl
theorem semigroupref14_Associative_ev {s : Sl} {t : List (List Int)} {H : AH} {lo : Nat} (ht : In2 t) (hs : Tab H s t) : Ev (fun ρ k κ => semigroupref14_Associative k s lo H κ) (Is (asc4 t) H) := by
  unfold asc4
  refine ev_eq (fun _ k _ => semigroupref14_Associative_eq k) (ev_is (semigroupref14_Shape_ev ht hs) ?_)
  by_cases h : shp t = 0
  · rw [if_pos h]
    refine ev_nneg h ?_
    rw [hs.len]
    exact semigroupref14_Associative_l1 hs (shp_sq.1 h)
  · rw [if_neg h]
    exact ev_npos h (ev_ret ⟨rfl, rfl⟩)
theorem semigroupref14_Validate_ev {s : Sl} {t : List (List Int)} {H : AH} {lo : Nat} (ht : In2 t) (hs : Tab H s t) : Ev (fun ρ k κ => semigroupref14_Validate k s lo H κ) (Is (val t) H) :=
  ev_eq (fun _ k _ => semigroupref14_Validate_eq k) (ev_is (semigroupref14_Associative_ev ht hs) (ev_ret ⟨asc4_val t, rfl⟩))
theorem semigroupref14_Valid_ev {s : Sl} {t : List (List Int)} {H : AH} {lo : Nat} (ht : In2 t) (hs : Tab H s t) : Ev (fun ρ k κ => semigroupref14_Valid k s lo H κ) (Is (decide (val t = 0)) H) :=
  ev_eq (fun _ k _ => semigroupref14_Valid_eq k) (ev_is (semigroupref14_Validate_ev ht hs) (ev_ret ⟨rfl, rfl⟩))
theorem semigroupref14_In_ev {s r : Sl} {t : List (List Int)} {l : List Int} {H : AH} {lo : Nat} (ht : s.len = t.length) (hr : Row H r l) (hl : l.length ≤ 9223372036854775807) {b : Bool} (hb : b = true ↔ El t l) : Ev (fun ρ k κ => semigroupref14_In k s r lo H κ) (Is b H) := by
  refine ev_eq (fun _ k _ => semigroupref14_In_eq k) ?_
  rw [hr.len]
  refine ev_for0 (g := fun i ρ k κ => semigroupref14_In_1 k s r (l.length : Int) i lo H κ) (l.length : Int) (fun j => ∀ i, 0 ≤ i → i < j → 0 ≤ rd l i ∧ rd l i < (t.length : Int)) ?_ ?_ 0 (by omega) (by omega) (fun i a b => by omega)
  · intro i hi0 hi1 hi
    by_cases hp : 0 ≤ rd l i ∧ rd l i < (t.length : Int)
    · right
      refine ⟨fun j j0 j1 => ?_, fun H => ?_⟩
      · by_cases hj : j = i
        · rw [hj]; exact hp
        · exact hi j j0 (by omega)
      · refine ev_eq (fun _ k _ => semigroupref14_In_1_eq k) (ev_pos hi1 (ev_rdI hr hi0 hi1 (ev_orP (fun _ => ev_ret ⟨rfl, rfl⟩) (ev_neg (by rw [ht]; omega) ?_))))
        rw [W_add hi0 hi1 (by omega)]
        exact H
    · left
      have hf : b = false := by
        cases b with
        | false => rfl
        | true => exact absurd (hb.1 rfl _ (rd_mem hi0 hi1)) hp
      exact ev_eq (fun _ k _ => semigroupref14_In_1_eq k) (ev_pos hi1 (ev_rdI hr hi0 hi1 (ev_orP (fun _ => ev_ret ⟨rfl, rfl⟩) (ev_pos (by rw [ht]; omega) (ev_ret ⟨hf.symm, rfl⟩)))))
  · intro hi
    exact ev_eq (fun _ k _ => semigroupref14_In_1_eq k) (ev_neg (by omega) (ev_ret ⟨(hb.2 (rd_all.2 hi)).symm, rfl⟩))
end Go.Ab
