/- What the printed functions Light, Set, Members and Generated (of the reference) answer. No condition but that a table comes in. -/
import Derived.Test.YtlhckcldeojfmaaLists
import Derived.Test.YtlhckcldeojfmaaF14b
import Derived.Test.YtlhckcldeojfmaaPAllx10
import Derived.Test.YtlhckcldeojfmaaPAllx11
import Derived.Test.YtlhckcldeojfmaaPAllx12
namespace Go.Proofs.Ytlhckcldeojfmaa.F
open Go.RowKit Go.Proofs.YtlhckcldeojfmaaW.PrintWords Go.Proofs.Ytlhckcldeojfmaa.B Go.Proofs.Ytlhckcldeojfmaa.PAll
set_option linter.unusedVariables false
set_option linter.unusedSimpArgs false
open Classical

/-- Light's test. -/
def LightOk (t : List (List Int)) (l : List Int) : Prop := ∀ g ∈ l, ∀ x y : Int, 0 ≤ x → x < (t.length : Int) → 0 ≤ y → y < (t.length : Int) → M t (M t x g) y = M t x (M t g y)
theorem mult_Light_l0 {t : List (List Int)} (hs : Sq t) {l : List Int} (hl : l.length ≤ 9223372036854775807) (hE : El t l) : Ev (fun k => mult_Light.l0 k t l (l.length : Int) 0) (decide (LightOk t l)) := by
  have hle := hs.le
  refine ev_for0 (g := fun i k => mult_Light.l0 k t l (l.length : Int) i) (l.length : Int) (fun i => ∀ j, 0 ≤ j → j < i → ∀ x y : Int, 0 ≤ x → x < (t.length : Int) → 0 ≤ y → y < (t.length : Int) → M t (M t x (rd l j)) y = M t x (M t (rd l j) y)) ?_ ?_ 0 (by omega) (by omega) (fun j a b => by omega)
  · intro i hi0 hi1 hi
    have hg := hE _ (rd_mem hi0 hi1)
    generalize hge : rd l i = g at hg
    have inner : ∀ r : Bool, ((∃ x y : Int, 0 ≤ x ∧ x < (t.length : Int) ∧ 0 ≤ y ∧ y < (t.length : Int) ∧ M t (M t x g) y ≠ M t x (M t g y)) → false = r) →
        ((∀ x y : Int, 0 ≤ x → x < (t.length : Int) → 0 ≤ y → y < (t.length : Int) → M t (M t x g) y = M t x (M t g y)) → Ev (fun k => mult_Light.l0 k t l (l.length : Int) (i + 1)) r) → Ev (fun k => mult_Light.l0 k t l (l.length : Int) i) r := by
      intro r hbad hgood
      apply ev_succ
      simp only [mult_Light.l0]
      rw [hge]
      refine ev_pos hi1 (ev_pos hi0 (ev_pos hi1 ?_))
      refine ev_for0 (g := fun x k => mult_Light.l1 k t g l (l.length : Int) i (t.length : Int) x) (t.length : Int) (fun x => ∀ x' y : Int, 0 ≤ x' → x' < x → 0 ≤ y → y < (t.length : Int) → M t (M t x' g) y = M t x' (M t g y)) ?_ ?_ 0 (by omega) (by omega) (fun j _ a b => by omega)
      · intro x hx0 hx1 hx
        have a1 := hs.lo x g hx0 hx1 hg.1 hg.2
        have a2 := hs.hi x g hx0 hx1 hg.1 hg.2
        have r1 := hs.row x hx0 hx1
        have r2 := hs.row g hg.1 hg.2
        have r3 := hs.row _ a1 a2
        by_cases hall : ∀ y : Int, 0 ≤ y → y < (t.length : Int) → M t (M t x g) y = M t x (M t g y)
        · right
          refine ⟨fun x' y a b c d => ?_, fun H => ?_⟩
          · by_cases hxx : x' = x
            · rw [hxx]; exact hall y c d
            · exact hx x' y a (by omega) c d
          · apply ev_succ
            simp only [mult_Light.l1]
            refine ev_pos hx1 ?_
            refine ev_for0 (g := fun y k => mult_Light.l2 k t g x l (l.length : Int) i (t.length : Int) x (t.length : Int) y) (t.length : Int) (fun _ => True) ?_ ?_ 0 (by omega) (by omega) trivial
            · intro y hy0 hy1 _
              right
              refine ⟨trivial, fun H2 => ?_⟩
              have a3 := hs.lo g y hg.1 hg.2 hy0 hy1
              have a4 := hs.hi g y hg.1 hg.2 hy0 hy1
              apply ev_succ
              simp only [mult_Light.l2, rdR, rdM]
              rw [wrap_add hy0 hy1 (by omega)]
              exact ev_pos hy1 (ev_pos hx0 (ev_pos hx1 (ev_pos hg.1 (ev_pos (by omega) (ev_pos a1 (ev_pos a2 (ev_pos hy0 (ev_pos (by omega) (ev_pos hg.2 (ev_pos (by omega) (ev_pos a3 (ev_pos (by omega) (ev_pos (hall y hy0 hy1) H2)))))))))))))
            · intro _
              apply ev_succ
              simp only [mult_Light.l2]
              rw [wrap_add hx0 hx1 (by omega)]
              exact ev_neg (by omega) H
        · left
          obtain ⟨y0, hy⟩ := Classical.not_forall.1 hall
          have hy00 : 0 ≤ y0 := Classical.byContradiction fun h => hy (fun a => absurd a h)
          have hy01 : y0 < (t.length : Int) := Classical.byContradiction fun h => hy (fun _ a => absurd a h)
          have hyn : M t (M t x g) y0 ≠ M t x (M t g y0) := fun h => hy (fun _ _ => h)
          have hr := hbad ⟨x, y0, hx0, hx1, hy00, hy01, hyn⟩
          apply ev_succ
          simp only [mult_Light.l1]
          refine ev_pos hx1 ?_
          refine ev_for0 (g := fun y k => mult_Light.l2 k t g x l (l.length : Int) i (t.length : Int) x (t.length : Int) y) (t.length : Int) (fun y => y ≤ y0) ?_ (fun h => by omega) 0 (by omega) (by omega) hy00
          intro y hy0 hy1 hyy
          have a3 := hs.lo g y hg.1 hg.2 hy0 hy1
          have a4 := hs.hi g y hg.1 hg.2 hy0 hy1
          by_cases he : M t (M t x g) y = M t x (M t g y)
          · right
            refine ⟨?_, fun H2 => ?_⟩
            · by_cases hyq : y = y0
              · rw [hyq] at he; exact absurd he hyn
              · omega
            · apply ev_succ
              simp only [mult_Light.l2, rdR, rdM]
              rw [wrap_add hy0 hy1 (by omega)]
              exact ev_pos hy1 (ev_pos hx0 (ev_pos hx1 (ev_pos hg.1 (ev_pos (by omega) (ev_pos a1 (ev_pos a2 (ev_pos hy0 (ev_pos (by omega) (ev_pos hg.2 (ev_pos (by omega) (ev_pos a3 (ev_pos (by omega) (ev_pos he H2)))))))))))))
          · left
            apply ev_succ
            simp only [mult_Light.l2, rdR, rdM]
            exact ev_pos hy1 (ev_pos hx0 (ev_pos hx1 (ev_pos hg.1 (ev_pos (by omega) (ev_pos a1 (ev_pos a2 (ev_pos hy0 (ev_pos (by omega) (ev_pos hg.2 (ev_pos (by omega) (ev_pos a3 (ev_pos (by omega) (ev_neg he (ev_some hr))))))))))))))
      · intro hx
        apply ev_succ
        simp only [mult_Light.l1]
        rw [wrap_add hi0 hi1 (by omega)]
        exact ev_neg (by omega) (hgood (fun x y a b c d => hx x y a b c d))
    by_cases hall : ∀ x y : Int, 0 ≤ x → x < (t.length : Int) → 0 ≤ y → y < (t.length : Int) → M t (M t x g) y = M t x (M t g y)
    · right
      refine ⟨fun j j0 j1 => ?_, fun H => inner _ (fun ⟨x, y, a, b, c, d, e⟩ => absurd (hall x y a b c d) e) (fun _ => H)⟩
      by_cases hj : j = i
      · rw [hj, hge]; exact hall
      · exact hi j j0 (by omega)
    · left
      refine inner _ (fun _ => ?_) (fun h => absurd h hall)
      have : ¬ LightOk t l := fun h => hall (h g (hge ▸ rd_mem hi0 hi1))
      simp [this]
  · intro hi
    apply ev_succ
    simp only [mult_Light.l0]
    refine ev_neg (by omega) (ev_some ?_)
    have : LightOk t l := by
      unfold LightOk
      rw [rd_all (P := fun g => ∀ x y : Int, 0 ≤ x → x < (t.length : Int) → 0 ≤ y → y < (t.length : Int) → M t (M t x g) y = M t x (M t g y))]
      exact hi
    simp [this]

theorem semigroupref14_Light_l0 {t : List (List Int)} (hs : Sq t) {l : List Int} (hl : l.length ≤ 9223372036854775807) (hE : El t l) : Ev (fun k => semigroupref14_Light.l0 k t l (l.length : Int) 0) (decide (LightOk t l)) := by
  have hle := hs.le
  refine ev_for0 (g := fun i k => semigroupref14_Light.l0 k t l (l.length : Int) i) (l.length : Int) (fun i => ∀ j, 0 ≤ j → j < i → ∀ x y : Int, 0 ≤ x → x < (t.length : Int) → 0 ≤ y → y < (t.length : Int) → M t (M t x (rd l j)) y = M t x (M t (rd l j) y)) ?_ ?_ 0 (by omega) (by omega) (fun j a b => by omega)
  · intro i hi0 hi1 hi
    have hg := hE _ (rd_mem hi0 hi1)
    generalize hge : rd l i = g at hg
    have inner : ∀ r : Bool, ((∃ x y : Int, 0 ≤ x ∧ x < (t.length : Int) ∧ 0 ≤ y ∧ y < (t.length : Int) ∧ M t (M t x g) y ≠ M t x (M t g y)) → false = r) →
        ((∀ x y : Int, 0 ≤ x → x < (t.length : Int) → 0 ≤ y → y < (t.length : Int) → M t (M t x g) y = M t x (M t g y)) → Ev (fun k => semigroupref14_Light.l0 k t l (l.length : Int) (i + 1)) r) → Ev (fun k => semigroupref14_Light.l0 k t l (l.length : Int) i) r := by
      intro r hbad hgood
      apply ev_succ
      simp only [semigroupref14_Light.l0]
      rw [hge]
      refine ev_pos hi1 (ev_pos hi0 (ev_pos hi1 ?_))
      refine ev_for0 (g := fun x k => semigroupref14_Light.l1 k t g l (l.length : Int) i (t.length : Int) x) (t.length : Int) (fun x => ∀ x' y : Int, 0 ≤ x' → x' < x → 0 ≤ y → y < (t.length : Int) → M t (M t x' g) y = M t x' (M t g y)) ?_ ?_ 0 (by omega) (by omega) (fun j _ a b => by omega)
      · intro x hx0 hx1 hx
        have a1 := hs.lo x g hx0 hx1 hg.1 hg.2
        have a2 := hs.hi x g hx0 hx1 hg.1 hg.2
        have r1 := hs.row x hx0 hx1
        have r2 := hs.row g hg.1 hg.2
        have r3 := hs.row _ a1 a2
        by_cases hall : ∀ y : Int, 0 ≤ y → y < (t.length : Int) → M t (M t x g) y = M t x (M t g y)
        · right
          refine ⟨fun x' y a b c d => ?_, fun H => ?_⟩
          · by_cases hxx : x' = x
            · rw [hxx]; exact hall y c d
            · exact hx x' y a (by omega) c d
          · apply ev_succ
            simp only [semigroupref14_Light.l1]
            refine ev_pos hx1 ?_
            refine ev_for0 (g := fun y k => semigroupref14_Light.l2 k t g x l (l.length : Int) i (t.length : Int) x (t.length : Int) y) (t.length : Int) (fun _ => True) ?_ ?_ 0 (by omega) (by omega) trivial
            · intro y hy0 hy1 _
              right
              refine ⟨trivial, fun H2 => ?_⟩
              have a3 := hs.lo g y hg.1 hg.2 hy0 hy1
              have a4 := hs.hi g y hg.1 hg.2 hy0 hy1
              apply ev_succ
              simp only [semigroupref14_Light.l2, rdR, rdM]
              rw [wrap_add hy0 hy1 (by omega)]
              exact ev_pos hy1 (ev_pos hx0 (ev_pos hx1 (ev_pos hg.1 (ev_pos (by omega) (ev_pos a1 (ev_pos a2 (ev_pos hy0 (ev_pos (by omega) (ev_pos hg.2 (ev_pos (by omega) (ev_pos a3 (ev_pos (by omega) (ev_pos (hall y hy0 hy1) H2)))))))))))))
            · intro _
              apply ev_succ
              simp only [semigroupref14_Light.l2]
              rw [wrap_add hx0 hx1 (by omega)]
              exact ev_neg (by omega) H
        · left
          obtain ⟨y0, hy⟩ := Classical.not_forall.1 hall
          have hy00 : 0 ≤ y0 := Classical.byContradiction fun h => hy (fun a => absurd a h)
          have hy01 : y0 < (t.length : Int) := Classical.byContradiction fun h => hy (fun _ a => absurd a h)
          have hyn : M t (M t x g) y0 ≠ M t x (M t g y0) := fun h => hy (fun _ _ => h)
          have hr := hbad ⟨x, y0, hx0, hx1, hy00, hy01, hyn⟩
          apply ev_succ
          simp only [semigroupref14_Light.l1]
          refine ev_pos hx1 ?_
          refine ev_for0 (g := fun y k => semigroupref14_Light.l2 k t g x l (l.length : Int) i (t.length : Int) x (t.length : Int) y) (t.length : Int) (fun y => y ≤ y0) ?_ (fun h => by omega) 0 (by omega) (by omega) hy00
          intro y hy0 hy1 hyy
          have a3 := hs.lo g y hg.1 hg.2 hy0 hy1
          have a4 := hs.hi g y hg.1 hg.2 hy0 hy1
          by_cases he : M t (M t x g) y = M t x (M t g y)
          · right
            refine ⟨?_, fun H2 => ?_⟩
            · by_cases hyq : y = y0
              · rw [hyq] at he; exact absurd he hyn
              · omega
            · apply ev_succ
              simp only [semigroupref14_Light.l2, rdR, rdM]
              rw [wrap_add hy0 hy1 (by omega)]
              exact ev_pos hy1 (ev_pos hx0 (ev_pos hx1 (ev_pos hg.1 (ev_pos (by omega) (ev_pos a1 (ev_pos a2 (ev_pos hy0 (ev_pos (by omega) (ev_pos hg.2 (ev_pos (by omega) (ev_pos a3 (ev_pos (by omega) (ev_pos he H2)))))))))))))
          · left
            apply ev_succ
            simp only [semigroupref14_Light.l2, rdR, rdM]
            exact ev_pos hy1 (ev_pos hx0 (ev_pos hx1 (ev_pos hg.1 (ev_pos (by omega) (ev_pos a1 (ev_pos a2 (ev_pos hy0 (ev_pos (by omega) (ev_pos hg.2 (ev_pos (by omega) (ev_pos a3 (ev_pos (by omega) (ev_neg he (ev_some hr))))))))))))))
      · intro hx
        apply ev_succ
        simp only [semigroupref14_Light.l1]
        rw [wrap_add hi0 hi1 (by omega)]
        exact ev_neg (by omega) (hgood (fun x y a b c d => hx x y a b c d))
    by_cases hall : ∀ x y : Int, 0 ≤ x → x < (t.length : Int) → 0 ≤ y → y < (t.length : Int) → M t (M t x g) y = M t x (M t g y)
    · right
      refine ⟨fun j j0 j1 => ?_, fun H => inner _ (fun ⟨x, y, a, b, c, d, e⟩ => absurd (hall x y a b c d) e) (fun _ => H)⟩
      by_cases hj : j = i
      · rw [hj, hge]; exact hall
      · exact hi j j0 (by omega)
    · left
      refine inner _ (fun _ => ?_) (fun h => absurd h hall)
      have : ¬ LightOk t l := fun h => hall (h g (hge ▸ rd_mem hi0 hi1))
      simp [this]
  · intro hi
    apply ev_succ
    simp only [semigroupref14_Light.l0]
    refine ev_neg (by omega) (ev_some ?_)
    have : LightOk t l := by
      unfold LightOk
      rw [rd_all (P := fun g => ∀ x y : Int, 0 ≤ x → x < (t.length : Int) → 0 ≤ y → y < (t.length : Int) → M t (M t x g) y = M t x (M t g y))]
      exact hi
    simp [this]
theorem mult_Light_ev {t : List (List Int)} (ht : In2 t) {l : List Int} (hl : l.length ≤ 9223372036854775807) : Ev (fun k => mult_Light.f k t l) (decide (Sq t ∧ El t l ∧ LightOk t l)) := by
  have no : ¬ (Sq t ∧ El t l ∧ LightOk t l) → Ev (fun k => mult_Light.j0 k t l true) (decide (Sq t ∧ El t l ∧ LightOk t l)) := by
    intro h
    apply ev_succ
    simp only [mult_Light.j0]
    exact ev_pos (by simp) (ev_some (by simp [h]))
  unfold mult_Light.f
  refine ev_call (mult_shape_ev ht) (ev_ite (fun h => ?_) (fun h => no (fun hh => h (shp_sq.2 hh.1))))
  have hs := shp_sq.1 h
  refine ev_call (mult_elements_ev hl) ?_
  by_cases hE : El t l
  · simp only [hE, decide_true, Bool.not_true]
    apply ev_succ
    simp only [mult_Light.j0]
    refine ev_neg (by simp) ?_
    have := mult_Light_l0 hs hl hE
    simpa [hs, hE] using this
  · simp only [hE, decide_false, Bool.not_false]
    have := no (fun hh => hE hh.2.1)
    simpa [hE] using this
theorem semigroupref14_Light_ev {t : List (List Int)} (ht : In2 t) {l : List Int} (hl : l.length ≤ 9223372036854775807) : Ev (fun k => semigroupref14_Light.f k t l) (decide (Sq t ∧ El t l ∧ LightOk t l)) := by
  have no : ¬ (Sq t ∧ El t l ∧ LightOk t l) → Ev (fun k => semigroupref14_Light.j0 k t l true) (decide (Sq t ∧ El t l ∧ LightOk t l)) := by
    intro h
    apply ev_succ
    simp only [semigroupref14_Light.j0]
    exact ev_pos (by simp) (ev_some (by simp [h]))
  unfold semigroupref14_Light.f
  refine ev_call (semigroupref14_Shape_ev ht) (ev_ite (fun h => ?_) (fun h => no (fun hh => h (shp_sq.2 hh.1))))
  have hs := shp_sq.1 h
  refine ev_call (semigroupref14_In_ev hl) ?_
  by_cases hE : El t l
  · simp only [hE, decide_true, Bool.not_true]
    apply ev_succ
    simp only [semigroupref14_Light.j0]
    refine ev_neg (by simp) ?_
    have := semigroupref14_Light_l0 hs hl hE
    simpa [hs, hE] using this
  · simp only [hE, decide_false, Bool.not_false]
    have := no (fun hh => hE hh.2.1)
    simpa [hE] using this

/-- The marks of a list. -/
def marks (l : List Int) (n : Nat) (b : List Bool) : Prop := b.length = n ∧ ∀ x : Int, 0 ≤ x → x < n → (rdOf false b x = true ↔ x ∈ l)
theorem rd_mem_iff {l : List Int} {x : Int} : x ∈ l ↔ ∃ i, 0 ≤ i ∧ i < (l.length : Int) ∧ rd l i = x := by
  constructor
  · intro h
    obtain ⟨i, hi, rfl⟩ := List.getElem_of_mem h
    refine ⟨i, by omega, by omega, ?_⟩
    unfold rd
    rw [List.getD_eq_getElem?_getD]
    simp [hi]
  · rintro ⟨i, h0, h1, rfl⟩
    exact rd_mem h0 h1
theorem semigroupref03_Set_ev {l : List Int} {n : Nat} (hl : l.length ≤ 9223372036854775807) (hn : n ≤ 281474976710656) : ∃ b, marks l n b ∧ Ev (fun k => semigroupref03_Set.f k l (n : Int)) b := by
  have key : ∀ (m : Nat) (i : Nat) (b : List Bool), i + m = l.length → b.length = n → (∀ x : Int, 0 ≤ x → x < n → (rdOf false b x = true ↔ ∃ j, 0 ≤ j ∧ j < (i : Int) ∧ rd l j = x)) → ∃ b', marks l n b' ∧ Ev (fun k => semigroupref03_Set.l0 k (n : Int) b l (l.length : Int) (i : Int)) b' := by
    intro m
    induction m with
    | zero =>
      intro i b hi hb hm
      refine ⟨b, ⟨hb, fun x x0 x1 => ?_⟩, ?_⟩
      · rw [hm x x0 x1, rd_mem_iff, show i = l.length by omega]
      · apply ev_succ
        simp only [semigroupref03_Set.l0]
        exact ev_neg (by omega) (ev_some rfl)
    | succ m ih =>
      intro i b hi hb hm
      by_cases hin : 0 ≤ rd l i ∧ rd l i < n
      · have hst : ∀ x : Int, 0 ≤ x → x < n → (rdOf false (b.set (rd l i).toNat true) x = true ↔ ∃ j, 0 ≤ j ∧ j < ((i + 1 : Nat) : Int) ∧ rd l j = x) := by
          intro x x0 x1
          rw [rb_set hin.1 (by omega) x0]
          by_cases hx : x = rd l i
          · rw [if_pos hx]
            exact ⟨fun _ => ⟨i, by omega, by omega, hx.symm⟩, fun _ => rfl⟩
          · rw [if_neg hx, hm x x0 x1]
            constructor
            · rintro ⟨j, j0, j1, hj⟩; exact ⟨j, j0, by omega, hj⟩
            · rintro ⟨j, j0, j1, hj⟩
              have hji : j ≠ i := fun hji => hx (by rw [← hj, hji])
              exact ⟨j, j0, by omega, hj⟩
        obtain ⟨b', h1, h2⟩ := ih (i + 1) (b.set (rd l i).toNat true) (by omega) (by simpa using hb) hst
        refine ⟨b', h1, ?_⟩
        apply ev_succ
        simp only [semigroupref03_Set.l0]
        rw [wrap_in (by omega) (by omega)]
        exact ev_pos (by omega) (ev_pos (by omega) (ev_pos (by omega) (ev_pos hin.1 (ev_pos hin.2 (ev_pos hin.1 (ev_pos (by omega) h2))))))
      · have hst : ∀ x : Int, 0 ≤ x → x < n → (rdOf false b x = true ↔ ∃ j, 0 ≤ j ∧ j < ((i + 1 : Nat) : Int) ∧ rd l j = x) := by
          intro x x0 x1
          rw [hm x x0 x1]
          constructor
          · rintro ⟨j, j0, j1, hj⟩; exact ⟨j, j0, by omega, hj⟩
          · rintro ⟨j, j0, j1, hj⟩
            have hji : j ≠ i := fun hji => hin (by rw [← hji, hj]; exact ⟨x0, x1⟩)
            exact ⟨j, j0, by omega, hj⟩
        obtain ⟨b', h1, h2⟩ := ih (i + 1) b (by omega) hb hst
        refine ⟨b', h1, ?_⟩
        apply ev_succ
        simp only [semigroupref03_Set.l0]
        rw [wrap_in (by omega) (by omega)]
        exact ev_pos (by omega) (ev_pos (by omega) (ev_pos (by omega) (ev_ite (fun ha => ev_neg (fun hb => hin ⟨ha, hb⟩) h2) (fun _ => h2))))
  obtain ⟨b, h1, h2⟩ := key l.length 0 (List.replicate n false) (by omega) (by simp) (fun x x0 x1 => by
    rw [rb_rep x0 x1]
    constructor
    · intro h; cases h
    · rintro ⟨j, j0, j1, _⟩; omega)
  refine ⟨b, h1, ?_⟩
  unfold semigroupref03_Set.f
  exact ev_pos (by omega) (ev_pos (by omega) h2)
theorem semigroupref03_Members_ev {b : List Bool} (hb : b.length ≤ 17592186044416) : Ev (fun k => semigroupref03_Members.f k b) (sel (fun x => rdOf false b x = true) 0 b.length) := by
  unfold semigroupref03_Members.f
  refine ev_sel (g := fun x l k => semigroupref03_Members.l0 k l b (b.length : Int) x) (b.length : Int) (fun x => rdOf false b x = true) ?_ ?_ b.length rfl ?_
  · intro x l hx0 hx1 hl hp H
    apply ev_succ
    simp only [semigroupref03_Members.l0]
    rw [wrap_in (by omega) (by omega)]
    exact ev_pos hx1 (ev_pos hx0 (ev_pos hx1 (ev_pos hp (ev_pos (by omega) H))))
  · intro x l hx0 hx1 hp H
    apply ev_succ
    simp only [semigroupref03_Members.l0]
    rw [wrap_in (by omega) (by omega)]
    exact ev_pos hx1 (ev_pos hx0 (ev_pos hx1 (ev_neg hp H)))
  · apply ev_succ
    simp only [semigroupref03_Members.l0]
    exact ev_neg (by omega) (ev_some rfl)

/-- Generated by any products. -/
inductive Cl (t : List (List Int)) (l : List Int) : Int → Prop
  | base {x : Int} : x ∈ l → 0 ≤ x → x < (t.length : Int) → Cl t l x
  | mul {x y : Int} : Cl t l x → Cl t l y → Cl t l (M t x y)
theorem Cl.el {t : List (List Int)} (hs : Sq t) {l : List Int} {x : Int} (h : Cl t l x) : 0 ≤ x ∧ x < (t.length : Int) := by
  induction h with
  | base _ a b => exact ⟨a, b⟩
  | mul _ _ i j => exact ⟨hs.lo _ _ i.1 i.2 j.1 j.2, hs.hi _ _ i.1 i.2 j.1 j.2⟩
/-- How many are not marked. -/
def cntF (b : List Bool) : Nat := b.count false
theorem cntF_set {b : List Bool} {i : Int} (h0 : 0 ≤ i) (h1 : i < (b.length : Int)) (h : rdOf false b i = false) : cntF (b.set i.toNat true) < cntF b := by
  have hi : i.toNat < b.length := by omega
  have h' : b[i.toNat] = false := by
    unfold rdOf at h
    rw [List.getD_eq_getElem?_getD] at h
    simpa [hi] using h
  generalize i.toNat = j at hi h'
  clear h h0 h1
  unfold cntF
  induction b generalizing j with
  | nil => simp at hi
  | cons a b ih =>
    cases j with
    | zero =>
      simp at h'
      subst h'
      simp
    | succ j =>
      simp only [List.set_cons_succ, List.count_cons]
      have := ih j (by simpa using hi) (by simpa using h')
      omega
theorem semigroupref14_Generated_ev {t : List (List Int)} (hs : Sq t) {l : List Int} (hl : l.length ≤ 9223372036854775807) : Ev (fun k => semigroupref14_Generated.f k t l) (sel (Cl t l) 0 t.length) := by
  have hle := hs.le
  obtain ⟨b, ⟨hb, hm⟩, hset⟩ := semigroupref03_Set_ev (l := l) (n := t.length) hl (by omega)
  unfold semigroupref14_Generated.f
  refine ev_call hset ?_
  -- a loop from good marks
  have key : ∀ (c : Nat) (b : List Bool), cntF b ≤ c → b.length = t.length → (∀ x : Int, 0 ≤ x → x < t.length → rdOf false b x = true → Cl t l x) → (∀ x : Int, 0 ≤ x → x < t.length → x ∈ l → rdOf false b x = true) →
      Ev (fun k => semigroupref14_Generated.l0 k t b true) (sel (Cl t l) 0 t.length) := by
    intro c
    induction c using Nat.strongRecOn with
    | _ c ih =>
    intro b0 hc hb hgood hgens
    apply ev_succ
    simp only [semigroupref14_Generated.l0]
    refine ev_pos (by simp) ?_
    -- the pass
    have pass : ∀ r, (∀ (b : List Bool) (ch : Bool), b.length = t.length → (∀ x : Int, 0 ≤ x → x < t.length → rdOf false b x = true → Cl t l x) → (∀ x : Int, 0 ≤ x → x < t.length → x ∈ l → rdOf false b x = true) →
        (ch = true → cntF b < cntF b0) → (ch = false → ∀ x y : Int, 0 ≤ x → x < t.length → 0 ≤ y → y < t.length → rdOf false b x = true → rdOf false b y = true → rdOf false b (M t x y) = true) → Ev (fun k => semigroupref14_Generated.l0 k t b ch) r) →
        Ev (fun k => semigroupref14_Generated.l1 k t b0 false (t.length : Int) 0) r := by
      intro r hend
      refine ev_for (α := List Bool × Bool) (g := fun x s k => semigroupref14_Generated.l1 k t s.1 s.2 (t.length : Int) x) (t.length : Int)
        (fun x s => s.1.length = t.length ∧ (∀ x : Int, 0 ≤ x → x < t.length → rdOf false s.1 x = true → Cl t l x) ∧ (∀ x : Int, 0 ≤ x → x < t.length → x ∈ l → rdOf false s.1 x = true) ∧ (s.2 = true → cntF s.1 < cntF b0) ∧
          (s.2 = false → cntF s.1 = cntF b0 ∧ ∀ x' y : Int, 0 ≤ x' → x' < x → 0 ≤ y → y < t.length → rdOf false s.1 x' = true → rdOf false s.1 y = true → rdOf false s.1 (M t x' y) = true)) ?_ ?_ 0 (b0, false) (by omega) (by omega)
          ⟨hb, hgood, hgens, (fun h => by cases h), fun _ => ⟨rfl, fun x' y a b => by omega⟩⟩
      · intro x s hx0 hx1 ⟨i1, i2, i3, i4, i5⟩
        -- the inner pass gives a state; its existence by the same rule
        have inner : ∀ r, (∀ s' : List Bool × Bool, s'.1.length = t.length ∧ (∀ x : Int, 0 ≤ x → x < t.length → rdOf false s'.1 x = true → Cl t l x) ∧ (∀ x : Int, 0 ≤ x → x < t.length → x ∈ l → rdOf false s'.1 x = true) ∧ (s'.2 = true → cntF s'.1 < cntF b0) ∧
          (s'.2 = false → cntF s'.1 = cntF b0 ∧ ∀ x' y : Int, 0 ≤ x' → x' < x + 1 → 0 ≤ y → y < t.length → rdOf false s'.1 x' = true → rdOf false s'.1 y = true → rdOf false s'.1 (M t x' y) = true) → Ev (fun k => semigroupref14_Generated.l1 k t s'.1 s'.2 (t.length : Int) (x + 1)) r) →
          Ev (fun k => semigroupref14_Generated.l1 k t s.1 s.2 (t.length : Int) x) r := by
          intro r hcont
          apply ev_succ
          simp only [semigroupref14_Generated.l1]
          refine ev_pos hx1 ?_
          refine ev_for (α := List Bool × Bool) (g := fun y s k => semigroupref14_Generated.l2 k t s.1 s.2 x (t.length : Int) x (t.length : Int) y) (t.length : Int)
            (fun y s => s.1.length = t.length ∧ (∀ x : Int, 0 ≤ x → x < t.length → rdOf false s.1 x = true → Cl t l x) ∧ (∀ x : Int, 0 ≤ x → x < t.length → x ∈ l → rdOf false s.1 x = true) ∧ (s.2 = true → cntF s.1 < cntF b0) ∧
              (s.2 = false → cntF s.1 = cntF b0 ∧ (∀ x' y' : Int, 0 ≤ x' → x' < x → 0 ≤ y' → y' < t.length → rdOf false s.1 x' = true → rdOf false s.1 y' = true → rdOf false s.1 (M t x' y') = true) ∧
                ∀ y' : Int, 0 ≤ y' → y' < y → rdOf false s.1 x = true → rdOf false s.1 y' = true → rdOf false s.1 (M t x y') = true)) ?_ ?_ 0 s (by omega) (by omega)
              ⟨i1, i2, i3, i4, fun h => ⟨(i5 h).1, (i5 h).2, fun y' a b => by omega⟩⟩
          · intro y s hy0 hy1 ⟨j1, j2, j3, j4, j5⟩
            right
            have a1 := hs.lo x y hx0 hx1 hy0 hy1
            have a2 := hs.hi x y hx0 hx1 hy0 hy1
            have r1 := hs.row x hx0 hx1
            by_cases hx : rdOf false s.1 x = true
            · by_cases hy : rdOf false s.1 y = true
              · by_cases hm : rdOf false s.1 (M t x y) = true
                · refine ⟨s, ⟨j1, j2, j3, j4, fun h => ⟨(j5 h).1, (j5 h).2.1, fun y' b0 b1 c d => ?_⟩⟩, fun H => ?_⟩
                  · by_cases hyy : y' = y
                    · rw [hyy]; exact hm
                    · exact (j5 h).2.2 y' b0 (by omega) c d
                  · apply ev_succ
                    simp only [semigroupref14_Generated.l2, rdR, rdM]
                    rw [wrap_add hy0 hy1 (by omega)]
                    exact ev_pos hy1 (ev_pos hx0 (ev_pos (by omega) (ev_pos hx (ev_pos hy0 (ev_pos (by omega) (ev_pos hy (ev_pos hx1 (ev_pos (by omega) (ev_pos a1 (ev_pos (by omega) (ev_pos hm H)))))))))))
                · have hmf : rdOf false s.1 (M t x y) = false := by simpa using hm
                  have hlt := cntF_set a1 (by omega) hmf
                  refine ⟨(s.1.set (M t x y).toNat true, true), ⟨by simpa using j1, fun z z0 z1 hz => ?_, fun z z0 z1 hz => ?_, fun _ => ?_, (fun h => by cases h)⟩, fun H => ?_⟩
                  · simp only at hz
                    rw [rb_set a1 (by omega) z0] at hz
                    by_cases hzm : z = M t x y
                    · rw [hzm]; exact Cl.mul (j2 x hx0 hx1 hx) (j2 y hy0 hy1 hy)
                    · rw [if_neg hzm] at hz; exact j2 z z0 z1 hz
                  · simp only
                    rw [rb_set a1 (by omega) z0]
                    split
                    · rfl
                    · exact j3 z z0 z1 hz
                  · simp only
                    cases hch : s.2 with
                    | true => have := j4 hch; omega
                    | false => have := (j5 hch).1; omega
                  · apply ev_succ
                    simp only [semigroupref14_Generated.l2, rdR, rdM]
                    rw [wrap_add hy0 hy1 (by omega)]
                    exact ev_pos hy1 (ev_pos hx0 (ev_pos (by omega) (ev_pos hx (ev_pos hy0 (ev_pos (by omega) (ev_pos hy (ev_pos hx1 (ev_pos (by omega) (ev_pos a1 (ev_pos (by omega) (ev_neg hm H)))))))))))
              · refine ⟨s, ⟨j1, j2, j3, j4, fun h => ⟨(j5 h).1, (j5 h).2.1, fun y' b0 b1 c d => ?_⟩⟩, fun H => ?_⟩
                · by_cases hyy : y' = y
                  · rw [hyy] at d; exact absurd d hy
                  · exact (j5 h).2.2 y' b0 (by omega) c d
                · apply ev_succ
                  simp only [semigroupref14_Generated.l2, rdR, rdM]
                  rw [wrap_add hy0 hy1 (by omega)]
                  exact ev_pos hy1 (ev_pos hx0 (ev_pos (by omega) (ev_pos hx (ev_pos hy0 (ev_pos (by omega) (ev_neg hy H))))))
            · refine ⟨s, ⟨j1, j2, j3, j4, fun h => ⟨(j5 h).1, (j5 h).2.1, fun y' b0 b1 c d => absurd c hx⟩⟩, fun H => ?_⟩
              apply ev_succ
              simp only [semigroupref14_Generated.l2, rdR, rdM]
              rw [wrap_add hy0 hy1 (by omega)]
              exact ev_pos hy1 (ev_pos hx0 (ev_pos (by omega) (ev_neg hx H)))
          · intro s ⟨j1, j2, j3, j4, j5⟩
            apply ev_succ
            simp only [semigroupref14_Generated.l2]
            rw [wrap_add hx0 hx1 (by omega)]
            refine ev_neg (by omega) (hcont s ⟨j1, j2, j3, j4, fun h => ⟨(j5 h).1, fun x' y a b c d => ?_⟩⟩)
            by_cases hxx : x' = x
            · rw [hxx]; exact (j5 h).2.2 y c d
            · exact (j5 h).2.1 x' y a (by omega) c d
        -- choose the state that the inner pass reaches
        refine Classical.byContradiction fun hno => ?_
        refine hno (.inl (inner r fun s' hs' => Classical.byContradiction fun hn => hno (.inr ⟨s', hs', fun H => absurd H hn⟩)))
      · intro s ⟨i1, i2, i3, i4, i5⟩
        apply ev_succ
        simp only [semigroupref14_Generated.l1]
        exact ev_neg (by omega) (hend s.1 s.2 i1 i2 i3 i4 (fun h => (i5 h).2))
    refine pass _ fun b ch h1 h2 h3 h4 h5 => ?_
    cases ch with
    | true => exact ih (cntF b) (by have := h4 rfl; omega) b (Nat.le_refl _) h1 h2 h3
    | false =>
      apply ev_succ
      simp only [semigroupref14_Generated.l0]
      refine ev_neg (by simp) (ev_call (semigroupref03_Members_ev (by omega)) (ev_some ?_))
      rw [h1]
      refine sel_congr fun x x0 x1 => ⟨h2 x x0 (by omega), fun hc => ?_⟩
      have : ∀ x, Cl t l x → rdOf false b x = true := by
        intro x hx
        induction hx with
        | base a b c => exact h3 _ b c a
        | mul a b i j =>
          have ea := a.el hs
          have eb := b.el hs
          exact h5 rfl _ _ ea.1 ea.2 eb.1 eb.2 i j
      exact this x hc
  exact key (cntF b) b (Nat.le_refl _) hb (fun x x0 x1 h => Cl.base ((hm x x0 x1).1 h) x0 x1) (fun x x0 x1 h => (hm x x0 x1).2 h)
/-- Light's theorem. -/
theorem light_asc {t : List (List Int)} (hs : Sq t) {l : List Int} (hg : ∀ x : Int, 0 ≤ x → x < (t.length : Int) → Cl t l x) (h : LightOk t l) : Asc t := by
  have key : ∀ a, Cl t l a → ∀ x y : Int, 0 ≤ x → x < (t.length : Int) → 0 ≤ y → y < (t.length : Int) → M t (M t x a) y = M t x (M t a y) := by
    intro a ha
    induction ha with
    | base hm _ _ => exact h _ hm
    | mul ha hb ia ib =>
      rename_i a b
      intro x y x0 x1 y0 y1
      have ea := ha.el hs
      have eb := hb.el hs
      have xa := hs.lo x a x0 x1 ea.1 ea.2
      have xa' := hs.hi x a x0 x1 ea.1 ea.2
      have yb := hs.lo b y eb.1 eb.2 y0 y1
      have yb' := hs.hi b y eb.1 eb.2 y0 y1
      rw [← ia x b x0 x1 eb.1 eb.2, ib _ y xa xa' y0 y1, ia x _ x0 x1 yb yb', ← ib a y ea.1 ea.2 y0 y1]
  intro x y z x0 x1 y0 y1 z0 z1
  exact key y (hg y y0 y1) x z x0 x1 z0 z1
end Go.Proofs.Ytlhckcldeojfmaa.F
