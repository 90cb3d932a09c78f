/- What the printed functions on groups answer: inverses, of, IsGroup; Inverse and IsGroup of the reference. No condition but that a table comes in. -/
import Derived.Test.YtnoickhdbinciaaKReesTablesLists
import Derived.Test.YtnoickhdbinciaaKReesTablesF14b
import Derived.Test.YtnoickhdbinciaaKReesTablesP4
namespace Go.Proofs.Ytnoickhdbinciaa.F
open Go.RowKit Go.Proofs.YtnoickhdbinciaaW.PrintWords Go.Proofs.Ytnoickhdbinciaa.B Go.Proofs.Ytnoickhdbinciaa.PAll
set_option linter.unusedVariables false
set_option linter.unusedSimpArgs false
open Classical

/-- y is an inverse of x. -/
def InvP (t : List (List Int)) (x y : Int) : Prop := M t x y = idn t ∧ M t y x = idn t
noncomputable def invOf (t : List (List Int)) (x : Int) : Int := first t.length (InvP t x)
/-- The table of a group. -/
structure Grp (t : List (List Int)) : Prop extends Va t where
  id0 : 0 ≤ idn t
  inv : ∀ x : Int, 0 ≤ x → x < (t.length : Int) → ∃ y : Int, 0 ≤ y ∧ y < (t.length : Int) ∧ InvP t x y
theorem idn_cases (t : List (List Int)) : (idn t = -1 ∧ ∀ e : Int, 0 ≤ e → e < (t.length : Int) → ¬ IsId t e) ∨ (0 ≤ idn t ∧ idn t < (t.length : Int) ∧ IsId t (idn t)) := by
  rcases first_spec (n := t.length) (P := IsId t) with h | ⟨a, b, c, _⟩
  · exact .inl h
  · exact .inr ⟨a, b, c⟩
theorem idn_is {t : List (List Int)} (h : 0 ≤ idn t) : idn t < (t.length : Int) ∧ IsId t (idn t) := by
  rcases idn_cases t with ⟨a, _⟩ | ⟨_, b, c⟩
  · omega
  · exact ⟨b, c⟩
theorem inv_unique {t : List (List Int)} (hv : Va t) (hi : 0 ≤ idn t) {x y z : Int} (x0 : 0 ≤ x) (x1 : x < (t.length : Int)) (y0 : 0 ≤ y) (y1 : y < (t.length : Int)) (z0 : 0 ≤ z) (z1 : z < (t.length : Int)) (hy : InvP t x y) (hz : InvP t x z) : y = z := by
  obtain ⟨i1, hid⟩ := idn_is hi
  have h := hv.asc y x z y0 y1 x0 x1 z0 z1
  rw [hy.2, hz.1, (hid z z0 z1).1, (hid y y0 y1).2] at h
  exact h.symm
theorem invOf_eq {t : List (List Int)} (hv : Va t) (hi : 0 ≤ idn t) {x y : Int} (x0 : 0 ≤ x) (x1 : x < (t.length : Int)) (y0 : 0 ≤ y) (y1 : y < (t.length : Int)) (hy : InvP t x y) : invOf t x = y :=
  first_eq y0 y1 hy (fun z z0 z1 hz => by have := inv_unique hv hi x0 x1 z0 (by omega) y0 y1 hz hy; omega)
theorem Grp.invOf {t : List (List Int)} (hg : Grp t) {x : Int} (x0 : 0 ≤ x) (x1 : x < (t.length : Int)) : 0 ≤ invOf t x ∧ invOf t x < (t.length : Int) ∧ InvP t x (invOf t x) := by
  obtain ⟨y, y0, y1, hy⟩ := hg.inv x x0 x1
  rw [invOf_eq hg.toVa hg.id0 x0 x1 y0 y1 hy]
  exact ⟨y0, y1, hy⟩
noncomputable def invs (t : List (List Int)) : List Int := (List.range t.length).map fun x : Nat => invOf t x

theorem group_inverses_l3 {t : List (List Int)} (hv : Va t) (hi : 0 ≤ idn t) {x : Int} (x0 : 0 ≤ x) (x1 : x < (t.length : Int)) {inv : List Int} (hl : inv.length = t.length) {r : Int × List Int × Bool}
    (hn : (¬ ∃ y : Int, 0 ≤ y ∧ y < (t.length : Int) ∧ InvP t x y) → (0, ([] : List Int), false) = r)
    (hc : ∀ inv', inv'.length = t.length → (∀ x' : Int, 0 ≤ x' → x' ≠ x → rd inv' x' = rd inv x') → rd inv' x = invOf t x → 0 ≤ invOf t x → Ev (fun k => group_inverses.l2 k t (idn t) inv' (t.length : Int) (x + 1)) r) (hm : rd inv x = -1) :
    Ev (fun k => group_inverses.l3 k t (idn t) inv x (t.length : Int) x (t.length : Int) 0) r := by
  have hs := hv.toSq
  have hle := hs.le
  have r1 := hs.row x x0 x1
  refine ev_for (α := List Int) (g := fun y inv k => group_inverses.l3 k t (idn t) inv x (t.length : Int) x (t.length : Int) y) (t.length : Int)
    (fun y i => i.length = t.length ∧ (∀ x' : Int, 0 ≤ x' → x' ≠ x → rd i x' = rd inv x') ∧ ((rd i x = -1 ∧ ∀ y' : Int, 0 ≤ y' → y' < y → ¬ InvP t x y') ∨ (0 ≤ rd i x ∧ rd i x < (t.length : Int) ∧ InvP t x (rd i x)))) ?_ ?_ 0 inv (by omega) (by omega)
    ⟨hl, fun _ _ _ => rfl, .inl ⟨hm, fun y' a b => by omega⟩⟩
  · intro y i hy0 hy1 ⟨i1, i2, i3⟩
    right
    have r2 := hs.row y hy0 hy1
    by_cases hp : InvP t x y
    · refine ⟨i.set x.toNat y, ⟨by simpa using i1, fun x' a b => by rw [rd_set x0 (by omega) a, if_neg b]; exact i2 x' a b, .inr ?_⟩, fun H => ?_⟩
      · rw [rd_set x0 (by omega) x0, if_pos rfl]
        exact ⟨hy0, hy1, hp⟩
      · apply ev_succ
        simp only [group_inverses.l3, rdR, rdM]
        rw [wrap_add hy0 hy1 (by omega)]
        exact ev_pos hy1 (ev_pos x0 (ev_pos x1 (ev_pos hy0 (ev_pos (by omega) (ev_pos hp.1 (ev_pos hy1 (ev_pos (by omega) (ev_pos hp.2 (ev_pos (by omega) H)))))))))
    · refine ⟨i, ⟨i1, i2, ?_⟩, fun H => ?_⟩
      · rcases i3 with ⟨a, b⟩ | h
        · refine .inl ⟨a, fun y' c d => ?_⟩
          by_cases hyy : y' = y
          · rw [hyy]; exact hp
          · exact b y' c (by omega)
        · exact .inr h
      · apply ev_succ
        simp only [group_inverses.l3, rdR, rdM]
        rw [wrap_add hy0 hy1 (by omega)]
        refine ev_pos hy1 (ev_pos x0 (ev_pos x1 (ev_pos hy0 (ev_pos (by omega) (ev_ite (fun hq => ev_pos hy1 (ev_pos (by omega) (ev_neg (fun hq2 => hp ⟨hq, hq2⟩) H))) (fun _ => H))))))
  · intro i ⟨i1, i2, i3⟩
    apply ev_succ
    simp only [group_inverses.l3]
    rw [wrap_add x0 x1 (by omega)]
    refine ev_neg (by omega) (ev_pos x0 (ev_pos (by omega) ?_))
    rcases i3 with ⟨a, b⟩ | ⟨a, b, c⟩
    · exact ev_pos (by omega) (ev_some (hn (fun ⟨y, y0, y1, hy⟩ => b y y0 y1 hy)))
    · have e := invOf_eq hv hi x0 x1 a b c
      exact ev_neg (by omega) (hc i i1 i2 e.symm (by omega))
theorem group_inverses_j2 {t : List (List Int)} (hv : Va t) {e : Int} (he : e = idn t) : (Grp t → Ev (fun k => group_inverses.j2 k t e) (idn t, invs t, true)) ∧ (¬ Grp t → Ev (fun k => group_inverses.j2 k t e) (0, [], false)) := by
  subst he
  have hs := hv.toSq
  have hle := hs.le
  have hpos := hs.pos
  have main : ∀ r : Int × List Int × Bool, 0 ≤ idn t → ((¬ ∀ x : Int, 0 ≤ x → x < (t.length : Int) → ∃ y : Int, 0 ≤ y ∧ y < (t.length : Int) ∧ InvP t x y) → (0, ([] : List Int), false) = r) → ((∀ x : Int, 0 ≤ x → x < (t.length : Int) → ∃ y : Int, 0 ≤ y ∧ y < (t.length : Int) ∧ InvP t x y) → (idn t, invs t, true) = r) → Ev (fun k => group_inverses.j2 k t (idn t)) r := by
    intro r hi hbad hgood
    apply ev_succ
    simp only [group_inverses.j2]
    refine ev_neg (by omega) (ev_pos (by omega) (ev_pos (by omega) ?_))
    refine ev_for (α := List Int) (g := fun x inv k => group_inverses.l2 k t (idn t) inv (t.length : Int) x) (t.length : Int)
      (fun x inv => inv.length = t.length ∧ ∀ x' : Int, 0 ≤ x' → x' < x → rd inv x' = invOf t x' ∧ ∃ y : Int, 0 ≤ y ∧ y < (t.length : Int) ∧ InvP t x' y) ?_ ?_ 0 _ (by omega) (by omega) ⟨by simp, fun x' a b => by omega⟩
    · intro x inv x0 x1 ⟨h1, h2⟩
      refine Classical.byContradiction fun hno => hno (.inl ?_)
      apply ev_succ
      simp only [group_inverses.l2]
      refine ev_pos x1 (ev_pos x0 (ev_pos (by omega) ?_))
      refine group_inverses_l3 hv hi x0 x1 (by simpa using h1) (fun hn => hbad (fun hall => hn (hall x x0 x1))) ?_ (by rw [rd_set x0 (by omega) x0, if_pos rfl])
      intro inv' g1 g2 g3 g4
      refine Classical.byContradiction fun hn => hno (.inr ⟨inv', ⟨g1, fun x' a b => ?_⟩, fun H => absurd H hn⟩)
      by_cases hx : x' = x
      · rw [hx]
        refine ⟨g3, ?_⟩
        rcases first_spec (n := t.length) (P := InvP t x) with ⟨e, _⟩ | ⟨a, b, c, _⟩
        · unfold invOf at g4; omega
        · exact ⟨_, a, b, c⟩
      · rw [g2 x' a hx, rd_set x0 (by omega) a, if_neg hx]
        exact h2 x' a (by omega)
    · intro inv ⟨h1, h2⟩
      apply ev_succ
      simp only [group_inverses.l2]
      refine ev_neg (by omega) (ev_some ?_)
      rw [← hgood (fun x a b => (h2 x a b).2)]
      have : inv = invs t := by
        refine rd_ext (by simp [invs, h1]) fun j a b => ?_
        rw [(h2 j a (by omega)).1]
        unfold invs
        rw [rd_map a (by omega), show ((j.toNat : Nat) : Int) = j by omega]
      rw [this]
  refine ⟨fun hg => main _ hg.id0 (fun h => absurd hg.inv h) (fun _ => rfl), fun hg => ?_⟩
  by_cases hi : 0 ≤ idn t
  · exact main _ hi (fun _ => rfl) (fun h => absurd ⟨hv, hi, h⟩ hg)
  · apply ev_succ
    simp only [group_inverses.j2]
    exact ev_pos (by omega) (ev_some rfl)
theorem group_inverses_ev {t : List (List Int)} (hv : Va t) : (Grp t → Ev (fun k => group_inverses.f k t) (idn t, invs t, true)) ∧ (¬ Grp t → Ev (fun k => group_inverses.f k t) (0, [], false)) := by
  have hs := hv.toSq
  have hle := hs.le
  have hpos := hs.pos
  have main : ∀ r : Int × List Int × Bool, Ev (fun k => group_inverses.j2 k t (idn t)) r → Ev (fun k => group_inverses.f k t) r := by
    intro r hr
    unfold group_inverses.f
    refine ev_for0 (g := fun x k => group_inverses.l0 k t (-1) (t.length : Int) x) (t.length : Int) (fun x => ∀ e : Int, 0 ≤ e → e < x → ¬ IsId t e) ?_ ?_ 0 (by omega) (by omega) (fun e a b => by omega)
    · intro x x0 x1 hx
      have r1 := hs.row x x0 x1
      have step : (IsId t x → Ev (fun k => group_inverses.j2 k t x) r) → (¬ IsId t x → Ev (fun k => group_inverses.l0 k t (-1) (t.length : Int) (x + 1)) r) → Ev (fun k => group_inverses.l0 k t (-1) (t.length : Int) x) r := by
        intro h1 h2
        apply ev_succ
        simp only [group_inverses.l0]
        refine ev_pos x1 ?_
        refine ev_all (g := fun y a k => group_inverses.l1 k t (-1) x a (t.length : Int) x (t.length : Int) y) (t.length : Int) (fun y => M t x y = y ∧ M t y x = y) (by omega) ?_ ?_ ?_ ?_ ?_
        · intro y hy0 hy1 H
          apply ev_succ
          simp only [group_inverses.l1]
          rw [wrap_add hy0 hy1 (by omega)]
          exact ev_pos hy1 (ev_neg (by simp) H)
        · intro y hy0 hy1 hp H
          have r2 := hs.row y hy0 hy1
          apply ev_succ
          simp only [group_inverses.l1, rdR, rdM]
          rw [wrap_add hy0 hy1 (by omega)]
          refine ev_pos hy1 (ev_pos (by simp) (ev_pos x0 (ev_pos x1 (ev_pos hy0 (ev_pos (by omega) (ev_pos hp.1 (ev_pos hy1 (ev_pos (by omega) ?_))))))))
          rw [show (M t y x == y) = true by simp [hp.2]]
          exact H
        · intro y hy0 hy1 hp H
          have r2 := hs.row y hy0 hy1
          apply ev_succ
          simp only [group_inverses.l1, rdR, rdM]
          rw [wrap_add hy0 hy1 (by omega)]
          refine ev_pos hy1 (ev_pos (by simp) (ev_pos x0 (ev_pos x1 (ev_pos hy0 (ev_pos (by omega) ?_)))))
          refine ev_ite (fun hq => ev_pos hy1 (ev_pos (by omega) ?_)) (fun _ => H)
          rw [show (M t y x == y) = false by simp; exact fun h => hp ⟨hq, h⟩]
          exact H
        · intro hall
          apply ev_succ
          simp only [group_inverses.l1]
          exact ev_neg (by omega) (ev_pos (by simp) (h1 hall))
        · intro ⟨y, hy0, hy1, hp⟩
          apply ev_succ
          simp only [group_inverses.l1]
          rw [wrap_add x0 x1 (by omega)]
          exact ev_neg (by omega) (ev_neg (by simp) (h2 (fun h => hp (h y hy0 hy1))))
      by_cases hid : IsId t x
      · left
        refine step (fun _ => ?_) (fun h => absurd hid h)
        have : idn t = x := first_eq x0 x1 hid hx
        rw [← this]
        exact hr
      · right
        refine ⟨fun e a b => ?_, fun H => step (fun h => absurd h hid) (fun _ => H)⟩
        by_cases hex : e = x
        · rw [hex]; exact hid
        · exact hx e a (by omega)
    · intro hx
      apply ev_succ
      simp only [group_inverses.l0]
      refine ev_neg (by omega) ?_
      have : idn t = -1 := first_no hx
      rw [← this]
      exact hr
  have := group_inverses_j2 hv (e := idn t) rfl
  exact ⟨fun h => main _ (this.1 h), fun h => main _ (this.2 h)⟩
theorem group_IsGroup_ev {t : List (List Int)} (ht : In2 t) : Ev (fun k => group_IsGroup.f k t) (decide (Grp t)) := by
  unfold group_IsGroup.f
  by_cases hv : val t = 0
  · have va := va_of hv
    by_cases hg : Grp t
    · have h : Ev (fun k => group_of.f k t) (t, idn t, invs t, true) := by
        unfold group_of.f
        exact ev_call (mult_Validate_ev ht) (ev_pos hv (ev_call ((group_inverses_ev va).1 hg) (ev_some rfl)))
      exact ev_call h (ev_some (by simp [hg]))
    · have h : Ev (fun k => group_of.f k t) (t, 0, [], false) := by
        unfold group_of.f
        exact ev_call (mult_Validate_ev ht) (ev_pos hv (ev_call ((group_inverses_ev va).2 hg) (ev_some rfl)))
      exact ev_call h (ev_some (by simp [hg]))
  · have h : Ev (fun k => group_of.f k t) ([], 0, [], false) := by
      unfold group_of.f
      exact ev_call (mult_Validate_ev ht) (ev_neg hv (ev_some rfl))
    have hg : ¬ Grp t := fun h => hv (val_va.2 h.toVa)
    exact ev_call h (ev_some (by simp [hg]))
theorem semigroupref16_Inverse_ev {t : List (List Int)} (hs : Sq t) {x : Int} (x0 : 0 ≤ x) (x1 : x < (t.length : Int)) : Ev (fun k => semigroupref16_Inverse.f k t x) (invOf t x) := by
  have hle := hs.le
  have r1 := hs.row x x0 x1
  unfold semigroupref16_Inverse.f
  refine ev_call (semigroupref14_Identity_ev hs) ?_
  refine ev_first (g := fun y k => semigroupref16_Inverse.l0 k t x (idn t) (t.length : Int) y) t.length (InvP t x) ?_ ?_ ?_
  · intro y y0 y1 hp
    have r2 := hs.row y y0 y1
    apply ev_succ
    simp only [semigroupref16_Inverse.l0, rdR, rdM]
    exact ev_pos y1 (ev_pos x0 (ev_pos x1 (ev_pos y0 (ev_pos (by omega) (ev_pos hp.1 (ev_pos y1 (ev_pos (by omega) (ev_pos hp.2 (ev_some rfl)))))))))
  · intro y r y0 y1 hp H
    have r2 := hs.row y y0 y1
    apply ev_succ
    simp only [semigroupref16_Inverse.l0, rdR, rdM]
    rw [wrap_add y0 y1 (by omega)]
    exact ev_pos y1 (ev_pos x0 (ev_pos x1 (ev_pos y0 (ev_pos (by omega) (ev_ite (fun hq => ev_pos y1 (ev_pos (by omega) (ev_neg (fun hq2 => hp ⟨hq, hq2⟩) H))) (fun _ => H))))))
  · apply ev_succ
    simp only [semigroupref16_Inverse.l0]
    exact ev_neg (by omega) (ev_some rfl)
theorem semigroupref16_IsGroup_ev {t : List (List Int)} (ht : In2 t) : Ev (fun k => semigroupref16_IsGroup.f k t) (decide (Grp t)) := by
  have no : ¬ Grp t → Ev (fun k => semigroupref16_IsGroup.j0 k t true) (decide (Grp t)) := by
    intro h
    apply ev_succ
    simp only [semigroupref16_IsGroup.j0]
    exact ev_pos (by simp) (ev_some (by simp [h]))
  unfold semigroupref16_IsGroup.f
  refine ev_call (semigroupref14_Valid_ev ht) (ev_ite (fun h => ?_) (fun h => no (fun hg => h (by simp [val_va.2 hg.toVa]))))
  have hv : val t = 0 := by simpa using h
  have va := va_of hv
  have hs := va.toSq
  have hle := hs.le
  have hpos := hs.pos
  refine ev_call (semigroupref14_Identity_ev hs) ?_
  by_cases hi : idn t < 0
  · simp only [hi, decide_true]
    exact no (fun hg => by have := hg.id0; omega)
  · simp only [hi, decide_false]
    apply ev_succ
    simp only [semigroupref16_IsGroup.j0]
    refine ev_neg (by simp) ?_
    refine ev_for0 (g := fun x k => semigroupref16_IsGroup.l0 k t (t.length : Int) x) (t.length : Int) (fun x => ∀ x' : Int, 0 ≤ x' → x' < x → ∃ y : Int, 0 ≤ y ∧ y < (t.length : Int) ∧ InvP t x' y) ?_ ?_ 0 (by omega) (by omega) (fun _ a b => by omega)
    · intro x x0 x1 hx
      rcases first_spec (n := t.length) (P := InvP t x) with ⟨e, hn⟩ | ⟨a, b, c, _⟩
      · left
        have hg : ¬ Grp t := fun hg => by
          obtain ⟨y, y0, y1, hy⟩ := hg.inv x x0 x1
          exact hn y y0 y1 hy
        simp only [hg, decide_false]
        apply ev_succ
        simp only [semigroupref16_IsGroup.l0]
        refine ev_pos x1 (ev_call (semigroupref16_Inverse_ev hs x0 x1) (ev_pos ?_ (ev_some rfl)))
        unfold invOf; omega
      · right
        refine ⟨fun x' a' b' => ?_, fun H => ?_⟩
        · by_cases hxx : x' = x
          · rw [hxx]; exact ⟨_, a, b, c⟩
          · exact hx x' a' (by omega)
        · apply ev_succ
          simp only [semigroupref16_IsGroup.l0]
          rw [wrap_add x0 x1 (by omega)]
          refine ev_pos x1 (ev_call (semigroupref16_Inverse_ev hs x0 x1) (ev_neg ?_ H))
          unfold invOf; omega
    · intro hx
      have hg : Grp t := ⟨va, by omega, hx⟩
      simp only [hg, decide_true]
      apply ev_succ
      simp only [semigroupref16_IsGroup.l0]
      exact ev_neg (by omega) (ev_some rfl)
end Go.Proofs.Ytnoickhdbinciaa.F
