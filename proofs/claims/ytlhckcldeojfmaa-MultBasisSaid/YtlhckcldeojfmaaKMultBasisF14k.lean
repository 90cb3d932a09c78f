/- What the printed functions Center, Commutative and the reference's Center, Generators, Indecomposable answer. No condition but that a table comes in. -/
import Derived.Test.YtlhckcldeojfmaaKMultBasisF14j
import Derived.Test.YtlhckcldeojfmaaKMultBasisP3
namespace Go.Proofs.Ytlhckcldeojfmaa.F
open Go.RowKit Go.Proofs.YtlhckcldeojfmaaW.PrintWords Go.Proofs.Ytlhckcldeojfmaa.B Go.Proofs.Ytlhckcldeojfmaa.PAll
set_option linter.unusedVariables false
set_option linter.unusedSimpArgs false
open Classical

def Cen (t : List (List Int)) (x : Int) : Prop := ∀ y : Int, 0 ≤ y → y < (t.length : Int) → M t x y = M t y x
noncomputable def cen (t : List (List Int)) : List Int := sel (Cen t) 0 t.length
theorem mult_center_l1 {t : List (List Int)} (hs : Sq t) {l : List Int} {x : Int} (x0 : 0 ≤ x) (x1 : x < (t.length : Int)) (hl : (l.length : Int) ≤ x) {r : List Int} (h1 : Cen t x → Ev (fun k => mult_center.l0 k t (l ++ [x]) (t.length : Int) (x + 1)) r) (h2 : ¬ Cen t x → Ev (fun k => mult_center.l0 k t l (t.length : Int) (x + 1)) r) :
    Ev (fun k => mult_center.l0 k t l (t.length : Int) x) r := by
  have hle := hs.le
  have r1 := hs.row x x0 x1
  apply ev_succ
  simp only [mult_center.l0]
  refine ev_pos x1 ?_
  refine ev_for (α := Bool) (g := fun y a k => mult_center.l1 k t l x a (t.length : Int) x (t.length : Int) y) (t.length : Int) (fun y a => a = true ↔ ∀ z : Int, 0 ≤ z → z < y → M t x z = M t z x) ?_ ?_ 0 true (by omega) (by omega) ⟨fun _ z a b => by omega, fun _ => rfl⟩
  · intro y a y0 y1 ha
    right
    have r2 := hs.row y y0 y1
    cases a with
    | true =>
      have hz := ha.1 rfl
      refine ⟨M t x y == M t y x, ⟨fun h z z0 z1 => ?_, fun h => by simpa using h y y0 (by omega)⟩, fun H => ?_⟩
      · by_cases hzy : z = y
        · rw [hzy]; simpa using h
        · exact hz z z0 (by omega)
      · apply ev_succ
        simp only [mult_center.l1, rdR, rdM]
        rw [wrap_add y0 y1 (by omega)]
        exact ev_pos y1 (ev_pos (by simp) (ev_pos x0 (ev_pos x1 (ev_pos y0 (ev_pos (by omega) (ev_pos y1 (ev_pos (by omega) H)))))))
    | false =>
      refine ⟨false, ⟨fun h => (by cases h), fun h => ha.2 fun z a b => h z a (by omega)⟩, fun H => ?_⟩
      apply ev_succ
      simp only [mult_center.l1, rdR, rdM]
      rw [wrap_add y0 y1 (by omega)]
      exact ev_pos y1 (ev_neg (by simp) H)
  · intro a ha
    apply ev_succ
    simp only [mult_center.l1]
    rw [wrap_add x0 x1 (by omega)]
    cases a with
    | true => exact ev_neg (by omega) (ev_pos rfl (ev_pos (by omega) (h1 (ha.1 rfl))))
    | false => exact ev_neg (by omega) (ev_neg (by simp) (h2 fun h => by have := ha.2 h; cases this))
theorem mult_center_ev {t : List (List Int)} (hs : Sq t) : Ev (fun k => mult_center.f k t) (cen t) := by
  have hle := hs.le
  unfold mult_center.f
  refine ev_for (α := List Int) (g := fun x l k => mult_center.l0 k t l (t.length : Int) x) (t.length : Int) (fun x l => l = sel (Cen t) 0 x.toNat) ?_ ?_ 0 [] (by omega) (by omega) (by simp [sel])
  · intro x l x0 x1 hl
    obtain ⟨k, rfl⟩ : ∃ k : Nat, x = (k : Int) := ⟨x.toNat, by omega⟩
    rw [Int.toNat_natCast] at hl
    have hlen := sel_len (P := Cen t) (i := 0) (m := k)
    rw [← hl] at hlen
    have hn : sel (Cen t) 0 ((k : Int) + 1).toNat = if Cen t k then l ++ [(k : Int)] else l := by
      rw [show ((k : Int) + 1).toNat = k + 1 by omega, sel_snoc, ← hl, Int.zero_add]
      by_cases hq : Cen t k
      · rw [if_pos hq]; simp [sel, hq]
      · rw [if_neg hq]; simp [sel, hq]
    right
    by_cases hq : Cen t k
    · exact ⟨l ++ [(k : Int)], by rw [hn, if_pos hq], fun H => mult_center_l1 hs x0 x1 (by omega) (fun _ => H) (fun h => absurd hq h)⟩
    · exact ⟨l, by rw [hn, if_neg hq], fun H => mult_center_l1 hs x0 x1 (by omega) (fun h => absurd h hq) (fun _ => H)⟩
  · intro l hl
    apply ev_succ
    simp only [mult_center.l0]
    exact ev_neg (by omega) (ev_some (by rw [hl, Int.toNat_natCast]; rfl))

theorem semigroupref14_Center_l1 {t : List (List Int)} (hs : Sq t) {l : List Int} {x : Int} (x0 : 0 ≤ x) (x1 : x < (t.length : Int)) (hl : (l.length : Int) ≤ x) {r : List Int} (h1 : Cen t x → Ev (fun k => semigroupref14_Center.l0 k t (l ++ [x]) (t.length : Int) (x + 1)) r) (h2 : ¬ Cen t x → Ev (fun k => semigroupref14_Center.l0 k t l (t.length : Int) (x + 1)) r) :
    Ev (fun k => semigroupref14_Center.l0 k t l (t.length : Int) x) r := by
  have hle := hs.le
  have r1 := hs.row x x0 x1
  apply ev_succ
  simp only [semigroupref14_Center.l0]
  refine ev_pos x1 ?_
  refine ev_for (α := Bool) (g := fun y a k => semigroupref14_Center.l1 k t l x a (t.length : Int) x (t.length : Int) y) (t.length : Int) (fun y a => a = true ↔ ∀ z : Int, 0 ≤ z → z < y → M t x z = M t z x) ?_ ?_ 0 true (by omega) (by omega) ⟨fun _ z a b => by omega, fun _ => rfl⟩
  · intro y a y0 y1 ha
    right
    have r2 := hs.row y y0 y1
    cases a with
    | true =>
      have hz := ha.1 rfl
      refine ⟨M t x y == M t y x, ⟨fun h z z0 z1 => ?_, fun h => by simpa using h y y0 (by omega)⟩, fun H => ?_⟩
      · by_cases hzy : z = y
        · rw [hzy]; simpa using h
        · exact hz z z0 (by omega)
      · apply ev_succ
        simp only [semigroupref14_Center.l1, rdR, rdM]
        rw [wrap_add y0 y1 (by omega)]
        exact ev_pos y1 (ev_pos (by simp) (ev_pos x0 (ev_pos x1 (ev_pos y0 (ev_pos (by omega) (ev_pos y1 (ev_pos (by omega) H)))))))
    | false =>
      refine ⟨false, ⟨fun h => (by cases h), fun h => ha.2 fun z a b => h z a (by omega)⟩, fun H => ?_⟩
      apply ev_succ
      simp only [semigroupref14_Center.l1, rdR, rdM]
      rw [wrap_add y0 y1 (by omega)]
      exact ev_pos y1 (ev_neg (by simp) H)
  · intro a ha
    apply ev_succ
    simp only [semigroupref14_Center.l1]
    rw [wrap_add x0 x1 (by omega)]
    cases a with
    | true => exact ev_neg (by omega) (ev_pos rfl (ev_pos (by omega) (h1 (ha.1 rfl))))
    | false => exact ev_neg (by omega) (ev_neg (by simp) (h2 fun h => by have := ha.2 h; cases this))
theorem semigroupref14_Center_ev {t : List (List Int)} (hs : Sq t) : Ev (fun k => semigroupref14_Center.f k t) (cen t) := by
  have hle := hs.le
  unfold semigroupref14_Center.f
  refine ev_for (α := List Int) (g := fun x l k => semigroupref14_Center.l0 k t l (t.length : Int) x) (t.length : Int) (fun x l => l = sel (Cen t) 0 x.toNat) ?_ ?_ 0 [] (by omega) (by omega) (by simp [sel])
  · intro x l x0 x1 hl
    obtain ⟨k, rfl⟩ : ∃ k : Nat, x = (k : Int) := ⟨x.toNat, by omega⟩
    rw [Int.toNat_natCast] at hl
    have hlen := sel_len (P := Cen t) (i := 0) (m := k)
    rw [← hl] at hlen
    have hn : sel (Cen t) 0 ((k : Int) + 1).toNat = if Cen t k then l ++ [(k : Int)] else l := by
      rw [show ((k : Int) + 1).toNat = k + 1 by omega, sel_snoc, ← hl, Int.zero_add]
      by_cases hq : Cen t k
      · rw [if_pos hq]; simp [sel, hq]
      · rw [if_neg hq]; simp [sel, hq]
    right
    by_cases hq : Cen t k
    · exact ⟨l ++ [(k : Int)], by rw [hn, if_pos hq], fun H => semigroupref14_Center_l1 hs x0 x1 (by omega) (fun _ => H) (fun h => absurd hq h)⟩
    · exact ⟨l, by rw [hn, if_neg hq], fun H => semigroupref14_Center_l1 hs x0 x1 (by omega) (fun h => absurd h hq) (fun _ => H)⟩
  · intro l hl
    apply ev_succ
    simp only [semigroupref14_Center.l0]
    exact ev_neg (by omega) (ev_some (by rw [hl, Int.toNat_natCast]; rfl))
theorem mult_Center_ev {t : List (List Int)} (ht : In2 t) : Ev (fun k => mult_Center.f k t) (if val t = 0 then cen t else []) := by
  unfold mult_Center.f
  refine ev_call (mult_Validate_ev ht) (ev_ite (fun h => ?_) (fun h => ev_some (by rw [if_neg h])))
  rw [if_pos h]
  exact ev_call (mult_center_ev (va_of h).toSq) (ev_some rfl)
theorem mult_Commutative_ev {t : List (List Int)} (ht : In2 t) : Ev (fun k => mult_Commutative.f k t) (if val t = 0 then ((cen t).length : Int) == (t.length : Int) else false) := by
  unfold mult_Commutative.f
  refine ev_call (mult_Validate_ev ht) (ev_ite (fun h => ?_) (fun h => ev_some (by rw [if_neg h])))
  rw [if_pos h]
  exact ev_call (mult_center_ev (va_of h).toSq) (ev_some rfl)
theorem semigroupref14_Generators_ev {t : List (List Int)} (hs : Sq t) : Ev (fun k => semigroupref14_Generators.f k t) (gsp t t.length) := by
  have hle := hs.le
  unfold semigroupref14_Generators.f
  refine ev_for (α := List Int) (g := fun x l k => semigroupref14_Generators.l0 k t l (t.length : Int) x) (t.length : Int) (fun x l => l = gsp t x.toNat) ?_ ?_ 0 [] (by omega) (by omega) rfl
  · intro x l x0 x1 hl
    obtain ⟨k, rfl⟩ : ∃ k : Nat, x = (k : Int) := ⟨x.toNat, by omega⟩
    rw [Int.toNat_natCast] at hl
    obtain ⟨ga, gb, gc⟩ := gsp_ok (t := t) k (by omega)
    rw [← hl] at ga gb gc
    have hnx : gsp t ((k : Int) + 1).toNat = if Cl t l k then l else l ++ [(k : Int)] := by
      rw [show ((k : Int) + 1).toNat = k + 1 by omega]
      show (if Cl t (gsp t k) k then gsp t k else gsp t k ++ [(k : Int)]) = _
      rw [← hl]
    refine Classical.byContradiction fun hno => hno (.inl ?_)
    apply ev_succ
    simp only [semigroupref14_Generators.l0]
    refine ev_pos x1 (ev_call (semigroupref14_Generated_ev hs (by omega)) ?_)
    have hgl := sel_len (P := Cl t l) (i := 0) (m := t.length)
    have hgm : ∀ y : Int, y ∈ sel (Cl t l) 0 t.length ↔ Cl t l y := fun y => by
      rw [sel_mem]
      exact ⟨fun h => h.2.2, fun h => ⟨(h.el hs).1, by have := (h.el hs).2; omega, h⟩⟩
    generalize sel (Cl t l) 0 t.length = g at hgl hgm ⊢
    refine ev_for (α := Bool) (g := fun i a n => semigroupref14_Generators.l1 n t l (k : Int) a (t.length : Int) (k : Int) g (g.length : Int) i) (g.length : Int) (fun i a => a = true ↔ ∃ j : Int, 0 ≤ j ∧ j < i ∧ rd g j = (k : Int)) ?_ ?_ 0 false (by omega) (by omega) ⟨fun h => (by cases h), fun ⟨j, a, b, _⟩ => absurd b (by omega)⟩
    · intro i a i0 i1 ha
      right
      cases a with
      | true =>
        refine ⟨true, ⟨fun _ => ?_, fun _ => rfl⟩, fun H => ?_⟩
        · obtain ⟨j, a, b, c⟩ := ha.1 rfl
          exact ⟨j, a, by omega, c⟩
        · apply ev_succ
          simp only [semigroupref14_Generators.l1]
          rw [wrap_add i0 i1 (by omega)]
          exact ev_pos i1 (ev_pos i0 (ev_pos i1 (ev_pos trivial H)))
      | false =>
        refine ⟨(k : Int) == rd g i, ⟨fun h => ⟨i, i0, by omega, (beq_iff_eq.1 h).symm⟩, fun ⟨j, a, b, c⟩ => ?_⟩, fun H => ?_⟩
        · by_cases hj : j = i
          · rw [hj] at c; rw [beq_iff_eq]; exact c.symm
          · have := ha.2 ⟨j, a, by omega, c⟩; cases this
        · apply ev_succ
          simp only [semigroupref14_Generators.l1]
          rw [wrap_add i0 i1 (by omega)]
          exact ev_pos i1 (ev_pos i0 (ev_pos i1 (ev_neg (by simp) H)))
    · intro a ha
      have hac : a = true ↔ Cl t l k := by rw [ha, ← hgm, rd_mem_iff]
      apply ev_succ
      simp only [semigroupref14_Generators.l1]
      rw [wrap_add x0 x1 (by omega)]
      refine ev_neg (by omega) ?_
      by_cases hc : Cl t l k
      · refine ev_pos (hac.2 hc) (Classical.byContradiction fun hn => hno (.inr ⟨l, by rw [hnx, if_pos hc], fun H => absurd H hn⟩))
      · refine ev_neg (fun h => hc (hac.1 h)) (ev_pos (by omega) (Classical.byContradiction fun hn => hno (.inr ⟨l ++ [(k : Int)], by rw [hnx, if_neg hc], fun H => absurd H hn⟩)))
  · intro l hl
    apply ev_succ
    simp only [semigroupref14_Generators.l0]
    exact ev_neg (by omega) (ev_some (by rw [hl, Int.toNat_natCast]))
theorem semigroupref14_Indecomposable_ev {t : List (List Int)} (hs : Sq t) : Ev (fun k => semigroupref14_Indecomposable.f k t) (ind t) := by
  have hle := hs.le
  unfold semigroupref14_Indecomposable.f
  refine ev_pos (by omega) (ev_pos (by omega) ?_)
  rw [Int.toNat_natCast]
  refine ev_for (α := List Bool) (g := fun x b k => semigroupref14_Indecomposable.l0 k t b (t.length : Int) x) (t.length : Int) (fun x b => b.length = t.length ∧ ∀ y : Int, 0 ≤ y → y < x → rdOf false b y = true) ?_ ?_ 0 _ (by omega) (by omega) ⟨by simp, fun y a b => by omega⟩
  · intro x b x0 x1 ⟨h1, h2⟩
    right
    refine ⟨b.set x.toNat true, ⟨by simpa using h1, fun y y0 y1 => ?_⟩, fun H => ?_⟩
    · rw [rb_set x0 (by omega) y0]
      by_cases hy : y = x
      · rw [if_pos hy]
      · rw [if_neg hy]; exact h2 y y0 (by omega)
    · apply ev_succ
      simp only [semigroupref14_Indecomposable.l0]
      rw [wrap_add x0 x1 (by omega), h1]
      exact ev_pos x1 (ev_pos x0 (ev_pos x1 H))
  · intro b ⟨h1, h2⟩
    apply ev_succ
    simp only [semigroupref14_Indecomposable.l0]
    refine ev_neg (by omega) ?_
    refine ev_for (α := List Bool) (g := fun a b k => semigroupref14_Indecomposable.l1 k t b (t.length : Int) a) (t.length : Int) (fun a b => b.length = t.length ∧ ∀ y : Int, 0 ≤ y → y < (t.length : Int) → (rdOf false b y = true ↔ ¬ ∃ a' c : Int, 0 ≤ a' ∧ a' < a ∧ 0 ≤ c ∧ c < (t.length : Int) ∧ M t a' c = y)) ?_ ?_ 0 b (by omega) (by omega) ⟨h1, fun y y0 y1 => ⟨fun _ ⟨a', c, u1, u2, _⟩ => absurd u2 (by omega), fun _ => h2 y y0 y1⟩⟩
    · intro a b a0 a1 ⟨h1, h2⟩
      have hr := hs.row a a0 a1
      refine Classical.byContradiction fun hno => hno (.inl ?_)
      apply ev_succ
      simp only [semigroupref14_Indecomposable.l1]
      refine ev_pos a1 ?_
      refine ev_for (α := List Bool) (g := fun c b k => semigroupref14_Indecomposable.l2 k t b a (t.length : Int) a (t.length : Int) c) (t.length : Int) (fun c b => b.length = t.length ∧ ∀ y : Int, 0 ≤ y → y < (t.length : Int) → (rdOf false b y = true ↔ ¬ ∃ a' c' : Int, 0 ≤ a' ∧ 0 ≤ c' ∧ c' < (t.length : Int) ∧ (a' < a ∨ (a' = a ∧ c' < c)) ∧ M t a' c' = y)) ?_ ?_ 0 b (by omega) (by omega) ⟨h1, fun y y0 y1 => ?_⟩
      · intro c b c0 c1 ⟨q1, q2⟩
        right
        have m0 := hs.lo a c a0 a1 c0 c1
        have m1 := hs.hi a c a0 a1 c0 c1
        refine ⟨b.set (M t a c).toNat false, ⟨by simpa using q1, fun y y0 y1 => ?_⟩, fun H => ?_⟩
        · rw [rb_set m0 (by omega) y0]
          by_cases hy : y = M t a c
          · rw [if_pos hy]
            refine ⟨fun h => (by cases h), fun h => absurd ⟨a, c, a0, c0, c1, .inr ⟨rfl, by omega⟩, hy.symm⟩ h⟩
          · rw [if_neg hy, q2 y y0 y1]
            refine not_congr ⟨?_, ?_⟩
            · rintro ⟨a', c', u1, u2, u3, u4, u5⟩
              exact ⟨a', c', u1, u2, u3, by omega, u5⟩
            · rintro ⟨a', c', u1, u2, u3, u4, u5⟩
              have : ¬ (a' = a ∧ c' = c) := by rintro ⟨rfl, rfl⟩; exact hy u5.symm
              exact ⟨a', c', u1, u2, u3, by omega, u5⟩
        · apply ev_succ
          simp only [semigroupref14_Indecomposable.l2, rdR, rdM]
          rw [wrap_add c0 c1 (by omega)]
          exact ev_pos c1 (ev_pos a0 (ev_pos a1 (ev_pos c0 (ev_pos (by omega) (ev_pos m0 (ev_pos (by omega) H))))))
      · intro b ⟨q1, q2⟩
        apply ev_succ
        simp only [semigroupref14_Indecomposable.l2]
        rw [wrap_add a0 a1 (by omega)]
        refine ev_neg (by omega) (Classical.byContradiction fun hn => hno (.inr ⟨b, ⟨q1, fun y y0 y1 => ?_⟩, fun H => absurd H hn⟩))
        rw [q2 y y0 y1]
        refine not_congr ⟨?_, ?_⟩
        · rintro ⟨a', c', u1, u2, u3, u4, u5⟩; exact ⟨a', c', u1, by omega, u2, u3, u5⟩
        · rintro ⟨a', c', u1, u2, u3, u4, u5⟩; exact ⟨a', c', u1, u3, u4, by omega, u5⟩
      · rw [h2 y y0 y1]
        refine not_congr ⟨?_, ?_⟩
        · rintro ⟨a', c', u1, u2, u3, u4, u5⟩; exact ⟨a', c', u1, u3, u4, by omega, u5⟩
        · rintro ⟨a', c', u1, u2, u3, u4, u5⟩; exact ⟨a', c', u1, by omega, u2, u3, u5⟩
    · intro b ⟨h1, h2⟩
      apply ev_succ
      simp only [semigroupref14_Indecomposable.l1]
      refine ev_neg (by omega) (ev_call (semigroupref03_Members_ev (by omega)) (ev_some ?_))
      rw [h1]
      exact sel_congr fun y y0 y1 => h2 y y0 (by omega)
end Go.Proofs.Ytlhckcldeojfmaa.F
