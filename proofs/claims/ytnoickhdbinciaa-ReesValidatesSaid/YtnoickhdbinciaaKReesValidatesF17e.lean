/- What the printed tests of regularity answer. No condition but that the parts come in. -/
import Derived.Test.YtnoickhdbinciaaKReesValidatesF17b
import Derived.Test.YtnoickhdbinciaaKReesValidatesF14m
import Derived.Test.YtnoickhdbinciaaKReesValidatesP3
namespace Go.Proofs.Ytnoickhdbinciaa.F
open Go.RowKit Go.Proofs.YtnoickhdbinciaaW.PrintWords Go.Proofs.Ytnoickhdbinciaa.B Go.Proofs.Ytnoickhdbinciaa.PAll
set_option linter.unusedVariables false
set_option linter.unusedSimpArgs false
open Classical

/-- Every row of P and every column has an entry. -/
def Rgl (m k : Int) (P : List (List Int)) : Prop := (∀ i : Int, 0 ≤ i → i < m → ∃ l : Int, 0 ≤ l ∧ l < k ∧ 0 ≤ M P l i) ∧ ∀ l : Int, 0 ≤ l → l < k → ∃ i : Int, 0 ≤ i ∧ i < m ∧ 0 ≤ M P l i
/-- The rows seen ahead of (l, i). -/
def Seen (P : List (List Int)) (m l i : Int) (l' i' : Int) : Prop := 0 ≤ l' ∧ 0 ≤ i' ∧ i' < m ∧ (l' < l ∨ (l' = l ∧ i' < i)) ∧ 0 ≤ M P l' i'
theorem rd_app {a b : List Bool} {j : Int} (h0 : 0 ≤ j) : rdOf false (a ++ b) j = if j < (a.length : Int) then rdOf false a j else rdOf false b (j - (a.length : Int)) := by
  unfold rdOf
  split
  · rw [List.getD_eq_getElem?_getD, List.getD_eq_getElem?_getD, List.getElem?_append_left (by omega)]
  · rw [List.getD_eq_getElem?_getD, List.getD_eq_getElem?_getD, List.getElem?_append_right (by omega), show (j - (a.length : Int)).toNat = j.toNat - a.length by omega]
theorem rees_Regular_l2 {b : List Bool} (hb : b.length ≤ 9223372036854775807) : Ev (fun n => rees_Regular.l2 n b (b.length : Int) 0) (decide (∀ j : Int, 0 ≤ j → j < (b.length : Int) → rdOf false b j = true)) := by
  refine ev_for0 (g := fun j n => rees_Regular.l2 n b (b.length : Int) j) (b.length : Int) (fun j => ∀ i : Int, 0 ≤ i → i < j → rdOf false b i = true) ?_ ?_ 0 (by omega) (by omega) (fun i a b => by omega)
  · intro j j0 j1 hj
    by_cases h : rdOf false b j = true
    · right
      refine ⟨fun i a c => ?_, fun H => ?_⟩
      · by_cases hi : i = j
        · rw [hi]; exact h
        · exact hj i a (by omega)
      · apply ev_succ
        simp only [rees_Regular.l2]
        rw [wrap_add j0 j1 (by omega)]
        exact ev_pos j1 (ev_pos j0 (ev_pos j1 (ev_pos h H)))
    · left
      apply ev_succ
      simp only [rees_Regular.l2]
      exact ev_pos j1 (ev_pos j0 (ev_pos j1 (ev_neg h (ev_some (by rw [decide_eq_false]; exact fun hh => h (hh j j0 j1))))))
  · intro h
    apply ev_succ
    simp only [rees_Regular.l2]
    exact ev_neg (by omega) (ev_some (by rw [decide_eq_true h]))
/-- Columns and rows marked so far. -/
structure Mk (P : List (List Int)) (m k l i : Int) (c r : List Bool) : Prop where
  cl : (c.length : Int) = m
  rl : (r.length : Int) = k
  cm : ∀ i' : Int, 0 ≤ i' → i' < m → (rdOf false c i' = true ↔ ∃ l', Seen P m l i l' i')
  rm : ∀ l' : Int, 0 ≤ l' → l' < k → (rdOf false r l' = true ↔ ∃ i', Seen P m l i l' i')
theorem Mk.next {P : List (List Int)} {m k l i : Int} {c r : List Bool} (h : Mk P m k l i c r) (l0 : 0 ≤ l) (l1 : l < k) (i0 : 0 ≤ i) (i1 : i < m) (a b : Bool) (ha : a = true ↔ rdOf false c i = true ∨ 0 ≤ M P l i) (hb : b = true ↔ rdOf false r l = true ∨ 0 ≤ M P l i) :
    Mk P m k l (i + 1) (c.set i.toNat a) (r.set l.toNat b) := by
  have h1 := h.cl
  have h2 := h.rl
  refine ⟨by simpa using h1, by simpa using h2, fun i' a0 a1 => ?_, fun l' a0 a1 => ?_⟩
  · rw [rb_set i0 (by omega) a0]
    by_cases hi : i' = i
    · rw [if_pos hi, ha, h.cm i i0 i1, hi]
      constructor
      · rintro (⟨l', s1, s2, s3, s4, s5⟩ | hp)
        · exact ⟨l', s1, s2, s3, by omega, s5⟩
        · exact ⟨l, l0, i0, i1, by omega, hp⟩
      · rintro ⟨l', s1, s2, s3, s4, s5⟩
        by_cases hl : l' = l
        · rw [hl] at s5; exact .inr s5
        · exact .inl ⟨l', s1, s2, s3, by omega, s5⟩
    · rw [if_neg hi, h.cm i' a0 a1]
      constructor
      · rintro ⟨l', s1, s2, s3, s4, s5⟩; exact ⟨l', s1, s2, s3, by omega, s5⟩
      · rintro ⟨l', s1, s2, s3, s4, s5⟩; exact ⟨l', s1, s2, s3, by omega, s5⟩
  · rw [rb_set l0 (by omega) a0]
    by_cases hl : l' = l
    · rw [if_pos hl, hb, h.rm l l0 l1, hl]
      constructor
      · rintro (⟨i', s1, s2, s3, s4, s5⟩ | hp)
        · exact ⟨i', s1, s2, s3, by omega, s5⟩
        · exact ⟨i, l0, i0, i1, by omega, hp⟩
      · rintro ⟨i', s1, s2, s3, s4, s5⟩
        by_cases hi : i' = i
        · rw [hi] at s5; exact .inr s5
        · exact .inl ⟨i', s1, s2, s3, by omega, s5⟩
    · rw [if_neg hl, h.rm l' a0 a1]
      constructor
      · rintro ⟨i', s1, s2, s3, s4, s5⟩; exact ⟨i', s1, s2, s3, by omega, s5⟩
      · rintro ⟨i', s1, s2, s3, s4, s5⟩; exact ⟨i', s1, s2, s3, by omega, s5⟩
theorem Mk.row {P : List (List Int)} {m k l : Int} {c r : List Bool} (h : Mk P m k l m c r) : Mk P m k (l + 1) 0 c r := by
  refine ⟨h.cl, h.rl, fun i' a0 a1 => ?_, fun l' a0 a1 => ?_⟩
  · rw [h.cm i' a0 a1]
    constructor
    · rintro ⟨l', s1, s2, s3, s4, s5⟩; exact ⟨l', s1, s2, s3, by omega, s5⟩
    · rintro ⟨l', s1, s2, s3, s4, s5⟩; exact ⟨l', s1, s2, s3, by omega, s5⟩
  · rw [h.rm l' a0 a1]
    constructor
    · rintro ⟨l', s1, s2, s3, s4, s5⟩; exact ⟨l', s1, s2, s3, by omega, s5⟩
    · rintro ⟨l', s1, s2, s3, s4, s5⟩; exact ⟨l', s1, s2, s3, by omega, s5⟩
theorem rees_Regular_ev {G : List (List Int)} {m k : Int} {P : List (List Int)} {Z : Bool} (hG : In2 G) (hP : In2 P) : Ev (fun n => rees_Regular.f n G m k P Z) (decide (RV G m k P Z ∧ Rgl m k P)) := by
  unfold rees_Regular.f
  refine ev_call (rees_Validate_ev hG hP) (ev_ite (fun h => ?_) (fun h => ev_some (by rw [decide_eq_false]; exact fun hh => h (rval_rv.2 hh.1))))
  have hv := rval_rv.1 h
  have m1 := hv.m1
  have m4 := hv.m4
  have k1 := hv.k1
  have k4 := hv.k4
  have hl := hv.len
  refine ev_pos (by omega) (ev_pos (by omega) (ev_pos (by omega) (ev_pos (by omega) ?_)))
  refine ev_for (α := List Bool × List Bool) (g := fun l s n => rees_Regular.l0 n s.1 s.2 (P.length : Int) l G m k P Z) (P.length : Int) (fun l s => Mk P m k l 0 s.1 s.2) ?_ ?_ 0 (_, _) (by omega) (by omega) ?_
  · rintro l ⟨c, r⟩ l0 l1 hm
    have hr := hv.row l l0 l1
    refine Classical.byContradiction fun hno => hno (.inl ?_)
    apply ev_succ
    simp only [rees_Regular.l0, rdR]
    refine ev_pos l1 (ev_pos l0 (ev_pos l1 ?_))
    rw [hr]
    refine ev_for (α := List Bool × List Bool) (g := fun i s n => rees_Regular.l1 n s.1 s.2 l (P.length : Int) l (R P l) m i G m k P Z) m (fun i s => Mk P m k l i s.1 s.2) ?_ ?_ 0 (c, r) (by omega) (by omega) hm
    · rintro i ⟨c, r⟩ i0 i1 hm
      right
      have h1 := hm.cl
      have h2 := hm.rl
      refine ⟨(c.set i.toNat (rdOf false c i || decide (0 ≤ M P l i)), r.set l.toNat (rdOf false r l || decide (0 ≤ M P l i))), hm.next l0 (by omega) i0 i1 _ _ (by simp) (by simp), fun H => ?_⟩
      simp only at H
      apply ev_succ
      simp only [rees_Regular.l1, rdM]
      rw [wrap_add i0 i1 (by omega)]
      refine ev_pos i1 (ev_pos i0 (ev_pos (by omega) (ev_pos (by simp only at h1; omega) (ev_ite (fun hc => ?_) (fun hc => ?_)))))
      · refine ev_call (ev_some rfl) (ev_pos l0 (ev_pos (by simp only at h2; omega) (ev_ite (fun hr => ?_) (fun hr => ?_))))
        · simp only [hc, hr, Bool.true_or] at H; exact H
        · simp only [hc, Bool.not_eq_true _ ▸ hr, Bool.true_or, Bool.false_or] at H; exact H
      · refine ev_call (ev_some rfl) (ev_pos l0 (ev_pos (by simp only at h2; omega) (ev_ite (fun hr => ?_) (fun hr => ?_))))
        · simp only [Bool.not_eq_true _ ▸ hc, hr, Bool.true_or, Bool.false_or] at H; exact H
        · simp only [Bool.not_eq_true _ ▸ hc, Bool.not_eq_true _ ▸ hr, Bool.false_or] at H; exact H
    · rintro ⟨c, r⟩ hm
      refine Classical.byContradiction fun hn => hno (.inr ⟨(c, r), hm.row, fun H => absurd ?_ hn⟩)
      apply ev_succ
      simp only [rees_Regular.l1]
      rw [wrap_add l0 l1 (by omega)]
      exact ev_neg (by omega) H
  · rintro ⟨c, r⟩ hm
    have h1 := hm.cl
    have h2 := hm.rl
    simp only at h1 h2
    apply ev_succ
    simp only [rees_Regular.l0]
    refine ev_neg (by omega) (ev_pos (by omega) (ev_call (ev_some rfl) ?_))
    have e := rees_Regular_l2 (b := c ++ r) (by simp; omega)
    rw [show (decide (RV G m k P Z ∧ Rgl m k P)) = decide (∀ j : Int, 0 ≤ j → j < ((c ++ r).length : Int) → rdOf false (c ++ r) j = true) from ?_]
    · exact e
    · apply decide_eq_decide.2
      constructor
      · rintro ⟨_, ha, hb⟩ j j0 j1
        rw [rd_app j0]
        simp at j1
        split
        · rename_i hj
          obtain ⟨l, a, b, d⟩ := ha j j0 (by omega)
          exact (hm.cm j j0 (by omega)).2 ⟨l, a, j0, by omega, by omega, d⟩
        · rename_i hj
          obtain ⟨i, a, b, d⟩ := hb (j - (c.length : Int)) (by omega) (by omega)
          exact (hm.rm _ (by omega) (by omega)).2 ⟨i, by omega, a, b, by omega, d⟩
      · intro hall
        refine ⟨hv, fun i i0 i1 => ?_, fun l l0 l1 => ?_⟩
        · have := hall i i0 (by simp; omega)
          rw [rd_app i0, if_pos (by omega)] at this
          obtain ⟨l, s1, s2, s3, s4, s5⟩ := (hm.cm i i0 i1).1 this
          exact ⟨l, s1, by omega, s5⟩
        · have := hall (l + (c.length : Int)) (by omega) (by simp; omega)
          rw [rd_app (by omega), if_neg (by omega), show l + (c.length : Int) - (c.length : Int) = l by omega] at this
          obtain ⟨i, s1, s2, s3, s4, s5⟩ := (hm.rm l l0 l1).1 this
          exact ⟨i, s2, s3, s5⟩
  · refine ⟨by simp; omega, by simp; omega, fun i' a0 a1 => ?_, fun l' a0 a1 => ?_⟩
    · rw [rb_rep a0 (by omega)]
      simp only [Bool.false_eq_true, false_iff]
      rintro ⟨l', s1, s2, s3, s4, s5⟩
      omega
    · rw [rb_rep a0 (by omega)]
      simp only [Bool.false_eq_true, false_iff]
      rintro ⟨i', s1, s2, s3, s4, s5⟩
      omega
theorem semigroupref17_Regular_ev {G : List (List Int)} {m k : Int} {P : List (List Int)} {Z : Bool} (hv : RV G m k P Z) : Ev (fun n => semigroupref17_Regular.f n G m k P Z) (decide (Rgl m k P)) := by
  have m1 := hv.m1
  have m4 := hv.m4
  have k1 := hv.k1
  have k4 := hv.k4
  have hl := hv.len
  unfold semigroupref17_Regular.f
  refine ev_pos (by omega) (ev_pos (by omega) ?_)
  refine ev_for (α := List Bool) (g := fun l c n => semigroupref17_Regular.l0 n c P (P.length : Int) l G m k P Z) (P.length : Int) (fun l c => (c.length : Int) = m ∧ (∀ i' : Int, 0 ≤ i' → i' < m → (rdOf false c i' = true ↔ ∃ l', Seen P m l 0 l' i')) ∧ ∀ l' : Int, 0 ≤ l' → l' < l → ∃ i : Int, 0 ≤ i ∧ i < m ∧ 0 ≤ M P l' i) ?_ ?_ 0 _ (by omega) (by omega) ?_
  · rintro l c l0 l1 ⟨hc, hs, hb⟩
    have hr := hv.row l l0 l1
    refine Classical.byContradiction fun hno => hno (.inl ?_)
    apply ev_succ
    simp only [semigroupref17_Regular.l0, rdR]
    refine ev_pos l1 (ev_pos l0 (ev_pos l1 ?_))
    rw [hr]
    refine ev_for (α := List Bool × Bool) (g := fun i s n => semigroupref17_Regular.l1 n s.1 s.2 P (P.length : Int) l (R P l) m i G m k P Z) m (fun i s => (s.1.length : Int) = m ∧ (∀ i' : Int, 0 ≤ i' → i' < m → (rdOf false s.1 i' = true ↔ ∃ l', Seen P m l i l' i')) ∧ (s.2 = true ↔ ∃ i', 0 ≤ i' ∧ i' < i ∧ 0 ≤ M P l i')) ?_ ?_ 0 (c, false) (by omega) (by omega) ⟨hc, hs, by simp only [Bool.false_eq_true, false_iff]; rintro ⟨i', a, b, _⟩; omega⟩
    · rintro i ⟨c, b⟩ i0 i1 ⟨h1, h2, h3⟩
      simp only at h1 h2 h3
      right
      by_cases hp : 0 ≤ M P l i
      · refine ⟨(c.set i.toNat true, true), ⟨by simpa using h1, fun i' a0 a1 => ?_, by simp only [true_iff]; exact ⟨i, i0, by omega, hp⟩⟩, fun H => ?_⟩
        · simp only
          rw [rb_set i0 (by omega) a0]
          by_cases hi : i' = i
          · rw [if_pos hi, hi]
            simp only [true_iff]
            exact ⟨l, l0, i0, i1, by omega, hp⟩
          · rw [if_neg hi, h2 i' a0 a1]
            constructor
            · rintro ⟨l', s1, s2, s3, s4, s5⟩; exact ⟨l', s1, s2, s3, by omega, s5⟩
            · rintro ⟨l', s1, s2, s3, s4, s5⟩; exact ⟨l', s1, s2, s3, by omega, s5⟩
        · apply ev_succ
          simp only [semigroupref17_Regular.l1, rdM]
          rw [wrap_add i0 i1 (by omega)]
          exact ev_pos i1 (ev_pos i0 (ev_pos (by omega) (ev_pos hp (ev_pos (by omega) H))))
      · refine ⟨(c, b), ⟨h1, fun i' a0 a1 => ?_, ?_⟩, fun H => ?_⟩
        · simp only
          rw [h2 i' a0 a1]
          constructor
          · rintro ⟨l', s1, s2, s3, s4, s5⟩; exact ⟨l', s1, s2, s3, by omega, s5⟩
          · rintro ⟨l', s1, s2, s3, s4, s5⟩
            have : ¬ (l' = l ∧ i' = i) := by rintro ⟨rfl, rfl⟩; exact hp s5
            exact ⟨l', s1, s2, s3, by omega, s5⟩
        · simp only
          rw [h3]
          constructor
          · rintro ⟨i', a, b, d⟩; exact ⟨i', a, by omega, d⟩
          · rintro ⟨i', a, b, d⟩
            have : i' ≠ i := by rintro rfl; exact hp d
            exact ⟨i', a, by omega, d⟩
        · apply ev_succ
          simp only [semigroupref17_Regular.l1, rdM]
          rw [wrap_add i0 i1 (by omega)]
          exact ev_pos i1 (ev_pos i0 (ev_pos (by omega) (ev_neg hp H)))
    · rintro ⟨c, b⟩ ⟨h1, h2, h3⟩
      simp only at h1 h2 h3
      apply ev_succ
      simp only [semigroupref17_Regular.l1]
      rw [wrap_add l0 l1 (by omega)]
      refine ev_neg (by omega) (ev_ite (fun ht => ?_) (fun ht => ev_some ?_))
      · refine Classical.byContradiction fun hn => hno (.inr ⟨c, ⟨h1, fun i' a0 a1 => ?_, fun l' a0 a1 => ?_⟩, fun H => absurd H hn⟩)
        · rw [h2 i' a0 a1]
          constructor
          · rintro ⟨l', s1, s2, s3, s4, s5⟩; exact ⟨l', s1, s2, s3, by omega, s5⟩
          · rintro ⟨l', s1, s2, s3, s4, s5⟩; exact ⟨l', s1, s2, s3, by omega, s5⟩
        · by_cases hx : l' = l
          · rw [hx]; exact h3.1 ht
          · exact hb l' a0 (by omega)
      · rw [decide_eq_false]
        intro hh
        exact ht (h3.2 (hh.2 l l0 (by omega)))
  · rintro c ⟨hc, hs, hb⟩
    apply ev_succ
    simp only [semigroupref17_Regular.l0]
    refine ev_neg (by omega) (ev_call (semigroupref03_Members_ev (by omega)) (ev_some ?_))
    rw [show ((sel (fun x => rdOf false c x = true) 0 c.length).length == m) = decide ((sel (fun x => rdOf false c x = true) 0 c.length).length = c.length) from ?_]
    · apply decide_eq_decide.2
      rw [sel_full]
      constructor
      · intro hall
        refine ⟨fun i i0 i1 => ?_, fun l a b => hb l a (by omega)⟩
        obtain ⟨l, s1, s2, s3, s4, s5⟩ := (hs i i0 i1).1 (hall i i0 (by omega))
        exact ⟨l, s1, by omega, s5⟩
      · rintro ⟨ha, _⟩ i i0 i1
        obtain ⟨l, a, b, d⟩ := ha i i0 (by omega)
        exact (hs i i0 (by omega)).2 ⟨l, a, i0, by omega, by omega, d⟩
    · rw [Bool.eq_iff_iff]
      simp only [beq_iff_eq, decide_eq_true_eq]
      omega
  · refine ⟨by simp; omega, fun i' a0 a1 => ?_, fun l' a0 a1 => by omega⟩
    rw [rb_rep a0 (by omega)]
    simp only [Bool.false_eq_true, false_iff]
    rintro ⟨l', s1, s2, s3, s4, s5⟩
    omega
end Go.Proofs.Ytnoickhdbinciaa.F
