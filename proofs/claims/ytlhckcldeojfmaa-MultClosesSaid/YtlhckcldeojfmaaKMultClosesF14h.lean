/- What the printed functions Sub answer, of the program and of the reference. No condition but that a table and a list come in. -/
import Derived.Test.YtlhckcldeojfmaaKMultClosesTab
import Derived.Test.YtlhckcldeojfmaaKMultClosesF14i
import Derived.Test.YtlhckcldeojfmaaKMultClosesF14b
import Derived.Test.YtlhckcldeojfmaaKMultClosesF14s
import Derived.Test.YtlhckcldeojfmaaKMultClosesP2
namespace Go.Proofs.Ytlhckcldeojfmaa.F
open Go.RowKit Go.Proofs.YtlhckcldeojfmaaW.PrintWords Go.Proofs.Ytlhckcldeojfmaa.B Go.Proofs.Ytlhckcldeojfmaa.PAll
set_option linter.unusedVariables false
set_option linter.unusedSimpArgs false
open Classical

def Ascd (l : List Int) : Prop := ∀ i : Int, 0 < i → i < (l.length : Int) → rd l (i - 1) < rd l i
theorem asc_lt {l : List Int} {i : Int} (h : ∀ j : Int, 0 < j → j ≤ i → rd l (j - 1) < rd l j) {a : Int} (a0 : 0 ≤ a) (a1 : a < i) : rd l a < rd l i := by
  obtain ⟨d, hd⟩ : ∃ d : Nat, i = a + 1 + d := ⟨(i - a - 1).toNat, by omega⟩
  induction d generalizing i with
  | zero =>
    have := h i (by omega) (by omega)
    rwa [show i - 1 = a by omega] at this
  | succ d ih =>
    have h1 := ih (i := i - 1) (fun j a b => h j a (by omega)) (by omega) (by omega)
    have := h i (by omega) (by omega)
    omega
noncomputable def atUp (l : List Int) (i : Nat) (x : Int) : Int := first i (fun j => rd l j = x)
theorem atUp_step {l : List Int} {i : Nat} {x : Int} (h : ∀ j : Int, 0 < j → j ≤ (i : Int) → rd l (j - 1) < rd l j) : atUp l (i + 1) x = if x = rd l i then (i : Int) else atUp l i x := by
  unfold atUp
  by_cases hx : x = rd l i
  · rw [if_pos hx]
    refine first_eq (by omega) (by omega) hx.symm fun j j0 j1 hj => ?_
    have := asc_lt h j0 j1
    omega
  · rw [if_neg hx]
    rcases first_spec (n := i) (P := fun j => rd l j = x) with ⟨e, hn⟩ | ⟨a, b, c, d⟩
    · rw [e]
      refine first_no fun j j0 j1 hj => ?_
      by_cases hji : j = (i : Int)
      · rw [hji] at hj; exact hx hj.symm
      · exact hn j j0 (by omega) hj
    · exact first_eq a (by omega) c d
/-- The places of the elements of l. -/
def AtInv (l : List Int) (n : Nat) (i : Nat) (at_ : List Int) : Prop := at_.length = n ∧ ∀ x : Int, 0 ≤ x → x < n → rd at_ x = atUp l i x
theorem AtInv.step {l : List Int} {n i : Nat} {at_ : List Int} (h : AtInv l n i at_) (ha : ∀ j : Int, 0 < j → j ≤ (i : Int) → rd l (j - 1) < rd l j) (g0 : 0 ≤ rd l i) (g1 : rd l i < n) : AtInv l n (i + 1) (at_.set (rd l i).toNat (i : Int)) := by
  refine ⟨by simpa using h.1, fun x x0 x1 => ?_⟩
  have hl := h.1
  rw [rd_set g0 (by omega) x0, atUp_step ha]
  by_cases hx : x = rd l i
  · rw [if_pos hx, if_pos hx]
  · rw [if_neg hx, if_neg hx]; exact h.2 x x0 x1
theorem AtInv.zero {l : List Int} {n : Nat} {at_ : List Int} (hl : at_.length = n) (h : ∀ x : Int, 0 ≤ x → x < n → rd at_ x = -1) : AtInv l n 0 at_ := ⟨hl, fun x a b => by
  rw [h x a b]
  exact (first_no (n := 0) (fun i a b => by omega)).symm⟩
def SubBad (t : List (List Int)) (l : List Int) (i j : Int) : Prop := atUp l l.length (M t (rd l i) (rd l j)) < 0
/-- What Sub answers. -/
noncomputable def subR (t : List (List Int)) (l : List Int) : List (List Int) × Int :=
  if val t = 0 then (if El t l ∧ Ascd l ∧ 0 < l.length then (if ∃ i j : Int, 0 ≤ i ∧ i < (l.length : Int) ∧ 0 ≤ j ∧ j < (l.length : Int) ∧ SubBad t l i j then ([], 9) else (tab l.length fun i j => atUp l l.length (M t (rd l i) (rd l j)), 0)) else ([], 1)) else ([], val t)

theorem mult_Sub_l0 {t : List (List Int)} {l : List Int} {n : Nat} (hn : n ≤ 400) {r : List (List Int) × Int} {a0 : List Int} (hl : a0.length = n) (H : ∀ a, AtInv l n 0 a → Ev (fun k => mult_Sub.l1 k t l a l (l.length : Int) 0) r) : Ev (fun k => mult_Sub.l0 k t l a0 (n : Int) 0) r := by
  refine ev_for (α := List Int) (g := fun x a k => mult_Sub.l0 k t l a (n : Int) x) (n : Int) (fun x a => a.length = n ∧ ∀ y : Int, 0 ≤ y → y < x → rd a y = -1) ?_ ?_ 0 a0 (by omega) (by omega) ⟨hl, fun y a b => by omega⟩
  · intro x a x0 x1 ⟨h1, h2⟩
    right
    refine ⟨a.set x.toNat (-1), ⟨by simpa using h1, fun y y0 y1 => ?_⟩, fun H => ?_⟩
    · rw [rd_set x0 (by omega) y0]
      by_cases hy : y = x
      · rw [if_pos hy]
      · rw [if_neg hy]; exact h2 y y0 (by omega)
    · apply ev_succ
      simp only [mult_Sub.l0]
      rw [wrap_add x0 x1 (by omega)]
      exact ev_pos x1 (ev_pos x0 (ev_pos (by omega) H))
  · intro a ⟨h1, h2⟩
    apply ev_succ
    simp only [mult_Sub.l0]
    exact ev_neg (by omega) (H a (.zero h1 h2))

theorem mult_Sub_l2 {t : List (List Int)} (hs : Sq t) {l : List Int} (hl : l.length ≤ 400) (hE : El t l) {a : List Int} (ha : AtInv l t.length l.length a) : Ev (fun k => mult_Sub.l2 k t l a (List.replicate l.length []) l (l.length : Int) 0) (if ∃ i j : Int, 0 ≤ i ∧ i < (l.length : Int) ∧ 0 ≤ j ∧ j < (l.length : Int) ∧ SubBad t l i j then ([], 9) else (tab l.length fun i j => atUp l l.length (M t (rd l i) (rd l j)), 0)) := by
  have hle := hs.le
  have hel : ∀ i : Int, 0 ≤ i → i < (l.length : Int) → 0 ≤ rd l i ∧ rd l i < (t.length : Int) := fun i a b => hE _ (rd_mem a b)
  have hat : ∀ i j : Int, 0 ≤ i → i < (l.length : Int) → 0 ≤ j → j < (l.length : Int) → 0 ≤ M t (rd l i) (rd l j) ∧ M t (rd l i) (rd l j) < (a.length : Int) ∧ rd a (M t (rd l i) (rd l j)) = atUp l l.length (M t (rd l i) (rd l j)) := by
    intro i j i0 i1 j0 j1
    have h1 := hel i i0 i1
    have h2 := hel j j0 j1
    have h3 := hs.lo _ _ h1.1 h1.2 h2.1 h2.2
    have h4 := hs.hi _ _ h1.1 h1.2 h2.1 h2.2
    have := ha.1
    exact ⟨h3, by omega, ha.2 _ h3 (by omega)⟩
  have stp : ∀ (i j : Int) (out : List (List Int)) (r : List (List Int) × Int), 0 ≤ i → i < (l.length : Int) → 0 ≤ j → j < (l.length : Int) → out.length = l.length → (R out i).length = l.length → (SubBad t l i j → ([], 9) = r) →
      (¬ SubBad t l i j → Ev (fun k => mult_Sub.l3 k t l a (out.set i.toNat ((R out i).set j.toNat (atUp l l.length (M t (rd l i) (rd l j))))) i (rd l i) l (l.length : Int) i l (l.length : Int) (j + 1)) r) → Ev (fun k => mult_Sub.l3 k t l a out i (rd l i) l (l.length : Int) i l (l.length : Int) j) r := by
    intro i j out r i0 i1 j0 j1 ho hr hb hg
    obtain ⟨b1, b2, b3⟩ := hat i j i0 i1 j0 j1
    have h1 := hel i i0 i1
    have h2 := hel j j0 j1
    have r1 := hs.row _ h1.1 h1.2
    unfold SubBad at hb hg
    rw [← b3] at hb hg
    apply ev_succ
    simp only [mult_Sub.l3, rdR, rdM]
    rw [wrap_add j0 j1 (by omega)]
    refine ev_pos j1 (ev_pos j0 (ev_pos j1 (ev_pos h1.1 (ev_pos h1.2 (ev_pos h2.1 (ev_pos (by omega) (ev_pos b1 (ev_pos b2 (ev_ite (fun h => ev_some (hb h)) (fun h => ev_pos i0 (ev_pos (by omega) (ev_pos (by omega) (hg h)))))))))))))
  have row : ∀ (i : Int) (out : List (List Int)) (r : List (List Int) × Int), 0 ≤ i → i < (l.length : Int) → out.length = l.length → Ev (fun k => mult_Sub.l3 k t l a (out.set i.toNat (List.replicate l.length 0)) i (rd l i) l (l.length : Int) i l (l.length : Int) 0) r → Ev (fun k => mult_Sub.l2 k t l a out l (l.length : Int) i) r := by
    intro i out r i0 i1 ho H
    apply ev_succ
    simp only [mult_Sub.l2]
    exact ev_pos i1 (ev_pos i0 (ev_pos i1 (ev_pos (by omega) (ev_pos (by omega) (ev_pos (by omega) H)))))
  have nxt : ∀ (i : Int) (out : List (List Int)) (r : List (List Int) × Int), 0 ≤ i → i < (l.length : Int) → Ev (fun k => mult_Sub.l2 k t l a out l (l.length : Int) (i + 1)) r → Ev (fun k => mult_Sub.l3 k t l a out i (rd l i) l (l.length : Int) i l (l.length : Int) (l.length : Int)) r := by
    intro i out r i0 i1 H
    apply ev_succ
    simp only [mult_Sub.l3]
    rw [wrap_add i0 i1 (by omega)]
    exact ev_neg (by omega) H
  by_cases hbad : ∃ i j : Int, 0 ≤ i ∧ i < (l.length : Int) ∧ 0 ≤ j ∧ j < (l.length : Int) ∧ SubBad t l i j
  · rw [if_pos hbad]
    refine ev_for (α := List (List Int)) (g := fun i out k => mult_Sub.l2 k t l a out l (l.length : Int) i) (l.length : Int) (fun i out => out.length = l.length ∧ ∀ i' j : Int, 0 ≤ i' → i' < i → 0 ≤ j → j < (l.length : Int) → ¬ SubBad t l i' j) ?_ ?_ 0 _ (by omega) (by omega) ⟨by simp, fun i' j a b => by omega⟩
    · intro i out i0 i1 ⟨h1, h2⟩
      refine Classical.byContradiction fun hno => hno (.inl (row i out _ i0 i1 h1 ?_))
      refine ev_for (α := List (List Int)) (g := fun j out k => mult_Sub.l3 k t l a out i (rd l i) l (l.length : Int) i l (l.length : Int) j) (l.length : Int) (fun j out => out.length = l.length ∧ (R out i).length = l.length ∧ ∀ j' : Int, 0 ≤ j' → j' < j → ¬ SubBad t l i j') ?_ ?_ 0 _ (by omega) (by omega) ⟨by simpa using h1, by rw [R_set i0 (by omega) i0, if_pos rfl]; simp, fun j' a b => by omega⟩
      · intro j out j0 j1 ⟨q1, q2, q3⟩
        by_cases hb : SubBad t l i j
        · exact .inl (stp i j out _ i0 i1 j0 j1 q1 q2 (fun _ => rfl) (fun h => absurd hb h))
        · refine .inr ⟨_, ⟨by simpa using q1, ?_, fun j' a b => ?_⟩, fun H => stp i j out _ i0 i1 j0 j1 q1 q2 (fun h => absurd h hb) (fun _ => H)⟩
          · rw [R_set i0 (by omega) i0, if_pos rfl]; simpa using q2
          · by_cases hjj : j' = j
            · rw [hjj]; exact hb
            · exact q3 j' a (by omega)
      · intro out ⟨q1, q2, q3⟩
        refine nxt i out _ i0 i1 (Classical.byContradiction fun hn => hno (.inr ⟨out, ⟨q1, fun i' j a b c d => ?_⟩, fun H => absurd H hn⟩))
        by_cases hii : i' = i
        · rw [hii]; exact q3 j c d
        · exact h2 i' j a (by omega) c d
    · intro out ⟨h1, h2⟩
      obtain ⟨i, j, a, b, c, d, e⟩ := hbad
      exact absurd e (h2 i j a b c d)
  · rw [if_neg hbad]
    have hgood : ∀ i j : Int, 0 ≤ i → i < (l.length : Int) → 0 ≤ j → j < (l.length : Int) → ¬ SubBad t l i j := fun i j a b c d e => hbad ⟨i, j, a, b, c, d, e⟩
    refine ev_fill (g0 := fun i out k => mult_Sub.l2 k t l a out l (l.length : Int) i) (g1 := fun i j out k => mult_Sub.l3 k t l a out i (rd l i) l (l.length : Int) i l (l.length : Int) j) l.length (fun i j => atUp l l.length (M t (rd l i) (rd l j))) _ (by simp) ?_ ?_ ?_ ?_
    · intro i out i0 i1 ho hR
      exact ⟨out.set i.toNat (List.replicate l.length 0), by simpa using ho, fun x' a b c => by rw [R_set i0 (by omega) a, if_neg c], by rw [R_set i0 (by omega) i0, if_pos rfl]; simp, row i out _ i0 i1 ho⟩
    · intro i j out i0 i1 j0 j1 ho hr H
      exact stp i j out _ i0 i1 j0 j1 ho hr (fun h => absurd h (hgood i j i0 i1 j0 j1)) (fun _ => H)
    · intro i out i0 i1 ho H
      exact nxt i out _ i0 i1 H
    · apply ev_succ
      simp only [mult_Sub.l2]
      exact ev_neg (by omega) (ev_some rfl)
theorem asc_len {t : List (List Int)} {l : List Int} (hE : El t l) (ha : Ascd l) : l.length ≤ t.length := by
  by_cases h0 : l.length = 0
  · omega
  have key : ∀ i : Nat, i < l.length → (i : Int) ≤ rd l i := by
    intro i
    induction i with
    | zero => intro h; exact (hE _ (rd_mem (by omega) (by omega))).1
    | succ i ih =>
      intro h
      have h1 := ih (by omega)
      have h2 := ha ((i + 1 : Nat) : Int) (by omega) (by omega)
      rw [show ((i + 1 : Nat) : Int) - 1 = (i : Int) by omega] at h2
      omega
  have h1 := key (l.length - 1) (by omega)
  have h2 := (hE (rd l ((l.length - 1 : Nat) : Int)) (rd_mem (by omega) (by omega))).2
  omega
theorem mult_Sub_ev {t : List (List Int)} {l : List Int} (ht : In2 t) (hl : l.length ≤ 9223372036854775807) : Ev (fun k => mult_Sub.f k t l) (subR t l) := by
  have bad : val t = 0 → ¬ (El t l ∧ Ascd l ∧ 0 < l.length) → (([] : List (List Int)), (1 : Int)) = subR t l := fun h hn => by unfold subR; rw [if_pos h, if_neg hn]
  have no : val t = 0 → ¬ (El t l ∧ Ascd l ∧ 0 < l.length) → Ev (fun k => mult_Sub.j0 k t l true) (subR t l) := by
    intro h hn
    apply ev_succ
    simp only [mult_Sub.j0]
    exact ev_pos (by simp) (ev_some (bad h hn))
  unfold mult_Sub.f
  refine ev_call (mult_Validate_ev ht) (ev_ite (fun h => ?_) (fun h => ev_some (by unfold subR; rw [if_neg h])))
  refine ev_ite (fun h0 => no h (fun hh => by omega)) (fun h0 => ev_call (mult_elements_ev hl) ?_)
  by_cases hE : El t l
  · simp only [hE, decide_true, Bool.not_true]
    have hs := (va_of h).toSq
    have hle := hs.le
    apply ev_succ
    simp only [mult_Sub.j0]
    refine ev_neg (by simp) (ev_pos (by omega) (ev_pos (by omega) (ev_call (ev_some rfl) ?_)))
    rw [List.length_replicate, Int.toNat_natCast]
    refine mult_Sub_l0 (by omega) (by simp) fun a ha => ?_
    refine ev_for (α := List Int) (g := fun i a k => mult_Sub.l1 k t l a l (l.length : Int) i) (l.length : Int) (fun i a => AtInv l t.length i.toNat a ∧ ∀ j : Int, 0 < j → j < i → rd l (j - 1) < rd l j) ?_ ?_ 0 a (by omega) (by omega) ⟨ha, fun j a b => by omega⟩
    · intro i a i0 i1 ⟨h1, h2⟩
      have hg := hE _ (rd_mem i0 i1)
      have hlen := h1.1
      have go : (∀ j : Int, 0 < j → j ≤ i → rd l (j - 1) < rd l j) → AtInv l t.length (i + 1).toNat (a.set (rd l i).toNat i) ∧ ∀ j : Int, 0 < j → j < i + 1 → rd l (j - 1) < rd l j := by
        intro hasc
        refine ⟨?_, fun j a b => hasc j a (by omega)⟩
        have := h1.step (by rw [Int.toNat_of_nonneg i0]; exact hasc) (by rw [Int.toNat_of_nonneg i0]; exact hg.1) (by rw [Int.toNat_of_nonneg i0]; exact hg.2)
        rw [Int.toNat_of_nonneg i0] at this
        rwa [show (i + 1).toNat = i.toNat + 1 by omega]
      by_cases hi : i > 0
      · by_cases hd : rd l (i - 1) ≥ rd l i
        · left
          have hb := bad h (fun hh => by have := hh.2.1 i hi i1; omega)
          apply ev_succ
          simp only [mult_Sub.l1]
          rw [wrap_in (i := i - 1) (by omega) (by omega)]
          exact ev_pos i1 (ev_pos i0 (ev_pos i1 (ev_pos hi (ev_pos (by omega) (ev_pos (by omega) (ev_pos hd (ev_some hb)))))))
        · right
          refine ⟨_, go (fun j a b => ?_), fun H => ?_⟩
          · by_cases hji : j = i
            · rw [hji]; omega
            · exact h2 j a (by omega)
          · apply ev_succ
            simp only [mult_Sub.l1]
            rw [wrap_in (i := i - 1) (by omega) (by omega), wrap_add i0 i1 (by omega)]
            exact ev_pos i1 (ev_pos i0 (ev_pos i1 (ev_pos hi (ev_pos (by omega) (ev_pos (by omega) (ev_neg hd (ev_pos hg.1 (ev_pos (by omega) H))))))))
      · right
        refine ⟨_, go (fun j a b => by omega), fun H => ?_⟩
        apply ev_succ
        simp only [mult_Sub.l1]
        rw [wrap_add i0 i1 (by omega)]
        exact ev_pos i1 (ev_pos i0 (ev_pos i1 (ev_neg hi (ev_pos hg.1 (ev_pos (by omega) H)))))
    · intro a ⟨h1, h2⟩
      have hasc : Ascd l := fun i a b => h2 i a b
      have hlt := asc_len hE hasc
      apply ev_succ
      simp only [mult_Sub.l1]
      refine ev_neg (by omega) (ev_pos (by omega) (ev_pos (by omega) ?_))
      unfold subR
      rw [if_pos h, if_pos ⟨hE, hasc, by omega⟩, Int.toNat_natCast]
      exact mult_Sub_l2 hs (by omega) hE (by simpa using h1)
  · simp only [hE, decide_false, Bool.not_false]
    exact no h (fun hh => hE hh.1)
end Go.Proofs.Ytlhckcldeojfmaa.F
