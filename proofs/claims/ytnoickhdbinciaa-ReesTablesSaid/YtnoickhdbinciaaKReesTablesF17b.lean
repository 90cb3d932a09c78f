/- What the printed functions on Rees matrix semigroups answer: Validate, Size, Number, Mul, of the program and of the reference. No condition but that the parts come in. -/
import Derived.Test.YtnoickhdbinciaaKReesTablesTab
import Derived.Test.YtnoickhdbinciaaKReesTablesF17a
import Derived.Test.YtnoickhdbinciaaKReesTablesP4
namespace Go.Proofs.Ytnoickhdbinciaa.F
open Go.RowKit Go.Proofs.YtnoickhdbinciaaW.PrintWords Go.Proofs.Ytnoickhdbinciaa.B Go.Proofs.Ytnoickhdbinciaa.PAll
set_option linter.unusedVariables false
set_option linter.unusedSimpArgs false
open Classical

def zz (Z : Bool) : Int := if Z = true then 1 else 0
theorem zz_cases (Z : Bool) : zz Z = 0 ∧ Z = false ∨ zz Z = 1 ∧ Z = true := by cases Z <;> simp [zz]
def rsize (G : List (List Int)) (m k : Int) (Z : Bool) : Int := if m > 400 then 401 else if k > 400 then 401 else m * k * (G.length : Int) + zz Z
/-- Of the right shape. -/
structure RSh (G : List (List Int)) (m k : Int) (P : List (List Int)) (Z : Bool) : Prop where
  grp : Grp G
  m1 : 1 ≤ m
  k1 : 1 ≤ k
  len : (P.length : Int) = k
  row : ∀ l : Int, 0 ≤ l → l < (P.length : Int) → ((R P l).length : Int) = m
  ent : ∀ l i : Int, 0 ≤ l → l < (P.length : Int) → 0 ≤ i → i < ((R P l).length : Int) → -1 ≤ M P l i ∧ M P l i < (G.length : Int) ∧ (M P l i < 0 → Z = true)
/-- What Validate answers. -/
noncomputable def rval (G : List (List Int)) (m k : Int) (P : List (List Int)) (Z : Bool) : Int := if RSh G m k P Z then (if rsize G m k Z > 400 then 3 else 0) else 4
/-- Valid. -/
structure RV (G : List (List Int)) (m k : Int) (P : List (List Int)) (Z : Bool) : Prop extends RSh G m k P Z where
  m4 : m ≤ 400
  k4 : k ≤ 400
  sz : m * k * (G.length : Int) + zz Z ≤ 400
theorem rval_rv {G : List (List Int)} {m k : Int} {P : List (List Int)} {Z : Bool} : rval G m k P Z = 0 ↔ RV G m k P Z := by
  unfold rval rsize
  constructor
  · intro h
    split at h
    · rename_i h1
      by_cases hm : m > 400
      · rw [if_pos hm, if_pos (by omega)] at h; omega
      by_cases hk : k > 400
      · rw [if_neg hm, if_pos hk, if_pos (by omega)] at h; omega
      rw [if_neg hm, if_neg hk] at h
      split at h
      · omega
      · exact ⟨h1, by omega, by omega, by omega⟩
    · omega
  · intro h
    rw [if_pos h.toRSh, if_neg]
    rw [if_neg (by have := h.m4; omega), if_neg (by have := h.k4; omega)]
    have := h.sz
    omega
theorem prod_bounds {a b c : Int} (ha0 : 1 ≤ a) (ha : a ≤ 400) (hb0 : 1 ≤ b) (hb : b ≤ 400) (hc0 : 1 ≤ c) (hc : c ≤ 400) : 1 ≤ a * b ∧ a * b ≤ 160000 ∧ 1 ≤ a * b * c ∧ a * b * c ≤ 64000000 := by
  have h1 : 1 * 1 ≤ a * b := Int.mul_le_mul ha0 hb0 (by omega) (by omega)
  have h2 : a * b ≤ 400 * 400 := Int.mul_le_mul ha hb (by omega) (by omega)
  have h3 : 1 * 1 ≤ a * b * c := Int.mul_le_mul (by omega) hc0 (by omega) (by omega)
  have h4 : a * b * c ≤ 160000 * 400 := Int.mul_le_mul (by omega) hc (by omega) (by omega)
  omega
theorem rees_zero_ev {G : List (List Int)} {m k : Int} {P : List (List Int)} {Z : Bool} : rees_zero.f G m k P Z = some (zz Z) := by
  unfold rees_zero.f zz; cases Z <;> simp
theorem semigroupref17_base_ev {G : List (List Int)} {m k : Int} {P : List (List Int)} {Z : Bool} : semigroupref17_base.f G m k P Z = some (zz Z) := by
  unfold semigroupref17_base.f zz; cases Z <;> simp
theorem rees_size_ev {G : List (List Int)} {m k : Int} {P : List (List Int)} {Z : Bool} (hg : Grp G) (m1 : 1 ≤ m) (k1 : 1 ≤ k) : rees_size.f G m k P Z = some (rsize G m k Z) := by
  unfold rees_size.f rsize
  have hp := hg.pos
  have hl := hg.le
  by_cases h1 : m > 400
  · rw [if_pos h1, if_pos h1]
  rw [if_neg h1, if_neg h1]
  by_cases h2 : k > 400
  · rw [if_pos h2, if_pos h2]
  rw [if_neg h2, if_neg h2, rees_zero_ev]
  have hb := prod_bounds m1 (by omega) k1 (by omega) (show 1 ≤ (G.length : Int) by omega) hl
  have hz := zz_cases Z
  simp only [Option.bind_some]
  rw [wrap_in (i := m * k) (by omega) (by omega), wrap_in (i := m * k * (G.length : Int)) (by omega) (by omega), wrap_in (by omega) (by omega)]

/-- A row of P that is wrong. -/
def RBad (G : List (List Int)) (m : Int) (P : List (List Int)) (Z : Bool) (l : Int) : Prop := ((R P l).length : Int) ≠ m ∨ ∃ i : Int, 0 ≤ i ∧ i < ((R P l).length : Int) ∧ (M P l i < -1 ∨ (G.length : Int) ≤ M P l i ∨ (M P l i < 0 ∧ Z = false))
theorem rees_Validate_loop {G : List (List Int)} {m k : Int} {P : List (List Int)} {Z : Bool} (hP : In2 P) {l r : Int} (l0 : 0 ≤ l) (l1 : l < (P.length : Int)) (hb : RBad G m P Z l → 4 = r) (hg : ¬ RBad G m P Z l → Ev (fun n => rees_Validate.l0 n P (P.length : Int) (l + 1) G m k P Z) r) :
    Ev (fun n => rees_Validate.l0 n P (P.length : Int) l G m k P Z) r := by
  have hl := hP.row l0 l1
  apply ev_succ
  simp only [rees_Validate.l0, rdR]
  refine ev_pos l1 (ev_pos l0 (ev_pos l1 (ev_ite (fun hm => ?_) (fun hm => ev_some (hb (.inl hm))))))
  refine ev_for0 (g := fun i n => rees_Validate.l1 n P (P.length : Int) l (R P l) ((R P l).length : Int) i G m k P Z) ((R P l).length : Int) (fun j => ∀ i : Int, 0 ≤ i → i < j → ¬ (M P l i < -1 ∨ (G.length : Int) ≤ M P l i ∨ (M P l i < 0 ∧ Z = false))) ?_ ?_ 0 (by omega) (by omega) (fun i a b => by omega)
  · intro i i0 i1 hi
    by_cases hbad : M P l i < -1 ∨ (G.length : Int) ≤ M P l i ∨ (M P l i < 0 ∧ Z = false)
    · left
      have hr := hb (.inr ⟨i, i0, i1, hbad⟩)
      apply ev_succ
      simp only [rees_Validate.l1, rdM]
      refine ev_pos i1 (ev_pos i0 (ev_pos i1 (ev_ite (fun _ => ev_some hr) (fun h1 => ev_ite (fun _ => ev_some hr) (fun h2 => ?_)))))
      have h3 : M P l i < 0 ∧ Z = false := by
        rcases hbad with h | h | h
        · omega
        · omega
        · exact h
      exact ev_pos h3.1 (ev_neg (by rw [h3.2]; simp) (ev_some hr))
    · right
      refine ⟨fun j j0 j1 => ?_, fun H => ?_⟩
      · by_cases hj : j = i
        · rw [hj]; exact hbad
        · exact hi j j0 (by omega)
      · apply ev_succ
        simp only [rees_Validate.l1, rdM]
        rw [wrap_add i0 i1 (by omega)]
        have hz : M P l i < 0 → Z = true := fun h => by
          cases hZ : Z with
          | true => rfl
          | false => exact absurd (.inr (.inr ⟨h, hZ⟩)) hbad
        exact ev_pos i1 (ev_pos i0 (ev_pos i1 (ev_neg (fun h => hbad (.inl h)) (ev_neg (fun h => hbad (.inr (.inl h))) (ev_ite (fun h => ev_pos (hz h) H) (fun _ => H))))))
  · intro hi
    apply ev_succ
    simp only [rees_Validate.l1]
    rw [wrap_add l0 l1 (by have := hP.1; omega)]
    refine ev_neg (by omega) (hg ?_)
    rintro (h | ⟨i, a, b, c⟩)
    · exact h hm
    · exact hi i a b c
theorem rees_Validate_l0 {G : List (List Int)} {m k : Int} {P : List (List Int)} {Z : Bool} (hP : In2 P) {r : Int} (hb : (∃ l : Int, 0 ≤ l ∧ l < (P.length : Int) ∧ RBad G m P Z l) → 4 = r)
    (he : (∀ l : Int, 0 ≤ l → l < (P.length : Int) → ¬ RBad G m P Z l) → Ev (fun n => rees_Validate.l0 n P (P.length : Int) (P.length : Int) G m k P Z) r) : Ev (fun n => rees_Validate.l0 n P (P.length : Int) 0 G m k P Z) r := by
  refine ev_for0 (g := fun l n => rees_Validate.l0 n P (P.length : Int) l G m k P Z) (P.length : Int) (fun j => ∀ l : Int, 0 ≤ l → l < j → ¬ RBad G m P Z l) ?_ he 0 (by omega) (by omega) (fun l a b => by omega)
  intro l l0 l1 hl
  by_cases hbad : RBad G m P Z l
  · left
    exact rees_Validate_loop hP l0 l1 (fun h => hb ⟨l, l0, l1, h⟩) (fun h => absurd hbad h)
  · right
    refine ⟨fun j j0 j1 => ?_, fun H => rees_Validate_loop hP l0 l1 (fun h => absurd h hbad) (fun _ => H)⟩
    by_cases hj : j = l
    · rw [hj]; exact hbad
    · exact hl j j0 (by omega)

theorem semigroupref17_Validate_loop {G : List (List Int)} {m k : Int} {P : List (List Int)} {Z : Bool} (hP : In2 P) {l r : Int} (l0 : 0 ≤ l) (l1 : l < (P.length : Int)) (hb : RBad G m P Z l → 4 = r) (hg : ¬ RBad G m P Z l → Ev (fun n => semigroupref17_Validate.l0 n P (P.length : Int) (l + 1) G m k P Z) r) :
    Ev (fun n => semigroupref17_Validate.l0 n P (P.length : Int) l G m k P Z) r := by
  have hl := hP.row l0 l1
  apply ev_succ
  simp only [semigroupref17_Validate.l0, rdR]
  refine ev_pos l1 (ev_pos l0 (ev_pos l1 (ev_ite (fun hm => ?_) (fun hm => ev_some (hb (.inl hm))))))
  refine ev_for0 (g := fun i n => semigroupref17_Validate.l1 n P (P.length : Int) l (R P l) ((R P l).length : Int) i G m k P Z) ((R P l).length : Int) (fun j => ∀ i : Int, 0 ≤ i → i < j → ¬ (M P l i < -1 ∨ (G.length : Int) ≤ M P l i ∨ (M P l i < 0 ∧ Z = false))) ?_ ?_ 0 (by omega) (by omega) (fun i a b => by omega)
  · intro i i0 i1 hi
    by_cases hbad : M P l i < -1 ∨ (G.length : Int) ≤ M P l i ∨ (M P l i < 0 ∧ Z = false)
    · left
      have hr := hb (.inr ⟨i, i0, i1, hbad⟩)
      apply ev_succ
      simp only [semigroupref17_Validate.l1, rdM]
      refine ev_pos i1 (ev_pos i0 (ev_pos i1 (ev_ite (fun _ => ev_some hr) (fun h1 => ev_ite (fun _ => ev_some hr) (fun h2 => ?_)))))
      have h3 : M P l i < 0 ∧ Z = false := by
        rcases hbad with h | h | h
        · omega
        · omega
        · exact h
      exact ev_pos h3.1 (ev_neg (by rw [h3.2]; simp) (ev_some hr))
    · right
      refine ⟨fun j j0 j1 => ?_, fun H => ?_⟩
      · by_cases hj : j = i
        · rw [hj]; exact hbad
        · exact hi j j0 (by omega)
      · apply ev_succ
        simp only [semigroupref17_Validate.l1, rdM]
        rw [wrap_add i0 i1 (by omega)]
        have hz : M P l i < 0 → Z = true := fun h => by
          cases hZ : Z with
          | true => rfl
          | false => exact absurd (.inr (.inr ⟨h, hZ⟩)) hbad
        exact ev_pos i1 (ev_pos i0 (ev_pos i1 (ev_neg (fun h => hbad (.inl h)) (ev_neg (fun h => hbad (.inr (.inl h))) (ev_ite (fun h => ev_pos (hz h) H) (fun _ => H))))))
  · intro hi
    apply ev_succ
    simp only [semigroupref17_Validate.l1]
    rw [wrap_add l0 l1 (by have := hP.1; omega)]
    refine ev_neg (by omega) (hg ?_)
    rintro (h | ⟨i, a, b, c⟩)
    · exact h hm
    · exact hi i a b c
theorem semigroupref17_Validate_l0 {G : List (List Int)} {m k : Int} {P : List (List Int)} {Z : Bool} (hP : In2 P) {r : Int} (hb : (∃ l : Int, 0 ≤ l ∧ l < (P.length : Int) ∧ RBad G m P Z l) → 4 = r)
    (he : (∀ l : Int, 0 ≤ l → l < (P.length : Int) → ¬ RBad G m P Z l) → Ev (fun n => semigroupref17_Validate.l0 n P (P.length : Int) (P.length : Int) G m k P Z) r) : Ev (fun n => semigroupref17_Validate.l0 n P (P.length : Int) 0 G m k P Z) r := by
  refine ev_for0 (g := fun l n => semigroupref17_Validate.l0 n P (P.length : Int) l G m k P Z) (P.length : Int) (fun j => ∀ l : Int, 0 ≤ l → l < j → ¬ RBad G m P Z l) ?_ he 0 (by omega) (by omega) (fun l a b => by omega)
  intro l l0 l1 hl
  by_cases hbad : RBad G m P Z l
  · left
    exact semigroupref17_Validate_loop hP l0 l1 (fun h => hb ⟨l, l0, l1, h⟩) (fun h => absurd hbad h)
  · right
    refine ⟨fun j j0 j1 => ?_, fun H => semigroupref17_Validate_loop hP l0 l1 (fun h => absurd h hbad) (fun _ => H)⟩
    by_cases hj : j = l
    · rw [hj]; exact hbad
    · exact hl j j0 (by omega)
theorem rsh_of {G : List (List Int)} {m k : Int} {P : List (List Int)} {Z : Bool} (hg : Grp G) (m1 : 1 ≤ m) (k1 : 1 ≤ k) (hl : (P.length : Int) = k) : (∀ l : Int, 0 ≤ l → l < (P.length : Int) → ¬ RBad G m P Z l) ↔ RSh G m k P Z := by
  constructor
  · intro h
    refine ⟨hg, m1, k1, hl, fun l a b => Classical.byContradiction fun hn => h l a b (.inl hn), fun l i a b c d => ?_⟩
    have hn : ¬ (M P l i < -1 ∨ (G.length : Int) ≤ M P l i ∨ (M P l i < 0 ∧ Z = false)) := fun hx => h l a b (.inr ⟨i, c, d, hx⟩)
    refine ⟨Classical.byContradiction fun hx => hn (.inl (by omega)), Classical.byContradiction fun hx => hn (.inr (.inl (by omega))), fun hx => ?_⟩
    cases hZ : Z with
    | true => rfl
    | false => exact absurd (.inr (.inr ⟨hx, hZ⟩)) hn
  · rintro h l a b (hx | ⟨i, c, d, hx⟩)
    · exact hx (h.row l a b)
    · have := h.ent l i a b c d
      rcases hx with hx | hx | hx
      · omega
      · omega
      · have := this.2.2 hx.1
        rw [hx.2] at this
        cases this
/-- The test of the reference. -/
theorem ref_limit {m k g most : Int} (m1 : 1 ≤ m) (k1 : 1 ≤ k) (g1 : 1 ≤ g) (h0 : 0 ≤ most) : (m > most / g ∨ m * g > most / k) ↔ most < m * k * g := by
  have e : m * k * g = m * g * k := by rw [Int.mul_assoc, Int.mul_comm k g, ← Int.mul_assoc]
  have h1 : m > most / g ↔ most < m * g := Int.ediv_lt_iff_lt_mul (by omega)
  have h2 : m * g > most / k ↔ most < m * g * k := Int.ediv_lt_iff_lt_mul (by omega)
  rw [h1, h2, e]
  have h3 : m * g * 1 ≤ m * g * k := Int.mul_le_mul_of_nonneg_left k1 (Int.mul_nonneg (by omega) (by omega))
  omega
theorem rees_Validate_ev {G : List (List Int)} {m k : Int} {P : List (List Int)} {Z : Bool} (hG : In2 G) (hP : In2 P) : Ev (fun n => rees_Validate.f n G m k P Z) (rval G m k P Z) := by
  have no : ¬ RSh G m k P Z → Ev (fun n => rees_Validate.j0 n true G m k P Z) (rval G m k P Z) := by
    intro h
    unfold rval
    rw [if_neg h]
    apply ev_succ
    simp only [rees_Validate.j0]
    exact ev_pos (by simp) (ev_some rfl)
  unfold rees_Validate.f
  refine ev_call (group_IsGroup_ev hG) (ev_ite (fun hg => ?_) (fun hg => no (fun h => hg (by simpa using h.grp))))
  have hg : Grp G := by simpa using hg
  refine ev_ite (fun h => no (fun hh => by have := hh.m1; omega)) (fun h1 => ev_ite (fun h => no (fun hh => by have := hh.k1; omega)) (fun h2 => ?_))
  by_cases hl : (P.length : Int) = k
  · rw [show ((P.length : Int) != k) = false by simp [hl]]
    apply ev_succ
    simp only [rees_Validate.j0]
    refine ev_neg (by simp) (rees_Validate_l0 hP ?_ ?_)
    · rintro ⟨l, a, b, c⟩
      unfold rval
      rw [if_neg (fun h => (rsh_of hg (by omega) (by omega) hl).2 h l a b c)]
    · intro h
      have hs := (rsh_of hg (by omega) (by omega) hl).1 h
      apply ev_succ
      simp only [rees_Validate.l0]
      refine ev_neg (by omega) ?_
      rw [rees_size_ev hg hs.m1 hs.k1]
      unfold rval
      rw [if_pos hs]
      refine ev_call (ev_some rfl) (ev_ite (fun h => ev_some (by rw [if_pos h])) (fun h => ev_some (by rw [if_neg h])))
  · rw [show ((P.length : Int) != k) = true by simp [hl]]
    exact no (fun h => hl h.len)
theorem semigroupref17_Validate_ev {G : List (List Int)} {m k : Int} {P : List (List Int)} {Z : Bool} (hG : In2 G) (hP : In2 P) : Ev (fun n => semigroupref17_Validate.f n G m k P Z) (rval G m k P Z) := by
  have no : ¬ RSh G m k P Z → Ev (fun n => semigroupref17_Validate.j0 n true G m k P Z) (rval G m k P Z) := by
    intro h
    unfold rval
    rw [if_neg h]
    apply ev_succ
    simp only [semigroupref17_Validate.j0]
    exact ev_pos (by simp) (ev_some rfl)
  unfold semigroupref17_Validate.f
  refine ev_call (semigroupref16_IsGroup_ev hG) (ev_ite (fun hg => ?_) (fun hg => no (fun h => hg (by simpa using h.grp))))
  have hg : Grp G := by simpa using hg
  refine ev_ite (fun h => no (fun hh => by have := hh.m1; omega)) (fun h1 => ev_ite (fun h => no (fun hh => by have := hh.k1; omega)) (fun h2 => ?_))
  by_cases hl : (P.length : Int) = k
  · rw [show ((P.length : Int) != k) = false by simp [hl]]
    apply ev_succ
    simp only [semigroupref17_Validate.j0]
    refine ev_neg (by simp) (semigroupref17_Validate_l0 hP ?_ ?_)
    · rintro ⟨l, a, b, c⟩
      unfold rval
      rw [if_neg (fun h => (rsh_of hg (by omega) (by omega) hl).2 h l a b c)]
    · intro h
      have hs := (rsh_of hg (by omega) (by omega) hl).1 h
      have hp := hg.pos
      have hle := hg.le
      have m1 := hs.m1
      have k1 := hs.k1
      unfold rval
      rw [if_pos hs]
      have hlim : ∀ most : Int, 0 ≤ most → most + zz Z = 400 → ((m > most / (G.length : Int) ∨ m * (G.length : Int) > most / k) ↔ rsize G m k Z > 400) := by
        intro most m0 hz
        rw [ref_limit m1 k1 (by omega) m0]
        unfold rsize
        have hmk : m * 1 ≤ m * k := Int.mul_le_mul_of_nonneg_left k1 (by omega)
        have hkm : 1 * k ≤ m * k := Int.mul_le_mul_of_nonneg_right m1 (by omega)
        have hmg : m * k * 1 ≤ m * k * (G.length : Int) := Int.mul_le_mul_of_nonneg_left (by omega) (by omega)
        have hzc := zz_cases Z
        split
        · omega
        split
        · omega
        · omega
      have last : ∀ most : Int, 0 ≤ most → most ≤ 400 → most + zz Z = 400 → Ev (fun n => if m > wrap64 (most / (G.length : Int)) then some (3 : Int) else (if k = 0 then none else (if wrap64 (m * (G.length : Int)) > wrap64 (most / k) then some 3 else some 0))) (if rsize G m k Z > 400 then 3 else 0) := by
        intro most m0 m4 hz
        have d1 : most / (G.length : Int) ≤ most := Int.ediv_le_self _ m0
        have d2 : 0 ≤ most / (G.length : Int) := Int.ediv_nonneg m0 (by omega)
        have d3 : most / k ≤ most := Int.ediv_le_self _ m0
        have d4 : 0 ≤ most / k := Int.ediv_nonneg m0 (by omega)
        rw [wrap_in (i := most / (G.length : Int)) (by omega) (by omega), wrap_in (i := most / k) (by omega) (by omega)]
        have hh := hlim most m0 hz
        refine ev_ite (fun h => ev_some (by rw [if_pos (hh.1 (.inl h))])) (fun h => ev_neg (by omega) ?_)
        have hb : m * (G.length : Int) ≤ 400 * 400 := Int.mul_le_mul (by omega) hle (by omega) (by omega)
        have hb2 : 0 ≤ m * (G.length : Int) := Int.mul_nonneg (by omega) (by omega)
        rw [wrap_in (i := m * (G.length : Int)) (by omega) (by omega)]
        refine ev_ite (fun h3 => ev_some (by rw [if_pos (hh.1 (.inr h3))])) (fun h3 => ev_some (by rw [if_neg (fun hx => by rcases hh.2 hx with h4 | h4 <;> omega)]))
      apply ev_succ
      simp only [semigroupref17_Validate.l0]
      refine ev_neg (by omega) (ev_ite (fun hZ => ev_neg (by omega) ?_) (fun hZ => ev_neg (by omega) ?_))
      · exact last (400 - 1) (by omega) (by omega) (by simp [zz, hZ])
      · exact last 400 (by omega) (by omega) (by simp [zz, hZ])
  · rw [show ((P.length : Int) != k) = true by simp [hl]]
    exact no (fun h => hl h.len)
end Go.Proofs.Ytnoickhdbinciaa.F
