/- Rees matrix semigroups: zero, size, Validate, number. What they answer. No condition but that a structure comes in. -/
import Derived.Test.YtnoickhdbinciaaRReesValidatesF4
set_option linter.unusedVariables false
set_option linter.unusedSimpArgs false
namespace Go.Ab
open Go
theorem ev_siisb {A : Type} {Q : A → AH → Prop} {H : AH} {p : Pt} {a b : Sl} {m k : Int} {z : Bool} {K : (ρ : Type) → Nat → (A → AH → Option ρ) → Sl → Int → Int → Sl → Bool → Option ρ} (hp : At1 H p [.sl a, .int .i64 m, .int .i64 k, .sl b, .bool z])
    (hK : Ev (fun ρ n κ => K ρ n κ a m k b z) Q) : Ev (fun ρ n κ => ldA_siisb H p (K ρ n κ)) Q := by
  unfold ldA_siisb
  refine ev_ldnB (n := 5) hp rfl ?_
  simpa [castLfs, castLf, asS, asI, asB] using hK
theorem rees_zero_ev {g q : Sl} {m k : Int} {Z : Bool} {H : AH} {lo : Nat} : Ev (fun ρ n κ => rees_zero n g m k q Z lo H κ) (fun v H' => v = zz Z ∧ Le H H') := by
  refine ev_eq (fun _ k _ => rees_zero_eq k) (ev_alcB fun p H2 hp _ l2 => ev_fldB hp rfl (ev_b (fun h => ev_ret ⟨by simp [zz, h], l2⟩) (fun h => ev_ret ⟨by simp [zz, h], l2⟩)))
theorem rees_size_ev {g q : Sl} {m k : Int} {Z : Bool} {G : List (List Int)} {H : AH} {lo : Nat} (hl : g.len = G.length) (hg : Grp G) (m1 : 1 ≤ m) (k1 : 1 ≤ k) : Ev (fun ρ n κ => rees_size n g m k q Z lo H κ) (fun v H' => v = rsize G m k Z ∧ Le H H') := by
  have hz := zz_cases Z
  have hpos := hg.pos
  have hle := hg.le
  refine ev_eq (fun _ k _ => rees_size_eq k) (ev_alcB fun p H2 hp _ l2 => ev_fldI hp rfl (ev_orP (c := k > 400) (fun _ => ev_fldI hp rfl (ev_ret ⟨rfl, rfl⟩)) (ev_if (fun h => ev_ret ⟨?_, l2⟩) (fun h => ?_))))
  · unfold rsize; split
    · rfl
    · rw [if_pos (by omega)]
  refine ev_fldI hp rfl (ev_fldI hp rfl (ev_fldS hp rfl (ev_siisb hp (ev_call rees_zero_ev fun v H21 ⟨e, l21⟩ => ev_ret ⟨?_, l2.trans l21⟩))))
  subst e
  obtain ⟨b1, b2, b3, b4⟩ := prod_bounds m1 (by omega) k1 (by omega) hpos hle
  rw [hl, W_in (i := m * k) (by omega) (by omega), W_in (i := m * k * (G.length : Int)) (by omega) (by omega), W_in (by omega) (by omega)]
  unfold rsize
  rw [if_neg (by omega), if_neg (by omega)]
theorem rees_Validate_l2 {g q r : Sl} {m k : Int} {Z : Bool} {G P : List (List Int)} {H : AH} {lo : Nat} {Q : Int → AH → Prop} {p : Pt} (hp : At1 H p [.sl g, .int .i64 m, .int .i64 k, .sl q, .bool Z]) (hG : g.len = G.length) (hP : In2 P) (hq : Tab H q P) {l : Int} (l0 : 0 ≤ l) (l1 : l < (P.length : Int)) (hr : Row H r (R P l)) (hrm : ((R P l).length : Int) = m)
    (hb : RBad G m P Z l → Q 4 H) (hg : ¬ RBad G m P Z l → Ev (fun ρ n κ => rees_Validate_1 n (some p) q (P.length : Int) (l + 1) lo H κ) Q) :
    Ev (fun ρ n κ => rees_Validate_2 n (some p) q (P.length : Int) l r ((R P l).length : Int) 0 lo H κ) Q := by
  have hl := hP.row l0 l1
  have hPl := hP.1
  refine ev_for0 (g := fun i ρ n κ => rees_Validate_2 n (some p) q (P.length : Int) l r ((R P l).length : Int) i lo H κ) ((R P l).length : Int) (fun i => ∀ i' : Int, 0 ≤ i' → i' < i → ¬ (M P l i' < -1 ∨ (G.length : Int) ≤ M P l i' ∨ (M P l i' < 0 ∧ Z = false))) ?_ ?_ 0 (by omega) (by omega) (fun i a b => by omega)
  · intro i i0 i1 hi
    have step : ∀ Q' : Int → AH → Prop, ((M P l i < -1 ∨ (G.length : Int) ≤ M P l i ∨ (M P l i < 0 ∧ Z = false)) → Q' 4 H) → (¬ (M P l i < -1 ∨ (G.length : Int) ≤ M P l i ∨ (M P l i < 0 ∧ Z = false)) → Ev (fun ρ n κ => rees_Validate_2 n (some p) q (P.length : Int) l r ((R P l).length : Int) (i + 1) lo H κ) Q') →
        Ev (fun ρ n κ => rees_Validate_2 n (some p) q (P.length : Int) l r ((R P l).length : Int) i lo H κ) Q' := by
      intro Q' c1 c2
      refine ev_eq (fun _ k _ => rees_Validate_2_eq k) (ev_pos i1 (ev_rdI hr i0 i1 (ev_orP (c := M P l i ≥ (g.len : Int)) (fun _ => ev_fldS hp rfl (ev_ret ⟨rfl, rfl⟩)) ?_)))
      refine ev_orP (c := M P l i < 0 ∧ Z = false) (fun _ => ev_andP (c := Z = false) (fun _ => ev_fldB hp rfl (ev_ret ⟨by cases Z <;> rfl, rfl⟩)) (ev_ret ⟨rfl, rfl⟩)) (ev_if (fun h => ev_ret (c1 ?_)) (fun h => ?_))
      · rw [hG] at h
        rcases h with (h | h) | h
        · exact .inl h
        · exact .inr (.inl h)
        · exact .inr (.inr h)
      · rw [W_add i0 i1 (by omega)]
        refine c2 fun hx => h ?_
        rw [hG]
        rcases hx with h | h | h
        · exact .inl (.inl h)
        · exact .inl (.inr h)
        · exact .inr h
    by_cases hbad : M P l i < -1 ∨ (G.length : Int) ≤ M P l i ∨ (M P l i < 0 ∧ Z = false)
    · exact .inl (step _ (fun _ => hb (.inr ⟨i, i0, i1, hbad⟩)) (fun h => absurd hbad h))
    · refine .inr ⟨fun j j0 j1 => ?_, fun H' => step _ (fun h => absurd h hbad) (fun _ => H')⟩
      by_cases hj : j = i
      · rw [hj]; exact hbad
      · exact hi j j0 (by omega)
  · intro hi
    refine ev_eq (fun _ k _ => rees_Validate_2_eq k) (ev_neg (by omega) ?_)
    rw [W_add l0 l1 (by omega)]
    refine hg ?_
    rintro (h | ⟨i, a, b, c⟩)
    · exact h hrm
    · exact hi i a b c
theorem rees_Validate_l1 {g q : Sl} {m k : Int} {Z : Bool} {G P : List (List Int)} {H : AH} {lo : Nat} {Q : Int → AH → Prop} {p : Pt} (hp : At1 H p [.sl g, .int .i64 m, .int .i64 k, .sl q, .bool Z]) (hG : g.len = G.length) (hP : In2 P) (hq : Tab H q P)
    (hb : (∃ l : Int, 0 ≤ l ∧ l < (P.length : Int) ∧ RBad G m P Z l) → Q 4 H) (hg : (∀ l : Int, 0 ≤ l → l < (P.length : Int) → ¬ RBad G m P Z l) → Ev (fun ρ n κ => rees_size n g m k q Z H.length H fun v11 H12 => bif decide (v11 > 400) then κ 3 H12 else κ 0 H12) Q) :
    Ev (fun ρ n κ => rees_Validate_1 n (some p) q (P.length : Int) 0 lo H κ) Q := by
  refine ev_for0 (g := fun l ρ n κ => rees_Validate_1 n (some p) q (P.length : Int) l lo H κ) (P.length : Int) (fun l => ∀ l' : Int, 0 ≤ l' → l' < l → ¬ RBad G m P Z l') ?_ ?_ 0 (by omega) (by omega) (fun l a b => by omega)
  · intro l l0 l1 hl
    have step : ∀ Q' : Int → AH → Prop, (RBad G m P Z l → Q' 4 H) → (¬ RBad G m P Z l → Ev (fun ρ n κ => rees_Validate_1 n (some p) q (P.length : Int) (l + 1) lo H κ) Q') → Ev (fun ρ n κ => rees_Validate_1 n (some p) q (P.length : Int) l lo H κ) Q' := by
      intro Q' c1 c2
      refine ev_eq (fun _ k _ => rees_Validate_1_eq k) (ev_pos l1 (ev_rdS hq l0 l1 fun r hr => ?_))
      rw [hr.len]
      refine ev_fldI hp rfl (ev_nif (fun h => ev_ret (c1 (.inl h))) (fun h => rees_Validate_l2 hp hG hP hq l0 l1 hr h c1 c2))
    by_cases hbad : RBad G m P Z l
    · exact .inl (step _ (fun _ => hb ⟨l, l0, l1, hbad⟩) (fun h => absurd hbad h))
    · refine .inr ⟨fun j j0 j1 => ?_, fun H' => step _ (fun h => absurd h hbad) (fun _ => H')⟩
      by_cases hj : j = l
      · rw [hj]; exact hbad
      · exact hl j j0 (by omega)
  · intro hl
    exact ev_eq (fun _ k _ => rees_Validate_1_eq k) (ev_neg (by omega) (ev_siisb hp (hg hl)))
theorem rees_Validate_ev {g q : Sl} {m k : Int} {Z : Bool} {G P : List (List Int)} {H : AH} {lo : Nat} (hG : In2 G) (hg : Tab H g G) (hP : In2 P) (hq : Tab H q P) : Ev (fun ρ n κ => rees_Validate n g m k q Z lo H κ) (fun v H' => v = rval G m k P Z ∧ Le H H') := by
  have no : ∀ {x : Prop}, ¬ RSh G m k P Z → (4 : Int) = rval G m k P Z := fun h => by unfold rval; rw [if_neg h]
  refine ev_eq (fun _ k _ => rees_Validate_eq k) (ev_alcB fun p H2 hp _ l2 => ev_fldS hp rfl (ev_call (group_IsGroup_ev (b := @decide (Grp G) (Classical.propDecidable _)) (Nat.le_refl _) hG (hg.le l2) (by simp)) fun v H6 ⟨ev, l6⟩ => ?_))
  subst ev
  have l6 := l2.trans l6
  have hp := hp.le ‹_›
  by_cases hgr : Grp G
  case neg =>
    refine ev_orI (c := true) (fun h => by simp [hgr] at h) (fun _ => rfl) (ev_orI (c := true) (fun h => by cases h) (fun _ => rfl) (ev_orI (c := true) (fun h => by cases h) (fun _ => rfl) (ev_t rfl (ev_ret ⟨no (x := True) fun h => hgr h.grp, l6⟩))))
  refine ev_orI (c := decide (m < 1)) (fun _ => ev_fldI hp rfl (ev_ret ⟨rfl, rfl⟩)) (fun h => by simp [hgr] at h) (ev_orP (c := k < 1) (fun _ => ev_fldI hp rfl (ev_ret ⟨rfl, rfl⟩)) (ev_orP (c := ¬ (P.length : Int) = k) (fun _ => ev_fldS hp rfl (ev_fldI hp rfl (ev_ret ⟨by rw [hq.len, decide_not], rfl⟩))) (ev_if (fun h => ev_ret ⟨?_, l6⟩) (fun h => ?_))))
  · refine no (x := True) fun hs => ?_
    have := hs.m1; have := hs.k1; have := hs.len
    omega
  refine ev_fldS hp rfl ?_
  rw [hq.len]
  have hsh := rsh_of (Z := Z) hgr (m := m) (k := k) (P := P) (by omega) (by omega) (by omega)
  refine rees_Validate_l1 hp hg.len hP (hq.le l6) (fun ⟨l, a, b, c⟩ => ⟨no (x := True) fun hs => hsh.2 hs l a b c, l6⟩) (fun hall => ?_)
  have hs := hsh.1 hall
  refine ev_call (rees_size_ev hg.len hgr (by omega) (by omega)) fun v H12 ⟨e, l12⟩ => ?_
  subst e
  unfold rval
  rw [if_pos hs]
  exact ev_if (fun h => ev_ret ⟨by rw [if_pos h], l6.trans l12⟩) (fun h => ev_ret ⟨by rw [if_neg h], l6.trans l12⟩)
theorem semigroupref17_Validate_l2 {g q r : Sl} {m k : Int} {Z : Bool} {G P : List (List Int)} {H : AH} {lo : Nat} {Q : Int → AH → Prop} {p : Pt} (hp : At1 H p [.sl g, .int .i64 m, .int .i64 k, .sl q, .bool Z]) (hG : g.len = G.length) (hP : In2 P) (hq : Tab H q P) {l : Int} (l0 : 0 ≤ l) (l1 : l < (P.length : Int)) (hr : Row H r (R P l)) (hrm : ((R P l).length : Int) = m)
    (hb : RBad G m P Z l → Q 4 H) (hg : ¬ RBad G m P Z l → Ev (fun ρ n κ => semigroupref17_Validate_1 n (some p) q (P.length : Int) (l + 1) lo H κ) Q) :
    Ev (fun ρ n κ => semigroupref17_Validate_2 n (some p) q (P.length : Int) l r ((R P l).length : Int) 0 lo H κ) Q := by
  have hl := hP.row l0 l1
  have hPl := hP.1
  refine ev_for0 (g := fun i ρ n κ => semigroupref17_Validate_2 n (some p) q (P.length : Int) l r ((R P l).length : Int) i lo H κ) ((R P l).length : Int) (fun i => ∀ i' : Int, 0 ≤ i' → i' < i → ¬ (M P l i' < -1 ∨ (G.length : Int) ≤ M P l i' ∨ (M P l i' < 0 ∧ Z = false))) ?_ ?_ 0 (by omega) (by omega) (fun i a b => by omega)
  · intro i i0 i1 hi
    have step : ∀ Q' : Int → AH → Prop, ((M P l i < -1 ∨ (G.length : Int) ≤ M P l i ∨ (M P l i < 0 ∧ Z = false)) → Q' 4 H) → (¬ (M P l i < -1 ∨ (G.length : Int) ≤ M P l i ∨ (M P l i < 0 ∧ Z = false)) → Ev (fun ρ n κ => semigroupref17_Validate_2 n (some p) q (P.length : Int) l r ((R P l).length : Int) (i + 1) lo H κ) Q') →
        Ev (fun ρ n κ => semigroupref17_Validate_2 n (some p) q (P.length : Int) l r ((R P l).length : Int) i lo H κ) Q' := by
      intro Q' c1 c2
      refine ev_eq (fun _ k _ => semigroupref17_Validate_2_eq k) (ev_pos i1 (ev_rdI hr i0 i1 (ev_orP (c := M P l i ≥ (g.len : Int)) (fun _ => ev_fldS hp rfl (ev_ret ⟨rfl, rfl⟩)) ?_)))
      refine ev_orP (c := M P l i < 0 ∧ Z = false) (fun _ => ev_andP (c := Z = false) (fun _ => ev_fldB hp rfl (ev_ret ⟨by cases Z <;> rfl, rfl⟩)) (ev_ret ⟨rfl, rfl⟩)) (ev_if (fun h => ev_ret (c1 ?_)) (fun h => ?_))
      · rw [hG] at h
        rcases h with (h | h) | h
        · exact .inl h
        · exact .inr (.inl h)
        · exact .inr (.inr h)
      · rw [W_add i0 i1 (by omega)]
        refine c2 fun hx => h ?_
        rw [hG]
        rcases hx with h | h | h
        · exact .inl (.inl h)
        · exact .inl (.inr h)
        · exact .inr h
    by_cases hbad : M P l i < -1 ∨ (G.length : Int) ≤ M P l i ∨ (M P l i < 0 ∧ Z = false)
    · exact .inl (step _ (fun _ => hb (.inr ⟨i, i0, i1, hbad⟩)) (fun h => absurd hbad h))
    · refine .inr ⟨fun j j0 j1 => ?_, fun H' => step _ (fun h => absurd h hbad) (fun _ => H')⟩
      by_cases hj : j = i
      · rw [hj]; exact hbad
      · exact hi j j0 (by omega)
  · intro hi
    refine ev_eq (fun _ k _ => semigroupref17_Validate_2_eq k) (ev_neg (by omega) ?_)
    rw [W_add l0 l1 (by omega)]
    refine hg ?_
    rintro (h | ⟨i, a, b, c⟩)
    · exact h hrm
    · exact hi i a b c
theorem semigroupref17_Validate_l1 {g q : Sl} {m k : Int} {Z : Bool} {G P : List (List Int)} {H : AH} {lo : Nat} {Q : Int → AH → Prop} {p : Pt} (hp : At1 H p [.sl g, .int .i64 m, .int .i64 k, .sl q, .bool Z]) (hG : g.len = G.length) (hP : In2 P) (hq : Tab H q P)
    (hb : (∃ l : Int, 0 ≤ l ∧ l < (P.length : Int) ∧ RBad G m P Z l) → Q 4 H) (hg : (∀ l : Int, 0 ≤ l → l < (P.length : Int) → ¬ RBad G m P Z l) → Ev (fun ρ n κ => semigroupref17_Validate_3 n (some p) (400 - zz Z) lo H κ) Q) :
    Ev (fun ρ n κ => semigroupref17_Validate_1 n (some p) q (P.length : Int) 0 lo H κ) Q := by
  refine ev_for0 (g := fun l ρ n κ => semigroupref17_Validate_1 n (some p) q (P.length : Int) l lo H κ) (P.length : Int) (fun l => ∀ l' : Int, 0 ≤ l' → l' < l → ¬ RBad G m P Z l') ?_ ?_ 0 (by omega) (by omega) (fun l a b => by omega)
  · intro l l0 l1 hl
    have step : ∀ Q' : Int → AH → Prop, (RBad G m P Z l → Q' 4 H) → (¬ RBad G m P Z l → Ev (fun ρ n κ => semigroupref17_Validate_1 n (some p) q (P.length : Int) (l + 1) lo H κ) Q') → Ev (fun ρ n κ => semigroupref17_Validate_1 n (some p) q (P.length : Int) l lo H κ) Q' := by
      intro Q' c1 c2
      refine ev_eq (fun _ k _ => semigroupref17_Validate_1_eq k) (ev_pos l1 (ev_rdS hq l0 l1 fun r hr => ?_))
      rw [hr.len]
      refine ev_fldI hp rfl (ev_nif (fun h => ev_ret (c1 (.inl h))) (fun h => semigroupref17_Validate_l2 hp hG hP hq l0 l1 hr h c1 c2))
    by_cases hbad : RBad G m P Z l
    · exact .inl (step _ (fun _ => hb ⟨l, l0, l1, hbad⟩) (fun h => absurd hbad h))
    · refine .inr ⟨fun j j0 j1 => ?_, fun H' => step _ (fun h => absurd h hbad) (fun _ => H')⟩
      by_cases hj : j = l
      · rw [hj]; exact hbad
      · exact hl j j0 (by omega)
  · intro hl
    refine ev_eq (fun _ k _ => semigroupref17_Validate_1_eq k) (ev_neg (by omega) (ev_fldB hp rfl (ev_b (fun h => ?_) (fun h => ?_))))
    · have := hg hl
      rw [show (400 : Int) - zz Z = 400 - 1 by simp [zz, h]] at this
      rw [W_in (by omega) (by omega)]; exact this
    · have := hg hl
      rw [show (400 : Int) - zz Z = 400 by simp [zz, h]] at this
      exact this
theorem semigroupref17_Validate_ev {g q : Sl} {m k : Int} {Z : Bool} {G P : List (List Int)} {H : AH} {lo : Nat} (hG : In2 G) (hg : Tab H g G) (hP : In2 P) (hq : Tab H q P) : Ev (fun ρ n κ => semigroupref17_Validate n g m k q Z lo H κ) (fun v H' => v = rval G m k P Z ∧ Le H H') := by
  have no : ∀ {x : Prop}, ¬ RSh G m k P Z → (4 : Int) = rval G m k P Z := fun h => by unfold rval; rw [if_neg h]
  refine ev_eq (fun _ k _ => semigroupref17_Validate_eq k) (ev_alcB fun p H2 hp _ l2 => ev_fldS hp rfl (ev_is (semigroupref16_IsGroup_ev (b := @decide (Grp G) (Classical.propDecidable _)) hG (hg.le l2) (by simp)) ?_))
  by_cases hgr : Grp G
  case neg =>
    refine ev_orI (c := true) (fun h => by simp [hgr] at h) (fun _ => rfl) (ev_orI (c := true) (fun h => by cases h) (fun _ => rfl) (ev_orI (c := true) (fun h => by cases h) (fun _ => rfl) (ev_t rfl (ev_ret ⟨no (x := True) fun h => hgr h.grp, l2⟩))))
  refine ev_orI (c := decide (m < 1)) (fun _ => ev_fldI hp rfl (ev_ret ⟨rfl, rfl⟩)) (fun h => by simp [hgr] at h) (ev_orP (c := k < 1) (fun _ => ev_fldI hp rfl (ev_ret ⟨rfl, rfl⟩)) (ev_orP (c := ¬ (P.length : Int) = k) (fun _ => ev_fldS hp rfl (ev_fldI hp rfl (ev_ret ⟨by rw [hq.len, decide_not], rfl⟩))) (ev_if (fun h => ev_ret ⟨?_, l2⟩) (fun h => ?_))))
  · refine no (x := True) fun hs => ?_
    have := hs.m1; have := hs.k1; have := hs.len
    omega
  refine ev_fldS hp rfl ?_
  rw [hq.len]
  have hsh := rsh_of (Z := Z) hgr (m := m) (k := k) (P := P) (by omega) (by omega) (by omega)
  refine semigroupref17_Validate_l1 hp hg.len hP (hq.le l2) (fun ⟨l, a, b, c⟩ => ⟨no (x := True) fun hs => hsh.2 hs l a b c, l2⟩) (fun hall => ?_)
  have hs := hsh.1 hall
  have hpos := hgr.pos
  have hle := hgr.le
  have m1 := hs.m1
  have k1 := hs.k1
  have hzc := zz_cases Z
  have d1 : (400 - zz Z) / (G.length : Int) ≤ 400 - zz Z := Int.ediv_le_self _ (by omega)
  have d2 : 0 ≤ (400 - zz Z) / (G.length : Int) := Int.ediv_nonneg (by omega) (by omega)
  have d3 : (400 - zz Z) / k ≤ 400 - zz Z := Int.ediv_le_self _ (by omega)
  have d4 : 0 ≤ (400 - zz Z) / k := Int.ediv_nonneg (by omega) (by omega)
  have hh : (m > (400 - zz Z) / (G.length : Int) ∨ m * (G.length : Int) > (400 - zz Z) / k) ↔ rsize G m k Z > 400 := by
    rw [ref_limit m1 k1 (by omega) (by omega)]
    unfold rsize
    have hmk : m * 1 ≤ m * k := Int.mul_le_mul_of_nonneg_left k1 (by omega)
    have hkm : 1 * k ≤ m * k := Int.mul_le_mul_of_nonneg_right m1 (by omega)
    have hmg : m * k * 1 ≤ m * k * (G.length : Int) := Int.mul_le_mul_of_nonneg_left (by omega) (by omega)
    split
    · omega
    split
    · omega
    · omega
  refine ev_eq (fun _ k _ => semigroupref17_Validate_3_eq k) (ev_fldI hp rfl (ev_fldS hp rfl ?_))
  rw [hg.len, Int.tdiv_eq_ediv_of_nonneg (by omega), W_in (i := (400 - zz Z) / (G.length : Int)) (by omega) (by omega)]
  refine ev_neg (by omega) (ev_orP (c := m * (G.length : Int) > (400 - zz Z) / k) (fun hn => ev_fldI hp rfl (ev_fldS hp rfl (ev_fldI hp rfl (ev_neg (by omega) ?_)))) ?_)
  · have hb : m * (G.length : Int) ≤ 400 * 400 := Int.mul_le_mul (by omega) hle (by omega) (by omega)
    have hb2 : 0 ≤ m * (G.length : Int) := Int.mul_nonneg (by omega) (by omega)
    rw [hg.len, Int.tdiv_eq_ediv_of_nonneg (by omega), W_in (i := (400 - zz Z) / k) (by omega) (by omega), W_in (i := m * (G.length : Int)) (by omega) (by omega)]
    exact ev_ret ⟨rfl, rfl⟩
  · unfold rval
    rw [if_pos hs]
    exact ev_if (fun h => ev_ret ⟨by rw [if_pos (hh.1 h)], l2⟩) (fun h => ev_ret ⟨by rw [if_neg (fun hx => h (hh.2 hx))], l2⟩)
theorem semigroupref17_base_ev {g q : Sl} {m k : Int} {Z : Bool} {H : AH} {lo : Nat} : Ev (fun ρ n κ => semigroupref17_base n g m k q Z lo H κ) (fun v H' => v = zz Z ∧ Le H H') := by
  refine ev_eq (fun _ k _ => semigroupref17_base_eq k) (ev_alcB fun p H2 hp _ l2 => ev_fldB hp rfl (ev_b (fun h => ev_ret ⟨by simp [zz, h], l2⟩) (fun h => ev_ret ⟨by simp [zz, h], l2⟩)))
theorem semigroupref17_Size_ev {g q : Sl} {m k : Int} {Z : Bool} {G P : List (List Int)} {H : AH} {lo : Nat} (hl : g.len = G.length) (h : RVa G m k P Z) : Ev (fun ρ n κ => semigroupref17_Size n g m k q Z lo H κ) (fun v H' => v = m * k * (G.length : Int) + zz Z ∧ Le H H') := by
  have hz := zz_cases Z
  have hpos := h.grp.pos
  have hle := h.grp.le
  obtain ⟨b1, b2, b3, b4⟩ := prod_bounds h.m1 h.m4 hpos hle h.k1 h.k4
  refine ev_eq (fun _ k _ => semigroupref17_Size_eq k) (ev_alcB fun p H2 hp _ l2 => ev_fldI hp rfl (ev_fldS hp rfl (ev_fldI hp rfl (ev_siisb hp (ev_call semigroupref17_base_ev fun v H15 ⟨e, l15⟩ => ev_ret ⟨?_, l2.trans l15⟩)))))
  subst e
  rw [hl, W_in (i := m * (G.length : Int)) (by omega) (by omega), W_in (i := m * (G.length : Int) * k) (by omega) (by omega), W_in (by omega) (by omega), RVa.ord]
theorem semigrouplaw17_large_ev {s : Sl} {t : List (List Int)} {H : AH} {lo : Nat} {n : Int} (ht : In2 t) (hs : Tab H s t) : Ev (fun ρ k κ => semigrouplaw17_large k s n lo H κ) (Is (decide ((t.length : Int) > n ∧ shp t = 0)) H) := by
  refine ev_eq (fun _ k _ => semigrouplaw17_large_eq k) ?_
  rw [hs.len]
  exact ev_andP (fun _ => ev_is (semigroupref14_Shape_ev ht hs) (ev_ret ⟨rfl, rfl⟩)) (ev_ret ⟨rfl, rfl⟩)
theorem rees_Size_ev {g q : Sl} {m k : Int} {Z : Bool} {G P : List (List Int)} {H : AH} {lo : Nat} (hG : In2 G) (hg : Tab H g G) (hP : In2 P) (hq : Tab H q P) : Ev (fun ρ n κ => rees_Size n g m k q Z lo H κ) (fun v H' => v = (if rval G m k P Z = 0 then m * k * (G.length : Int) + zz Z else 0) ∧ Le H H') := by
  refine ev_eq (fun _ k _ => rees_Size_eq k) (ev_alcB fun p H2 hp _ l2 => ev_siisb hp (ev_call (rees_Validate_ev hG (hg.le l2) hP (hq.le l2)) fun v H9 ⟨e, l9⟩ => ?_))
  subst e
  refine ev_nif (fun h => ev_ret ⟨by rw [if_neg h], l2.trans l9⟩) (fun h => ev_siisb (hp.le l9) ?_)
  have hv := rval_rv.1 h
  refine ev_call (rees_size_ev hg.len hv.grp hv.m1 hv.k1) fun v H16 ⟨e, l16⟩ => ev_ret ⟨?_, (l2.trans l9).trans l16⟩
  rw [e, if_pos h]
  unfold rsize
  rw [if_neg (by have := hv.m4; omega), if_neg (by have := hv.k4; omega)]

end Go.Ab
