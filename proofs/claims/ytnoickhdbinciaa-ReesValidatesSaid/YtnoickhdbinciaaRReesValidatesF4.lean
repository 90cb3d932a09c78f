/- Groups: inverses, of, IsGroup; Inverse and IsGroup of the reference. What they answer. No condition but that a table comes in. -/
import Derived.Test.YtnoickhdbinciaaRReesValidatesF2
import Derived.Test.YtnoickhdbinciaaAbM9
set_option linter.unusedVariables false
set_option linter.unusedSimpArgs false
namespace Go.Ab
open Go
theorem group_inverses_l5 {s : Sl} {t : List (List Int)} {H0 : AH} {lo b : Nat} {Q : (Int × Sl × Bool) → AH → Prop} (hTab : ∀ H, Le H0 H → Tab H s t) (hlo : lo ≤ b) (hb : H0.length ≤ b) (hv : Va t) (hi : 0 ≤ idn t) {x : Int} (x0 : 0 ≤ x) (x1 : x < (t.length : Int)) {inv : List Int} {H : AH} (hle : Le H0 H) (hbk : BlkI H b inv) (hl : inv.length = t.length)
    (hn : (¬ ∃ y : Int, 0 ≤ y ∧ y < (t.length : Int) ∧ InvP t x y) → ∀ H', Le H0 H' → Q (0, ⟨none, 0⟩, false) H')
    (hc : ∀ inv' H', Le H0 H' → BlkI H' b inv' → inv'.length = t.length → (∀ x' : Int, 0 ≤ x' → x' ≠ x → rd inv' x' = rd inv x') → rd inv' x = invOf t x → 0 ≤ invOf t x → Ev (fun ρ k κ => group_inverses_4 k s (idn t) (sl0 b t.length) (t.length : Int) (x + 1) lo H' κ) Q) (hm : rd inv x = -1) :
    Ev (fun ρ k κ => group_inverses_5 k s (idn t) (sl0 b t.length) x (t.length : Int) x (t.length : Int) 0 lo H κ) Q := by
  have hs := hv.toSq
  have hle4 := hs.le
  have r1 := hs.row x x0 x1
  refine ev_loop (α := List Int × AH) (g := fun y st ρ k κ => group_inverses_5 k s (idn t) (sl0 b t.length) x (t.length : Int) x (t.length : Int) y lo st.2 κ) (t.length : Int)
    (fun y st => Le H0 st.2 ∧ BlkI st.2 b st.1 ∧ st.1.length = t.length ∧ (∀ x' : Int, 0 ≤ x' → x' ≠ x → rd st.1 x' = rd inv x') ∧ ((rd st.1 x = -1 ∧ ∀ y' : Int, 0 ≤ y' → y' < y → ¬ InvP t x y') ∨ (0 ≤ rd st.1 x ∧ rd st.1 x < (t.length : Int) ∧ InvP t x (rd st.1 x)))) ?_ ?_ 0 (inv, H) (by omega) (by omega)
    ⟨hle, hbk, hl, fun _ _ _ => rfl, .inl ⟨hm, fun y' a b => by omega⟩⟩
  · intro y ⟨i, H1⟩ hy0 hy1 ⟨g1, g2, i1, i2, i3⟩ hk
    simp only at g1 g2 i1 i2 i3
    have r2 := hs.row y hy0 hy1
    have ht := hTab _ g1
    refine ev_eq (fun _ k _ => group_inverses_5_eq k) (ev_pos hy1 (ev_rdM ht x0 x1 hy0 (by omega) (ev_andP (c := M t y x = idn t) (fun _ => ev_rdM ht hy0 hy1 x0 (by omega) (ev_ret ⟨rfl, rfl⟩)) (ev_if (fun hp => ?_) (fun hp => ?_)))))
    · have hp : InvP t x y := hp
      refine ev_put (e := fun n : Int => .int .i64 n) g2 i1.symm hlo x0 (by omega) fun H' hH' hbk' => ev_eq (fun _ k _ => group_inverses_6_eq k) ?_
      rw [W_add hy0 hy1 (by omega)]
      refine hk (i.set x.toNat y, H') ⟨by rw [hH']; exact g1.set hb _, hbk', by simpa using i1, fun x' a b => by rw [rd_set x0 (by omega) a, if_neg b]; exact i2 x' a b, .inr ?_⟩
      simp only [rd_set x0 (show x < (i.length : Int) by omega) x0, if_true]
      exact ⟨hy0, hy1, hp⟩
    · have hp : ¬ InvP t x y := hp
      refine ev_eq (fun _ k _ => group_inverses_6_eq k) ?_
      rw [W_add hy0 hy1 (by omega)]
      refine hk (i, H1) ⟨g1, g2, i1, i2, ?_⟩
      rcases i3 with ⟨a, b⟩ | h
      · refine .inl ⟨a, fun y' c d => ?_⟩
        by_cases hyy : y' = y
        · rw [hyy]; exact hp
        · exact b y' c (by omega)
      · exact .inr h
  · intro ⟨i, H1⟩ ⟨g1, g2, i1, i2, i3⟩
    simp only at g1 g2 i1 i2 i3
    have hr := g2.row
    rw [i1] at hr
    refine ev_eq (fun _ k _ => group_inverses_5_eq k) (ev_neg (by omega) (ev_rdI hr x0 (by omega) ?_))
    rcases i3 with ⟨a, b⟩ | ⟨a, b, c⟩
    · exact ev_pos (by omega) (ev_ret (hn (fun ⟨y, y0, y1, hy⟩ => b y y0 y1 hy) _ g1))
    · have e := invOf_eq hv hi x0 x1 a b c
      rw [W_add x0 x1 (by omega)]
      exact ev_neg (by omega) (hc i H1 g1 g2 i1 i2 e.symm (by omega))
theorem group_inverses_l3 {s : Sl} {t : List (List Int)} {H : AH} {lo : Nat} (ht : Tab H s t) (hlo : lo ≤ H.length) (hv : Va t) {e : Int} (he : e = idn t) : Ev (fun ρ k κ => group_inverses_3 k s e lo H κ) (fun r H' => Le H H' ∧ (r.2.2 = true ↔ Grp t)) := by
  subst he
  have hs := hv.toSq
  have hle := hs.le
  have hpos := hs.pos
  by_cases hi : 0 ≤ idn t
  case neg =>
    refine ev_eq (fun _ k _ => group_inverses_3_eq k) (ev_pos (by omega) (ev_ret ⟨Le.refl _, ?_⟩))
    simp
    exact fun h => hi h.id0
  refine ev_eq (fun _ k _ => group_inverses_3_eq k) (ev_neg (by omega) ?_)
  rw [ht.len]
  refine ev_mks (by omega) (by omega) (by omega) ?_
  rw [flatten_rep]
  have e : (List.replicate ((t.length : Int).toNat) (AV.int .i64 0)) = (List.replicate t.length (0 : Int)).map (fun n => .int .i64 n) := by simp
  rw [e]
  refine ev_loop (α := List Int × AH) (g := fun x st ρ k κ => group_inverses_4 k s (idn t) (sl0 H.length t.length) (t.length : Int) x lo st.2 κ) (t.length : Int)
    (fun x st => Le H st.2 ∧ BlkI st.2 H.length st.1 ∧ st.1.length = t.length ∧ ∀ x' : Int, 0 ≤ x' → x' < x → ∃ y : Int, 0 ≤ y ∧ y < (t.length : Int) ∧ InvP t x' y) ?_ ?_ 0 (List.replicate t.length (0 : Int), _) (by omega) (by omega) ⟨⟨_, rfl⟩, Blk1.new _ _ _, by simp, fun x' a b => by omega⟩
  · intro x ⟨inv, H1⟩ x0 x1 ⟨h0, h1, h2, h3⟩ hk
    simp only at h0 h1 h2 h3
    refine ev_eq (fun _ k _ => group_inverses_4_eq k) (ev_pos x1 (ev_put (e := fun n : Int => .int .i64 n) h1 h2.symm hlo x0 (by omega) fun H' hH' hbk' => ?_))
    rw [ht.len]
    refine group_inverses_l5 (H0 := H) (fun H' hl => ht.le hl) hlo (Nat.le_refl _) hv hi x0 x1 (by rw [hH']; exact h0.set (Nat.le_refl _) _) hbk' (by simpa using h2) (fun hn H' hl => ⟨hl, ?_⟩) ?_ (by rw [rd_set x0 (by omega) x0, if_pos rfl])
    · simp
      exact fun hg => hn (hg.inv x x0 x1)
    · intro inv' H2 g0 g1 g2 g3 g4 g5
      refine hk (inv', H2) ⟨g0, g1, g2, fun x' a b => ?_⟩
      by_cases hx : x' = x
      · rw [hx]
        rcases first_spec (n := t.length) (P := InvP t x) with ⟨e, _⟩ | ⟨a, b, c, _⟩
        · unfold invOf at g5; omega
        · exact ⟨_, a, b, c⟩
      · exact h3 x' a (by omega)
  · intro ⟨inv, H1⟩ ⟨h0, h1, h2, h3⟩
    exact ev_eq (fun _ k _ => group_inverses_4_eq k) (ev_neg (by omega) (ev_ret ⟨h0, by simp; exact ⟨hv, hi, h3⟩⟩))
theorem group_inverses_ev {s : Sl} {t : List (List Int)} {H : AH} {lo : Nat} (ht : Tab H s t) (hlo : lo ≤ H.length) (hv : Va t) : Ev (fun ρ k κ => group_inverses k s lo H κ) (fun r H' => Le H H' ∧ (r.2.2 = true ↔ Grp t)) := by
  have hs := hv.toSq
  have hle := hs.le
  have hpos := hs.pos
  refine ev_eq (fun _ k _ => group_inverses_eq k) ?_
  rw [ht.len]
  have round : ∀ e : Int, 0 ≤ e → e < (t.length : Int) → (∀ j : Int, 0 ≤ j → j < e → ¬ IsId t j) → (¬ IsId t e → Ev (fun ρ k κ => group_inverses_1 k s (-1) (t.length : Int) (e + 1) lo H κ) (fun r H' => Le H H' ∧ (r.2.2 = true ↔ Grp t))) → Ev (fun ρ k κ => group_inverses_1 k s (-1) (t.length : Int) e lo H κ) (fun r H' => Le H H' ∧ (r.2.2 = true ↔ Grp t)) := by
    intro e he0 he1 hf q2
    have r1 := hs.row e he0 he1
    refine ev_eq (fun _ k _ => group_inverses_1_eq k) (ev_pos he1 ?_)
    rw [ht.len]
    refine ev_all (g := fun y a ρ k κ => group_inverses_2 k s (-1) e a (t.length : Int) e (t.length : Int) y lo H κ) (t.length : Int) (fun y => M t e y = y ∧ M t y e = y) (by omega) ?_ ?_
    · intro y b hy0 hy1 H'
      have r2 := hs.row y hy0 hy1
      refine ev_eq (fun _ k _ => group_inverses_2_eq k) (ev_pos hy1 ?_)
      rw [W_add hy0 hy1 (by omega)]
      refine ev_andI (c := b && decide (M t e y = y)) (fun hb => ?_) (fun hb => by simp [hb]) ?_
      · exact ev_rdM ht he0 he1 hy0 (by omega) (ev_ret ⟨by simp [hb], rfl⟩)
      refine ev_andI (c := (b && decide (M t e y = y)) && decide (M t y e = y)) (fun hb => ?_) (fun hb => by simp [hb]) (H' _ (by simp [and_assoc]))
      exact ev_rdM ht hy0 hy1 he0 (by omega) (ev_ret ⟨by rw [hb, Bool.true_and], rfl⟩)
    · intro c hc
      refine ev_eq (fun _ k _ => group_inverses_2_eq k) (ev_neg (by omega) (ev_b (fun hb => group_inverses_l3 ht hlo hv (first_eq he0 he1 (hc.1 hb) hf).symm) fun hb => ?_))
      rw [W_add he0 he1 (by omega)]
      exact q2 fun hp => by rw [hc.2 hp] at hb; cases hb
  refine ev_for0 (g := fun e ρ k κ => group_inverses_1 k s (-1) (t.length : Int) e lo H κ) (t.length : Int) (fun i => ∀ j : Int, 0 ≤ j → j < i → ¬ IsId t j) ?_ ?_ 0 (by omega) (by omega) (fun j a b => by omega)
  · intro e he0 he1 hf
    by_cases hp : IsId t e
    · exact .inl (round e he0 he1 hf (fun h => absurd hp h))
    · refine .inr ⟨fun j j0 j1 => ?_, fun H' => round e he0 he1 hf (fun _ => H')⟩
      by_cases hj : j = e
      · rw [hj]; exact hp
      · exact hf j j0 (by omega)
  · intro hf
    exact ev_eq (fun _ k _ => group_inverses_1_eq k) (ev_neg (by omega) (group_inverses_l3 ht hlo hv (first_no fun i a b => hf i a b).symm))
theorem group_of_ev {s : Sl} {t : List (List Int)} {H : AH} {lo : Nat} (hlo : lo ≤ H.length) (ht : In2 t) (hs : Tab H s t) : Ev (fun ρ k κ => group_of k s lo H κ) (fun r H' => Le H H' ∧ (r.2.2.2 = true ↔ Grp t)) := by
  refine ev_eq (fun _ k _ => group_of_eq k) (ev_alcB fun p H2 hp hpb l2 => ev_is (mult_Validate_ev ht (hs.le l2)) (ev_nif (fun hv => ?_) (fun hv => ?_)))
  · refine ev_stnB hp rfl (by omega) fun H5 e5 hp5 => ?_
    refine ev_ldnB (n := 3) hp5 rfl ?_
    refine ev_ret ⟨by rw [e5]; exact l2.set (by omega) _, ?_⟩
    simp
    exact fun hg => hv (val_va.2 hg.toVa)
  · refine ev_call (group_inverses_ev (hs.le l2) (Nat.le_refl _) (va_of hv)) fun r H10 ⟨l10, hr⟩ => ?_
    refine ev_stnB (hp.le l10) rfl (by omega) fun H5 e5 hp5 => ?_
    refine ev_ldnB (n := 3) hp5 rfl ?_
    exact ev_ret ⟨by rw [e5]; exact (l2.trans l10).set (by omega) _, hr⟩
theorem group_IsGroup_ev {s : Sl} {t : List (List Int)} {H : AH} {lo : Nat} {b : Bool} (hlo : lo ≤ H.length) (ht : In2 t) (hs : Tab H s t) (hb : b = true ↔ Grp t) : Ev (fun ρ k κ => group_IsGroup k s lo H κ) (fun v H' => v = b ∧ Le H H') := by
  refine ev_eq (fun _ k _ => group_IsGroup_eq k) (ev_call (group_of_ev (Nat.le_refl _) ht hs) fun r H2 ⟨l2, hr⟩ => ev_alcB fun p H4 hp hpb l4 => ev_stnB hp rfl ?_ fun H5 e5 hp5 => ev_ret ⟨?_, ?_⟩)
  · have := l2.len; omega
  · rw [Bool.eq_iff_iff, hr, hb]
  · rw [e5]; exact (l2.trans l4).set (by have := l2.len; omega) _
theorem semigroupref16_Inverse_ev {s : Sl} {t : List (List Int)} {H : AH} {lo : Nat} (ht : Tab H s t) (hs : Sq t) {x : Int} (x0 : 0 ≤ x) (x1 : x < (t.length : Int)) : Ev (fun ρ k κ => semigroupref16_Inverse k s x lo H κ) (Is (invOf t x) H) := by
  have hle := hs.le
  have r1 := hs.row x x0 x1
  refine ev_eq (fun _ k _ => semigroupref16_Inverse_eq k) (ev_is (semigroupref14_Identity_ev hs ht) ?_)
  rw [ht.len]
  refine ev_first (g := fun y ρ k κ => semigroupref16_Inverse_1 k s x (idn t) (t.length : Int) y lo H κ) t.length (InvP t x) ?_ ?_ ?_
  · intro y y0 y1 hp H'
    have r2 := hs.row y y0 y1
    refine ev_eq (fun _ k _ => semigroupref16_Inverse_1_eq k) (ev_pos y1 (ev_rdM ht x0 x1 y0 (by omega) (ev_andP (c := M t y x = idn t) (fun _ => ev_rdM ht y0 y1 x0 (by omega) (ev_ret ⟨rfl, rfl⟩)) (ev_neg hp ?_))))
    rw [W_add y0 y1 (by omega)]
    exact H'
  · intro y y0 y1 hp hf
    have r2 := hs.row y y0 y1
    exact ev_eq (fun _ k _ => semigroupref16_Inverse_1_eq k) (ev_pos y1 (ev_rdM ht x0 x1 y0 (by omega) (ev_andP (c := M t y x = idn t) (fun _ => ev_rdM ht y0 y1 x0 (by omega) (ev_ret ⟨rfl, rfl⟩)) (ev_pos hp (ev_ret ⟨hf.symm, rfl⟩)))))
  · intro hf
    exact ev_eq (fun _ k _ => semigroupref16_Inverse_1_eq k) (ev_neg (by omega) (ev_ret ⟨hf.symm, rfl⟩))
theorem semigroupref16_IsGroup_ev {s : Sl} {t : List (List Int)} {H : AH} {lo : Nat} {b : Bool} (ht : In2 t) (hs : Tab H s t) (hb : b = true ↔ Grp t) : Ev (fun ρ k κ => semigroupref16_IsGroup k s lo H κ) (Is b H) := by
  refine ev_eq (fun _ k _ => semigroupref16_IsGroup_eq k) (ev_is (semigroupref14_Valid_ev ht hs) ?_)
  by_cases hv : val t = 0
  case neg =>
    refine ev_orI (c := true) (fun h => by simp [hv] at h) (fun _ => rfl) (ev_t rfl (ev_ret ⟨?_, rfl⟩))
    rw [eq_comm, Bool.eq_false_iff]
    exact fun h => hv (val_va.2 (hb.1 h).toVa)
  have va := va_of hv
  have hsq := va.toSq
  have hle := hsq.le
  have hpos := hsq.pos
  refine ev_orI (c := decide (idn t < 0)) (fun _ => ev_is (semigroupref14_Identity_ev hsq hs) (ev_ret ⟨rfl, rfl⟩)) (fun h => by simp [hv] at h) (ev_if (fun hi => ev_ret ⟨?_, rfl⟩) (fun hi => ?_))
  · rw [eq_comm, Bool.eq_false_iff]
    intro h; have := (hb.1 h).id0; omega
  rw [hs.len]
  refine ev_for0 (g := fun x ρ k κ => semigroupref16_IsGroup_1 k s (t.length : Int) x lo H κ) (t.length : Int) (fun x => ∀ x' : Int, 0 ≤ x' → x' < x → ∃ y : Int, 0 ≤ y ∧ y < (t.length : Int) ∧ InvP t x' y) ?_ ?_ 0 (by omega) (by omega) (fun _ a b => by omega)
  · intro x x0 x1 hx
    rcases first_spec (n := t.length) (P := InvP t x) with ⟨e, hn⟩ | ⟨a, b', c, _⟩
    · left
      refine ev_eq (fun _ k _ => semigroupref16_IsGroup_1_eq k) (ev_pos x1 (ev_is (semigroupref16_Inverse_ev hs hsq x0 x1) (ev_pos (by unfold invOf; omega) (ev_ret ⟨?_, rfl⟩))))
      rw [eq_comm, Bool.eq_false_iff]
      intro h
      obtain ⟨y, y0, y1, hy⟩ := (hb.1 h).inv x x0 x1
      exact hn y y0 y1 hy
    · right
      refine ⟨fun x' a' b' => ?_, fun H' => ?_⟩
      · by_cases hxx : x' = x
        · rw [hxx]; exact ⟨_, a, by assumption, c⟩
        · exact hx x' a' (by omega)
      · refine ev_eq (fun _ k _ => semigroupref16_IsGroup_1_eq k) (ev_pos x1 (ev_is (semigroupref16_Inverse_ev hs hsq x0 x1) (ev_neg (by unfold invOf; omega) ?_)))
        rw [W_add x0 x1 (by omega)]
        exact H'
  · intro hx
    exact ev_eq (fun _ k _ => semigroupref16_IsGroup_1_eq k) (ev_neg (by omega) (ev_ret ⟨(hb.2 ⟨va, by omega, hx⟩).symm, rfl⟩))

end Go.Ab
