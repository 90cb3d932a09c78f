/- Rows compared, members; tables of Rees matrix semigroups, regularity. What they answer. No condition but that a structure comes in. -/
import Derived.Test.YtnoickhdbinciaaRReesValidatesF6
import Derived.Test.YtnoickhdbinciaaAbAW
import Derived.Test.YtnoickhdbinciaaAbM10
set_option linter.unusedVariables false
set_option linter.unusedSimpArgs false
namespace Go.Ab
open Go
theorem semigroupref03_Members_ev {s : Sl} {b : List Bool} {H : AH} {lo : Nat} (hlo : lo ≤ H.length) (hb : RowB H s b) (hl : b.length ≤ 8796093022207) : Ev (fun ρ k κ => semigroupref03_Members k s lo H κ) (fun v H' => Sep H H' [own reI v (sel (fun x => rdOf false b x = true) 0 b.length)]) := by
  refine ev_eq (fun _ k _ => semigroupref03_Members_eq k) ?_
  rw [hb.len]
  refine ev_loop (α := Sl × AH) (g := fun i a ρ k κ => semigroupref03_Members_1 k a.1 s (b.length : Int) i lo a.2 κ) (b.length : Int) (fun i a => Sep H a.2 [own reI a.1 (sel (fun x => rdOf false b x = true) 0 i.toNat)]) ?_ ?_ 0 (⟨none, 0⟩, H) (by omega) (by omega) ((Sep.nil H).nilS reI)
  · rintro i ⟨t, H1⟩ i0 i1 hS hk
    have hb1 : RowB H1 s b := RowOf.le hb hS.le
    have hln := sel_len (P := fun x => rdOf false b x = true) (i := 0) (m := i.toNat)
    refine ev_eq (fun _ k _ => semigroupref03_Members_1_eq k) (ev_pos i1 (ev_rdB hb1 i0 i1 (ev_b (fun hv => ?_) (fun hv => ?_))))
    · refine sp_app1 (x := i) hS hlo (fun _ => ⟨rfl, rfl⟩) (by omega) fun t' H' hS' => ev_eq (fun _ k _ => semigroupref03_Members_2_eq k) ?_
      rw [W_add i0 i1 (by omega)]
      exact hk (t', H') (hS'.eq (sel_snoc i0 hv))
    · refine ev_eq (fun _ k _ => semigroupref03_Members_2_eq k) ?_
      rw [W_add i0 i1 (by omega)]
      exact hk (t, H1) (hS.eq (sel_skip i0 (by simp [hv])))
  · rintro ⟨t, H1⟩ hS
    exact ev_eq (fun _ k _ => semigroupref03_Members_1_eq k) (ev_neg (by omega) (ev_ret (by simpa using hS)))
theorem rees_Regular_l3 {s : Sl} {b : List Bool} {H : AH} {lo : Nat} {Q : Bool → AH → Prop} (hb : RowB H s b) (hl : b.length ≤ 9223372036854775807) (hQ : ∀ v, (v = true ↔ ∀ j : Int, 0 ≤ j → j < (b.length : Int) → rdOf false b j = true) → Q v H) : Ev (fun ρ n κ => rees_Regular_3 n s (b.length : Int) 0 lo H κ) Q := by
  refine ev_for0 (g := fun j ρ n κ => rees_Regular_3 n s (b.length : Int) j lo H κ) (b.length : Int) (fun j => ∀ i : Int, 0 ≤ i → i < j → rdOf false b i = true) ?_ ?_ 0 (by omega) (by omega) (fun i a b => by omega)
  · intro j j0 j1 hj
    by_cases h : rdOf false b j = true
    · right
      refine ⟨fun i a c => ?_, fun h' => ?_⟩
      · by_cases hi : i = j
        · rw [hi]; exact h
        · exact hj i a (by omega)
      · refine ev_eq (fun _ k _ => rees_Regular_3_eq k) (ev_pos j1 (ev_rdB hb j0 j1 (ev_nf h ?_)))
        rw [W_add j0 j1 (by omega)]; exact h'
    · left
      exact ev_eq (fun _ k _ => rees_Regular_3_eq k) (ev_pos j1 (ev_rdB hb j0 j1 (ev_nt (by simpa using h) (ev_ret (hQ false (iff_of_false (fun e => by cases e) fun hh => h (hh j j0 j1)))))))
  · intro h
    exact ev_eq (fun _ k _ => rees_Regular_3_eq k) (ev_neg (by omega) (ev_ret (hQ true (iff_of_true rfl h))))
theorem Mk.zero {P : List (List Int)} {m k : Int} (m0 : 0 ≤ m) (k0 : 0 ≤ k) : Mk P m k 0 0 (List.replicate m.toNat false) (List.replicate k.toNat false) := by
  refine ⟨by simp; omega, by simp; omega, fun i' a0 a1 => ?_, fun l' a0 a1 => ?_⟩
  · rw [rb_rep a0 (by omega)]
    simp only [Bool.false_eq_true, false_iff]
    rintro ⟨l', s1, s2, s3, s4, s5⟩
    omega
  · rw [rb_rep a0 (by omega)]
    simp only [Bool.false_eq_true, false_iff]
    rintro ⟨i', s1, s2, s3, s4, s5⟩
    omega
theorem Mk.regular {P : List (List Int)} {m k : Int} {c r : List Bool} (hm : Mk P m k k 0 c r) : (∀ j : Int, 0 ≤ j → j < ((c ++ r).length : Int) → rdOf false (c ++ r) j = true) ↔ Rgl m k P := by
  have h1 := hm.cl
  have h2 := hm.rl
  constructor
  · intro hall
    refine ⟨fun i i0 i1 => ?_, fun l l0 l1 => ?_⟩
    · have := hall i i0 (by simp; omega)
      rw [rd_app i0, if_pos (by omega)] at this
      obtain ⟨l, s1, s2, s3, s4, s5⟩ := (hm.cm i i0 i1).1 this
      exact ⟨l, s1, by omega, s5⟩
    · have := hall (l + (c.length : Int)) (by omega) (by simp; omega)
      rw [rd_app (by omega), if_neg (by omega), show l + (c.length : Int) - (c.length : Int) = l by omega] at this
      obtain ⟨i, s1, s2, s3, s4, s5⟩ := (hm.rm l l0 l1).1 this
      exact ⟨i, s2, s3, s5⟩
  · rintro ⟨ha, hb⟩ j j0 j1
    rw [rd_app j0]
    simp at j1
    split
    · rename_i hj
      obtain ⟨l, a, b, d⟩ := ha j j0 (by omega)
      exact (hm.cm j j0 (by omega)).2 ⟨l, a, j0, by omega, by omega, d⟩
    · rename_i hj
      obtain ⟨i, a, b, d⟩ := hb (j - (c.length : Int)) (by omega) (by omega)
      exact (hm.rm _ (by omega) (by omega)).2 ⟨i, by omega, a, b, by omega, d⟩
open Classical in
theorem rees_Regular_ev {g q : Sl} {m k : Int} {Z : Bool} {G P : List (List Int)} {H : AH} {lo : Nat} (hlo : lo ≤ H.length) (hG : In2 G) (hg : Tab H g G) (hP : In2 P) (hq : Tab H q P) : Ev (fun ρ n κ => rees_Regular n g m k q Z lo H κ) (fun v H' => v = decide (rval G m k P Z = 0 ∧ Rgl m k P) ∧ Le H H') := by
  refine ev_eq (fun _ k _ => rees_Regular_eq k) (ev_alcB fun p H2 hp _ l2 => ev_siisb hp (ev_call (rees_Validate_ev hG (hg.le l2) hP (hq.le l2)) fun v H9 ⟨e, l9⟩ => ?_))
  subst e
  have hp := hp.le l9
  have l9 := l2.trans l9
  refine ev_nif (fun hv => ev_ret ⟨by rw [decide_eq_false]; exact fun hh => hv hh.1, l9⟩) (fun hv => ?_)
  have hv' := rval_rv.1 hv
  have m1 := hv'.m1
  have m4 := hv'.m4
  have k1 := hv'.k1
  have k4 := hv'.k4
  have hl := hv'.len
  have hlo' : lo ≤ H9.length := by have := l9.len; omega
  refine ev_fldI hp rfl (sp_mks (x := false) (Sep.nil H9) reB (fun _ => ⟨rfl, rfl⟩) (by omega) (by omega) fun c H13 hS => ev_fldI (hp.le hS.le) rfl (sp_mks (x := false) hS reB (fun _ => ⟨rfl, rfl⟩) (by omega) (by omega) fun r H17 hS => ev_fldS (hp.le hS.le) rfl ?_))
  rw [hq.len]
  refine ev_loop (α := AH) (g := fun l H ρ n κ => rees_Regular_1 n (some p) c r (P.length : Int) l lo H κ) (P.length : Int) (fun l H => ∃ cs rs, Sep H9 H [own reB r rs, own reB c cs] ∧ Mk P m k l 0 cs rs) ?_ ?_ 0 H17 (by omega) (by omega) ⟨_, _, hS, Mk.zero (by omega) (by omega)⟩
  · rintro l H1 l0 l1 ⟨cs, rs, hS, hM⟩ hk
    have hr := hv'.row l l0 l1
    refine ev_eq (fun _ k _ => rees_Regular_1_eq k) (ev_pos l1 ?_)
    refine ev_fldS (p := p) (hp.le hS.le) rfl (sp_rdS (hq.le l9) hS.le l0 l1 fun t ht => ?_)
    rw [ht.len, hr]
    refine ev_loop (α := AH) (g := fun i H ρ n κ => rees_Regular_2 n (some p) c r l (P.length : Int) l t m i lo H κ) m (fun i H => ∃ cs rs, Sep H9 H [own reB r rs, own reB c cs] ∧ Mk P m k l i cs rs) ?_ ?_ 0 H1 (by omega) (by omega) ⟨cs, rs, hS, hM⟩
    · rintro i H1 i0 i1 ⟨cs, rs, hS, hM⟩ hk2
      have c1 := hM.cl
      have c2 := hM.rl
      refine ev_eq (fun _ k _ => rees_Regular_2_eq k) (ev_pos i1 (ev_rdI (ht.le hS.le) i0 (by omega) (ev_rdB (hS.pull 1).rowB i0 (by omega) ?_)))
      refine ev_orI (c := rdOf false cs i || decide (0 ≤ M P l i)) (fun hh => ev_ret ⟨by rw [hh]; rfl, rfl⟩) (fun hh => by rw [hh]; rfl) (sp_put (hS.pull 1) hlo' (fun _ => ⟨rfl, rfl⟩) i0 (by omega) fun H' hS => ?_)
      refine ev_rdB (hS.pull 1).rowB l0 (by omega) (ev_orI (c := rdOf false rs l || decide (0 ≤ M P l i)) (fun hh => ev_ret ⟨by rw [hh]; rfl, rfl⟩) (fun hh => by rw [hh]; rfl) (sp_put (hS.pull 1) hlo' (fun _ => ⟨rfl, rfl⟩) l0 (by omega) fun H' hS => ?_))
      rw [W_add i0 i1 (by omega)]
      exact hk2 H' ⟨_, _, hS, hM.next l0 (by omega) i0 i1 _ _ (by simp) (by simp)⟩
    · rintro H1 ⟨cs, rs, hS, hM⟩
      refine ev_eq (fun _ k _ => rees_Regular_2_eq k) (ev_neg (by omega) ?_)
      rw [W_add l0 l1 (by omega)]
      exact hk H1 ⟨cs, rs, hS, hM.row⟩
  · rintro H1 ⟨cs, rs, hS, hM⟩
    have c1 := hM.cl
    have c2 := hM.rl
    refine ev_eq (fun _ k _ => rees_Regular_1_eq k) (ev_neg (by omega) ?_)
    refine sp_appR (hS.pull 1) hlo' (hS.rowB.imp fun v x e => ⟨e, rfl⟩) (by omega) fun s H' hS' => ?_
    rw [hS'.len]
    refine rees_Regular_l3 hS'.rowB (by simp; omega) fun v hvv => ⟨?_, l9.trans hS'.le⟩
    rw [hl] at hM
    rw [Bool.eq_iff_iff, hvv, decide_eq_true_iff, hM.regular]
    exact ⟨fun h => ⟨hv, h⟩, fun h => h.2⟩
open Classical in
theorem semigroupref17_Regular_ev {g q : Sl} {m k : Int} {Z : Bool} {G P : List (List Int)} {H : AH} {lo : Nat} (hlo : lo ≤ H.length) (hq : Tab H q P) (hv : RVa G m k P Z) : Ev (fun ρ n κ => semigroupref17_Regular n g m k q Z lo H κ) (fun v H' => v = decide (Rgl m k P) ∧ Le H H') := by
  have m1 := hv.m1
  have m4 := hv.m4
  have k1 := hv.k1
  have k4 := hv.k4
  have hl := hv.len
  refine ev_eq (fun _ k _ => semigroupref17_Regular_eq k) (ev_alcB fun p H2 hp _ l2 => ?_)
  have hlo' : lo ≤ H2.length := by have := l2.len; omega
  refine ev_fldI hp rfl (sp_mks (x := false) (Sep.nil H2) reB (fun _ => ⟨rfl, rfl⟩) (by omega) (by omega) fun c H6 hS => ev_fldS (hp.le hS.le) rfl ?_)
  rw [hq.len]
  refine ev_for (α := AH) (g := fun l H ρ n κ => semigroupref17_Regular_1 n (some p) c q (P.length : Int) l lo H κ) (P.length : Int) (fun l H => ∃ cs : List Bool, Sep H2 H [own reB c cs] ∧ (cs.length : Int) = m ∧ (∀ i : Int, 0 ≤ i → i < m → (rdOf false cs i = true ↔ ∃ l' : Int, 0 ≤ l' ∧ l' < l ∧ 0 ≤ M P l' i)) ∧ ∀ l' : Int, 0 ≤ l' → l' < l → ∃ i : Int, 0 ≤ i ∧ i < m ∧ 0 ≤ M P l' i) ?_ ?_ 0 H6 (by omega) (by omega) ⟨_, hS, by simp; omega, fun i i0 i1 => ?_, fun l' a b => by omega⟩
  · rintro l H1 l0 l1 ⟨cs, hS, hcl, hcm, hrw⟩
    have hr := hv.row l l0 l1
    -- one row: what is marked behind it
    have key : ∀ Q : Bool → AH → Prop, (∀ H' (cs' : List Bool) (any : Bool), Sep H2 H' [own reB c cs'] → (cs'.length : Int) = m → (∀ i : Int, 0 ≤ i → i < m → (rdOf false cs' i = true ↔ ∃ l' : Int, 0 ≤ l' ∧ l' < l + 1 ∧ 0 ≤ M P l' i)) → (any = true ↔ ∃ i : Int, 0 ≤ i ∧ i < m ∧ 0 ≤ M P l i) → Ev (fun ρ n κ => bif !any then κ false H' else semigroupref17_Regular_1 n (some p) c q (P.length : Int) (l + 1) lo H' κ) Q) → Ev (fun ρ n κ => semigroupref17_Regular_1 n (some p) c q (P.length : Int) l lo H1 κ) Q := by
      intro Q hend
      refine ev_eq (fun _ k _ => semigroupref17_Regular_1_eq k) (ev_pos l1 (sp_rdS (hq.le l2) hS.le l0 l1 fun t ht => ?_))
      rw [ht.len, hr]
      refine ev_loop (α := Bool × AH) (g := fun i a ρ n κ => semigroupref17_Regular_2 n (some p) c a.1 q (P.length : Int) l t m i lo a.2 κ) m (fun i a => ∃ cs' : List Bool, Sep H2 a.2 [own reB c cs'] ∧ (cs'.length : Int) = m ∧ (∀ i' : Int, 0 ≤ i' → i' < m → (rdOf false cs' i' = true ↔ (∃ l' : Int, 0 ≤ l' ∧ l' < l ∧ 0 ≤ M P l' i') ∨ (i' < i ∧ 0 ≤ M P l i'))) ∧ (a.1 = true ↔ ∃ i' : Int, 0 ≤ i' ∧ i' < i ∧ 0 ≤ M P l i')) ?_ ?_ 0 (false, H1) (by omega) (by omega) ⟨cs, hS, hcl, fun i' a b => ?_, ?_⟩
      · rintro i ⟨any, H3⟩ i0 i1 ⟨cs', hS, hcl, hcm, ha⟩ hk
        simp only at hS ha
        refine ev_eq (fun _ k _ => semigroupref17_Regular_2_eq k) (ev_pos i1 (ev_rdI (ht.le hS.le) i0 (by omega) (ev_if (fun h => ?_) (fun h => ?_))))
        · have h : M P l i ≥ 0 := h
          refine sp_put (x := true) hS hlo' (fun _ => ⟨rfl, rfl⟩) i0 (by omega) fun H' hS => ev_eq (fun _ k _ => semigroupref17_Regular_3_eq k) ?_
          rw [W_add i0 i1 (by omega)]
          refine hk (true, H') ⟨_, hS, by simpa using hcl, fun i' a b => ?_, ⟨fun _ => ⟨i, i0, by omega, h⟩, fun _ => rfl⟩⟩
          rw [rb_set i0 (by omega) a]
          by_cases hi : i' = i
          · rw [if_pos hi, hi]; exact ⟨fun _ => .inr ⟨by omega, h⟩, fun _ => rfl⟩
          · rw [if_neg hi, hcm i' a b]
            exact ⟨fun h => h.imp id fun ⟨x, y⟩ => ⟨by omega, y⟩, fun h => h.imp id fun ⟨x, y⟩ => ⟨by omega, y⟩⟩
        · have h : ¬ M P l i ≥ 0 := h
          refine ev_eq (fun _ k _ => semigroupref17_Regular_3_eq k) ?_
          rw [W_add i0 i1 (by omega)]
          refine hk (any, H3) ⟨_, hS, hcl, fun i' a b => ?_, ha.trans ⟨fun ⟨i', x, y, z⟩ => ⟨i', x, by omega, z⟩, fun ⟨i', x, y, z⟩ => ⟨i', x, ?_, z⟩⟩⟩
          · rw [hcm i' a b]
            refine ⟨fun h => h.imp id fun ⟨x, y⟩ => ⟨by omega, y⟩, fun h => h.imp id fun ⟨x, y⟩ => ⟨?_, y⟩⟩
            by_cases hi : i' = i
            · rw [hi] at y; omega
            · omega
          · by_cases hi : i' = i
            · rw [hi] at z; omega
            · omega
      · rintro ⟨any, H3⟩ ⟨cs', hS, hcl, hcm, ha⟩
        refine ev_eq (fun _ k _ => semigroupref17_Regular_2_eq k) (ev_neg (by omega) ?_)
        rw [W_add l0 l1 (by omega)]
        refine hend H3 cs' any hS hcl (fun i a b => ?_) ha
        rw [hcm i a b]
        constructor
        · rintro (⟨l', x, y, z⟩ | ⟨x, y⟩)
          · exact ⟨l', x, by omega, z⟩
          · exact ⟨l, l0, by omega, y⟩
        · rintro ⟨l', x, y, z⟩
          by_cases hl : l' = l
          · rw [hl] at z; exact .inr ⟨b, z⟩
          · exact .inl ⟨l', x, by omega, z⟩
      · rw [hcm i' a b]
        exact ⟨.inl, fun h => h.elim id fun ⟨x, _⟩ => by omega⟩
      · simp only [Bool.false_eq_true, false_iff]
        rintro ⟨i', a, b, _⟩; omega
    by_cases hex : ∃ i : Int, 0 ≤ i ∧ i < m ∧ 0 ≤ M P l i
    · refine Classical.byContradiction fun hno => hno (.inl (key _ fun H' cs' any hS hcl hcm ha => ev_nf (ha.2 hex) (Classical.byContradiction fun hn => hno (.inr ⟨H', ⟨cs', hS, hcl, hcm, fun l' a b => ?_⟩, fun h => absurd h hn⟩))))
      by_cases hl : l' = l
      · rw [hl]; exact hex
      · exact hrw l' a (by omega)
    · left
      refine key _ fun H' cs' any hS hcl hcm ha => ev_nt (by rw [Bool.eq_false_iff]; exact fun h => hex (ha.1 h)) (ev_ret ⟨?_, l2.trans hS.le⟩)
      rw [decide_eq_false]
      exact fun h => hex (h.2 l l0 (by omega))
  · rintro H1 ⟨cs, hS, hcl, hcm, hrw⟩
    refine ev_eq (fun _ k _ => semigroupref17_Regular_1_eq k) (ev_neg (by omega) ?_)
    refine ev_call (semigroupref03_Members_ev (Nat.le_refl _) hS.rowB (by omega)) fun v H3 hS3 => ev_fldI (p := p) (hp.le (hS.le.trans hS3.le)) rfl (ev_ret ⟨?_, l2.trans (hS.le.trans hS3.le)⟩)
    rw [hS3.len]
    apply decide_eq_decide.2
    constructor
    · intro h
      have h' : (sel (fun x => rdOf false cs x = true) 0 cs.length).length = cs.length := by omega
      refine ⟨fun i i0 i1 => ?_, fun l l0 l1 => hrw l l0 (by omega)⟩
      obtain ⟨l', a, b, c⟩ := (hcm i i0 i1).1 (sel_full.1 h' i i0 (by omega))
      exact ⟨l', a, by omega, c⟩
    · intro h
      have := sel_full.2 (fun i i0 i1 => (hcm i i0 (by omega)).2 (by obtain ⟨l, a, b, c⟩ := h.1 i i0 (by omega); exact ⟨l, a, by omega, c⟩) : ∀ j : Int, 0 ≤ j → j < 0 + cs.length → rdOf false cs j = true)
      omega
  · rw [rb_rep i0 (by omega)]
    simp only [Bool.false_eq_true, false_iff]
    rintro ⟨l', a, b, _⟩; omega
end Go.Ab
