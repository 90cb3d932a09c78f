/- Green's relations by the reference; comparisons. What they answer. No condition but that a table comes in. -/
import Derived.Test.YtmdndoghdbhipaaRGreenHeightsF10
set_option linter.unusedVariables false
set_option linter.unusedSimpArgs false
namespace Go.Ab
open Go
open Classical in
/-- A row of bools. -/
noncomputable def brow (n : Nat) (Q : Int → Prop) : List Bool := (List.range n).map fun x : Nat => decide (Q x)
theorem brow_len (n : Nat) (Q : Int → Prop) : (brow n Q).length = n := by simp [brow]
open Classical in
theorem brow_at {n : Nat} {Q : Int → Prop} {x : Int} (x0 : 0 ≤ x) (x1 : x < n) : rdOf false (brow n Q) x = decide (Q x) := by
  unfold brow; rw [rdOf_map false x0 x1, show ((x.toNat : Nat) : Int) = x by omega]
open Classical in
theorem brow_eq {n : Nat} {Q : Int → Prop} {l : List Bool} (hl : l.length = n) (h : ∀ x : Int, 0 ≤ x → x < n → (rdOf false l x = true ↔ Q x)) : l = brow n Q :=
  rdOf_ext false (by rw [brow_len, hl]) fun x x0 x1 => by rw [brow_at x0 (by omega), Bool.eq_iff_iff, decide_eq_true_iff]; exact h x x0 (by omega)
theorem semigroupref15_Right_ev {s : Sl} {t : List (List Int)} {H : AH} {lo : Nat} (hlo : lo ≤ H.length) (hv : Sq t) (ht : Tab H s t) {y : Int} (y0 : 0 ≤ y) (y1 : y < (t.length : Int)) : Ev (fun ρ k κ => semigroupref15_Right k s y lo H κ) (fun v H' => Sep H H' [own reB v (brow t.length (JR t y))]) := by
  have hn := hv.le
  have hrow := hv.row y y0 y1
  refine ev_eq (fun _ k _ => semigroupref15_Right_eq k) ?_
  rw [ht.len]
  refine sp_mks (x := false) (Sep.nil H) reB (fun _ => ⟨rfl, rfl⟩) (by omega) (by omega) fun u H2 hS => sp_put (x := true) hS hlo (fun _ => ⟨rfl, rfl⟩) y0 (by simp; omega) fun H4 hS => sp_rdS ht hS.le y0 y1 fun r hr => ?_
  rw [hr.len, hrow]
  refine ev_loop (α := AH) (g := fun i H ρ k κ => semigroupref15_Right_1 k u r (t.length : Int) i lo H κ) (t.length : Int) (fun i H' => ∃ row : List Bool, Sep H H' [own reB u row] ∧ row.length = t.length ∧ ∀ x : Int, 0 ≤ x → x < (t.length : Int) → (rdOf false row x = true ↔ x = y ∨ ∃ i' : Int, 0 ≤ i' ∧ i' < i ∧ x = M t y i')) ?_ ?_ 0 H4 (by omega) (by omega) ⟨_, hS, by simp, fun x a b => ?_⟩
  · rintro i H1 i0 i1 ⟨row, hS, hr', hx⟩ hk
    have m0 := hv.lo y i y0 y1 i0 i1
    have m1 := hv.hi y i y0 y1 i0 i1
    refine ev_eq (fun _ k _ => semigroupref15_Right_1_eq k) (ev_pos i1 (ev_rdI (hr.le hS.le) i0 (by omega) (sp_put (i := M t y i) (x := true) hS hlo (fun _ => ⟨rfl, rfl⟩) m0 (by omega) fun H2 hS => ?_)))
    rw [W_add i0 i1 (by omega)]
    refine hk H2 ⟨_, hS, by simpa using hr', fun x a b => ?_⟩
    rw [rb_set m0 (by omega) a]
    by_cases hxm : x = M t y i
    · rw [if_pos hxm]; exact ⟨fun _ => .inr ⟨i, i0, by omega, hxm⟩, fun _ => rfl⟩
    · rw [if_neg hxm, hx x a b]
      refine ⟨fun h => h.imp id fun ⟨i', p, q, r⟩ => ⟨i', p, by omega, r⟩, fun h => h.imp id fun ⟨i', p, q, r⟩ => ⟨i', p, ?_, r⟩⟩
      by_cases hi : i' = i
      · rw [hi] at r; exact absurd r hxm
      · omega
  · rintro H1 ⟨row, hS, hr', hx⟩
    exact ev_eq (fun _ k _ => semigroupref15_Right_1_eq k) (ev_neg (by omega) (ev_ret (hS.eq (brow_eq hr' hx))))
  · rw [rb_set y0 (by simp; omega) a]
    by_cases hxy : x = y
    · rw [if_pos hxy]; exact ⟨fun _ => .inl hxy, fun _ => rfl⟩
    · rw [if_neg hxy, rb_rep a (by omega)]
      refine ⟨fun h => by (cases h), fun h => ?_⟩
      rcases h with h | ⟨i', p, q, _⟩
      · exact absurd h hxy
      · omega
theorem semigroupref15_Left_ev {s : Sl} {t : List (List Int)} {H : AH} {lo : Nat} (hlo : lo ≤ H.length) (hv : Sq t) (ht : Tab H s t) {y : Int} (y0 : 0 ≤ y) (y1 : y < (t.length : Int)) : Ev (fun ρ k κ => semigroupref15_Left k s y lo H κ) (fun v H' => Sep H H' [own reB v (brow t.length (JL t y))]) := by
  have hn := hv.le
  refine ev_eq (fun _ k _ => semigroupref15_Left_eq k) ?_
  rw [ht.len]
  refine sp_mks (x := false) (Sep.nil H) reB (fun _ => ⟨rfl, rfl⟩) (by omega) (by omega) fun u H2 hS => sp_put (x := true) hS hlo (fun _ => ⟨rfl, rfl⟩) y0 (by simp; omega) fun H4 hS => ?_
  refine ev_loop (α := AH) (g := fun i H ρ k κ => semigroupref15_Left_1 k s y u (t.length : Int) i lo H κ) (t.length : Int) (fun i H' => ∃ row : List Bool, Sep H H' [own reB u row] ∧ row.length = t.length ∧ ∀ x : Int, 0 ≤ x → x < (t.length : Int) → (rdOf false row x = true ↔ x = y ∨ ∃ i' : Int, 0 ≤ i' ∧ i' < i ∧ x = M t i' y)) ?_ ?_ 0 H4 (by omega) (by omega) ⟨_, hS, by simp, fun x a b => ?_⟩
  · rintro i H1 i0 i1 ⟨row, hS, hr', hx⟩ hk
    have m0 := hv.lo i y i0 i1 y0 y1
    have m1 := hv.hi i y i0 i1 y0 y1
    have hrow := hv.row i i0 i1
    refine ev_eq (fun _ k _ => semigroupref15_Left_1_eq k) (ev_pos i1 (ev_rdM (ht.le hS.le) i0 i1 y0 (by omega) (sp_put (x := true) hS hlo (fun _ => ⟨rfl, rfl⟩) m0 (by omega) fun H2 hS => ?_)))
    rw [W_add i0 i1 (by omega)]
    refine hk H2 ⟨_, hS, by simpa using hr', fun x a b => ?_⟩
    rw [rb_set m0 (by omega) a]
    by_cases hxm : x = M t i y
    · rw [if_pos hxm]; exact ⟨fun _ => .inr ⟨i, i0, by omega, hxm⟩, fun _ => rfl⟩
    · rw [if_neg hxm, hx x a b]
      refine ⟨fun h => h.imp id fun ⟨i', p, q, r⟩ => ⟨i', p, by omega, r⟩, fun h => h.imp id fun ⟨i', p, q, r⟩ => ⟨i', p, ?_, r⟩⟩
      by_cases hi : i' = i
      · rw [hi] at r; exact absurd r hxm
      · omega
  · rintro H1 ⟨row, hS, hr', hx⟩
    exact ev_eq (fun _ k _ => semigroupref15_Left_1_eq k) (ev_neg (by omega) (ev_ret (hS.eq (brow_eq hr' hx))))
  · rw [rb_set y0 (by simp; omega) a]
    by_cases hxy : x = y
    · rw [if_pos hxy]; exact ⟨fun _ => .inl hxy, fun _ => rfl⟩
    · rw [if_neg hxy, rb_rep a (by omega)]
      refine ⟨fun h => by (cases h), fun h => ?_⟩
      rcases h with h | ⟨i', p, q, _⟩
      · exact absurd h hxy
      · omega
open Classical in
theorem semigroupref15_Both_ev {s : Sl} {t : List (List Int)} {H : AH} {lo : Nat} (hlo : lo ≤ H.length) (hv : Sq t) (ht : Tab H s t) {y : Int} (y0 : 0 ≤ y) (y1 : y < (t.length : Int)) : Ev (fun ρ k κ => semigroupref15_Both k s y lo H κ) (fun v H' => Sep H H' [own reB v (brow t.length (JJ t y))]) := by
  have hn := hv.le
  refine ev_eq (fun _ k _ => semigroupref15_Both_eq k) ?_
  rw [ht.len]
  refine sp_mks (x := false) (Sep.nil H) reB (fun _ => ⟨rfl, rfl⟩) (by omega) (by omega) fun u H2 hS => ?_
  refine ev_call (semigroupref15_Left_ev (Nat.le_refl _) hv (ht.le hS.le) y0 y1) fun l H4 h4 => ?_
  have hS := (hS.call h4).pull 1
  rw [h4.len, brow_len]
  refine ev_loop (α := AH) (g := fun z H ρ k κ => semigroupref15_Both_1 k s u l (t.length : Int) z lo H κ) (t.length : Int) (fun z H' => ∃ row : List Bool, Sep H H' [own reB u row, own reB l (brow t.length (JL t y))] ∧ row.length = t.length ∧ ∀ x : Int, 0 ≤ x → x < (t.length : Int) → (rdOf false row x = true ↔ ∃ z' : Int, 0 ≤ z' ∧ z' < z ∧ JL t y z' ∧ JR t z' x)) ?_ ?_ 0 H4 (by omega) (by omega) ⟨_, hS, by simp, fun x a b => ?_⟩
  · rintro z H1 z0 z1 ⟨row, hS, hr', hx⟩ hk
    have hrow := hv.row z z0 z1
    have next : ∀ H1, (∃ row : List Bool, Sep H H1 [own reB u row, own reB l (brow t.length (JL t y))] ∧ row.length = t.length ∧ ∀ x : Int, 0 ≤ x → x < (t.length : Int) → (rdOf false row x = true ↔ ∃ z' : Int, 0 ≤ z' ∧ z' < z + 1 ∧ JL t y z' ∧ JR t z' x)) → Ev (fun ρ k κ => semigroupref15_Both_3 k s u l (t.length : Int) z lo H1 κ) (fun v H' => Sep H H' [own reB v (brow t.length (JJ t y))]) := fun H1 h => by
      refine ev_eq (fun _ k _ => semigroupref15_Both_3_eq k) ?_
      rw [W_add z0 z1 (by omega)]
      exact hk H1 h
    refine ev_eq (fun _ k _ => semigroupref15_Both_1_eq k) (ev_pos z1 (ev_rdB (hS.pull 1).rowB z0 (by rw [brow_len]; exact z1) ?_))
    rw [brow_at z0 z1]
    refine ev_nif (fun h => next H1 ⟨row, hS, hr', fun x a b => ?_⟩) (fun h => ?_)
    · rw [hx x a b]
      refine ⟨fun ⟨z', p, q, r⟩ => ⟨z', p, by omega, r⟩, fun ⟨z', p, q, r⟩ => ⟨z', p, ?_, r⟩⟩
      by_cases hzz : z' = z
      · rw [hzz] at r; exact absurd r.1 h
      · omega
    · refine sp_put (x := true) hS hlo (fun _ => ⟨rfl, rfl⟩) z0 (by omega) fun H3 hS => sp_rdS ht hS.le z0 z1 fun r hr => ?_
      rw [hr.len, hrow]
      refine ev_loop (α := AH) (g := fun i H ρ k κ => semigroupref15_Both_2 k s u l (t.length : Int) z r (t.length : Int) i lo H κ) (t.length : Int) (fun i H' => ∃ row : List Bool, Sep H H' [own reB u row, own reB l (brow t.length (JL t y))] ∧ row.length = t.length ∧ ∀ x : Int, 0 ≤ x → x < (t.length : Int) → (rdOf false row x = true ↔ (∃ z' : Int, 0 ≤ z' ∧ z' < z ∧ JL t y z' ∧ JR t z' x) ∨ x = z ∨ ∃ i' : Int, 0 ≤ i' ∧ i' < i ∧ x = M t z i')) ?_ ?_ 0 H3 (by omega) (by omega) ⟨_, hS, by simpa using hr', fun x a b => ?_⟩
      · rintro i H1 i0 i1 ⟨row, hS, hr', hx⟩ hk
        have m0 := hv.lo z i z0 z1 i0 i1
        have m1 := hv.hi z i z0 z1 i0 i1
        refine ev_eq (fun _ k _ => semigroupref15_Both_2_eq k) (ev_pos i1 (ev_rdI (hr.le hS.le) i0 (by omega) (sp_put (i := M t z i) (x := true) hS hlo (fun _ => ⟨rfl, rfl⟩) m0 (by omega) fun H2 hS => ?_)))
        rw [W_add i0 i1 (by omega)]
        refine hk H2 ⟨_, hS, by simpa using hr', fun x a b => ?_⟩
        rw [rb_set m0 (by omega) a]
        by_cases hxm : x = M t z i
        · rw [if_pos hxm]; exact ⟨fun _ => .inr (.inr ⟨i, i0, by omega, hxm⟩), fun _ => rfl⟩
        · rw [if_neg hxm, hx x a b]
          refine ⟨fun h => h.imp id fun h => h.imp id fun ⟨i', p, q, r⟩ => ⟨i', p, by omega, r⟩, fun h => h.imp id fun h => h.imp id fun ⟨i', p, q, r⟩ => ⟨i', p, ?_, r⟩⟩
          by_cases hi : i' = i
          · rw [hi] at r; exact absurd r hxm
          · omega
      · rintro H1 ⟨row, hS, hr', hx⟩
        refine ev_eq (fun _ k _ => semigroupref15_Both_2_eq k) (ev_neg (by omega) (next H1 ⟨row, hS, hr', fun x a b => ?_⟩))
        rw [hx x a b]
        constructor
        · rintro (⟨z', p, q, r⟩ | h')
          · exact ⟨z', p, by omega, r⟩
          · exact ⟨z, z0, by omega, h, h'⟩
        · rintro ⟨z', p, q, r⟩
          by_cases hzz : z' = z
          · rw [hzz] at r; exact .inr r.2
          · exact .inl ⟨z', p, by omega, r⟩
      · rw [rb_set z0 (by omega) a]
        by_cases hxz : x = z
        · rw [if_pos hxz]; exact ⟨fun _ => .inr (.inl hxz), fun _ => rfl⟩
        · rw [if_neg hxz, hx x a b]
          refine ⟨.inl, fun h => h.elim id fun h => ?_⟩
          rcases h with h | ⟨i', p, q, _⟩
          · exact absurd h hxz
          · omega
  · rintro H1 ⟨row, hS, hr', hx⟩
    refine ev_eq (fun _ k _ => semigroupref15_Both_1_eq k) (ev_neg (by omega) (ev_ret ((hS.take 1).eq (brow_eq hr' fun x a b => ?_))))
    exact hx x a b
  · rw [rb_rep a (by omega)]
    exact ⟨fun h => by (cases h), fun ⟨z', p, q, _⟩ => by omega⟩
/-- Which relation 'which' asks for. -/
def JW (t : List (List Int)) (w : Int) : Int → Int → Prop := if w = 82 then JR t else if w = 76 then JL t else JJ t
theorem semigroupref15_ideals_ev {s : Sl} {t : List (List Int)} {H : AH} {lo : Nat} {w : Int} (hlo : lo ≤ H.length) (hv : Sq t) (ht : Tab H s t) : Ev (fun ρ k κ => semigroupref15_ideals k s w lo H κ) (fun v H' => Sep H H' [own (reL reB) v (btab t.length t.length (JW t w))]) := by
  have hn := hv.le
  refine ev_eq (fun _ k _ => semigroupref15_ideals_eq k) ?_
  rw [ht.len]
  refine ev_loop (α := Sl × AH) (g := fun y a ρ k κ => semigroupref15_ideals_1 k s w a.1 (t.length : Int) y lo a.2 κ) (t.length : Int) (fun y a => Sep H a.2 [own (reL reB) a.1 ((List.range y.toNat).map fun y : Nat => brow t.length (JW t w y))]) ?_ ?_ 0 (⟨none, 0⟩, H) (by omega) (by omega) ((Sep.nil H).nilS _)
  · rintro y ⟨u, H1⟩ y0 y1 hS hk
    simp only at hS
    have fin : ∀ {P : Int → Int → Prop} (v : Sl) (H2 : AH), JW t w = P → Sep H1 H2 [own reB v (brow t.length (P y))] → Ev (fun ρ k κ => mkb H2 [.sl v] 1 1 fun s3 H4 => appS lo H4 u s3 1 24 fun s5 H6 => semigroupref15_ideals_2 k s w s5 (t.length : Int) y lo H6 κ) (fun v H' => Sep H H' [own (reL reB) v (btab t.length t.length (JW t w))]) := by
      intro P v H2 hP h2
      have hS := (hS.call h2).pull 1
      refine sp_appL hS hlo (by simp; omega) fun s' H' hS' => ev_eq (fun _ k _ => semigroupref15_ideals_2_eq k) ?_
      rw [W_add y0 y1 (by omega)]
      refine hk (s', H') (hS'.eq ?_)
      have := range_snoc (fun y : Nat => brow t.length (JW t w y)) y0
      rw [show ((y.toNat : Nat) : Int) = y by omega] at this
      rw [← this, hP]
    refine ev_eq (fun _ k _ => semigroupref15_ideals_1_eq k) (ev_pos y1 (ev_if (fun h => ?_) (fun h => ev_if (fun h' => ?_) (fun h' => ?_))))
    · exact ev_call (semigroupref15_Right_ev (Nat.le_refl _) hv (ht.le hS.le) y0 y1) fun v H2 h2 => fin v H2 (by unfold JW; rw [if_pos h]) h2
    · exact ev_call (semigroupref15_Left_ev (Nat.le_refl _) hv (ht.le hS.le) y0 y1) fun v H2 h2 => fin v H2 (by unfold JW; rw [if_neg h, if_pos h']) h2
    · exact ev_call (semigroupref15_Both_ev (Nat.le_refl _) hv (ht.le hS.le) y0 y1) fun v H2 h2 => fin v H2 (by unfold JW; rw [if_neg h, if_neg h']) h2
  · rintro ⟨u, H1⟩ hS
    exact ev_eq (fun _ k _ => semigroupref15_ideals_1_eq k) (ev_neg (by omega) (ev_ret (hS.eq (by simp; rfl))))
open Classical in
theorem semigroupref15_mutual_ev {s : Sl} {N : Nat} {P : Int → Int → Prop} {H : AH} {lo : Nat} (hlo : lo ≤ H.length) (hN : N ≤ 4096) (hP : Pre N P) (hs : TabB H s (btab N N P)) : Ev (fun ρ k κ => semigroupref15_mutual k s lo H κ) (fun v H' => Sep H H' [own reI v (clN N (Mu P))]) := by
  have hE := hP.mu
  have hlen := btab_len N N P
  refine ev_eq (fun _ k _ => semigroupref15_mutual_eq k) ?_
  rw [hs.len, hlen]
  refine sp_mks (x := (0 : Int)) (Sep.nil H) reI (fun _ => ⟨rfl, rfl⟩) (by omega) (by omega) fun u H2 hS => ?_
  rw [hS.len]
  simp only [Int.toNat_natCast, List.length_replicate] at hS ⊢
  refine ev_loop (α := AH) (g := fun x H ρ k κ => semigroupref15_mutual_1 k s u (N : Int) x lo H κ) (N : Int) (fun x H' => ∃ p : List Int, Sep H H' [own reI u p] ∧ p.length = N ∧ (∀ j : Int, 0 ≤ j → j < x → rd p j ≤ j) ∧ ∀ j j' : Int, 0 ≤ j → j < x → 0 ≤ j' → j' < x → (rd p j = rd p j' ↔ Mu P j j')) ?_ ?_ 0 H2 (by omega) (by omega) ⟨_, hS, by simp, fun j a b => by omega, fun j j' a b => by omega⟩
  · rintro x H1 x0 x1 ⟨p, hS, hp, hle, heq⟩ hk
    have next : ∀ (c : Int) (H1 : AH), Sep H H1 [own reI u (p.set x.toNat c)] → c ≤ x → (∀ j : Int, 0 ≤ j → j < x → (rd p j = c ↔ Mu P j x)) → Ev (fun ρ k κ => semigroupref15_mutual_3 k s u (N : Int) x lo H1 κ) (fun v H' => Sep H H' [own reI v (clN N (Mu P))]) := fun c H1 hS hc h => by
      refine ev_eq (fun _ k _ => semigroupref15_mutual_3_eq k) ?_
      rw [W_add x0 x1 (by omega)]
      have hs : ∀ j : Int, 0 ≤ j → rd (p.set x.toNat c) j = if j = x then c else rd p j := fun j j0 => rd_set x0 (by omega) j0
      refine hk H1 ⟨_, hS, by simpa using hp, fun j a b => ?_, fun j j' a b a' b' => ?_⟩
      · rw [hs j a]; split
        · omega
        · exact hle j a (by omega)
      · rw [hs j a, hs j' a']
        by_cases hj : j = x
        · by_cases hj' : j' = x
          · rw [hj, hj']; exact ⟨fun _ => hE.refl x x0 x1, fun _ => rfl⟩
          · rw [if_pos hj, if_neg hj', hj, eq_comm, h j' a' (by omega)]
            exact ⟨hE.symm _ _ a' (by omega) x0 x1, hE.symm _ _ x0 x1 a' (by omega)⟩
        · by_cases hj' : j' = x
          · rw [if_neg hj, if_pos hj', hj']; exact h j a (by omega)
          · rw [if_neg hj, if_neg hj']; exact heq j j' a (by omega) a' (by omega)
    refine ev_eq (fun _ k _ => semigroupref15_mutual_1_eq k) (ev_pos x1 (sp_put (x := x) hS hlo (fun _ => ⟨rfl, rfl⟩) x0 (by omega) fun H2 hS => ?_))
    refine ev_for0 (g := fun y ρ k κ => semigroupref15_mutual_2 k s u x y (N : Int) x lo H2 κ) x (fun y => ∀ y' : Int, 0 ≤ y' → y' < y → ¬ Mu P x y') ?_ ?_ 0 (by omega) (by omega) (fun y' a b => by omega)
    · intro y y0 y1 hy
      have rx := btab_rlen (n := N) (m := N) (P := P) x0 x1
      have ry := btab_rlen (n := N) (m := N) (P := P) y0 (show y < N by omega)
      by_cases hm : Mu P x y
      · left
        refine ev_eq (fun _ k _ => semigroupref15_mutual_2_eq k) (ev_pos y1 (sp_rdSB hs hS.le x0 (by omega) fun rx hrx => ev_rdB (hrx.le hS.le) y0 (by omega) ?_))
        rw [btab_at x0 x1 y0 (by omega)]
        refine ev_andP (c := P y x) (fun _ => sp_rdSB hs hS.le y0 (by omega) fun ry hry => ev_rdB (hry.le hS.le) x0 (by omega) (ev_ret ⟨by rw [btab_at y0 (by omega) x0 x1], rfl⟩)) (ev_pos hm (ev_rdI hS.row y0 (by simp; omega) (sp_put (x := rd (p.set x.toNat x) y) hS hlo (fun _ => ⟨rfl, rfl⟩) x0 (by simp; omega) fun H3 hS => ?_)))
        rw [List.set_set, rd_set x0 (by omega) y0, if_neg (by omega)] at hS
        refine next (rd p y) H3 hS (by have := hle y y0 (by omega); omega) fun j a b => ?_
        rw [heq j y a b y0 y1]
        exact ⟨fun e => hE.trans j y x a (by omega) y0 (by omega) x0 x1 e (hE.symm x y x0 x1 y0 (by omega) hm), fun e => hE.trans j x y a (by omega) x0 x1 y0 (by omega) e hm⟩
      · right
        refine ⟨fun y' a b => ?_, fun h' => ?_⟩
        · by_cases hyy : y' = y
          · rw [hyy]; exact hm
          · exact hy y' a (by omega)
        refine ev_eq (fun _ k _ => semigroupref15_mutual_2_eq k) (ev_pos y1 (sp_rdSB hs hS.le x0 (by omega) fun rx hrx => ev_rdB (hrx.le hS.le) y0 (by omega) ?_))
        rw [btab_at x0 x1 y0 (by omega)]
        refine ev_andP (c := P y x) (fun _ => sp_rdSB hs hS.le y0 (by omega) fun ry hry => ev_rdB (hry.le hS.le) x0 (by omega) (ev_ret ⟨by rw [btab_at y0 (by omega) x0 x1], rfl⟩)) (ev_neg hm ?_)
        rw [W_add y0 y1 (by omega)]; exact h'
    · intro hy
      refine ev_eq (fun _ k _ => semigroupref15_mutual_2_eq k) (ev_neg (by omega) (next x H2 hS (Int.le_refl _) fun j a b => ?_))
      refine ⟨fun e => ?_, fun e => absurd (hE.symm j x a (by omega) x0 x1 e) (hy j a b)⟩
      have := hle j a b
      omega
  · rintro H1 ⟨p, hS, hp, hle, heq⟩
    refine ev_eq (fun _ k _ => semigroupref15_mutual_1_eq k) (ev_neg (by omega) (ev_call (semigroupref03_Canonical_ev (Nat.le_refl _) hS.row (by omega)) fun v H2 ⟨o, h2, ho⟩ => ev_ret ((h2.base hS.le).eq ?_)))
    rw [hp] at ho
    exact (ho.congr fun x y a b c d => heq x y a b c d).eq_clN
theorem JW_R (t : List (List Int)) : JW t 82 = JR t := by unfold JW; rw [if_pos rfl]
theorem JW_L (t : List (List Int)) : JW t 76 = JL t := by unfold JW; rw [if_neg (by omega), if_pos rfl]
theorem JW_J (t : List (List Int)) : JW t 74 = JJ t := by unfold JW; rw [if_neg (by omega), if_neg (by omega)]
open Classical in
theorem semigroupref15_Classes_ev {s : Sl} {t : List (List Int)} {H : AH} {lo : Nat} (hlo : lo ≤ H.length) (hv : Va t) (ht : Tab H s t) : Ev (fun ρ k κ => semigroupref15_Classes k s lo H κ) (fun v H' => Sep H H' (OwnG t v)) := by
  have hn := hv.le
  have hp := hv.pos
  have hsq := hv.toSq
  have cR := gR_cl hv
  have cL := gL_cl hv
  have cJ := gJ_cl hv
  have lR := cR.len
  have lL := cL.len
  have lJ := cJ.len
  refine ev_eq (fun _ k _ => semigroupref15_Classes_eq k) (sp_alc (Sep.nil H) fun p1 H2 hS => ?_)
  refine ev_call (semigroupref15_ideals_ev (Nat.le_refl _) hsq (ht.le hS.le)) fun v3 H4 h4 => ?_
  rw [JW_R] at h4
  have hS := hS.on h4.le
  refine ev_call (semigroupref15_mutual_ev (Nat.le_refl _) (by omega) (JR_pre hv) h4.tabB) fun v5 H6 h6 => ?_
  have h6 : Sep H4 H6 [own reI v5 (gR t)] := h6
  have hS := hS.call h6
  refine ev_call (semigroupref15_ideals_ev (Nat.le_refl _) hsq (ht.le hS.le)) fun v7 H8 h8 => ?_
  rw [JW_L] at h8
  have hS := hS.on h8.le
  refine ev_call (semigroupref15_mutual_ev (Nat.le_refl _) (by omega) (JL_pre hv) h8.tabB) fun v9 H10 h10 => ?_
  have h10 : Sep H8 H10 [own reI v9 (gL t)] := h10
  have hS := hS.call h10
  refine sp_alc hS fun p11 H12 hS => sp_stnC hS hlo rfl fun H13 hS => ?_
  refine ev_call (semigroupref15_ideals_ev (Nat.le_refl _) hsq (ht.le hS.le)) fun v14 H15 h15 => ?_
  rw [JW_J] at h15
  have hS := hS.call h15
  refine ev_call (semigroupref15_mutual_ev (Nat.le_refl _) (by omega) (JJ_pre hv) hS.tabB) fun v16 H17 h17 => ?_
  have h17 : Sep H15 H17 [own reI v16 (gJ t)] := h17
  have hS := hS.call h17
  refine sp_stcC (j := 2) (hS.pull 2) hlo (by simp) fun H18 hS => ev_fldS hS.at1 rfl (ev_fldS hS.at1 rfl ?_)
  refine ev_call (semigroupref03_Meet_ev (Nat.le_refl _) (hS.pull 4).row (hS.pull 3).row cR.can cL.can (by omega) (by omega)) fun v23 H24 ⟨h, h24, hh⟩ => ?_
  have eh : h = gH t := by
    rw [lR] at hh
    exact hh.eq_clN
  subst eh
  have hS := hS.call h24
  refine sp_stcC (j := 3) (hS.pull 1) hlo (by simp) fun H25 hS => ev_fldS hS.at1 rfl ?_
  refine ev_call (semigroupref03_Classes_ev (Nat.le_refl _) (hS.pull 2).row cJ.can (by omega)) fun v28 H29 h29 => ?_
  have hS := hS.call h29
  simp only [List.set_cons_succ, List.set_cons_zero] at hS
  obtain ⟨ss, hss, hS⟩ := hS.rows
  have hcl : (clsL (gJ t)).length = nJ t := clsL_len _
  rw [hS.tlen, hcl]
  have hnJ := nJ_le hv
  -- v28 | p11 | v23 | v16 | v14 | v9 | v5 | p1
  have hd : ∀ {c : Int}, 0 ≤ c → c < (nJ t : Int) → 0 < ((R (clsL (gJ t)) c).length : Int) ∧ rd (R (clsL (gJ t)) c) 0 = fJ t c := fun c0 c1 => by
    rw [clsL_R c0 c1]
    obtain ⟨l, hl⟩ := cJ.can.mem_head c0 c1
    rw [hl]; exact ⟨by simp, rfl⟩
  refine ev_loop (α := AH) (g := fun a H ρ k κ => semigroupref15_Classes_1 k (some p1) (some p11) v14 v28 v28 (nJ t : Int) a lo H κ) (nJ t : Int) (fun a H' => ∃ sB, Sep H H' [own (reL reB) sB ((List.range a.toNat).map fun a : Nat => brow (nJ t) fun b => JJ t (fJ t b) (fJ t a)), ownT reI v28 ss (clsL (gJ t)), ownC p11 [.sl v5, .sl v9, .sl v16, .sl v23, .sl sB], own reI v23 (gH t), own reI v16 (gJ t), own (reL reB) v14 (btab t.length t.length (JJ t)), own reI v9 (gL t), own reI v5 (gR t), ownC p1 [.sl ⟨none, 0⟩, .sl ⟨none, 0⟩, .sl ⟨none, 0⟩, .sl ⟨none, 0⟩, .sl ⟨none, 0⟩]]) ?_ ?_ 0 H29 (by omega) (by omega) ⟨⟨none, 0⟩, hS.nilS (reL reB)⟩
  · rintro a H1 a0 a1 ⟨sB, hS⟩ hk
    obtain ⟨ha, ha'⟩ := hd a0 a1
    obtain ⟨fa0, fa1, _⟩ := fJ_in hv a0 a1
    refine ev_eq (fun _ k _ => semigroupref15_Classes_1_eq k) (ev_pos a1 (sp_rdT (hS.pull 1) a0 (by rw [hcl]; exact a1) ?_))
    rw [(hS.pull 1).tlen, hcl]
    refine ev_loop (α := Sl × AH) (g := fun b c ρ k κ => semigroupref15_Classes_2 k (some p1) (some p11) v14 v28 (slAt ss a) c.1 v28 (nJ t : Int) a v28 (nJ t : Int) b lo c.2 κ) (nJ t : Int) (fun b c => Sep H c.2 [own reB c.1 ((List.range b.toNat).map fun b : Nat => decide (JJ t (fJ t b) (fJ t a))), own (reL reB) sB ((List.range a.toNat).map fun a : Nat => brow (nJ t) fun b => JJ t (fJ t b) (fJ t a)), ownT reI v28 ss (clsL (gJ t)), ownC p11 [.sl v5, .sl v9, .sl v16, .sl v23, .sl sB], own reI v23 (gH t), own reI v16 (gJ t), own (reL reB) v14 (btab t.length t.length (JJ t)), own reI v9 (gL t), own reI v5 (gR t), ownC p1 [.sl ⟨none, 0⟩, .sl ⟨none, 0⟩, .sl ⟨none, 0⟩, .sl ⟨none, 0⟩, .sl ⟨none, 0⟩]]) ?_ ?_ 0 (⟨none, 0⟩, H1) (by omega) (by omega) (hS.nilS reB)
    · rintro b ⟨u, H1⟩ b0 b1 hS hk
      simp only at hS
      obtain ⟨hb, hb'⟩ := hd b0 b1
      obtain ⟨fb0, fb1, _⟩ := fJ_in hv b0 b1
      refine ev_eq (fun _ k _ => semigroupref15_Classes_2_eq k) (ev_pos b1 (sp_rdT (hS.pull 2) b0 (by rw [hcl]; exact b1) (ev_rdI ((hS.pull 2).rowAtI b0 (by rw [hcl]; exact b1)) (by omega) hb ?_)))
      rw [hb']
      refine ev_rdSB (hS.pull 6).tabB fb0 (by rw [btab_len]; exact fb1) fun jy hjy => ev_rdI ((hS.pull 2).rowAtI a0 (by rw [hcl]; exact a1)) (by omega) ha ?_
      rw [ha']
      refine ev_rdB hjy fa0 (by rw [btab_rlen fb0 fb1]; exact fa1) ?_
      rw [btab_at fb0 fb1 fa0 fa1]
      refine sp_app1 (x := decide (JJ t (fJ t b) (fJ t a))) hS hlo (fun _ => ⟨rfl, rfl⟩) (by simp; omega) fun u' H2 hS => ?_
      rw [W_add b0 b1 (by omega)]
      refine hk (u', H2) (hS.eq ?_)
      have := range_snoc (fun b : Nat => decide (JJ t (fJ t b) (fJ t a))) b0
      rwa [show ((b.toNat : Nat) : Int) = b by omega] at this
    · rintro ⟨u, H1⟩ hS
      simp only at hS
      refine ev_eq (fun _ k _ => semigroupref15_Classes_2_eq k) (ev_neg (by omega) (ev_asP (ev_fldS (hS.pull 3).at1 rfl ?_)))
      refine sp_appL (hS.pull 1) hlo (by simp; omega) fun sB' H2 hS => ev_asP (sp_stcC (j := 4) (hS.pull 2) hlo (by simp) fun H3 hS => ?_)
      simp only [List.set_cons_succ, List.set_cons_zero] at hS
      rw [W_add a0 a1 (by omega)]
      have e := range_snoc (fun a : Nat => brow (nJ t) fun b => JJ t (fJ t b) (fJ t a)) a0
      rw [show ((a.toNat : Nat) : Int) = a by omega] at e
      refine hk H3 ⟨sB', ?_⟩
      rw [← e]
      exact hS.push 2
  · rintro H1 ⟨sB, hS⟩
    refine ev_eq (fun _ k _ => semigroupref15_Classes_1_eq k) (ev_neg (by omega) (ev_asP (ev_sssss (hS.pull 2).at1 (ev_asP ?_))))
    refine sp_stnC (p := p1) (us := [.sl v5, .sl v9, .sl v16, .sl v23, .sl sB]) (hS.pull 8) hlo rfl fun H2 hS => ?_
    have hp1 := hS.at1
    have h5 := hS.ord [8, 7, 5, 4, 1]
    exact ev_asP (ev_sssss hp1 (ev_ret h5))
/-- What Classes answers. -/
noncomputable def vif {α : Type} (t : List (List Int)) (l : List α) : List α := open Classical in if val t = 0 then l else []
theorem vif_pos {α : Type} {t : List (List Int)} {l : List α} (h : val t = 0) : vif t l = l := by unfold vif; rw [if_pos h]
theorem vif_neg {α : Type} {t : List (List Int)} {l : List α} (h : ¬ val t = 0) : vif t l = [] := by unfold vif; rw [if_neg h]
noncomputable abbrev OwnG' (t : List (List Int)) (v : Sl × Sl × Sl × Sl × Sl) : List Asr := [own reI v.1 (vif t (gR t)), own reI v.2.1 (vif t (gL t)), own reI v.2.2.1 (vif t (gJ t)), own reI v.2.2.2.1 (vif t (gH t)), own (reL reB) v.2.2.2.2 (vif t (gB t))]
theorem semigrouplaw15_large_ev {s : Sl} {t : List (List Int)} {H : AH} {lo : Nat} {n : Int} (ht : In2 t) (hs : Tab H s t) : Ev (fun ρ k κ => semigrouplaw15_large k s n lo H κ) (Is (decide ((t.length : Int) > n ∧ shp t = 0)) H) := by
  refine ev_eq (fun _ k _ => semigrouplaw15_large_eq k) ?_
  rw [hs.len]
  exact ev_andP (fun _ => ev_is (semigroupref14_Shape_ev ht hs) (ev_ret ⟨rfl, rfl⟩)) (ev_ret ⟨rfl, rfl⟩)
end Go.Ab
