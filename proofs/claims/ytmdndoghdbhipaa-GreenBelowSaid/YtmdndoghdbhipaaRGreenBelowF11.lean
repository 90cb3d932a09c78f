/- Green's relations by the reference; comparisons. What they answer. No condition but that a table comes in. -/
import Derived.Test.YtmdndoghdbhipaaRGreenBelowF10
set_option linter.unusedVariables false
set_option linter.unusedSimpArgs false
namespace Go.Ab
open Go
open Classical in
/-- A row of bools. -/
noncomputable def brow (n : Nat) (Q : Int → Prop) : List Bool := (List.range n).map fun x : Nat => decide (Q x)
theorem brow_len (n : Nat) (Q : Int → Prop) : (brow n Q).length = n := by simp [brow]
open Classical in
theorem brow_at {n : Nat} {Q : Int → Prop} {x : Int} (x0 : 0 ≤ x) (x1 : x < n) : rdOf false (brow n Q) x = decide (Q x) := by
  unfold brow; rw [rdOf_map false x0 x1, show ((x.toNat : Nat) : Int) = x by omega]
open Classical in
theorem brow_eq {n : Nat} {Q : Int → Prop} {l : List Bool} (hl : l.length = n) (h : ∀ x : Int, 0 ≤ x → x < n → (rdOf false l x = true ↔ Q x)) : l = brow n Q :=
  rdOf_ext false (by rw [brow_len, hl]) fun x x0 x1 => by rw [brow_at x0 (by omega), Bool.eq_iff_iff, decide_eq_true_iff]; exact h x x0 (by omega)
theorem semigroupref15_Right_ev {s : Sl} {t : List (List Int)} {H : AH} {lo : Nat} (hlo : lo ≤ H.length) (hv : Sq t) (ht : Tab H s t) {y : Int} (y0 : 0 ≤ y) (y1 : y < (t.length : Int)) : Ev (fun ρ k κ => semigroupref15_Right k s y lo H κ) (fun v H' => Sep H H' [own reB v (brow t.length (JR t y))]) := by
  have hn := hv.le
  have hrow := hv.row y y0 y1
  refine ev_eq (fun _ k _ => semigroupref15_Right_eq k) ?_
  rw [ht.len]
  refine sp_mks (x := false) (Sep.nil H) reB (fun _ => ⟨rfl, rfl⟩) (by omega) (by omega) fun u H2 hS => sp_put (x := true) hS hlo (fun _ => ⟨rfl, rfl⟩) y0 (by simp; omega) fun H4 hS => sp_rdS ht hS.le y0 y1 fun r hr => ?_
  rw [hr.len, hrow]
  refine ev_loop (α := AH) (g := fun i H ρ k κ => semigroupref15_Right_1 k u r (t.length : Int) i lo H κ) (t.length : Int) (fun i H' => ∃ row : List Bool, Sep H H' [own reB u row] ∧ row.length = t.length ∧ ∀ x : Int, 0 ≤ x → x < (t.length : Int) → (rdOf false row x = true ↔ x = y ∨ ∃ i' : Int, 0 ≤ i' ∧ i' < i ∧ x = M t y i')) ?_ ?_ 0 H4 (by omega) (by omega) ⟨_, hS, by simp, fun x a b => ?_⟩
  · rintro i H1 i0 i1 ⟨row, hS, hr', hx⟩ hk
    have m0 := hv.lo y i y0 y1 i0 i1
    have m1 := hv.hi y i y0 y1 i0 i1
    refine ev_eq (fun _ k _ => semigroupref15_Right_1_eq k) (ev_pos i1 (ev_rdI (hr.le hS.le) i0 (by omega) (sp_put (i := M t y i) (x := true) hS hlo (fun _ => ⟨rfl, rfl⟩) m0 (by omega) fun H2 hS => ?_)))
    rw [W_add i0 i1 (by omega)]
    refine hk H2 ⟨_, hS, by simpa using hr', fun x a b => ?_⟩
    rw [rb_set m0 (by omega) a]
    by_cases hxm : x = M t y i
    · rw [if_pos hxm]; exact ⟨fun _ => .inr ⟨i, i0, by omega, hxm⟩, fun _ => rfl⟩
    · rw [if_neg hxm, hx x a b]
      refine ⟨fun h => h.imp id fun ⟨i', p, q, r⟩ => ⟨i', p, by omega, r⟩, fun h => h.imp id fun ⟨i', p, q, r⟩ => ⟨i', p, ?_, r⟩⟩
      by_cases hi : i' = i
      · rw [hi] at r; exact absurd r hxm
      · omega
  · rintro H1 ⟨row, hS, hr', hx⟩
    exact ev_eq (fun _ k _ => semigroupref15_Right_1_eq k) (ev_neg (by omega) (ev_ret (hS.eq (brow_eq hr' hx))))
  · rw [rb_set y0 (by simp; omega) a]
    by_cases hxy : x = y
    · rw [if_pos hxy]; exact ⟨fun _ => .inl hxy, fun _ => rfl⟩
    · rw [if_neg hxy, rb_rep a (by omega)]
      refine ⟨fun h => by (cases h), fun h => ?_⟩
      rcases h with h | ⟨i', p, q, _⟩
      · exact absurd h hxy
      · omega
theorem semigroupref15_Left_ev {s : Sl} {t : List (List Int)} {H : AH} {lo : Nat} (hlo : lo ≤ H.length) (hv : Sq t) (ht : Tab H s t) {y : Int} (y0 : 0 ≤ y) (y1 : y < (t.length : Int)) : Ev (fun ρ k κ => semigroupref15_Left k s y lo H κ) (fun v H' => Sep H H' [own reB v (brow t.length (JL t y))]) := by
  have hn := hv.le
  refine ev_eq (fun _ k _ => semigroupref15_Left_eq k) ?_
  rw [ht.len]
  refine sp_mks (x := false) (Sep.nil H) reB (fun _ => ⟨rfl, rfl⟩) (by omega) (by omega) fun u H2 hS => sp_put (x := true) hS hlo (fun _ => ⟨rfl, rfl⟩) y0 (by simp; omega) fun H4 hS => ?_
  refine ev_loop (α := AH) (g := fun i H ρ k κ => semigroupref15_Left_1 k s y u (t.length : Int) i lo H κ) (t.length : Int) (fun i H' => ∃ row : List Bool, Sep H H' [own reB u row] ∧ row.length = t.length ∧ ∀ x : Int, 0 ≤ x → x < (t.length : Int) → (rdOf false row x = true ↔ x = y ∨ ∃ i' : Int, 0 ≤ i' ∧ i' < i ∧ x = M t i' y)) ?_ ?_ 0 H4 (by omega) (by omega) ⟨_, hS, by simp, fun x a b => ?_⟩
  · rintro i H1 i0 i1 ⟨row, hS, hr', hx⟩ hk
    have m0 := hv.lo i y i0 i1 y0 y1
    have m1 := hv.hi i y i0 i1 y0 y1
    have hrow := hv.row i i0 i1
    refine ev_eq (fun _ k _ => semigroupref15_Left_1_eq k) (ev_pos i1 (ev_rdM (ht.le hS.le) i0 i1 y0 (by omega) (sp_put (x := true) hS hlo (fun _ => ⟨rfl, rfl⟩) m0 (by omega) fun H2 hS => ?_)))
    rw [W_add i0 i1 (by omega)]
    refine hk H2 ⟨_, hS, by simpa using hr', fun x a b => ?_⟩
    rw [rb_set m0 (by omega) a]
    by_cases hxm : x = M t i y
    · rw [if_pos hxm]; exact ⟨fun _ => .inr ⟨i, i0, by omega, hxm⟩, fun _ => rfl⟩
    · rw [if_neg hxm, hx x a b]
      refine ⟨fun h => h.imp id fun ⟨i', p, q, r⟩ => ⟨i', p, by omega, r⟩, fun h => h.imp id fun ⟨i', p, q, r⟩ => ⟨i', p, ?_, r⟩⟩
      by_cases hi : i' = i
      · rw [hi] at r; exact absurd r hxm
      · omega
  · rintro H1 ⟨row, hS, hr', hx⟩
    exact ev_eq (fun _ k _ => semigroupref15_Left_1_eq k) (ev_neg (by omega) (ev_ret (hS.eq (brow_eq hr' hx))))
  · rw [rb_set y0 (by simp; omega) a]
    by_cases hxy : x = y
    · rw [if_pos hxy]; exact ⟨fun _ => .inl hxy, fun _ => rfl⟩
    · rw [if_neg hxy, rb_rep a (by omega)]
      refine ⟨fun h => by (cases h), fun h => ?_⟩
      rcases h with h | ⟨i', p, q, _⟩
      · exact absurd h hxy
      · omega
open Classical in
theorem semigroupref15_Both_ev {s : Sl} {t : List (List Int)} {H : AH} {lo : Nat} (hlo : lo ≤ H.length) (hv : Sq t) (ht : Tab H s t) {y : Int} (y0 : 0 ≤ y) (y1 : y < (t.length : Int)) : Ev (fun ρ k κ => semigroupref15_Both k s y lo H κ) (fun v H' => Sep H H' [own reB v (brow t.length (JJ t y))]) := by
  have hn := hv.le
  refine ev_eq (fun _ k _ => semigroupref15_Both_eq k) ?_
  rw [ht.len]
  refine sp_mks (x := false) (Sep.nil H) reB (fun _ => ⟨rfl, rfl⟩) (by omega) (by omega) fun u H2 hS => ?_
  refine ev_call (semigroupref15_Left_ev (Nat.le_refl _) hv (ht.le hS.le) y0 y1) fun l H4 h4 => ?_
  have hS := (hS.call h4).pull 1
  rw [h4.len, brow_len]
  refine ev_loop (α := AH) (g := fun z H ρ k κ => semigroupref15_Both_1 k s u l (t.length : Int) z lo H κ) (t.length : Int) (fun z H' => ∃ row : List Bool, Sep H H' [own reB u row, own reB l (brow t.length (JL t y))] ∧ row.length = t.length ∧ ∀ x : Int, 0 ≤ x → x < (t.length : Int) → (rdOf false row x = true ↔ ∃ z' : Int, 0 ≤ z' ∧ z' < z ∧ JL t y z' ∧ JR t z' x)) ?_ ?_ 0 H4 (by omega) (by omega) ⟨_, hS, by simp, fun x a b => ?_⟩
  · rintro z H1 z0 z1 ⟨row, hS, hr', hx⟩ hk
    have hrow := hv.row z z0 z1
    have next : ∀ H1, (∃ row : List Bool, Sep H H1 [own reB u row, own reB l (brow t.length (JL t y))] ∧ row.length = t.length ∧ ∀ x : Int, 0 ≤ x → x < (t.length : Int) → (rdOf false row x = true ↔ ∃ z' : Int, 0 ≤ z' ∧ z' < z + 1 ∧ JL t y z' ∧ JR t z' x)) → Ev (fun ρ k κ => semigroupref15_Both_3 k s u l (t.length : Int) z lo H1 κ) (fun v H' => Sep H H' [own reB v (brow t.length (JJ t y))]) := fun H1 h => by
      refine ev_eq (fun _ k _ => semigroupref15_Both_3_eq k) ?_
      rw [W_add z0 z1 (by omega)]
      exact hk H1 h
    refine ev_eq (fun _ k _ => semigroupref15_Both_1_eq k) (ev_pos z1 (ev_rdB (hS.pull 1).rowB z0 (by rw [brow_len]; exact z1) ?_))
    rw [brow_at z0 z1]
    refine ev_nif (fun h => next H1 ⟨row, hS, hr', fun x a b => ?_⟩) (fun h => ?_)
    · rw [hx x a b]
      refine ⟨fun ⟨z', p, q, r⟩ => ⟨z', p, by omega, r⟩, fun ⟨z', p, q, r⟩ => ⟨z', p, ?_, r⟩⟩
      by_cases hzz : z' = z
      · rw [hzz] at r; exact absurd r.1 h
      · omega
    · refine sp_put (x := true) hS hlo (fun _ => ⟨rfl, rfl⟩) z0 (by omega) fun H3 hS => sp_rdS ht hS.le z0 z1 fun r hr => ?_
      rw [hr.len, hrow]
      refine ev_loop (α := AH) (g := fun i H ρ k κ => semigroupref15_Both_2 k s u l (t.length : Int) z r (t.length : Int) i lo H κ) (t.length : Int) (fun i H' => ∃ row : List Bool, Sep H H' [own reB u row, own reB l (brow t.length (JL t y))] ∧ row.length = t.length ∧ ∀ x : Int, 0 ≤ x → x < (t.length : Int) → (rdOf false row x = true ↔ (∃ z' : Int, 0 ≤ z' ∧ z' < z ∧ JL t y z' ∧ JR t z' x) ∨ x = z ∨ ∃ i' : Int, 0 ≤ i' ∧ i' < i ∧ x = M t z i')) ?_ ?_ 0 H3 (by omega) (by omega) ⟨_, hS, by simpa using hr', fun x a b => ?_⟩
      · rintro i H1 i0 i1 ⟨row, hS, hr', hx⟩ hk
        have m0 := hv.lo z i z0 z1 i0 i1
        have m1 := hv.hi z i z0 z1 i0 i1
        refine ev_eq (fun _ k _ => semigroupref15_Both_2_eq k) (ev_pos i1 (ev_rdI (hr.le hS.le) i0 (by omega) (sp_put (i := M t z i) (x := true) hS hlo (fun _ => ⟨rfl, rfl⟩) m0 (by omega) fun H2 hS => ?_)))
        rw [W_add i0 i1 (by omega)]
        refine hk H2 ⟨_, hS, by simpa using hr', fun x a b => ?_⟩
        rw [rb_set m0 (by omega) a]
        by_cases hxm : x = M t z i
        · rw [if_pos hxm]; exact ⟨fun _ => .inr (.inr ⟨i, i0, by omega, hxm⟩), fun _ => rfl⟩
        · rw [if_neg hxm, hx x a b]
          refine ⟨fun h => h.imp id fun h => h.imp id fun ⟨i', p, q, r⟩ => ⟨i', p, by omega, r⟩, fun h => h.imp id fun h => h.imp id fun ⟨i', p, q, r⟩ => ⟨i', p, ?_, r⟩⟩
          by_cases hi : i' = i
          · rw [hi] at r; exact absurd r hxm
          · omega
      · rintro H1 ⟨row, hS, hr', hx⟩
        refine ev_eq (fun _ k _ => semigroupref15_Both_2_eq k) (ev_neg (by omega) (next H1 ⟨row, hS, hr', fun x a b => ?_⟩))
        rw [hx x a b]
        constructor
        · rintro (⟨z', p, q, r⟩ | h')
          · exact ⟨z', p, by omega, r⟩
          · exact ⟨z, z0, by omega, h, h'⟩
        · rintro ⟨z', p, q, r⟩
          by_cases hzz : z' = z
          · rw [hzz] at r; exact .inr r.2
          · exact .inl ⟨z', p, by omega, r⟩
      · rw [rb_set z0 (by omega) a]
        by_cases hxz : x = z
        · rw [if_pos hxz]; exact ⟨fun _ => .inr (.inl hxz), fun _ => rfl⟩
        · rw [if_neg hxz, hx x a b]
          refine ⟨.inl, fun h => h.elim id fun h => ?_⟩
          rcases h with h | ⟨i', p, q, _⟩
          · exact absurd h hxz
          · omega
  · rintro H1 ⟨row, hS, hr', hx⟩
    refine ev_eq (fun _ k _ => semigroupref15_Both_1_eq k) (ev_neg (by omega) (ev_ret ((hS.take 1).eq (brow_eq hr' fun x a b => ?_))))
    exact hx x a b
  · rw [rb_rep a (by omega)]
    exact ⟨fun h => by (cases h), fun ⟨z', p, q, _⟩ => by omega⟩
theorem semigrouplaw15_large_ev {s : Sl} {t : List (List Int)} {H : AH} {lo : Nat} {n : Int} (ht : In2 t) (hs : Tab H s t) : Ev (fun ρ k κ => semigrouplaw15_large k s n lo H κ) (Is (decide ((t.length : Int) > n ∧ shp t = 0)) H) := by
  refine ev_eq (fun _ k _ => semigrouplaw15_large_eq k) ?_
  rw [hs.len]
  exact ev_andP (fun _ => ev_is (semigroupref14_Shape_ev ht hs) (ev_ret ⟨rfl, rfl⟩)) (ev_ret ⟨rfl, rfl⟩)
end Go.Ab
