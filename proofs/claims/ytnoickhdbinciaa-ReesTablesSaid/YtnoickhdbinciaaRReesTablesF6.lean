/- Rees matrix semigroups: numbers and products. What they answer. No condition but that a structure comes in. -/
import Derived.Test.YtnoickhdbinciaaRReesTablesF5
set_option linter.unusedVariables false
set_option linter.unusedSimpArgs false
namespace Go.Ab
open Go
theorem rees_number_ev {g q : Sl} {m k : Int} {Z : Bool} {G P : List (List Int)} {H : AH} {lo : Nat} (hl : g.len = G.length) (h : RVa G m k P Z) {i a l : Int} (i0 : 0 ≤ i) (i1 : i < m) (a0 : 0 ≤ a) (a1 : a < (G.length : Int)) (l0 : 0 ≤ l) (l1 : l < k) :
    Ev (fun ρ n κ => rees_number n g m k q Z i a l lo H κ) (fun v H' => v = (i * (G.length : Int) + a) * k + l + zz Z ∧ Le H H') := by
  have he := h.enc i0 i1 a0 a1 l0 l1
  have hs := h.sz
  have hz := zz_cases Z
  refine ev_eq (fun _ k _ => rees_number_eq k) (ev_alcB fun p H2 hp _ l2 => ev_fldS hp rfl (ev_fldI hp rfl (ev_siisb hp (ev_call rees_zero_ev fun v H13 ⟨e, l13⟩ => ev_ret ⟨?_, l2.trans l13⟩))))
  subst e
  rw [hl, W_in (i := i * (G.length : Int)) (by omega) (by omega), W_in (i := i * (G.length : Int) + a) (by omega) (by omega), W_in (i := (i * (G.length : Int) + a) * k) (by omega) (by omega), W_in (i := (i * (G.length : Int) + a) * k + l) (by omega) (by omega), W_in (by omega) (by omega)]
theorem semigroupref17_Number_ev {g q : Sl} {m k : Int} {Z : Bool} {G P : List (List Int)} {H : AH} {lo : Nat} (hl : g.len = G.length) (h : RVa G m k P Z) {i a l : Int} :
    Ev (fun ρ n κ => semigroupref17_Number n g m k q Z i a l lo H κ) (fun v H' => v = rnum G m k Z i a l ∧ Le H H') := by
  have hs := h.sz
  have hz := zz_cases Z
  refine ev_eq (fun _ k _ => semigroupref17_Number_eq k) (ev_alcB fun p H2 hp _ l2 => ?_)
  refine ev_orP (c := i ≥ m) (fun _ => ev_fldI hp rfl (ev_ret ⟨rfl, rfl⟩)) (ev_orP (c := a < 0) (fun _ => ev_ret ⟨rfl, rfl⟩) (ev_orP (c := a ≥ (G.length : Int)) (fun _ => ev_fldS hp rfl (ev_ret ⟨by rw [hl], rfl⟩)) (ev_orP (c := l < 0) (fun _ => ev_ret ⟨rfl, rfl⟩) (ev_orP (c := l ≥ k) (fun _ => ev_fldI hp rfl (ev_ret ⟨rfl, rfl⟩)) (ev_if (fun hb => ev_ret ⟨?_, l2⟩) (fun hb => ?_))))))
  · unfold rnum; rw [if_neg (by omega)]
  have he := h.enc (i := i) (a := a) (l := l) (by omega) (by omega) (by omega) (by omega) (by omega) (by omega)
  refine ev_fldS hp rfl (ev_fldI hp rfl (ev_siisb hp (ev_call semigroupref17_base_ev fun v H29 ⟨e, l29⟩ => ev_ret ⟨?_, l2.trans l29⟩)))
  subst e
  unfold rnum
  rw [if_pos (by omega), hl, W_in (i := i * (G.length : Int)) (by omega) (by omega), W_in (i := i * (G.length : Int) + a) (by omega) (by omega), W_in (i := (i * (G.length : Int) + a) * k) (by omega) (by omega), W_in (i := (i * (G.length : Int) + a) * k + l) (by omega) (by omega), W_in (by omega) (by omega)]
theorem rees_mul_ev {g q : Sl} {m k : Int} {Z : Bool} {G P : List (List Int)} {H : AH} {lo : Nat} (hgt : Tab H g G) (hqt : Tab H q P) (h : RVa G m k P Z) {x y : Int} (x0 : 0 ≤ x) (x1 : x < m * k * (G.length : Int) + zz Z) (y0 : 0 ≤ y) (y1 : y < m * k * (G.length : Int) + zz Z) :
    Ev (fun ρ n κ => rees_mul n g m k q Z x y lo H κ) (fun v H' => v = rmul G k P Z x y ∧ Le H H') := by
  have hz := zz_cases Z
  have hsz := h.sz
  have hk := h.k1
  have hs := h.grp.toSq
  have hg := hs.pos
  refine ev_eq (fun _ k _ => rees_mul_eq k) (ev_alcB fun p H2 hp _ l2 => ev_siisb hp (ev_call rees_zero_ev fun v H9 ⟨e, l9⟩ => ?_))
  subst e
  have hp := hp.le l9
  have l9 := l2.trans l9
  have hgt := hgt.le l9
  have hqt := hqt.le l9
  refine ev_andP (c := x = 0 ∨ y = 0) (fun _ => ev_orP (c := y = 0) (fun _ => ev_ret ⟨rfl, rfl⟩) (ev_ret ⟨rfl, rfl⟩)) (ev_if (fun hb => ev_ret ⟨?_, l9⟩) (fun hb => ?_))
  · unfold rmul; rw [if_pos ⟨zz_one hb.1, hb.2⟩]
  have x0' : zz Z ≤ x := by omega
  have y0' : zz Z ≤ y := by omega
  unfold rmul
  rw [if_neg (rmul_nz (G := G) (k := k) (P := P) x0' y0')]
  obtain ⟨u, hu⟩ : ∃ u, x - zz Z = u := ⟨_, rfl⟩
  obtain ⟨v, hv⟩ : ∃ v, y - zz Z = v := ⟨_, rfl⟩
  rw [hu, hv]
  obtain ⟨ua, ub, uc, ud, ue, uf, ug, uh⟩ := h.dec (u := u) (by omega) (by omega)
  obtain ⟨va, vb, vc, vd, ve, vf, vg, vh⟩ := h.dec (u := v) (by omega) (by omega)
  obtain ⟨p1, p2, p3, p4, p5⟩ := h.P_in ug uh vc vd
  have e1 : Int.tmod u k = u % k := Int.tmod_eq_emod_of_nonneg (by omega)
  have e2 : Int.tdiv u k = u / k := Int.tdiv_eq_ediv_of_nonneg (by omega)
  have e3 : W (u / k) = u / k := W_in (by omega) (by omega)
  have e4 : Int.tdiv (u / k) (G.length : Int) = u / k / (G.length : Int) := Int.tdiv_eq_ediv_of_nonneg ua
  have u5 : u / k / (G.length : Int) ≤ u / k := Int.ediv_le_self _ ua
  have e5 : W (u / k / (G.length : Int)) = u / k / (G.length : Int) := W_in (by omega) (by omega)
  have e6 : Int.tmod (u / k) (G.length : Int) = u / k % (G.length : Int) := Int.tmod_eq_emod_of_nonneg ua
  have f1 : Int.tmod v k = v % k := Int.tmod_eq_emod_of_nonneg (by omega)
  have f2 : Int.tdiv v k = v / k := Int.tdiv_eq_ediv_of_nonneg (by omega)
  have f3 : W (v / k) = v / k := W_in (by omega) (by omega)
  have f4 : Int.tdiv (v / k) (G.length : Int) = v / k / (G.length : Int) := Int.tdiv_eq_ediv_of_nonneg va
  have v5 : v / k / (G.length : Int) ≤ v / k := Int.ediv_le_self _ va
  have f5 : W (v / k / (G.length : Int)) = v / k / (G.length : Int) := W_in (by omega) (by omega)
  have f6 : Int.tmod (v / k) (G.length : Int) = v / k % (G.length : Int) := Int.tmod_eq_emod_of_nonneg va
  have w1 : W u = u := W_in (by omega) (by omega)
  have w2 : W v = v := W_in (by omega) (by omega)
  simp only [hu, hv, w1, w2, e1, e2, e3, f1, f2, f3, hgt.len, hqt.len]
  refine ev_fldI hp rfl (ev_neg (by omega) (ev_fldI hp rfl (ev_neg (by omega) (ev_fldI hp rfl (ev_neg (by omega) (ev_fldS hp rfl (ev_neg (by rw [hgt.len]; omega) (ev_fldI hp rfl (ev_neg (by omega) (ev_fldS hp rfl (ev_neg (by rw [hgt.len]; omega) (ev_fldI hp rfl (ev_neg (by omega) (ev_fldS hp rfl (ev_neg (by rw [hgt.len]; omega) (ev_fldI hp rfl (ev_neg (by omega) (ev_fldS hp rfl (ev_neg (by rw [hgt.len]; omega) (ev_fldS hp rfl ?_))))))))))))))))))))
  simp only [e1, e2, e3, f1, f2, f3, hgt.len, e4, e5, e6, f4, f5, f6]
  refine ev_rdM hqt ug p1 vc p2 (ev_if (fun hn => ev_ret ⟨by rw [if_pos hn], l9⟩) (fun hn => ?_))
  rw [if_neg hn]
  have g1 := hs.lo _ _ ue uf (by omega) p4
  have g2 := hs.hi _ _ ue uf (by omega) p4
  have r1 := hs.row _ ue uf
  have r2 := hs.row _ g1 g2
  have g3 := hs.lo _ _ g1 g2 ve vf
  have g4 := hs.hi _ _ g1 g2 ve vf
  refine ev_siisb hp (ev_fldS hp rfl (ev_fldS hp rfl (ev_rdM hgt ue uf (by omega) (by omega) (ev_rdM hgt g1 g2 ve (by omega) (ev_call (rees_number_ev hgt.len h uc ud g3 g4 vg vh) fun w H' ⟨e, l⟩ => ev_ret ⟨e, l9.trans l⟩)))))
theorem rees_size_rv {g q : Sl} {m k : Int} {Z : Bool} {G P : List (List Int)} {H : AH} {lo : Nat} (hl : g.len = G.length) (h : RVa G m k P Z) : Ev (fun ρ n κ => rees_size n g m k q Z lo H κ) (fun v H' => v = m * k * (G.length : Int) + zz Z ∧ Le H H') :=
  ev_imp (rees_size_ev hl h.grp h.m1 h.k1) fun v H' ⟨e, l⟩ => ⟨by rw [e]; unfold rsize; rw [if_neg (by have := h.m4; omega), if_neg (by have := h.k4; omega)], l⟩
theorem semigroupref17_Mul_ev {g q : Sl} {m k : Int} {Z : Bool} {G P : List (List Int)} {H : AH} {lo : Nat} (hgt : Tab H g G) (hqt : Tab H q P) (h : RVa G m k P Z) {x y : Int} (hx : -9223372036854775808 ≤ x ∧ x ≤ 9223372036854775807) :
    Ev (fun ρ n κ => semigroupref17_Mul n g m k q Z x y lo H κ) (fun v H' => v = rmulc G m k P Z x y ∧ Le H H') := by
  have hz := zz_cases Z
  have hsz := h.sz
  have hk := h.k1
  have hs := h.grp.toSq
  have hg := hs.pos
  refine ev_eq (fun _ k _ => semigroupref17_Mul_eq k) (ev_alcB fun p H2 hp _ l2 => ?_)
  refine ev_orL (c := decide (x < 0 ∨ x ≥ m * k * (G.length : Int) + zz Z)) (fun hh => ev_siisb hp (ev_call (semigroupref17_Size_ev hgt.len h) fun v H18 ⟨e, l18⟩ => ev_ret ⟨?_, l18⟩)) (fun hh => ?_) fun H20 l20 => ?_
  · have hh := of_decide_eq_false hh
    rw [e]; simp [hh]
  · have hh := of_decide_eq_true hh
    simp [hh]
  have hp := hp.le l20
  have l20 := l2.trans l20
  refine ev_orP (c := y < 0) (fun _ => ev_ret ⟨rfl, rfl⟩) (ev_orL (c := decide (((x < 0 ∨ x ≥ m * k * (G.length : Int) + zz Z) ∨ y < 0) ∨ y ≥ m * k * (G.length : Int) + zz Z)) (fun hh => ev_siisb hp (ev_call (semigroupref17_Size_ev hgt.len h) fun v H18 ⟨e, l18⟩ => ev_ret ⟨?_, l18⟩)) (fun hh => ?_) fun H31 l31 => ?_)
  · have hh := of_decide_eq_false hh
    rw [e]; exact decide_eq_decide.2 ⟨.inr, fun hx => hx.elim (fun h => absurd h hh) id⟩
  · exact decide_eq_true (.inl (of_decide_eq_true hh))
  have hp := hp.le l31
  have l31 := l20.trans l31
  unfold rmulc
  refine ev_if (fun hb => ev_ret ⟨by rw [if_neg (by omega)], l31⟩) (fun hb => ?_)
  rw [if_pos (by omega)]
  refine ev_siisb hp (ev_call semigroupref17_base_ev fun v H29 ⟨e, l29⟩ => ?_)
  subst e
  have hp := hp.le l29
  have l29 := l31.trans l29
  refine ev_siisb hp (ev_call semigroupref17_base_ev fun v H36 ⟨e, l36⟩ => ?_)
  subst e
  have hp := hp.le l36
  have l36 := l29.trans l36
  have hgt := hgt.le l36
  have hqt := hqt.le l36
  rw [W_in (i := x - zz Z) (by omega) (by omega), W_in (i := y - zz Z) (by omega) (by omega)]
  refine ev_orP (c := y - zz Z < 0) (fun _ => ev_ret ⟨rfl, rfl⟩) (ev_if (fun hb => ev_ret ⟨?_, l36⟩) (fun hb => ?_))
  · unfold rmul; rw [if_pos ⟨zz_one (by omega), by omega⟩]
  unfold rmul
  rw [if_neg (rmul_nz (G := G) (k := k) (P := P) (by omega) (by omega))]
  obtain ⟨u, hu⟩ : ∃ u, x - zz Z = u := ⟨_, rfl⟩
  obtain ⟨v, hv⟩ : ∃ v, y - zz Z = v := ⟨_, rfl⟩
  rw [hu, hv]
  obtain ⟨ua, ub, uc, ud, ue, uf, ug, uh⟩ := h.dec (u := u) (by omega) (by omega)
  obtain ⟨va, vb, vc, vd, ve, vf, vg, vh⟩ := h.dec (u := v) (by omega) (by omega)
  obtain ⟨p1, p2, p3, p4, p5⟩ := h.P_in ug uh vc vd
  have e1 : Int.tmod u k = u % k := Int.tmod_eq_emod_of_nonneg (by omega)
  have e2 : Int.tdiv u k = u / k := Int.tdiv_eq_ediv_of_nonneg (by omega)
  have e3 : W (u / k) = u / k := W_in (by omega) (by omega)
  have e4 : Int.tdiv (u / k) (G.length : Int) = u / k / (G.length : Int) := Int.tdiv_eq_ediv_of_nonneg ua
  have u5 : u / k / (G.length : Int) ≤ u / k := Int.ediv_le_self _ ua
  have e5 : W (u / k / (G.length : Int)) = u / k / (G.length : Int) := W_in (by omega) (by omega)
  have e6 : Int.tmod (u / k) (G.length : Int) = u / k % (G.length : Int) := Int.tmod_eq_emod_of_nonneg ua
  have f1 : Int.tmod v k = v % k := Int.tmod_eq_emod_of_nonneg (by omega)
  have f2 : Int.tdiv v k = v / k := Int.tdiv_eq_ediv_of_nonneg (by omega)
  have f3 : W (v / k) = v / k := W_in (by omega) (by omega)
  have f4 : Int.tdiv (v / k) (G.length : Int) = v / k / (G.length : Int) := Int.tdiv_eq_ediv_of_nonneg va
  have v5 : v / k / (G.length : Int) ≤ v / k := Int.ediv_le_self _ va
  have f5 : W (v / k / (G.length : Int)) = v / k / (G.length : Int) := W_in (by omega) (by omega)
  have f6 : Int.tmod (v / k) (G.length : Int) = v / k % (G.length : Int) := Int.tmod_eq_emod_of_nonneg va
  refine ev_fldS hp rfl (ev_fldS hp rfl (ev_fldI hp rfl (ev_neg (by omega) ?_)))
  simp only [e1, e2, e3, f1, f2, f3, hgt.len, e4, e5, e6, f4, f5, f6]
  refine ev_rdS hqt ug p1 fun r hr => ev_fldI hp rfl (ev_neg (by omega) (ev_neg (by omega) ?_))
  rw [f2, f3, f4, f5]
  refine ev_rdI hr vc p2 (ev_if (fun hn => ev_ret ⟨by rw [if_pos (show M P (u % k) (v / k / (G.length : Int)) < 0 from hn)], l36⟩) (fun hn => ?_))
  have hn : ¬ M P (u % k) (v / k / (G.length : Int)) < 0 := hn
  rw [if_neg hn]
  have g1 := hs.lo _ _ ue uf (by omega) p4
  have g2 := hs.hi _ _ ue uf (by omega) p4
  have r1 := hs.row _ ue uf
  have r2 := hs.row _ g1 g2
  have g3 := hs.lo _ _ g1 g2 ve vf
  have g4 := hs.hi _ _ g1 g2 ve vf
  refine ev_fldS hp rfl (ev_fldS hp rfl (ev_fldI hp rfl (ev_neg (by omega) (ev_neg (by omega) ?_))))
  rw [e2, e3, e6]
  refine ev_rdM hgt ue uf (by omega) (show M P (u % k) (v / k / (G.length : Int)) < _ by omega) (ev_rdS hgt g1 g2 fun r3 hr3 => ev_fldI hp rfl (ev_neg (by omega) (ev_neg (by omega) ?_)))
  rw [f2, f3, f6]
  have r2b : ((R G (M G (u / k % (G.length : Int)) (M P (u % k) (v / k / (G.length : Int))))).length : Int) = (G.length : Int) := r2
  refine ev_rdI hr3 ve (show v / k % (G.length : Int) < ((R G (M G (u / k % (G.length : Int)) (M P (u % k) (v / k / (G.length : Int))))).length : Int) by rw [r2b]; exact vf) (ev_siisb hp (ev_fldI hp rfl (ev_neg (by omega) (ev_neg (by omega) (ev_fldI hp rfl (ev_neg (by omega) ?_))))))
  rw [e2, e3, e4, e5, f1]
  refine ev_call (semigroupref17_Number_ev hgt.len h) fun w H' ⟨e, l⟩ => ev_ret ⟨?_, l36.trans l⟩
  rw [e]
  unfold rnum
  rw [if_pos ⟨uc, ud, g3, g4, vg, vh⟩]
  rfl

end Go.Ab
