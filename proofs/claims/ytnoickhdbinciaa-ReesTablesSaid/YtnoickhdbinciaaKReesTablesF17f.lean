/- What the printed tables of Rees matrix semigroups answer, and why they are associative. No condition but that the parts come in. -/
import Derived.Test.YtnoickhdbinciaaKReesTablesF17c
import Derived.Test.YtnoickhdbinciaaKReesTablesP4
namespace Go.Proofs.Ytnoickhdbinciaa.F
open Go.RowKit Go.Proofs.YtnoickhdbinciaaW.PrintWords Go.Proofs.Ytnoickhdbinciaa.B Go.Proofs.Ytnoickhdbinciaa.PAll
set_option linter.unusedVariables false
set_option linter.unusedSimpArgs false
variable {G : List (List Int)} {m k : Int} {P : List (List Int)} {Z : Bool}
theorem rmul_in (h : RV G m k P Z) {x y : Int} (x0 : 0 ≤ x) (x1 : x < m * k * (G.length : Int) + zz Z) (y0 : 0 ≤ y) (y1 : y < m * k * (G.length : Int) + zz Z) : 0 ≤ rmul G k P Z x y ∧ rmul G k P Z x y < m * k * (G.length : Int) + zz Z := by
  have hz := zz_cases Z
  have hk := h.k1
  have hm := h.m1
  have hs := h.grp.toSq
  have hg := hs.pos
  have hpos : 0 < m * k * (G.length : Int) := Int.mul_pos (Int.mul_pos (by omega) (by omega)) hg
  unfold rmul
  split
  · omega
  rename_i hne
  have hxz : zz Z ≤ x ∧ zz Z ≤ y := by
    rcases hz with ⟨a, _⟩ | ⟨a, b⟩
    · omega
    · have : ¬ (x = 0 ∨ y = 0) := fun hh => hne ⟨b, hh⟩
      omega
  obtain ⟨ua, ub, uc, ud, ue, uf, ug, uh⟩ := h.dec (u := x - zz Z) (by omega) (by omega)
  obtain ⟨va, vb, vc, vd, ve, vf, vg, vh⟩ := h.dec (u := y - zz Z) (by omega) (by omega)
  obtain ⟨p1, p2, p3, p4, p5⟩ := h.P_in ug uh vc vd
  split
  · omega
  rename_i hp
  have g1 := hs.lo _ _ ue uf (by omega) p4
  have g2 := hs.hi _ _ ue uf (by omega) p4
  have g3 := hs.lo _ _ g1 g2 ve vf
  have g4 := hs.hi _ _ g1 g2 ve vf
  have he := h.enc uc ud g3 g4 vg vh
  omega
/-- An element is the zero or a triple. -/
theorem RV.cases (h : RV G m k P Z) {x : Int} (x0 : 0 ≤ x) (x1 : x < m * k * (G.length : Int) + zz Z) : (Z = true ∧ x = 0) ∨ ∃ i a l : Int, 0 ≤ i ∧ i < m ∧ 0 ≤ a ∧ a < (G.length : Int) ∧ 0 ≤ l ∧ l < k ∧ x = (i * (G.length : Int) + a) * k + l + zz Z := by
  have hz := zz_cases Z
  by_cases hx : zz Z ≤ x
  · right
    obtain ⟨ua, ub, uc, ud, ue, uf, ug, uh⟩ := h.dec (u := x - zz Z) (by omega) (by omega)
    refine ⟨_, _, _, uc, ud, ue, uf, ug, uh, ?_⟩
    have e1 := Int.mul_ediv_add_emod (x - zz Z) k
    have e2 := Int.mul_ediv_add_emod ((x - zz Z) / k) (G.length : Int)
    rw [Int.mul_comm] at e1 e2
    rw [e2]
    omega
  · left
    rcases hz with ⟨a, _⟩ | ⟨a, b⟩
    · omega
    · exact ⟨b, by omega⟩
theorem rmul_zl {y : Int} (hZ : Z = true) : rmul G k P Z 0 y = 0 := by unfold rmul; rw [if_pos ⟨hZ, .inl rfl⟩]
theorem rmul_zr {y : Int} (hZ : Z = true) : rmul G k P Z y 0 = 0 := by unfold rmul; rw [if_pos ⟨hZ, .inr rfl⟩]
theorem rmul_tri (h : RV G m k P Z) {i a l j b r : Int} (i0 : 0 ≤ i) (i1 : i < m) (a0 : 0 ≤ a) (a1 : a < (G.length : Int)) (l0 : 0 ≤ l) (l1 : l < k) (j0 : 0 ≤ j) (j1 : j < m) (b0 : 0 ≤ b) (b1 : b < (G.length : Int)) (r0 : 0 ≤ r) (r1 : r < k) :
    rmul G k P Z ((i * (G.length : Int) + a) * k + l + zz Z) ((j * (G.length : Int) + b) * k + r + zz Z) = if M P l j < 0 then 0 else (i * (G.length : Int) + M G (M G a (M P l j)) b) * k + r + zz Z := by
  have e1 := h.enc i0 i1 a0 a1 l0 l1
  have e2 := h.enc j0 j1 b0 b1 r0 r1
  obtain ⟨c1, c2, c3⟩ := h.dec_enc (i := i) a0 a1 l0 l1
  obtain ⟨d1, d2, d3⟩ := h.dec_enc (i := j) b0 b1 r0 r1
  unfold rmul
  rw [if_neg (rmul_nz (G := G) (k := k) (P := P) (by omega) (by omega))]
  rw [show (i * (G.length : Int) + a) * k + l + zz Z - zz Z = (i * (G.length : Int) + a) * k + l by omega, show (j * (G.length : Int) + b) * k + r + zz Z - zz Z = (j * (G.length : Int) + b) * k + r by omega, c1, c2, c3, d1, d2, d3]
theorem rmul_asc (h : RV G m k P Z) {x y z : Int} (x0 : 0 ≤ x) (x1 : x < m * k * (G.length : Int) + zz Z) (y0 : 0 ≤ y) (y1 : y < m * k * (G.length : Int) + zz Z) (z0 : 0 ≤ z) (z1 : z < m * k * (G.length : Int) + zz Z) :
    rmul G k P Z (rmul G k P Z x y) z = rmul G k P Z x (rmul G k P Z y z) := by
  have hs := h.grp.toSq
  rcases h.cases x0 x1 with ⟨hZ, rfl⟩ | ⟨i, a, l, i0, i1, a0, a1, l0, l1, rfl⟩
  · rw [rmul_zl hZ, rmul_zl hZ, rmul_zl hZ]
  rcases h.cases y0 y1 with ⟨hZ, rfl⟩ | ⟨j, b, r, j0, j1, b0, b1, r0, r1, rfl⟩
  · rw [rmul_zr hZ, rmul_zl hZ, rmul_zr hZ]
  rcases h.cases z0 z1 with ⟨hZ, rfl⟩ | ⟨n, c, s, n0, n1, c0, c1, s0, s1, rfl⟩
  · rw [rmul_zr hZ, rmul_zr hZ, rmul_zr hZ]
  obtain ⟨_, _, p1, p2, p3⟩ := h.P_in l0 l1 j0 j1
  obtain ⟨_, _, q1, q2, q3⟩ := h.P_in r0 r1 n0 n1
  rw [rmul_tri h i0 i1 a0 a1 l0 l1 j0 j1 b0 b1 r0 r1, rmul_tri h j0 j1 b0 b1 r0 r1 n0 n1 c0 c1 s0 s1]
  by_cases hp : M P l j < 0
  · rw [if_pos hp, rmul_zl (p3 hp)]
    by_cases hq : M P r n < 0
    · rw [if_pos hq, rmul_zr (p3 hp)]
    · rw [if_neg hq]
      have g1 := hs.lo b _ b0 b1 (by omega) q2
      have g2 := hs.hi b _ b0 b1 (by omega) q2
      have g3 := hs.lo _ c g1 g2 c0 c1
      have g4 := hs.hi _ c g1 g2 c0 c1
      rw [rmul_tri h i0 i1 a0 a1 l0 l1 j0 j1 g3 g4 s0 s1, if_pos hp]
  · rw [if_neg hp]
    have f1 := hs.lo a _ a0 a1 (by omega) p2
    have f2 := hs.hi a _ a0 a1 (by omega) p2
    have f3 := hs.lo _ b f1 f2 b0 b1
    have f4 := hs.hi _ b f1 f2 b0 b1
    rw [rmul_tri h i0 i1 f3 f4 r0 r1 n0 n1 c0 c1 s0 s1]
    by_cases hq : M P r n < 0
    · rw [if_pos hq, if_pos hq, rmul_zr (q3 hq)]
    · rw [if_neg hq, if_neg hq]
      have g1 := hs.lo b _ b0 b1 (by omega) q2
      have g2 := hs.hi b _ b0 b1 (by omega) q2
      have g3 := hs.lo _ c g1 g2 c0 c1
      have g4 := hs.hi _ c g1 g2 c0 c1
      rw [rmul_tri h i0 i1 a0 a1 l0 l1 j0 j1 g3 g4 s0 s1, if_neg hp]
      have e1 := h.grp.asc _ b _ f1 f2 b0 b1 (show 0 ≤ M P r n by omega) q2
      have e2 := h.grp.asc _ _ c f1 f2 g1 g2 c0 c1
      rw [e1, e2]
theorem rtab_n (h : RV G m k P Z) : (((m * k * (G.length : Int) + zz Z).toNat : Nat) : Int) = m * k * (G.length : Int) + zz Z ∧ 0 < m * k * (G.length : Int) + zz Z := by
  have hz := zz_cases Z
  have hk := h.k1
  have hm := h.m1
  have hg := h.grp.pos
  have hpos : 0 < m * k * (G.length : Int) := Int.mul_pos (Int.mul_pos (by omega) (by omega)) hg
  omega
theorem rtab_va (h : RV G m k P Z) : Va (rtab G m k P Z) := by
  obtain ⟨hn, h0⟩ := rtab_n h
  have hsz := h.sz
  unfold rtab
  generalize hN : (m * k * (G.length : Int) + zz Z).toNat = N at *
  have hin : ∀ x y : Int, 0 ≤ x → x < N → 0 ≤ y → y < N → 0 ≤ rmul G k P Z x y ∧ rmul G k P Z x y < N := fun x y a b c d => by
    have := rmul_in h a (show x < m * k * (G.length : Int) + zz Z by omega) c (show y < m * k * (G.length : Int) + zz Z by omega)
    omega
  refine ⟨tab_sq (by omega) (by omega) hin, fun x y z a b c d e f => ?_⟩
  rw [tab_len] at b d f
  have i1 := hin x y a b c d
  have i2 := hin y z c d e f
  rw [tab_M a b c d, tab_M c d e f, tab_M i1.1 i1.2 e f, tab_M a b i2.1 i2.2]
  exact rmul_asc h a (by omega) c (by omega) e (by omega)
theorem rtab_same (h : RV G m k P Z) : Ev (fun n => semigroupref03_SameRows.f n (rtab G m k P Z) (rtab G m k P Z)) true := by
  have := h.sz
  exact tab_same _ (by omega) _
theorem in2_sq {t : List (List Int)} (hs : Sq t) : In2 t := by
  have := hs.le
  refine ⟨by omega, fun v hv => ?_⟩
  obtain ⟨i, hi, rfl⟩ := List.getElem_of_mem hv
  have e : t[i] = R t (i : Int) := by
    show _ = t.getD ((i : Int)).toNat []
    rw [List.getD_eq_getElem?_getD]
    simp [hi]
  rw [e]
  have hr := hs.row i (by omega) (by omega)
  refine ⟨by omega, ?_⟩
  rw [rd_all (P := fun u => (Lit.int .i64 u).wf = true)]
  intro y h0 h1
  have a := hs.lo i y (by omega) (by omega) h0 (by omega)
  have b := hs.hi i y (by omega) (by omega) h0 (by omega)
  have c : rd (R t i) y = M t i y := rfl
  simp only [Lit.wf, Bool.and_eq_true, decide_eq_true_eq, IntKind.min, IntKind.max, IntKind.signed, IntKind.bits]
  simp
  omega
theorem rees_Table_ev (hG : In2 G) (hP : In2 P) : Ev (fun n => rees_Table.f n G m k P Z) (if rval G m k P Z = 0 then (rtab G m k P Z, 0) else ([], rval G m k P Z)) := by
  unfold rees_Table.f
  refine ev_call (rees_Validate_ev hG hP) (ev_ite (fun h => ?_) (fun h => ev_some (by rw [if_neg h])))
  rw [if_pos h]
  have hv := rval_rv.1 h
  obtain ⟨hn, h0⟩ := rtab_n hv
  have hsz := hv.sz
  rw [rees_size_rv hv]
  unfold rtab
  refine ev_call (ev_some rfl) (ev_pos (by omega) (ev_pos (by omega) (ev_call (ev_some rfl) ?_)))
  rw [List.length_replicate]
  generalize hN : (m * k * (G.length : Int) + zz Z).toNat = N at *
  refine ev_fill (g0 := fun x out n => rees_Table.l0 n out (N : Int) x G m k P Z) (g1 := fun x y out n => rees_Table.l1 n out x (N : Int) x (N : Int) y G m k P Z) N (rmul G k P Z) _ (by simp) ?_ ?_ ?_ ?_
  · intro x out hx0 hx1 hl hR
    refine ⟨out.set x.toNat (List.replicate N 0), by simpa using hl, fun x' a b c => by rw [R_set hx0 (by omega) a, if_neg c], by rw [R_set hx0 (by omega) hx0, if_pos rfl]; simp, fun H => ?_⟩
    apply ev_succ
    simp only [rees_Table.l0]
    rw [hl]
    exact ev_pos hx1 (ev_pos (by omega) (ev_pos (by omega) (ev_pos hx0 (ev_pos hx1 H))))
  · intro x y out hx0 hx1 hy0 hy1 hl hr H
    apply ev_succ
    simp only [rees_Table.l1, rdR]
    rw [wrap_add hy0 hy1 (by omega)]
    exact ev_pos hy1 (ev_pos hx0 (ev_pos (by omega) (ev_call (rees_mul_ev hv hx0 (by omega) hy0 (by omega)) (ev_pos hy0 (ev_pos (by omega) H)))))
  · intro x out hx0 hx1 hl H
    apply ev_succ
    simp only [rees_Table.l1]
    rw [wrap_add hx0 hx1 (by omega)]
    exact ev_neg (by omega) H
  · apply ev_succ
    simp only [rees_Table.l0]
    exact ev_neg (by omega) (ev_some rfl)
theorem semigroupref17_Table_ev (h : RV G m k P Z) : Ev (fun n => semigroupref17_Table.f n G m k P Z) (rtab G m k P Z) := by
  obtain ⟨hn, h0⟩ := rtab_n h
  have hsz := h.sz
  unfold semigroupref17_Table.f
  unfold rtab
  refine ev_for (α := List (List Int)) (g := fun x out n => semigroupref17_Table.l0 n out x G m k P Z) (m * k * (G.length : Int) + zz Z) (fun x out => (out.length : Int) = x ∧ ∀ x' : Int, 0 ≤ x' → x' < x → (R out x').length = (m * k * (G.length : Int) + zz Z).toNat ∧ ∀ y : Int, 0 ≤ y → y < m * k * (G.length : Int) + zz Z → M out x' y = rmul G k P Z x' y) ?_ ?_ 0 [] (by omega) (by omega) ⟨by simp, fun x a b => by omega⟩
  · intro x out x0 x1 ⟨h1, h2⟩
    refine Classical.byContradiction fun hno => hno (.inl ?_)
    apply ev_succ
    simp only [semigroupref17_Table.l0]
    rw [semigroupref17_Size_ev h]
    refine ev_call (ev_some rfl) (ev_pos x1 ?_)
    refine ev_for (α := List Int) (g := fun y row n => semigroupref17_Table.l1 n out x row y G m k P Z) (m * k * (G.length : Int) + zz Z) (fun y row => (row.length : Int) = y ∧ ∀ y' : Int, 0 ≤ y' → y' < y → rd row y' = rmul G k P Z x y') ?_ ?_ 0 [] (by omega) (by omega) ⟨by simp, fun y a b => by omega⟩
    · intro y row y0 y1 ⟨r1, r2⟩
      right
      refine ⟨row ++ [rmul G k P Z x y], ⟨by simp; omega, fun y' a b => ?_⟩, fun H => ?_⟩
      · rw [rd_snoc a (by omega)]
        by_cases hy : y' = (row.length : Int)
        · rw [if_pos hy, hy, r1]
        · rw [if_neg hy]; exact r2 y' a (by omega)
      · apply ev_succ
        simp only [semigroupref17_Table.l1]
        rw [semigroupref17_Size_ev h, wrap_add y0 y1 (by omega)]
        have hm := semigroupref17_Mul_ev h (x := x) (y := y)
        unfold rmulc at hm
        rw [if_pos ⟨x0, x1, y0, y1⟩] at hm
        exact ev_call (ev_some rfl) (ev_pos y1 (ev_call hm (ev_pos (by omega) H)))
    · intro row ⟨r1, r2⟩
      apply ev_succ
      simp only [semigroupref17_Table.l1]
      rw [semigroupref17_Size_ev h, wrap_add x0 x1 (by omega)]
      refine ev_call (ev_some rfl) (ev_neg (by omega) (ev_pos (by omega) ?_))
      refine Classical.byContradiction fun hn => hno (.inr ⟨out ++ [row], ⟨by simp; omega, fun x' a b => ?_⟩, fun H => absurd H hn⟩)
      unfold M
      rw [R_snoc a (by omega)]
      by_cases hx : x' = (out.length : Int)
      · rw [if_pos hx, hx, h1]; exact ⟨by omega, fun y a b => r2 y a b⟩
      · rw [if_neg hx]; exact h2 x' a (by omega)
  · intro out ⟨h1, h2⟩
    apply ev_succ
    simp only [semigroupref17_Table.l0]
    rw [semigroupref17_Size_ev h]
    refine ev_call (ev_some rfl) (ev_neg (by omega) (ev_some ?_))
    exact tab_eq (by omega) (fun x a b => (h2 x a (by omega)).1) (fun x y a b c d => (h2 x a (by omega)).2 y c (by omega))
end Go.Proofs.Ytnoickhdbinciaa.F
