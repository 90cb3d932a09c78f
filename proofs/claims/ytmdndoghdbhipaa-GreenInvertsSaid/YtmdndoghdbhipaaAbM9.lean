/- Rees matrix semigroups: regular matrices, tables. Plain lemmas. No condition. -/
import Derived.Test.YtmdndoghdbhipaaAbM8
set_option linter.unusedVariables false
set_option linter.unusedSimpArgs false
set_option linter.unusedSectionVars false
namespace Go.Ab
open Go
open Classical

/-- Every row of P and every column has an entry. -/
def Rgl (m k : Int) (P : List (List Int)) : Prop := (∀ i : Int, 0 ≤ i → i < m → ∃ l : Int, 0 ≤ l ∧ l < k ∧ 0 ≤ M P l i) ∧ ∀ l : Int, 0 ≤ l → l < k → ∃ i : Int, 0 ≤ i ∧ i < m ∧ 0 ≤ M P l i
/-- The rows seen ahead of (l, i). -/
def Seen (P : List (List Int)) (m l i : Int) (l' i' : Int) : Prop := 0 ≤ l' ∧ 0 ≤ i' ∧ i' < m ∧ (l' < l ∨ (l' = l ∧ i' < i)) ∧ 0 ≤ M P l' i'
theorem rd_app {a b : List Bool} {j : Int} (h0 : 0 ≤ j) : rdOf false (a ++ b) j = if j < (a.length : Int) then rdOf false a j else rdOf false b (j - (a.length : Int)) := by
  unfold rdOf
  split
  · rw [List.getD_eq_getElem?_getD, List.getD_eq_getElem?_getD, List.getElem?_append_left (by omega)]
  · rw [List.getD_eq_getElem?_getD, List.getD_eq_getElem?_getD, List.getElem?_append_right (by omega), show (j - (a.length : Int)).toNat = j.toNat - a.length by omega]
/-- Columns and rows marked so far. -/
structure Mk (P : List (List Int)) (m k l i : Int) (c r : List Bool) : Prop where
  cl : (c.length : Int) = m
  rl : (r.length : Int) = k
  cm : ∀ i' : Int, 0 ≤ i' → i' < m → (rdOf false c i' = true ↔ ∃ l', Seen P m l i l' i')
  rm : ∀ l' : Int, 0 ≤ l' → l' < k → (rdOf false r l' = true ↔ ∃ i', Seen P m l i l' i')
theorem Mk.next {P : List (List Int)} {m k l i : Int} {c r : List Bool} (h : Mk P m k l i c r) (l0 : 0 ≤ l) (l1 : l < k) (i0 : 0 ≤ i) (i1 : i < m) (a b : Bool) (ha : a = true ↔ rdOf false c i = true ∨ 0 ≤ M P l i) (hb : b = true ↔ rdOf false r l = true ∨ 0 ≤ M P l i) :
    Mk P m k l (i + 1) (c.set i.toNat a) (r.set l.toNat b) := by
  have h1 := h.cl
  have h2 := h.rl
  refine ⟨by simpa using h1, by simpa using h2, fun i' a0 a1 => ?_, fun l' a0 a1 => ?_⟩
  · rw [rb_set i0 (by omega) a0]
    by_cases hi : i' = i
    · rw [if_pos hi, ha, h.cm i i0 i1, hi]
      constructor
      · rintro (⟨l', s1, s2, s3, s4, s5⟩ | hp)
        · exact ⟨l', s1, s2, s3, by omega, s5⟩
        · exact ⟨l, l0, i0, i1, by omega, hp⟩
      · rintro ⟨l', s1, s2, s3, s4, s5⟩
        by_cases hl : l' = l
        · rw [hl] at s5; exact .inr s5
        · exact .inl ⟨l', s1, s2, s3, by omega, s5⟩
    · rw [if_neg hi, h.cm i' a0 a1]
      constructor
      · rintro ⟨l', s1, s2, s3, s4, s5⟩; exact ⟨l', s1, s2, s3, by omega, s5⟩
      · rintro ⟨l', s1, s2, s3, s4, s5⟩; exact ⟨l', s1, s2, s3, by omega, s5⟩
  · rw [rb_set l0 (by omega) a0]
    by_cases hl : l' = l
    · rw [if_pos hl, hb, h.rm l l0 l1, hl]
      constructor
      · rintro (⟨i', s1, s2, s3, s4, s5⟩ | hp)
        · exact ⟨i', s1, s2, s3, by omega, s5⟩
        · exact ⟨i, l0, i0, i1, by omega, hp⟩
      · rintro ⟨i', s1, s2, s3, s4, s5⟩
        by_cases hi : i' = i
        · rw [hi] at s5; exact .inr s5
        · exact .inl ⟨i', s1, s2, s3, by omega, s5⟩
    · rw [if_neg hl, h.rm l' a0 a1]
      constructor
      · rintro ⟨i', s1, s2, s3, s4, s5⟩; exact ⟨i', s1, s2, s3, by omega, s5⟩
      · rintro ⟨i', s1, s2, s3, s4, s5⟩; exact ⟨i', s1, s2, s3, by omega, s5⟩
theorem Mk.row {P : List (List Int)} {m k l : Int} {c r : List Bool} (h : Mk P m k l m c r) : Mk P m k (l + 1) 0 c r := by
  refine ⟨h.cl, h.rl, fun i' a0 a1 => ?_, fun l' a0 a1 => ?_⟩
  · rw [h.cm i' a0 a1]
    constructor
    · rintro ⟨l', s1, s2, s3, s4, s5⟩; exact ⟨l', s1, s2, s3, by omega, s5⟩
    · rintro ⟨l', s1, s2, s3, s4, s5⟩; exact ⟨l', s1, s2, s3, by omega, s5⟩
  · rw [h.rm l' a0 a1]
    constructor
    · rintro ⟨l', s1, s2, s3, s4, s5⟩; exact ⟨l', s1, s2, s3, by omega, s5⟩
    · rintro ⟨l', s1, s2, s3, s4, s5⟩; exact ⟨l', s1, s2, s3, by omega, s5⟩
variable {G : List (List Int)} {m k : Int} {P : List (List Int)} {Z : Bool}
theorem rmul_in (h : RVa G m k P Z) {x y : Int} (x0 : 0 ≤ x) (x1 : x < m * k * (G.length : Int) + zz Z) (y0 : 0 ≤ y) (y1 : y < m * k * (G.length : Int) + zz Z) : 0 ≤ rmul G k P Z x y ∧ rmul G k P Z x y < m * k * (G.length : Int) + zz Z := by
  have hz := zz_cases Z
  have hk := h.k1
  have hm := h.m1
  have hs := h.grp.toSq
  have hg := hs.pos
  have hpos : 0 < m * k * (G.length : Int) := Int.mul_pos (Int.mul_pos (by omega) (by omega)) hg
  unfold rmul
  split
  · omega
  rename_i hne
  have hxz : zz Z ≤ x ∧ zz Z ≤ y := by
    rcases hz with ⟨a, _⟩ | ⟨a, b⟩
    · omega
    · have : ¬ (x = 0 ∨ y = 0) := fun hh => hne ⟨b, hh⟩
      omega
  obtain ⟨ua, ub, uc, ud, ue, uf, ug, uh⟩ := h.dec (u := x - zz Z) (by omega) (by omega)
  obtain ⟨va, vb, vc, vd, ve, vf, vg, vh⟩ := h.dec (u := y - zz Z) (by omega) (by omega)
  obtain ⟨p1, p2, p3, p4, p5⟩ := h.P_in ug uh vc vd
  split
  · omega
  rename_i hp
  have g1 := hs.lo _ _ ue uf (by omega) p4
  have g2 := hs.hi _ _ ue uf (by omega) p4
  have g3 := hs.lo _ _ g1 g2 ve vf
  have g4 := hs.hi _ _ g1 g2 ve vf
  have he := h.enc uc ud g3 g4 vg vh
  omega
/-- An element is the zero or a triple. -/
theorem RVa.cases (h : RVa G m k P Z) {x : Int} (x0 : 0 ≤ x) (x1 : x < m * k * (G.length : Int) + zz Z) : (Z = true ∧ x = 0) ∨ ∃ i a l : Int, 0 ≤ i ∧ i < m ∧ 0 ≤ a ∧ a < (G.length : Int) ∧ 0 ≤ l ∧ l < k ∧ x = (i * (G.length : Int) + a) * k + l + zz Z := by
  have hz := zz_cases Z
  by_cases hx : zz Z ≤ x
  · right
    obtain ⟨ua, ub, uc, ud, ue, uf, ug, uh⟩ := h.dec (u := x - zz Z) (by omega) (by omega)
    refine ⟨_, _, _, uc, ud, ue, uf, ug, uh, ?_⟩
    have e1 := Int.mul_ediv_add_emod (x - zz Z) k
    have e2 := Int.mul_ediv_add_emod ((x - zz Z) / k) (G.length : Int)
    rw [Int.mul_comm] at e1 e2
    rw [e2]
    omega
  · left
    rcases hz with ⟨a, _⟩ | ⟨a, b⟩
    · omega
    · exact ⟨b, by omega⟩
theorem rmul_zl {y : Int} (hZ : Z = true) : rmul G k P Z 0 y = 0 := by unfold rmul; rw [if_pos ⟨hZ, .inl rfl⟩]
theorem rmul_zr {y : Int} (hZ : Z = true) : rmul G k P Z y 0 = 0 := by unfold rmul; rw [if_pos ⟨hZ, .inr rfl⟩]
theorem rmul_tri (h : RVa G m k P Z) {i a l j b r : Int} (i0 : 0 ≤ i) (i1 : i < m) (a0 : 0 ≤ a) (a1 : a < (G.length : Int)) (l0 : 0 ≤ l) (l1 : l < k) (j0 : 0 ≤ j) (j1 : j < m) (b0 : 0 ≤ b) (b1 : b < (G.length : Int)) (r0 : 0 ≤ r) (r1 : r < k) :
    rmul G k P Z ((i * (G.length : Int) + a) * k + l + zz Z) ((j * (G.length : Int) + b) * k + r + zz Z) = if M P l j < 0 then 0 else (i * (G.length : Int) + M G (M G a (M P l j)) b) * k + r + zz Z := by
  have e1 := h.enc i0 i1 a0 a1 l0 l1
  have e2 := h.enc j0 j1 b0 b1 r0 r1
  obtain ⟨c1, c2, c3⟩ := h.dec_enc (i := i) a0 a1 l0 l1
  obtain ⟨d1, d2, d3⟩ := h.dec_enc (i := j) b0 b1 r0 r1
  unfold rmul
  rw [if_neg (rmul_nz (G := G) (k := k) (P := P) (by omega) (by omega))]
  rw [show (i * (G.length : Int) + a) * k + l + zz Z - zz Z = (i * (G.length : Int) + a) * k + l by omega, show (j * (G.length : Int) + b) * k + r + zz Z - zz Z = (j * (G.length : Int) + b) * k + r by omega, c1, c2, c3, d1, d2, d3]
theorem rmul_asc (h : RVa G m k P Z) {x y z : Int} (x0 : 0 ≤ x) (x1 : x < m * k * (G.length : Int) + zz Z) (y0 : 0 ≤ y) (y1 : y < m * k * (G.length : Int) + zz Z) (z0 : 0 ≤ z) (z1 : z < m * k * (G.length : Int) + zz Z) :
    rmul G k P Z (rmul G k P Z x y) z = rmul G k P Z x (rmul G k P Z y z) := by
  have hs := h.grp.toSq
  rcases h.cases x0 x1 with ⟨hZ, rfl⟩ | ⟨i, a, l, i0, i1, a0, a1, l0, l1, rfl⟩
  · rw [rmul_zl hZ, rmul_zl hZ, rmul_zl hZ]
  rcases h.cases y0 y1 with ⟨hZ, rfl⟩ | ⟨j, b, r, j0, j1, b0, b1, r0, r1, rfl⟩
  · rw [rmul_zr hZ, rmul_zl hZ, rmul_zr hZ]
  rcases h.cases z0 z1 with ⟨hZ, rfl⟩ | ⟨n, c, s, n0, n1, c0, c1, s0, s1, rfl⟩
  · rw [rmul_zr hZ, rmul_zr hZ, rmul_zr hZ]
  obtain ⟨_, _, p1, p2, p3⟩ := h.P_in l0 l1 j0 j1
  obtain ⟨_, _, q1, q2, q3⟩ := h.P_in r0 r1 n0 n1
  rw [rmul_tri h i0 i1 a0 a1 l0 l1 j0 j1 b0 b1 r0 r1, rmul_tri h j0 j1 b0 b1 r0 r1 n0 n1 c0 c1 s0 s1]
  by_cases hp : M P l j < 0
  · rw [if_pos hp, rmul_zl (p3 hp)]
    by_cases hq : M P r n < 0
    · rw [if_pos hq, rmul_zr (p3 hp)]
    · rw [if_neg hq]
      have g1 := hs.lo b _ b0 b1 (by omega) q2
      have g2 := hs.hi b _ b0 b1 (by omega) q2
      have g3 := hs.lo _ c g1 g2 c0 c1
      have g4 := hs.hi _ c g1 g2 c0 c1
      rw [rmul_tri h i0 i1 a0 a1 l0 l1 j0 j1 g3 g4 s0 s1, if_pos hp]
  · rw [if_neg hp]
    have f1 := hs.lo a _ a0 a1 (by omega) p2
    have f2 := hs.hi a _ a0 a1 (by omega) p2
    have f3 := hs.lo _ b f1 f2 b0 b1
    have f4 := hs.hi _ b f1 f2 b0 b1
    rw [rmul_tri h i0 i1 f3 f4 r0 r1 n0 n1 c0 c1 s0 s1]
    by_cases hq : M P r n < 0
    · rw [if_pos hq, if_pos hq, rmul_zr (q3 hq)]
    · rw [if_neg hq, if_neg hq]
      have g1 := hs.lo b _ b0 b1 (by omega) q2
      have g2 := hs.hi b _ b0 b1 (by omega) q2
      have g3 := hs.lo _ c g1 g2 c0 c1
      have g4 := hs.hi _ c g1 g2 c0 c1
      rw [rmul_tri h i0 i1 a0 a1 l0 l1 j0 j1 g3 g4 s0 s1, if_neg hp]
      have e1 := h.grp.asc _ b _ f1 f2 b0 b1 (show 0 ≤ M P r n by omega) q2
      have e2 := h.grp.asc _ _ c f1 f2 g1 g2 c0 c1
      rw [e1, e2]
theorem rtab_n (h : RVa G m k P Z) : (((m * k * (G.length : Int) + zz Z).toNat : Nat) : Int) = m * k * (G.length : Int) + zz Z ∧ 0 < m * k * (G.length : Int) + zz Z := by
  have hz := zz_cases Z
  have hk := h.k1
  have hm := h.m1
  have hg := h.grp.pos
  have hpos : 0 < m * k * (G.length : Int) := Int.mul_pos (Int.mul_pos (by omega) (by omega)) hg
  omega
theorem rtab_va (h : RVa G m k P Z) : Va (rtab G m k P Z) := by
  obtain ⟨hn, h0⟩ := rtab_n h
  have hsz := h.sz
  unfold rtab
  generalize hN : (m * k * (G.length : Int) + zz Z).toNat = N at *
  have hin : ∀ x y : Int, 0 ≤ x → x < N → 0 ≤ y → y < N → 0 ≤ rmul G k P Z x y ∧ rmul G k P Z x y < N := fun x y a b c d => by
    have := rmul_in h a (show x < m * k * (G.length : Int) + zz Z by omega) c (show y < m * k * (G.length : Int) + zz Z by omega)
    omega
  refine ⟨tab_sq (by omega) (by omega) hin, fun x y z a b c d e f => ?_⟩
  rw [tab_len] at b d f
  have i1 := hin x y a b c d
  have i2 := hin y z c d e f
  rw [tab_M a b c d, tab_M c d e f, tab_M i1.1 i1.2 e f, tab_M a b i2.1 i2.2]
  exact rmul_asc h a (by omega) c (by omega) e (by omega)
theorem in2_sq {t : List (List Int)} (hs : Sq t) : In2 t := by
  have := hs.le
  refine ⟨by omega, fun v hv => ?_⟩
  obtain ⟨i, hi, rfl⟩ := List.getElem_of_mem hv
  have e : t[i] = R t (i : Int) := by
    show _ = t.getD ((i : Int)).toNat []
    rw [List.getD_eq_getElem?_getD]
    simp [hi]
  rw [e]
  have hr := hs.row i (by omega) (by omega)
  refine ⟨by omega, ?_⟩
  rw [rd_all (P := fun u => (Lit.int .i64 u).wf = true)]
  intro y h0 h1
  have a := hs.lo i y (by omega) (by omega) h0 (by omega)
  have b := hs.hi i y (by omega) (by omega) h0 (by omega)
  have c : rd (R t i) y = M t i y := rfl
  simp only [Lit.wf, Bool.and_eq_true, decide_eq_true_eq, IntKind.min, IntKind.max, IntKind.signed, IntKind.bits]
  simp
  omega
end Go.Ab
