/- What the printed functions on Rees matrix semigroups answer: Size, Number, Mul, Table, Regular, of the program and of the reference; the table is that of a semigroup. No condition but that the parts come in. -/
import Derived.Test.YtnoickhdbinciaaKReesTablesF17b
import Derived.Test.YtnoickhdbinciaaKReesTablesF14s
import Derived.Test.YtnoickhdbinciaaKReesTablesP4
namespace Go.Proofs.Ytnoickhdbinciaa.F
open Go.RowKit Go.Proofs.YtnoickhdbinciaaW.PrintWords Go.Proofs.Ytnoickhdbinciaa.B Go.Proofs.Ytnoickhdbinciaa.PAll
set_option linter.unusedVariables false
set_option linter.unusedSimpArgs false
open Classical

/-- The product in a Rees matrix semigroup. -/
def rmul (G : List (List Int)) (k : Int) (P : List (List Int)) (Z : Bool) (x y : Int) : Int :=
  if Z = true ∧ (x = 0 ∨ y = 0) then 0 else
  if M P ((x - zz Z) % k) ((y - zz Z) / k / (G.length : Int)) < 0 then 0 else
  ((x - zz Z) / k / (G.length : Int) * (G.length : Int) + M G (M G ((x - zz Z) / k % (G.length : Int)) (M P ((x - zz Z) % k) ((y - zz Z) / k / (G.length : Int)))) ((y - zz Z) / k % (G.length : Int))) * k + (y - zz Z) % k + zz Z

theorem zz_one {Z : Bool} (h : zz Z = 1) : Z = true := by cases Z <;> simp_all [zz]
theorem RV.ord {G : List (List Int)} {m k : Int} : m * k * (G.length : Int) = m * (G.length : Int) * k := by rw [Int.mul_assoc, Int.mul_comm k, ← Int.mul_assoc]
theorem RV.dec {G : List (List Int)} {m k : Int} {P : List (List Int)} {Z : Bool} (h : RV G m k P Z) {u : Int} (u0 : 0 ≤ u) (u1 : u < m * k * (G.length : Int)) :
    0 ≤ u / k ∧ u / k ≤ u ∧ 0 ≤ u / k / (G.length : Int) ∧ u / k / (G.length : Int) < m ∧ 0 ≤ u / k % (G.length : Int) ∧ u / k % (G.length : Int) < (G.length : Int) ∧ 0 ≤ u % k ∧ u % k < k := by
  have hk := h.k1
  have hg := h.grp.pos
  rw [RV.ord] at u1
  obtain ⟨a, b, c, d, _⟩ := pair_of u0 u1 (by omega)
  obtain ⟨e, f, i, j, _⟩ := pair_of a b hg
  exact ⟨a, Int.ediv_le_self k u0, e, f, i, j, c, d⟩
theorem RV.enc {G : List (List Int)} {m k : Int} {P : List (List Int)} {Z : Bool} (h : RV G m k P Z) {i a l : Int} (i0 : 0 ≤ i) (i1 : i < m) (a0 : 0 ≤ a) (a1 : a < (G.length : Int)) (l0 : 0 ≤ l) (l1 : l < k) :
    0 ≤ i * (G.length : Int) ∧ 0 ≤ (i * (G.length : Int) + a) * k ∧ i * (G.length : Int) + a ≤ (i * (G.length : Int) + a) * k ∧ (i * (G.length : Int) + a) * k + l < m * k * (G.length : Int) := by
  have hk := h.k1
  obtain ⟨a, b⟩ := pair_lt i0 i1 a0 a1
  obtain ⟨c, d⟩ := pair_lt a b l0 l1
  rw [RV.ord]
  refine ⟨Int.mul_nonneg i0 (by omega), Int.mul_nonneg a (by omega), ?_, d⟩
  have := Int.mul_le_mul_of_nonneg_left hk a
  omega
theorem RV.dec_enc {G : List (List Int)} {m k : Int} {P : List (List Int)} {Z : Bool} (h : RV G m k P Z) {i a l : Int} (a0 : 0 ≤ a) (a1 : a < (G.length : Int)) (l0 : 0 ≤ l) (l1 : l < k) :
    ((i * (G.length : Int) + a) * k + l) / k / (G.length : Int) = i ∧ ((i * (G.length : Int) + a) * k + l) / k % (G.length : Int) = a ∧ ((i * (G.length : Int) + a) * k + l) % k = l := by
  obtain ⟨e, f⟩ := pair_div (a := i * (G.length : Int) + a) l0 l1
  obtain ⟨c, d⟩ := pair_div (a := i) a0 a1
  rw [e]
  exact ⟨c, d, f⟩
theorem RV.P_in {G : List (List Int)} {m k : Int} {P : List (List Int)} {Z : Bool} (h : RV G m k P Z) {l i : Int} (l0 : 0 ≤ l) (l1 : l < k) (i0 : 0 ≤ i) (i1 : i < m) : l < (P.length : Int) ∧ i < ((R P l).length : Int) ∧ -1 ≤ M P l i ∧ M P l i < (G.length : Int) ∧ (M P l i < 0 → Z = true) := by
  have hl := h.len
  have hr := h.row l l0 (by omega)
  have he := h.ent l i l0 (by omega) i0 (by omega)
  exact ⟨by omega, by omega, he⟩
theorem rees_number_ev {G : List (List Int)} {m k : Int} {P : List (List Int)} {Z : Bool} (h : RV G m k P Z) {i a l : Int} (i0 : 0 ≤ i) (i1 : i < m) (a0 : 0 ≤ a) (a1 : a < (G.length : Int)) (l0 : 0 ≤ l) (l1 : l < k) :
    rees_number.f G m k P Z i a l = some ((i * (G.length : Int) + a) * k + l + zz Z) := by
  have he := h.enc i0 i1 a0 a1 l0 l1
  have hs := h.sz
  have hz := zz_cases Z
  unfold rees_number.f
  rw [rees_zero_ev]
  simp only [Option.bind_some]
  rw [wrap_in (i := i * (G.length : Int)) (by omega) (by omega), wrap_in (i := i * (G.length : Int) + a) (by omega) (by omega), wrap_in (i := (i * (G.length : Int) + a) * k) (by omega) (by omega), wrap_in (i := (i * (G.length : Int) + a) * k + l) (by omega) (by omega), wrap_in (by omega) (by omega)]
/-- What Number answers. -/
def rnum (G : List (List Int)) (m k : Int) (Z : Bool) (i a l : Int) : Int := if 0 ≤ i ∧ i < m ∧ 0 ≤ a ∧ a < (G.length : Int) ∧ 0 ≤ l ∧ l < k then (i * (G.length : Int) + a) * k + l + zz Z else -1
theorem semigroupref17_Number_ev {G : List (List Int)} {m k : Int} {P : List (List Int)} {Z : Bool} (h : RV G m k P Z) {i a l : Int} : semigroupref17_Number.f G m k P Z i a l = some (rnum G m k Z i a l) := by
  have hs := h.sz
  have hz := zz_cases Z
  unfold semigroupref17_Number.f rnum
  by_cases i0 : i < 0
  · rw [if_pos i0, if_neg (by omega)]
  by_cases i1 : i ≥ m
  · rw [if_neg i0, if_pos i1, if_neg (by omega)]
  by_cases a0 : a < 0
  · rw [if_neg i0, if_neg i1, if_pos a0, if_neg (by omega)]
  by_cases a1 : a ≥ (G.length : Int)
  · rw [if_neg i0, if_neg i1, if_neg a0, if_pos a1, if_neg (by omega)]
  by_cases l0 : l < 0
  · rw [if_neg i0, if_neg i1, if_neg a0, if_neg a1, if_pos l0, if_neg (by omega)]
  by_cases l1 : l ≥ k
  · rw [if_neg i0, if_neg i1, if_neg a0, if_neg a1, if_neg l0, if_pos l1, if_neg (by omega)]
  have he := h.enc (i := i) (a := a) (l := l) (by omega) (by omega) (by omega) (by omega) (by omega) (by omega)
  rw [if_neg i0, if_neg i1, if_neg a0, if_neg a1, if_neg l0, if_neg l1, if_pos (by omega), semigroupref17_base_ev]
  simp only [Option.bind_some]
  rw [wrap_in (i := i * (G.length : Int)) (by omega) (by omega), wrap_in (i := i * (G.length : Int) + a) (by omega) (by omega), wrap_in (i := (i * (G.length : Int) + a) * k) (by omega) (by omega), wrap_in (i := (i * (G.length : Int) + a) * k + l) (by omega) (by omega), wrap_in (by omega) (by omega)]
theorem rmul_nz {G : List (List Int)} {k : Int} {P : List (List Int)} {Z : Bool} {x y : Int} (x0 : zz Z ≤ x) (y0 : zz Z ≤ y) : ¬ (Z = true ∧ (x = 0 ∨ y = 0)) := by
  rintro ⟨a, b⟩
  have : zz Z = 1 := by simp [zz, a]
  omega
section
variable {G : List (List Int)} {m k : Int} {P : List (List Int)} {Z : Bool}
theorem rees_mul_j0 (h : RV G m k P Z) {x y : Int} (x0 : zz Z ≤ x) (x1 : x < m * k * (G.length : Int) + zz Z) (y0 : zz Z ≤ y) (y1 : y < m * k * (G.length : Int) + zz Z) :
    Ev (fun n => rees_mul.j0 n x y (zz Z) false G m k P Z) (rmul G k P Z x y) := by
  have hsz := h.sz
  have hk := h.k1
  have hs := h.grp.toSq
  have hg := hs.pos
  have hz := zz_cases Z
  unfold rmul
  rw [if_neg (rmul_nz (G := G) (k := k) (P := P) x0 y0)]
  obtain ⟨u, hu⟩ : ∃ u, x - zz Z = u := ⟨_, rfl⟩
  obtain ⟨v, hv⟩ : ∃ v, y - zz Z = v := ⟨_, rfl⟩
  rw [hu, hv]
  obtain ⟨ua, ub, uc, ud, ue, uf, ug, uh⟩ := h.dec (u := u) (by omega) (by omega)
  obtain ⟨va, vb, vc, vd, ve, vf, vg, vh⟩ := h.dec (u := v) (by omega) (by omega)
  obtain ⟨p1, p2, p3, p4, p5⟩ := h.P_in ug uh vc vd
  have e1 : Int.tmod u k = u % k := Int.tmod_eq_emod_of_nonneg (by omega)
  have e2 : Int.tdiv u k = u / k := Int.tdiv_eq_ediv_of_nonneg (by omega)
  have e3 : wrap64 (u / k) = u / k := wrap_in (by omega) (by omega)
  have e4 : Int.tdiv (u / k) (G.length : Int) = u / k / (G.length : Int) := Int.tdiv_eq_ediv_of_nonneg ua
  have u5 : u / k / (G.length : Int) ≤ u / k := Int.ediv_le_self _ ua
  have e5 : wrap64 (u / k / (G.length : Int)) = u / k / (G.length : Int) := wrap_in (by omega) (by omega)
  have e6 : Int.tmod (u / k) (G.length : Int) = u / k % (G.length : Int) := Int.tmod_eq_emod_of_nonneg ua
  have f1 : Int.tmod v k = v % k := Int.tmod_eq_emod_of_nonneg (by omega)
  have f2 : Int.tdiv v k = v / k := Int.tdiv_eq_ediv_of_nonneg (by omega)
  have f3 : wrap64 (v / k) = v / k := wrap_in (by omega) (by omega)
  have f4 : Int.tdiv (v / k) (G.length : Int) = v / k / (G.length : Int) := Int.tdiv_eq_ediv_of_nonneg va
  have v5 : v / k / (G.length : Int) ≤ v / k := Int.ediv_le_self _ va
  have f5 : wrap64 (v / k / (G.length : Int)) = v / k / (G.length : Int) := wrap_in (by omega) (by omega)
  have f6 : Int.tmod (v / k) (G.length : Int) = v / k % (G.length : Int) := Int.tmod_eq_emod_of_nonneg va
  have w1 : wrap64 u = u := wrap_in (by omega) (by omega)
  have w2 : wrap64 v = v := wrap_in (by omega) (by omega)
  apply ev_succ
  simp only [rees_mul.j0, rdR, rdM, hu, hv, w1, w2, e1, e2, e3, e4, e5, e6, f1, f2, f3, f4, f5, f6]
  refine ev_neg (by simp) (ev_neg (by omega) (ev_neg (by omega) (ev_pos ug (ev_pos p1 (ev_pos vc (ev_pos p2 (ev_ite (fun hp => ev_some (by rw [if_pos hp])) (fun hp => ?_))))))))
  rw [if_neg hp]
  have g1 := hs.lo _ _ ue uf (by omega) p4
  have g2 := hs.hi _ _ ue uf (by omega) p4
  have r1 := hs.row _ ue uf
  have r2 := hs.row _ g1 g2
  have g3 := hs.lo _ _ g1 g2 ve vf
  have g4 := hs.hi _ _ g1 g2 ve vf
  refine ev_pos ue (ev_pos uf (ev_pos (by omega) (ev_pos (by omega) (ev_pos g1 (ev_pos g2 (ev_pos ve (ev_pos (by omega) ?_)))))))
  rw [rees_number_ev h uc ud g3 g4 vg vh]
  exact ev_call (ev_some rfl) (ev_some rfl)
theorem rees_mul_ev (h : RV G m k P Z) {x y : Int} (x0 : 0 ≤ x) (x1 : x < m * k * (G.length : Int) + zz Z) (y0 : 0 ≤ y) (y1 : y < m * k * (G.length : Int) + zz Z) : Ev (fun n => rees_mul.f n G m k P Z x y) (rmul G k P Z x y) := by
  unfold rees_mul.f
  rw [rees_zero_ev]
  refine ev_call (ev_some rfl) ?_
  have zero : zz Z = 1 → (x = 0 ∨ y = 0) → Ev (fun n => rees_mul.j0 n x y (zz Z) true G m k P Z) (rmul G k P Z x y) := by
    intro hz hx
    apply ev_succ
    simp only [rees_mul.j0]
    refine ev_pos (by simp) (ev_some ?_)
    unfold rmul
    rw [if_pos ⟨zz_one hz, hx⟩]
  have hz := zz_cases Z
  refine ev_ite (fun h1 => ev_ite (fun hx => zero h1 (.inl hx)) (fun hx => ?_)) (fun h1 => rees_mul_j0 h (by omega) x1 (by omega) y1)
  by_cases hy : y = 0
  · rw [show (y == 0) = true by simp [hy]]
    exact zero h1 (.inr hy)
  · rw [show (y == 0) = false by simp [hy]]
    exact rees_mul_j0 h (by omega) x1 (by omega) y1
theorem semigroupref17_Mul_j1 (h : RV G m k P Z) {x y u v : Int} (hu : x - zz Z = u) (hv : y - zz Z = v) (x0 : zz Z ≤ x) (x1 : x < m * k * (G.length : Int) + zz Z) (y0 : zz Z ≤ y) (y1 : y < m * k * (G.length : Int) + zz Z) :
    Ev (fun n => semigroupref17_Mul.j1 n u v false G m k P Z) (rmul G k P Z x y) := by
  have hsz := h.sz
  have hk := h.k1
  have hs := h.grp.toSq
  have hg := hs.pos
  have hz := zz_cases Z
  unfold rmul
  rw [if_neg (rmul_nz (G := G) (k := k) (P := P) x0 y0)]
  rw [hu, hv]
  obtain ⟨ua, ub, uc, ud, ue, uf, ug, uh⟩ := h.dec (u := u) (by omega) (by omega)
  obtain ⟨va, vb, vc, vd, ve, vf, vg, vh⟩ := h.dec (u := v) (by omega) (by omega)
  obtain ⟨p1, p2, p3, p4, p5⟩ := h.P_in ug uh vc vd
  have e1 : Int.tmod u k = u % k := Int.tmod_eq_emod_of_nonneg (by omega)
  have e2 : Int.tdiv u k = u / k := Int.tdiv_eq_ediv_of_nonneg (by omega)
  have e3 : wrap64 (u / k) = u / k := wrap_in (by omega) (by omega)
  have e4 : Int.tdiv (u / k) (G.length : Int) = u / k / (G.length : Int) := Int.tdiv_eq_ediv_of_nonneg ua
  have u5 : u / k / (G.length : Int) ≤ u / k := Int.ediv_le_self _ ua
  have e5 : wrap64 (u / k / (G.length : Int)) = u / k / (G.length : Int) := wrap_in (by omega) (by omega)
  have e6 : Int.tmod (u / k) (G.length : Int) = u / k % (G.length : Int) := Int.tmod_eq_emod_of_nonneg ua
  have f1 : Int.tmod v k = v % k := Int.tmod_eq_emod_of_nonneg (by omega)
  have f2 : Int.tdiv v k = v / k := Int.tdiv_eq_ediv_of_nonneg (by omega)
  have f3 : wrap64 (v / k) = v / k := wrap_in (by omega) (by omega)
  have f4 : Int.tdiv (v / k) (G.length : Int) = v / k / (G.length : Int) := Int.tdiv_eq_ediv_of_nonneg va
  have v5 : v / k / (G.length : Int) ≤ v / k := Int.ediv_le_self _ va
  have f5 : wrap64 (v / k / (G.length : Int)) = v / k / (G.length : Int) := wrap_in (by omega) (by omega)
  have f6 : Int.tmod (v / k) (G.length : Int) = v / k % (G.length : Int) := Int.tmod_eq_emod_of_nonneg va
  apply ev_succ
  simp only [semigroupref17_Mul.j1, rdR, rdM, e1, e2, e3, e4, e5, e6, f1, f2, f3, f4, f5, f6]
  refine ev_neg (by simp) (ev_neg (by omega) (ev_pos ug (ev_pos p1 (ev_neg (by omega) (ev_pos vc (ev_pos p2 (ev_ite (fun hp => ev_some (by rw [if_pos hp])) (fun hp => ?_))))))))
  rw [if_neg hp]
  have g1 := hs.lo _ _ ue uf (by omega) p4
  have g2 := hs.hi _ _ ue uf (by omega) p4
  have r1 := hs.row _ ue uf
  have r2 := hs.row _ g1 g2
  have g3 := hs.lo _ _ g1 g2 ve vf
  have g4 := hs.hi _ _ g1 g2 ve vf
  refine ev_pos ue (ev_pos uf (ev_pos (by omega) (ev_pos (by omega) (ev_pos g1 (ev_pos g2 (ev_pos ve (ev_pos (by omega) ?_)))))))
  rw [semigroupref17_Number_ev h]
  refine ev_call (ev_some rfl) (ev_some ?_)
  unfold rnum
  rw [if_pos ⟨uc, ud, g3, g4, vg, vh⟩]
theorem semigroupref17_Size_ev (h : RV G m k P Z) : semigroupref17_Size.f G m k P Z = some (m * k * (G.length : Int) + zz Z) := by
  have hsz := h.sz
  have hk := h.k1
  have hm := h.m1
  have hg := h.grp.pos
  have hz := zz_cases Z
  have h1 : 0 ≤ m * (G.length : Int) := Int.mul_nonneg (by omega) (by omega)
  have h2 := Int.mul_le_mul_of_nonneg_left hk h1
  unfold semigroupref17_Size.f
  rw [semigroupref17_base_ev]
  rw [RV.ord] at *
  simp only [Option.bind_some]
  rw [wrap_in (i := m * (G.length : Int)) (by omega) (by omega), wrap_in (i := m * (G.length : Int) * k) (by omega) (by omega), wrap_in (by omega) (by omega)]
/-- The table of a Rees matrix semigroup. -/
def rtab (G : List (List Int)) (m k : Int) (P : List (List Int)) (Z : Bool) : List (List Int) := tab (m * k * (G.length : Int) + zz Z).toNat (rmul G k P Z)
/-- What Mul answers of a valid one. -/
def rmulc (G : List (List Int)) (m k : Int) (P : List (List Int)) (Z : Bool) (x y : Int) : Int := if 0 ≤ x ∧ x < m * k * (G.length : Int) + zz Z ∧ 0 ≤ y ∧ y < m * k * (G.length : Int) + zz Z then rmul G k P Z x y else -1
theorem semigroupref17_Mul_ev (h : RV G m k P Z) {x y : Int} : Ev (fun n => semigroupref17_Mul.f n G m k P Z x y) (rmulc G m k P Z x y) := by
  have hsz := h.sz
  have hz := zz_cases Z
  have no : ¬ (0 ≤ x ∧ x < m * k * (G.length : Int) + zz Z ∧ 0 ≤ y ∧ y < m * k * (G.length : Int) + zz Z) → Ev (fun n => semigroupref17_Mul.j0 n x y true G m k P Z) (rmulc G m k P Z x y) := by
    intro hn
    unfold rmulc
    rw [if_neg hn]
    apply ev_succ
    simp only [semigroupref17_Mul.j0]
    exact ev_pos (by simp) (ev_some rfl)
  unfold semigroupref17_Mul.f
  rw [semigroupref17_Size_ev h]
  refine ev_ite (fun h0 => no (by omega)) (fun x0 => ev_call (ev_some rfl) (ev_ite (fun h0 => no (by omega)) (fun x1 => ev_ite (fun h0 => no (by omega)) (fun y0 => ev_call (ev_some rfl) ?_))))
  by_cases y1 : y ≥ m * k * (G.length : Int) + zz Z
  · simp only [y1, decide_true]
    exact no (by omega)
  simp only [y1, decide_false]
  unfold rmulc
  rw [if_pos ⟨by omega, by omega, by omega, by omega⟩]
  apply ev_succ
  simp only [semigroupref17_Mul.j0, semigroupref17_base_ev]
  refine ev_neg (by simp) (ev_call (ev_some rfl) (ev_call (ev_some rfl) ?_))
  rw [wrap_in (i := x - zz Z) (by omega) (by omega), wrap_in (i := y - zz Z) (by omega) (by omega)]
  have zero : (x - zz Z < 0 ∨ y - zz Z < 0) → Ev (fun n => semigroupref17_Mul.j1 n (x - zz Z) (y - zz Z) true G m k P Z) (rmul G k P Z x y) := by
    intro hx
    apply ev_succ
    simp only [semigroupref17_Mul.j1]
    refine ev_pos (by simp) (ev_some ?_)
    unfold rmul
    rw [if_pos ⟨zz_one (by omega), by omega⟩]
  refine ev_ite (fun h0 => zero (.inl h0)) (fun h0 => ?_)
  by_cases h1 : y - zz Z < 0
  · simp only [h1, decide_true]
    exact zero (.inr h1)
  · simp only [h1, decide_false]
    exact semigroupref17_Mul_j1 h rfl rfl (by omega) (by omega) (by omega) (by omega)
theorem rees_size_rv (h : RV G m k P Z) : rees_size.f G m k P Z = some (m * k * (G.length : Int) + zz Z) := by
  rw [rees_size_ev h.grp h.m1 h.k1]
  unfold rsize
  have := h.m4
  have := h.k4
  rw [if_neg (by omega), if_neg (by omega)]
end
end Go.Proofs.Ytnoickhdbinciaa.F
