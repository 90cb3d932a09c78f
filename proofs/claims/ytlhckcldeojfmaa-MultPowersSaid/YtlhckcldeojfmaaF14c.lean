/- What the printed functions on powers answer: power, indexPeriod, Omega; Powers, IndexPeriod, Omega, Power of the reference. No condition but that the table is valid. -/
import Derived.Test.YtlhckcldeojfmaaSem
import Derived.Test.YtlhckcldeojfmaaLists
import Derived.Test.YtlhckcldeojfmaaF14b
import Derived.Test.YtlhckcldeojfmaaPAllx2
import Derived.Test.YtlhckcldeojfmaaPAllx3
import Derived.Test.YtlhckcldeojfmaaPAllx6
import Derived.Test.YtlhckcldeojfmaaPAllx7
namespace Go.Proofs.Ytlhckcldeojfmaa.F
open Go.RowKit Go.Proofs.YtlhckcldeojfmaaW.PrintWords Go.Proofs.Ytlhckcldeojfmaa.B Go.Proofs.Ytlhckcldeojfmaa.PAll
set_option linter.unusedVariables false
set_option linter.unusedSimpArgs false

theorem half (k : Nat) (h : (k : Int) ≤ 9223372036854775807) : wrap64 (Int.tdiv (k : Int) 2) = ((k / 2 : Nat) : Int) := by
  rw [Int.tdiv_eq_ediv_of_nonneg (by omega), wrap_in (by omega) (by omega)]
  omega
theorem mult_power_loop {t : List (List Int)} (hv : Va t) {X : Int} (h0 : 0 ≤ X) (h1 : X < (t.length : Int)) (k : Nat) : ∀ (e o : Nat) (out : Int), (k : Int) ≤ 9223372036854775807 → 1 ≤ e → 1 ≤ o + k * e →
    (o = 0 → out = -1) → (1 ≤ o → out = pw t X (o - 1)) → Ev (fun n => mult_power.l0 n t (pw t X (e - 1)) (k : Int) out) (pw t X (o + k * e - 1)) := by
  induction k using Nat.strongRecOn with
  | _ k ih =>
  intro e o out hk he hoe ho0 ho1
  have hx := pw_in hv h0 h1 (e - 1)
  apply ev_succ
  simp only [mult_power.l0, rdR, rdM]
  rw [half k hk]
  by_cases hk0 : k = 0
  · subst hk0
    refine ev_neg (by omega) (ev_some ?_)
    simp only [Nat.zero_mul, Nat.add_zero] at hoe ⊢
    exact ho1 hoe
  · refine ev_pos (by omega) ?_
    have r1 := hv.row _ hx.1 hx.2
    have hsq : M t (pw t X (e - 1)) (pw t X (e - 1)) = pw t X (e + e - 1) := by
      rw [pw_mul hv h0 h1]; congr 1; omega
    rw [Int.tmod_eq_emod_of_nonneg (by omega)]
    have h2 := Nat.div_add_mod k 2
    refine ev_ite (fun hodd => ?_) (fun heven => ?_)
    · have hm : k % 2 = 1 := by omega
      have hsum : (o + e) + (k / 2) * (e + e) = o + k * e := by
        have : k * e = (2 * (k / 2) + 1) * e := by rw [show 2 * (k / 2) + 1 = k by omega]
        rw [this, Nat.add_mul, Nat.mul_add, Nat.mul_assoc, Nat.one_mul]
        omega
      refine ev_ite (fun hneg => ?_) (fun hpos => ?_)
      · have ho : o = 0 := by
          refine Classical.byContradiction fun hn => ?_
          have := (pw_in hv h0 h1 (o - 1)).1
          rw [ho1 (by omega)] at hneg
          omega
        refine ev_pos hx.1 (ev_pos hx.2 (ev_pos (by omega) ?_))
        rw [hsq, ← hsum]
        subst ho
        simp only [Nat.zero_add]
        exact ih (k / 2) (by omega) (e + e) e _ (by omega) (by omega) (by omega) (fun h => by omega) (fun _ => rfl)
      · have ho : 1 ≤ o := by
          refine Classical.byContradiction fun hn => ?_
          have := ho0 (by omega)
          omega
        have hout := ho1 ho
        have hy := pw_in hv h0 h1 (o - 1)
        rw [← hout] at hy
        have r2 := hv.row _ hy.1 hy.2
        refine ev_pos hy.1 (ev_pos hy.2 (ev_pos hx.1 (ev_pos (by omega) (ev_pos hx.2 (ev_pos (by omega) ?_)))))
        rw [hsq, ← hsum, hout, pw_mul hv h0 h1, show o - 1 + (e - 1) + 1 = o + e - 1 by omega]
        exact ih (k / 2) (by omega) (e + e) (o + e) _ (by omega) (by omega) (by omega) (fun h => by omega) (fun _ => rfl)
    · have hm : k % 2 = 0 := by omega
      have hsum : o + (k / 2) * (e + e) = o + k * e := by
        have : k * e = (2 * (k / 2)) * e := by rw [show 2 * (k / 2) = k by omega]
        rw [this, Nat.mul_add, Nat.mul_assoc]
        omega
      refine ev_pos hx.1 (ev_pos hx.2 (ev_pos (by omega) ?_))
      rw [hsq, ← hsum]
      exact ih (k / 2) (by omega) (e + e) o _ (by omega) (by omega) (by rw [hsum]; exact hoe) ho0 ho1
theorem mult_power_ev {t : List (List Int)} (hv : Va t) {X : Int} (h0 : 0 ≤ X) (h1 : X < (t.length : Int)) {k : Int} (hk1 : 1 ≤ k) (hk : k ≤ 9223372036854775807) : Ev (fun n => mult_power.f n t X k) (pw t X (k.toNat - 1)) := by
  unfold mult_power.f
  obtain ⟨K, rfl⟩ : ∃ K : Nat, k = K := ⟨k.toNat, by omega⟩
  have := mult_power_loop hv h0 h1 K 1 0 (-1) hk (by omega) (by omega) (fun _ => rfl) (fun h => by omega)
  simpa [pw] using this

theorem mult_indexPeriod_loop {t : List (List Int)} (hv : Va t) {X : Int} (h0 : 0 ≤ X) (h1 : X < (t.length : Int)) {a N : Nat} (hc : Cyc t X a N) (m : Nat) : ∀ (k : Nat) (seen : List Int), k + m = N → seen.length = t.length →
    (∀ z : Int, 0 ≤ z → z < (t.length : Int) → (∀ i, i < k → pw t X i ≠ z) → rd seen z = 0) → (∀ i, i < k → rd seen (pw t X i) = (i : Int) + 1) →
    Ev (fun n => mult_indexPeriod.l0 n t X seen (pw t X k) ((k : Int) + 1)) ((a : Int) + 1, (N : Int) - a) := by
  have hle := hv.le
  have hN := hc.le
  have haN := hc.lt
  have hX := h0
  induction m with
  | zero =>
    intro k seen hk hl hz hs
    have hkN : k = N := by omega
    subst hkN
    have hy := pw_in hv h0 h1 k
    have e := hs a hc.lt
    rw [← hc.back] at e
    apply ev_succ
    simp only [mult_indexPeriod.l0, rdR, rdM]
    refine ev_pos hy.1 (ev_pos (by omega) (ev_neg (by omega) (ev_some ?_)))
    rw [e, wrap_in (by omega) (by omega)]
    congr 1
    omega
  | succ m ih =>
    intro k seen hk hl hz hs
    have hy := pw_in hv h0 h1 k
    have r1 := hv.row _ hy.1 hy.2
    have e : rd seen (pw t X k) = 0 := hz _ hy.1 hy.2 (fun i hi he => by have := hc.inj i k (by omega) (by omega) he; omega)
    apply ev_succ
    simp only [mult_indexPeriod.l0, rdR, rdM]
    refine ev_pos hy.1 (ev_pos (by omega) (ev_pos e (ev_pos hy.2 (ev_pos h0 (ev_pos (by omega) ?_)))))
    rw [wrap_in (by omega) (by omega)]
    have := ih (k + 1) (seen.set (pw t X k).toNat ((k : Int) + 1)) (by omega) (by simpa using hl) ?_ ?_
    · simpa [pw] using this
    · intro z z0 z1 hne
      rw [rd_set hy.1 (by omega) z0, if_neg (fun h => hne k (by omega) h.symm)]
      exact hz z z0 z1 (fun i hi => hne i (by omega))
    · intro i hi
      have hyi := pw_in hv h0 h1 i
      rw [rd_set hy.1 (by omega) hyi.1]
      by_cases hik : i = k
      · subst hik; rw [if_pos rfl]
      · rw [if_neg (fun he => hik (hc.inj i k (by omega) (by omega) he))]
        exact hs i (by omega)
theorem mult_indexPeriod_ev {t : List (List Int)} (hv : Va t) {X : Int} (h0 : 0 ≤ X) (h1 : X < (t.length : Int)) {a N : Nat} (hc : Cyc t X a N) : Ev (fun n => mult_indexPeriod.f n t X) ((a : Int) + 1, (N : Int) - a) := by
  unfold mult_indexPeriod.f
  have hle := hv.le
  refine ev_pos (by omega) (ev_pos (by omega) ?_)
  have := mult_indexPeriod_loop hv h0 h1 hc N 0 (List.replicate ((t.length : Int)).toNat 0) (by omega) (by simp) (fun z z0 z1 _ => rd_rep z0 (by omega)) (fun i hi => by omega)
  simpa [pw] using this
/-- The idempotent power. -/
noncomputable def om (t : List (List Int)) (x : Int) : Int := open Classical in if h : ∃ i, M t (pw t x i) (pw t x i) = pw t x i then pw t x (Classical.choose h) else -1
theorem om_eq {t : List (List Int)} (hv : Va t) {x : Int} (h0 : 0 ≤ x) (h1 : x < (t.length : Int)) {i : Nat} (hi : M t (pw t x i) (pw t x i) = pw t x i) : om t x = pw t x i := by
  unfold om
  rw [dif_pos ⟨i, hi⟩]
  have hj := Classical.choose_spec (⟨i, hi⟩ : ∃ i, M t (pw t x i) (pw t x i) = pw t x i)
  generalize Classical.choose (⟨i, hi⟩ : ∃ i, M t (pw t x i) (pw t x i) = pw t x i) = j at hj
  obtain ⟨a, N, hc⟩ := hv.cyc h0 h1
  have hlt := hc.lt
  obtain ⟨ai, pi⟩ := hc.idem_only hv h0 h1 i hi
  obtain ⟨aj, pj⟩ := hc.idem_only hv h0 h1 j hj
  rw [hc.red hv h0 h1 i ai, hc.red hv h0 h1 j aj]
  congr 2
  have ei := Nat.div_add_mod (i + 1) (N - a)
  have ej := Nat.div_add_mod (j + 1) (N - a)
  rw [pi] at ei
  rw [pj] at ej
  -- both are one less than multiples of the period
  have key : ∀ u v : Nat, u ≤ v → a ≤ u → (u + 1) % (N - a) = 0 → (v + 1) % (N - a) = 0 → (v - a) % (N - a) = (u - a) % (N - a) := by
    intro u v huv hu h1 h2
    have h3 : (v - u) % (N - a) = 0 := by
      obtain ⟨c, hc'⟩ := Nat.dvd_of_mod_eq_zero h1
      obtain ⟨c', hc''⟩ := Nat.dvd_of_mod_eq_zero h2
      rw [show v - u = (N - a) * c' - (N - a) * c by omega, ← Nat.mul_sub]
      exact Nat.mul_mod_right _ _
    rw [show v - a = (v - u) + (u - a) by omega, Nat.add_mod, h3, Nat.zero_add, Nat.mod_mod]
  rcases Nat.le_total i j with h | h
  · exact key i j h ai pi pj
  · exact (key j i h aj pj pi).symm
theorem om_idem {t : List (List Int)} (hv : Va t) {x : Int} (h0 : 0 ≤ x) (h1 : x < (t.length : Int)) : ∃ i, M t (pw t x i) (pw t x i) = pw t x i ∧ om t x = pw t x i := by
  obtain ⟨a, N, hc⟩ := hv.cyc h0 h1
  have hlt := hc.lt
  have := hc.idem hv h0 h1 _ (a + 1) rfl (Nat.le_mul_of_pos_right _ (by omega))
  exact ⟨_, this, om_eq hv h0 h1 this⟩

theorem mult_Omega_j0 {t : List (List Int)} (hv : Va t) {X : Int} (h0 : 0 ≤ X) (h1 : X < (t.length : Int)) : Ev (fun n => mult_Omega.j0 n t X false) (om t X) := by
  obtain ⟨a, N, hc⟩ := hv.cyc h0 h1
  have hlt := hc.lt
  have hle := hc.le
  have hl := hv.le
  apply ev_succ
  simp only [mult_Omega.j0]
  refine ev_neg (by simp) (ev_call (mult_indexPeriod_ev hv h0 h1 hc) (ev_neg (by simp; omega) ?_))
  simp only
  rw [wrap_in (i := (a : Int) + 1 + ((N : Int) - a)) (by omega) (by omega), wrap_in (i := (a : Int) + 1 + ((N : Int) - a) - 1) (by omega) (by omega)]
  have hq : Int.tdiv ((a : Int) + 1 + ((N : Int) - a) - 1) ((N : Int) - a) = ((N / (N - a) : Nat) : Int) := by
    rw [Int.tdiv_eq_ediv_of_nonneg (by omega), show (a : Int) + 1 + ((N : Int) - a) - 1 = ((N : Nat) : Int) by omega, show (N : Int) - a = ((N - a : Nat) : Int) by omega]
    rfl
  rw [hq]
  have hm1 := Nat.div_mul_le_self N (N - a)
  have hm2 := Nat.div_add_mod N (N - a)
  have hm3 := Nat.mod_lt N (show 0 < N - a by omega)
  rw [Nat.mul_comm] at hm2
  have hdl := Nat.div_le_self N (N - a)
  clear hq
  generalize N / (N - a) = Q at hm1 hm2 hdl ⊢
  rw [wrap_in (i := (Q : Int)) (by omega) (by omega)]
  have hprod : (Q : Int) * ((N : Int) - a) = ((Q * (N - a) : Nat) : Int) := by
    rw [show (N : Int) - a = ((N - a : Nat) : Int) by omega, ← Int.natCast_mul]
  rw [hprod, wrap_in (by omega) (by omega)]
  have hid := hc.idem hv h0 h1 (Q * (N - a)) Q rfl (by omega)
  refine ev_call (mult_power_ev hv h0 h1 (by omega) (by omega)) (ev_some ?_)
  rw [om_eq hv h0 h1 hid]
  congr 1
theorem mult_Omega_ev {t : List (List Int)} (ht : In2 t) {X : Int} : Ev (fun n => mult_Omega.f n t X) (if val t = 0 ∧ 0 ≤ X ∧ X < (t.length : Int) then om t X else -1) := by
  have no : Ev (fun n => mult_Omega.j0 n t X true) (-1) := by
    apply ev_succ
    simp only [mult_Omega.j0]
    exact ev_pos (by simp) (ev_some rfl)
  unfold mult_Omega.f
  refine ev_call (mult_Validate_ev ht) ?_
  by_cases h : val t = 0
  · refine ev_pos h ?_
    refine ev_ite (fun hn => ?_) (fun hn => ?_)
    · rw [if_neg (by omega)]; exact no
    · by_cases h2 : X ≥ (t.length : Int)
      · rw [if_neg (by omega)]; simp only [h2, decide_true]; exact no
      · rw [if_pos ⟨h, by omega, by omega⟩]; simp only [h2, decide_false]
        exact mult_Omega_j0 (va_of h) (by omega) (by omega)
  · rw [if_neg (fun hh => h hh.1)]
    exact ev_neg h no
theorem mult_Power_ev {t : List (List Int)} (ht : In2 t) {X k : Int} (hk : k ≤ 9223372036854775807) : Ev (fun n => mult_Power.f n t X k) (if val t = 0 ∧ 0 ≤ X ∧ X < (t.length : Int) ∧ 1 ≤ k then pw t X (k.toNat - 1) else -1) := by
  unfold mult_Power.f
  refine ev_call (mult_Validate_ev ht) ?_
  by_cases h : val t = 0
  · refine ev_pos h ?_
    refine ev_ite (fun hn => ?_) (fun hn => ev_ite (fun hn2 => ?_) (fun hn2 => ev_ite (fun hn3 => ?_) (fun hn3 => ?_)))
    · rw [if_neg (by omega)]; exact ev_some rfl
    · rw [if_neg (by omega)]; exact ev_some rfl
    · rw [if_neg (by omega)]; exact ev_some rfl
    · rw [if_pos ⟨h, by omega, by omega, by omega⟩]
      exact ev_call (mult_power_ev (va_of h) (by omega) (by omega) (by omega) hk) (ev_some rfl)
  · rw [if_neg (fun hh => h hh.1)]
    exact ev_neg h (ev_some rfl)
theorem mult_IndexPeriod_yes {t : List (List Int)} (ht : In2 t) (hv : Va t) {X : Int} (h0 : 0 ≤ X) (h1 : X < (t.length : Int)) {a N : Nat} (hc : Cyc t X a N) : Ev (fun n => mult_IndexPeriod.f n t X) ((a : Int) + 1, (N : Int) - a) := by
  unfold mult_IndexPeriod.f
  refine ev_call (mult_Validate_ev ht) (ev_pos (val_va.2 hv) (ev_neg (by omega) (ev_neg (by omega) (ev_call (mult_indexPeriod_ev hv h0 h1 hc) (ev_some rfl)))))
theorem mult_IndexPeriod_no {t : List (List Int)} (ht : In2 t) {X : Int} (hn : ¬ (val t = 0 ∧ 0 ≤ X ∧ X < (t.length : Int))) : Ev (fun n => mult_IndexPeriod.f n t X) (0, 0) := by
  unfold mult_IndexPeriod.f
  refine ev_call (mult_Validate_ev ht) ?_
  refine ev_ite (fun h => ev_ite (fun _ => ev_some rfl) (fun h2 => ev_ite (fun _ => ev_some rfl) (fun h3 => absurd ⟨h, by omega, by omega⟩ hn))) (fun _ => ev_some rfl)

/-- The powers as a list. -/
def pws (t : List (List Int)) (x : Int) (n : Nat) : List Int := (List.range n).map (pw t x)
theorem pws_len (t : List (List Int)) (x : Int) (n : Nat) : (pws t x n).length = n := by simp [pws]
theorem pws_rd {t : List (List Int)} {x : Int} {n : Nat} {j : Int} (h0 : 0 ≤ j) (h1 : j < (n : Int)) : rd (pws t x n) j = pw t x j.toNat := rd_map h0 h1
theorem pws_snoc (t : List (List Int)) (x : Int) (n : Nat) : pws t x n ++ [pw t x n] = pws t x (n + 1) := by simp [pws, List.range_succ]
theorem semigroupref14_Powers_ev {t : List (List Int)} (hv : Va t) {X : Int} (h0 : 0 ≤ X) (h1 : X < (t.length : Int)) {a N : Nat} (hc : Cyc t X a N) : Ev (fun n => semigroupref14_Powers.f n t X) (pws t X N, (a : Int)) := by
  unfold semigroupref14_Powers.f
  have hle := hv.le
  have hN := hc.le
  have haN := hc.lt
  have key : ∀ (m n : Nat), n + m = N → 1 ≤ n → Ev (fun k => semigroupref14_Powers.l0 k t X (pws t X n)) (pws t X N, (a : Int)) := by
    intro m
    induction m with
    | zero =>
      intro n hn h1n
      have hnN : n = N := by omega
      subst hnN
      have hy := pw_in hv h0 h1 (n - 1)
      have r1 := hv.row _ hy.1 hy.2
      apply ev_succ
      simp only [semigroupref14_Powers.l0, rdR]
      have hl := pws_len t X n
      rw [wrap_in (i := ((pws t X n).length : Int) - 1) (by omega) (by omega)]
      rw [pws_rd (j := ((pws t X n).length : Int) - 1) (by omega) (by omega), show (((pws t X n).length : Int) - 1).toNat = n - 1 by omega]
      refine ev_pos (by omega) (ev_pos (by omega) (ev_pos hy.1 (ev_pos hy.2 (ev_pos h0 (ev_pos (by omega) ?_)))))
      have e : rd (R t (pw t X (n - 1))) X = pw t X n := by
        show pw t X (n - 1 + 1) = _
        congr 1; omega
      rw [e]
      refine ev_for0 (g := fun i k => semigroupref14_Powers.l1 k t X (pws t X n) (pw t X n) ((pws t X n).length : Int) i) ((pws t X n).length : Int) (fun i => i ≤ a) ?_ (fun h => by omega) 0 (by omega) (by omega) (by omega)
      intro i hi0 hi1 hia
      have hri := pws_rd (t := t) (x := X) (n := n) (j := i) hi0 (by omega)
      by_cases hi : i = a
      · left
        subst hi
        apply ev_succ
        simp only [semigroupref14_Powers.l1]
        refine ev_pos hi1 (ev_pos hi0 (ev_pos hi1 (ev_pos ?_ (ev_some rfl))))
        rw [hri, hc.back]; rfl
      · right
        refine ⟨by omega, fun H => ?_⟩
        apply ev_succ
        simp only [semigroupref14_Powers.l1]
        rw [wrap_in (by omega) (by omega)]
        refine ev_pos hi1 (ev_pos hi0 (ev_pos hi1 (ev_neg ?_ H)))
        rw [hri, hc.back]
        intro he
        have := hc.inj _ _ (by omega) hc.lt he
        omega
    | succ m ih =>
      intro n hn h1n
      have hy := pw_in hv h0 h1 (n - 1)
      have r1 := hv.row _ hy.1 hy.2
      apply ev_succ
      simp only [semigroupref14_Powers.l0, rdR]
      have hl := pws_len t X n
      rw [wrap_in (i := ((pws t X n).length : Int) - 1) (by omega) (by omega)]
      rw [pws_rd (j := ((pws t X n).length : Int) - 1) (by omega) (by omega), show (((pws t X n).length : Int) - 1).toNat = n - 1 by omega]
      refine ev_pos (by omega) (ev_pos (by omega) (ev_pos hy.1 (ev_pos hy.2 (ev_pos h0 (ev_pos (by omega) ?_)))))
      have e : rd (R t (pw t X (n - 1))) X = pw t X n := by
        show pw t X (n - 1 + 1) = _
        congr 1; omega
      rw [e]
      refine ev_for0 (g := fun i k => semigroupref14_Powers.l1 k t X (pws t X n) (pw t X n) ((pws t X n).length : Int) i) ((pws t X n).length : Int) (fun i => True) ?_ ?_ 0 (by omega) (by omega) trivial
      · intro i hi0 hi1 _
        have hri := pws_rd (t := t) (x := X) (n := n) (j := i) hi0 (by omega)
        right
        refine ⟨trivial, fun H => ?_⟩
        apply ev_succ
        simp only [semigroupref14_Powers.l1]
        rw [wrap_in (by omega) (by omega)]
        refine ev_pos hi1 (ev_pos hi0 (ev_pos hi1 (ev_neg ?_ H)))
        rw [hri]
        intro he
        have := hc.inj _ _ (by omega) (by omega) he
        omega
      · intro _
        apply ev_succ
        simp only [semigroupref14_Powers.l1]
        refine ev_neg (by omega) (ev_pos (by omega) ?_)
        rw [pws_snoc]
        exact ih (n + 1) (by omega) (by omega)
  exact key (N - 1) 1 (by omega) (by omega)
theorem semigroupref14_IndexPeriod_ev {t : List (List Int)} (hv : Va t) {X : Int} (h0 : 0 ≤ X) (h1 : X < (t.length : Int)) {a N : Nat} (hc : Cyc t X a N) : Ev (fun n => semigroupref14_IndexPeriod.f n t X) ((a : Int) + 1, (N : Int) - a) := by
  unfold semigroupref14_IndexPeriod.f
  have hle := hv.le
  have hN := hc.le
  have haN := hc.lt
  refine ev_call (semigroupref14_Powers_ev hv h0 h1 hc) (ev_some ?_)
  simp only [pws_len]
  rw [wrap_in (by omega) (by omega), wrap_in (by omega) (by omega)]
theorem semigroupref14_Power_ev {t : List (List Int)} (hv : Va t) {X : Int} (h0 : 0 ≤ X) (h1 : X < (t.length : Int)) {k : Int} (hk1 : 1 ≤ k) (hk : k ≤ 9223372036854775807) : Ev (fun n => semigroupref14_Power.f n t X k) (pw t X (k.toNat - 1)) := by
  obtain ⟨a, N, hc⟩ := hv.cyc h0 h1
  have hle := hv.le
  have hN := hc.le
  have haN := hc.lt
  unfold semigroupref14_Power.f
  refine ev_call (semigroupref14_Powers_ev hv h0 h1 hc) ?_
  simp only [pws_len]
  rw [wrap_in (i := k - 1) (by omega) (by omega), wrap_in (i := (N : Int) - a) (by omega) (by omega), wrap_in (i := k - 1 - a) (by omega) (by omega)]
  refine ev_ite (fun hkn => ?_) (fun hkn => ?_)
  · refine ev_pos (by omega) (ev_pos (by omega) (ev_some ?_))
    rw [pws_rd (by omega) (by omega)]
    congr 1; omega
  · refine ev_neg (by omega) ?_
    have hm : Int.tmod (k - 1 - a) ((N : Int) - a) = (((k.toNat - 1 - a) % (N - a) : Nat) : Int) := by
      rw [Int.tmod_eq_emod_of_nonneg (by omega), show k - 1 - (a : Int) = ((k.toNat - 1 - a : Nat) : Int) by omega, show (N : Int) - a = ((N - a : Nat) : Int) by omega]
      rfl
    rw [hm]
    have hml := Nat.mod_lt (k.toNat - 1 - a) (show 0 < N - a by omega)
    rw [wrap_in (i := (a : Int) + (((k.toNat - 1 - a) % (N - a) : Nat) : Int)) (by omega) (by omega)]
    refine ev_pos (by omega) (ev_pos (by omega) (ev_some ?_))
    rw [pws_rd (by omega) (by omega), hc.red hv h0 h1 (k.toNat - 1) (by omega)]
    congr 1
theorem semigroupref14_Omega_ev {t : List (List Int)} (hv : Va t) {X : Int} (h0 : 0 ≤ X) (h1 : X < (t.length : Int)) : Ev (fun n => semigroupref14_Omega.f n t X) (om t X) := by
  obtain ⟨a, N, hc⟩ := hv.cyc h0 h1
  have hle := hv.le
  have hN := hc.le
  have haN := hc.lt
  unfold semigroupref14_Omega.f
  refine ev_call (semigroupref14_Powers_ev hv h0 h1 hc) ?_
  simp only
  refine ev_for0 (g := fun i k => semigroupref14_Omega.l0 k t (pws t X N) ((pws t X N).length : Int) i) ((pws t X N).length : Int) (fun i => ∀ j : Nat, (j : Int) < i → M t (pw t X j) (pw t X j) ≠ pw t X j) ?_ ?_ 0 (by omega) (by omega) (fun j hj => by omega)
  · intro i hi0 hi1 hi
    have hl := pws_len t X N
    have hri := pws_rd (t := t) (x := X) (n := N) (j := i) hi0 (by omega)
    have hy := pw_in hv h0 h1 i.toNat
    have r1 := hv.row _ hy.1 hy.2
    by_cases hid : M t (pw t X i.toNat) (pw t X i.toNat) = pw t X i.toNat
    · left
      apply ev_succ
      simp only [semigroupref14_Omega.l0, rdR]
      rw [hri]
      exact ev_pos hi1 (ev_pos hi0 (ev_pos hi1 (ev_pos hy.1 (ev_pos hy.2 (ev_pos (by omega) (ev_pos hid (ev_some (om_eq hv h0 h1 hid).symm)))))))
    · right
      refine ⟨fun j hj => ?_, fun H => ?_⟩
      · by_cases hji : (j : Int) < i
        · exact hi j hji
        · rw [show j = i.toNat by omega]; exact hid
      · apply ev_succ
        simp only [semigroupref14_Omega.l0, rdR]
        rw [hri, wrap_in (by omega) (by omega)]
        exact ev_pos hi1 (ev_pos hi0 (ev_pos hi1 (ev_pos hy.1 (ev_pos hy.2 (ev_pos (by omega) (ev_neg hid H))))))
  · intro hi
    have hl := pws_len t X N
    have hm1 := Nat.div_mul_le_self N (N - a)
    have hm2 := Nat.div_add_mod N (N - a)
    have hm3 := Nat.mod_lt N (show 0 < N - a by omega)
    rw [Nat.mul_comm] at hm2
    exact absurd (hc.idem hv h0 h1 (N / (N - a) * (N - a)) (N / (N - a)) rfl (by omega)) (hi _ (by omega))
end Go.Proofs.Ytlhckcldeojfmaa.F
