/- Layer 14: Omega, Power, IndexPeriod, awake. What they answer. No condition but that a table comes in. -/
import Derived.Test.YtlhckcldeojfmaaRMultExponentsF2
set_option linter.unusedVariables false
set_option linter.unusedSimpArgs false
namespace Go.Ab
open Go
theorem mult_Omega_ev {s : Sl} {t : List (List Int)} {H : AH} {lo : Nat} (ht : In2 t) (hs : Tab H s t) {X r : Int} (hr : r = if val t = 0 ∧ 0 ≤ X ∧ X < (t.length : Int) then om t X else -1) : Ev (fun ρ n κ => mult_Omega n s X lo H κ) (fun v H' => v = r ∧ Le H H') := by
  refine ev_eq (fun _ k _ => mult_Omega_eq k) (ev_is (mult_Validate_ev ht hs) ?_)
  rw [hs.len]
  refine ev_orI (c := !decide (val t = 0) || decide (X < 0)) (fun h => ev_ret ⟨by rw [h]; rfl, rfl⟩) (fun h => by rw [h]; rfl) (ev_orI (c := !decide (val t = 0) || decide (X < 0) || decide (X ≥ (t.length : Int))) (fun h => ev_ret ⟨by rw [h]; rfl, rfl⟩) (fun h => by rw [h]; rfl) (ev_b (fun h => ?_) (fun h => ?_)))
  · refine ev_ret ⟨?_, Le.refl _⟩
    rw [hr, if_neg]
    rintro ⟨h1, h2, h3⟩
    simp [h1] at h
    omega
  simp at h
  obtain ⟨⟨hval, h0⟩, h1⟩ := h
  have hv := va_of hval
  rw [if_pos ⟨hval, h0, h1⟩] at hr
  subst hr
  obtain ⟨a, N, hc⟩ := hv.cyc h0 h1
  have hlt := hc.lt
  have hle := hc.le
  have hl := hv.le
  refine ev_call (mult_indexPeriod_ev hs (Nat.le_refl _) hv h0 h1 hc) fun p H' ⟨hp, hH'⟩ => ?_
  subst hp
  refine ev_neg (by show ¬ ((N : Int) - a = 0); omega) ?_
  show Ev (fun ρ k κ => mult_power k s X (W (W (Int.tdiv (W (W ((a : Int) + 1 + ((N : Int) - a)) - 1)) ((N : Int) - a)) * ((N : Int) - a))) H'.length H' fun v10 H11 => κ v10 H11) _
  rw [W_in (i := (a : Int) + 1 + ((N : Int) - a)) (by omega) (by omega), W_in (i := (a : Int) + 1 + ((N : Int) - a) - 1) (by omega) (by omega)]
  have hq : Int.tdiv ((a : Int) + 1 + ((N : Int) - a) - 1) ((N : Int) - a) = ((N / (N - a) : Nat) : Int) := by
    rw [Int.tdiv_eq_ediv_of_nonneg (by omega), show (a : Int) + 1 + ((N : Int) - a) - 1 = ((N : Nat) : Int) by omega, show (N : Int) - a = ((N - a : Nat) : Int) by omega]
    rfl
  rw [hq]
  have hm1 := Nat.div_mul_le_self N (N - a)
  have hm2 := Nat.div_add_mod N (N - a)
  have hm3 := Nat.mod_lt N (show 0 < N - a by omega)
  rw [Nat.mul_comm] at hm2
  have hdl := Nat.div_le_self N (N - a)
  clear hq
  generalize N / (N - a) = Q at hm1 hm2 hdl ⊢
  rw [W_in (i := (Q : Int)) (by omega) (by omega)]
  have hprod : (Q : Int) * ((N : Int) - a) = ((Q * (N - a) : Nat) : Int) := by
    rw [show (N : Int) - a = ((N - a : Nat) : Int) by omega, ← Int.natCast_mul]
  rw [hprod, W_in (by omega) (by omega)]
  have hid := hc.idem hv h0 h1 (Q * (N - a)) Q rfl (by omega)
  refine ev_is (mult_power_ev (hs.le hH') hv h0 h1 (by omega) (by omega)) (ev_ret ⟨?_, hH'⟩)
  rw [om_eq hv h0 h1 hid]
  congr 1
theorem mult_Power_ev {s : Sl} {t : List (List Int)} {H : AH} {lo : Nat} (ht : In2 t) (hs : Tab H s t) {X k r : Int} (hk : k ≤ 9223372036854775807) (hr : r = if val t = 0 ∧ 0 ≤ X ∧ X < (t.length : Int) ∧ 1 ≤ k then pw t X (k.toNat - 1) else -1) :
    Ev (fun ρ n κ => mult_Power n s X k lo H κ) (Is r H) := by
  refine ev_eq (fun _ k _ => mult_Power_eq k) (ev_is (mult_Validate_ev ht hs) ?_)
  rw [hs.len]
  refine ev_orI (c := !decide (val t = 0) || decide (X < 0)) (fun h => ev_ret ⟨by rw [h]; rfl, rfl⟩) (fun h => by rw [h]; rfl) (ev_orI (c := !decide (val t = 0) || decide (X < 0) || decide (X ≥ (t.length : Int))) (fun h => ev_ret ⟨by rw [h]; rfl, rfl⟩) (fun h => by rw [h]; rfl)
    (ev_orI (c := !decide (val t = 0) || decide (X < 0) || decide (X ≥ (t.length : Int)) || decide (k < 1)) (fun h => ev_ret ⟨by rw [h]; rfl, rfl⟩) (fun h => by rw [h]; rfl) (ev_b (fun h => ?_) (fun h => ?_))))
  · refine ev_ret ⟨?_, rfl⟩
    rw [hr, if_neg]
    rintro ⟨h1, h2, h3⟩
    simp [h1] at h
    omega
  simp at h
  obtain ⟨⟨⟨hval, h0⟩, h1⟩, h2⟩ := h
  rw [if_pos ⟨hval, h0, h1, by omega⟩] at hr
  subst hr
  exact ev_is (mult_power_ev hs (va_of hval) h0 h1 (by omega) hk) (ev_ret ⟨rfl, rfl⟩)
theorem mult_IndexPeriod_yes {s : Sl} {t : List (List Int)} {H : AH} {lo : Nat} (ht : In2 t) (hs : Tab H s t) (hv : Va t) {X : Int} (h0 : 0 ≤ X) (h1 : X < (t.length : Int)) {a N : Nat} (hc : Cyc t X a N) :
    Ev (fun ρ n κ => mult_IndexPeriod n s X lo H κ) (fun v H' => v = ((a : Int) + 1, (N : Int) - a) ∧ Le H H') := by
  refine ev_eq (fun _ k _ => mult_IndexPeriod_eq k) (ev_is (mult_Validate_ev ht hs) ?_)
  rw [hs.len, val_va.2 hv]
  refine ev_orI (c := false) (fun h => ev_ret ⟨by simp; omega, rfl⟩) (fun h => by simp at h) (ev_orI (c := false) (fun h => ev_ret ⟨by simp; omega, rfl⟩) (fun h => by simp at h) (ev_f rfl ?_))
  exact ev_call (mult_indexPeriod_ev hs (Nat.le_refl _) hv h0 h1 hc) fun p H' ⟨hp, hH'⟩ => ev_ret ⟨hp, hH'⟩
def two : List (List Int) := [[0, 1], [1, 0]]
theorem two_in {x : Int} (h0 : 0 ≤ x) (h1 : x < (two.length : Int)) : x = 0 ∨ x = 1 := by simp [two] at h1; omega
theorem two_va : Va two := by
  refine ⟨⟨by decide, by decide, fun x a b => ?_, fun x y a b c d => ?_, fun x y a b c d => ?_⟩, fun x y z a b c d e f => ?_⟩
  · rcases two_in a b with rfl | rfl <;> rfl
  · rcases two_in a b with rfl | rfl <;> rcases two_in c d with rfl | rfl <;> decide
  · rcases two_in a b with rfl | rfl <;> rcases two_in c d with rfl | rfl <;> decide
  · rcases two_in a b with rfl | rfl <;> rcases two_in c d with rfl | rfl <;> rcases two_in e f with rfl | rfl <;> decide
theorem two_in2 : In2 two := by
  refine ⟨by decide, fun v hv => ?_⟩
  simp [two] at hv
  rcases hv with rfl | rfl <;> refine ⟨by decide, fun u hu => ?_⟩ <;> simp at hu <;> rcases hu with rfl | rfl <;> decide
theorem two_idn : idn two = 0 := first_eq (by decide) (by decide) (fun x a b => by rcases two_in a b with rfl | rfl <;> decide) (fun i a b => by omega)
theorem two_zer : zer two = -1 := first_no fun i a b h => by
  rcases two_in a b with rfl | rfl
  · exact absurd (h 1 (by decide) (by decide)).1 (by decide)
  · exact absurd (h 1 (by decide) (by decide)).1 (by decide)
theorem two_om : om two 1 = 0 := om_eq two_va (by decide) (by decide) (i := 1) (by decide)
theorem semigrouplaw14_awake_ev {H : AH} {lo : Nat} : Ev (fun ρ n κ => semigrouplaw14_awake n lo H κ) (fun v _ => v = true) := by
  refine ev_eq (fun _ k _ => semigrouplaw14_awake_eq k) (ev_mkbI [0, 1] fun s1 H2 r1 l1 => ev_mkbI [1, 0] fun s3 H4 r3 l3 => ev_mkbS (T := two) [s1, s3] (.cons (r1.le l3) (.cons r3 .nil)) fun s5 H1 ht _ => ?_)
  have hv := val_va.2 two_va
  refine ev_is (mult_Validate_ev two_in2 ht) (ev_andI (c := true) (fun _ => ev_is (mult_Identity_ev two_in2 ht) (ev_ret ⟨by rw [if_pos hv, two_idn]; rfl, rfl⟩)) (fun h => by simp [hv] at h) ?_)
  refine ev_and (S := fun b H' => b = true ∧ Le H1 H') (fun _ => ev_call (mult_Omega_ev two_in2 ht rfl) fun v H' ⟨e, hl⟩ => ev_ret ⟨by rw [e, if_pos ⟨hv, by decide, by decide⟩, two_om]; rfl, hl⟩) (fun h => by simp at h) fun b H' ⟨e, hl⟩ => ?_
  refine ev_andI (c := true) (fun _ => ev_is (mult_Zero_ev two_in2 (ht.le hl)) (ev_ret ⟨by rw [if_pos hv, two_zer]; rfl, rfl⟩)) (fun h => by rw [e] at h; cases h) (ev_ret rfl)

end Go.Ab
