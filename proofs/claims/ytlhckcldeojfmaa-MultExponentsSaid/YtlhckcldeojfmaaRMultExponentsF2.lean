/- Layer 14: identity, zero, powers, index and period. What they answer. No condition but that a table comes in. -/
import Derived.Test.YtlhckcldeojfmaaRMultExponentsF1
import Derived.Test.YtlhckcldeojfmaaAbM5
set_option linter.unusedVariables false
set_option linter.unusedSimpArgs false
namespace Go.Ab
open Go
open Classical
theorem mult_identity_l1 {s : Sl} {t : List (List Int)} {H : AH} {lo : Nat} (ht : Tab H s t) (hs : Sq t) : Ev (fun ρ k κ => mult_identity_1 k s (t.length : Int) 0 lo H κ) (Is (idn t) H) := by
  have hle := hs.le
  have hpos := hs.pos
  have hl := ht.len
  have round : ∀ e : Int, 0 ≤ e → e < (t.length : Int) → ∀ Q : Int → AH → Prop, (IsId t e → Q e H) → (¬ IsId t e → Ev (fun ρ k κ => mult_identity_1 k s (t.length : Int) (e + 1) lo H κ) Q) → Ev (fun ρ k κ => mult_identity_1 k s (t.length : Int) e lo H κ) Q := by
    intro e he0 he1 Q q1 q2
    have r1 := hs.row e he0 he1
    refine ev_eq (fun _ k _ => mult_identity_1_eq k) (ev_pos he1 ?_)
    rw [hl]
    refine ev_all (g := fun y a ρ k κ => mult_identity_2 k s e a (t.length : Int) e (t.length : Int) y lo H κ) (t.length : Int) (fun y => M t e y = y ∧ M t y e = y) (by omega) ?_ ?_
    · intro y b hy0 hy1 H'
      have r2 := hs.row y hy0 hy1
      refine ev_eq (fun _ k _ => mult_identity_2_eq k) (ev_pos hy1 ?_)
      rw [W_add hy0 hy1 (by omega)]
      refine ev_andI (c := b && decide (M t e y = y)) (fun hb => ?_) (fun hb => by simp [hb]) ?_
      · exact ev_rdM ht he0 he1 hy0 (by omega) (ev_ret ⟨by simp [hb], rfl⟩)
      refine ev_andI (c := (b && decide (M t e y = y)) && decide (M t y e = y)) (fun hb => ?_) (fun hb => by simp [hb]) (H' _ (by simp [and_assoc]))
      exact ev_rdM ht hy0 hy1 he0 (by omega) (ev_ret ⟨by rw [hb, Bool.true_and], rfl⟩)
    · intro c hc
      refine ev_eq (fun _ k _ => mult_identity_2_eq k) (ev_neg (by omega) (ev_b (fun hb => ev_ret (q1 (hc.1 hb))) fun hb => ?_))
      rw [W_add he0 he1 (by omega)]
      exact q2 fun hp => by rw [hc.2 hp] at hb; cases hb
  refine ev_first (g := fun e ρ k κ => mult_identity_1 k s (t.length : Int) e lo H κ) t.length (IsId t) ?_ ?_ ?_
  · intro e he0 he1 hp H'
    exact round e he0 he1 _ (fun h => absurd h hp) (fun _ => H')
  · intro e he0 he1 hp hf
    exact round e he0 he1 _ (fun _ => ⟨hf.symm, rfl⟩) (fun h => absurd hp h)
  · intro hf
    exact ev_eq (fun _ k _ => mult_identity_1_eq k) (ev_neg (by omega) (ev_ret ⟨hf.symm, rfl⟩))
theorem mult_Zero_l1 {s : Sl} {t : List (List Int)} {H : AH} {lo : Nat} (ht : Tab H s t) (hs : Sq t) : Ev (fun ρ k κ => mult_Zero_1 k s (t.length : Int) 0 lo H κ) (Is (zer t) H) := by
  have hle := hs.le
  have hpos := hs.pos
  have hl := ht.len
  have round : ∀ e : Int, 0 ≤ e → e < (t.length : Int) → ∀ Q : Int → AH → Prop, (IsZero t e → Q e H) → (¬ IsZero t e → Ev (fun ρ k κ => mult_Zero_1 k s (t.length : Int) (e + 1) lo H κ) Q) → Ev (fun ρ k κ => mult_Zero_1 k s (t.length : Int) e lo H κ) Q := by
    intro e he0 he1 Q q1 q2
    have r1 := hs.row e he0 he1
    refine ev_eq (fun _ k _ => mult_Zero_1_eq k) (ev_pos he1 ?_)
    rw [hl]
    refine ev_all (g := fun y a ρ k κ => mult_Zero_2 k s e a (t.length : Int) e (t.length : Int) y lo H κ) (t.length : Int) (fun y => M t e y = e ∧ M t y e = e) (by omega) ?_ ?_
    · intro y b hy0 hy1 H'
      have r2 := hs.row y hy0 hy1
      refine ev_eq (fun _ k _ => mult_Zero_2_eq k) (ev_pos hy1 ?_)
      rw [W_add hy0 hy1 (by omega)]
      refine ev_andI (c := b && decide (M t e y = e)) (fun hb => ?_) (fun hb => by simp [hb]) ?_
      · exact ev_rdM ht he0 he1 hy0 (by omega) (ev_ret ⟨by simp [hb], rfl⟩)
      refine ev_andI (c := (b && decide (M t e y = e)) && decide (M t y e = e)) (fun hb => ?_) (fun hb => by simp [hb]) (H' _ (by simp [and_assoc]))
      exact ev_rdM ht hy0 hy1 he0 (by omega) (ev_ret ⟨by rw [hb, Bool.true_and], rfl⟩)
    · intro c hc
      refine ev_eq (fun _ k _ => mult_Zero_2_eq k) (ev_neg (by omega) (ev_b (fun hb => ev_ret (q1 (hc.1 hb))) fun hb => ?_))
      rw [W_add he0 he1 (by omega)]
      exact q2 fun hp => by rw [hc.2 hp] at hb; cases hb
  refine ev_first (g := fun e ρ k κ => mult_Zero_1 k s (t.length : Int) e lo H κ) t.length (IsZero t) ?_ ?_ ?_
  · intro e he0 he1 hp H'
    exact round e he0 he1 _ (fun h => absurd h hp) (fun _ => H')
  · intro e he0 he1 hp hf
    exact round e he0 he1 _ (fun _ => ⟨hf.symm, rfl⟩) (fun h => absurd hp h)
  · intro hf
    exact ev_eq (fun _ k _ => mult_Zero_1_eq k) (ev_neg (by omega) (ev_ret ⟨hf.symm, rfl⟩))
theorem va_of {t : List (List Int)} (h : val t = 0) : Va t := val_va.1 h
theorem mult_Identity_ev {s : Sl} {t : List (List Int)} {H : AH} {lo : Nat} (ht : In2 t) (hs : Tab H s t) : Ev (fun ρ k κ => mult_Identity k s lo H κ) (Is (if val t = 0 then idn t else -1) H) := by
  refine ev_eq (fun _ k _ => mult_Identity_eq k) (ev_is (mult_Validate_ev ht hs) ?_)
  by_cases h : val t = 0
  · rw [if_pos h]
    refine ev_nneg h (ev_is (F' := fun ρ k κ => mult_identity k s H.length H κ) (ev_eq (fun _ k _ => mult_identity_eq k) (by rw [hs.len]; exact mult_identity_l1 hs (va_of h).toSq)) (ev_ret ⟨rfl, rfl⟩))
  · rw [if_neg h]
    exact ev_npos h (ev_ret ⟨rfl, rfl⟩)
theorem mult_Zero_ev {s : Sl} {t : List (List Int)} {H : AH} {lo : Nat} (ht : In2 t) (hs : Tab H s t) : Ev (fun ρ k κ => mult_Zero k s lo H κ) (Is (if val t = 0 then zer t else -1) H) := by
  refine ev_eq (fun _ k _ => mult_Zero_eq k) (ev_is (mult_Validate_ev ht hs) ?_)
  by_cases h : val t = 0
  · rw [if_pos h]
    refine ev_nneg h ?_
    rw [hs.len]
    exact mult_Zero_l1 hs (va_of h).toSq
  · rw [if_neg h]
    exact ev_npos h (ev_ret ⟨rfl, rfl⟩)
theorem half (k : Nat) (h : (k : Int) ≤ 9223372036854775807) : W (Int.tdiv (k : Int) 2) = ((k / 2 : Nat) : Int) := by
  rw [Int.tdiv_eq_ediv_of_nonneg (by omega), W_in (by omega) (by omega)]
  omega
theorem mult_power_l1 {s : Sl} {t : List (List Int)} {H : AH} {lo : Nat} {Q : Int → AH → Prop} (ht : Tab H s t) (hv : Va t) {X : Int} (h0 : 0 ≤ X) (h1 : X < (t.length : Int)) (k : Nat) : ∀ (e o : Nat) (out : Int), (k : Int) ≤ 9223372036854775807 → 1 ≤ e → 1 ≤ o + k * e →
    (o = 0 → out = -1) → (1 ≤ o → out = pw t X (o - 1)) → Q (pw t X (o + k * e - 1)) H → Ev (fun ρ n κ => mult_power_1 n s (pw t X (e - 1)) (k : Int) out lo H κ) Q := by
  induction k using Nat.strongRecOn with
  | _ k ih =>
  intro e o out hk he hoe ho0 ho1 hQ
  have hx := pw_in hv h0 h1 (e - 1)
  refine ev_eq (fun _ k _ => mult_power_1_eq k) ?_
  by_cases hk0 : k = 0
  · subst hk0
    refine ev_neg (by omega) (ev_ret ?_)
    simp only [Nat.zero_mul, Nat.add_zero] at hoe hQ
    rw [ho1 hoe]; exact hQ
  · refine ev_pos (by omega) ?_
    have r1 := hv.row _ hx.1 hx.2
    have hsq : M t (pw t X (e - 1)) (pw t X (e - 1)) = pw t X (e + e - 1) := by
      rw [pw_mul hv h0 h1]; congr 1; omega
    rw [Int.tmod_eq_emod_of_nonneg (by omega)]
    have h2 := Nat.div_add_mod k 2
    have tail : ∀ o' out', 1 ≤ o' + (k / 2) * (e + e) → (o' = 0 → out' = -1) → (1 ≤ o' → out' = pw t X (o' - 1)) → Q (pw t X (o' + (k / 2) * (e + e) - 1)) H → Ev (fun ρ n κ => mult_power_2 n s (pw t X (e - 1)) (k : Int) out' lo H κ) Q := by
      intro o' out' a1 a2 a3 a4
      refine ev_eq (fun _ k _ => mult_power_2_eq k) (ev_rdM ht hx.1 hx.2 hx.1 (by omega) ?_)
      rw [half k hk, hsq]
      exact ih (k / 2) (by omega) (e + e) o' out' (by omega) (by omega) a1 a2 a3 a4
    refine ev_if (fun hodd => ?_) (fun heven => ?_)
    · have hm : k % 2 = 1 := by omega
      have hsum : (o + e) + (k / 2) * (e + e) = o + k * e := by
        have : k * e = (2 * (k / 2) + 1) * e := by rw [show 2 * (k / 2) + 1 = k by omega]
        rw [this, Nat.add_mul, Nat.mul_add, Nat.mul_assoc, Nat.one_mul]
        omega
      refine ev_if (fun hneg => ?_) (fun hpos => ?_)
      · have ho : o = 0 := by
          refine Classical.byContradiction fun hn => ?_
          have := (pw_in hv h0 h1 (o - 1)).1
          rw [ho1 (by omega)] at hneg
          omega
        subst ho
        exact tail e _ (by omega) (fun h => by omega) (fun _ => rfl) (by rw [show e + (k / 2) * (e + e) = 0 + k * e by omega]; exact hQ)
      · have ho : 1 ≤ o := by
          refine Classical.byContradiction fun hn => ?_
          have := ho0 (by omega)
          omega
        have hout := ho1 ho
        have hy := pw_in hv h0 h1 (o - 1)
        rw [← hout] at hy
        have r2 := hv.row _ hy.1 hy.2
        refine ev_rdM ht hy.1 hy.2 hx.1 (by omega) ?_
        rw [hout, pw_mul hv h0 h1, show o - 1 + (e - 1) + 1 = o + e - 1 by omega]
        exact tail (o + e) _ (by omega) (fun h => by omega) (fun _ => rfl) (by rw [hsum]; exact hQ)
    · have hm : k % 2 = 0 := by omega
      have hsum : o + (k / 2) * (e + e) = o + k * e := by
        have : k * e = (2 * (k / 2)) * e := by rw [show 2 * (k / 2) = k by omega]
        rw [this, Nat.mul_add, Nat.mul_assoc]
        omega
      exact tail o out (by omega) ho0 ho1 (by rw [hsum]; exact hQ)
theorem mult_power_ev {s : Sl} {t : List (List Int)} {H : AH} {lo : Nat} (ht : Tab H s t) (hv : Va t) {X : Int} (h0 : 0 ≤ X) (h1 : X < (t.length : Int)) {k : Int} (hk1 : 1 ≤ k) (hk : k ≤ 9223372036854775807) : Ev (fun ρ n κ => mult_power n s X k lo H κ) (Is (pw t X (k.toNat - 1)) H) := by
  obtain ⟨K, rfl⟩ : ∃ K : Nat, k = K := ⟨k.toNat, by omega⟩
  refine ev_eq (fun _ k _ => mult_power_eq k) ?_
  exact mult_power_l1 (Q := Is (pw t X ((K : Int).toNat - 1)) H) ht hv h0 h1 K 1 0 (-1) hk (by omega) (by omega) (fun _ => rfl) (fun h => by omega) ⟨by simp, rfl⟩
theorem mult_indexPeriod_l1 {s : Sl} {t : List (List Int)} {H0 : AH} {lo b : Nat} (hTab : ∀ H, Le H0 H → Tab H s t) (hv : Va t) {X : Int} (h0 : 0 ≤ X) (h1 : X < (t.length : Int)) {a N : Nat} (hc : Cyc t X a N) (hlo : lo ≤ b) (hb : H0.length ≤ b) (m : Nat) : ∀ (k : Nat) (seen : List Int) (H : AH), k + m = N → Le H0 H → BlkI H b seen → seen.length = t.length →
    (∀ z : Int, 0 ≤ z → z < (t.length : Int) → (∀ i, i < k → pw t X i ≠ z) → rd seen z = 0) → (∀ i, i < k → rd seen (pw t X i) = (i : Int) + 1) →
    Ev (fun ρ n κ => mult_indexPeriod_1 n s X (sl0 b t.length) (pw t X k) ((k : Int) + 1) lo H κ) (fun r H' => r = ((a : Int) + 1, (N : Int) - a) ∧ Le H0 H') := by
  have hle := hv.le
  have hN := hc.le
  have haN := hc.lt
  have hX := h0
  induction m with
  | zero =>
    intro k seen H hk hl hbk hlen hz hs
    have hkN : k = N := by omega
    subst hkN
    have hy := pw_in hv h0 h1 k
    have e := hs a hc.lt
    rw [← hc.back] at e
    have hr := hbk.row
    rw [hlen] at hr
    refine ev_eq (fun _ k _ => mult_indexPeriod_1_eq k) (ev_rdI hr hy.1 (by omega) (ev_neg (by omega) (ev_rdI hr hy.1 (by omega) (ev_rdI hr hy.1 (by omega) (ev_ret ⟨?_, hl⟩)))))
    rw [e, W_in (by omega) (by omega)]
    congr 1
    omega
  | succ m ih =>
    intro k seen H hk hl hbk hlen hz hs
    have hy := pw_in hv h0 h1 k
    have r1 := hv.row _ hy.1 hy.2
    have e : rd seen (pw t X k) = 0 := hz _ hy.1 hy.2 (fun i hi he => by have := hc.inj i k (by omega) (by omega) he; omega)
    have hr := hbk.row
    rw [hlen] at hr
    refine ev_eq (fun _ k _ => mult_indexPeriod_1_eq k) (ev_rdI hr hy.1 (by omega) (ev_pos e (ev_put (e := fun n : Int => .int .i64 n) hbk hlen.symm hlo hy.1 (by omega) fun H' hH' hbk' => ?_)))
    have hl' : Le H0 H' := by rw [hH']; exact hl.set hb _
    have ht' : Tab H' s t := hTab H' hl'
    refine ev_rdM ht' hy.1 hy.2 h0 (by omega) ?_
    rw [W_in (by omega) (by omega)]
    have := ih (k + 1) (seen.set (pw t X k).toNat ((k : Int) + 1)) H' (by omega) hl' hbk' (by simpa using hlen) ?_ ?_
    · simpa [pw] using this
    · intro z z0 z1 hne
      rw [rd_set hy.1 (by omega) z0, if_neg (fun h => hne k (by omega) h.symm)]
      exact hz z z0 z1 (fun i hi => hne i (by omega))
    · intro i hi
      have hyi := pw_in hv h0 h1 i
      rw [rd_set hy.1 (by omega) hyi.1]
      by_cases hik : i = k
      · subst hik; rw [if_pos rfl]
      · rw [if_neg (fun h => hik (hc.inj i k (by omega) (by omega) h))]
        exact hs i (by omega)
theorem mult_indexPeriod_ev {s : Sl} {t : List (List Int)} {H : AH} {lo : Nat} (ht : Tab H s t) (hlo : lo ≤ H.length) (hv : Va t) {X : Int} (h0 : 0 ≤ X) (h1 : X < (t.length : Int)) {a N : Nat} (hc : Cyc t X a N) :
    Ev (fun ρ n κ => mult_indexPeriod n s X lo H κ) (fun r H' => r = ((a : Int) + 1, (N : Int) - a) ∧ Le H H') := by
  have hle := hv.le
  refine ev_eq (fun _ k _ => mult_indexPeriod_eq k) ?_
  rw [ht.len]
  refine ev_mks (by omega) (by omega) (by omega) ?_
  rw [flatten_rep]
  have e : (List.replicate ((t.length : Int).toNat) (AV.int .i64 0)) = (List.replicate t.length (0 : Int)).map (fun n => .int .i64 n) := by simp
  rw [e]
  have := mult_indexPeriod_l1 (H0 := H) (lo := lo) (b := H.length) (fun H' hl => ht.le hl) hv h0 h1 hc hlo (Nat.le_refl _) N 0 (List.replicate t.length 0) (H ++ [.cells ((List.replicate t.length (0 : Int)).map (fun n => .int .i64 n)) 1]) (by omega) ⟨_, rfl⟩ (Blk1.new _ _ _) (by simp)
    (fun z z0 z1 _ => rd_rep z0 z1) (fun i hi => by omega)
  simpa [pw] using this

end Go.Ab
