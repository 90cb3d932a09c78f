/- MultExponents: for every table the law answers true. No condition but that the arguments come in. -/
import Derived.Test.YtlhckcldeojfmaaRMultExponentsF3
set_option linter.unusedVariables false
set_option linter.unusedSimpArgs false
namespace Go.Ab
open Go

theorem pw_pw {t : List (List Int)} (hv : Va t) {x : Int} (h0 : 0 ≤ x) (h1 : x < (t.length : Int)) (i j : Nat) : pw t (pw t x i) j = pw t x ((i + 1) * (j + 1) - 1) := by
  induction j with
  | zero => simp [pw]
  | succ j ih =>
    show M t (pw t (pw t x i) j) (pw t x i) = _
    rw [ih, pw_mul hv h0 h1]
    congr 1
    have : (i + 1) * (j + 1 + 1) = (i + 1) * (j + 1) + (i + 1) := by rw [Nat.mul_succ]
    have h2 : 1 ≤ (i + 1) * (j + 1) := Nat.mul_pos (by omega) (by omega)
    omega
theorem el1 {t : List (List Int)} {x : Int} : El t [x] ↔ 0 ≤ x ∧ x < (t.length : Int) := by simp [El]
theorem el2 {t : List (List Int)} {x y : Int} : El t [x, y] ↔ (0 ≤ x ∧ x < (t.length : Int)) ∧ 0 ≤ y ∧ y < (t.length : Int) := by simp [El]
theorem semigrouplaw14_MultExponents_ev {s : Sl} {t : List (List Int)} {H : AH} {lo : Nat} {x a b : Int} (ht : In2 t) (hs : Tab H s t) (ha : 0 ≤ a ∧ a ≤ 255) (hb : 0 ≤ b ∧ b ≤ 255) : Ev (fun ρ k κ => semigrouplaw14_MultExponents k s x a b lo H κ) (fun v _ => v = true) := by
  refine ev_eq (fun _ k _ => semigrouplaw14_MultExponents_eq k) (ev_is (semigrouplaw14_small_ev ht hs) ?_)
  by_cases hsm : (t.length : Int) ≤ 20 ∧ val t = 0
  case neg => exact ev_orI (c := true) (fun h => by simp [hsm] at h) (fun _ => rfl) (ev_t rfl (ev_call semigrouplaw14_awake_ev fun v H' hv => ev_ret hv))
  obtain ⟨h20, hval⟩ := hsm
  have hv := va_of hval
  by_cases hin : 0 ≤ x ∧ x < (t.length : Int)
  case neg =>
    refine ev_or (S := fun b H' => b = true) (fun _ => ev_mkbI [x] fun s3 H4 r3 l3 => ev_is (semigroupref14_In_ev hs.len r3 (by simp) (b := false) (by simp only [el1]; simp; omega)) (ev_ret rfl)) (fun _ => rfl) fun c H' hc => ev_t hc ?_
    exact ev_call semigrouplaw14_awake_ev fun v H' hv => ev_ret hv
  obtain ⟨h0, h1⟩ := hin
  refine ev_orF (by simp [h20, hval]) (ev_mkbI [x] fun s3 H4 r3 l3 => ev_is (semigroupref14_In_ev hs.len r3 (by simp) (b := true) (by simp only [el1]; simp; omega)) (ev_ret ⟨rfl, l3⟩)) fun H1 l1 => ev_f rfl ?_
  rw [W_in (i := a) (by omega) (by omega), W_in (i := b) (by omega) (by omega), W_in (i := 1 + a) (by omega) (by omega), W_in (i := 1 + b) (by omega) (by omega)]
  obtain ⟨m, rfl⟩ : ∃ m : Nat, a = m := ⟨a.toNat, by omega⟩
  obtain ⟨n, rfl⟩ : ∃ n : Nat, b = n := ⟨b.toNat, by omega⟩
  have power : ∀ {H' : AH} {lo' : Nat} {y k : Int}, Le H H' → 0 ≤ y → y < (t.length : Int) → 1 ≤ k → k ≤ 1000000 → Ev (fun ρ n κ => mult_Power n s y k lo' H' κ) (Is (pw t y (k.toNat - 1)) H') := fun hl y0 y1 k0 k1 => mult_Power_ev ht (hs.le hl) (by omega) (by rw [if_pos ⟨hval, y0, y1, k0⟩])
  have hp := pw_in hv h0 h1 m
  have hq := pw_in hv h0 h1 n
  have e1 : pw t x ((1 + (m : Int)).toNat - 1) = pw t x m := by congr 1; omega
  have e2 : pw t x ((1 + (n : Int)).toNat - 1) = pw t x n := by congr 1; omega
  have hmn : (1 + (m : Int)) * (1 + n) = (((m + 1) * (n + 1) : Nat) : Int) := by rw [Int.natCast_mul]; congr 1 <;> omega
  have hmb : (m + 1) * (n + 1) ≤ 256 * 256 := Nat.mul_le_mul (by omega) (by omega)
  have hmp : 1 ≤ (m + 1) * (n + 1) := Nat.mul_pos (by omega) (by omega)
  refine ev_is (power l1 h0 h1 (by omega) (by omega)) (ev_is (power l1 h0 h1 (by omega) (by omega)) ?_)
  rw [e1, e2]
  refine ev_mkbI [pw t x m, pw t x n] fun s15 H16 r15 l15 => ?_
  have l16 := l1.trans l15
  refine ev_is (semigroupref14_In_ev (hs.le l16).len r15 (by simp) (b := true) (by simp only [el2]; simp; omega)) ?_
  have rp := hv.row _ hp.1 hp.2
  refine ev_orI (c := false) (fun _ => ev_rdM (hs.le l16) hp.1 hp.2 hq.1 (by omega) ?_) (fun h => by simp at h) ?_
  · rw [W_in (i := 1 + (m : Int) + (1 + n)) (by omega) (by omega)]
    refine ev_is (power l16 h0 h1 (by omega) (by omega)) (ev_ret ⟨?_, rfl⟩)
    rw [pw_mul hv h0 h1, show (1 + (m : Int) + (1 + n)).toNat - 1 = m + n + 1 by omega]
    simp
  refine ev_orI (c := false) (fun _ => ev_is (power l16 hp.1 hp.2 (by omega) (by omega)) ?_) (fun h => by cases h) (ev_f rfl ?_)
  · rw [hmn, W_in (by omega) (by omega)]
    refine ev_is (power l16 h0 h1 (by omega) (by omega)) (ev_ret ⟨?_, rfl⟩)
    rw [show (1 + (n : Int)).toNat - 1 = n by omega, pw_pw hv h0 h1, Int.toNat_natCast]
    simp
  obtain ⟨i, N, hc⟩ := hv.cyc h0 h1
  have hlt := hc.lt
  have hNl := hc.le
  refine ev_call (mult_IndexPeriod_yes ht (hs.le l16) hv h0 h1 hc) fun r H32 ⟨er, l32⟩ => ?_
  subst er
  have l32 := l16.trans l32
  refine ev_call (mult_Omega_ev ht (hs.le l32) rfl) fun o H34 ⟨eo, l34⟩ => ?_
  rw [if_pos ⟨hval, h0, h1⟩] at eo
  subst eo
  have l34 := l32.trans l34
  obtain ⟨j, hj, ej⟩ := om_idem hv h0 h1
  have ho := pw_in hv h0 h1 j
  rw [← ej] at ho
  have ro := hv.row _ ho.1 ho.2
  have rx := hv.row _ h0 h1
  show Ev (fun ρ k κ => andB (decide ((i : Int) + 1 > 0)) _ H34 fun b35 H36 => _) _
  refine ev_andI (c := true) (fun _ => ev_ret ⟨?_, rfl⟩) (fun h => by have h := of_decide_eq_false h; omega) (ev_andI (c := true) (fun _ => ?_) (fun h => by cases h) ?_)
  · show decide ((N : Int) - i > 0) = true
    simp; omega
  · show Ev (fun ρ k κ => mult_Power k s x (W ((i : Int) + 1 + (1 + m))) H34.length H34 fun v37 H38 => mult_Power k s x (W (W ((i : Int) + 1 + (1 + m)) + ((N : Int) - i))) H38.length H38 fun v39 H40 => κ (decide (v37 = v39)) H40) _
    rw [W_in (i := (i : Int) + 1 + (1 + m)) (by omega) (by omega), W_in (by omega) (by omega)]
    refine ev_is (power l34 h0 h1 (by omega) (by omega)) (ev_is (power l34 h0 h1 (by omega) (by omega)) (ev_ret ⟨?_, rfl⟩))
    rw [show ((i : Int) + 1 + (1 + m) + ((N : Int) - i)).toNat - 1 = i + 1 + m + (N - i) by omega, show ((i : Int) + 1 + (1 + m)).toNat - 1 = i + 1 + m by omega, hc.step hv h0 h1 _ (by omega)]
    simp
  refine ev_andT rfl (ev_mkbI [om t x] fun s43 H44 r43 l44 => ev_is (semigroupref14_In_ev (hs.le (l34.trans l44)).len r43 (by simp) (b := true) (by simp only [el1]; simp; omega)) (ev_ret ⟨rfl, l44⟩)) fun H48 l48 => ?_
  have l48 := l34.trans l48
  have hs' := hs.le l48
  refine ev_andI (c := true) (fun _ => ev_rdM hs' ho.1 ho.2 ho.1 (by omega) (ev_ret ⟨?_, rfl⟩)) (fun h => by cases h) (ev_andI (c := true) (fun _ => ev_rdM hs' ho.1 ho.2 h0 (by omega) (ev_rdM hs' h0 h1 ho.1 (by omega) (ev_ret ⟨?_, rfl⟩))) (fun h => by cases h) (ev_andI (c := true) (fun _ => ?_) (fun h => by cases h) ?_))
  · rw [ej, hj]; simp
  · have a1 : M t (pw t x j) x = pw t x (j + 1) := rfl
    have a2 : M t x (pw t x j) = pw t x (0 + j + 1) := pw_mul hv h0 h1 0 j
    rw [ej, a1, a2, Nat.zero_add]; simp
  · show Ev (fun ρ k κ => mult_Power k s x (W (((i : Int) + 1) * ((N : Int) - i))) H48.length H48 fun v59 H60 => κ (decide (v59 = om t x)) H60) _
    have hin : ((i : Int) + 1) * ((N : Int) - i) = (((i + 1) * (N - i) : Nat) : Int) := by rw [Int.natCast_mul]; congr 1; omega
    have hib : (i + 1) * (N - i) ≤ 20 * 20 := Nat.mul_le_mul (by omega) (by omega)
    have hip : i + 1 ≤ (i + 1) * (N - i) := Nat.le_mul_of_pos_right _ (by omega)
    rw [hin, W_in (by omega) (by omega)]
    refine ev_is (power l48 h0 h1 (by omega) (by omega)) (ev_ret ⟨?_, rfl⟩)
    rw [om_eq hv h0 h1 (hc.idem hv h0 h1 _ (i + 1) rfl hip), Int.toNat_natCast]
    simp
  exact ev_and (S := fun b _ => b = true) (fun _ => ev_call semigrouplaw14_awake_ev fun v H' hv => ev_ret hv) (fun h => by cases h) fun b H' hb => ev_ret hb
theorem law_MultExponents {H : AH} {s0 : Sl} {l0 : List (List Int)} {a1 : Int} {a2 : Int} {a3 : Int} (h0 : In2 l0) (t0 : Tab H s0 l0) (h1 : (Lit.int .i64 a1).wf = true) (h2 : (Lit.int .u8 a2).wf = true) (h3 : (Lit.int .u8 a3).wf = true) : Ev (fun ρ k κ => semigrouplaw14_MultExponents k s0 a1 a2 a3 H.length H κ) (fun v _ => v = true) :=
  semigrouplaw14_MultExponents_ev h0 t0 (wf_u8 h2) (wf_u8 h3)
end Go.Ab
