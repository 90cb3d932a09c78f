/- Finite semigroups as tables: drawers, powers, index and period, idempotents. Plain lemmas. No condition. -/
import Derived.Test.YtmdndoghdbhipaaAbM3
set_option linter.unusedVariables false
set_option linter.unusedSimpArgs false
set_option linter.unusedSectionVars false
namespace Go.Ab
open Go

theorem filter_ne_len {α : Type} [DecidableEq α] {l : List α} (hl : l.Nodup) (a : α) : l.length ≤ (l.filter (fun b => decide (b ≠ a))).length + 1 := by
  induction l with
  | nil => simp
  | cons b l ih =>
    rw [List.nodup_cons] at hl
    have := ih hl.2
    by_cases hb : b = a
    · have hf : l.filter (fun b => decide (b ≠ a)) = l := by
        rw [List.filter_eq_self]
        intro c hc
        simp
        rintro rfl
        exact hl.1 (hb ▸ hc)
      rw [List.filter_cons, if_neg (by simp [hb]), hf]
      simp
    · rw [List.filter_cons, if_pos (by simp [hb])]
      simp only [List.length_cons]
      omega
/-- Drawers. -/
theorem drawers {l : List Int} (hl : l.Nodup) {n : Nat} (h : ∀ x ∈ l, 0 ≤ x ∧ x < n) : l.length ≤ n := by
  induction n generalizing l with
  | zero =>
    cases l with
    | nil => simp
    | cons a l => have := h a (by simp); omega
  | succ n ih =>
    have h1 := filter_ne_len hl (n : Int)
    have h2 : (l.filter (fun b => decide (b ≠ (n : Int)))).length ≤ n := by
      refine ih (hl.filter _) (fun x hx => ?_)
      rw [List.mem_filter] at hx
      have := h x hx.1
      have : x ≠ n := by simpa using hx.2
      omega
    omega
theorem nodup_map {f : Nat → Int} {m : Nat} (h : ∀ i j, i < m → j < m → f i = f j → i = j) : ((List.range m).map f).Nodup := by
  induction m with
  | zero => simp
  | succ m ih =>
    rw [List.range_succ, List.map_append, List.nodup_append]
    refine ⟨ih (fun i j a b => h i j (by omega) (by omega)), by simp, ?_⟩
    intro a ha b hb hab
    simp only [List.mem_map, List.mem_range] at ha
    obtain ⟨i, hi, rfl⟩ := ha
    simp only [List.map_cons, List.map_nil, List.mem_singleton] at hb
    have := h i m (by omega) (by omega) (by rw [hab, hb])
    omega
theorem meet {f : Nat → Int} {n : Nat} (h : ∀ i, i ≤ n → 0 ≤ f i ∧ f i < n) : ∃ i j, i < j ∧ j ≤ n ∧ f i = f j := by
  refine Classical.byContradiction fun hn => ?_
  have hd := drawers (l := (List.range (n + 1)).map f) (n := n) (nodup_map (fun i j a b e => ?_)) ?_
  · simp at hd
    omega
  · refine Classical.byContradiction fun hne => ?_
    rcases Nat.lt_or_gt_of_ne hne with hlt | hlt
    · exact hn ⟨i, j, hlt, by omega, e⟩
    · exact hn ⟨j, i, hlt, by omega, e.symm⟩
  · intro x hx
    simp only [List.mem_map, List.mem_range] at hx
    obtain ⟨i, hi, rfl⟩ := hx
    exact h i (by omega)
theorem least {P : Nat → Prop} (h : ∃ n, P n) : ∃ n, P n ∧ ∀ m, m < n → ¬ P m := by
  obtain ⟨n, hn⟩ := h
  induction n using Nat.strongRecOn with
  | _ n ih =>
    by_cases hm : ∃ m, m < n ∧ P m
    · obtain ⟨m, h1, h2⟩ := hm
      exact ih m h1 h2
    · exact ⟨n, hn, fun m h1 h2 => hm ⟨m, h1, h2⟩⟩

/-! ### Powers: pw t x k is x with the exponent k + 1 -/
def pw (t : List (List Int)) (x : Int) : Nat → Int
  | 0 => x
  | k + 1 => M t (pw t x k) x
section
variable {t : List (List Int)} (hv : Va t) {x : Int} (h0 : 0 ≤ x) (h1 : x < (t.length : Int))
include hv h0 h1
theorem pw_in (k : Nat) : 0 ≤ pw t x k ∧ pw t x k < (t.length : Int) := by
  induction k with
  | zero => exact ⟨h0, h1⟩
  | succ k ih => exact ⟨hv.lo _ _ ih.1 ih.2 h0 h1, hv.hi _ _ ih.1 ih.2 h0 h1⟩
theorem pw_mul (i j : Nat) : M t (pw t x i) (pw t x j) = pw t x (i + j + 1) := by
  have hi := pw_in hv h0 h1 i
  induction j with
  | zero => rfl
  | succ j ih =>
    have hj := pw_in hv h0 h1 j
    show M t (pw t x i) (M t (pw t x j) x) = M t (pw t x (i + (j + 1))) x
    rw [← hv.asc _ _ _ hi.1 hi.2 hj.1 hj.2 h0 h1, ih]
    rfl
theorem pw_shift {i j : Nat} (h : pw t x i = pw t x j) (k : Nat) : pw t x (i + k) = pw t x (j + k) := by
  induction k with
  | zero => exact h
  | succ k ih =>
    show M t (pw t x (i + k)) x = M t (pw t x (j + k)) x
    rw [ih]
/-- a: one less than the index; N: how many powers there are. -/
theorem cyc_exists : ∃ a N, a < N ∧ N ≤ t.length ∧ pw t x N = pw t x a ∧ ∀ i j, i < N → j < N → pw t x i = pw t x j → i = j := by
  obtain ⟨i, j, hij, hj, he⟩ := meet (f := pw t x) (n := t.length) (fun i _ => by simpa using pw_in hv h0 h1 i)
  obtain ⟨N, ⟨hN, a, ha, hNa⟩, hmin⟩ := least (P := fun j => j ≤ t.length ∧ ∃ i, i < j ∧ pw t x j = pw t x i) ⟨j, hj, i, hij, he.symm⟩
  refine ⟨a, N, ha, hN, hNa, fun i j hi hj he => ?_⟩
  refine Classical.byContradiction fun hne => ?_
  rcases Nat.lt_or_gt_of_ne hne with hlt | hlt
  · exact hmin j hj ⟨by omega, i, hlt, he.symm⟩
  · exact hmin i hi ⟨by omega, j, hlt, he⟩
end
/-- (a, N) are those of x. -/
structure Cyc (t : List (List Int)) (x : Int) (a N : Nat) : Prop where
  lt : a < N
  le : N ≤ t.length
  back : pw t x N = pw t x a
  inj : ∀ i j, i < N → j < N → pw t x i = pw t x j → i = j
section
variable {t : List (List Int)} {x : Int} {a N : Nat} (hv : Va t) (h0 : 0 ≤ x) (h1 : x < (t.length : Int)) (hc : Cyc t x a N)
include hv h0 h1 hc
theorem Cyc.step (i : Nat) (hi : a ≤ i) : pw t x (i + (N - a)) = pw t x i := by
  have := pw_shift hv h0 h1 hc.back (i - a)
  have hlt := hc.lt
  rw [show N + (i - a) = i + (N - a) by omega, show a + (i - a) = i by omega] at this
  exact this
theorem Cyc.steps (i k : Nat) (hi : a ≤ i) : pw t x (i + k * (N - a)) = pw t x i := by
  induction k with
  | zero => simp
  | succ k ih =>
    rw [show i + (k + 1) * (N - a) = i + k * (N - a) + (N - a) by rw [Nat.succ_mul]; omega, hc.step hv h0 h1 _ (by omega), ih]
theorem Cyc.eq_iff (i j : Nat) (hi : a ≤ i) (hj : a ≤ j) (h : pw t x i = pw t x j) : (i - a) % (N - a) = (j - a) % (N - a) := by
  have hlt := hc.lt
  have key : ∀ i, a ≤ i → pw t x i = pw t x (a + (i - a) % (N - a)) := by
    intro i hi
    have := hc.steps hv h0 h1 (a + (i - a) % (N - a)) ((i - a) / (N - a)) (by omega)
    rw [← this]
    congr 1
    have := Nat.mod_add_div (i - a) (N - a)
    rw [Nat.mul_comm] at this
    omega
  rw [key i hi, key j hj] at h
  have h2 := Nat.mod_lt (i - a) (show 0 < N - a by omega)
  have h3 := Nat.mod_lt (j - a) (show 0 < N - a by omega)
  have := hc.inj _ _ (by omega) (by omega) h
  omega
theorem Cyc.red (i : Nat) (hi : a ≤ i) : pw t x i = pw t x (a + (i - a) % (N - a)) := by
  have hlt := hc.lt
  have := hc.steps hv h0 h1 (a + (i - a) % (N - a)) ((i - a) / (N - a)) (by omega)
  rw [← this]
  congr 1
  have := Nat.mod_add_div (i - a) (N - a)
  rw [Nat.mul_comm] at this
  omega
/-- The power with exponent m, a multiple of the period that is at least the index, is idempotent. -/
theorem Cyc.idem (m k : Nat) (hm : m = k * (N - a)) (ha : a + 1 ≤ m) : M t (pw t x (m - 1)) (pw t x (m - 1)) = pw t x (m - 1) := by
  rw [pw_mul hv h0 h1, show m - 1 + (m - 1) + 1 = (m - 1) + k * (N - a) by omega]
  exact hc.steps hv h0 h1 _ k (by omega)
theorem Cyc.idem_only (i : Nat) (h : M t (pw t x i) (pw t x i) = pw t x i) : a ≤ i ∧ (i + 1) % (N - a) = 0 := by
  have hlt := hc.lt
  rw [pw_mul hv h0 h1] at h
  have ha : a ≤ i := by
    refine Classical.byContradiction fun hn => ?_
    by_cases h2 : i + i + 1 < N
    · have := hc.inj _ _ h2 (by omega) h
      omega
    · rw [hc.red hv h0 h1 (i + i + 1) (by omega)] at h
      have := hc.inj _ _ (by have := Nat.mod_lt (i + i + 1 - a) (show 0 < N - a by omega); omega) (by omega) h
      omega
  refine ⟨ha, ?_⟩
  have := hc.eq_iff hv h0 h1 _ _ (by omega) ha h
  have e : i + i + 1 - a = (i - a) + (i + 1) := by omega
  rw [e, Nat.add_mod] at this
  have h3 := Nat.mod_lt (i - a) (show 0 < N - a by omega)
  have h4 := Nat.mod_lt (i + 1) (show 0 < N - a by omega)
  have h5 := Nat.div_add_mod ((i - a) % (N - a) + (i + 1) % (N - a)) (N - a)
  rw [this] at h5
  by_cases hq : ((i - a) % (N - a) + (i + 1) % (N - a)) / (N - a) = 0
  · rw [hq] at h5; omega
  · have h6 : (N - a) * 1 ≤ (N - a) * (((i - a) % (N - a) + (i + 1) % (N - a)) / (N - a)) := Nat.mul_le_mul_left _ (Nat.pos_of_ne_zero hq)
    omega
end
theorem Cyc.unique {t : List (List Int)} {x : Int} {a N b K : Nat} (h : Cyc t x a N) (k : Cyc t x b K) : a = b ∧ N = K := by
  have hN : N = K := by
    refine Classical.byContradiction fun hne => ?_
    have h1 := h.lt
    have k1 := k.lt
    rcases Nat.lt_or_gt_of_ne hne with hlt | hlt
    · have := k.inj N a hlt (by omega) h.back; omega
    · have := h.inj K b hlt (by omega) k.back; omega
  subst hN
  refine ⟨?_, rfl⟩
  exact h.inj a b h.lt k.lt (h.back.symm.trans k.back)
theorem Va.cyc {t : List (List Int)} (hv : Va t) {x : Int} (h0 : 0 ≤ x) (h1 : x < (t.length : Int)) : ∃ a N, Cyc t x a N := by
  obtain ⟨a, N, c1, c2, c3, c4⟩ := cyc_exists hv h0 h1
  exact ⟨a, N, ⟨c1, c2, c3, c4⟩⟩
theorem exists_idem {t : List (List Int)} (hv : Va t) : ∃ x, 0 ≤ x ∧ x < (t.length : Int) ∧ M t x x = x := by
  have hp := hv.pos
  obtain ⟨a, N, hc⟩ := hv.cyc (x := 0) (Int.le_refl _) hp
  have hlt := hc.lt
  refine ⟨pw t 0 ((a + 1) * (N - a) - 1), (pw_in hv (Int.le_refl _) hp _).1, (pw_in hv (Int.le_refl _) hp _).2, ?_⟩
  exact hc.idem hv (Int.le_refl _) hp _ (a + 1) rfl (Nat.le_mul_of_pos_right _ (by omega))
end Go.Ab
