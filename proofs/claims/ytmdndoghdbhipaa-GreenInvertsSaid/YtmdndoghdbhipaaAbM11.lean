/- Partitions in canonical form, and the classes of Green's relations as lists. Plain lemmas. No condition. -/
import Derived.Test.YtmdndoghdbhipaaAbM10
set_option linter.unusedVariables false
set_option linter.unusedSimpArgs false
set_option linter.unusedSectionVars false
namespace Go.Ab
open Go
/-- Classes are numbered in the order of their least points. -/
def Cano (p : List Int) : Prop := ∀ i : Int, 0 ≤ i → i < (p.length : Int) → 0 ≤ rd p i ∧ ∀ c : Int, 0 ≤ c → c < rd p i → ∃ j : Int, 0 ≤ j ∧ j < i ∧ rd p j = c
/-- The classes of E on n points, in canonical form. -/
structure IsCl (n : Nat) (E : Int → Int → Prop) (p : List Int) : Prop where
  len : p.length = n
  eqv : ∀ x y : Int, 0 ≤ x → x < n → 0 ≤ y → y < n → (rd p x = rd p y ↔ E x y)
  can : Cano p
theorem IsCl.unique {n : Nat} {E : Int → Int → Prop} {p q : List Int} (hp : IsCl n E p) (hq : IsCl n E q) : p = q := by
  have l1 := hp.len
  have l2 := hq.len
  have key : ∀ k : Nat, ∀ i : Int, 0 ≤ i → i < n → i < k → rd p i = rd q i := by
    intro k
    induction k with
    | zero => intro i a b c; omega
    | succ k ih =>
      intro i a b c
      have half : ∀ {p q : List Int}, IsCl n E p → IsCl n E q → (∀ j : Int, 0 ≤ j → j < i → rd p j = rd q j) → ¬ rd p i < rd q i := by
        intro p q hp hq h hlt
        have l1 := hp.len
        have l2 := hq.len
        obtain ⟨j, j0, j1, j2⟩ := (hq.can i a (by omega)).2 (rd p i) (hp.can i a (by omega)).1 hlt
        have e1 := h j j0 j1
        have e2 := (hp.eqv i j a b j0 (by omega)).1 (by omega)
        have e3 := (hq.eqv i j a b j0 (by omega)).2 e2
        omega
      have h1 : ∀ j : Int, 0 ≤ j → j < i → rd p j = rd q j := fun j x y => ih j x (by omega) (by omega)
      have := half hp hq h1
      have := half hq hp (fun j x y => (h1 j x y).symm)
      omega
  exact rd_ext (by omega) fun j a b => key n j a (by omega) (by omega)
theorem IsCl.congr {n : Nat} {E F : Int → Int → Prop} {p : List Int} (hp : IsCl n E p) (h : ∀ x y : Int, 0 ≤ x → x < n → 0 ≤ y → y < n → (E x y ↔ F x y)) : IsCl n F p :=
  ⟨hp.len, fun x y a b c d => (hp.eqv x y a b c d).trans (h x y a b c d), hp.can⟩
theorem Cano.lt {p : List Int} (h : Cano p) {i : Int} (i0 : 0 ≤ i) (i1 : i < (p.length : Int)) : 0 ≤ rd p i ∧ rd p i ≤ i := by
  have key : ∀ k : Nat, ∀ i : Int, 0 ≤ i → i < (p.length : Int) → i < k → rd p i ≤ i := by
    intro k
    induction k with
    | zero => intro i a b c; omega
    | succ k ih =>
      intro i a b c
      refine Classical.byContradiction fun hn => ?_
      obtain ⟨j, j0, j1, j2⟩ := (h i a b).2 i a (by omega)
      have := ih j j0 (by omega) (by omega)
      omega
  exact ⟨(h i i0 i1).1, key p.length i i0 i1 i1⟩
/-- x is the least point of its class. -/
def Fst (p : List Int) (x : Int) : Prop := ∀ y : Int, 0 ≤ y → y < x → rd p y ≠ rd p x
/-- The least points of the classes. -/
noncomputable def frs (p : List Int) : List Int := sel (Fst p) 0 p.length
theorem Cano.seen {p : List Int} (h : Cano p) : ∀ k : Nat, k ≤ p.length → (∀ j : Int, 0 ≤ j → j < k → rd p j < ((sel (Fst p) 0 k).length : Int)) ∧ (∀ c : Int, 0 ≤ c → c < ((sel (Fst p) 0 k).length : Int) → ∃ j : Int, 0 ≤ j ∧ j < k ∧ rd p j = c ∧ Fst p j ∧ rd (sel (Fst p) 0 k) c = j) := by
  intro k
  induction k with
  | zero => intro _; exact ⟨fun j a b => by omega, fun c a b => by simp [sel] at b; omega⟩
  | succ k ih =>
    intro hk
    obtain ⟨h1, h2⟩ := ih (by omega)
    obtain ⟨c1, c2⟩ := h k (by omega) (by omega)
    by_cases hf : Fst p (k : Int)
    · have e : sel (Fst p) 0 (k + 1) = sel (Fst p) 0 k ++ [(k : Int)] := by
        have := sel_snoc (P := Fst p) (i := (k : Int)) (by omega) hf
        rw [show ((k : Int) + 1).toNat = k + 1 by omega, show ((k : Int)).toNat = k by omega] at this
        exact this.symm
      have hv : rd p k = ((sel (Fst p) 0 k).length : Int) := by
        have a1 : ¬ rd p k < ((sel (Fst p) 0 k).length : Int) := fun hlt => by
          obtain ⟨j, a, b, c, _⟩ := h2 _ c1 hlt
          exact hf j a b c
        have a2 : ¬ ((sel (Fst p) 0 k).length : Int) < rd p k := fun hlt => by
          obtain ⟨j, a, b, c⟩ := c2 _ (by omega) hlt
          have := h1 j a b
          omega
        omega
      rw [e]
      simp only [List.length_append, List.length_singleton]
      refine ⟨fun j a b => ?_, fun c a b => ?_⟩
      · by_cases hj : j = k
        · rw [hj]; omega
        · have := h1 j a (by omega); omega
      · by_cases hc : c < ((sel (Fst p) 0 k).length : Int)
        · obtain ⟨j, x, y, z, w, v⟩ := h2 c a hc
          exact ⟨j, x, by omega, z, w, by rw [rd_snoc a (by omega), if_neg (by omega)]; exact v⟩
        · exact ⟨k, by omega, by omega, by omega, hf, by rw [rd_snoc a (by omega), if_pos (by omega)]⟩
    · have e : sel (Fst p) 0 (k + 1) = sel (Fst p) 0 k := by
        have := sel_skip (P := Fst p) (i := (k : Int)) (by omega) hf
        rw [show ((k : Int) + 1).toNat = k + 1 by omega, show ((k : Int)).toNat = k by omega] at this
        exact this.symm
      rw [e]
      refine ⟨fun j a b => ?_, fun c a b => ?_⟩
      · by_cases hj : j = k
        · have hex : ∃ y : Int, 0 ≤ y ∧ y < (k : Int) ∧ rd p y = rd p k := Classical.byContradiction fun hn => hf fun y y0 y1 hy => hn ⟨y, y0, y1, hy⟩
          obtain ⟨y, y0, y1, hy⟩ := hex
          have := h1 y y0 y1
          rw [hj]; omega
        · exact h1 j a (by omega)
      · obtain ⟨j, x, y, z, w, v⟩ := h2 c a b
        exact ⟨j, x, by omega, z, w, v⟩
/-- A class is new exactly if its number is how many there were. -/
theorem Cano.new {p : List Int} (h : Cano p) {i : Int} (i0 : 0 ≤ i) (i1 : i < (p.length : Int)) : rd p i = ((sel (Fst p) 0 i.toNat).length : Int) ↔ Fst p i := by
  obtain ⟨h1, h2⟩ := h.seen i.toNat (by omega)
  obtain ⟨c1, c2⟩ := h i i0 i1
  constructor
  · intro e y y0 y1 hy
    have := h1 y y0 (by omega)
    omega
  · intro hf
    have a1 : ¬ rd p i < ((sel (Fst p) 0 i.toNat).length : Int) := fun hlt => by
      obtain ⟨j, a, b, c, _⟩ := h2 _ c1 hlt
      exact hf j a (by omega) c
    have a2 : ¬ ((sel (Fst p) 0 i.toNat).length : Int) < rd p i := fun hlt => by
      obtain ⟨j, a, b, c⟩ := c2 _ (by omega) hlt
      have := h1 j a (by omega)
      omega
    omega
theorem frs_len (p : List Int) : (frs p).length ≤ p.length := sel_len
theorem Cano.frs {p : List Int} (h : Cano p) {c : Int} (c0 : 0 ≤ c) (c1 : c < ((frs p).length : Int)) : 0 ≤ rd (frs p) c ∧ rd (frs p) c < (p.length : Int) ∧ rd p (rd (frs p) c) = c ∧ Fst p (rd (frs p) c) := by
  obtain ⟨j, a, b, d, e, f⟩ := (h.seen p.length (Nat.le_refl _)).2 c c0 c1
  have : rd (Go.Ab.frs p) c = j := f
  rw [this]; exact ⟨a, b, d, e⟩
theorem Cano.frs_lt {p : List Int} (h : Cano p) {i : Int} (i0 : 0 ≤ i) (i1 : i < (p.length : Int)) : rd p i < ((Go.Ab.frs p).length : Int) := (h.seen p.length (Nat.le_refl _)).1 i i0 i1
theorem Cano.frs_le {p : List Int} (h : Cano p) {i : Int} (i0 : 0 ≤ i) (i1 : i < (p.length : Int)) : rd (Go.Ab.frs p) (rd p i) ≤ i := by
  obtain ⟨a, b, c, d⟩ := h.frs (h i i0 i1).1 (h.frs_lt i0 i1)
  exact Classical.byContradiction fun hn => d i i0 (by omega) (by omega)
/-- How many classes: one more than the greatest number. -/
theorem Cano.count {p : List Int} (h : Cano p) (hp : 0 < (p.length : Int)) : 0 < ((Go.Ab.frs p).length : Int) ∧ ∃ i : Int, 0 ≤ i ∧ i < (p.length : Int) ∧ rd p i = ((Go.Ab.frs p).length : Int) - 1 := by
  have h0 := h.frs_lt (Int.le_refl 0) hp
  have := (h 0 (by omega) hp).1
  obtain ⟨a, b, c, d⟩ := h.frs (c := ((Go.Ab.frs p).length : Int) - 1) (by omega) (by omega)
  exact ⟨by omega, _, a, b, c⟩
/-- The members of class c, ascending. -/
noncomputable def mem (p : List Int) (c : Int) : List Int := sel (fun x => rd p x = c) 0 p.length
theorem mem_mem {p : List Int} {c x : Int} : x ∈ mem p c ↔ 0 ≤ x ∧ x < (p.length : Int) ∧ rd p x = c := by
  unfold mem; rw [sel_mem]; simp
/-- The least of those selected is the first. -/
theorem sel_head {P : Int → Prop} {i : Int} {m : Nat} {a : Int} (a0 : i ≤ a) (a1 : a < i + m) (ha : P a) (hf : ∀ y, i ≤ y → y < a → ¬ P y) : ∃ l, sel P i m = a :: l := by
  induction m generalizing i with
  | zero => omega
  | succ m ih =>
    rw [sel_succ]
    by_cases hi : P i
    · have : a = i := Classical.byContradiction fun hn => hf i (Int.le_refl _) (by omega) hi
      rw [if_pos hi, this]; exact ⟨_, rfl⟩
    · rw [if_neg hi]
      have : a ≠ i := fun e => hi (e ▸ ha)
      exact ih (by omega) (by omega) fun y y0 y1 => hf y (by omega) y1
theorem Cano.mem_head {p : List Int} (h : Cano p) {c : Int} (c0 : 0 ≤ c) (c1 : c < ((Go.Ab.frs p).length : Int)) : ∃ l, mem p c = rd (Go.Ab.frs p) c :: l := by
  obtain ⟨a, b, d, e⟩ := h.frs c0 c1
  exact sel_head a (by omega) d fun y y0 y1 hy => e y y0 y1 (by omega)
open Classical in
/-- A table of bools. -/
noncomputable def btab (n m : Nat) (P : Int → Int → Prop) : List (List Bool) := (List.range n).map fun y : Nat => (List.range m).map fun x : Nat => decide (P y x)
theorem btab_len (n m : Nat) (P : Int → Int → Prop) : (btab n m P).length = n := by simp [btab]
open Classical in
theorem btab_row {n m : Nat} {P : Int → Int → Prop} {y : Int} (y0 : 0 ≤ y) (y1 : y < n) : rdOf [] (btab n m P) y = (List.range m).map fun x : Nat => decide (P y x) := by
  unfold btab; rw [rdOf_map [] y0 y1, show ((y.toNat : Nat) : Int) = y by omega]
theorem btab_rlen {n m : Nat} {P : Int → Int → Prop} {y : Int} (y0 : 0 ≤ y) (y1 : y < n) : (rdOf [] (btab n m P) y).length = m := by rw [btab_row y0 y1]; simp
open Classical in
theorem btab_at {n m : Nat} {P : Int → Int → Prop} {x y : Int} (y0 : 0 ≤ y) (y1 : y < n) (x0 : 0 ≤ x) (x1 : x < m) : rdOf false (rdOf [] (btab n m P) y) x = decide (P y x) := by
  rw [btab_row y0 y1, rdOf_map false x0 x1, show ((x.toNat : Nat) : Int) = x by omega]
open Classical in
theorem btab_eq {n m : Nat} {P : Int → Int → Prop} {T : List (List Bool)} (hl : T.length = n) (hr : ∀ y : Int, 0 ≤ y → y < n → (rdOf [] T y).length = m ∧ ∀ x : Int, 0 ≤ x → x < m → (rdOf false (rdOf [] T y) x = true ↔ P y x)) : T = btab n m P := by
  refine rdOf_ext [] (by rw [btab_len]; exact hl) fun y y0 y1 => ?_
  have := hr y y0 (by omega)
  refine rdOf_ext false (by rw [btab_rlen y0 (by omega)]; exact this.1) fun x x0 x1 => ?_
  rw [btab_at y0 (by omega) x0 (by omega), Bool.eq_iff_iff, decide_eq_true_iff]
  exact this.2 x x0 (by omega)
open Classical in
theorem btab_congr {n m : Nat} {P Q : Int → Int → Prop} (h : ∀ y x : Int, 0 ≤ y → y < n → 0 ≤ x → x < m → (P y x ↔ Q y x)) : btab n m P = btab n m Q :=
  btab_eq (btab_len _ _ _) fun y y0 y1 => ⟨btab_rlen y0 y1, fun x x0 x1 => by rw [btab_at y0 y1 x0 x1, decide_eq_true_iff]; exact h y x y0 y1 x0 x1⟩
end Go.Ab
