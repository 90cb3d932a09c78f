/- Tables made by loops: a rule for filling, opposite, adjoined identity, direct product. Plain lemmas. No condition. -/
import Derived.Test.YtlhckcldeojfmaaKMultClosesLists
namespace Go.Proofs.Ytlhckcldeojfmaa.B
open Go.RowKit Go.Proofs.YtlhckcldeojfmaaW.PrintWords
set_option linter.unusedVariables false
set_option linter.unusedSimpArgs false
/-- The table of f. -/
def tab (n : Nat) (f : Int → Int → Int) : List (List Int) := (List.range n).map fun x : Nat => (List.range n).map fun y : Nat => f x y
theorem tab_len (n : Nat) (f : Int → Int → Int) : (tab n f).length = n := by simp [tab]
theorem tab_R {n : Nat} {f : Int → Int → Int} {x : Int} (h0 : 0 ≤ x) (h1 : x < n) : R (tab n f) x = (List.range n).map fun y : Nat => f x y := by
  unfold tab
  rw [R_map h0 h1, show ((x.toNat : Nat) : Int) = x by omega]
theorem tab_row {n : Nat} {f : Int → Int → Int} {x : Int} (h0 : 0 ≤ x) (h1 : x < n) : (R (tab n f) x).length = n := by rw [tab_R h0 h1]; simp
theorem tab_M {n : Nat} {f : Int → Int → Int} {x y : Int} (h0 : 0 ≤ x) (h1 : x < n) (h2 : 0 ≤ y) (h3 : y < n) : M (tab n f) x y = f x y := by
  show rd (R (tab n f) x) y = _
  rw [tab_R h0 h1, rd_map h2 h3, show ((y.toNat : Nat) : Int) = y by omega]
theorem tab_eq {n : Nat} {f : Int → Int → Int} {t : List (List Int)} (hl : t.length = n) (hr : ∀ x : Int, 0 ≤ x → x < n → (R t x).length = n) (h : ∀ x y : Int, 0 ≤ x → x < n → 0 ≤ y → y < n → M t x y = f x y) : t = tab n f := by
  refine M_ext (by rw [tab_len, hl]) (fun x h0 h1 => ?_) (fun x y h0 h1 h2 h3 => ?_)
  · rw [hr x h0 (by omega), tab_row h0 (by omega)]
  · have := hr x h0 (by omega)
    rw [h x y h0 (by omega) h2 (by omega), tab_M h0 (by omega) h2 (by omega)]
theorem tab_sq {n : Nat} {f : Int → Int → Int} (h0 : 0 < n) (h1 : n ≤ 400) (h : ∀ x y : Int, 0 ≤ x → x < n → 0 ≤ y → y < n → 0 ≤ f x y ∧ f x y < n) : Sq (tab n f) := by
  have hl := tab_len n f
  refine ⟨by omega, by omega, fun x a b => ?_, fun x y a b c d => ?_, fun x y a b c d => ?_⟩
  · have := tab_row (f := f) a (n := n) (by omega); omega
  · rw [tab_M a (by omega) c (by omega)]; exact (h x y a (by omega) c (by omega)).1
  · rw [tab_M a (by omega) c (by omega)]; have := (h x y a (by omega) c (by omega)).2; omega
theorem Sq.tab {t : List (List Int)} (hs : Sq t) : t = tab t.length (M t) := 
  tab_eq rfl (fun x a b => by have := hs.row x a b; omega) (fun _ _ _ _ _ _ => rfl)

section
variable {ρ : Type} {r : ρ}
/-- 'for x { (a row) ; for y { out[x][y] = f x y } }'. -/
theorem ev_fill (n : Nat) (f : Int → Int → Int) {g0 : Int → List (List Int) → Nat → Option ρ} {g1 : Int → Int → List (List Int) → Nat → Option ρ} (out0 : List (List Int)) (hl0 : out0.length = n)
    (row : ∀ (x : Int) (out : List (List Int)), 0 ≤ x → x < n → out.length = n → R out x = R out0 x → ∃ out', out'.length = n ∧ (∀ x' : Int, 0 ≤ x' → x' < n → x' ≠ x → R out' x' = R out x') ∧ (R out' x).length = n ∧ (Ev (g1 x 0 out') r → Ev (g0 x out) r))
    (step : ∀ (x y : Int) (out : List (List Int)), 0 ≤ x → x < n → 0 ≤ y → y < n → out.length = n → (R out x).length = n → Ev (g1 x (y + 1) (out.set x.toNat ((R out x).set y.toNat (f x y)))) r → Ev (g1 x y out) r)
    (next : ∀ (x : Int) (out : List (List Int)), 0 ≤ x → x < n → out.length = n → Ev (g0 (x + 1) out) r → Ev (g1 x n out) r)
    (hend : Ev (g0 n (tab n f)) r) : Ev (g0 0 out0) r := by
  refine ev_for (α := List (List Int)) (g := g0) n (fun x out => out.length = n ∧ (∀ x' : Int, 0 ≤ x' → x' < x → (R out x').length = n ∧ ∀ y : Int, 0 ≤ y → y < n → M out x' y = f x' y) ∧ ∀ x' : Int, x ≤ x' → x' < n → R out x' = R out0 x') ?_ ?_ 0 out0 (by omega) (by omega)
    ⟨hl0, fun x' a b => by omega, fun x' _ _ => rfl⟩
  · intro x out hx0 hx1 ⟨i1, i2, i3⟩
    obtain ⟨out', o1, o2, o3, o4⟩ := row x out hx0 hx1 i1 (i3 x (Int.le_refl _) hx1)
    -- the inner loop
    have inner : ∀ out2, out2.length = n → (∀ x' : Int, 0 ≤ x' → x' < n → x' ≠ x → R out2 x' = R out x') → (R out2 x).length = n → ∀ y : Int, 0 ≤ y → y ≤ n → (∀ y' : Int, 0 ≤ y' → y' < y → M out2 x y' = f x y') →
        (∀ out3, (out3.length = n ∧ (∀ x' : Int, 0 ≤ x' → x' < x + 1 → (R out3 x').length = n ∧ ∀ y : Int, 0 ≤ y → y < n → M out3 x' y = f x' y) ∧ ∀ x' : Int, x + 1 ≤ x' → x' < n → R out3 x' = R out0 x') → Ev (g0 (x + 1) out3) r) → Ev (g1 x y out2) r := by
      intro out2 p1 p2 p3 y hy0 hy1 hy hc
      refine ev_for (α := List (List Int)) (g := fun y out => g1 x y out) n (fun y out2 => out2.length = n ∧ (∀ x' : Int, 0 ≤ x' → x' < n → x' ≠ x → R out2 x' = R out x') ∧ (R out2 x).length = n ∧ ∀ y' : Int, 0 ≤ y' → y' < y → M out2 x y' = f x y') ?_ ?_ y out2 hy0 hy1 ⟨p1, p2, p3, hy⟩
      · intro y o hy0 hy1 ⟨q1, q2, q3, q4⟩
        right
        refine ⟨_, ⟨by simpa using q1, fun x' a b c => ?_, ?_, fun y' a b => ?_⟩, step x y o hx0 hx1 hy0 hy1 q1 q3⟩
        · rw [R_set hx0 (by omega) a, if_neg c]; exact q2 x' a b c
        · rw [R_set hx0 (by omega) hx0, if_pos rfl]; simpa using q3
        · show rd (R _ x) y' = _
          rw [R_set hx0 (by omega) hx0, if_pos rfl, rd_set hy0 (by omega) a]
          by_cases hyy : y' = y
          · rw [if_pos hyy, hyy]
          · rw [if_neg hyy]; exact q4 y' a (by omega)
      · intro o ⟨q1, q2, q3, q4⟩
        refine next x o hx0 hx1 q1 (hc o ⟨q1, fun x' a b => ?_, fun x' a b => ?_⟩)
        · by_cases hxx : x' = x
          · rw [hxx]; exact ⟨q3, q4⟩
          · have hR := q2 x' a (by omega) hxx
            have := i2 x' a (by omega)
            unfold M
            rw [hR]
            exact this
        · rw [q2 x' (by omega) b (by omega)]; exact i3 x' (by omega) b
    refine Classical.byContradiction fun hno => hno (.inl (o4 (inner out' o1 o2 o3 0 (Int.le_refl _) (by omega) (fun y' a b => by omega) fun out3 h3 => Classical.byContradiction fun hn => hno (.inr ⟨out3, h3, fun H => absurd H hn⟩))))
  · intro out ⟨i1, i2, i3⟩
    rw [tab_eq (n := n) (f := f) i1 (fun x a b => (i2 x a b).1) (fun x y a b c d => (i2 x a b).2 y c d)]
    exact hend
end

/-! ### Opposite, adjoined identity, direct product -/
def opp (t : List (List Int)) : List (List Int) := tab t.length fun x y => M t y x
def adj (t : List (List Int)) : List (List Int) := tab (t.length + 1) fun x y => if x = (t.length : Int) then y else if y = (t.length : Int) then x else M t x y
def dir (t u : List (List Int)) : List (List Int) := tab (t.length * u.length) fun x y => M t (x / (u.length : Int)) (y / (u.length : Int)) * (u.length : Int) + M u (x % (u.length : Int)) (y % (u.length : Int))
end Go.Proofs.Ytlhckcldeojfmaa.B
