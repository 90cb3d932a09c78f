/- A small calculus for functions with rounds, and tables of elements: plain lemmas. No condition. -/
import Derived.Test.YtlhckcldeojfmaaKMultNeedsWWords
namespace Go.Proofs.Ytlhckcldeojfmaa.B
open Go.RowKit Go.Proofs.YtlhckcldeojfmaaW.PrintWords
set_option linter.unusedVariables false
set_option linter.unusedSimpArgs false

/-! ### Rounds -/
section
variable {α ρ : Type} {g h : Nat → Option ρ} {r : ρ}
theorem ev_succ (H : Ev (fun k => g (k + 1)) r) : Ev g r := Ev.step (fun _ => rfl) H
theorem ev_some {a : ρ} (H : a = r) : Ev (fun _ => some a) r := H ▸ Ev.now a
theorem ev_call {g : Nat → Option α} {f : Nat → α → Option ρ} {a : α} (H : Ev g a) (K : Ev (fun k => f k a) r) : Ev (fun k => (g k).bind (f k)) r := Ev.bind H K
theorem ev_get {g : Nat → Option ρ} (H : Ev g r) : ∃ k, g k = some r := H.rounds
theorem ev_of {g : Nat → Option ρ} (hg : ∀ k, LeO (g k) (g (k + 1))) {k : Nat} (H : g k = some r) : Ev g r := Ev.of hg H
theorem ev_pos {c : Prop} [Decidable c] (hc : c) (H : Ev g r) : Ev (fun k => if c then g k else h k) r := by simpa only [if_pos hc] using H
theorem ev_neg {c : Prop} [Decidable c] (hc : ¬ c) (H : Ev h r) : Ev (fun k => if c then g k else h k) r := by simpa only [if_neg hc] using H
theorem ev_ite {c : Prop} [Decidable c] (H1 : c → Ev g r) (H2 : ¬ c → Ev h r) : Ev (fun k => if c then g k else h k) r := by
  by_cases hc : c
  · exact ev_pos hc (H1 hc)
  · exact ev_neg hc (H2 hc)
/-- A loop over i, i + 1, .., n - 1 with a state. -/
theorem ev_for {g : Int → α → Nat → Option ρ} {r : ρ} (n : Int) (inv : Int → α → Prop)
    (hs : ∀ i a, 0 ≤ i → i < n → inv i a → Ev (g i a) r ∨ ∃ a', inv (i + 1) a' ∧ (Ev (g (i + 1) a') r → Ev (g i a) r))
    (hend : ∀ a, inv n a → Ev (g n a) r) (i : Int) (a : α) (h0 : 0 ≤ i) (h1 : i ≤ n) (hi : inv i a) : Ev (g i a) r := by
  have key : ∀ (m : Nat) (i : Int) (a : α), 0 ≤ i → i ≤ n → (n - i).toNat = m → inv i a → Ev (g i a) r := by
    intro m
    induction m with
    | zero =>
      intro i a h0 h1 hm hi
      have : i = n := by omega
      subst this
      exact hend a hi
    | succ m ih =>
      intro i a h0 h1 hm hi
      rcases hs i a h0 (by omega) hi with H | ⟨a', hi', H⟩
      · exact H
      · exact H (ih (i + 1) a' (by omega) (by omega) (by omega) hi')
  exact key _ i a h0 h1 rfl hi
/-- .. without a state. -/
theorem ev_for0 {g : Int → Nat → Option ρ} {r : ρ} (n : Int) (inv : Int → Prop)
    (hs : ∀ i, 0 ≤ i → i < n → inv i → Ev (g i) r ∨ (inv (i + 1) ∧ (Ev (g (i + 1)) r → Ev (g i) r)))
    (hend : inv n → Ev (g n) r) (i : Int) (h0 : 0 ≤ i) (h1 : i ≤ n) (hi : inv i) : Ev (g i) r :=
  ev_for (α := Unit) (g := fun i _ => g i) n (fun i _ => inv i) (fun i a h0 h1 hi => (hs i h0 h1 hi).elim .inl (fun h => .inr ⟨(), h⟩)) (fun _ => hend) i () h0 h1 hi
/-- The first answer among f i, f (i + 1), .., m of them. -/
def fnd (f : Int → Option α) : Int → Nat → Option α
  | _, 0 => none
  | i, m + 1 => match f i with
    | some a => some a
    | none => fnd f (i + 1) m
theorem ev_fnd {g : Int → Nat → Option ρ} {f : Int → Option α} {ret : α → ρ} {r0 : ρ} (n : Int)
    (hs : ∀ i r', 0 ≤ i → i < n → Ev (g (i + 1)) r' → Ev (g i) ((f i).elim r' ret)) (hend : Ev (g n) r0) (i : Int) (m : Nat) (h0 : 0 ≤ i) (h1 : i + m = n) : Ev (g i) ((fnd f i m).elim r0 ret) := by
  induction m generalizing i with
  | zero =>
    have : i = n := by omega
    subst this
    exact hend
  | succ m ih =>
    have H := hs i _ h0 (by omega) (ih (i + 1) (by omega) (by omega))
    unfold fnd
    cases hf : f i with
    | some a => simpa [hf] using H
    | none => simpa [hf] using H
theorem fnd_some {f : Int → Option α} {a : α} {i : Int} {m : Nat} (h : fnd f i m = some a) : ∃ j, i ≤ j ∧ j < i + m ∧ f j = some a ∧ ∀ j', i ≤ j' → j' < j → f j' = none := by
  induction m generalizing i with
  | zero => simp [fnd] at h
  | succ m ih =>
    unfold fnd at h
    cases hf : f i with
    | some b =>
      rw [hf] at h
      exact ⟨i, by omega, by omega, by rw [hf]; exact h, fun j' h1 h2 => by omega⟩
    | none =>
      rw [hf] at h
      obtain ⟨j, h1, h2, h3, h4⟩ := ih h
      refine ⟨j, by omega, by omega, h3, fun j' a b => ?_⟩
      by_cases hj : j' = i
      · rw [hj]; exact hf
      · exact h4 j' (by omega) b
theorem fnd_none {f : Int → Option α} {i : Int} {m : Nat} : fnd f i m = none ↔ ∀ j, i ≤ j → j < i + m → f j = none := by
  constructor
  · intro h
    induction m generalizing i with
    | zero => intro j h1 h2; omega
    | succ m ih =>
      unfold fnd at h
      cases hf : f i with
      | some b => rw [hf] at h; cases h
      | none =>
        rw [hf] at h
        intro j h1 h2
        by_cases hj : j = i
        · rw [hj]; exact hf
        · exact ih h j (by omega) (by omega)
  · intro h
    cases e : fnd f i m with
    | none => rfl
    | some a =>
      obtain ⟨j, h1, h2, h3, _⟩ := fnd_some e
      rw [h j h1 h2] at h3; cases h3
end

theorem wrap_add {i n : Int} (h0 : 0 ≤ i) (h1 : i < n) (hn : n ≤ 9223372036854775807) : wrap64 (i + 1) = i + 1 := by unfold wrap64; omega
theorem wrap_in {i : Int} (h0 : -9223372036854775808 ≤ i) (h1 : i ≤ 9223372036854775807) : wrap64 i = i := by unfold wrap64; omega

/-! ### Tables -/
/-- Row x. -/
def R (t : List (List Int)) (x : Int) : List Int := t.getD x.toNat []
/-- The product of x and y. -/
def M (t : List (List Int)) (x y : Int) : Int := rd (R t x) y

/-- A table as it comes in. -/
abbrev In2 (t : List (List Int)) : Prop := t.length ≤ 9223372036854775807 ∧ ∀ v ∈ t, v.length ≤ 9223372036854775807 ∧ ∀ u ∈ v, (Lit.int .i64 u).wf = true
abbrev In1 (l : List Int) : Prop := l.length ≤ 9223372036854775807 ∧ ∀ v ∈ l, (Lit.int .i64 v).wf = true

theorem R_mem {t : List (List Int)} {x : Int} (h0 : 0 ≤ x) (h1 : x < (t.length : Int)) : R t x ∈ t := by
  unfold R
  rw [List.getD_eq_getElem?_getD, List.getElem?_eq_getElem (by omega), Option.getD_some]
  exact List.getElem_mem _
theorem rd_mem {l : List Int} {x : Int} (h0 : 0 ≤ x) (h1 : x < (l.length : Int)) : rd l x ∈ l := by
  unfold rd
  rw [List.getD_eq_getElem?_getD, List.getElem?_eq_getElem (by omega), Option.getD_some]
  exact List.getElem_mem _
theorem In2.row {t : List (List Int)} (h : In2 t) {x : Int} (h0 : 0 ≤ x) (h1 : x < (t.length : Int)) : (R t x).length ≤ 9223372036854775807 := (h.2 _ (R_mem h0 h1)).1

/-- Square, with elements alone. -/
structure Sq (t : List (List Int)) : Prop where
  pos : 0 < (t.length : Int)
  le : (t.length : Int) ≤ 400
  row : ∀ x, 0 ≤ x → x < (t.length : Int) → ((R t x).length : Int) = (t.length : Int)
  lo : ∀ x y, 0 ≤ x → x < (t.length : Int) → 0 ≤ y → y < (t.length : Int) → 0 ≤ M t x y
  hi : ∀ x y, 0 ≤ x → x < (t.length : Int) → 0 ≤ y → y < (t.length : Int) → M t x y < (t.length : Int)

/-- What Shape answers. -/
def Bad (t : List (List Int)) : Prop := ∃ x, 0 ≤ x ∧ x < (t.length : Int) ∧ (((R t x).length : Int) ≠ (t.length : Int) ∨ ∃ y, 0 ≤ y ∧ y < ((R t x).length : Int) ∧ (M t x y < 0 ∨ (t.length : Int) ≤ M t x y))
open Classical in
noncomputable def shp (t : List (List Int)) : Int := if (t.length : Int) > 400 then 3 else if (t.length : Int) = 0 then 4 else if Bad t then 4 else 0
theorem shp_sq {t : List (List Int)} : shp t = 0 ↔ Sq t := by
  unfold shp
  constructor
  · intro h
    split at h
    · omega
    split at h
    · omega
    split at h
    · omega
    rename_i h1 h2 h3
    have hr : ∀ x, 0 ≤ x → x < (t.length : Int) → ((R t x).length : Int) = (t.length : Int) := fun x h0 hx => Classical.byContradiction fun hn => h3 ⟨x, h0, hx, .inl hn⟩
    refine ⟨by omega, by omega, hr, fun x y a b c d => ?_, fun x y a b c d => ?_⟩
    · have := hr x a b
      exact Classical.byContradiction fun hn => h3 ⟨x, a, b, .inr ⟨y, c, by omega, .inl (by omega)⟩⟩
    · have := hr x a b
      exact Classical.byContradiction fun hn => h3 ⟨x, a, b, .inr ⟨y, c, by omega, .inr (by omega)⟩⟩
  · intro h
    have := h.pos
    have := h.le
    rw [if_neg (by omega), if_neg (by omega), if_neg]
    rintro ⟨x, h0, h1, hb | ⟨y, h2, h3, hb⟩⟩
    · exact hb (h.row x h0 h1)
    · have := h.row x h0 h1
      have := h.lo x y h0 h1 h2 (by omega)
      have := h.hi x y h0 h1 h2 (by omega)
      omega
/-- Associative, as far as elements go. -/
def Asc (t : List (List Int)) : Prop := ∀ x y z, 0 ≤ x → x < (t.length : Int) → 0 ≤ y → y < (t.length : Int) → 0 ≤ z → z < (t.length : Int) → M t (M t x y) z = M t x (M t y z)
/-- The least triple that is not associative. -/
def tri (t : List (List Int)) : Option (Int × Int × Int) :=
  fnd (fun x => fnd (fun y => fnd (fun z => if M t (M t x y) z = M t x (M t y z) then none else some (x, y, z)) 0 t.length) 0 t.length) 0 t.length
theorem tri_none {t : List (List Int)} : tri t = none ↔ Asc t := by
  unfold tri Asc
  simp only [fnd_none]
  constructor
  · intro h x y z a b c d e f
    have := h x a (by omega) y c (by omega) z e (by omega)
    split at this
    · assumption
    · cases this
  · intro h x a b y c d z e f
    rw [if_pos (h x y z a (by omega) c (by omega) e (by omega))]
/-- What Validate answers. -/
noncomputable def val (t : List (List Int)) : Int := if shp t = 0 then (if tri t = none then 0 else 5) else shp t
/-- Valid. -/
structure Va (t : List (List Int)) : Prop extends Sq t where
  asc : Asc t
theorem val_va {t : List (List Int)} : val t = 0 ↔ Va t := by
  unfold val
  constructor
  · intro h
    split at h
    · rename_i h1
      split at h
      · rename_i h2
        exact ⟨shp_sq.1 h1, tri_none.1 h2⟩
      · omega
    · rename_i h1
      exact absurd h h1
  · intro h
    rw [if_pos (shp_sq.2 h.toSq), if_pos (tri_none.2 h.asc)]
end Go.Proofs.Ytlhckcldeojfmaa.B
