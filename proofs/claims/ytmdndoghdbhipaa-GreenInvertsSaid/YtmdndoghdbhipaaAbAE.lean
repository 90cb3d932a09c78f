/- The calculus for what the evaluator says: one judgement, its steps, loops, reads. Plain lemmas. No condition. -/
import Derived.Test.YtmdndoghdbhipaaAbA1
import GoSem.Claim
set_option linter.unusedVariables false
set_option linter.unusedSimpArgs false
namespace Go.Ab
open Go

/-- What is asked: with k rounds, for any continuation. -/
abbrev Qn (A : Type) := (ρ : Type) → Nat → (A → AH → Option ρ) → Option ρ
/-- From some number of rounds on it is the continuation at one answer and memory, of which Q. -/
def Ev {A : Type} (F : Qn A) (Q : A → AH → Prop) : Prop := ∃ a H, Q a H ∧ ∃ k0, ∀ k, k0 ≤ k → ∀ (ρ : Type) (κ : A → AH → Option ρ), F ρ k κ = κ a H
/-- .. that answer and memory. -/
abbrev Is {A : Type} (a : A) (H : AH) : A → AH → Prop := fun b H' => b = a ∧ H' = H

section
variable {A B C : Type} {Q : A → AH → Prop} {F G H1 : Qn A} {H : AH}
theorem ev_eq (h : ∀ (ρ : Type) (k : Nat) (κ : A → AH → Option ρ), F ρ (k + 1) κ = G ρ k κ) (hG : Ev G Q) : Ev F Q := by
  obtain ⟨a, H, hq, k0, hk⟩ := hG
  refine ⟨a, H, hq, k0 + 1, fun k hle ρ κ => ?_⟩
  obtain ⟨k, rfl⟩ : ∃ j, k = j + 1 := ⟨k - 1, by omega⟩
  rw [h]; exact hk k (by omega) ρ κ
theorem ev_ret {a : A} (h : Q a H) : Ev (fun ρ k κ => κ a H) Q := ⟨a, H, h, 0, fun _ _ _ _ => rfl⟩
theorem ev_imp {Q' : A → AH → Prop} (h : Ev F Q) (hi : ∀ a H, Q a H → Q' a H) : Ev F Q' := by
  obtain ⟨a, H, hq, hk⟩ := h
  exact ⟨a, H, hi a H hq, hk⟩
/-- A call, or any other question that is asked on the way. -/
theorem ev_call {F' : Qn B} {Q' : B → AH → Prop} {K : (ρ : Type) → Nat → (A → AH → Option ρ) → B → AH → Option ρ} (h : Ev F' Q') (hK : ∀ b H', Q' b H' → Ev (fun ρ k κ => K ρ k κ b H') Q) : Ev (fun ρ k κ => F' ρ k (K ρ k κ)) Q := by
  obtain ⟨b, H', hq, k0, hk⟩ := h
  obtain ⟨a, H'', hq', k1, hk'⟩ := hK b H' hq
  refine ⟨a, H'', hq', max k0 k1, fun k hle ρ κ => ?_⟩
  show F' ρ k (K ρ k κ) = _
  rw [hk k (by omega)]; exact hk' k (by omega) ρ κ
theorem ev_is {F' : Qn B} {b : B} {H' : AH} {K : (ρ : Type) → Nat → (A → AH → Option ρ) → B → AH → Option ρ} (h : Ev F' (Is b H')) (hK : Ev (fun ρ k κ => K ρ k κ b H') Q) : Ev (fun ρ k κ => F' ρ k (K ρ k κ)) Q :=
  ev_call h fun b' H'' ⟨e1, e2⟩ => by subst e1; subst e2; exact hK
theorem ev_pos {c : Prop} [Decidable c] (hc : c) (h : Ev F Q) : Ev (fun ρ k κ => bif decide c then F ρ k κ else G ρ k κ) Q := by simpa only [decide_eq_true hc, cond_true] using h
theorem ev_neg {c : Prop} [Decidable c] (hc : ¬ c) (h : Ev G Q) : Ev (fun ρ k κ => bif decide c then F ρ k κ else G ρ k κ) Q := by simpa only [decide_eq_false hc, cond_false] using h
theorem ev_if {c : Prop} [Decidable c] (h1 : c → Ev F Q) (h2 : ¬ c → Ev G Q) : Ev (fun ρ k κ => bif decide c then F ρ k κ else G ρ k κ) Q := by
  by_cases hc : c
  · exact ev_pos hc (h1 hc)
  · exact ev_neg hc (h2 hc)
theorem ev_npos {c : Prop} [Decidable c] (hc : ¬ c) (h : Ev F Q) : Ev (fun ρ k κ => bif !decide c then F ρ k κ else G ρ k κ) Q := by simpa only [decide_eq_false hc, Bool.not_false, cond_true] using h
theorem ev_nneg {c : Prop} [Decidable c] (hc : c) (h : Ev G Q) : Ev (fun ρ k κ => bif !decide c then F ρ k κ else G ρ k κ) Q := by simpa only [decide_eq_true hc, Bool.not_true, cond_false] using h
theorem ev_nif {c : Prop} [Decidable c] (h1 : ¬ c → Ev F Q) (h2 : c → Ev G Q) : Ev (fun ρ k κ => bif !decide c then F ρ k κ else G ρ k κ) Q := by
  by_cases hc : c
  · exact ev_nneg hc (h2 hc)
  · exact ev_npos hc (h1 hc)
theorem ev_t {b : Bool} (hb : b = true) (h : Ev F Q) : Ev (fun ρ k κ => bif b then F ρ k κ else G ρ k κ) Q := by simpa only [hb, cond_true] using h
theorem ev_f {b : Bool} (hb : b = false) (h : Ev G Q) : Ev (fun ρ k κ => bif b then F ρ k κ else G ρ k κ) Q := by simpa only [hb, cond_false] using h
theorem ev_b {b : Bool} (h1 : b = true → Ev F Q) (h2 : b = false → Ev G Q) : Ev (fun ρ k κ => bif b then F ρ k κ else G ρ k κ) Q := by
  cases b with
  | true => exact ev_t rfl (h1 rfl)
  | false => exact ev_f rfl (h2 rfl)
theorem ev_nt {b : Bool} (hb : b = false) (h : Ev F Q) : Ev (fun ρ k κ => bif !b then F ρ k κ else G ρ k κ) Q := ev_t (by simp [hb]) h
theorem ev_nf {b : Bool} (hb : b = true) (h : Ev G Q) : Ev (fun ρ k κ => bif !b then F ρ k κ else G ρ k κ) Q := ev_f (by simp [hb]) h

/-- 'g and ..': what is behind it is asked only if g. -/
theorem ev_and {g : Bool} {M : Nat → CPS Bool} {S : Bool → AH → Prop} {K : (ρ : Type) → Nat → (A → AH → Option ρ) → Bool → AH → Option ρ} (h1 : g = true → Ev (fun ρ k κ => M k ρ κ) S) (h2 : g = false → S false H) (hK : ∀ b H', S b H' → Ev (fun ρ k κ => K ρ k κ b H') Q) :
    Ev (fun ρ k κ => andB g (M k) H (K ρ k κ)) Q := by
  cases g with
  | false =>
    obtain ⟨a, H'', hq', k1, hk'⟩ := hK false H (h2 rfl)
    exact ⟨a, H'', hq', k1, fun k hle ρ κ => by rw [← hk' k hle ρ κ]; rfl⟩
  | true =>
    obtain ⟨b, H', hq, k0, hk⟩ := h1 rfl
    obtain ⟨a, H'', hq', k1, hk'⟩ := hK b H' hq
    refine ⟨a, H'', hq', max k0 k1, fun k hle ρ κ => ?_⟩
    rw [← hk' k (by omega) ρ κ]
    have := hk k (by omega) (Bool × AH) (fun b H' => some (b, H'))
    simp only at this
    simp only [andB, cond_true, this, Option.bind_some]
theorem ev_or {g : Bool} {M : Nat → CPS Bool} {S : Bool → AH → Prop} {K : (ρ : Type) → Nat → (A → AH → Option ρ) → Bool → AH → Option ρ} (h1 : g = false → Ev (fun ρ k κ => M k ρ κ) S) (h2 : g = true → S true H) (hK : ∀ b H', S b H' → Ev (fun ρ k κ => K ρ k κ b H') Q) :
    Ev (fun ρ k κ => orB g (M k) H (K ρ k κ)) Q := by
  cases g with
  | true =>
    obtain ⟨a, H'', hq', k1, hk'⟩ := hK true H (h2 rfl)
    exact ⟨a, H'', hq', k1, fun k hle ρ κ => by rw [← hk' k hle ρ κ]; rfl⟩
  | false =>
    obtain ⟨b, H', hq, k0, hk⟩ := h1 rfl
    obtain ⟨a, H'', hq', k1, hk'⟩ := hK b H' hq
    refine ⟨a, H'', hq', max k0 k1, fun k hle ρ κ => ?_⟩
    rw [← hk' k (by omega) ρ κ]
    have := hk k (by omega) (Bool × AH) (fun b H' => some (b, H'))
    simp only at this
    simp only [orB, Bool.not_false, cond_true, this, Option.bind_some]
/-- .. where the memory is left, and the answer is known. -/
theorem ev_andI {g c : Bool} {M : Nat → CPS Bool} {K : (ρ : Type) → Nat → (A → AH → Option ρ) → Bool → AH → Option ρ} (h1 : g = true → Ev (fun ρ k κ => M k ρ κ) (Is c H)) (h2 : g = false → c = false) (hK : Ev (fun ρ k κ => K ρ k κ c H) Q) :
    Ev (fun ρ k κ => andB g (M k) H (K ρ k κ)) Q :=
  ev_and (S := Is c H) h1 (fun hg => ⟨(h2 hg).symm, rfl⟩) fun b H' ⟨e1, e2⟩ => by subst e1; subst e2; exact hK
theorem ev_orI {g c : Bool} {M : Nat → CPS Bool} {K : (ρ : Type) → Nat → (A → AH → Option ρ) → Bool → AH → Option ρ} (h1 : g = false → Ev (fun ρ k κ => M k ρ κ) (Is c H)) (h2 : g = true → c = true) (hK : Ev (fun ρ k κ => K ρ k κ c H) Q) :
    Ev (fun ρ k κ => orB g (M k) H (K ρ k κ)) Q :=
  ev_or (S := Is c H) h1 (fun hg => ⟨(h2 hg).symm, rfl⟩) fun b H' ⟨e1, e2⟩ => by subst e1; subst e2; exact hK
/-- .. where what is behind it leaves the memory, and says whether c. -/
theorem ev_andP {g c : Prop} [Decidable g] [Decidable c] {M : Nat → CPS Bool} {K : (ρ : Type) → Nat → (A → AH → Option ρ) → Bool → AH → Option ρ} (h : g → Ev (fun ρ k κ => M k ρ κ) (Is (decide c) H)) (hK : Ev (fun ρ k κ => K ρ k κ (decide (g ∧ c)) H) Q) :
    Ev (fun ρ k κ => andB (decide g) (M k) H (K ρ k κ)) Q := by
  refine ev_and (S := Is (decide (g ∧ c)) H) (fun hg => ?_) (fun hg => ?_) fun b H' ⟨e1, e2⟩ => by subst e1; subst e2; exact hK
  · have hg := of_decide_eq_true hg
    exact ev_imp (h hg) fun b H' ⟨e1, e2⟩ => ⟨by rw [e1]; simp [hg], e2⟩
  · have hg := of_decide_eq_false hg
    exact ⟨by simp [hg], rfl⟩
theorem ev_orP {g c : Prop} [Decidable g] [Decidable c] {M : Nat → CPS Bool} {K : (ρ : Type) → Nat → (A → AH → Option ρ) → Bool → AH → Option ρ} (h : ¬ g → Ev (fun ρ k κ => M k ρ κ) (Is (decide c) H)) (hK : Ev (fun ρ k κ => K ρ k κ (decide (g ∨ c)) H) Q) :
    Ev (fun ρ k κ => orB (decide g) (M k) H (K ρ k κ)) Q := by
  refine ev_or (S := Is (decide (g ∨ c)) H) (fun hg => ?_) (fun hg => ?_) fun b H' ⟨e1, e2⟩ => by subst e1; subst e2; exact hK
  · have hg := of_decide_eq_false hg
    exact ev_imp (h hg) fun b H' ⟨e1, e2⟩ => ⟨by rw [e1]; simp [hg], e2⟩
  · have hg := of_decide_eq_true hg
    exact ⟨by simp [hg], rfl⟩
end
theorem ev_unique {A : Type} {F : Qn A} {a b : A} {H H' : AH} (h1 : Ev F (Is a H)) (h2 : Ev F (Is b H')) : a = b ∧ H = H' := by
  obtain ⟨a', _, ⟨rfl, rfl⟩, K, h1⟩ := h1
  obtain ⟨b', _, ⟨rfl, rfl⟩, L, h2⟩ := h2
  have e1 := h1 (max K L) (by omega) (_ × AH) (fun a H => some (a, H))
  have e2 := h2 (max K L) (by omega) (_ × AH) (fun a H => some (a, H))
  rw [e1] at e2
  cases e2; exact ⟨rfl, rfl⟩

/-! ### Loops -/
section
variable {α A : Type} {Q : A → AH → Prop}
/-- A loop over i, i + 1, .., n - 1 with a state. -/
theorem ev_for {g : Int → α → Qn A} (n : Int) (inv : Int → α → Prop)
    (hs : ∀ i a, 0 ≤ i → i < n → inv i a → Ev (g i a) Q ∨ ∃ a', inv (i + 1) a' ∧ (Ev (g (i + 1) a') Q → Ev (g i a) Q))
    (hend : ∀ a, inv n a → Ev (g n a) Q) (i : Int) (a : α) (h0 : 0 ≤ i) (h1 : i ≤ n) (hi : inv i a) : Ev (g i a) Q := by
  have key : ∀ (m : Nat) (i : Int) (a : α), 0 ≤ i → i ≤ n → (n - i).toNat = m → inv i a → Ev (g i a) Q := by
    intro m
    induction m with
    | zero =>
      intro i a h0 h1 hm hi
      have : i = n := by omega
      subst this
      exact hend a hi
    | succ m ih =>
      intro i a h0 h1 hm hi
      rcases hs i a h0 (by omega) hi with H | ⟨a', hi', H⟩
      · exact H
      · exact H (ih (i + 1) a' (by omega) (by omega) (by omega) hi')
  exact key _ i a h0 h1 rfl hi
/-- .. without a state. -/
theorem ev_for0 {g : Int → Qn A} (n : Int) (inv : Int → Prop)
    (hs : ∀ i, 0 ≤ i → i < n → inv i → Ev (g i) Q ∨ (inv (i + 1) ∧ (Ev (g (i + 1)) Q → Ev (g i) Q)))
    (hend : inv n → Ev (g n) Q) (i : Int) (h0 : 0 ≤ i) (h1 : i ≤ n) (hi : inv i) : Ev (g i) Q :=
  ev_for (α := Unit) (g := fun i _ => g i) n (fun i _ => inv i) (fun i a h0 h1 hi => (hs i h0 h1 hi).elim .inl (fun h => .inr ⟨(), h⟩)) (fun _ => hend) i () h0 h1 hi
/-- A loop that is never left early: the state after each round is of the invariant. -/
theorem ev_loop {g : Int → α → Qn A} (n : Int) (inv : Int → α → Prop)
    (hs : ∀ i a, 0 ≤ i → i < n → inv i a → (∀ a', inv (i + 1) a' → Ev (g (i + 1) a') Q) → Ev (g i a) Q)
    (hend : ∀ a, inv n a → Ev (g n a) Q) (i : Int) (a : α) (h0 : 0 ≤ i) (h1 : i ≤ n) (hi : inv i a) : Ev (g i a) Q := by
  have key : ∀ (m : Nat) (i : Int) (a : α), 0 ≤ i → i ≤ n → (n - i).toNat = m → inv i a → Ev (g i a) Q := by
    intro m
    induction m with
    | zero =>
      intro i a h0 h1 hm hi
      have : i = n := by omega
      subst this
      exact hend a hi
    | succ m ih =>
      intro i a h0 h1 hm hi
      exact hs i a h0 (by omega) hi fun a' hi' => ih (i + 1) a' (by omega) (by omega) (by omega) hi'
  exact key _ i a h0 h1 rfl hi
/-- The first answer among f i, f (i + 1), .., m of them. -/
def fnd (f : Int → Option α) : Int → Nat → Option α
  | _, 0 => none
  | i, m + 1 => match f i with
    | some a => some a
    | none => fnd f (i + 1) m
theorem ev_fnd {g : Int → Qn A} {f : Int → Option α} (n : Int)
    (hs : ∀ i, 0 ≤ i → i < n → f i = none → Ev (g (i + 1)) Q → Ev (g i) Q)
    (i : Int) (m : Nat) (h0 : 0 ≤ i) (h1 : i + m = n)
    (hf : ∀ j a, 0 ≤ j → j < n → f j = some a → fnd f i m = some a → Ev (g j) Q) (hend : fnd f i m = none → Ev (g n) Q) : Ev (g i) Q := by
  induction m generalizing i with
  | zero =>
    have : i = n := by omega
    subst this
    exact hend rfl
  | succ m ih =>
    cases hfi : f i with
    | some a => exact hf i a h0 (by omega) hfi (by unfold fnd; rw [hfi])
    | none =>
      have e : fnd f i (m + 1) = fnd f (i + 1) m := by conv => lhs; unfold fnd; rw [hfi]
      exact hs i h0 (by omega) hfi (ih (i + 1) (by omega) (by omega) (fun j a a1 a2 a3 a4 => hf j a a1 a2 a3 (by rw [e]; exact a4)) (fun h => hend (by rw [e]; exact h)))
theorem fnd_some {f : Int → Option α} {a : α} {i : Int} {m : Nat} (h : fnd f i m = some a) : ∃ j, i ≤ j ∧ j < i + m ∧ f j = some a ∧ ∀ j', i ≤ j' → j' < j → f j' = none := by
  induction m generalizing i with
  | zero => simp [fnd] at h
  | succ m ih =>
    unfold fnd at h
    cases hf : f i with
    | some b =>
      rw [hf] at h
      exact ⟨i, by omega, by omega, by rw [hf]; exact h, fun j' h1 h2 => by omega⟩
    | none =>
      rw [hf] at h
      obtain ⟨j, h1, h2, h3, h4⟩ := ih h
      refine ⟨j, by omega, by omega, h3, fun j' a b => ?_⟩
      by_cases hj : j' = i
      · rw [hj]; exact hf
      · exact h4 j' (by omega) b
theorem fnd_none {f : Int → Option α} {i : Int} {m : Nat} : fnd f i m = none ↔ ∀ j, i ≤ j → j < i + m → f j = none := by
  constructor
  · intro h
    induction m generalizing i with
    | zero => intro j h1 h2; omega
    | succ m ih =>
      unfold fnd at h
      cases hf : f i with
      | some b => rw [hf] at h; cases h
      | none =>
        rw [hf] at h
        intro j h1 h2
        by_cases hj : j = i
        · rw [hj]; exact hf
        · exact ih h j (by omega) (by omega)
  · intro h
    cases e : fnd f i m with
    | none => rfl
    | some a =>
      obtain ⟨j, h1, h2, h3, _⟩ := fnd_some e
      rw [h j h1 h2] at h3; cases h3
theorem fnd_first {f : Int → Option α} {a : α} {i : Int} {m : Nat} {j : Int} (h0 : i ≤ j) (h1 : j < i + m) (hf : f j = some a) (hn : ∀ j', i ≤ j' → j' < j → f j' = none) : fnd f i m = some a := by
  cases e : fnd f i m with
  | none => rw [fnd_none.1 e j h0 h1] at hf; cases hf
  | some b =>
    obtain ⟨j2, a1, a2, a3, a4⟩ := fnd_some e
    have : ¬ j2 < j := fun hlt => by rw [hn j2 a1 hlt] at a3; cases a3
    have : ¬ j < j2 := fun hlt => by rw [a4 j h0 hlt] at hf; cases hf
    have : j2 = j := by omega
    subst this
    rw [← a3, hf]
theorem fnd_congr {f f' : Int → Option α} {i : Int} {m : Nat} (h : ∀ j, i ≤ j → j < i + m → f j = f' j) : fnd f i m = fnd f' i m := by
  induction m generalizing i with
  | zero => rfl
  | succ m ih =>
    unfold fnd
    rw [h i (by omega) (by omega), ih (fun j a b => h j (by omega) (by omega))]
/-- 'ok := true; for i .. { ok = ok && P i }'. -/
theorem ev_all {g : Int → Bool → Qn A} (n : Int) (P : Int → Prop) (hn : 0 ≤ n)
    (hs : ∀ (i : Int) (b : Bool), 0 ≤ i → i < n → (∀ c : Bool, (c = true ↔ b = true ∧ P i) → Ev (g (i + 1) c) Q) → Ev (g i b) Q)
    (he : ∀ c : Bool, (c = true ↔ ∀ i : Int, 0 ≤ i → i < n → P i) → Ev (g n c) Q) : Ev (g 0 true) Q := by
  refine ev_loop n (fun i (a : Bool) => a = true ↔ ∀ j, 0 ≤ j → j < i → P j) ?_ ?_ 0 true (Int.le_refl _) hn ⟨fun _ j a b => by omega, fun _ => rfl⟩
  · intro i a hi0 hi1 ha hk
    refine hs i a hi0 hi1 fun c hc => hk c (hc.trans ⟨fun ⟨h1, h2⟩ j j0 j1 => ?_, fun h => ⟨ha.2 fun j j0 j1 => h j j0 (by omega), h i hi0 (by omega)⟩⟩)
    by_cases hj : j = i
    · rw [hj]; exact h2
    · exact ha.1 h1 j j0 (by omega)
  · intro a ha; exact he a ha
end

/-! ### Whole numbers -/
theorem W_def (n : Int) : W n = (if (n % 18446744073709551616) ≥ 9223372036854775808 then n % 18446744073709551616 - 18446744073709551616 else n % 18446744073709551616) := by
  show IntKind.wrap .i64 n = _
  simp [IntKind.wrap, IntKind.bits, IntKind.signed]
theorem W_in {i : Int} (h0 : -9223372036854775808 ≤ i) (h1 : i ≤ 9223372036854775807) : W i = i := by rw [W_def]; split <;> omega
theorem W_nat (i : Nat) (h1 : (i : Int) ≤ 9223372036854775807) : W i = i := W_in (by omega) h1
theorem W_add {i n : Int} (h0 : 0 ≤ i) (h1 : i < n) (hn : n ≤ 9223372036854775807) : W (i + 1) = i + 1 := W_in (by omega) (by omega)
theorem wf_i64 {x : Int} (h : (Lit.int .i64 x).wf = true) : -9223372036854775808 ≤ x ∧ x ≤ 9223372036854775807 := by
  simp only [Lit.wf, Bool.and_eq_true, decide_eq_true_eq] at h
  exact ⟨by have := h.1; simpa [IntKind.min, IntKind.signed, IntKind.bits] using this, by have := h.2; simpa [IntKind.max, IntKind.signed, IntKind.bits] using this⟩
theorem wf_u8 {x : Int} (h : (Lit.int .u8 x).wf = true) : 0 ≤ x ∧ x ≤ 255 := by
  simp only [Lit.wf, Bool.and_eq_true, decide_eq_true_eq] at h
  exact ⟨by have := h.1; simpa [IntKind.min, IntKind.signed, IntKind.bits] using this, by have := h.2; simpa [IntKind.max, IntKind.signed, IntKind.bits] using this⟩
end Go.Ab
