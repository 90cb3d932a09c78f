/- Numbering the classes of a list; what an association list holds. Plain lemmas. No condition. -/
import Derived.Test.YtmdndoghdbhipaaAbM11
set_option linter.unusedVariables false
set_option linter.unusedSimpArgs false
set_option linter.unusedSectionVars false
namespace Go.Ab
open Go
section
variable {β : Type}
def mget : List (Int × β) → Int → Option β
  | [], _ => none
  | e :: l, k => if e.1 = k then some e.2 else mget l k
def mset : List (Int × β) → Int → β → List (Int × β)
  | [], k, w => [(k, w)]
  | e :: l, k, w => if e.1 = k then (k, w) :: l else e :: mset l k w
theorem mset_new : ∀ {l : List (Int × β)} {k : Int} {w : β}, mget l k = none → mset l k w = l ++ [(k, w)]
  | [], _, _, _ => rfl
  | e :: l, k, w, h => by
    unfold mget at h
    unfold mset
    split at h
    · cases h
    · rename_i hn
      rw [if_neg hn, mset_new h]; rfl
theorem mget_mset : ∀ {l : List (Int × β)} {k k' : Int} {w : β}, mget (mset l k w) k' = if k' = k then some w else mget l k'
  | [], k, k', w => by simp [mset, mget, eq_comm]
  | e :: l, k, k', w => by
    unfold mset
    by_cases h : e.1 = k
    · rw [if_pos h]
      simp only [mget]
      by_cases h2 : k' = k
      · rw [if_pos h2.symm, if_pos h2]
      · rw [if_neg (fun e => h2 e.symm), if_neg h2, if_neg (fun e' => h2 (by rw [← e', h]))]
    · rw [if_neg h]
      simp only [mget]
      rw [mget_mset]
      by_cases h3 : e.1 = k'
      · rw [if_pos h3, if_pos h3, if_neg (fun e' => h (by rw [h3, e']))]
      · rw [if_neg h3, if_neg h3]
theorem mset_len {l : List (Int × β)} {k : Int} {w : β} (h : mget l k = none) : (mset l k w).length = l.length + 1 := by rw [mset_new h]; simp
end
/-- The first i of a list are numbered by o, with the numbers in l. -/
structure Num (x o : List Int) (l : List (Int × Int)) (i : Int) : Prop where
  len : o.length = x.length
  get : ∀ j : Int, 0 ≤ j → j < i → mget l (rd x j) = some (rd o j)
  from' : ∀ k c : Int, mget l k = some c → ∃ j : Int, 0 ≤ j ∧ j < i ∧ rd x j = k ∧ rd o j = c
  all : ∀ c : Int, 0 ≤ c → c < (l.length : Int) → ∃ j : Int, 0 ≤ j ∧ j < i ∧ rd o j = c
  lt : ∀ j : Int, 0 ≤ j → j < i → 0 ≤ rd o j ∧ rd o j < (l.length : Int)
  inj : ∀ j j' : Int, 0 ≤ j → j < i → 0 ≤ j' → j' < i → rd o j = rd o j' → rd x j = rd x j'
  can : ∀ j : Int, 0 ≤ j → j < i → ∀ c : Int, 0 ≤ c → c < rd o j → ∃ j' : Int, 0 ≤ j' ∧ j' < j ∧ rd o j' = c
theorem Num.zero {x o : List Int} (h : o.length = x.length) : Num x o [] 0 :=
  ⟨h, fun j a b => by omega, fun k c h => by (cases h), fun c a b => by (simp at b; omega), fun j a b => by omega, fun j j' a b => by omega, fun j a b => by omega⟩
theorem Num.old {x o : List Int} {l : List (Int × Int)} {i c : Int} (h : Num x o l i) (i0 : 0 ≤ i) (i1 : i < (x.length : Int)) (hc : mget l (rd x i) = some c) : Num x (o.set i.toNat c) l (i + 1) := by
  have hl := h.len
  have hs : ∀ j : Int, 0 ≤ j → rd (o.set i.toNat c) j = if j = i then c else rd o j := fun j j0 => rd_set i0 (by omega) j0
  obtain ⟨j0, a0, a1, a2, a3⟩ := h.from' _ _ hc
  refine ⟨by simpa using hl, fun j a b => ?_, fun k d hk => ?_, fun d a b => ?_, fun j a b => ?_, fun j j' a b a' b' => ?_, fun j a b d d0 d1 => ?_⟩
  · rw [hs j a]
    by_cases hj : j = i
    · rw [if_pos hj, hj]; exact hc
    · rw [if_neg hj]; exact h.get j a (by omega)
  · obtain ⟨j, x1, x2, x3, x4⟩ := h.from' k d hk
    exact ⟨j, x1, by omega, x3, by rw [hs j x1, if_neg (by omega)]; exact x4⟩
  · obtain ⟨j, x1, x2, x3⟩ := h.all d a b
    exact ⟨j, x1, by omega, by rw [hs j x1, if_neg (by omega)]; exact x3⟩
  · rw [hs j a]
    by_cases hj : j = i
    · rw [if_pos hj, ← a3]; exact h.lt j0 a0 a1
    · rw [if_neg hj]; exact h.lt j a (by omega)
  · rw [hs j a, hs j' a']
    by_cases hj : j = i
    · by_cases hj' : j' = i
      · intro _; rw [hj, hj']
      · rw [if_pos hj, if_neg hj']
        intro e
        rw [hj, ← a2]
        exact h.inj j0 j' a0 a1 a' (by omega) (by omega)
    · by_cases hj' : j' = i
      · rw [if_neg hj, if_pos hj']
        intro e
        rw [hj', ← a2]
        exact h.inj j j0 a (by omega) a0 a1 (by omega)
      · rw [if_neg hj, if_neg hj']
        exact h.inj j j' a (by omega) a' (by omega)
  · rw [hs j a] at d1
    by_cases hj : j = i
    · rw [if_pos hj, ← a3] at d1
      obtain ⟨j', x1, x2, x3⟩ := h.can j0 a0 a1 d d0 d1
      exact ⟨j', x1, by omega, by rw [hs j' x1, if_neg (by omega)]; exact x3⟩
    · rw [if_neg hj] at d1
      obtain ⟨j', x1, x2, x3⟩ := h.can j a (by omega) d d0 d1
      exact ⟨j', x1, by omega, by rw [hs j' x1, if_neg (by omega)]; exact x3⟩
theorem Num.new {x o : List Int} {l : List (Int × Int)} {i : Int} (h : Num x o l i) (i0 : 0 ≤ i) (i1 : i < (x.length : Int)) (hc : mget l (rd x i) = none) : Num x (o.set i.toNat l.length) (mset l (rd x i) l.length) (i + 1) := by
  have hl := h.len
  have hs : ∀ j : Int, 0 ≤ j → rd (o.set i.toNat l.length) j = if j = i then (l.length : Int) else rd o j := fun j j0 => rd_set i0 (by omega) j0
  have hne : ∀ j : Int, 0 ≤ j → j < i → rd x j ≠ rd x i := fun j a b e => by
    have := h.get j a b
    rw [e, hc] at this; cases this
  have hln : ((mset l (rd x i) (l.length : Int)).length : Int) = (l.length : Int) + 1 := by rw [mset_len hc]; omega
  refine ⟨by simpa using hl, fun j a b => ?_, fun k d hk => ?_, fun d a b => ?_, fun j a b => ?_, fun j j' a b a' b' => ?_, fun j a b d d0 d1 => ?_⟩
  · rw [hs j a, mget_mset]
    by_cases hj : j = i
    · rw [if_pos hj, hj, if_pos rfl]
    · rw [if_neg hj, if_neg (hne j a (by omega))]; exact h.get j a (by omega)
  · rw [mget_mset] at hk
    by_cases hki : k = rd x i
    · rw [if_pos hki] at hk
      exact ⟨i, i0, by omega, hki.symm, by rw [hs i i0, if_pos rfl]; simpa using hk⟩
    · rw [if_neg hki] at hk
      obtain ⟨j, x1, x2, x3, x4⟩ := h.from' k d hk
      exact ⟨j, x1, by omega, x3, by rw [hs j x1, if_neg (by omega)]; exact x4⟩
  · by_cases hd : d = (l.length : Int)
    · exact ⟨i, i0, by omega, by rw [hs i i0, if_pos rfl, hd]⟩
    · obtain ⟨j, x1, x2, x3⟩ := h.all d a (by omega)
      exact ⟨j, x1, by omega, by rw [hs j x1, if_neg (by omega)]; exact x3⟩
  · rw [hs j a]
    by_cases hj : j = i
    · rw [if_pos hj]; omega
    · rw [if_neg hj]
      have := h.lt j a (by omega)
      omega
  · rw [hs j a, hs j' a']
    by_cases hj : j = i
    · by_cases hj' : j' = i
      · intro _; rw [hj, hj']
      · rw [if_pos hj, if_neg hj']
        intro e
        have := h.lt j' a' (by omega)
        omega
    · by_cases hj' : j' = i
      · rw [if_neg hj, if_pos hj']
        intro e
        have := h.lt j a (by omega)
        omega
      · rw [if_neg hj, if_neg hj']
        exact h.inj j j' a (by omega) a' (by omega)
  · rw [hs j a] at d1
    by_cases hj : j = i
    · rw [if_pos hj] at d1
      obtain ⟨j', x1, x2, x3⟩ := h.all d d0 d1
      exact ⟨j', x1, by omega, by rw [hs j' x1, if_neg (by omega)]; exact x3⟩
    · rw [if_neg hj] at d1
      obtain ⟨j', x1, x2, x3⟩ := h.can j a (by omega) d d0 d1
      exact ⟨j', x1, by omega, by rw [hs j' x1, if_neg (by omega)]; exact x3⟩
theorem Num.done {x o : List Int} {l : List (Int × Int)} (h : Num x o l x.length) : IsCl x.length (fun i j => rd x i = rd x j) o := by
  have hl := h.len
  refine ⟨hl, fun i j a b c d => ⟨h.inj i j a b c d, fun e => ?_⟩, fun i a b => ⟨(h.lt i a (by omega)).1, h.can i a (by omega)⟩⟩
  have e1 := h.get i a b
  have e2 := h.get j c d
  rw [e, e2] at e1
  simpa [eq_comm] using e1
theorem IsCl.self {p : List Int} (h : Cano p) : IsCl p.length (fun i j => rd p i = rd p j) p := ⟨rfl, fun _ _ _ _ _ _ => Iff.rfl, h⟩
theorem cano_iff {p q : List Int} (h : IsCl p.length (fun i j => rd p i = rd p j) q) : p = q ↔ Cano p :=
  ⟨fun e => by rw [e]; exact h.can, fun hc => (IsCl.self hc).unique h⟩
end Go.Ab
