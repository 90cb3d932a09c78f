/- Arguments that are slices (of slices) of whole numbers are opened as the printed functions' kinds. No condition. -/
import Derived.Deep.Slices
import Derived.Test.YtlhckcldeojfmaaKMultNeedsWWords
namespace Go.Proofs.Ytlhckcldeojfmaa.Open
open Go.ChangeShapes Go.WideShapes Go.Deep Go.RowKit Go.Proofs.YtlhckcldeojfmaaW.PrintWords
set_option linter.unusedVariables false
section
variable {H : Type} {enc : TypeId × Value → H} {P : Program} {w : World} {base : Nat} {held : Bool}

theorem list_of {α : Type} {p : Nat → α → Prop} : ∀ n : Nat, (∀ i, i < n → ∃ v, p i v) → ∃ l : List α, l.length = n ∧ ∀ j v, l[j]? = some v → p j v
  | 0, _ => ⟨[], rfl, fun j v hj => by simp at hj⟩
  | n + 1, h => by
    obtain ⟨l, hl, hp⟩ := list_of n (fun i hi => h i (by omega))
    obtain ⟨v, hv⟩ := h n (by omega)
    refine ⟨l ++ [v], by simp [hl], fun j u hj => ?_⟩
    by_cases hjn : j < n
    · rw [List.getElem?_append_left (by omega)] at hj
      exact hp j u hj
    · rw [List.getElem?_append_right (by omega)] at hj
      have h1 : j - l.length = 0 := by
        have := (List.getElem?_eq_some_iff.1 hj).1
        simp at this
        omega
      rw [h1] at hj
      have hu : v = u := by simpa using hj
      have hjn' : j = n := by omega
      rw [← hu, hjn']
      exact hv

/-- An element or an argument of type t opens as kind d, with Q. -/
def Opens (enc : TypeId × Value → H) (P : Program) (w : World) (base : Nat) (held : Bool) (t : TypeId) {α : Type} (d : Kd α) (Q : α → Prop) : Prop :=
  ∀ fuel cs x, DataW.trod enc P w base (fun _ => true) held fuel t cs = some x → ∃ v, d.K w v cs ∧ Q v

theorem opens_int {t : TypeId} {k : IntKind} (ht : P.underlying t = some (.int k)) : Opens enc P w base held t (Kd.int k) (fun n => (Lit.int k n).wf = true) := by
  intro fuel cs x h
  obtain ⟨m, rfl, _, hw⟩ := DataW.trod_int ht h
  exact ⟨m, rfl, hw⟩

theorem opens_slice {α : Type} {t e en : TypeId} {d : Kd α} {Q : α → Prop} (ht : P.underlying t = some (.slice e)) (ce : P.cellsOf e = 1) (hs : d.sz = 1) (h : Opens enc P w base held e d Q) :
    Opens enc P w base held t (Kd.slice en d) (fun l => l.length ≤ 9223372036854775807 ∧ ∀ v ∈ l, Q v) := by
  intro fuel cs x hx
  rcases open_slice1 ht ce hx with ⟨rfl, _⟩ | ⟨a, len, cap, m, n, V, D, Pl, rfl, _, hl, hm, hmm, _, hV⟩
  · exact ⟨[], ⟨none, 0, rfl, Nat.le_refl _, rfl, by simp, fun hh => by simp at hh⟩, by simp, by simp⟩
  · simp only [if_true] at hmm
    subst hmm
    have each : ∀ i, i < len → ∃ v, d.K w v [V i] ∧ Q v := fun i hi => h _ _ _ (hV i (by omega)).2
    obtain ⟨l, hlen, hf⟩ := list_of len each
    have hb : len ≤ 9223372036854775807 := by unfold maxLen at hm; omega
    refine ⟨l, ⟨some a, m, by rw [hlen], by rw [hlen]; exact hl, rfl, by rw [hlen]; exact hb, fun _ => ⟨a, rfl, ?_⟩⟩, by rw [hlen]; exact hb, ?_⟩
    · intro j p hj
      have hj' : j < len := by have := (List.getElem?_eq_some_iff.1 hj).1; omega
      refine ⟨[V j], by rw [hs]; rfl, (hf j p hj).1, ?_⟩
      intro i u hu
      obtain ⟨hi, hu'⟩ := List.getElem?_eq_some_iff.1 hu
      have hi0 : i = 0 := by simpa using hi
      subst hi0
      have : u = V j := by simpa using hu'.symm
      subst this
      rw [hs, Nat.mul_one, Nat.add_zero]
      exact (hV j (by omega)).1
    · intro v hv
      obtain ⟨i, hi⟩ := List.getElem?_of_mem hv
      exact (hf i v hi).2

/-- An argument that is a slice. -/
theorem open_arg {α : Type} {t e en : TypeId} {d : Kd α} {Q : List α → Prop} {r : Reach} {b0 : Nat} {v : Value} {dd : DataW H} {ps : List MemPlace} (ht : P.underlying t = some (.slice e))
    (hval : Value.okWide P w r b0 t v) (h : DataW.Trod enc P w base (fun _ => true) held t v dd ps) (ho : Opens enc P w base held t (Kd.slice en d) Q) :
    ∃ A c l, v = .slice A l.length c ∧ l.length ≤ c ∧ d.C w A l.length l ∧ Q l := by
  obtain ⟨a, len, cap, rfl⟩ := okWide_slice ht hval
  obtain ⟨fuel, hf⟩ := h
  obtain ⟨l, ⟨A, c, e1, h1, h2⟩, hq⟩ := ho _ _ _ hf
  simp [Value.cells] at e1
  obtain ⟨rfl, rfl, rfl⟩ := e1
  exact ⟨a, cap, l, rfl, h1, h2, hq⟩
end
end Go.Proofs.Ytlhckcldeojfmaa.Open
