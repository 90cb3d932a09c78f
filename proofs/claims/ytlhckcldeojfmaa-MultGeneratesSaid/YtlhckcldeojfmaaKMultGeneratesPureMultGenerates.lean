/- The pure statement of MultGenerates: for every table and lists the printed law answers true. No condition. -/
import Derived.Test.YtlhckcldeojfmaaKMultGeneratesF14g
import Derived.Test.YtlhckcldeojfmaaKMultGeneratesF14h
import Derived.Test.YtlhckcldeojfmaaKMultGeneratesP3
namespace Go.Proofs.Ytlhckcldeojfmaa.Pure
open Go.RowKit Go.Proofs.YtlhckcldeojfmaaW.PrintWords Go.Proofs.Ytlhckcldeojfmaa.B Go.Proofs.Ytlhckcldeojfmaa.F Go.Proofs.Ytlhckcldeojfmaa.PAll
set_option linter.unusedVariables false
open Classical in
theorem MultGenerates (l0 : List (List Int)) (l1 : List Int) (l2 : List Int) (h0 : (l0.length ≤ 9223372036854775807 ∧ ∀ v ∈ l0, (v.length ≤ 9223372036854775807 ∧ ∀ u ∈ v, (Lit.int .i64 u).wf = true))) (h1 : (l1.length ≤ 9223372036854775807 ∧ ∀ v ∈ l1, (Lit.int .i64 v).wf = true)) (y1 : l1.length * 8 ≤ 140737488351232) (h2 : (l2.length ≤ 9223372036854775807 ∧ ∀ v ∈ l2, (Lit.int .i64 v).wf = true)) (y2 : l2.length * 8 ≤ 140737488351232) : ∃ k, semigrouplaw14_MultGenerates.f k l0 l1 l2 = some true := by
  have awk : ∀ n : Nat, Ev (fun k => (semigrouplaw14_awake.f k).bind fun t => some t) true := fun _ => ev_call awake_ev (ev_some rfl)
  have hE0 := h1.1
  have nogen : ∀ g : List Int, g.length = 0 → Ev (fun k => semigrouplaw14_MultGenerates.j2 k l0 l1 g true) true := by
    intro g hg
    apply ev_succ
    simp only [semigrouplaw14_MultGenerates.j2]
    exact ev_pos (by simp) (ev_pos (by omega) (awk 0))
  have key : Ev (fun k => semigrouplaw14_MultGenerates.j0 k l0 l1 l2 false) true := by
    apply ev_succ
    simp only [semigrouplaw14_MultGenerates.j0]
    refine ev_neg (by simp) (ev_call (mult_Generated_ev h0 h1.1) (ev_call (mult_Sub_ev h0 h2.1) (ev_call (semigroupref14_Sub_ev h0 h2.1) (ev_pos rfl (ev_call (subR_same h0 h2.1) ?_)))))
    simp only [Bool.not_true]
    apply ev_succ
    simp only [semigrouplaw14_MultGenerates.j1]
    refine ev_neg (by simp) (ev_call (semigroupref14_Valid_ev h0) (ev_ite (fun hv => ?_) (fun hv => nogen _ (by rw [if_neg (fun hh => hv (by simpa using hh.1))]; rfl))))
    have hval : val l0 = 0 := by simpa using hv
    refine ev_call (semigroupref14_In_ev h1.1) ?_
    by_cases hE : El l0 l1
    · simp only [hE, decide_true, Bool.not_true]
      rw [if_pos ⟨hval, trivial⟩]
      apply ev_succ
      simp only [semigrouplaw14_MultGenerates.j2]
      have hle := (va_of hval).toSq.le
      have hs : (sel (Cl l0 l1) 0 l0.length).length ≤ 9223372036854775807 := by have := sel_len (P := Cl l0 l1) (i := 0) (m := l0.length); omega
      exact ev_neg (by simp) (ev_call (semigroupref14_Generated_ev (va_of hval).toSq h1.1) (ev_call (semigroupref03_Same_ev hs) (ev_pos rfl (awk 0))))
    · simp only [hE, decide_false, Bool.not_false]
      exact nogen _ (by rw [if_neg (fun hh => hh.2)]; rfl)
  apply ev_get
  unfold semigrouplaw14_MultGenerates.f
  refine ev_call (semigroupref14_Shape_ev h0) (ev_ite (fun h => ?_) (fun _ => key))
  by_cases h2 : (l0.length : Int) > 20
  · simp only [h2, decide_true]
    apply ev_succ
    simp only [semigrouplaw14_MultGenerates.j0]
    exact ev_pos (by simp) (awk 0)
  · simp only [h2, decide_false]
    exact key
end Go.Proofs.Ytlhckcldeojfmaa.Pure
