/- The pure statement of MultSpecial: for every table the printed law answers true. No condition. -/
import Derived.Test.YtlhckcldeojfmaaSem
import Derived.Test.YtlhckcldeojfmaaF14b
import Derived.Test.YtlhckcldeojfmaaPAllx3
import Derived.Test.YtlhckcldeojfmaaPAllx6
namespace Go.Proofs.Ytlhckcldeojfmaa.Pure
open Go.RowKit Go.Proofs.YtlhckcldeojfmaaW.PrintWords Go.Proofs.Ytlhckcldeojfmaa.B Go.Proofs.Ytlhckcldeojfmaa.F Go.Proofs.Ytlhckcldeojfmaa.PAll
theorem MultSpecial (l0 : List (List Int)) (h0 : (l0.length ≤ 9223372036854775807 ∧ ∀ v ∈ l0, (v.length ≤ 9223372036854775807 ∧ ∀ u ∈ v, (Lit.int .i64 u).wf = true))) : ∃ k, semigrouplaw14_MultSpecial.f k l0 = some true := by
  have awk : Ev (fun k => (semigrouplaw14_awake.f k).bind fun t229 => some t229) true := ev_call awake_ev (ev_some rfl)
  have key : Ev (fun k => semigrouplaw14_MultSpecial.j0 k l0 (if val l0 = 0 then idn l0 else -1) (if val l0 = 0 then zer l0 else -1) (if val l0 = 0 then idem l0 else []) false) true := by
    apply ev_succ
    simp only [semigrouplaw14_MultSpecial.j0]
    refine ev_neg (by simp) ?_
    refine ev_call (semigroupref14_Valid_ev h0) ?_
    by_cases h : val l0 = 0
    · have hs := (va_of h).toSq
      simp only [if_pos h]
      refine ev_pos (by simp [h]) ?_
      refine ev_call (semigroupref14_Identity_ev hs) (ev_pos rfl ?_)
      refine ev_call (semigroupref14_Zero_ev hs) (ev_pos rfl ?_)
      refine ev_call (semigroupref14_Idempotents_ev hs) ?_
      have hl := sel_len (P := fun x => M l0 x x = x) (i := 0) (m := l0.length)
      refine ev_call (semigroupref03_Same_ev (by unfold idem; have := h0.1; omega)) (ev_pos rfl ?_)
      refine ev_pos ?_ awk
      obtain ⟨x, h1, h2, h3⟩ := exists_idem (va_of h)
      have : x ∈ idem l0 := sel_mem.2 ⟨h1, by omega, h3⟩
      have := List.length_pos_of_mem this
      omega
    · simp only [if_neg h]
      exact ev_neg (by simp [h]) (ev_pos (by simp) (ev_pos (by simp) (ev_pos (by simp) awk)))
  apply ev_get
  unfold semigrouplaw14_MultSpecial.f
  refine ev_call (mult_Identity_ev h0) (ev_call (mult_Zero_ev h0) (ev_call (mult_Idempotents_ev h0) (ev_call (semigroupref14_Shape_ev h0) ?_)))
  refine ev_ite (fun h => ?_) (fun _ => key)
  by_cases h2 : (l0.length : Int) > 30
  · simp only [h2, decide_true]
    apply ev_succ
    unfold semigrouplaw14_MultSpecial.j0
    exact ev_pos rfl awk
  · simp only [h2, decide_false]
    exact key
end Go.Proofs.Ytlhckcldeojfmaa.Pure
