/- The pure statement of MultPowers: for every table and numbers the printed law answers true. No condition. -/
import Derived.Test.YtlhckcldeojfmaaF14c
import Derived.Test.YtlhckcldeojfmaaPAllx3
import Derived.Test.YtlhckcldeojfmaaPAllx7
namespace Go.Proofs.Ytlhckcldeojfmaa.Pure
open Go.RowKit Go.Proofs.YtlhckcldeojfmaaW.PrintWords Go.Proofs.Ytlhckcldeojfmaa.B Go.Proofs.Ytlhckcldeojfmaa.F Go.Proofs.Ytlhckcldeojfmaa.PAll
set_option linter.unusedVariables false
open Classical in
theorem MultPowers (l0 : List (List Int)) (a1 : Int) (a2 : Int) (h0 : (l0.length ≤ 9223372036854775807 ∧ ∀ v ∈ l0, (v.length ≤ 9223372036854775807 ∧ ∀ u ∈ v, (Lit.int .i64 u).wf = true))) (h1 : (Lit.int .i64 a1).wf = true) (h2 : (Lit.int .i64 a2).wf = true) : ∃ k, semigrouplaw14_MultPowers.f k l0 a1 a2 = some true := by
  have awk : Ev (fun k => (semigrouplaw14_awake.f k).bind fun t229 => some t229) true := ev_call awake_ev (ev_some rfl)
  have b2 := wf_i64 h2
  have no : ∀ x1 x2, Ev (fun k => semigrouplaw14_MultPowers.j1 k l0 x1 x2 (-1) (-1) 0 0 true) true := by
    intro x1 x2
    apply ev_succ
    simp only [semigrouplaw14_MultPowers.j1]
    exact ev_pos (by simp) (ev_pos (by simp) (ev_pos (by simp) (ev_pos (by simp) (ev_pos (by simp) awk))))
  have key : Ev (fun k => semigrouplaw14_MultPowers.j0 k l0 a1 a2 false) true := by
    apply ev_succ
    simp only [semigrouplaw14_MultPowers.j0]
    refine ev_neg (by simp) ?_
    refine ev_call (mult_Power_ev h0 b2.2) (ev_call (mult_Omega_ev h0) ?_)
    by_cases hv : val l0 = 0 ∧ 0 ≤ a1 ∧ a1 < (l0.length : Int)
    · obtain ⟨hv, x0, x1⟩ := hv
      have va := va_of hv
      obtain ⟨a, N, hc⟩ := va.cyc x0 x1
      have hEl : El l0 [a1] := by intro z hz; simp at hz; omega
      refine ev_call (mult_IndexPeriod_yes h0 va x0 x1 hc) (ev_call (semigroupref14_Valid_ev h0) (ev_pos (by simp [hv]) ?_))
      refine ev_call (semigroupref14_In_ev (by simp)) ?_
      rw [if_pos (⟨hv, x0, x1⟩ : val l0 = 0 ∧ 0 ≤ a1 ∧ a1 < (l0.length : Int))]
      simp only [hEl, decide_true, Bool.not_true]
      apply ev_succ
      simp only [semigrouplaw14_MultPowers.j1]
      refine ev_neg (by simp) (ev_call (semigroupref14_IndexPeriod_ev va x0 x1 hc) (ev_pos rfl (ev_pos rfl (ev_call (semigroupref14_Omega_ev va x0 x1) ?_))))
      rw [show (om l0 a1 != om l0 a1) = false by simp]
      apply ev_succ
      simp only [semigrouplaw14_MultPowers.j2]
      refine ev_neg (by simp) (ev_ite (fun hk => ?_) (fun hk => ?_))
      · rw [if_neg (by omega)]
        exact ev_pos rfl awk
      · rw [if_pos ⟨hv, x0, x1, by omega⟩]
        exact ev_call (semigroupref14_Power_ev va x0 x1 (by omega) b2.2) (ev_pos rfl awk)
    · have hn : ¬ (val l0 = 0 ∧ 0 ≤ a1 ∧ a1 < (l0.length : Int) ∧ 1 ≤ a2) := fun hh => hv ⟨hh.1, hh.2.1, hh.2.2.1⟩
      rw [if_neg hv, if_neg hn]
      refine ev_call (mult_IndexPeriod_no h0 hv) (ev_call (semigroupref14_Valid_ev h0) ?_)
      refine ev_ite (fun hq => ?_) (fun _ => no _ _)
      have hval : val l0 = 0 := by simpa using hq
      have hEl : ¬ El l0 [a1] := by
        intro hh
        have := hh a1 (by simp)
        exact hv ⟨hval, this.1, this.2⟩
      refine ev_call (semigroupref14_In_ev (by simp)) ?_
      simp only [hEl, decide_false, Bool.not_false]
      exact no _ _
  apply ev_get
  unfold semigrouplaw14_MultPowers.f
  refine ev_call (semigroupref14_Shape_ev h0) ?_
  refine ev_ite (fun h => ?_) (fun _ => key)
  by_cases h2 : (l0.length : Int) > 30
  · simp only [h2, decide_true]
    apply ev_succ
    unfold semigrouplaw14_MultPowers.j0
    exact ev_pos rfl awk
  · simp only [h2, decide_false]
    exact key
end Go.Proofs.Ytlhckcldeojfmaa.Pure
