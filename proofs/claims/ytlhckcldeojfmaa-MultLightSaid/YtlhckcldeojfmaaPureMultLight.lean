/- The pure statement of MultLight: for every table and list the printed law answers true. No condition. -/
import Derived.Test.YtlhckcldeojfmaaF14d
import Derived.Test.YtlhckcldeojfmaaPAllx3
import Derived.Test.YtlhckcldeojfmaaPAllx12
namespace Go.Proofs.Ytlhckcldeojfmaa.Pure
open Go.RowKit Go.Proofs.YtlhckcldeojfmaaW.PrintWords Go.Proofs.Ytlhckcldeojfmaa.B Go.Proofs.Ytlhckcldeojfmaa.F Go.Proofs.Ytlhckcldeojfmaa.PAll
set_option linter.unusedVariables false
open Classical in
theorem MultLight (l0 : List (List Int)) (l1 : List Int) (h0 : (l0.length ≤ 9223372036854775807 ∧ ∀ v ∈ l0, (v.length ≤ 9223372036854775807 ∧ ∀ u ∈ v, (Lit.int .i64 u).wf = true))) (h1 : (l1.length ≤ 9223372036854775807 ∧ ∀ v ∈ l1, (Lit.int .i64 v).wf = true)) (y1 : l1.length * 8 ≤ 140737488351232) : ∃ k, semigrouplaw14_MultLight.f k l0 l1 = some true := by
  have awk : Ev (fun k => (semigrouplaw14_awake.f k).bind fun t229 => some t229) true := ev_call awake_ev (ev_some rfl)
  have no : ∀ b, Ev (fun k => semigrouplaw14_MultLight.j0 k l0 b true) true := by
    intro b
    apply ev_succ
    simp only [semigrouplaw14_MultLight.j0]
    exact ev_pos (by simp) awk
  apply ev_get
  unfold semigrouplaw14_MultLight.f
  refine ev_ite (fun _ => awk) (fun hn => ?_)
  refine ev_call (mult_Light_ev h0 h1.1) (ev_call (semigroupref14_Light_ev h0 h1.1) (ev_neg (by simp) (ev_call (semigroupref14_Shape_ev h0) (ev_ite (fun hsh => ?_) (fun _ => no _)))))
  have hs := shp_sq.1 hsh
  refine ev_call (semigroupref14_In_ev h1.1) (ev_ite (fun hE => ?_) (fun _ => no _))
  have hE : El l0 l1 := by simpa using hE
  refine ev_call (semigroupref14_Generated_ev hs h1.1) ?_
  by_cases hfull : (sel (Cl l0 l1) 0 l0.length).length = l0.length
  · rw [show (((sel (Cl l0 l1) 0 l0.length).length : Int) != (l0.length : Int)) = false by simp [hfull]]
    have hg : ∀ x : Int, 0 ≤ x → x < (l0.length : Int) → Cl l0 l1 x := fun x a b => sel_full.1 hfull x a (by omega)
    apply ev_succ
    simp only [semigrouplaw14_MultLight.j0]
    refine ev_neg (by simp) (ev_call (mult_Validate_ev h0) (ev_pos ?_ awk))
    by_cases hl : LightOk l0 l1
    · have : val l0 = 0 := val_va.2 ⟨hs, light_asc hs hg hl⟩
      simp [hs, hE, hl, this]
    · have : ¬ val l0 = 0 := by
        intro h
        have hv := va_of h
        refine hl fun g hgm x y x0 x1 y0 y1 => hv.asc x g y x0 x1 (hE g hgm).1 (hE g hgm).2 y0 y1
      simp [hl, this]
  · rw [show (((sel (Cl l0 l1) 0 l0.length).length : Int) != (l0.length : Int)) = true by simp; omega]
    exact no _
end Go.Proofs.Ytlhckcldeojfmaa.Pure
