/- The pure statement of MultNeeds: for every table and list the printed law answers true. No condition. -/
import Derived.Test.YtlhckcldeojfmaaKMultNeedsF14j
import Derived.Test.YtlhckcldeojfmaaKMultNeedsP2
namespace Go.Proofs.Ytlhckcldeojfmaa.Pure
open Go.RowKit Go.Proofs.YtlhckcldeojfmaaW.PrintWords Go.Proofs.Ytlhckcldeojfmaa.B Go.Proofs.Ytlhckcldeojfmaa.F Go.Proofs.Ytlhckcldeojfmaa.PAll
set_option linter.unusedVariables false
open Classical in
theorem MultNeeds (l0 : List (List Int)) (l1 : List Int) (h0 : (l0.length ≤ 9223372036854775807 ∧ ∀ v ∈ l0, (v.length ≤ 9223372036854775807 ∧ ∀ u ∈ v, (Lit.int .i64 u).wf = true))) (h1 : (l1.length ≤ 9223372036854775807 ∧ ∀ v ∈ l1, (Lit.int .i64 v).wf = true)) (y1 : l1.length * 8 ≤ 140737488351232) : ∃ k, semigrouplaw14_MultNeeds.f k l0 l1 = some true := by
  have awk : ∀ n : Nat, Ev (fun k => (semigrouplaw14_awake.f k).bind fun t => some t) true := fun _ => ev_call awake_ev (ev_some rfl)
  have no : Ev (fun k => semigrouplaw14_MultNeeds.j0 k l0 l1 true) true := by
    apply ev_succ
    simp only [semigrouplaw14_MultNeeds.j0]
    exact ev_pos (by simp) (awk 0)
  apply ev_get
  unfold semigrouplaw14_MultNeeds.f
  have hsmall : Ev (fun k => semigrouplaw14_small.f k l0 14) (decide ((l0.length : Int) ≤ 14) && (val l0 == 0)) := by
    unfold semigrouplaw14_small.f
    refine ev_ite (fun h => ev_call (semigroupref14_Valid_ev h0) (ev_some (by simp [h]))) (fun h => ev_some (by simp [h]))
  refine ev_call hsmall (ev_ite (fun hsm => ?_) (fun _ => no))
  have hval : val l0 = 0 := by simp at hsm; exact hsm.2
  have hv := va_of hval
  have hs := hv.toSq
  have hle := hs.le
  refine ev_call (semigroupref14_In_ev h1.1) ?_
  by_cases hE : El l0 l1
  · simp only [hE, decide_true, Bool.not_true]
    obtain ⟨ga, gb, gc⟩ := gsp_ok (t := l0) l0.length (Nat.le_refl _)
    have full : sel (Cl l0 (gsp l0 l0.length)) 0 l0.length = sel (fun _ => True) 0 l0.length := sel_congr fun y a b => ⟨fun _ => trivial, fun _ => gc y a (by omega)⟩
    have hfl : (sel (Cl l0 (gsp l0 l0.length)) 0 l0.length).length = l0.length := sel_full.2 fun y a b => gc y a (by omega)
    apply ev_succ
    simp only [semigrouplaw14_MultNeeds.j0]
    refine ev_neg (by simp) (ev_call (mult_Generators_ev h0) ?_)
    rw [if_pos hval]
    refine ev_call (mult_Generated_ev h0 (by omega)) ?_
    rw [if_pos ⟨hval, ga⟩]
    refine ev_pos (by omega) (ev_call (mult_Generated_ev h0 h1.1) ?_)
    rw [if_pos ⟨hval, hE⟩]
    obtain ⟨b1, hb1, he1⟩ := semigroupref03_Set_ev (l := gsp l0 l0.length) (n := l0.length) (by omega) (by omega)
    obtain ⟨b2, hb2, he2⟩ := semigroupref03_Set_ev (l := l1) (n := l0.length) h1.1 (by omega)
    refine ev_call he1 (ev_call he2 (ev_call (mult_Indecomposable_ev h0) ?_))
    rw [if_pos hval]
    have hb1l := hb1.1
    have hb2l := hb2.1
    have hil : (ind l0).length ≤ l0.length := sel_len
    have hall : ((((sel (Cl l0 l1) 0 l0.length).length : Int) == (l0.length : Int)) = true) → ∀ y : Int, 0 ≤ y → y < (l0.length : Int) → Cl l0 l1 y := by
      intro hq y a b
      have h2 : (sel (Cl l0 l1) 0 l0.length).length = l0.length := by have := beq_iff_eq.1 hq; omega
      exact sel_full.1 h2 y a (by omega)
    generalize (((sel (Cl l0 l1) 0 l0.length).length : Int) == (l0.length : Int)) = bz at hall ⊢
    refine ev_for0 (g := fun i k => semigrouplaw14_MultNeeds.l0 k bz b1 b2 (ind l0) ((ind l0).length : Int) i) ((ind l0).length : Int) (fun _ => True) ?_ ?_ 0 (by omega) (by omega) trivial
    · intro i i0 i1 _
      right
      refine ⟨trivial, fun H => ?_⟩
      have hx := rd_mem i0 i1
      have hr := sel_mem.1 hx
      have x0 : 0 ≤ rd (ind l0) i := hr.1
      have x1 : rd (ind l0) i < (l0.length : Int) := by have := hr.2.1; omega
      have hin := (hb1.2 _ x0 x1).2 (ind_in hs hx (gc _ x0 (by omega)))
      apply ev_succ
      simp only [semigrouplaw14_MultNeeds.l0]
      rw [wrap_add i0 i1 (by omega)]
      refine ev_pos i1 (ev_pos i0 (ev_pos i1 (ev_pos x0 (ev_pos (by omega) (ev_pos hin (ev_ite (fun hq => ?_) (fun _ => H)))))))
      exact ev_pos (by omega) (ev_pos ((hb2.2 _ x0 x1).2 (ind_in hs hx (hall hq _ x0 x1))) H)
    · intro _
      apply ev_succ
      simp only [semigrouplaw14_MultNeeds.l0]
      exact ev_neg (by omega) (awk 0)
  · simp only [hE, decide_false, Bool.not_false]
    exact no
end Go.Proofs.Ytlhckcldeojfmaa.Pure
