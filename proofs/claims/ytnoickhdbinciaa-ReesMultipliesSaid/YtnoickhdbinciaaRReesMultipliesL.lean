/- ReesMultiplies: for every structure and all numbers the law answers true. No condition but that the arguments come in. -/
import Derived.Test.YtnoickhdbinciaaRReesMultipliesF6
set_option linter.unusedVariables false
set_option linter.unusedSimpArgs false
namespace Go.Ab
open Go

theorem law_ReesMultiplies {H : AH} {s0_0 : Sl} {l0_0 : List (List Int)} {a0_1 : Int} {a0_2 : Int} {s0_3 : Sl} {l0_3 : List (List Int)} {a0_4 : Bool} {a1 : Int} {a2 : Int} {a3 : Int} {a4 : Int} {a5 : Int} (h0_0 : In2 l0_0) (t0_0 : Tab H s0_0 l0_0) (h0_1 : (Lit.int .i64 a0_1).wf = true) (h0_2 : (Lit.int .i64 a0_2).wf = true) (h0_3 : In2 l0_3) (t0_3 : Tab H s0_3 l0_3) (h1 : (Lit.int .i64 a1).wf = true) (h2 : (Lit.int .i64 a2).wf = true) (h3 : (Lit.int .i64 a3).wf = true) (h4 : (Lit.int .i64 a4).wf = true) (h5 : (Lit.int .i64 a5).wf = true) : Ev (fun ρ k κ => semigrouplaw17_ReesMultiplies k s0_0 a0_1 a0_2 s0_3 a0_4 a1 a2 a3 a4 a5 H.length H κ) (fun v _ => v = true) := by
  refine ev_eq (fun _ k _ => semigrouplaw17_ReesMultiplies_eq k) (ev_alcB fun p H2 hp _ l2 => ev_fldS hp rfl (ev_is (semigrouplaw17_large_ev h0_0 (t0_0.le l2)) (ev_if (fun _ => ev_call semigrouplaw17_awake_true fun v H' hv => ev_ret hv) (fun _ => ev_siisb hp ?_))))
  refine ev_call (rees_Number_ev h0_0 (t0_0.le l2) h0_3 (t0_3.le l2)) fun n H15 ⟨en, l15⟩ => ev_siisb (hp.le l15) ?_
  have hp := hp.le l15
  have l15 := l2.trans l15
  refine ev_call (rees_Mul_ev h0_0 (t0_0.le l15) h0_3 (t0_3.le l15)) fun m H22 ⟨em, l22⟩ => ev_siisb (hp.le l22) ?_
  have hp := hp.le l22
  have l22 := l15.trans l22
  refine ev_call (semigroupref17_Validate_ev h0_0 (t0_0.le l22) h0_3 (t0_3.le l22)) fun v H29 ⟨ev, l29⟩ => ?_
  subst ev
  have hp := hp.le l29
  have l29 := l22.trans l29
  have aw : ∀ {g : Bool} {H' : AH}, g = true → Ev (fun ρ k κ => andB g (fun _ κ' => semigrouplaw17_awake k H'.length H' fun v32 H33 => κ' v32 H33) H' fun b34 H35 => κ b34 H35) (fun v _ => v = true) := fun hg =>
    ev_and (S := fun b _ => b = true) (fun _ => ev_call semigrouplaw17_awake_true fun v H' hv => ev_ret hv) (fun e => by rw [hg] at e; cases e) fun b H' hb => ev_ret hb
  refine ev_nif (fun h => ?_) (fun h => ?_)
  · rw [if_neg h] at en em
    exact ev_andI (c := true) (fun _ => ev_ret ⟨by simp [em], rfl⟩) (fun e => by simp [en] at e) (aw rfl)
  · rw [if_pos h] at en em
    have hv := rval_rv.1 h
    refine ev_siisb hp (ev_call (semigroupref17_Number_ev (t0_0.le l29).len hv) fun n' H42 ⟨en', l42⟩ => ?_)
    have hp := hp.le l42
    have l42 := l29.trans l42
    exact ev_andT (by simp [en, en']) (ev_siisb hp (ev_call (semigroupref17_Mul_ev (t0_0.le l42) (t0_3.le l42) hv (wf_i64 h4)) fun m' H49 ⟨em', l49⟩ => ev_ret ⟨by simp [em, em'], l49⟩)) fun H51 _ => aw rfl
end Go.Ab
