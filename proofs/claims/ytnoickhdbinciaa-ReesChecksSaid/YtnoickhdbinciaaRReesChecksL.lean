/- ReesChecks: for all arguments the law answers true. No condition but that they come in. -/
import Derived.Test.YtnoickhdbinciaaRReesChecksF1
/- ReesChecks: for all arguments the law answers true. No condition but that they come in. -/
set_option linter.unusedVariables false
set_option linter.unusedSimpArgs false
namespace Go.Ab
open Go

theorem law_ReesChecks {H : AH} {s0 : Sl} {l0 : List (List Int)} {a1 : Int} {s2_0 : Sl} {l2_0 : List (List Int)} {a2_1 : Int} {a2_2 : Int} {s2_3 : Sl} {l2_3 : List (List Int)} {a2_4 : Bool} {s3 : Sl} {l3 : List Int} (h0 : In2 l0) (t0 : Tab H s0 l0) (h1 : (Lit.int .i64 a1).wf = true) (h2_0 : In2 l2_0) (t2_0 : Tab H s2_0 l2_0) (h2_1 : (Lit.int .i64 a2_1).wf = true) (h2_2 : (Lit.int .i64 a2_2).wf = true) (h2_3 : In2 l2_3) (t2_3 : Tab H s2_3 l2_3) (h3 : In1 l3) (t3 : Row H s3 l3) : Ev (fun ρ k κ => semigrouplaw17_ReesChecks k s0 a1 s2_0 a2_1 a2_2 s2_3 a2_4 s3 H.length H κ) (fun v _ => v = true) := by
  have aw : ∀ H : AH, Ev (fun ρ k κ => semigrouplaw17_awake k H.length H fun v H' => κ v H') (fun v _ => v = true) := fun H => ev_call semigrouplaw17_awake_true fun v H' hv => ev_ret hv
  refine ev_eq (fun _ k _ => semigrouplaw17_ReesChecks_eq k) (ev_alcB fun p H2 hp _ l2 => ev_is (semigrouplaw17_large_ev h0 (t0.le l2)) ?_)
  refine ev_orVL (c := decide ((l2_0.length : Int) > 8 ∧ shp l2_0 = 0)) (fun _ => ev_fldS hp rfl (ev_is (semigrouplaw17_large_ev h2_0 (t2_0.le l2)) (ev_ret ⟨rfl, Le.refl _⟩))) fun H10 l10 => ev_b (fun _ => aw _) (fun _ => ?_)
  have hp := hp.le l10
  have l10 := l2.trans l10
  refine ev_siisb hp (ev_call (rees_Check_ev (Nat.le_refl _) h0 (t0.le l10) h2_0 (t2_0.le l10) h2_3 (t2_3.le l10) (t3.le l10)) fun v H19 ⟨e, l19⟩ => ?_)
  have hp := hp.le l19
  have l19 := l10.trans l19
  exact ev_siisb hp (ev_call (semigroupref17_Check_ev (Nat.le_refl _) h0 (t0.le l19) h2_0 (t2_0.le l19) h2_3 (t2_3.le l19) (t3.le l19)) fun w H26 ⟨e', l26⟩ => ev_aw (by rw [e, e']; simp) aw)
end Go.Ab
