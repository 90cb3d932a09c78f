/- ReesValidates: for every structure the law answers true. No condition but that the arguments come in. -/
import Derived.Test.YtnoickhdbinciaaRReesValidatesF7
set_option linter.unusedVariables false
set_option linter.unusedSimpArgs false
namespace Go.Ab
open Go

theorem law_ReesValidates {H : AH} {s0_0 : Sl} {l0_0 : List (List Int)} {a0_1 : Int} {a0_2 : Int} {s0_3 : Sl} {l0_3 : List (List Int)} {a0_4 : Bool} (h0_0 : In2 l0_0) (t0_0 : Tab H s0_0 l0_0) (h0_1 : (Lit.int .i64 a0_1).wf = true) (h0_2 : (Lit.int .i64 a0_2).wf = true) (h0_3 : In2 l0_3) (t0_3 : Tab H s0_3 l0_3) : Ev (fun ρ k κ => semigrouplaw17_ReesValidates k s0_0 a0_1 a0_2 s0_3 a0_4 H.length H κ) (fun v _ => v = true) := by
  have aw : ∀ H : AH, Ev (fun ρ k κ => semigrouplaw17_awake k H.length H fun v H' => κ v H') (fun v _ => v = true) := fun H => ev_call semigrouplaw17_awake_true fun v H' hv => ev_ret hv
  refine ev_eq (fun _ k _ => semigrouplaw17_ReesValidates_eq k) (ev_alcB fun p H2 hp _ l2 => ev_fldS hp rfl (ev_is (semigrouplaw17_large_ev h0_0 (t0_0.le l2)) (ev_if (fun _ => aw _) (fun _ => ev_siisb hp ?_))))
  refine ev_call (semigroupref17_Validate_ev h0_0 (t0_0.le l2) h0_3 (t0_3.le l2)) fun v H15 ⟨e, l15⟩ => ?_
  subst e
  have hp := hp.le l15
  have l15 := l2.trans l15
  refine ev_nif (fun h => ?_) (fun h => ?_)
  · refine ev_siisb hp (ev_call (rees_Validate_ev h0_0 (t0_0.le l15) h0_3 (t0_3.le l15)) fun v H22 ⟨e, l22⟩ => ?_)
    have hp := hp.le l22
    have l22 := l15.trans l22
    refine ev_andT (by simp [e]) (ev_siisb hp (ev_call (rees_Size_ev h0_0 (t0_0.le l22) h0_3 (t0_3.le l22)) fun v H29 ⟨e, l29⟩ => ev_ret ⟨by simp [e, h], l29⟩)) fun H31 l31 => ?_
    have hp := hp.le l31
    have l31 := l22.trans l31
    refine ev_andT rfl (ev_siisb hp (ev_call (rees_Regular_ev (Nat.le_refl _) h0_0 (t0_0.le l31) h0_3 (t0_3.le l31)) fun v H38 ⟨e, l38⟩ => ev_ret ⟨by simp [e, h], l38⟩)) fun H40 l40 => ev_aw rfl aw
  · have hv := rval_rv.1 h
    refine ev_siisb hp (ev_call (rees_Validate_ev h0_0 (t0_0.le l15) h0_3 (t0_3.le l15)) fun v H22 ⟨e, l22⟩ => ?_)
    have hp := hp.le l22
    have l22 := l15.trans l22
    refine ev_andT (by simp [e]) (ev_siisb hp (ev_call (rees_Size_ev h0_0 (t0_0.le l22) h0_3 (t0_3.le l22)) fun v H29 ⟨e, l29⟩ => ev_siisb (hp.le l29) (ev_call (semigroupref17_Size_ev ((t0_0.le l22).le l29).len hv) fun w H65 ⟨ew, l65⟩ => ev_ret ⟨by simp [e, ew, h], l29.trans l65⟩))) fun H31 l31 => ?_
    have hp := hp.le l31
    have l31 := l22.trans l31
    refine ev_andT rfl (ev_siisb hp (ev_call (rees_Regular_ev (Nat.le_refl _) h0_0 (t0_0.le l31) h0_3 (t0_3.le l31)) fun v H38 ⟨e, l38⟩ => ev_siisb (hp.le l38) (ev_call (semigroupref17_Regular_ev (Nat.le_refl _) ((t0_3.le l31).le l38) hv) fun w H81 ⟨ew, l81⟩ => ev_ret ⟨by simp [e, ew, h], l38.trans l81⟩))) fun H40 l40 => ev_aw rfl aw
end Go.Ab
