/- ReesTables: for every structure the law answers true. No condition but that the arguments come in. -/
import Derived.Test.YtnoickhdbinciaaRReesTablesF7
set_option linter.unusedVariables false
set_option linter.unusedSimpArgs false
namespace Go.Ab
open Go

theorem law_ReesTables {H : AH} {s0_0 : Sl} {l0_0 : List (List Int)} {a0_1 : Int} {a0_2 : Int} {s0_3 : Sl} {l0_3 : List (List Int)} {a0_4 : Bool} (h0_0 : In2 l0_0) (t0_0 : Tab H s0_0 l0_0) (h0_1 : (Lit.int .i64 a0_1).wf = true) (h0_2 : (Lit.int .i64 a0_2).wf = true) (h0_3 : In2 l0_3) (t0_3 : Tab H s0_3 l0_3) : Ev (fun ρ k κ => semigrouplaw17_ReesTables k s0_0 a0_1 a0_2 s0_3 a0_4 H.length H κ) (fun v _ => v = true) := by
  have aw : ∀ H : AH, Ev (fun ρ k κ => semigrouplaw17_awake k H.length H fun v H' => κ v H') (fun v _ => v = true) := fun H => ev_call semigrouplaw17_awake_true fun v H' hv => ev_ret hv
  refine ev_eq (fun _ k _ => semigrouplaw17_ReesTables_eq k) (ev_alcB fun p H2 hp _ l2 => ev_fldS hp rfl (ev_is (semigrouplaw17_large_ev h0_0 (t0_0.le l2)) (ev_if (fun _ => aw _) (fun _ => ev_siisb hp ?_))))
  refine ev_call (semigroupref17_Validate_ev h0_0 (t0_0.le l2) h0_3 (t0_3.le l2)) fun v H15 ⟨e, l15⟩ => ?_
  subst e
  have hp := hp.le l15
  have l15 := l2.trans l15
  refine ev_and (S := fun b H' => (b = true → rval l0_0 a0_1 a0_2 l0_3 a0_4 = 0) ∧ Le H15 H') (fun h => ?_) (fun _ => ⟨fun e => by (cases e), Le.refl _⟩) fun b H24 ⟨hb, l24⟩ => ?_
  · have hv := of_decide_eq_true h
    exact ev_siisb hp (ev_call (semigroupref17_Size_ev (t0_0.le l15).len (rval_rv.1 hv)) fun v H22 ⟨e, l22⟩ => ev_ret ⟨fun _ => hv, l22⟩)
  refine ev_b (fun _ => aw _) (fun _ => ?_)
  have hp := hp.le l24
  have l24 := l15.trans l24
  refine ev_siisb hp (ev_call (rees_Table_ev (Nat.le_refl _) h0_0 (t0_0.le l24) h0_3 (t0_3.le l24)) fun r H33 ⟨er, hS⟩ => ?_)
  have hp := hp.le hS.le
  have l33 := l24.trans hS.le
  refine ev_nif (fun h => ?_) (fun h => ?_)
  · rw [if_neg h] at hS
    have hl : r.1.len = 0 := hS.len
    exact ev_andI (c := true) (fun _ => ev_ret ⟨by simp [hl], rfl⟩) (fun e => by simp [er] at e) (ev_aw rfl aw)
  · have hv := rval_rv.1 h
    rw [if_pos h] at hS
    have hva := rtab_va hv
    have hin := in2_sq hva.toSq
    refine ev_andT (by simp [er, h]) (ev_siisb hp (ev_call (semigroupref17_Table_ev (Nat.le_refl _) (t0_0.le l33) (t0_3.le l33) hv) fun t H46 hS2 => ev_call (semigroupref03_SameRows_ev (hS.tab.le hS2.le) hS2.tab hin.1 (fun v hv => (hin.2 v hv).1)) fun b H' ⟨e, e2⟩ => ev_ret ⟨by simp [e], by rw [e2]; exact hS2.le⟩)) fun H50 l50 => ?_
    exact ev_andT rfl (ev_call (mult_Validate_ev hin (hS.tab.le l50)) fun v H' ⟨e, e2⟩ => ev_ret ⟨by simp [e, val_va.2 hva], by rw [e2]; exact Le.refl _⟩) fun H54 _ => ev_aw rfl aw
end Go.Ab
