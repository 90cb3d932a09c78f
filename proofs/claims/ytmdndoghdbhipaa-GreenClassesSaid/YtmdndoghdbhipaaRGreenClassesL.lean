/- GreenClasses: for every table the law answers true. No condition but that it comes in. -/
import Derived.Test.YtmdndoghdbhipaaRGreenClassesF11
set_option linter.unusedVariables false
set_option linter.unusedSimpArgs false
namespace Go.Ab
open Go

theorem nil_row {H : AH} : Row H ⟨none, 0⟩ [] := ⟨rfl, fun j x hj => by (simp at hj), fun p hp => by (cases hp)⟩
theorem nil_tabB {H : AH} : TabB H ⟨none, 0⟩ [] := ⟨rfl, fun j x hj => by (simp at hj), fun p hp => by (cases hp)⟩
theorem law_GreenClasses {H : AH} {s0 : Sl} {l0 : List (List Int)} (h0 : In2 l0) (t0 : Tab H s0 l0) : Ev (fun ρ k κ => semigrouplaw15_GreenClasses k s0 H.length H κ) (fun v _ => v = true) := by
  have aw : ∀ H : AH, Ev (fun ρ k κ => semigrouplaw15_awake k H.length H fun v H' => κ v H') (fun v _ => v = true) := fun H => ev_call semigrouplaw15_awake_true fun v H' hv => ev_ret hv
  refine ev_eq (fun _ k _ => semigrouplaw15_GreenClasses_eq k) (ev_is (semigrouplaw15_large_ev h0 t0) (ev_if (fun _ => aw _) (fun _ => ?_)))
  refine ev_call (green_Classes_ev (Nat.le_refl _) h0 t0) fun r H6 hS => sp_alc hS fun p H8 hS => sp_stnC hS (Nat.le_refl _) rfl fun H9 hS => ?_
  refine ev_is (semigroupref14_Valid_ev h0 (t0.le hS.le)) (ev_nif (fun h => ?_) (fun h => ?_))
  · refine ev_sssss hS.at1 ?_
    simp only [OwnG', vif_neg h] at hS
    exact ev_call (semigroupref15_Same_ev (hS.pull 1).row (hS.pull 2).row (hS.pull 3).row (hS.pull 4).row (hS.pull 5).tabB nil_row nil_row nil_row nil_row nil_tabB (by simp) (by simp) (by simp) (by simp) (by simp) (fun x a b => by simp at b; omega)) fun v H18 ⟨e, _⟩ => ev_aw e aw
  · have hv := val_va.1 h
    have hle := hv.le
    refine ev_sssss hS.at1 ?_
    simp only [OwnG', vif_pos h] at hS
    have lB : (gB l0).length = nJ l0 := btab_len _ _ _
    have hnJ := nJ_le hv
    refine ev_call (semigroupref15_Classes_ev (Nat.le_refl _) hv (t0.le hS.le)) fun q H29 h29 => ?_
    have hS := hS.on h29.le
    exact ev_call (semigroupref15_Same_ev (hS.pull 1).row (hS.pull 2).row (hS.pull 3).row (hS.pull 4).row (hS.pull 5).tabB h29.row (h29.pull 1).row (h29.pull 2).row (h29.pull 3).row (h29.pull 4).tabB (by have := (gR_cl hv).len; omega) (by have := (gL_cl hv).len; omega) (by have := (gJ_cl hv).len; omega) (by have := (gH_cl hv).len; omega) (by omega) (fun x a b => by rw [show rdOf [] (gB l0) x = _ from rfl, gB, btab_rlen a (by omega)]; omega)) fun v H18 ⟨e, _⟩ => ev_aw e aw
end Go.Ab
