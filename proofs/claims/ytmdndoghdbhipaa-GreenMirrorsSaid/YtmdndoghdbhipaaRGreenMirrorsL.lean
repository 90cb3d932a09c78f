/- GreenMirrors: for every table the law answers true. No condition but that the arguments come in. -/
import Derived.Test.YtmdndoghdbhipaaRGreenMirrorsF13
set_option linter.unusedVariables false
set_option linter.unusedSimpArgs false
namespace Go.Ab
open Go

open Classical in
theorem law_GreenMirrors {H : AH} {s0 : Sl} {l0 : List (List Int)} (h0 : In2 l0) (t0 : Tab H s0 l0) : Ev (fun ρ k κ => semigrouplaw15_GreenMirrors k s0 H.length H κ) (fun v _ => v = true) := by
  have aw : ∀ H : AH, Ev (fun ρ k κ => semigrouplaw15_awake k H.length H fun v H' => κ v H') (fun v _ => v = true) := fun H => ev_call semigrouplaw15_awake_true fun v H' hv => ev_ret hv
  refine ev_eq (fun _ k _ => semigrouplaw15_GreenMirrors_eq k) (ev_is (semigrouplaw15_small_ev h0 t0) (ev_nif (fun _ => aw _) (fun hsm => ?_)))
  have h := hsm.2
  have hv := val_va.1 h
  have hn := hv.le
  have hnJ := nJ_le hv
  have hvo := opp_va hv
  have ho := val_va.2 hvo
  have lB : (gB l0).length = nJ l0 := btab_len _ _ _
  have lJ := (gJ_cl hv).len
  refine ev_call (green_Classes_ev (Nat.le_refl _) h0 t0) fun r H6 h6 => ev_call (mult_Opposite_ev (Nat.le_refl _) h0 (t0.le h6.le)) fun v7 H8 h8 => ?_
  rw [vif_pos h] at h8
  refine ev_call (green_Classes_ev (Nat.le_refl _) (in2_sq hvo.toSq) h8.tab) fun q H10 h10 => ?_
  simp only [OwnG', vif_pos h] at h6
  simp only [OwnG', vif_pos ho, opp_gR hv, opp_gL hv, opp_gJ hv, opp_gH hv, opp_gB hv] at h10
  refine sp_alc ((h6.on h8.le).call h10) fun p H12 hS => sp_alc hS fun p' H14 hS => sp_stnC (hS.pull 1) (Nat.le_refl _) rfl fun H15 hS => sp_stnC (hS.pull 1) (Nat.le_refl _) rfl fun H16 hS => ?_
  have hp' := hS.at1
  have hp := (hS.pull 1).at1
  have q1 := (hS.pull 2).row
  have q2 := (hS.pull 3).row
  have q3 := (hS.pull 4).row
  have q4 := (hS.pull 5).row
  have q5 := (hS.pull 6).tabB
  have r1 := (hS.pull 7).row
  have r2 := (hS.pull 8).row
  have r3 := (hS.pull 9).row
  have r4 := (hS.pull 10).row
  have r5 := (hS.pull 11).tabB
  have lR := (gR_cl hv).len
  have lL := (gL_cl hv).len
  have lH := (gH_cl hv).len
  refine ev_fldS hp rfl (ev_orF' (by simp [r3.len, t0.len, lJ]) (ev_fldS hp rfl (ev_fldS hp' rfl (ev_ret ⟨by simp [r5.len, q5.len], rfl⟩))) (ev_f rfl (ev_fldS hp rfl ?_)))
  rw [r5.len, lB]
  refine ev_for0 (g := fun i ρ k κ => semigrouplaw15_GreenMirrors_1 k (some p) (some p') (nJ l0 : Int) i H.length H16 κ) (nJ l0 : Int) (fun _ => True) ?_ ?_ 0 (by omega) (by omega) trivial
  · intro i i0 i1 _
    right
    refine ⟨trivial, fun h' => ?_⟩
    have lr : (rdOf [] (gB l0) i).length = nJ l0 := btab_rlen i0 i1
    refine ev_eq (fun _ k _ => semigrouplaw15_GreenMirrors_1_eq k) (ev_pos i1 (ev_asP (ev_fldS hp rfl (ev_rdSB r5 i0 (by omega) fun w hw => ?_))))
    rw [hw.len, lr]
    refine ev_for0 (g := fun j ρ k κ => semigrouplaw15_GreenMirrors_2 k (some p) (some p') i (nJ l0 : Int) i (nJ l0 : Int) j H.length H16 κ) (nJ l0 : Int) (fun _ => True) ?_ ?_ 0 (by omega) (by omega) trivial
    · intro j j0 j1 _
      right
      refine ⟨trivial, fun h' => ?_⟩
      refine ev_eq (fun _ k _ => semigrouplaw15_GreenMirrors_2_eq k) (ev_pos j1 (ev_asP (ev_fldS hp' rfl (ev_rdSB q5 i0 (by omega) fun w' hw' => ev_orF' (by rw [hw'.len, lr]; simp; omega) (ev_asP (ev_fldS hp rfl (ev_rdSB r5 i0 (by omega) fun x hx => ev_rdB hx j0 (by omega) (ev_asP (ev_fldS hp' rfl (ev_rdSB q5 i0 (by omega) fun y hy => ev_rdB hy j0 (by omega) (ev_ret ⟨by simp, rfl⟩))))))) (ev_f rfl ?_)))))
      rw [W_add j0 j1 (by omega)]; exact h'
    · intro _
      refine ev_eq (fun _ k _ => semigrouplaw15_GreenMirrors_2_eq k) (ev_neg (by omega) ?_)
      rw [W_add i0 i1 (by omega)]; exact h'
  · intro _
    refine ev_eq (fun _ k _ => semigrouplaw15_GreenMirrors_1_eq k) (ev_neg (by omega) (ev_asP (ev_fldS hp rfl (ev_asP (ev_fldS hp' rfl (ev_is (semigroupref03_Same_ev r1 q2 (by omega)) ?_))))))
    refine ev_andT' (by simp) (ev_asP (ev_fldS hp rfl (ev_asP (ev_fldS hp' rfl (ev_is (semigroupref03_Same_ev r2 q1 (by omega)) (ev_ret ⟨by simp, rfl⟩)))))) ?_
    refine ev_andT' rfl (ev_asP (ev_fldS hp rfl (ev_asP (ev_fldS hp' rfl (ev_is (semigroupref03_Same_ev r3 q3 (by omega)) (ev_ret ⟨by simp, rfl⟩)))))) ?_
    exact ev_andT' rfl (ev_asP (ev_fldS hp rfl (ev_asP (ev_fldS hp' rfl (ev_is (semigroupref03_Same_ev r4 q4 (by omega)) (ev_ret ⟨by simp, rfl⟩)))))) (ev_aw rfl aw)
end Go.Ab
