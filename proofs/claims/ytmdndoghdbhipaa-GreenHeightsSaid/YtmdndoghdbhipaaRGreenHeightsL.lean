/- GreenHeights: for every table the law answers true. No condition but that the arguments come in. -/
import Derived.Test.YtmdndoghdbhipaaRGreenHeightsF13
set_option linter.unusedVariables false
set_option linter.unusedSimpArgs false
namespace Go.Ab
open Go

open Classical in
theorem law_GreenHeights {H : AH} {s0 : Sl} {l0 : List (List Int)} (h0 : In2 l0) (t0 : Tab H s0 l0) : Ev (fun ρ k κ => semigrouplaw15_GreenHeights k s0 H.length H κ) (fun v _ => v = true) := by
  have aw : ∀ H : AH, Ev (fun ρ k κ => semigrouplaw15_awake k H.length H fun v H' => κ v H') (fun v _ => v = true) := fun H => ev_call semigrouplaw15_awake_true fun v H' hv => ev_ret hv
  refine ev_eq (fun _ k _ => semigrouplaw15_GreenHeights_eq k) (ev_is (semigrouplaw15_large_ev h0 t0) (ev_if (fun _ => aw _) (fun _ => ?_)))
  refine ev_call (green_Heights_ev (Nat.le_refl _) h0 t0) fun v5 H6 h6 => ev_is (semigroupref14_Valid_ev h0 (t0.le h6.le)) (ev_nif (fun h => ?_) (fun h => ?_))
  · rw [vif_neg h] at h6
    exact ev_aw (by simp [h6.len]) aw
  have hv := val_va.1 h
  have hn := hv.le
  have hnJ := nJ_le hv
  have hD := DJ_str hv
  have lB : (gB l0).length = nJ l0 := btab_len _ _ _
  rw [vif_pos h] at h6
  have lh : (htsL l0).length = nJ l0 := by simp [htsL]
  refine ev_call (semigroupref15_Classes_ev (Nat.le_refl _) hv (t0.le h6.le)) fun r H14 hg => sp_alc (h6.call hg) fun p H16 hS => sp_stnC hS (Nat.le_refl _) rfl fun H17 hS => ?_
  refine ev_call (semigroupref15_Heights_ev (Nat.le_refl _) hv (t0.le hS.le)) fun v18 H19 h19 => ?_
  have hS := hS.on h19.le
  have h5 : Row H19 v5 (htsL l0) := (hS.pull 6).row
  refine ev_is (semigroupref03_Same_ev h5 h19.row (by omega)) (ev_nf (by simp) (ev_fldS hS.at1 rfl ?_))
  have hp := hS.at1
  have hB : TabB H19 r.2.2.2.2 (gB l0) := (hS.pull 5).tabB
  rw [hB.len, lB]
  refine ev_for0 (g := fun i ρ k κ => semigrouplaw15_GreenHeights_1 k v5 (some p) (nJ l0 : Int) i H.length H19 κ) (nJ l0 : Int) (fun _ => True) ?_ ?_ 0 (by omega) (by omega) trivial
  · intro i i0 i1 _
    right
    refine ⟨trivial, fun h' => ?_⟩
    refine ev_eq (fun _ k _ => semigrouplaw15_GreenHeights_1_eq k) (ev_pos i1 (ev_asP (ev_fldS hp rfl ?_)))
    rw [hB.len, lB]
    refine ev_for0 (g := fun j ρ k κ => semigrouplaw15_GreenHeights_2 k v5 (some p) i (nJ l0 : Int) i (nJ l0 : Int) j H.length H19 κ) (nJ l0 : Int) (fun _ => True) ?_ ?_ 0 (by omega) (by omega) trivial
    · intro j j0 j1 _
      right
      refine ⟨trivial, fun h' => ?_⟩
      have hh : ∀ x : Int, 0 ≤ x → x < (nJ l0 : Int) → rd (htsL l0) x = (hgt (nJ l0) (DJ l0) x : Int) := fun x x0 x1 => by unfold htsL; rw [rd_map x0 x1, show ((x.toNat : Nat) : Int) = x by omega]
      refine ev_eq (fun _ k _ => semigrouplaw15_GreenHeights_2_eq k) (ev_pos j1 (ev_andV (c := decide (JJ l0 (fJ l0 j) (fJ l0 i))) (fun _ => ev_asP (ev_fldS hp rfl (ev_rdSB hB i0 (by omega) fun w hw => ev_rdB hw j0 (by rw [show rdOf [] (gB l0) i = _ from rfl, gB, btab_rlen i0 i1]; exact j1) (ev_ret ⟨gB_at i0 i1 j0 j1, rfl⟩)))) ?_))
      refine ev_andV (c := decide (rd (htsL l0) i ≤ rd (htsL l0) j)) (fun _ => ev_rdI h5 i0 (by omega) (ev_rdI h5 j0 (by omega) (ev_ret ⟨rfl, rfl⟩))) (ev_f ?_ ?_)
      · rw [Bool.eq_false_iff]
        simp only [ne_eq, Bool.and_eq_true, Bool.not_eq_true', decide_eq_false_iff_not, decide_eq_true_iff]
        rintro ⟨d, e⟩
        have := hgt_step hD i0 i1 j0 j1 d
        rw [hh i i0 i1, hh j j0 j1] at e
        omega
      · rw [W_add j0 j1 (by omega)]; exact h'
    · intro _
      refine ev_eq (fun _ k _ => semigrouplaw15_GreenHeights_2_eq k) (ev_neg (by omega) ?_)
      rw [W_add i0 i1 (by omega)]; exact h'
  · intro _
    exact ev_eq (fun _ k _ => semigrouplaw15_GreenHeights_1_eq k) (ev_neg (by omega) (aw _))
end Go.Ab
