/- GreenRegular: for every table the law answers true. No condition but that the arguments come in. -/
import Derived.Test.YtmdndoghdbhipaaRGreenRegularF12
set_option linter.unusedVariables false
set_option linter.unusedSimpArgs false
namespace Go.Ab
open Go

open Classical in
theorem law_GreenRegular {H : AH} {s0 : Sl} {l0 : List (List Int)} {a1 : Int} (h0 : In2 l0) (t0 : Tab H s0 l0) (h1 : (Lit.int .i64 a1).wf = true) : Ev (fun ρ k κ => semigrouplaw15_GreenRegular k s0 a1 H.length H κ) (fun v _ => v = true) := by
  have aw : ∀ H : AH, Ev (fun ρ k κ => semigrouplaw15_awake k H.length H fun v H' => κ v H') (fun v _ => v = true) := fun H => ev_call semigrouplaw15_awake_true fun v H' hv => ev_ret hv
  refine ev_eq (fun _ k _ => semigrouplaw15_GreenRegular_eq k) (ev_is (semigrouplaw15_large_ev h0 t0) (ev_if (fun _ => aw _) (fun _ => ?_)))
  refine ev_call (green_Regular_ev (Nat.le_refl _) h0 t0) fun r H6 hr => ev_call (green_Inverses_ev (Nat.le_refl _) h0 (t0.le hr.le)) fun i H8 hi => ?_
  have l8 := hr.le.trans hi.le
  refine ev_is (semigroupref14_Valid_ev h0 (t0.le l8)) (ev_nif (fun h => ?_) (fun h => ?_))
  · rw [vif_neg h] at hr
    rw [if_neg (fun hh => h hh.1)] at hi
    exact ev_andT' (by simp [hr.len]) (ev_ret ⟨by simp [hi.len], rfl⟩) (ev_aw rfl aw)
  · have hv := val_va.1 h
    have hsq := hv.toSq
    have hn := hv.le
    have hnJ := nJ_le hv
    rw [vif_pos h] at hr
    have lr : (regL l0).length = nJ l0 := brow_len _ _
    refine ev_call (semigroupref15_Regular_ev (Nat.le_refl _) hv (t0.le l8)) fun w H18 hw => ev_nneg (by rw [hr.len, hw.len]) ?_
    have l18 := l8.trans hw.le
    rw [hr.len, lr]
    refine ev_for0 (g := fun c ρ k κ => semigrouplaw15_GreenRegular_1 k s0 a1 r i w (nJ l0 : Int) c H.length H18 κ) (nJ l0 : Int) (fun _ => True) ?_ ?_ 0 (by omega) (by omega) trivial
    · intro c c0 c1 _
      right
      refine ⟨trivial, fun h' => ?_⟩
      refine ev_eq (fun _ k _ => semigrouplaw15_GreenRegular_1_eq k) (ev_pos c1 (ev_rdB (hr.rowB.le (hi.le.trans hw.le)) c0 (by omega) (ev_rdB hw.rowB c0 (by omega) (ev_f (by simp) ?_))))
      rw [W_add c0 c1 (by omega)]; exact h'
    · intro _
      refine ev_eq (fun _ k _ => semigrouplaw15_GreenRegular_1_eq k) (ev_neg (by omega) (ev_mkbI [a1] fun s H4 hs l4 => ev_is (semigroupref14_In_ev (b := decide (El l0 [a1])) (t0.le l18).len hs (by simp) (by simp)) ?_))
      have l4 := l18.trans l4
      have hEl : El l0 [a1] ↔ 0 ≤ a1 ∧ a1 < (l0.length : Int) := by simp [El]
      refine ev_nif (fun he => ?_) (fun he => ?_)
      · rw [if_neg (fun hh => he (hEl.2 hh.2))] at hi
        exact ev_aw (by simp [hi.len]) aw
      · obtain ⟨x0, x1⟩ := hEl.1 he
        rw [if_pos ⟨h, x0, x1⟩] at hi
        have hl : (invsOf l0 a1).length ≤ l0.length := sel_len
        exact ev_call (semigroupref15_Inverses_ev (Nat.le_refl _) hsq (t0.le l4) x0 x1) fun u H12 hu => ev_is (semigroupref03_Same_ev ((hi.row.le hw.le).le ((by assumption : Le H18 H4).trans hu.le)) hu.row (by omega)) (ev_aw (by simp) aw)
end Go.Ab
