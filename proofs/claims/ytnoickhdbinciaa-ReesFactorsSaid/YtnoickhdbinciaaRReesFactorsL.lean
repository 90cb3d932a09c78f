/- ReesFactors: for all arguments the law answers true. No condition but that they come in. -/
import Derived.Test.YtnoickhdbinciaaRReesFactorsF1
import Derived.Test.YtnoickhdbinciaaRReesFactorsM1
/- ReesFactors: for every table the law answers true. No condition but that the arguments come in. -/
set_option linter.unusedVariables false
set_option linter.unusedSimpArgs false
namespace Go.Ab
open Go

theorem semigrouplaw17_small_ev {s : Sl} {t : List (List Int)} {H : AH} {lo : Nat} {n : Int} (ht : In2 t) (hs : Tab H s t) : Ev (fun ρ k κ => semigrouplaw17_small k s n lo H κ) (Is (decide ((t.length : Int) ≤ n ∧ val t = 0)) H) := by
  refine ev_eq (fun _ k _ => semigrouplaw17_small_eq k) ?_
  rw [hs.len]
  exact ev_andP (fun _ => ev_is (semigroupref14_Valid_ev ht hs) (ev_ret ⟨rfl, rfl⟩)) (ev_ret ⟨rfl, rfl⟩)
open Classical in
theorem law_ReesFactors {H : AH} {s0 : Sl} {l0 : List (List Int)} (h0 : In2 l0) (t0 : Tab H s0 l0) : Ev (fun ρ k κ => semigrouplaw17_ReesFactors k s0 H.length H κ) (fun v _ => v = true) := by
  have aw : ∀ H : AH, Ev (fun ρ k κ => semigrouplaw17_awake k H.length H fun v H' => κ v H') (fun v _ => v = true) := fun H => ev_call semigrouplaw17_awake_true fun v H' hv => ev_ret hv
  refine ev_eq (fun _ k _ => semigrouplaw17_ReesFactors_eq k) (ev_is (semigrouplaw17_small_ev h0 t0) (ev_nif (fun _ => aw _) (fun hsm => ?_)))
  obtain ⟨hn14, h⟩ := hsm
  have hv := val_va.1 h
  have hsq := hv.toSq
  have hnJ := nJ_le hv
  have lB : (gB l0).length = nJ l0 := btab_len _ _ _
  have lJ := (gJ_cl hv).len
  refine ev_call (green_Classes_ev (Nat.le_refl _) h0 t0) fun r H6 hg => sp_alc hg fun p H8 hS => sp_stnC hS (Nat.le_refl _) rfl fun Hb hS => ev_fldS hS.at1 rfl ?_
  simp only [OwnG', vif_pos h] at hS
  have hp := hS.at1
  have r3 := (hS.pull 3).row
  have rB := (hS.pull 5).tabB
  have tb := t0.le hS.le
  rw [rB.len, lB]
  refine ev_loop (α := AH) (g := fun j H1 ρ k κ => semigrouplaw17_ReesFactors_1 k s0 (some p) (nJ l0 : Int) j H.length H1 κ) (nJ l0 : Int) (fun j H1 => Le Hb H1) ?_ ?_ 0 Hb (by omega) (by omega) (Le.refl _)
  · intro j H1 j0 j1 l1 hk
    have hok : cerr l0 j = 0 := cerr_ok.2 ⟨h, j0, j1⟩
    have hpv := prT_va hv j0 j1 (by omega)
    have hpp := prL_pos hv j0 j1
    have hpl := prL_len hv j
    have hnd := prL_nodup l0 j
    refine ev_eq (fun _ k _ => semigrouplaw17_ReesFactors_1_eq k) (ev_pos j1 (ev_call (rees_Principal_ev (Nat.le_refl _) h0 (tb.le l1) (fun _ => by omega)) fun q H2 ⟨eq, hq⟩ => ?_))
    rw [if_pos hok, if_pos hok] at hq
    rw [hok] at eq
    have l2 := l1.trans hq.le
    have hT := hq.tab
    have hL := (hq.pull 1).row
    have lT : (prT l0 j).length = (prL l0 j).length := tab_len _ _
    refine ev_orF' (by simp [eq]) (ev_is (mult_Validate_ev (in2_sq hpv.toSq) hT) (ev_ret ⟨by simp [val_va.2 hpv], rfl⟩)) (ev_orF' rfl (ev_ret ⟨by simp [hL.len, hT.len, lT], rfl⟩) (ev_f rfl ?_))
    rw [hL.len]
    refine ev_loop (α := AH) (g := fun x H3 ρ k κ => semigrouplaw17_ReesFactors_2 k s0 (some p) j q.1 q.2.1 (nJ l0 : Int) j q.2.1 ((prL l0 j).length : Int) x H.length H3 κ) ((prL l0 j).length : Int) (fun x H3 => Le H2 H3) ?_ ?_ 0 H2 (by omega) (by omega) (Le.refl _)
    · intro x H3 x0 x1 l3 hk
      refine ev_eq (fun _ k _ => semigrouplaw17_ReesFactors_2_eq k) (ev_pos x1 (ev_rdI (hL.le l3) x0 x1 ?_))
      rw [hL.len]
      refine ev_loop (α := AH) (g := fun y H4 ρ k κ => semigrouplaw17_ReesFactors_3 k s0 (some p) j q.1 q.2.1 x (rd (prL l0 j) x) (nJ l0 : Int) j q.2.1 ((prL l0 j).length : Int) x q.2.1 ((prL l0 j).length : Int) y H.length H4 κ) ((prL l0 j).length : Int) (fun y H4 => Le H3 H4) ?_ ?_ 0 H3 (by omega) (by omega) (Le.refl _)
      · intro y H4 y0 y1 l4 hk
        have hT := hT.le (l3.trans l4)
        have hL := hL.le (l3.trans l4)
        have l5 := l2.trans (l3.trans l4)
        have tb := tb.le l5
        have hp := hp.le l5
        have r3 := r3.le l5
        have next : ∀ H5, Le H4 H5 → Ev (fun ρ k κ => semigrouplaw17_ReesFactors_4 k s0 (some p) j q.1 q.2.1 x (rd (prL l0 j) x) (nJ l0 : Int) j q.2.1 ((prL l0 j).length : Int) x q.2.1 ((prL l0 j).length : Int) y H.length H5 κ) (fun v _ => v = true) := fun H5 l => by
          refine ev_eq (fun _ k _ => semigrouplaw17_ReesFactors_4_eq k) ?_
          rw [W_add y0 y1 (by omega)]
          exact hk H5 (l4.trans l)
        have rT : ((R (prT l0 j) x).length : Int) = ((prL l0 j).length : Int) := by
          unfold prT; rw [tab_row x0 x1]
        have eM : M (prT l0 j) x y = prM l0 j x y := tab_M x0 x1 y0 y1
        have pin := prM_in hv (k := y) x0 x1
        have pval := prM_val hv x0 x1 y0 y1
        refine ev_eq (fun _ k _ => semigrouplaw17_ReesFactors_3_eq k) (ev_pos y1 (ev_rdI hL y0 y1 (ev_orP (c := rd (prL l0 j) y < 0) (fun _ => ev_ret ⟨rfl, rfl⟩) (ev_if (fun hneg => ?_) (fun hneg => ?_)))))
        · have e0 : prM l0 j x y = 0 := by
            rcases pval with ⟨a, b, _⟩ | ⟨_, b, _⟩
            · omega
            · exact b
          refine ev_rdM hT x0 (by omega) y0 (by omega) ?_
          rw [eM, e0]
          refine ev_orF' rfl (ev_andV (c := !decide (x = 0)) (fun _ => ev_ret ⟨rfl, rfl⟩) (ev_ret ⟨?_, rfl⟩)) (ev_f rfl (next H4 (Le.refl _)))
          by_cases hx : rd (prL l0 j) x < 0
          · simp [(prL_neg hv x0 x1 hx).1]
          · simp [hx]
        · obtain ⟨a0, b0⟩ : 0 ≤ rd (prL l0 j) x ∧ 0 ≤ rd (prL l0 j) y := by omega
          have ax : rd (prL l0 j) x < (l0.length : Int) ∧ rd (gJ l0) (rd (prL l0 j) x) = j := by
            rcases prL_in hv x0 x1 with h' | h'
            · omega
            · exact h'.2
          have ay : rd (prL l0 j) y < (l0.length : Int) ∧ rd (gJ l0) (rd (prL l0 j) y) = j := by
            rcases prL_in hv y0 y1 with h' | h'
            · omega
            · exact h'.2
          have m0 := hsq.lo _ _ a0 ax.1 b0 ay.1
          have m1 := hsq.hi _ _ a0 ax.1 b0 ay.1
          have rrow := hsq.row _ a0 ax.1
          refine ev_mkbI [rd (prL l0 j) x, rd (prL l0 j) y] fun w H11 hw l11 => ev_is (semigroupref14_In_ev (b := true) (tb.le l11).len hw (by simp) ?_) ?_
          · simp only [true_iff]
            intro z hz
            simp at hz
            rcases hz with rfl | rfl
            · exact ⟨a0, ax.1⟩
            · exact ⟨b0, ay.1⟩
          have hT := hT.le l11
          have hL := hL.le l11
          have tb := tb.le l11
          have hp := hp.le l11
          have r3 := r3.le l11
          refine ev_orF' rfl (ev_asP (ev_fldS hp rfl (ev_rdI r3 a0 (by omega) (ev_ret ⟨by simp [ax.2], rfl⟩)))) (ev_f rfl (ev_rdM tb a0 ax.1 b0 (by omega) (ev_rdM hT x0 (by omega) y0 (by omega) (ev_asP (ev_fldS hp rfl (ev_rdI r3 m0 (by omega) ?_))))))
          rw [eM]
          rcases pval with ⟨_, _, c3, c4⟩ | ⟨c1, c2, c3⟩
          · refine ev_andI (c := false) (fun _ => ev_rdI hL pin.1 pin.2 (ev_ret ⟨by rw [c4]; simp, rfl⟩)) (fun _ => rfl) (ev_orF' rfl (ev_asP (ev_fldS hp rfl (ev_rdI r3 m0 (by omega) (ev_andI (c := false) (fun hg => ?_) (fun _ => rfl) (ev_ret ⟨rfl, rfl⟩))))) (ev_f rfl (next _ l11)))
            rw [c3] at hg; simp at hg
          · have hne : rd (gJ l0) (M l0 (rd (prL l0 j) x) (rd (prL l0 j) y)) ≠ j := fun e => c1 ⟨a0, b0, e⟩
            refine ev_andI (c := false) (fun hg => ?_) (fun _ => rfl) (ev_orF' rfl (ev_asP (ev_fldS hp rfl (ev_rdI r3 m0 (by omega) (ev_andI (c := false) (fun hg => ev_rdI hL pin.1 pin.2 (ev_ret ⟨by rw [c2, c3]; simp, rfl⟩)) (fun _ => rfl) (ev_ret ⟨rfl, rfl⟩))))) (ev_f rfl (next _ l11)))
            exact absurd (of_decide_eq_true hg) hne
      · intro H4 l4
        refine ev_eq (fun _ k _ => semigrouplaw17_ReesFactors_3_eq k) (ev_neg (by omega) ?_)
        rw [W_add x0 x1 (by omega)]
        exact hk H4 (l3.trans l4)
    · intro H3 l3
      refine ev_eq (fun _ k _ => semigrouplaw17_ReesFactors_2_eq k) (ev_neg (by omega) ?_)
      rw [W_add j0 j1 (by omega)]
      exact hk H3 (l2.trans l3)
  · intro H1 l1
    refine ev_eq (fun _ k _ => semigrouplaw17_ReesFactors_1_eq k) (ev_neg (by omega) (ev_asP (ev_fldS (hp.le l1) rfl (ev_aw ?_ aw))))
    have := nJ_pos hv
    rw [rB.len, lB]
    exact decide_eq_true this
end Go.Ab
