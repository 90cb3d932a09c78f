/- MorphFactors: for all arguments the law answers true. No condition but that they come in. -/
import Derived.Test.YtdoggefpmamoiaaRMorphFactorsF1
/- MorphFactors: for all arguments the law answers true. No condition but that they come in. -/
set_option linter.unusedVariables false
set_option linter.unusedSimpArgs false
namespace Go.Ab
open Go

open Classical in
theorem law_MorphFactors {H : AH} {s0 : Sl} {l0 : List (List Int)} {s1 : Sl} {l1 : List (List Int)} {s2 : Sl} {l2 : List Int} (h0 : In2 l0) (t0 : Tab H s0 l0) (h1 : In2 l1) (t1 : Tab H s1 l1) (h2 : In1 l2) (t2 : Row H s2 l2) : Ev (fun ρ k κ => semigrouplaw20_MorphFactors k s0 s1 s2 H.length H κ) (fun v _ => v = true) := by
  have aw : ∀ H : AH, Ev (fun ρ k κ => semigrouplaw20_awake k H.length H fun v H' => κ v H') (fun v _ => v = true) := fun H => ev_call semigrouplaw20_awake_true fun v H' hv => ev_ret hv
  refine ev_eq (fun _ k _ => semigrouplaw20_MorphFactors_eq k) (ev_is (semigrouplaw20_large_ev h0 t0) ?_)
  refine ev_orV (c := decide ((l1.length : Int) > 14 ∧ shp l1 = 0)) (fun _ => ev_is (semigrouplaw20_large_ev h1 t1) (ev_ret ⟨rfl, rfl⟩)) (ev_b (fun _ => aw _) (fun _ => ?_))
  refine ev_call (morph_Factor_ev (Nat.le_refl _) h0 h1 t0 t1 t2) fun r9 H10 ⟨e9, T, o, l, hS, hne, heq⟩ => ?_
  have t0' := t0.le hS.le
  have t1' := t1.le hS.le
  have t2' := t2.le hS.le
  refine ev_is (semigroupref14_Validate_ev h0 t0') ?_
  have bad : ∀ g : Int, g = ferr l0 l1 l2 → g ≠ 0 → Ev (fun ρ k κ => semigrouplaw20_MorphFactors_2 k s0 s1 s2 r9.1 r9.2.1 r9.2.2.1 r9.2.2.2 g H.length H10 κ) (fun v _ => v = true) := by
    intro g hg h0
    obtain ⟨rfl, rfl, rfl⟩ := hne (hg ▸ h0)
    exact ev_eq (fun _ k _ => semigrouplaw20_MorphFactors_2_eq k) (ev_npos h0 (ev_andT' (by rw [e9, hg]; simp) (ev_ret ⟨by simp [hS.len], rfl⟩) (ev_andT' rfl (ev_ret ⟨by simp [(hS.pull 1).len], rfl⟩) (ev_andT' rfl (ev_ret ⟨by simp [(hS.pull 2).len], rfl⟩) (ev_aw rfl aw)))))
  refine ev_if (fun ha => ev_is (semigroupref14_Validate_ev h1 t1') ?_) (fun ha => ?_)
  · by_cases hb : val l1 = 0
    · have hv := val_va.1 ha
      have hw := val_va.1 hb
      have hn := hv.le
      have hm := hw.le
      refine ev_eq (fun _ k _ => semigrouplaw20_MorphFactors_1_eq k) (ev_andV (c := !decide ((val l0 = 0 ∧ val l1 = 0) ∧ Hm l0 l1 l2)) (fun _ => ev_is (semigroupref20_IsHom_ev h0 h1 h2.1 t0' t1' t2') (ev_ret ⟨rfl, rfl⟩)) (ev_b (fun hh => ?_) (fun hh => ?_)))
      · refine bad 1 ?_ (by decide)
        unfold ferr
        rw [if_pos ha, if_pos hb, if_neg (fun h => by simp [ha, hb, h] at hh)]
      · have hH : Hm l0 l1 l2 := by simpa [ha, hb] using hh
        have e0 : ferr l0 l1 l2 = 0 := by unfold ferr; rw [if_pos ha, if_pos hb, if_pos hH]
        obtain ⟨hc, rfl, rfl⟩ := heq e0
        have hl := hH.len
        have lc := hc.len
        have cg := ker_cg hv hH hc
        have qv := cg.qva hv
        have qn := qv.le
        have hq2 := in2_sq qv.toSq
        have vv := vl_hom hv hH hc
        refine ev_eq (fun _ k _ => semigrouplaw20_MorphFactors_2_eq k) (ev_nneg hb (ev_call (morph_Kernel_ev (Nat.le_refl _) h0 h1 t0' t1' t2') fun v11 H12 ⟨o2, hS2, _, ho2⟩ => ?_))
        have := (ho2 ⟨⟨ha, hb⟩, hH⟩).unique hc
        subst this
        refine ev_call (congr_Quotient_ev (Nat.le_refl _) h0 (t0'.le hS2.le) hS2.row) fun r13 H14 ⟨e13, hS3⟩ => ?_
        have e13 : r13.2 = 0 := by rw [e13]; unfold qerr; rw [if_pos ha, if_pos cg]
        rw [if_pos ⟨ha, cg⟩] at hS3
        have l14 := hS2.le.trans hS3.le
        have tq := (hS.tab).le l14
        refine ev_orF' (by rw [e9, e0]; simp) (ev_ret ⟨by rw [e13]; simp, rfl⟩) (ev_orVL (c := false) (fun _ => ev_call (congr_IsCongruence_ev h0 (t0'.le l14) (hS2.row.le hS3.le)) fun v H18 ⟨e, l⟩ => ev_ret ⟨by rw [e]; simp [ha, cg], l⟩) fun H20 l20 => ?_)
        have l20' := l14.trans l20
        refine ev_orF' rfl (ev_is (semigroupref03_SameRows_ev (hS.tab.le l20') (hS3.tab.le l20) hq2.1 fun v hv => (hq2.2 v hv).1) (ev_ret ⟨by simp, rfl⟩)) (ev_orF' rfl (ev_is (semigroupref03_Same_ev ((hS.pull 1).row.le l20') ((hS2.row.le hS3.le).le l20) (by omega)) (ev_ret ⟨by simp, rfl⟩)) (ev_orF' rfl (ev_is (morph_IsHom_ev h0 hq2 (t0'.le l20') (hS.tab.le l20') ((hS.pull 1).row.le l20')) (ev_ret ⟨?_, rfl⟩)) (ev_orF' rfl (ev_is (morph_IsHom_ev hq2 h1 (hS.tab.le l20') (t1'.le l20') ((hS.pull 2).row.le l20')) (ev_ret ⟨?_, rfl⟩)) (ev_orVL (c := false) (fun _ => ev_call (morph_Image_ev (Nat.le_refl _) hq2 h1 (hS.tab.le l20') (t1'.le l20') ((hS.pull 2).row.le l20')) fun v H38 hi => ev_ret ⟨?_, hi.le⟩) fun H40 l40 => ev_f rfl ?_))))
        · rw [decide_eq_true ⟨⟨ha, val_va.2 qv⟩, cg.hom hv⟩]; rfl
        · rw [decide_eq_true ⟨⟨val_va.2 qv, hb⟩, vv.1⟩]; rfl
        · rw [if_pos ⟨⟨val_va.2 qv, hb⟩, vv.1⟩] at hi
          rw [hi.len, (hS.tab).len, vv.2]; simp
        · have l40' := l20'.trans l40
          rw [t0'.len]
          refine ev_for0 (g := fun x ρ k κ => semigrouplaw20_MorphFactors_3 k s2 r9.2.1 r9.2.2.1 (l0.length : Int) x H.length H40 κ) (l0.length : Int) (fun _ => True) ?_ ?_ 0 (by omega) (by omega) trivial
          · intro x x0 x1 _
            right
            refine ⟨trivial, fun h' => ?_⟩
            have a := cg.at x0 x1
            have lq := qt_len (t := l0) (p := o2)
            have lv := vl_len (p := o2) (f := l2)
            refine ev_eq (fun _ k _ => semigrouplaw20_MorphFactors_3_eq k) (ev_pos x1 (ev_rdI ((hS.pull 1).row.le l40') x0 (by omega) (ev_rdI ((hS.pull 2).row.le l40') a.1 (by omega) (ev_rdI (t2'.le l40') x0 (by omega) (ev_nneg ?_ ?_)))))
            · exact vl_at hc.can (fun x y a b c d e => (hc.eqv x y a (by omega) c (by omega)).1 e) x0 (by omega)
            · rw [W_add x0 x1 (by omega)]; exact h'
          · intro _
            exact ev_eq (fun _ k _ => semigrouplaw20_MorphFactors_3_eq k) (ev_neg (by omega) (aw _))
    · refine ev_eq (fun _ k _ => semigrouplaw20_MorphFactors_1_eq k) (ev_andV (c := false) (fun h => absurd (of_decide_eq_true h) hb) (ev_f (by simp) (bad _ ?_ hb)))
      unfold ferr; rw [if_pos ha, if_neg hb]
  · refine ev_eq (fun _ k _ => semigrouplaw20_MorphFactors_1_eq k) (ev_andV (c := false) (fun h => absurd (of_decide_eq_true h) ha) (ev_f (by simp) (bad _ ?_ ha)))
    unfold ferr; rw [if_neg ha]
end Go.Ab
