/- GreenOrders: for every table the law answers true. No condition but that the arguments come in. -/
import Derived.Test.YtmdndoghdbhipaaRGreenOrdersF13
set_option linter.unusedVariables false
set_option linter.unusedSimpArgs false
namespace Go.Ab
open Go

open Classical in
theorem law_GreenOrders {H : AH} {s0 : Sl} {l0 : List (List Int)} {a1 : Int} {a2 : Int} {a3 : Int} (h0 : In2 l0) (t0 : Tab H s0 l0) (h1 : (Lit.int .i64 a1).wf = true) (h2 : (Lit.int .i64 a2).wf = true) (h3 : (Lit.int .i64 a3).wf = true) : Ev (fun ρ k κ => semigrouplaw15_GreenOrders k s0 a1 a2 a3 H.length H κ) (fun v _ => v = true) := by
  have aw : ∀ H : AH, Ev (fun ρ k κ => semigrouplaw15_awake k H.length H fun v H' => κ v H') (fun v _ => v = true) := fun H => ev_call semigrouplaw15_awake_true fun v H' hv => ev_ret hv
  refine ev_eq (fun _ k _ => semigrouplaw15_GreenOrders_eq k) (ev_is (semigrouplaw15_small_ev h0 t0) ?_)
  refine ev_orVL (c := decide (¬ El l0 [a1, a2, a3])) (fun _ => ev_mkbI [a1, a2, a3] fun s H14 hs l14 => ev_is (semigroupref14_In_ev (b := decide (El l0 [a1, a2, a3])) (t0.le l14).len hs (by simp) (by simp)) (ev_ret ⟨by simp, l14⟩)) fun H8 l8 => ev_b (fun _ => aw _) (fun hb => ?_)
  simp only [Bool.or_eq_false_iff, Bool.not_eq_false', decide_eq_true_iff, decide_eq_false_iff_not, Classical.not_not] at hb
  obtain ⟨⟨_, h⟩, he⟩ := hb
  obtain ⟨x0, x1⟩ := he a1 (by simp)
  obtain ⟨y0, y1⟩ := he a2 (by simp)
  obtain ⟨z0, z1⟩ := he a3 (by simp)
  have hv := val_va.1 h
  have hsq := hv.toSq
  have hn := hv.le
  refine ev_call (green_Classes_ev (Nat.le_refl _) h0 (t0.le l8)) fun r H12 hg => sp_alc hg fun p H14 hS => sp_stnC hS l8.len rfl fun Hb hS => ?_
  simp only [OwnG', vif_pos h] at hS
  have hp := hS.at1
  have r1 := (hS.pull 1).row
  have r2 := (hS.pull 2).row
  have r3 := (hS.pull 3).row
  have r4 := (hS.pull 4).row
  have cR := gR_cl hv
  have cL := gL_cl hv
  have cJ := gJ_cl hv
  have cH := gH_cl hv
  have lR := cR.len
  have lL := cL.len
  have lJ := cJ.len
  have lH := cH.len
  have tb := t0.le (l8.trans hS.le)
  refine ev_fldS hp rfl (ev_orF' (by simp [r1.len, tb.len, lR]) (ev_fldS hp rfl (ev_ret ⟨by simp [r2.len, tb.len, lL], rfl⟩)) (ev_orF' rfl (ev_fldS hp rfl (ev_ret ⟨by simp [r3.len, tb.len, lJ], rfl⟩)) (ev_orF' rfl (ev_fldS hp rfl (ev_ret ⟨by simp [r4.len, tb.len, lH], rfl⟩)) (ev_f rfl ?_))))
  have hrow := hsq.row a1 x0 x1
  refine ev_rdM tb x0 x1 y0 (by omega) ?_
  obtain ⟨m, hm⟩ : ∃ m, M l0 a1 a2 = m := ⟨_, rfl⟩
  rw [hm]
  have m0 : 0 ≤ m := by rw [← hm]; exact hsq.lo a1 a2 x0 x1 y0 y1
  have m1 : m < (l0.length : Int) := by rw [← hm]; exact hsq.hi a1 a2 x0 x1 y0 y1
  have pR := JR_pre hv
  have pL := JL_pre hv
  have pJ := JJ_pre hv
  have mR : JR l0 a1 m := .inr ⟨a2, y0, y1, hm.symm⟩
  have mL : JL l0 a2 m := .inr ⟨a1, x0, x1, hm.symm⟩
  have eR : ∀ {H' : AH} {x y : Int}, Le Hb H' → 0 ≤ x → x < (l0.length : Int) → 0 ≤ y → y < (l0.length : Int) → Ev (fun ρ k κ => green_LeqR k s0 x y H'.length H' κ) (fun v H'' => v = decide (JR l0 y x) ∧ Le H' H'') := fun l a b c d => ev_imp (green_LeqR_ev h0 (tb.le l)) fun v H'' ⟨e, l'⟩ => ⟨by rw [e]; simp [h, a, b, c, d], l'⟩
  have eL : ∀ {H' : AH} {x y : Int}, Le Hb H' → 0 ≤ x → x < (l0.length : Int) → 0 ≤ y → y < (l0.length : Int) → Ev (fun ρ k κ => green_LeqL k s0 x y H'.length H' κ) (fun v H'' => v = decide (JL l0 y x) ∧ Le H' H'') := fun l a b c d => ev_imp (green_LeqL_ev h0 (tb.le l)) fun v H'' ⟨e, l'⟩ => ⟨by rw [e]; simp [h, a, b, c, d], l'⟩
  have eJ : ∀ {H' : AH} {x y : Int}, Le Hb H' → 0 ≤ x → x < (l0.length : Int) → 0 ≤ y → y < (l0.length : Int) → Ev (fun ρ k κ => green_LeqJ k s0 x y H'.length H' κ) (fun v H'' => v = decide (JJ l0 y x) ∧ Le H' H'') := fun l a b c d => ev_imp (green_LeqJ_ev h0 (tb.le l)) fun v H'' ⟨e, l'⟩ => ⟨by rw [e]; simp [h, a, b, c, d], l'⟩
  refine ev_call (eR (Le.refl _) m0 m1 x0 x1) fun v H33 ⟨ev, l33⟩ => ?_
  refine ev_orF (by simp [ev, mR]) (ev_call (eL l33 m0 m1 y0 y1) fun v H' ⟨e, l⟩ => ev_ret ⟨by simp [e, mL], l⟩) fun H37 l37 => ?_
  have l37 := l33.trans l37
  refine ev_orF rfl (ev_call (eJ l37 m0 m1 x0 x1) fun v H' ⟨e, l⟩ => ev_ret ⟨by simp [e, JR_JJ x0 x1 mR], l⟩) fun H41 l41 => ?_
  have l41 := l37.trans l41
  refine ev_orF rfl (ev_call (eJ l41 m0 m1 y0 y1) fun v H' ⟨e, l⟩ => ev_ret ⟨by simp [e, JL_JJ hv y0 y1 mL], l⟩) fun H45 l45 => ev_f rfl ?_
  have l45 := l41.trans l45
  refine ev_call (eR l45 x0 x1 y0 y1) fun v H47 ⟨ev, l47⟩ => ?_
  subst ev
  have l47 := l45.trans l47
  refine ev_andVL (c := decide (JR l0 a3 a2)) (fun _ => ev_call (eR l47 y0 y1 z0 z1) fun v H' ⟨e, l⟩ => ev_ret ⟨e, l⟩) fun H51 l51 => ?_
  have l51 := l47.trans l51
  refine ev_andL (c := false) (fun hg => ev_call (eR l51 x0 x1 z0 z1) fun v H' ⟨e, l⟩ => ev_ret ⟨?_, l⟩) (fun _ => rfl) fun H55 l55 => ?_
  · simp only [Bool.and_eq_true, decide_eq_true_iff] at hg
    rw [e]; simp [pR.trans _ _ _ z0 z1 y0 y1 x0 x1 hg.2 hg.1]
  have l55 := l51.trans l55
  refine ev_orF rfl (ev_call (eJ l55 x0 x1 y0 y1) fun v H57 ⟨ev, l57⟩ => ?_) fun H67 l67 => ev_f rfl ?_
  · subst ev
    have l57' := l55.trans l57
    refine ev_andVL (c := decide (JJ l0 a3 a2)) (fun _ => ev_call (eJ l57' y0 y1 z0 z1) fun v H' ⟨e, l⟩ => ev_ret ⟨e, l⟩) fun H61 l61 => ?_
    have l61' := l57'.trans l61
    refine ev_andL (c := false) (fun hg => ev_call (eJ l61' x0 x1 z0 z1) fun v H' ⟨e, l⟩ => ev_ret ⟨?_, l⟩) (fun _ => rfl) fun H65 l65 => ev_ret ⟨rfl, (l57.trans l61).trans l65⟩
    simp only [Bool.and_eq_true, decide_eq_true_iff] at hg
    rw [e]; simp [pJ.trans _ _ _ z0 z1 y0 y1 x0 x1 hg.2 hg.1]
  have l67 := l55.trans l67
  refine ev_fldS (hp.le l67) rfl (ev_rdI (r1.le l67) x0 (by omega) (ev_fldS (hp.le l67) rfl (ev_rdI (r1.le l67) y0 (by omega) ?_)))
  refine ev_call (eR l67 x0 x1 y0 y1) fun v H75 ⟨ev, l75⟩ => ?_
  subst ev
  have l75 := l67.trans l75
  refine ev_andVL (c := decide (JR l0 a1 a2)) (fun _ => ev_call (eR l75 y0 y1 x0 x1) fun v H' ⟨e, l⟩ => ev_ret ⟨e, l⟩) fun H79 l79 => ?_
  have l79 := l75.trans l79
  refine ev_andT ?_ (ev_fldS (hp.le l79) rfl (ev_rdI (r2.le l79) x0 (by omega) (ev_fldS (hp.le l79) rfl (ev_rdI (r2.le l79) y0 (by omega) ?_)))) fun H93 l93 => ?_
  · simp only [cR.eqv _ _ x0 x1 y0 y1, Mu]
    by_cases q1 : JR l0 a1 a2 <;> by_cases q2 : JR l0 a2 a1 <;> simp [q1, q2]
  · refine ev_call (eL l79 x0 x1 y0 y1) fun v H75 ⟨ev, l75⟩ => ?_
    subst ev
    refine ev_andVL (c := decide (JL l0 a1 a2)) (fun _ => ev_call (eL (l79.trans l75) y0 y1 x0 x1) fun v H' ⟨e, l⟩ => ev_ret ⟨e, l⟩) fun H79 l79 => ev_ret ⟨?_, l75.trans l79⟩
    simp only [cL.eqv _ _ x0 x1 y0 y1, Mu]
    by_cases q1 : JL l0 a1 a2 <;> by_cases q2 : JL l0 a2 a1 <;> simp [q1, q2]
  have l93 := l79.trans l93
  refine ev_andT rfl (ev_fldS (hp.le l93) rfl (ev_rdI (r3.le l93) x0 (by omega) (ev_fldS (hp.le l93) rfl (ev_rdI (r3.le l93) y0 (by omega) ?_)))) fun H107 l107 => ?_
  · refine ev_call (eJ l93 x0 x1 y0 y1) fun v H75 ⟨ev, l75⟩ => ?_
    subst ev
    refine ev_andVL (c := decide (JJ l0 a1 a2)) (fun _ => ev_call (eJ (l93.trans l75) y0 y1 x0 x1) fun v H' ⟨e, l⟩ => ev_ret ⟨e, l⟩) fun H79 l79 => ev_ret ⟨?_, l75.trans l79⟩
    simp only [cJ.eqv _ _ x0 x1 y0 y1, Mu]
    by_cases q1 : JJ l0 a1 a2 <;> by_cases q2 : JJ l0 a2 a1 <;> simp [q1, q2]
  have l107 := l93.trans l107
  have hp := hp.le l107
  have r1 := r1.le l107
  have r2 := r2.le l107
  have r4 := r4.le l107
  refine ev_andT' rfl (ev_fldS hp rfl (ev_rdI r4 x0 (by omega) (ev_fldS hp rfl (ev_rdI r4 y0 (by omega) (ev_fldS hp rfl (ev_rdI r1 x0 (by omega) (ev_fldS hp rfl (ev_rdI r1 y0 (by omega) ?_)))))))) (ev_aw rfl aw)
  refine ev_andV (c := decide (rd (gL l0) a1 = rd (gL l0) a2)) (fun _ => ev_fldS hp rfl (ev_rdI r2 x0 (by omega) (ev_fldS hp rfl (ev_rdI r2 y0 (by omega) (ev_ret ⟨rfl, rfl⟩))))) (ev_ret ⟨?_, rfl⟩)
  have := cH.eqv _ _ x0 x1 y0 y1
  by_cases q1 : rd (gR l0) a1 = rd (gR l0) a2 <;> by_cases q2 : rd (gL l0) a1 = rd (gL l0) a2 <;> simp [this, q1, q2]
end Go.Ab
