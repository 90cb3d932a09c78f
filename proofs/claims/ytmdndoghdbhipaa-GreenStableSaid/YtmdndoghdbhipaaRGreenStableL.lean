/- GreenStable: for every table the law answers true. No condition but that the arguments come in. -/
import Derived.Test.YtmdndoghdbhipaaRGreenStableF14
set_option linter.unusedVariables false
set_option linter.unusedSimpArgs false
namespace Go.Ab
open Go

open Classical in
theorem law_GreenStable {H : AH} {s0 : Sl} {l0 : List (List Int)} {a1 : Int} {a2 : Int} (h0 : In2 l0) (t0 : Tab H s0 l0) (h1 : (Lit.int .i64 a1).wf = true) (h2 : (Lit.int .i64 a2).wf = true) : Ev (fun ρ k κ => semigrouplaw15_GreenStable k s0 a1 a2 H.length H κ) (fun v _ => v = true) := by
  have aw : ∀ H : AH, Ev (fun ρ k κ => semigrouplaw15_awake k H.length H fun v H' => κ v H') (fun v _ => v = true) := fun H => ev_call semigrouplaw15_awake_true fun v H' hv => ev_ret hv
  refine ev_eq (fun _ k _ => semigrouplaw15_GreenStable_eq k) (ev_is (semigrouplaw15_small_ev h0 t0) ?_)
  refine ev_orVL (c := decide (¬ El l0 [a1, a2])) (fun _ => ev_mkbI [a1, a2] fun s H14 hs l14 => ev_is (semigroupref14_In_ev (b := decide (El l0 [a1, a2])) (t0.le l14).len hs (by simp) (by simp)) (ev_ret ⟨by simp, l14⟩)) fun H8 l8 => ev_b (fun _ => aw _) (fun hb => ?_)
  simp only [Bool.or_eq_false_iff, Bool.not_eq_false', decide_eq_true_iff, decide_eq_false_iff_not, Classical.not_not] at hb
  obtain ⟨⟨_, h⟩, he⟩ := hb
  obtain ⟨x0, x1⟩ := he a1 (by simp)
  obtain ⟨y0, y1⟩ := he a2 (by simp)
  have hv := val_va.1 h
  have hsq := hv.toSq
  have hn := hv.le
  refine ev_call (green_Classes_ev (Nat.le_refl _) h0 (t0.le l8)) fun r H12 hg => sp_alc hg fun p H14 hS => sp_stnC hS l8.len rfl fun Hb hS => ?_
  simp only [OwnG', vif_pos h] at hS
  have hp := hS.at1
  have r1 := (hS.pull 1).row
  have r2 := (hS.pull 2).row
  have r3 := (hS.pull 3).row
  have cR := gR_cl hv
  have cL := gL_cl hv
  have cJ := gJ_cl hv
  have lR := cR.len
  have lL := cL.len
  have lJ := cJ.len
  have tb := t0.le (l8.trans hS.le)
  have eJ := (JJ_pre hv).mu
  refine ev_fldS hp rfl (ev_call (semigroupref03_Valid_ev (Nat.le_refl _) r1) fun v H19 ⟨e, l19⟩ => ?_)
  have ev : v = true := by rw [e, decide_eq_true]; exact ⟨by omega, cR.can⟩
  subst ev
  refine ev_orF rfl (ev_fldS (hp.le l19) rfl (ev_call (semigroupref03_Valid_ev (Nat.le_refl _) (r2.le l19)) fun v H' ⟨e, l⟩ => ev_ret ⟨?_, l⟩)) fun H25 l25 => ?_
  · rw [e, decide_eq_true (show (((gL l0).length : Int) ≤ 4096 ∧ Cano (gL l0)) from ⟨by omega, cL.can⟩)]; rfl
  have l25 := l19.trans l25
  have hp := hp.le l25
  have r1 := r1.le l25
  have r2 := r2.le l25
  have r3 := r3.le l25
  have tb := tb.le l25
  refine ev_orF' rfl (ev_fldS hp rfl (ev_ret ⟨by simp [r1.len, tb.len, lR], rfl⟩)) (ev_orF' rfl (ev_fldS hp rfl (ev_ret ⟨by simp [r2.len, tb.len, lL], rfl⟩)) (ev_orF' rfl (ev_fldS hp rfl (ev_ret ⟨by simp [r3.len, tb.len, lJ], rfl⟩)) ?_))
  refine ev_orF rfl (ev_fldS hp rfl (ev_fldS hp rfl (ev_fldS hp rfl (ev_call (semigroupref03_Join_ev (N := l0.length) (E := Mu (JJ l0)) (Nat.le_refl _) r1 r2 lR lL (by omega) eJ (fun x y a b c d e => ?_) (fun x y a b c d e => ?_)) fun v H45 ⟨o, w, hS, ho, hJ⟩ => ev_is (semigroupref03_Same_ev (r3.le hS.le) hS.row (by omega)) (ev_ret ⟨?_, hS.le⟩))))) fun H49 l49 => ev_f rfl ?_
  · have := (cR.eqv x y a b c d).1 e
    exact ⟨JR_JJ a b this.1, JR_JJ c d this.2⟩
  · have := (cL.eqv x y a b c d).1 e
    exact ⟨JL_JJ hv a b this.1, JL_JJ hv c d this.2⟩
  · have : IsCl l0.length (Mu (JJ l0)) o := ho.congr fun x y a b c d => ⟨hJ.sound x y a b c d, fun e => by
      obtain ⟨z, h1, h2⟩ := jE_D (elt_sem hv) ((elt_J hv ⟨x, a, b⟩ ⟨y, c, d⟩).2 ((cJ.eqv x y a b c d).2 e))
      have e1 := (elt_L hv ⟨x, a, b⟩ z).1 h1
      have e2 := (elt_R hv z ⟨y, c, d⟩).1 h2
      have f1 := hJ.ofq x z.1 a b z.2.1 z.2.2 e1
      have f2 := hJ.ofp z.1 y z.2.1 z.2.2 c d e2
      exact f1.trans f2⟩
    rw [this.eq_clN]
    simp [gJ]
  have hp := hp.le l49
  have r1 := r1.le l49
  have r2 := r2.le l49
  have r3 := r3.le l49
  have tb := tb.le l49
  have hrow := hsq.row a1 x0 x1
  refine ev_rdM tb x0 x1 y0 (by omega) ?_
  obtain ⟨m, hm⟩ : ∃ m, M l0 a1 a2 = m := ⟨_, rfl⟩
  rw [hm]
  have m0 : 0 ≤ m := by rw [← hm]; exact hsq.lo a1 a2 x0 x1 y0 y1
  have m1 : m < (l0.length : Int) := by rw [← hm]; exact hsq.hi a1 a2 x0 x1 y0 y1
  refine ev_fldS hp rfl (ev_rdI r3 m0 (by omega) (ev_fldS hp rfl (ev_rdI r3 x0 (by omega) ?_)))
  refine ev_orI (c := true) (fun hg => ev_fldS hp rfl (ev_rdI r1 m0 (by omega) (ev_fldS hp rfl (ev_rdI r1 x0 (by omega) (ev_ret ⟨?_, rfl⟩))))) (fun _ => rfl) ?_
  · simp only [Bool.not_eq_false', decide_eq_true_iff] at hg
    refine decide_eq_true ?_
    have hj := (elt_J hv ⟨m, m0, m1⟩ ⟨a1, x0, x1⟩).2 hg
    have hr : rI (⟨a1, x0, x1⟩ : Elt l0) ⟨m, m0, m1⟩ := (elt_rI hv _ _).2 (.inr ⟨a2, y0, y1, hm.symm⟩)
    exact (elt_R hv ⟨m, m0, m1⟩ ⟨a1, x0, x1⟩).1 ⟨stabR (elt_sem hv) hr hj.1, hr⟩
  refine ev_andT' rfl (ev_fldS hp rfl (ev_rdI r3 m0 (by omega) (ev_fldS hp rfl (ev_rdI r3 y0 (by omega) ?_)))) (ev_aw rfl aw)
  refine ev_orI (c := true) (fun hg => ev_fldS hp rfl (ev_rdI r2 m0 (by omega) (ev_fldS hp rfl (ev_rdI r2 y0 (by omega) (ev_ret ⟨?_, rfl⟩))))) (fun _ => rfl) (ev_ret ⟨rfl, rfl⟩)
  simp only [Bool.not_eq_false', decide_eq_true_iff] at hg
  refine decide_eq_true ?_
  have hj := (elt_J hv ⟨m, m0, m1⟩ ⟨a2, y0, y1⟩).2 hg
  have hr : lI (⟨a2, y0, y1⟩ : Elt l0) ⟨m, m0, m1⟩ := (elt_lI hv _ _).2 (.inr ⟨a1, x0, x1, hm.symm⟩)
  exact (elt_L hv ⟨m, m0, m1⟩ ⟨a2, y0, y1⟩).1 ⟨stabL (elt_sem hv) hr hj.1, hr⟩
end Go.Ab
