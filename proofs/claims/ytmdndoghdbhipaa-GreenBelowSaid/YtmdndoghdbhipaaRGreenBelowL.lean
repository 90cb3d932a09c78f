/- GreenBelow: for every table the law answers true. No condition but that the arguments come in. -/
import Derived.Test.YtmdndoghdbhipaaRGreenBelowF12
set_option linter.unusedVariables false
set_option linter.unusedSimpArgs false
namespace Go.Ab
open Go

open Classical in
theorem law_GreenBelow {H : AH} {s0 : Sl} {l0 : List (List Int)} {a1 : Int} {a2 : Int} (h0 : In2 l0) (t0 : Tab H s0 l0) (h1 : (Lit.int .i64 a1).wf = true) (h2 : (Lit.int .i64 a2).wf = true) : Ev (fun ρ k κ => semigrouplaw15_GreenBelow k s0 a1 a2 H.length H κ) (fun v _ => v = true) := by
  have aw : ∀ H : AH, Ev (fun ρ k κ => semigrouplaw15_awake k H.length H fun v H' => κ v H') (fun v _ => v = true) := fun H => ev_call semigrouplaw15_awake_true fun v H' hv => ev_ret hv
  refine ev_eq (fun _ k _ => semigrouplaw15_GreenBelow_eq k) (ev_is (semigrouplaw15_large_ev h0 t0) (ev_if (fun _ => aw _) (fun _ => ?_)))
  refine ev_call (green_LeqR_ev h0 t0) fun r H6 ⟨er, l6⟩ => ev_call (green_LeqL_ev h0 (t0.le l6)) fun l H8 ⟨el, l8⟩ => ?_
  have l8 := l6.trans l8
  refine ev_call (green_LeqJ_ev h0 (t0.le l8)) fun j H10 ⟨ej, l10⟩ => ?_
  have l10 := l8.trans l10
  refine ev_is (semigroupref14_Valid_ev h0 (t0.le l10)) (ev_orVL (c := decide (¬ El l0 [a1, a2])) (fun _ => ev_mkbI [a1, a2] fun s H14 hs l14 => ev_is (semigroupref14_In_ev (b := decide (El l0 [a1, a2])) (t0.le l10).len hs (by simp) (by simp)) (ev_ret ⟨by simp, l14⟩)) fun H18 l18 => ?_)
  have l18 := l10.trans l18
  have hEl : El l0 [a1, a2] ↔ (0 ≤ a1 ∧ a1 < (l0.length : Int)) ∧ (0 ≤ a2 ∧ a2 < (l0.length : Int)) := by simp [El]
  refine ev_b (fun h => ?_) (fun h => ?_)
  · have hno : ¬ (val l0 = 0 ∧ (0 ≤ a1 ∧ a1 < (l0.length : Int)) ∧ (0 ≤ a2 ∧ a2 < (l0.length : Int))) := by
      rintro ⟨a, b⟩
      simp [a, hEl, b] at h
    have e1 : r = false := by rw [er, decide_eq_false]; exact fun h => hno ⟨h.1, h.2.1, h.2.2.1⟩
    have e2 : l = false := by rw [el, decide_eq_false]; exact fun h => hno ⟨h.1, h.2.1, h.2.2.1⟩
    have e3 : j = false := by rw [ej, decide_eq_false]; exact fun h => hno ⟨h.1, h.2.1, h.2.2.1⟩
    subst e1; subst e2; subst e3
    exact ev_andT' rfl (ev_ret ⟨rfl, rfl⟩) (ev_andT' rfl (ev_ret ⟨rfl, rfl⟩) (ev_aw rfl aw))
  · simp only [Bool.or_eq_false_iff, Bool.not_eq_false', decide_eq_true_iff, decide_eq_false_iff_not, Classical.not_not] at h
    obtain ⟨hva, he⟩ := h
    obtain ⟨⟨x0, x1⟩, y0, y1⟩ := hEl.1 he
    have hv := val_va.1 hva
    have hsq := hv.toSq
    have key : ∀ P : Prop, (val l0 = 0 ∧ (0 ≤ a1 ∧ a1 < (l0.length : Int)) ∧ (0 ≤ a2 ∧ a2 < (l0.length : Int)) ∧ P) ↔ P := fun P => ⟨fun h => h.2.2.2, fun h => ⟨hva, ⟨x0, x1⟩, ⟨y0, y1⟩, h⟩⟩
    refine ev_call (semigroupref15_Right_ev (Nat.le_refl _) hsq (t0.le l18) y0 y1) fun v H28 hS => ev_rdB hS.rowB x0 (by rw [brow_len]; exact x1) ?_
    have l28 := l18.trans hS.le
    rw [brow_at x0 x1]
    refine ev_andT (by rw [er]; simp [key]) (ev_call (semigroupref15_Left_ev (Nat.le_refl _) hsq (t0.le l28) y0 y1) fun v H31 hS => ev_rdB hS.rowB x0 (by rw [brow_len]; exact x1) (ev_ret ⟨by rw [brow_at x0 x1, el]; simp [key], hS.le⟩)) fun H34 l34 => ?_
    have l34 := l28.trans l34
    refine ev_andT rfl (ev_call (semigroupref15_Both_ev (Nat.le_refl _) hsq (t0.le l34) y0 y1) fun v H31 hS => ev_rdB hS.rowB x0 (by rw [brow_len]; exact x1) (ev_ret ⟨by rw [brow_at x0 x1, ej]; simp [key], hS.le⟩)) fun H39 l39 => ?_
    refine ev_andT' rfl (ev_orV (c := !r && !l) (fun _ => ev_andV (c := !l) (fun _ => ev_ret ⟨rfl, rfl⟩) (ev_ret ⟨rfl, rfl⟩)) (ev_ret ⟨?_, rfl⟩)) (ev_aw rfl aw)
    rw [er, el, ej]
    simp only [key]
    by_cases hj : JJ l0 a2 a1
    · simp [hj]
    · have n1 : ¬ JR l0 a2 a1 := fun h => hj (JR_JJ y0 y1 h)
      have n2 : ¬ JL l0 a2 a1 := fun h => hj (JL_JJ hv y0 y1 h)
      simp [hj, n1, n2]
end Go.Ab
