/- MorphExtends: for all arguments the law answers true. No condition but that they come in. -/
import Derived.Test.YtdoggefpmamoiaaRMorphExtendsF1
/- MorphExtends: for all arguments the law answers true. No condition but that they come in. -/
set_option linter.unusedVariables false
set_option linter.unusedSimpArgs false
namespace Go.Ab
open Go

theorem law_MorphExtends {H : AH} {s0 : Sl} {l0 : List (List Int)} {s1 : Sl} {l1 : List Int} {s2 : Sl} {l2 : List (List Int)} {s3 : Sl} {l3 : List Int} (h0 : In2 l0) (t0 : Tab H s0 l0) (h1 : In1 l1) (t1 : Row H s1 l1) (h2 : In2 l2) (t2 : Tab H s2 l2) (h3 : In1 l3) (t3 : Row H s3 l3) : Ev (fun ρ k κ => semigrouplaw20_MorphExtends k s0 s1 s2 s3 H.length H κ) (fun v _ => v = true) := by
  have aw : ∀ H : AH, Ev (fun ρ k κ => semigrouplaw20_awake k H.length H fun v H' => κ v H') (fun v _ => v = true) := fun H => ev_call semigrouplaw20_awake_true fun v H' hv => ev_ret hv
  refine ev_eq (fun _ k _ => semigrouplaw20_MorphExtends_eq k) (ev_is (semigrouplaw20_large_ev h0 t0) ?_)
  refine ev_orV (c := decide ((l2.length : Int) > 20 ∧ shp l2 = 0)) (fun _ => ev_is (semigrouplaw20_large_ev h2 t2) (ev_ret ⟨rfl, rfl⟩)) (ev_b (fun _ => aw _) (fun _ => ?_))
  refine ev_call (morph_Extend_ev (Nat.le_refl _) h0 h2 h1.1 t0 t2 t1 t3) fun r9 H10 ⟨e1, hS1⟩ => ev_call (semigroupref20_Extend_ev (Nat.le_refl _) h0 h2 h1.1 h3.1 (t0.le hS1.le) (t2.le hS1.le) (t1.le hS1.le) (t3.le hS1.le)) fun r11 H12 ⟨e2, hS2⟩ => ?_
  have := h0.1
  have := xtL_len (t := l0) (u := l2) (gs := l1) (is := l3)
  exact ev_andT' (by rw [e1, e2]; simp) (ev_is (semigroupref03_Same_ev (hS1.row.le hS2.le) hS2.row (by omega)) (ev_ret ⟨by simp, rfl⟩)) (ev_aw rfl aw)
end Go.Ab
