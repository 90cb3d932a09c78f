/- MorphRecognizes: for all arguments the law answers true. No condition but that they come in. -/
import Derived.Test.YtdoggefpmamoiaaRMorphRecognizesF1
/- MorphRecognizes: for all arguments the law answers true. No condition but that they come in. -/
set_option linter.unusedVariables false
set_option linter.unusedSimpArgs false
namespace Go.Ab
open Go

open Classical in
theorem law_MorphRecognizes {H : AH} {s0 : Sl} {l0 : List (List Int)} {s1 : Sl} {l1 : List (List Int)} {s2 : Sl} {l2 : List Int} (h0 : In2 l0) (t0 : Tab H s0 l0) (h1 : In2 l1) (t1 : Tab H s1 l1) (h2 : In1 l2) (t2 : Row H s2 l2) : Ev (fun ρ k κ => semigrouplaw20_MorphRecognizes k s0 s1 s2 H.length H κ) (fun v _ => v = true) := by
  have aw : ∀ H : AH, Ev (fun ρ k κ => semigrouplaw20_awake k H.length H fun v H' => κ v H') (fun v _ => v = true) := fun H => ev_call semigrouplaw20_awake_true fun v H' hv => ev_ret hv
  refine ev_eq (fun _ k _ => semigrouplaw20_MorphRecognizes_eq k) (ev_is (semigrouplaw20_large_ev h0 t0) ?_)
  refine ev_orV (c := decide ((l1.length : Int) > 20 ∧ shp l1 = 0)) (fun _ => ev_is (semigrouplaw20_large_ev h1 t1) (ev_ret ⟨rfl, rfl⟩)) (ev_b (fun _ => aw _) (fun _ => ?_))
  refine ev_is (morph_IsHom_ev h0 h1 t0 t1 t2) (ev_call (morph_Image_ev (Nat.le_refl _) h0 h1 t0 t1 t2) fun i H12 hi => ev_call (morph_Kernel_ev (Nat.le_refl _) h0 h1 (t0.le hi.le) (t1.le hi.le) (t2.le hi.le)) fun c H14 ⟨o, hc, ho, ho'⟩ => ?_)
  have l14 := hi.le.trans hc.le
  refine ev_is (semigroupref20_IsHom_ev h0 h1 h2.1 (t0.le l14) (t1.le l14) (t2.le l14)) (ev_f (by simp) (ev_nif (fun h => ?_) (fun h => ?_)))
  · rw [if_neg h] at hi
    have := ho h
    subst this
    exact ev_andT' (by simp [hi.len]) (ev_ret ⟨by simp [hc.len], rfl⟩) (ev_aw rfl aw)
  · rw [if_pos h] at hi
    have hn := (val_va.1 h.1.1).le
    have hm := (val_va.1 h.1.2).le
    have hl := h.2.len
    have li : (imgL l1.length l2).length ≤ l1.length := sel_len
    have hcl := ho' h
    refine ev_call (semigroupref20_Image_ev (Nat.le_refl _) (t1.le l14) (by omega) (t2.le l14) (by omega)) fun j H24 hj => ev_is (semigroupref03_Same_ev (hi.row.le (hc.le.trans hj.le)) hj.row (by omega)) ?_
    have l24 := l14.trans hj.le
    refine ev_andT (by simp) (ev_call (show Ev (fun ρ k κ => semigroupref20_Kernel k s2 H24.length H24 κ) (fun v H' => ∃ o, Sep H24 H' [own reI v o] ∧ IsCl l2.length (fun i j => rd l2 i = rd l2 j) o) from ev_eq (fun _ k _ => semigroupref20_Kernel_eq k) (ev_call (semigroupref03_Canonical_ev (Nat.le_refl _) (t2.le l24) (by omega)) fun v H' h => ev_ret h)) fun d H28 ⟨o2, hd, hcl2⟩ => ev_is (semigroupref03_Same_ev ((hc.row.le hj.le).le hd.le) hd.row (by have := hcl.len; omega)) (ev_ret ⟨?_, hd.le⟩)) fun H32 _ => ev_aw rfl aw
    exact decide_eq_true (hcl.unique hcl2)
end Go.Ab
