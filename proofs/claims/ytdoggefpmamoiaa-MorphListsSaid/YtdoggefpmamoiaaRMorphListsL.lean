/- MorphLists: for all arguments the law answers true. No condition but that they come in. -/
import Derived.Test.YtdoggefpmamoiaaRMorphListsF1
/- MorphLists: for all arguments the law answers true. No condition but that they come in. -/
set_option linter.unusedVariables false
set_option linter.unusedSimpArgs false
namespace Go.Ab
open Go

theorem law_MorphLists {H : AH} {s0 : Sl} {l0 : List (List Int)} {s1 : Sl} {l1 : List (List Int)} (h0 : In2 l0) (t0 : Tab H s0 l0) (h1 : In2 l1) (t1 : Tab H s1 l1) : Ev (fun ρ k κ => semigrouplaw20_MorphLists k s0 s1 H.length H κ) (fun v _ => v = true) := by
  have aw : ∀ H : AH, Ev (fun ρ k κ => semigrouplaw20_awake k H.length H fun v H' => κ v H') (fun v _ => v = true) := fun H => ev_call semigrouplaw20_awake_true fun v H' hv => ev_ret hv
  refine ev_eq (fun _ k _ => semigrouplaw20_MorphLists_eq k) (ev_is (show Ev _ (Is (sErr l0 l1) H) from semigroupref20_MaySearch_ev h0 h1 t0 t1) (ev_nif (fun h => ?_) (fun h => ?_)))
  · refine ev_call (morph_Homs_ev (Nat.le_refl _) h0 h1 t0 t1) fun r H4 ⟨e, hS⟩ => ?_
    rw [fErr_bad h] at e hS
    rw [if_neg h] at hS
    exact ev_andT' (by rw [e]; simp) (ev_ret ⟨by rw [hS.len]; simp, rfl⟩) (ev_aw rfl aw)
  · obtain ⟨⟨ha, hb⟩, hn, hm⟩ := sErr_zero.1 h
    have hu := (val_va.1 hb).pos
    refine ev_orV (c := decide ((l1.length : Int) > 4)) (fun _ => ev_ret ⟨by rw [t1.len], rfl⟩) (ev_b (fun _ => aw _) (fun hh => ?_))
    rw [t0.len] at hh
    simp at hh
    refine ev_call (morph_Homs_ev (Nat.le_refl _) h0 h1 t0 t1) fun r H4 ⟨e, hS⟩ => ?_
    have few := hms_few (once := false) (t := l0) (u := l1) (a := 5) (b := 4) (by omega) (by omega) (by omega) (by omega)
    have few : (hms false l0 l1).length ≤ 2000 := by omega
    rw [fErr_ok h few] at e hS
    rw [if_pos rfl] at hS
    refine ev_and (S := fun b _ => b = true) (fun _ => ?_) (fun h => by rw [e] at h; simp at h) fun b H22 hb => ev_aw hb aw
    refine ev_call (semigroupref20_Homs_ev (K := 2000) (Nat.le_refl _) (val_va.1 ha).toSq (val_va.1 hb).toSq (t0.le hS.le) (t1.le hS.le) (hms_full false l0 l1) (by omega) (by omega) (by omega)) fun v H18 hS2 => ?_
    refine ev_is (semigroupref03_SameRows_ev (hS.tab.le hS2.le) hS2.tab (by omega) fun v hv => ?_) (ev_ret ?_)
    · have := ((hms_full false l0 l1).mem v).1 hv
      have := this.1.len
      omega
    · rw [List.take_of_length_le few]; simp
end Go.Ab
