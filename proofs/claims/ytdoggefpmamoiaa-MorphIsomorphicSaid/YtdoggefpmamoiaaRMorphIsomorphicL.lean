/- MorphIsomorphic: for all arguments the law answers true. No condition but that they come in. -/
import Derived.Test.YtdoggefpmamoiaaRMorphIsomorphicF1
/- MorphIsomorphic: for all arguments the law answers true. No condition but that they come in. -/
set_option linter.unusedVariables false
set_option linter.unusedSimpArgs false
namespace Go.Ab
open Go

theorem law_MorphIsomorphic {H : AH} {s0 : Sl} {l0 : List (List Int)} {s1 : Sl} {l1 : List (List Int)} (h0 : In2 l0) (t0 : Tab H s0 l0) (h1 : In2 l1) (t1 : Tab H s1 l1) : Ev (fun ρ k κ => semigrouplaw20_MorphIsomorphic k s0 s1 H.length H κ) (fun v _ => v = true) := by
  have aw : ∀ H : AH, Ev (fun ρ k κ => semigrouplaw20_awake k H.length H fun v H' => κ v H') (fun v _ => v = true) := fun H => ev_call semigrouplaw20_awake_true fun v H' hv => ev_ret hv
  refine ev_eq (fun _ k _ => semigrouplaw20_MorphIsomorphic_eq k) (ev_is (semigrouplaw20_large_ev h0 t0) ?_)
  refine ev_orV (c := decide ((l1.length : Int) > 60 ∧ shp l1 = 0)) (fun _ => ev_is (semigrouplaw20_large_ev h1 t1) (ev_ret ⟨rfl, rfl⟩)) (ev_b (fun _ => aw _) (fun _ => ?_))
  refine ev_call (morph_Isomorphism_ev (Nat.le_refl _) h0 h1 t0 t1) fun r9 H10 ⟨e1, e2, hr, l10⟩ => ?_
  have t0' := t0.le l10
  have t1' := t1.le l10
  have li := isoL_len l0 l1
  refine ev_is (show Ev _ (Is (sErr l0 l1) H10) from semigroupref20_MaySearch_ev h0 h1 t0' t1') (ev_nif (fun h => ?_) (fun h => ?_))
  · have e : isoL l0 l1 = [] := by unfold isoL; rw [if_neg (fun hh => h hh.1)]
    rw [e] at e2 hr
    exact ev_andT' (by rw [e1]; simp) (ev_ret ⟨by rw [hr.len]; rfl, rfl⟩) (ev_andT' rfl (ev_ret ⟨by rw [e2]; rfl, rfl⟩) (ev_aw rfl aw))
  obtain ⟨⟨ha, hb⟩, hn, hm⟩ := sErr_zero.1 h
  have hv := val_va.1 ha
  have hw := val_va.1 hb
  refine ev_orV (c := decide ((l1.length : Int) > 5)) (fun _ => ev_ret ⟨by rw [t1.len], rfl⟩) (ev_b (fun _ => aw _) (fun hh => ?_))
  rw [t0'.len] at hh
  simp at hh
  have rowlen : ∀ v ∈ hms true l0 l1, v.length ≤ 9223372036854775807 := fun v hv => by
    have := (((hms_full true l0 l1).mem v).1 hv).1.len
    omega
  have rest : ∀ (v : Sl) (H26 : AH), Le H10 H26 → Tab H26 v (isoL l0 l1) → Ev (fun ρ k κ => semigrouplaw20_MorphIsomorphic_1 k s0 r9.1 r9.2.1 r9.2.2 v H.length H26 κ) (fun v _ => v = true) := by
    intro v H26 l26 hT
    have hr' := hr.le l26
    have t0' := t0'.le l26
    refine ev_eq (fun _ k _ => semigrouplaw20_MorphIsomorphic_1_eq k) (ev_orF' (by rw [e1, h]; simp) (ev_ret ⟨?_, rfl⟩) (ev_orF' rfl (ev_andV (c := false) (fun h6 => ?_) (ev_ret ⟨by simp, rfl⟩)) (ev_orF' rfl (ev_andV (c := !decide ((isoL l0 l1).length = 0)) (fun h6 => ev_ret ⟨?_, rfl⟩) (ev_ret ⟨?_, rfl⟩)) (ev_f rfl ?_))))
    · rw [e2, hT.len]
      by_cases hl : (isoL l0 l1).length = 1
      · rw [hl]; rfl
      · rw [decide_eq_false hl, decide_eq_false (by omega)]; rfl
    · rw [e2] at h6
      have h6 := of_decide_eq_true h6
      refine ev_rdS hT (by omega) (by omega) fun r hr2 => ev_is (semigroupref03_Same_ev hr' hr2 ?_) (ev_ret ⟨by simp, rfl⟩)
      refine rowlen _ ?_
      have hm : R (isoL l0 l1) 0 ∈ isoL l0 l1 := R_mem (by omega) (by omega)
      have e : isoL l0 l1 = (hms true l0 l1).take 1 := by
        unfold isoL
        split
        · rfl
        · rename_i hc; unfold isoL at h6; rw [if_neg hc] at h6; simp at h6
      rw [e] at hm ⊢
      exact List.mem_of_mem_take hm
    · rw [e2] at h6
      have h6 : ¬ (isoL l0 l1).length = 1 := by simpa using h6
      have e : isoL l0 l1 = [] := List.eq_nil_of_length_eq_zero (by omega)
      rw [hr.len, e]; rfl
    · rw [e2]
      by_cases hl : (isoL l0 l1).length = 1
      · simp [hl]
      · have : (isoL l0 l1).length = 0 := by omega
        simp [this]
    · refine ev_call (morph_Automorphisms_ev (Nat.le_refl _) h0 t0') fun r14 H15 ⟨e14, hS⟩ => ?_
      have se : sErr l0 l0 = 0 := sErr_zero.2 ⟨⟨ha, ha⟩, hn, hn⟩
      have few : (hms true l0 l0).length ≤ 2000 := by have := autos_720 (t := l0) (by omega); omega
      rw [fErr_ok se few] at e14 hS
      rw [if_pos rfl] at hS
      refine ev_and (S := fun b _ => b = true) (fun _ => ?_) (fun h => by rw [e14] at h; simp at h) fun b H22 hb => ev_aw hb aw
      refine ev_call (semigroupref20_Homs_ev (K := 2000) (Nat.le_refl _) hv.toSq hv.toSq (t0'.le hS.le) (t0'.le hS.le) (hms_full true l0 l0) (by omega) (by omega) (by omega)) fun v H18 hS2 => ?_
      refine ev_is (semigroupref03_SameRows_ev (hS.tab.le hS2.le) hS2.tab (by omega) fun v hv => ?_) (ev_ret ?_)
      · have := (((hms_full true l0 l0).mem v).1 hv).1.len
        omega
      · rw [List.take_of_length_le few]; simp
  rw [t0'.len, t1'.len]
  refine ev_if (fun hl => ?_) (fun hl => rest _ _ (Le.refl _) ?_)
  · refine ev_call (semigroupref20_Homs_ev (K := 1) (Nat.le_refl _) hv.toSq hw.toSq t0' t1' (hms_full true l0 l1) (by omega) (by omega) (by omega)) fun v H26 hS => rest v H26 hS.le ?_
    have e : isoL l0 l1 = (hms true l0 l1).take 1 := by unfold isoL; rw [if_pos ⟨h, by omega⟩]
    rw [e]; exact hS.tab
  · have e : isoL l0 l1 = [] := by unfold isoL; rw [if_neg (fun hh => hl (by omega))]
    rw [e]; exact ((Sep.nil H10).nilS (reL reI)).tab
end Go.Ab
