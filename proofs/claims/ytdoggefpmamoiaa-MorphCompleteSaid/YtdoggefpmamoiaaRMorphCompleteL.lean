/- MorphComplete: for all arguments the law answers true. No condition but that they come in. -/
import Derived.Test.YtdoggefpmamoiaaRMorphCompleteF1
/- MorphComplete: for all arguments the law answers true. No condition but that they come in. -/
set_option linter.unusedVariables false
set_option linter.unusedSimpArgs false
namespace Go.Ab
open Go

open Classical in
theorem law_MorphComplete {H : AH} {s0 : Sl} {l0 : List (List Int)} {s1 : Sl} {l1 : List (List Int)} {s2 : Sl} {l2 : List Int} (h0 : In2 l0) (t0 : Tab H s0 l0) (h1 : In2 l1) (t1 : Tab H s1 l1) (h2 : In1 l2) (t2 : Row H s2 l2) : Ev (fun ρ k κ => semigrouplaw20_MorphComplete k s0 s1 s2 H.length H κ) (fun v _ => v = true) := by
  have aw : ∀ H : AH, Ev (fun ρ k κ => semigrouplaw20_awake k H.length H fun v H' => κ v H') (fun v _ => v = true) := fun H => ev_call semigrouplaw20_awake_true fun v H' hv => ev_ret hv
  refine ev_eq (fun _ k _ => semigrouplaw20_MorphComplete_eq k) (ev_is (semigrouplaw20_small_ev h0 t0) ?_)
  refine ev_orV (c := !decide ((l1.length : Int) ≤ 4 ∧ val l1 = 0)) (fun _ => ev_is (semigrouplaw20_small_ev h1 t1) (ev_ret ⟨rfl, rfl⟩)) (ev_b (fun _ => aw _) (fun hb => ?_))
  simp only [Bool.or_eq_false_iff, Bool.not_eq_false', decide_eq_true_iff] at hb
  obtain ⟨⟨hn, ha⟩, hm, hbv⟩ := hb
  have hb := hbv
  have hv := val_va.1 ha
  have hw := val_va.1 hb
  have hup := hw.pos
  have se : sErr l0 l1 = 0 := sErr_zero.2 ⟨⟨ha, hb⟩, by omega, by omega⟩
  have se0 : sErr l0 l0 = 0 := sErr_zero.2 ⟨⟨ha, ha⟩, by omega, by omega⟩
  have few := hms_few (once := false) (t := l0) (u := l1) (a := 4) (b := 4) (by omega) (by omega) (by omega) (by omega)
  have few : (hms false l0 l1).length ≤ 2000 := by omega
  have few0 : (hms true l0 l0).length ≤ 2000 := by have := autos_720 (t := l0) (by omega); omega
  refine ev_call (morph_Homs_ev (Nat.le_refl _) h0 h1 t0 t1) fun r9 H10 ⟨e9, hS9⟩ => ev_call (morph_Automorphisms_ev (Nat.le_refl _) h0 (t0.le hS9.le)) fun r11 H12 ⟨e11, hS11⟩ => ?_
  rw [fErr_ok se few] at e9 hS9
  rw [fErr_ok se0 few0] at e11 hS11
  rw [if_pos rfl] at hS9 hS11
  have T9 := hS9.tab.le hS11.le
  have T11 := hS11.tab
  have l12 := hS9.le.trans hS11.le
  have t0 := t0.le l12
  have t1 := t1.le l12
  have t2 := t2.le l12
  refine ev_orF' (by rw [e9]; simp) (ev_ret ⟨by rw [e11]; simp, rfl⟩) (ev_f rfl ?_)
  rw [hS9.len]
  have rl : ∀ {once : Bool} {t u : List (List Int)} {i : Int}, (t.length : Int) ≤ 4 → 0 ≤ i → i < ((hms once t u).length : Int) → (R (hms once t u) i).length ≤ 9223372036854775807 := fun {once t u i} hl i0 i1 => by
    have := (((hms_full once t u).mem _).1 (R_mem i0 i1)).1.len
    omega
  have step : ∀ {once : Bool} {t u : List (List Int)} {i : Int} {b : Bool}, (b = true ↔ ∃ i' : Int, 0 ≤ i' ∧ i' < i ∧ R (hms once t u) i' = l2) → 0 ≤ i → ((b || decide (R (hms once t u) i = l2)) = true ↔ ∃ i' : Int, 0 ≤ i' ∧ i' < i + 1 ∧ R (hms once t u) i' = l2) := fun {once t u i b} hb i0 => by
    rw [Bool.or_eq_true, decide_eq_true_iff, hb]
    constructor
    · rintro (⟨i', p, q, r⟩ | h)
      · exact ⟨i', p, by omega, r⟩
      · exact ⟨i, i0, by omega, h⟩
    · rintro ⟨i', p, q, r⟩
      by_cases hi : i' = i
      · right; rw [← hi]; exact r
      · left; exact ⟨i', p, by omega, r⟩
  have last : ∀ {once : Bool} {t u : List (List Int)}, (∃ i' : Int, 0 ≤ i' ∧ i' < ((hms once t u).length : Int) ∧ R (hms once t u) i' = l2) ↔ Hn once t u l2 := fun {once t u} => by
    rw [← (hms_full once t u).mem]
    constructor
    · rintro ⟨i, a, b, c⟩
      rw [← c]; exact R_mem a b
    · intro h
      obtain ⟨j, hj, e⟩ := List.getElem_of_mem h
      exact ⟨(j : Int), by omega, by omega, by unfold R; rw [List.getD_eq_getElem?_getD, Int.toNat_natCast, List.getElem?_eq_getElem hj]; exact e⟩
  refine ev_loop (α := Bool) (g := fun i b ρ k κ => semigrouplaw20_MorphComplete_1 k s0 s1 s2 r11.1 b false r9.1 ((hms false l0 l1).length : Int) i H.length H12 κ) ((hms false l0 l1).length : Int) (fun i b => b = true ↔ ∃ i' : Int, 0 ≤ i' ∧ i' < i ∧ R (hms false l0 l1) i' = l2) ?_ ?_ 0 false (by omega) (by omega) ⟨fun h => by (cases h), fun ⟨i', a, b, _⟩ => by omega⟩
  · intro i b i0 i1 hb hk
    refine ev_eq (fun _ k _ => semigrouplaw20_MorphComplete_1_eq k) (ev_pos i1 (ev_rdS T9 i0 i1 fun r hr => ev_orV (c := decide (R (hms false l0 l1) i = l2)) (fun _ => ev_is (semigroupref03_Same_ev hr t2 (rl hn i0 i1)) (ev_ret ⟨by congr 1, rfl⟩)) ?_))
    rw [W_add i0 i1 (by omega)]
    exact hk _ (step hb i0)
  intro b hb
  refine ev_eq (fun _ k _ => semigrouplaw20_MorphComplete_1_eq k) (ev_neg (by omega) ?_)
  rw [hS11.len]
  refine ev_loop (α := Bool) (g := fun i c ρ k κ => semigrouplaw20_MorphComplete_2 k s0 s1 s2 b c r11.1 ((hms true l0 l0).length : Int) i H.length H12 κ) ((hms true l0 l0).length : Int) (fun i c => c = true ↔ ∃ i' : Int, 0 ≤ i' ∧ i' < i ∧ R (hms true l0 l0) i' = l2) ?_ ?_ 0 false (by omega) (by omega) ⟨fun h => by (cases h), fun ⟨i', a, b, _⟩ => by omega⟩
  · intro i c i0 i1 hc hk
    refine ev_eq (fun _ k _ => semigrouplaw20_MorphComplete_2_eq k) (ev_pos i1 (ev_rdS T11 i0 i1 fun r hr => ev_orV (c := decide (R (hms true l0 l0) i = l2)) (fun _ => ev_is (semigroupref03_Same_ev hr t2 (rl hn i0 i1)) (ev_ret ⟨by congr 1, rfl⟩)) ?_))
    rw [W_add i0 i1 (by omega)]
    exact hk _ (step hc i0)
  intro c hc
  rw [last] at hb hc
  refine ev_eq (fun _ k _ => semigrouplaw20_MorphComplete_2_eq k) (ev_neg (by omega) (ev_is (morph_IsHom_ev h0 h1 t0 t1 t2) ?_))
  have g1 : (b == decide ((val l0 = 0 ∧ val l1 = 0) ∧ Hm l0 l1 l2)) = true := by
    rw [beq_iff_eq, Bool.eq_iff_iff, hb, decide_eq_true_iff]
    exact ⟨fun h => ⟨⟨ha, hbv⟩, h.1⟩, fun h => ⟨h.2, fun e => by (cases e)⟩⟩
  refine ev_and (S := fun b _ => b = true) (fun _ => ?_) (fun h => by rw [g1] at h; cases h) fun b H22 hb => ev_aw hb aw
  refine ev_is (morph_IsHom_ev h0 h0 t0 t0 t2) (ev_andVL (c := decide ((imgL l0.length l2).length = l0.length)) (fun hg => ?_) fun H13 l13 => ev_ret ?_)
  · have hg := of_decide_eq_true hg
    refine ev_call (morph_Image_ev (Nat.le_refl _) h0 h0 t0 t0 t2) fun v H11 hS => ev_ret ⟨?_, hS.le⟩
    rw [if_pos hg] at hS
    rw [hS.len, t0.len]
    exact decide_eq_decide.2 (by omega)
  · rw [beq_iff_eq, Bool.eq_iff_iff, hc, Bool.and_eq_true, decide_eq_true_iff, decide_eq_true_iff]
    constructor
    · intro h
      exact ⟨⟨⟨ha, ha⟩, h.1⟩, (img_inj h.1 rfl).2 (h.2 rfl)⟩
    · intro h
      exact ⟨h.1.2, fun _ => (img_inj h.1.2 rfl).1 h.2⟩
end Go.Ab
