/- ReesSimple: for all arguments the law answers true. No condition but that they come in. -/
import Derived.Test.YtnoickhdbinciaaRReesSimpleF1
import Derived.Test.YtnoickhdbinciaaRReesSimpleM1
/- ReesSimple: for every structure the law answers true. No condition but that the arguments come in. -/
set_option linter.unusedVariables false
set_option linter.unusedSimpArgs false
namespace Go.Ab
open Go

open Classical in
theorem law_ReesSimple {H : AH} {s0_0 : Sl} {l0_0 : List (List Int)} {a0_1 : Int} {a0_2 : Int} {s0_3 : Sl} {l0_3 : List (List Int)} {a0_4 : Bool} (h0_0 : In2 l0_0) (t0_0 : Tab H s0_0 l0_0) (h0_1 : (Lit.int .i64 a0_1).wf = true) (h0_2 : (Lit.int .i64 a0_2).wf = true) (h0_3 : In2 l0_3) (t0_3 : Tab H s0_3 l0_3) : Ev (fun ρ k κ => semigrouplaw17_ReesSimple k s0_0 a0_1 a0_2 s0_3 a0_4 H.length H κ) (fun v _ => v = true) := by
  have aw : ∀ H : AH, Ev (fun ρ k κ => semigrouplaw17_awake k H.length H fun v H' => κ v H') (fun v _ => v = true) := fun H => ev_call semigrouplaw17_awake_true fun v H' hv => ev_ret hv
  refine ev_eq (fun _ k _ => semigrouplaw17_ReesSimple_eq k) (ev_alcB fun p H2 hp _ l2 => ev_fldS hp rfl ?_)
  rw [t0_0.len]
  refine ev_or (S := fun b H' => (b = false → (l0_0.length : Int) ≤ 6 ∧ RVa l0_0 a0_1 a0_2 l0_3 a0_4) ∧ Le H2 H') (fun hg => ev_siisb hp (ev_call (semigroupref17_Validate_ev h0_0 (t0_0.le l2) h0_3 (t0_3.le l2)) fun v H11 ⟨e, l⟩ => ev_ret ⟨fun hv => ?_, l⟩)) (fun hg => ⟨fun e => by (cases e), Le.refl _⟩) fun b H13 ⟨hb, l13⟩ => ?_
  · simp only [Bool.not_eq_false', decide_eq_true_iff] at hv
    rw [e] at hv
    have := of_decide_eq_false hg
    exact ⟨by omega, rval_rv.1 hv⟩
  have hp := hp.le l13
  have l13 := l2.trans l13
  refine ev_or (S := fun b' H' => (b' = false → RVa l0_0 a0_1 a0_2 l0_3 a0_4) ∧ Le H13 H') (fun hg => ?_) (fun hg => ⟨fun e => by (cases e), Le.refl _⟩) fun b' H22 ⟨hb', l22⟩ => ev_b (fun _ => aw _) (fun hbf => ?_)
  · have hv := (hb hg).2
    exact ev_siisb hp (ev_call (semigroupref17_Size_ev (t0_0.le l13).len hv) fun v H20 ⟨e, l⟩ => ev_ret ⟨fun _ => hv, l⟩)
  have hv := hb' hbf
  have hp := hp.le l22
  have l22 := l13.trans l22
  have hva := rtab_va hv
  have hval := val_va.2 hva
  have hlen := rtab_len hv
  have hnn := hva.le
  have hin := in2_sq hva.toSq
  have lJ := (gJ_cl hva).len
  have lB : (gB (rtab l0_0 a0_1 a0_2 l0_3 a0_4)).length = nJ (rtab l0_0 a0_1 a0_2 l0_3 a0_4) := btab_len _ _ _
  have lreg : (regL (rtab l0_0 a0_1 a0_2 l0_3 a0_4)).length = nJ (rtab l0_0 a0_1 a0_2 l0_3 a0_4) := brow_len _ _
  refine ev_siisb hp (ev_call (rees_Table_ev (Nat.le_refl _) h0_0 (t0_0.le l22) h0_3 (t0_3.le l22)) fun r H31 ⟨er, hT⟩ => ?_)
  have hr0 := rval_rv.2 hv
  rw [if_pos hr0] at hT
  refine ev_nneg (by rw [er]; exact hr0) (ev_call (green_Classes_ev (Nat.le_refl _) hin hT.tab) fun g H33 hg => ev_call (green_Regular_ev (Nat.le_refl _) hin (hT.tab.le hg.le)) fun v34 H35 h35 => ?_)
  refine sp_alc (hg.call h35) fun q H37 hS => sp_stnC hS (by have := l22.len; have := hT.le.len; omega) rfl fun H38 hS => ?_
  simp only [OwnG', vif_pos hval] at hS
  have hq := hS.at1
  have v34r := (hS.pull 1).rowB
  have r3 := (hS.pull 4).row
  have rB := (hS.pull 6).tabB
  have hp38 := hp.le (hT.le.trans hS.le)
  have l38 := l22.trans (hT.le.trans hS.le)
  refine ev_fldB hp38 rfl ?_
  cases hZ : a0_4 with
  | false =>
    rw [hZ] at hv hp38
    obtain ⟨n1, ⟨x, x0, x1, x2, x3⟩, hrg⟩ := rees_one hv rfl
    subst hZ
    refine ev_t rfl (ev_fldS hq rfl (ev_andT' (by simp [rB.len, lB, n1]) (ev_ret ⟨by simp [v34r.len, lreg, n1], rfl⟩) (ev_andT' rfl (ev_rdB v34r (by omega) (by omega) (ev_ret ⟨?_, rfl⟩)) ?_)))
    · rw [show rdOf false (regL (rtab l0_0 a0_1 a0_2 l0_3 false)) 0 = _ from brow_at (by omega) (by omega)]
      exact decide_eq_true ⟨x, x0, x1, x2, x3⟩
    refine ev_andT rfl (ev_siisb hp38 (ev_call (rees_Regular_ev (Nat.le_refl _) h0_0 (t0_0.le l38) h0_3 (t0_3.le l38)) fun v H' ⟨e, l⟩ => ev_ret ⟨?_, l⟩)) fun H56 _ => ev_aw rfl aw
    rw [e]; exact decide_eq_true ⟨hr0, hrg⟩
  | true =>
    rw [hZ] at hv hp38
    have key := rees_two hv rfl
    subst hZ
    have hpos : 0 < a0_1 * a0_2 * (l0_0.length : Int) := Int.mul_pos (Int.mul_pos (by have := hv.m1; omega) (by have := hv.k1; omega)) hv.grp.pos
    have hz1 : zz true = 1 := rfl
    refine ev_f rfl (ev_fldS hq rfl ?_)
    refine ev_andV (c := decide (nJ (rtab l0_0 a0_1 a0_2 l0_3 true) = 2)) (fun _ => ev_ret ⟨?_, rfl⟩) ?_
    · rw [v34r.len, lreg]; apply decide_eq_decide.2; omega
    rw [rB.len, lB]
    refine ev_andV (c := decide (RegC (rtab l0_0 a0_1 a0_2 l0_3 true) 0)) (fun hg => ?_) (ev_andV (c := decide (RegC (rtab l0_0 a0_1 a0_2 l0_3 true) 1)) (fun hg => ?_) (ev_andV (c := true) (fun hg => ev_fldS hq rfl (ev_ret ⟨?_, rfl⟩)) (ev_andV (c := !decide (rd (gJ (rtab l0_0 a0_1 a0_2 l0_3 true)) 1 = rd (gJ (rtab l0_0 a0_1 a0_2 l0_3 true)) 0)) (fun hg => ev_fldS hq rfl (ev_rdI r3 (by omega) (by omega) (ev_fldS hq rfl (ev_rdI r3 (by omega) (by omega) (ev_ret ⟨rfl, rfl⟩))))) ?_)))
    · simp only [Bool.and_eq_true, decide_eq_true_iff] at hg
      exact ev_rdB v34r (by omega) (by omega) (ev_ret ⟨brow_at (by omega) (by omega), rfl⟩)
    · simp only [Bool.and_eq_true, decide_eq_true_iff] at hg
      exact ev_rdB v34r (by omega) (by omega) (ev_ret ⟨brow_at (by omega) (by omega), rfl⟩)
    · rw [r3.len, hT.len, lJ]; simp
    refine ev_siisb hp38 (ev_call (rees_Regular_ev (Nat.le_refl _) h0_0 (t0_0.le l38) h0_3 (t0_3.le l38)) fun v H' ⟨e, l⟩ => ev_aw ?_ aw)
    rw [e, beq_iff_eq, Bool.eq_iff_iff]
    simp only [Bool.and_eq_true, Bool.not_eq_true', decide_eq_true_iff, decide_eq_false_iff_not, and_true]
    constructor
    · rintro ⟨⟨⟨⟨a, _⟩, b⟩, c⟩, d⟩
      exact ⟨hr0, key.1 ⟨by omega, b, c, d⟩⟩
    · rintro ⟨_, a⟩
      obtain ⟨a, b, c, d⟩ := key.2 a
      exact ⟨⟨⟨⟨by omega, a⟩, b⟩, c⟩, d⟩
end Go.Ab
