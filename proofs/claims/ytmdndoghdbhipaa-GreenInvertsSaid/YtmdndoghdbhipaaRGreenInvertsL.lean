/- GreenInverts: for every table the law answers true. No condition but that the arguments come in. -/
import Derived.Test.YtmdndoghdbhipaaRGreenInvertsF13
import Derived.Test.YtmdndoghdbhipaaAbM16
set_option linter.unusedVariables false
set_option linter.unusedSimpArgs false
namespace Go.Ab
open Go

theorem filter_snoc {l : List Int} {f : Int → Bool} {i : Int} (i0 : 0 ≤ i) (i1 : i < (l.length : Int)) : ((l.take (i + 1).toNat).filter f).length = ((l.take i.toNat).filter f).length + (if f (rd l i) = true then 1 else 0) := by
  have e : l.take (i + 1).toNat = l.take i.toNat ++ [rd l i] := by
    rw [show (i + 1).toNat = i.toNat + 1 by omega, List.take_add_one, List.getElem?_eq_getElem (by omega)]
    congr 1
    unfold rd
    rw [List.getD_eq_getElem?_getD, List.getElem?_eq_getElem (by omega)]; rfl
  rw [e, List.filter_append, List.length_append]
  by_cases h : f (rd l i) = true
  · simp [h]
  · simp [h]
open Classical in
theorem law_GreenInverts {H : AH} {s0 : Sl} {l0 : List (List Int)} {a1 : Int} (h0 : In2 l0) (t0 : Tab H s0 l0) (h1 : (Lit.int .i64 a1).wf = true) : Ev (fun ρ k κ => semigrouplaw15_GreenInverts k s0 a1 H.length H κ) (fun v _ => v = true) := by
  have aw : ∀ H : AH, Ev (fun ρ k κ => semigrouplaw15_awake k H.length H fun v H' => κ v H') (fun v _ => v = true) := fun H => ev_call semigrouplaw15_awake_true fun v H' hv => ev_ret hv
  refine ev_eq (fun _ k _ => semigrouplaw15_GreenInverts_eq k) (ev_is (semigrouplaw15_small_ev h0 t0) ?_)
  refine ev_orVL (c := decide (¬ El l0 [a1])) (fun _ => ev_mkbI [a1] fun s H14 hs l14 => ev_is (semigroupref14_In_ev (b := decide (El l0 [a1])) (t0.le l14).len hs (by simp) (by simp)) (ev_ret ⟨by simp, l14⟩)) fun H8 l8 => ev_b (fun _ => aw _) (fun hb => ?_)
  simp only [Bool.or_eq_false_iff, Bool.not_eq_false', decide_eq_true_iff, decide_eq_false_iff_not, Classical.not_not] at hb
  obtain ⟨⟨hn16, h⟩, he⟩ := hb
  obtain ⟨x0, x1⟩ := he a1 (by simp)
  have hv := val_va.1 h
  have hsq := hv.toSq
  have hn := hv.le
  have cR := gR_cl hv
  have cL := gL_cl hv
  have cJ := gJ_cl hv
  have lR := cR.len
  have lL := cL.len
  have lJ := cJ.len
  have jx := gJ_lt hv x0 x1
  refine ev_call (green_Classes_ev (Nat.le_refl _) h0 (t0.le l8)) fun r H12 hg => ev_call (green_Regular_ev (Nat.le_refl _) h0 ((t0.le l8).le hg.le)) fun v13 H14 h14 => ?_
  have hS := hg.call h14
  refine ev_call (green_Inverses_ev (Nat.le_refl _) h0 ((t0.le l8).le hS.le)) fun v15 H16 h16 => sp_alc (hS.call h16) fun p H18 hS => sp_stnC hS l8.len rfl fun Hb hS => ?_
  simp only [OwnG', vif_pos h] at hS
  rw [if_pos ⟨h, x0, x1⟩] at hS
  have hp := hS.at1
  have i1 := (hS.pull 1).row
  have g1 := (hS.pull 2).rowB
  have r1 := (hS.pull 3).row
  have r2 := (hS.pull 4).row
  have r3 := (hS.pull 5).row
  have tb := t0.le (l8.trans hS.le)
  have lreg : (regL l0).length = nJ l0 := brow_len _ _
  refine ev_fldS hp rfl (ev_orF' (by simp [r3.len, tb.len, lJ]) (ev_fldS hp rfl (ev_rdI r3 x0 (by omega) (ev_ret ⟨decide_eq_false (by rw [g1.len, lreg]; omega), rfl⟩))) (ev_f rfl ?_))
  refine ev_call (mult_Idempotents_ev (Nat.le_refl _) h0 tb) fun v27 H28 h28 => ?_
  rw [vif_pos h] at h28
  have hid := h28.row
  have hp := hp.le h28.le
  have i1 := i1.le h28.le
  have g1 := RowB.le g1 h28.le
  have r1 := r1.le h28.le
  have r2 := r2.le h28.le
  have r3 := r3.le h28.le
  have lid : (idem l0).length ≤ l0.length := sel_len
  rw [hid.len]
  refine ev_loop (α := Int × Int) (g := fun i c ρ k κ => semigrouplaw15_GreenInverts_1 k a1 (some p) v13 v15 c.1 c.2 v27 ((idem l0).length : Int) i H.length H28 κ) ((idem l0).length : Int) (fun i c => c.1 = ((((idem l0).take i.toNat).filter fun e => decide (rd (gL l0) e = rd (gL l0) a1)).length : Int) ∧ c.2 = ((((idem l0).take i.toNat).filter fun e => decide (rd (gR l0) e = rd (gR l0) a1)).length : Int)) ?_ ?_ 0 (0, 0) (by omega) (by omega) ⟨by simp, by simp⟩
  · rintro i ⟨c, d⟩ i0 i1' ⟨hc, hd⟩ hk
    simp only at hc hd
    obtain ⟨e0, e1⟩ : 0 ≤ rd (idem l0) i ∧ rd (idem l0) i < (l0.length : Int) := by
      have hm : rd (idem l0) i ∈ sel (fun x => M l0 x x = x) 0 l0.length := rd_mem i0 i1'
      have := sel_mem.1 hm
      exact ⟨this.1, by have := this.2.1; omega⟩
    have lc : (((idem l0).take i.toNat).filter fun e => decide (rd (gL l0) e = rd (gL l0) a1)).length ≤ i.toNat := Nat.le_trans (List.length_filter_le _ _) (by simp; omega)
    have ld : (((idem l0).take i.toNat).filter fun e => decide (rd (gR l0) e = rd (gR l0) a1)).length ≤ i.toNat := Nat.le_trans (List.length_filter_le _ _) (by simp; omega)
    have sc := filter_snoc (f := fun e => decide (rd (gL l0) e = rd (gL l0) a1)) i0 i1'
    have sd := filter_snoc (f := fun e => decide (rd (gR l0) e = rd (gR l0) a1)) i0 i1'
    have two : ∀ c' : Int, c' = ((((idem l0).take (i + 1).toNat).filter fun e => decide (rd (gL l0) e = rd (gL l0) a1)).length : Int) → Ev (fun ρ k κ => semigrouplaw15_GreenInverts_2 k a1 (some p) v13 v15 c' d (rd (idem l0) i) v27 ((idem l0).length : Int) i H.length H28 κ) (fun v _ => v = true) := by
      intro c' hc'
      refine ev_eq (fun _ k _ => semigrouplaw15_GreenInverts_2_eq k) (ev_asP (ev_fldS hp rfl (ev_rdI r1 (by exact e0) (by omega) (ev_asP (ev_fldS hp rfl (ev_rdI r1 x0 (by omega) (ev_if (fun hh => ?_) (fun hh => ?_))))))))
      · have : (decide (rd (gR l0) (rd (idem l0) i) = rd (gR l0) a1)) = true := decide_eq_true hh
        rw [if_pos this] at sd
        refine ev_eq (fun _ k _ => semigrouplaw15_GreenInverts_3_eq k) ?_
        rw [W_add i0 i1' (by omega), W_in (i := d + 1) (by omega) (by omega)]
        exact hk (c', d + 1) ⟨hc', by simp only; omega⟩
      · have : ¬ (decide (rd (gR l0) (rd (idem l0) i) = rd (gR l0) a1)) = true := fun x => hh (of_decide_eq_true x)
        rw [if_neg this] at sd
        refine ev_eq (fun _ k _ => semigrouplaw15_GreenInverts_3_eq k) ?_
        rw [W_add i0 i1' (by omega)]
        exact hk (c', d) ⟨hc', by simp only; omega⟩
    refine ev_eq (fun _ k _ => semigrouplaw15_GreenInverts_1_eq k) (ev_pos i1' (ev_rdI hid i0 i1' (ev_asP (ev_fldS hp rfl (ev_rdI r2 (by exact e0) (by omega) (ev_asP (ev_fldS hp rfl (ev_rdI r2 x0 (by omega) (ev_if (fun hh => ?_) (fun hh => ?_))))))))))
    · have : (decide (rd (gL l0) (rd (idem l0) i) = rd (gL l0) a1)) = true := decide_eq_true hh
      rw [if_pos this] at sc
      rw [W_in (i := c + 1) (by omega) (by omega)]
      exact two _ (by omega)
    · have : ¬ (decide (rd (gL l0) (rd (idem l0) i) = rd (gL l0) a1)) = true := fun x => hh (of_decide_eq_true x)
      rw [if_neg this] at sc
      exact two _ (by omega)
  · rintro ⟨c, d⟩ ⟨hc, hd⟩
    simp only [Int.toNat_natCast, List.take_length] at hc hd
    have lc : ((idem l0).filter fun e => decide (rd (gL l0) e = rd (gL l0) a1)).length ≤ 16 := Nat.le_trans (List.length_filter_le _ _) (by omega)
    have ld : ((idem l0).filter fun e => decide (rd (gR l0) e = rd (gR l0) a1)).length ≤ 16 := Nat.le_trans (List.length_filter_le _ _) (by omega)
    have cnt := inv_count hv x0 x1
    have som := inv_some hv x0 x1
    have hcd : W (c * d) = ((invsOf l0 a1).length : Int) := by
      rw [hc, hd]
      have : (((idem l0).filter fun e => decide (rd (gL l0) e = rd (gL l0) a1)).length) * (((idem l0).filter fun e => decide (rd (gR l0) e = rd (gR l0) a1)).length) ≤ 16 * 16 := Nat.mul_le_mul lc ld
      rw [← Int.natCast_mul, W_in (by omega) (by omega)]
      unfold invsOf IsInv
      rw [cnt]
    refine ev_eq (fun _ k _ => semigrouplaw15_GreenInverts_1_eq k) (ev_neg (by omega) (ev_andT' (by rw [i1.len, hcd]; simp) (ev_asP (ev_fldS hp rfl (ev_rdI r3 x0 (by omega) (ev_rdB g1 jx.1 (by omega) (ev_ret ⟨?_, rfl⟩))))) (ev_aw rfl aw)))
    rw [i1.len]
    have e1 : rdOf false (regL l0) (rd (gJ l0) a1) = decide (RegC l0 (rd (gJ l0) a1)) := brow_at jx.1 jx.2
    rw [e1]
    have : ((invsOf l0 a1).length : Int) > 0 ↔ RegC l0 (rd (gJ l0) a1) := by
      rw [show (((invsOf l0 a1).length : Int) > 0) ↔ 0 < (invsOf l0 a1).length by omega]
      exact som
    by_cases hr : RegC l0 (rd (gJ l0) a1)
    · rw [decide_eq_true hr, beq_iff_eq]
      exact decide_eq_true (this.2 hr)
    · rw [decide_eq_false hr, beq_iff_eq]
      exact decide_eq_false fun x => hr (this.1 x)
end Go.Ab
