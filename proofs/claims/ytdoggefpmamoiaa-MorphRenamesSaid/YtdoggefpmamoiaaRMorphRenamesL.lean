/- MorphRenames: for all arguments the law answers true. No condition but that they come in. -/
import Derived.Test.YtdoggefpmamoiaaRMorphRenamesF1
/- MorphRenames: for all arguments the law answers true. No condition but that they come in. -/
set_option linter.unusedVariables false
set_option linter.unusedSimpArgs false
namespace Go.Ab
open Go

open Classical in
theorem law_MorphRenames {H : AH} {s0 : Sl} {l0 : List (List Int)} {s1 : Sl} {l1 : List Int} {a2 : Int} {a3 : Int} (h0 : In2 l0) (t0 : Tab H s0 l0) (h1 : In1 l1) (t1 : Row H s1 l1) (h2 : (Lit.int .i64 a2).wf = true) (h3 : (Lit.int .i64 a3).wf = true) : Ev (fun ρ k κ => semigrouplaw20_MorphRenames k s0 s1 a2 a3 H.length H κ) (fun v _ => v = true) := by
  have aw : ∀ H : AH, Ev (fun ρ k κ => semigrouplaw20_awake k H.length H fun v H' => κ v H') (fun v _ => v = true) := fun H => ev_call semigrouplaw20_awake_true fun v H' hv => ev_ret hv
  refine ev_eq (fun _ k _ => semigrouplaw20_MorphRenames_eq k) (ev_is (semigrouplaw20_small_ev h0 t0) (ev_nif (fun _ => aw _) (fun hs => ?_)))
  obtain ⟨hn, ha⟩ := hs
  have hv := val_va.1 ha
  have n0 := hv.pos
  rw [t0.len]
  refine ev_call (semigroupref03_Discrete_ev (Nat.le_refl _) (by omega)) fun ps H6 hS => ?_
  rw [t1.len]
  have h1l := h1.1
  refine ev_loop (α := AH) (g := fun k' H' ρ k κ => semigrouplaw20_MorphRenames_1 k s0 a2 a3 (l0.length : Int) ps s1 (l1.length : Int) k' H.length H' κ) (l1.length : Int) (fun k' H' => ∃ p, Sep H H' [own reI ps p] ∧ Pe l0.length p) ?_ ?_ 0 H6 (by omega) (by omega) ⟨_, hS, idL_pe _⟩
  · rintro k' H1 k0 k1 ⟨p, hS, pe⟩ hk
    have pl := pe.len
    refine ev_eq (fun _ k _ => semigrouplaw20_MorphRenames_1_eq k) (ev_pos k1 (ev_rdI (t1.le hS.le) k0 k1 (ev_if (fun hlt => ?_) (fun _ => ?_))))
    · have hx := tmod_ok (a := rd l1 k') n0 (by omega)
      refine ev_neg (by omega) (ev_neg (by omega) (ev_rdI hS.row hx.1 (by omega) (ev_rdI hS.row k0 (by omega) (sp_put (x := rd p (Int.tmod (W (Int.tmod (rd l1 k') (l0.length : Int) + (l0.length : Int))) (l0.length : Int))) hS (Nat.le_refl _) (fun _ => ⟨rfl, rfl⟩) k0 (by omega) fun H5 hS => sp_put (x := rd p k') hS (Nat.le_refl _) (fun _ => ⟨rfl, rfl⟩) hx.1 (by simp; omega) fun H7 hS => ev_eq (fun _ k _ => semigrouplaw20_MorphRenames_2_eq k) ?_))))
      rw [W_add k0 k1 (by omega)]
      exact hk H7 ⟨_, hS, pe.swap k0 hlt hx.1 hx.2⟩
    · refine ev_eq (fun _ k _ => semigrouplaw20_MorphRenames_2_eq k) ?_
      rw [W_add k0 k1 (by omega)]
      exact hk H1 ⟨p, hS, pe⟩
  rintro H1 ⟨p, hS, pe⟩
  have pl := pe.len
  refine ev_eq (fun _ k _ => semigrouplaw20_MorphRenames_1_eq k) (ev_neg (by omega) (ev_call (semigroupref03_Copy_ev (Nat.le_refl _) (t0.le hS.le) (by omega) fun x a b => by have := hv.row x a b; omega) fun us H9 hC => ?_))
  have hS := hS.call hC
  rw [t0.len]
  refine ev_loop (α := AH) (g := fun x H' ρ k κ => semigrouplaw20_MorphRenames_3 k s0 a2 a3 (l0.length : Int) ps us (l0.length : Int) x H.length H' κ) (l0.length : Int) (fun x H' => ∃ T, Sep H H' [own (reL reI) us T, own reI ps p] ∧ T.length = l0.length ∧ (∀ x' : Int, 0 ≤ x' → x' < (l0.length : Int) → (R T x').length = l0.length) ∧ ∀ x' y : Int, 0 ≤ x' → x' < x → 0 ≤ y → y < (l0.length : Int) → M T (rd p x') (rd p y) = rd p (M l0 x' y)) ?_ ?_ 0 H9 (by omega) (by omega) ⟨l0, hS, rfl, fun x a b => by have := hv.row x a b; omega, fun x' y a b => by omega⟩
  · rintro x H2 x0 x1 ⟨T, hS, hT, hr, hm⟩ hk
    have px := pe.into x x0 x1
    refine ev_eq (fun _ k _ => semigrouplaw20_MorphRenames_3_eq k) (ev_pos x1 ?_)
    rw [t0.len]
    refine ev_loop (α := AH) (g := fun y H' ρ k κ => semigrouplaw20_MorphRenames_4 k s0 a2 a3 (l0.length : Int) ps us x (l0.length : Int) x (l0.length : Int) y H.length H' κ) (l0.length : Int) (fun y H' => ∃ T, Sep H H' [own (reL reI) us T, own reI ps p] ∧ T.length = l0.length ∧ (∀ x' : Int, 0 ≤ x' → x' < (l0.length : Int) → (R T x').length = l0.length) ∧ (∀ x' y : Int, 0 ≤ x' → x' < x → 0 ≤ y → y < (l0.length : Int) → M T (rd p x') (rd p y) = rd p (M l0 x' y)) ∧ ∀ y' : Int, 0 ≤ y' → y' < y → M T (rd p x) (rd p y') = rd p (M l0 x y')) ?_ ?_ 0 H2 (by omega) (by omega) ⟨T, hS, hT, hr, hm, fun y a b => by omega⟩
    · rintro y H3 y0 y1 ⟨T, hS, hT, hr, hm, hy⟩ hk
      have py := pe.into y y0 y1
      have rx := hv.row x x0 x1
      have m0 := hv.lo x y x0 x1 y0 y1
      have m1 := hv.hi x y x0 x1 y0 y1
      have hT' : rd p x < (T.length : Int) := by omega
      have hrl : (rdOf [] T (rd p x)).length = l0.length := hr _ px.1 px.2
      refine ev_eq (fun _ k _ => semigrouplaw20_MorphRenames_4_eq k) (ev_pos y1 (ev_rdI (hS.pull 1).row x0 (by omega) (sp_open hS px.1 hT' fun w hS => ev_rdI (hS.pull 2).row y0 (by omega) (ev_rdM (t0.le hS.le) x0 x1 y0 (by omega) (ev_rdI (hS.pull 2).row m0 (by omega) (sp_put (x := rd p (M l0 x y)) (hS.pull 1) (Nat.le_refl _) (fun _ => ⟨rfl, rfl⟩) py.1 (by omega) fun H4 hS => ?_))))))
      rw [W_add y0 y1 (by omega)]
      have set_at : ∀ x' y' : Int, 0 ≤ x' → 0 ≤ y' → M (T.set (rd p x).toNat ((rdOf [] T (rd p x)).set (rd p y).toNat (rd p (M l0 x y)))) x' y' = if x' = rd p x then (if y' = rd p y then rd p (M l0 x y) else M T x' y') else M T x' y' := fun x' y' a b => by
        unfold M
        rw [R_set px.1 hT' a]
        split
        · rename_i e
          rw [rd_set py.1 (by omega) b, e]; rfl
        · rfl
      refine hk H4 ⟨_, (hS.pull 1).close, by simpa using hT, fun x' a b => ?_, fun x' y' a b c d => ?_, fun y' c d => ?_⟩
      · rw [R_set px.1 hT' a]
        split
        · rw [List.length_set]; exact hrl
        · exact hr x' a b
      · have p1 := pe.into x' a (by omega)
        have p2 := pe.into y' c d
        rw [set_at _ _ p1.1 p2.1, if_neg (fun e => by have := pe.inj x' x a (by omega) x0 x1 e; omega)]
        exact hm x' y' a b c d
      · have p2 := pe.into y' c (by omega)
        rw [set_at _ _ px.1 p2.1, if_pos rfl]
        by_cases hyy : y' = y
        · rw [hyy, if_pos rfl]
        · rw [if_neg (fun e => hyy (pe.inj y' y c (by omega) y0 y1 e))]
          exact hy y' c (by omega)
    · rintro H3 ⟨T, hS, hT, hr, hm, hy⟩
      refine ev_eq (fun _ k _ => semigrouplaw20_MorphRenames_4_eq k) (ev_neg (by omega) ?_)
      rw [W_add x0 x1 (by omega)]
      refine hk H3 ⟨T, hS, hT, hr, fun x' y a b c d => ?_⟩
      by_cases hx : x' = x
      · rw [hx]; exact hy y c d
      · exact hm x' y a (by omega) c d
  rintro H2 ⟨T, hS, hT, hr, hm⟩
  have rn : Rn l0 p T := ⟨hT, hr, fun x y a b c d => hm x y a b c d⟩
  have tv := rn.va hv pe
  have hT2 := in2_sq tv.toSq
  have t0' := t0.le hS.le
  have hTt := hS.tab
  have se : sErr l0 T = 0 := sErr_zero.2 ⟨⟨ha, val_va.2 tv⟩, by omega, by omega⟩
  have se0 : sErr l0 l0 = 0 := sErr_zero.2 ⟨⟨ha, ha⟩, by omega, by omega⟩
  have ei : isoL l0 T = (hms true l0 T).take 1 := by unfold isoL; rw [if_pos ⟨se, hT.symm⟩]
  have pm : p ∈ hms true l0 T := ((hms_full true l0 T).mem p).2 (rn.hom pe)
  have l1' : (isoL l0 T).length = 1 := by
    have := List.length_pos_of_mem pm
    rw [ei, List.length_take]; omega
  have hf : Hn true l0 T (R (isoL l0 T) 0) := by
    have : R (isoL l0 T) 0 ∈ isoL l0 T := R_mem (by omega) (by omega)
    rw [ei] at this ⊢
    exact ((hms_full true l0 T).mem _).1 (List.mem_of_mem_take this)
  refine ev_eq (fun _ k _ => semigrouplaw20_MorphRenames_3_eq k) (ev_neg (by omega) (ev_call (morph_Isomorphism_ev (Nat.le_refl _) h0 hT2 t0' hTt) fun r1 H4 ⟨e1, e2, hr1, l4⟩ => ?_))
  rw [l1'] at e2
  have t4 := t0'.le l4
  have T4 := hTt.le l4
  refine ev_orF' (by rw [e1, se]; rfl) (ev_ret ⟨by rw [e2]; rfl, rfl⟩) (ev_orF' rfl (ev_is (morph_IsHom_ev h0 hT2 t4 T4 hr1) (ev_ret ⟨by rw [decide_eq_true ⟨⟨ha, val_va.2 tv⟩, hf.1⟩]; rfl, rfl⟩)) (ev_orVL (c := false) (fun _ => ev_call (morph_Image_ev (Nat.le_refl _) h0 hT2 t4 T4 hr1) fun v H10 hi => ev_ret ⟨?_, hi.le⟩) fun H12 l12 => ev_f rfl ?_))
  · rw [if_pos ⟨⟨ha, val_va.2 tv⟩, hf.1⟩] at hi
    rw [hi.len, (img_inj hf.1 hT).2 (hf.2 rfl), hT]; simp
  have few : (hms true l0 l0).length ≤ 720 := autos_720 (t := l0) (by omega)
  refine ev_call (morph_Automorphisms_ev (Nat.le_refl _) h0 (t4.le l12)) fun r13 H14 ⟨e13, hA⟩ => ?_
  rw [fErr_ok se0 (by omega)] at e13 hA
  rw [if_pos rfl] at hA
  have idm : idL l0.length ∈ hms true l0 l0 := ((hms_full true l0 l0).mem _).2 (idL_hn hv.toSq)
  have mpos := List.length_pos_of_mem idm
  have rowh : ∀ i : Int, 0 ≤ i → i < ((hms true l0 l0).length : Int) → Hn true l0 l0 (R (hms true l0 l0) i) := fun i i0 i1 => ((hms_full true l0 l0).mem _).1 (R_mem i0 i1)
  rw [hA.len]
  have hx2 := tmod_ok (a := a2) (n := ((hms true l0 l0).length : Int)) (by omega) (by omega)
  have hx3 := tmod_ok (a := a3) (n := ((hms true l0 l0).length : Int)) (by omega) (by omega)
  refine ev_orF' (by rw [e13]; rfl) (ev_ret ⟨by rw [decide_eq_false (by omega)], rfl⟩) (ev_orF' rfl (ev_rdS hA.tab (Int.le_refl _) (by omega) fun r hr => ev_ret ⟨?_, rfl⟩) (ev_f rfl (ev_neg (by omega) (ev_neg (by omega) (ev_rdS hA.tab hx2.1 hx2.2 fun b hb => ev_neg (by omega) (ev_neg (by omega) (ev_rdS hA.tab hx3.1 hx3.2 fun c hc => ?_)))))))
  · have := (rowh 0 (Int.le_refl _) (by omega)).1.len
    rw [hr.len, this]; simp
  have hbH := rowh _ hx2.1 hx2.2
  have hcH := rowh _ hx3.1 hx3.2
  revert hb hc hbH hcH
  generalize R (hms true l0 l0) (Int.tmod (W (Int.tmod a2 ((hms true l0 l0).length : Int) + ((hms true l0 l0).length : Int))) ((hms true l0 l0).length : Int)) = B
  generalize R (hms true l0 l0) (Int.tmod (W (Int.tmod a3 ((hms true l0 l0).length : Int) + ((hms true l0 l0).length : Int))) ((hms true l0 l0).length : Int)) = C
  intro hb hc hbH hcH
  have lb := hbH.1.len
  have lc := hcH.1.len
  have LH : H.length ≤ H14.length := by have := hS.le.len; have := l4.len; have := l12.len; have := hA.le.len; omega
  rw [hb.len]
  refine ev_loop (α := Sl × AH) (g := fun x a ρ k κ => semigrouplaw20_MorphRenames_5 k r13.1 c a.1 b (B.length : Int) x H.length a.2 κ) (B.length : Int) (fun x a => Sep H14 a.2 [own reI a.1 ((List.range x.toNat).map fun i : Nat => rd C (rd B i))]) ?_ ?_ 0 (⟨none, 0⟩, H14) (by omega) (by omega) ((Sep.nil H14).nilS reI)
  · rintro x ⟨o, H15⟩ x0 x1 hS hk
    simp only at hS
    have bx := hbH.1.into x x0 (by omega)
    refine ev_eq (fun _ k _ => semigrouplaw20_MorphRenames_5_eq k) (ev_pos x1 (ev_rdI (hb.le hS.le) x0 x1 ?_))
    rw [hc.len]
    refine ev_orP (c := rd B x ≥ (C.length : Int)) (fun _ => ev_ret ⟨rfl, rfl⟩) (ev_neg (by omega) (ev_rdI (hc.le hS.le) bx.1 (by omega) (sp_app1 (x := rd C (rd B x)) hS LH (fun _ => ⟨rfl, rfl⟩) (by simp; omega) fun o' H16 hS => ?_)))
    rw [W_add x0 x1 (by omega)]
    refine hk (o', H16) (hS.eq ?_)
    rw [← range_snoc _ x0, show ((x.toNat : Nat) : Int) = x by omega]
  rintro ⟨o, H15⟩ hS
  simp only [Int.toNat_natCast] at hS
  rw [lb] at hS
  have hD : comL l0.length B C ∈ hms true l0 l0 := ((hms_full true l0 l0).mem _).2 (comL_hn hv.toSq hbH hcH)
  refine ev_eq (fun _ k _ => semigrouplaw20_MorphRenames_5_eq k) (ev_neg (by omega) ?_)
  rw [hA.len]
  refine ev_loop (α := Bool) (g := fun i f ρ k κ => semigrouplaw20_MorphRenames_6 k o f r13.1 ((hms true l0 l0).length : Int) i H.length H15 κ) ((hms true l0 l0).length : Int) (fun i f => f = true ↔ ∃ i' : Int, 0 ≤ i' ∧ i' < i ∧ R (hms true l0 l0) i' = comL l0.length B C) ?_ ?_ 0 false (by omega) (by omega) ⟨fun h => by (cases h), fun ⟨i', a, b, _⟩ => by omega⟩
  · intro i f i0 i1 hf hk
    refine ev_eq (fun _ k _ => semigrouplaw20_MorphRenames_6_eq k) (ev_pos i1 (ev_rdS (hA.tab.le hS.le) i0 i1 fun r hr => ev_orV (c := decide (R (hms true l0 l0) i = comL l0.length B C)) (fun _ => ev_is (semigroupref03_Same_ev hr hS.row (by have := (rowh i i0 i1).1.len; omega)) (ev_ret ⟨?_, rfl⟩)) ?_))
    · exact decide_eq_decide.2 Iff.rfl
    rw [W_add i0 i1 (by omega)]
    refine hk _ ?_
    rw [Bool.or_eq_true, decide_eq_true_iff, hf]
    constructor
    · rintro (⟨i', p, q, r⟩ | h)
      · exact ⟨i', p, by omega, r⟩
      · exact ⟨i, i0, by omega, h⟩
    · rintro ⟨i', p, q, r⟩
      by_cases hi : i' = i
      · right; rw [← hi]; exact r
      · left; exact ⟨i', p, by omega, r⟩
  · intro f hf
    refine ev_eq (fun _ k _ => semigrouplaw20_MorphRenames_6_eq k) (ev_neg (by omega) (ev_aw (hf.2 ?_) aw))
    obtain ⟨j, hj, e⟩ := List.getElem_of_mem hD
    exact ⟨(j : Int), by omega, by omega, by unfold R; rw [List.getD_eq_getElem?_getD, Int.toNat_natCast, List.getElem?_eq_getElem hj]; exact e⟩
end Go.Ab
