/- MorphRestricts: for all arguments the law answers true. No condition but that they come in. -/
import Derived.Test.YtdoggefpmamoiaaRMorphRestrictsF1
/- MorphRestricts: for all arguments the law answers true. No condition but that they come in. -/
set_option linter.unusedVariables false
set_option linter.unusedSimpArgs false
namespace Go.Ab
open Go

open Classical in
theorem law_MorphRestricts {H : AH} {s0 : Sl} {l0 : List (List Int)} {s1 : Sl} {l1 : List (List Int)} {s2 : Sl} {l2 : List Int} (h0 : In2 l0) (t0 : Tab H s0 l0) (h1 : In2 l1) (t1 : Tab H s1 l1) (h2 : In1 l2) (t2 : Row H s2 l2) : Ev (fun ρ k κ => semigrouplaw20_MorphRestricts k s0 s1 s2 H.length H κ) (fun v _ => v = true) := by
  have aw : ∀ H : AH, Ev (fun ρ k κ => semigrouplaw20_awake k H.length H fun v H' => κ v H') (fun v _ => v = true) := fun H => ev_call semigrouplaw20_awake_true fun v H' hv => ev_ret hv
  refine ev_eq (fun _ k _ => semigrouplaw20_MorphRestricts_eq k) (ev_is (semigrouplaw20_small_ev h0 t0) ?_)
  refine ev_orV (c := !decide ((l1.length : Int) ≤ 16 ∧ val l1 = 0)) (fun _ => ev_is (semigrouplaw20_small_ev h1 t1) (ev_ret ⟨rfl, rfl⟩)) (ev_orV (c := !decide ((val l0 = 0 ∧ val l1 = 0) ∧ Hm l0 l1 l2)) (fun _ => ev_is (morph_IsHom_ev h0 h1 t0 t1 t2) (ev_ret ⟨rfl, rfl⟩)) (ev_orV (c := !decide ((l2.length : Int) = (l0.length : Int))) (fun _ => ev_ret ⟨by rw [t2.len, t0.len], rfl⟩) (ev_b (fun _ => aw _) (fun hb => ?_))))
  simp only [Bool.or_eq_false_iff, Bool.not_eq_false', decide_eq_true_iff] at hb
  obtain ⟨⟨⟨ha, hb⟩, hv0, hH⟩, hl⟩ := hb
  have hv := val_va.1 ha.2
  have hw := val_va.1 hb.2
  have hn := hv.le
  refine ev_call (mult_Generators_ev (Nat.le_refl _) h0 hv t0) fun v H16 ⟨gs, hS, eg, hF, hgl⟩ => ?_
  rw [hS.len]
  refine ev_loop (α := Sl × AH) (g := fun i a ρ k κ => semigrouplaw20_MorphRestricts_1 k s0 s1 s2 v a.1 v (gs.length : Int) i H.length a.2 κ) (gs.length : Int) (fun i a => Sep H a.2 [own reI a.1 ((List.range i.toNat).map fun j : Nat => rd l2 (rd gs j)), own reI v gs]) ?_ ?_ 0 (⟨none, 0⟩, H16) (by omega) (by omega) (hS.nilS reI)
  · rintro i ⟨o, H3⟩ i0 i1 hS hk
    simp only at hS
    have a := eg _ (rd_mem i0 i1)
    refine ev_eq (fun _ k _ => semigrouplaw20_MorphRestricts_1_eq k) (ev_pos i1 (ev_rdI (hS.pull 1).row i0 i1 (sp_lit [rd gs i] hS reI (fun _ => by simpa using All3.cons (r := reI) (v := .int .i64 (rd gs i)) ⟨rfl, rfl⟩ .nil) fun s2' H4 hS => ev_is (semigroupref14_In_ev (b := true) (t0.le hS.le).len hS.row (by simp) ⟨fun _ x hx => by rw [List.mem_singleton.1 hx]; exact a, fun _ => rfl⟩) (ev_nf rfl (ev_rdI (t2.le hS.le) a.1 (by omega) (sp_app1 (r := reI) (x := rd l2 (rd gs i)) hS.drop (Nat.le_refl _) (fun _ => ⟨rfl, rfl⟩) (by simp; omega) fun o' H5 hS => ?_))))))
    rw [W_add i0 i1 (by omega)]
    refine hk (o', H5) (hS.eq ?_)
    rw [← range_snoc _ i0, show ((i.toNat : Nat) : Int) = i by omega]
  · rintro ⟨o, H3⟩ hS
    simp only [Int.toNat_natCast] at hS
    have li : ((List.range gs.length).map fun j : Nat => rd l2 (rd gs j)).length = gs.length := by simp
    have hi : ∀ i : Int, 0 ≤ i → i < (gs.length : Int) → rd ((List.range gs.length).map fun j : Nat => rd l2 (rd gs j)) i = rd l2 (rd gs i) := fun i i0 i1 => by
      rw [rd_map i0 i1, show ((i.toNat : Nat) : Int) = i by omega]
    have hx : Xt l0 l1 gs ((List.range gs.length).map fun j : Nat => rd l2 (rd gs j)) l2 := ⟨hH, fun i i0 i1 => (hi i i0 i1).symm⟩
    have ok : XOk l0 l1 gs ((List.range gs.length).map fun j : Nat => rd l2 (rd gs j)) := ⟨⟨hv0, li.symm⟩, eg, rd_all.2 fun i i0 i1 => by
      rw [hi i i0 (by omega)]
      have := eg _ (rd_mem i0 (show i < (gs.length : Int) by omega))
      exact hH.into _ this.1 this.2, hF, l2, hx⟩
    refine ev_eq (fun _ k _ => semigrouplaw20_MorphRestricts_1_eq k) (ev_neg (by omega) (ev_call (morph_Extend_ev (Nat.le_refl _) h0 h1 (by omega) (t0.le hS.le) (t1.le hS.le) (hS.pull 1).row hS.row) fun r11 H12 ⟨e1, hS1⟩ => ?_))
    rw [← xtL_eq ok hx] at hS1
    exact ev_andT' (by rw [e1, decide_eq_true ok]) (ev_is (semigroupref03_Same_ev hS1.row (t2.le (hS.le.trans hS1.le)) h2.1) (ev_ret ⟨by simp, rfl⟩)) (ev_aw rfl aw)
end Go.Ab
