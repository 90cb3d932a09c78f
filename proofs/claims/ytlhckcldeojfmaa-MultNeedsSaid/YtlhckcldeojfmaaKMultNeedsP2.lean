-- printed for this claim out of the translation; Lean checks it
import Derived.Test.YtlhckcldeojfmaaKMultNeedsP1
namespace Go.Proofs.Ytlhckcldeojfmaa.PAll
open Go.RowKit Go.Proofs.YtlhckcldeojfmaaW.PrintWords Go.Proofs.YtlhckcldeojfmaaW.PrintLast Go.Proofs.YtlhckcldeojfmaaW.PrintMore
attribute [local go_sem] max2_int min2_int max_two min_two max_three min_three max_four min_four   -- for this text's walks alone
set_option linter.unusedVariables false
set_option linter.unusedSimpArgs false
/-! ### semigrouplaw14_MultNeeds: function 14 -/
mutual
def semigrouplaw14_MultNeeds.j0 : Nat → List (List Int) → List Int → Bool → Option (Bool)
 | 0, _, _, _ => none
 | k + 1, x0, x1, x19 => if x19 = true then ((semigrouplaw14_awake.f k).bind fun t724 => (some t724)) else ((mult_Generators.f k x0).bind fun t725 => ((mult_Generated.f k x0 t725).bind fun t728 => (if (t728.length : Int) = (x0.length : Int) then ((mult_Generated.f k x0 x1).bind fun t731 => ((semigroupref03_Set.f k t725 (x0.length : Int)).bind fun t734 => ((semigroupref03_Set.f k x1 (x0.length : Int)).bind fun t737 => ((mult_Indecomposable.f k x0).bind fun t740 => (semigrouplaw14_MultNeeds.l0 k ((t731.length : Int) == (x0.length : Int)) t734 t737 t740 (t740.length : Int) 0))))) else (some false))))
def semigrouplaw14_MultNeeds.l0 : Nat → Bool → List Bool → List Bool → List Int → Int → Int → Option (Bool)
 | 0, _, _, _, _, _, _ => none
 | k + 1, x6, x7, x8, x46, x47, x48 => if x48 < x47 then (if 0 ≤ x48 then (if x48 < (x46.length : Int) then (if 0 ≤ (rd x46 x48) then (if (rd x46 x48) < (x7.length : Int) then (if (rdOf false x7 (rd x46 x48) = true) then (if x6 = true then (if (rd x46 x48) < (x8.length : Int) then (if (rdOf false x8 (rd x46 x48) = true) then (semigrouplaw14_MultNeeds.l0 k x6 x7 x8 x46 x47 (wrap64 (x48 + 1))) else (some false)) else (none)) else (semigrouplaw14_MultNeeds.l0 k x6 x7 x8 x46 x47 (wrap64 (x48 + 1)))) else (some false)) else (none)) else (none)) else (none)) else (none)) else ((semigrouplaw14_awake.f k).bind fun t746 => (some t746))
end
def semigrouplaw14_MultNeeds.f (k : Nat) (l0 : List (List Int)) (l1 : List Int) : Option (Bool) := (semigrouplaw14_small.f k l0 14).bind fun t722 => (if t722 = true then ((semigroupref14_In.f k l0 l1).bind fun t723 => (semigrouplaw14_MultNeeds.j0 k l0 l1 (!t723))) else (semigrouplaw14_MultNeeds.j0 k l0 l1 true))
theorem semigrouplaw14_MultNeeds.mono_l : ∀ k, (∀ y0 y1 y2, LeO (semigrouplaw14_MultNeeds.j0 k y0 y1 y2) (semigrouplaw14_MultNeeds.j0 (k + 1) y0 y1 y2)) ∧ (∀ y0 y1 y2 y3 y4 y5, LeO (semigrouplaw14_MultNeeds.l0 k y0 y1 y2 y3 y4 y5) (semigrouplaw14_MultNeeds.l0 (k + 1) y0 y1 y2 y3 y4 y5))
 | 0 => ⟨fun _ _ _ r h => by simp [semigrouplaw14_MultNeeds.j0] at h, fun _ _ _ _ _ _ r h => by simp [semigrouplaw14_MultNeeds.l0] at h⟩
 | k + 1 => by
  obtain ⟨ih0, ih1⟩ := semigrouplaw14_MultNeeds.mono_l k
  refine ⟨?_, ?_⟩
  ·intro y0 y1 y2
   unfold semigrouplaw14_MultNeeds.j0
   repeat' first
   | (with_reducible exact ih0 _ _ _)
   | (with_reducible exact ih1 _ _ _ _ _ _)
   | (with_reducible exact mult_Generated.mono _ _ _)
   | (with_reducible exact mult_Generators.mono _ _)
   | (with_reducible exact mult_Indecomposable.mono _ _)
   | (with_reducible exact semigrouplaw14_awake.mono _)
   | (with_reducible exact semigrouplaw14_small.mono _ _ _)
   | (with_reducible exact semigroupref03_Set.mono _ _ _)
   | (with_reducible exact semigroupref14_In.mono _ _ _)
   | (with_reducible exact LeO.refl _)
   | (with_reducible exact LeO.none _)
   | (with_reducible refine LeO.ite ?_ ?_)
   | (with_reducible refine LeO.bind ?_ (fun _ => ?_))
   | exact ih0 _ _ _
   | exact ih1 _ _ _ _ _ _
   | exact mult_Generated.mono _ _ _
   | exact mult_Generators.mono _ _
   | exact mult_Indecomposable.mono _ _
   | exact semigrouplaw14_awake.mono _
   | exact semigrouplaw14_small.mono _ _ _
   | exact semigroupref03_Set.mono _ _ _
   | exact semigroupref14_In.mono _ _ _
   | exact LeO.none _
   | refine LeO.ite ?_ ?_
   | refine LeO.bind ?_ (fun _ => ?_)
  ·intro y0 y1 y2 y3 y4 y5
   unfold semigrouplaw14_MultNeeds.l0
   repeat' first
   | (with_reducible exact ih0 _ _ _)
   | (with_reducible exact ih1 _ _ _ _ _ _)
   | (with_reducible exact mult_Generated.mono _ _ _)
   | (with_reducible exact mult_Generators.mono _ _)
   | (with_reducible exact mult_Indecomposable.mono _ _)
   | (with_reducible exact semigrouplaw14_awake.mono _)
   | (with_reducible exact semigrouplaw14_small.mono _ _ _)
   | (with_reducible exact semigroupref03_Set.mono _ _ _)
   | (with_reducible exact semigroupref14_In.mono _ _ _)
   | (with_reducible exact LeO.refl _)
   | (with_reducible exact LeO.none _)
   | (with_reducible refine LeO.ite ?_ ?_)
   | (with_reducible refine LeO.bind ?_ (fun _ => ?_))
   | exact ih0 _ _ _
   | exact ih1 _ _ _ _ _ _
   | exact mult_Generated.mono _ _ _
   | exact mult_Generators.mono _ _
   | exact mult_Indecomposable.mono _ _
   | exact semigrouplaw14_awake.mono _
   | exact semigrouplaw14_small.mono _ _ _
   | exact semigroupref03_Set.mono _ _ _
   | exact semigroupref14_In.mono _ _ _
   | exact LeO.none _
   | refine LeO.ite ?_ ?_
   | refine LeO.bind ?_ (fun _ => ?_)
theorem semigrouplaw14_MultNeeds.mono : ∀ a0 a1 k, LeO (semigrouplaw14_MultNeeds.f k a0 a1) (semigrouplaw14_MultNeeds.f (k + 1) a0 a1) := by
 intro a0 a1 k
 obtain ⟨ih0, ih1⟩ := semigrouplaw14_MultNeeds.mono_l k
 unfold semigrouplaw14_MultNeeds.f
 repeat' first
   | (with_reducible exact ih0 _ _ _)
   | (with_reducible exact ih1 _ _ _ _ _ _)
   | (with_reducible exact mult_Generated.mono _ _ _)
   | (with_reducible exact mult_Generators.mono _ _)
   | (with_reducible exact mult_Indecomposable.mono _ _)
   | (with_reducible exact semigrouplaw14_awake.mono _)
   | (with_reducible exact semigrouplaw14_small.mono _ _ _)
   | (with_reducible exact semigroupref03_Set.mono _ _ _)
   | (with_reducible exact semigroupref14_In.mono _ _ _)
   | (with_reducible exact LeO.refl _)
   | (with_reducible exact LeO.none _)
   | (with_reducible refine LeO.ite ?_ ?_)
   | (with_reducible refine LeO.bind ?_ (fun _ => ?_))
   | exact ih0 _ _ _
   | exact ih1 _ _ _ _ _ _
   | exact mult_Generated.mono _ _ _
   | exact mult_Generators.mono _ _
   | exact mult_Indecomposable.mono _ _
   | exact semigrouplaw14_awake.mono _
   | exact semigrouplaw14_small.mono _ _ _
   | exact semigroupref03_Set.mono _ _ _
   | exact semigroupref14_In.mono _ _ _
   | exact LeO.none _
   | refine LeO.ite ?_ ?_
   | refine LeO.bind ?_ (fun _ => ?_)
set_option maxHeartbeats 8000000 in
set_option maxRecDepth 100000 in
theorem semigrouplaw14_MultNeeds.calls (k : Nat) (A0 : Option Addr) (c0 : Nat) (l0 : List (List Int)) (A1 : Option Addr) (c1 : Nat) (l1 : List Int) (r : Bool) (w : World) (hr0 : Kd.C (Kd.slice 3 (Kd.int .i64)) w A0 l0.length l0) (hc0 : l0.length ≤ c0) (hr1 : Kd.C (Kd.int .i64) w A1 l1.length l1) (hc1 : l1.length ≤ c1) (h : semigrouplaw14_MultNeeds.f k l0 l1 = some r) :
  Calls Try.prog 14 #[.slice A0 l0.length c0, .slice A1 l1.length c1] w fun e w' => e = .returned (.bool r) ∧ Below w.heap.size w w' := by
 have HR0 := Aside0.mk hr0
 have HC0 := Aside0.mk hc0
 (try clear hr0); (try clear hc0)
 have HR1 := Aside0.mk hr1
 have HC1 := Aside0.mk hc1
 (try clear hr1); (try clear hc1)
 have HB := Aside0.mk (Below.refl w.heap.size w)
 have H : ((semigrouplaw14_small.f k l0 14).bind fun t722 => (if t722 = true then ((semigroupref14_In.f k l0 l1).bind fun t723 => (semigrouplaw14_MultNeeds.j0 k l0 l1 (!t723))) else (semigrouplaw14_MultNeeds.j0 k l0 l1 true))) = some r := h
 clear h
 have HC3 := Aside0.mk H
 clear H
 go_enter Try.func14, Try.ntmps14
 go_upto_region 1 with (fail)
 go_cut [19] (fun v19 wc => ∃ (kq : Nat) (x19_2 : Bool), v19 = .bool x19_2 ∧ Aside0 (semigrouplaw14_MultNeeds.j0 kq l0 l1 x19_2 = some r) ∧ Aside0 (kq ≤ k) ∧ Aside0 (Below w.heap.size w wc))
 case first =>
  have H := HC3.out
  clear HC3
  replace H := Option.bind_eq_some_iff.mp H
  obtain ⟨t722, A40, H⟩ := H
  replace H : (if t722 = true then ((semigroupref14_In.f k l0 l1).bind fun t723 => (semigrouplaw14_MultNeeds.j0 k l0 l1 (!t723))) else (semigrouplaw14_MultNeeds.j0 k l0 l1 true)) = some r := H
  have A4 := Aside0.mk A40
  clear A40
  by_cases c5 : t722 = true
  ·subst c5
   have H1 : ((semigroupref14_In.f k l0 l1).bind fun t723 => (semigrouplaw14_MultNeeds.j0 k l0 l1 (!t723))) = some r := by rw [if_pos rfl] at H; exact H
   clear H
   have H := H1
   clear H1
   replace H := Option.bind_eq_some_iff.mp H
   obtain ⟨t723, A60, H⟩ := H
   replace H : (semigrouplaw14_MultNeeds.j0 k l0 l1 (!t723)) = some r := H
   have A6 := Aside0.mk A60
   clear A60
   have H' := Aside0.mk H
   clear H
   go_wp2_with (first | ((with_reducible refine gate_callee (f := 36) rfl ?_); refine goesL_ (some 12) rfl rfl Try.func36 (by kernel_rfl) rfl #[.slice A0 l0.length c0, .int .i64 14] rfl q_ml ?_; (with_reducible refine (semigrouplaw14_small.calls k _ _ l0 14 true _ ?side1 ?side2 A4.out).mono ?_); (case side1 => q_cc (Kd.C_below HR0.out HB.out)); (case side2 => exact HC0.out); rintro e w' ⟨rfl, ⟨nd, rfl⟩⟩; refine ⟨_, rfl, ?_⟩) | (go_at_call 32; (with_reducible refine (semigroupref14_In.calls k _ _ l0 _ _ l1 t723 _ ?side1 ?side2 ?side3 ?side4 A6.out).mono ?_); (case side1 => repeat (first | exact (Kd.C_below HR0.out q_hb) | (with_reducible refine Kd.C_alloc ?_ _) | (with_reducible refine Kd.C_drewN ?_ _) | (with_reducible refine Kd.C_drew ?_))); (case side2 => exact HC0.out); (case side3 => repeat (first | exact (Kd.C_below HR1.out q_hb) | (with_reducible refine Kd.C_alloc ?_ _) | (with_reducible refine Kd.C_drewN ?_ _) | (with_reducible refine Kd.C_drew ?_))); (case side4 => exact HC1.out); rintro e w' ⟨rfl, ⟨nd, rfl⟩⟩))
   go_meet
   case rel => exact ⟨_, (!t723), q_rs, H', ⟨by first | omega | exact Nat.le_refl _⟩, ⟨by repeat (first | (with_reducible first | exact HB.out | apply below_alloc | apply pw_below_drewN | apply below_drew1) | exact HB.out)⟩⟩
  ·replace c5 := Bool.eq_false_iff.mpr c5
   subst c5
   have H1 : (semigrouplaw14_MultNeeds.j0 k l0 l1 true) = some r := by rw [if_neg (show ¬ (false = true) by decide)] at H; exact H
   clear H
   have H := H1
   clear H1
   have H' := Aside0.mk H
   clear H
   go_wp2_with (first | ((with_reducible refine gate_callee (f := 36) rfl ?_); refine goesL_ (some 12) rfl rfl Try.func36 (by kernel_rfl) rfl #[.slice A0 l0.length c0, .int .i64 14] rfl q_ml ?_; (with_reducible refine (semigrouplaw14_small.calls k _ _ l0 14 false _ ?side1 ?side2 A4.out).mono ?_); (case side1 => q_cc (Kd.C_below HR0.out HB.out)); (case side2 => exact HC0.out); rintro e w' ⟨rfl, ⟨nd, rfl⟩⟩; refine ⟨_, rfl, ?_⟩))
   go_meet
   case rel => exact ⟨_, (true), q_rs, H', ⟨by first | omega | exact Nat.le_refl _⟩, ⟨by repeat (first | (with_reducible first | exact HB.out | apply below_alloc | apply pw_below_drewN | apply below_drew1) | exact HB.out)⟩⟩
 case rest =>
  clear HC3
  q_x c1 p2 c3 c5
  obtain ⟨kq, x19_2, rfl, HA, HJ2, HB⟩ := hcut
  cases kq with
  | zero => exact absurd HA.out (by simp [semigrouplaw14_MultNeeds.j0])
  | succ kj2 =>
   have H := HA.out
   clear HA
   simp only [semigrouplaw14_MultNeeds.j0] at H
   by_cases c7 : x19_2 = true
   ·subst c7
    have H1 : ((semigrouplaw14_awake.f kj2).bind fun t724 => (some t724)) = some r := by rw [if_pos rfl] at H; exact H
    clear H
    have H := H1
    clear H1
    replace H := Option.bind_eq_some_iff.mp H
    obtain ⟨t724, A80, H⟩ := H
    replace H : (some t724) = some r := H
    have A8 := Aside0.mk A80
    clear A80
    obtain rfl := Option.some.inj H
    go_wp2_with (first | ((with_reducible refine gate_callee (f := 16) rfl ?_); refine goesL_ (some 20) rfl rfl Try.func16 (by kernel_rfl) rfl #[] rfl q_ml ?_; (with_reducible refine (semigrouplaw14_awake.calls kj2  t724 _ A8.out).mono ?_); rintro e w9 ⟨rfl, hb⟩; refine ⟨_, rfl, ?_⟩; have n0_ := Aside0.mk (below_step q_hb hb); clear HB; have HB := n0_; clear n0_; (q_x hb hb2 hk); (try clear hi)))
    go_ret
    exact ⟨by first | rfl | q_em | q_en, by repeat (first | (with_reducible first | exact HB.out | apply below_alloc | apply pw_below_drewN | apply below_drew1) | exact HB.out)⟩
   ·replace c7 := Bool.eq_false_iff.mpr c7
    subst c7
    have H1 : ((mult_Generators.f kj2 l0).bind fun t725 => ((mult_Generated.f kj2 l0 t725).bind fun t728 => (if (t728.length : Int) = (l0.length : Int) then ((mult_Generated.f kj2 l0 l1).bind fun t731 => ((semigroupref03_Set.f kj2 t725 (l0.length : Int)).bind fun t734 => ((semigroupref03_Set.f kj2 l1 (l0.length : Int)).bind fun t737 => ((mult_Indecomposable.f kj2 l0).bind fun t740 => (semigrouplaw14_MultNeeds.l0 kj2 ((t731.length : Int) == (l0.length : Int)) t734 t737 t740 (t740.length : Int) 0))))) else (some false)))) = some r := by rw [if_neg (show ¬ (false = true) by decide)] at H; exact H
    clear H
    have H := H1
    clear H1
    replace H := Option.bind_eq_some_iff.mp H
    obtain ⟨t725, A100, H⟩ := H
    replace H : ((mult_Generated.f kj2 l0 t725).bind fun t728 => (if (t728.length : Int) = (l0.length : Int) then ((mult_Generated.f kj2 l0 l1).bind fun t731 => ((semigroupref03_Set.f kj2 t725 (l0.length : Int)).bind fun t734 => ((semigroupref03_Set.f kj2 l1 (l0.length : Int)).bind fun t737 => ((mult_Indecomposable.f kj2 l0).bind fun t740 => (semigrouplaw14_MultNeeds.l0 kj2 ((t731.length : Int) == (l0.length : Int)) t734 t737 t740 (t740.length : Int) 0))))) else (some false))) = some r := H
    have A10 := Aside0.mk A100
    clear A100
    replace H := Option.bind_eq_some_iff.mp H
    obtain ⟨t728, A110, H⟩ := H
    replace H : (if (t728.length : Int) = (l0.length : Int) then ((mult_Generated.f kj2 l0 l1).bind fun t731 => ((semigroupref03_Set.f kj2 t725 (l0.length : Int)).bind fun t734 => ((semigroupref03_Set.f kj2 l1 (l0.length : Int)).bind fun t737 => ((mult_Indecomposable.f kj2 l0).bind fun t740 => (semigrouplaw14_MultNeeds.l0 kj2 ((t731.length : Int) == (l0.length : Int)) t734 t737 t740 (t740.length : Int) 0))))) else (some false)) = some r := H
    have A11 := Aside0.mk A110
    clear A110
    by_cases c12 : (t728.length : Int) = (l0.length : Int)
    ·rw [if_pos c12] at H
     have c12b0 : ((t728.length : Int) == (l0.length : Int)) = true := beq_iff_eq.mpr c12
     have c12b1 : ((t728.length : Int) != (l0.length : Int)) = false := bne_eq_false_iff_eq.mpr c12
     have c12b2 : (t728.length == l0.length) = true := by first | simpa using c12 | (simp at c12 ⊢; omega)
     clear c12
     replace H := Option.bind_eq_some_iff.mp H
     obtain ⟨t731, A130, H⟩ := H
     replace H : ((semigroupref03_Set.f kj2 t725 (l0.length : Int)).bind fun t734 => ((semigroupref03_Set.f kj2 l1 (l0.length : Int)).bind fun t737 => ((mult_Indecomposable.f kj2 l0).bind fun t740 => (semigrouplaw14_MultNeeds.l0 kj2 ((t731.length : Int) == (l0.length : Int)) t734 t737 t740 (t740.length : Int) 0)))) = some r := H
     have A13 := Aside0.mk A130
     clear A130
     replace H := Option.bind_eq_some_iff.mp H
     obtain ⟨t734, A140, H⟩ := H
     replace H : ((semigroupref03_Set.f kj2 l1 (l0.length : Int)).bind fun t737 => ((mult_Indecomposable.f kj2 l0).bind fun t740 => (semigrouplaw14_MultNeeds.l0 kj2 ((t731.length : Int) == (l0.length : Int)) t734 t737 t740 (t740.length : Int) 0))) = some r := H
     have A14 := Aside0.mk A140
     clear A140
     replace H := Option.bind_eq_some_iff.mp H
     obtain ⟨t737, A150, H⟩ := H
     replace H : ((mult_Indecomposable.f kj2 l0).bind fun t740 => (semigrouplaw14_MultNeeds.l0 kj2 ((t731.length : Int) == (l0.length : Int)) t734 t737 t740 (t740.length : Int) 0)) = some r := H
     have A15 := Aside0.mk A150
     clear A150
     replace H := Option.bind_eq_some_iff.mp H
     obtain ⟨t740, A160, H⟩ := H
     replace H : (semigrouplaw14_MultNeeds.l0 kj2 ((t731.length : Int) == (l0.length : Int)) t734 t737 t740 (t740.length : Int) 0) = some r := H
     have A16 := Aside0.mk A160
     clear A160
     have H' := Aside0.mk H
     clear H
     go_wp2_with (first | ((with_reducible refine gate_callee (f := 55) rfl ?_); refine goesL_ (some 22) rfl rfl Try.func55 (by kernel_rfl) rfl #[.slice A0 l0.length c0] rfl q_ml ?_; (with_reducible refine (mult_Generators.calls kj2 _ _ l0 t725 _ ?side1 ?side2 A10.out).mono ?_); (case side1 => q_cc (Kd.C_below HR0.out HB.out)); (case side2 => exact HC0.out); rintro e w17 ⟨v726, rfl, ho0, hb⟩; refine ⟨_, rfl, ?_⟩; have n0_ := Aside0.mk (Kd.R_lower ho0 q_bs); have n1_ := Aside0.mk (below_step q_hb hb); clear HB; have HO727 := n0_; have HB := n1_; clear n0_ n1_; (q_x hb hb2 hk hi ho0); obtain ⟨Ao18, co18, eo18⟩ := Kd.R_slice HO727.out; subst eo18) | ((with_reducible refine gate_callee (f := 51) rfl ?_); refine goesL_ (some 25) rfl rfl Try.func51 (by kernel_rfl) rfl #[.slice A0 l0.length c0, .slice Ao18 t725.length co18] rfl q_ml ?_; (with_reducible refine (mult_Generated.calls kj2 _ _ l0 _ _ t725 t728 _ ?side1 ?side2 ?side3 ?side4 A11.out).mono ?_); (case side1 => q_cc (Kd.C_below HR0.out HB.out)); (case side2 => exact HC0.out); (case side3 => repeat (first | exact (Kd.R_reads' HO727.out).2.2 | (with_reducible refine Kd.C_alloc ?_ _) | (with_reducible refine Kd.C_drewN ?_ _) | (with_reducible refine Kd.C_drew ?_))); (case side4 => exact (Kd.R_reads' HO727.out).2.1); rintro e w19 ⟨v729, rfl, ho0, hb⟩; refine ⟨_, rfl, ?_⟩; have n0_ := Aside0.mk (Kd.R_elder' (by q_nr; exact HO727.out) (by first | exact Kd.N_base ho0 | exact Kd.S_base ho0 | exact Kd.R_base ho0) hb); have n1_ := Aside0.mk (Kd.R_lower (Kd.R_new' ho0 (Kd.R_lt (by q_nr; exact HO727.out))) q_bs); have n2_ := Aside0.mk (below_step q_hb hb); clear HO727; clear HB; have HO727 := n0_; have HO730 := n1_; have HB := n2_; clear n0_ n1_ n2_; (q_x hb hb2 hk hi ho0); obtain ⟨Ao20, co20, eo20⟩ := Kd.R_slice HO730.out; subst eo20) | ((with_reducible refine gate_callee (f := 51) rfl ?_); refine goesL_ (some 32) rfl rfl Try.func51 (by kernel_rfl) rfl #[.slice A0 l0.length c0, .slice A1 l1.length c1] rfl q_ml ?_; (with_reducible refine (mult_Generated.calls kj2 _ _ l0 _ _ l1 t731 _ ?side1 ?side2 ?side3 ?side4 A13.out).mono ?_); (case side1 => q_cc (Kd.C_below HR0.out HB.out)); (case side2 => exact HC0.out); (case side3 => q_cc (Kd.C_below HR1.out HB.out)); (case side4 => exact HC1.out); rintro e w21 ⟨v732, rfl, ho0, hb⟩; refine ⟨_, rfl, ?_⟩; have n0_ := Aside0.mk (Kd.R_elder' (by q_nr; exact HO727.out) (by first | exact Kd.N_base ho0 | exact Kd.S_base ho0 | exact Kd.R_base ho0) hb); have n1_ := Aside0.mk (Kd.R_elder' (by q_nr; exact HO730.out) (by first | exact Kd.N_base ho0 | exact Kd.S_base ho0 | exact Kd.R_base ho0) hb); have n2_ := Aside0.mk (Kd.R_lower (Kd.R_new' (Kd.R_new' ho0 (Kd.R_lt (by q_nr; exact HO727.out))) (Kd.R_lt (by q_nr; exact HO730.out))) q_bs); have n3_ := Aside0.mk (below_step q_hb hb); clear HO727; clear HO730; clear HB; have HO727 := n0_; have HO730 := n1_; have HO733 := n2_; have HB := n3_; clear n0_ n1_ n2_ n3_; (q_x hb hb2 hk hi ho0); obtain ⟨Ao22, co22, eo22⟩ := Kd.R_slice HO733.out; subst eo22) | ((with_reducible refine gate_callee (f := 54) rfl ?_); refine goesL_ (some 40) rfl rfl Try.func54 (by kernel_rfl) rfl #[.slice Ao18 t725.length co18, .int .i64 (l0.length : Int)] rfl q_ml ?_; (with_reducible refine (semigroupref03_Set.calls kj2 _ _ t725 (l0.length : Int) t734 _ ?side1 ?side2 A14.out).mono ?_); (case side1 => repeat (first | exact (Kd.R_reads' HO727.out).2.2 | (with_reducible refine Kd.C_alloc ?_ _) | (with_reducible refine Kd.C_drewN ?_ _) | (with_reducible refine Kd.C_drew ?_))); (case side2 => exact (Kd.R_reads' HO727.out).2.1); rintro e w23 ⟨v735, rfl, ho0, hb⟩; refine ⟨_, rfl, ?_⟩; have n0_ := Aside0.mk (Kd.R_below (by q_nr; exact HO727.out) hb); have n1_ := Aside0.mk (Kd.R_below (by q_nr; exact HO730.out) hb); have n2_ := Aside0.mk (Kd.R_below (by q_nr; exact HO733.out) hb); have n3_ := Aside0.mk (Kd.R_lower ho0 q_bs); have n4_ := Aside0.mk (below_step q_hb hb); clear HO727; clear HO730; clear HO733; clear HB; have HO727 := n0_; have HO730 := n1_; have HO733 := n2_; have HO736 := n3_; have HB := n4_; clear n0_ n1_ n2_ n3_ n4_; (q_x hb hb2 hk hi); (try clear ho0)) | ((with_reducible refine gate_callee (f := 54) rfl ?_); refine goesL_ (some 44) rfl rfl Try.func54 (by kernel_rfl) rfl #[.slice A1 l1.length c1, .int .i64 (l0.length : Int)] rfl q_ml ?_; (with_reducible refine (semigroupref03_Set.calls kj2 _ _ l1 (l0.length : Int) t737 _ ?side1 ?side2 A15.out).mono ?_); (case side1 => q_cc (Kd.C_below HR1.out HB.out)); (case side2 => exact HC1.out); rintro e w24 ⟨v738, rfl, ho0, hb⟩; refine ⟨_, rfl, ?_⟩; have n0_ := Aside0.mk (Kd.R_below (by q_nr; exact HO727.out) hb); have n1_ := Aside0.mk (Kd.R_below (by q_nr; exact HO730.out) hb); have n2_ := Aside0.mk (Kd.R_below (by q_nr; exact HO733.out) hb); have n3_ := Aside0.mk (Kd.R_elder' (by q_nr; exact HO736.out) (by first | exact Kd.N_base ho0 | exact Kd.S_base ho0 | exact Kd.R_base ho0) hb); have n4_ := Aside0.mk (Kd.R_lower (Kd.R_new' ho0 (Kd.R_lt (by q_nr; exact HO736.out))) q_bs); have n5_ := Aside0.mk (below_step q_hb hb); clear HO727; clear HO730; clear HO733; clear HO736; clear HB; have HO727 := n0_; have HO730 := n1_; have HO733 := n2_; have HO736 := n3_; have HO739 := n4_; have HB := n5_; clear n0_ n1_ n2_ n3_ n4_ n5_; (q_x hb hb2 hk hi); (try clear ho0)) | ((with_reducible refine gate_callee (f := 56) rfl ?_); refine goesL_ (some 46) rfl rfl Try.func56 (by kernel_rfl) rfl #[.slice A0 l0.length c0] rfl q_ml ?_; (with_reducible refine (mult_Indecomposable.calls kj2 _ _ l0 t740 _ ?side1 ?side2 A16.out).mono ?_); (case side1 => q_cc (Kd.C_below HR0.out HB.out)); (case side2 => exact HC0.out); rintro e w25 ⟨v741, rfl, ho0, hb⟩; refine ⟨_, rfl, ?_⟩; have n0_ := Aside0.mk (Kd.R_elder' (by q_nr; exact HO727.out) (by first | exact Kd.N_base ho0 | exact Kd.S_base ho0 | exact Kd.R_base ho0) hb); have n1_ := Aside0.mk (Kd.R_elder' (by q_nr; exact HO730.out) (by first | exact Kd.N_base ho0 | exact Kd.S_base ho0 | exact Kd.R_base ho0) hb); have n2_ := Aside0.mk (Kd.R_elder' (by q_nr; exact HO733.out) (by first | exact Kd.N_base ho0 | exact Kd.S_base ho0 | exact Kd.R_base ho0) hb); have n3_ := Aside0.mk (Kd.R_below (by q_nr; exact HO736.out) hb); have n4_ := Aside0.mk (Kd.R_below (by q_nr; exact HO739.out) hb); have n5_ := Aside0.mk (Kd.R_lower (Kd.R_new' (Kd.R_new' (Kd.R_new' ho0 (Kd.R_lt (by q_nr; exact HO727.out))) (Kd.R_lt (by q_nr; exact HO730.out))) (Kd.R_lt (by q_nr; exact HO733.out))) q_bs); have n6_ := Aside0.mk (below_step q_hb hb); clear HO727; clear HO730; clear HO733; clear HO736; clear HO739; clear HB; have HO727 := n0_; have HO730 := n1_; have HO733 := n2_; have HO736 := n3_; have HO739 := n4_; have HO742 := n5_; have HB := n6_; clear n0_ n1_ n2_ n3_ n4_ n5_ n6_; (q_x hb hb2 hk hi ho0); obtain ⟨Ao26, co26, eo26⟩ := Kd.R_slice HO742.out; subst eo26))
     obtain ⟨bz6, hbz6⟩ : ∃ b_ : Bool, ((t731.length : Int) == (l0.length : Int)) = b_ := ⟨_, rfl⟩
     rw [hbz6] at H'
     simp only [hbz6]
     clear hbz6
     go_loopg [48] kj2 (fun kq v48 w' => ∃ (x48_2 : Int), v48 = .int .i64 x48_2 ∧ Aside0 (semigrouplaw14_MultNeeds.l0 kq bz6 t734 t737 t740 (t740.length : Int) x48_2 = some r) ∧ Aside0 (kq ≤ kj2) ∧ Aside0 (Kd.R Kd.bool 4 w' w.heap.size (fun k_ => some k_ ≠ (v738 : Value).ownBlock) v735 t734) ∧ Aside0 (Kd.R Kd.bool 4 w' w.heap.size (fun k_ => some k_ ≠ (v735 : Value).ownBlock) v738 t737) ∧ Aside0 (Kd.R (Kd.int .i64) 3 w' w.heap.size (fun _ => True) (.slice Ao26 t740.length co26) t740) ∧ Aside0 (Below w.heap.size w w'))
     case atStart => exact ⟨(0), q_rs, H', ⟨Nat.le_refl _⟩, ⟨by q_nr; exact Kd.R_mono HO736.out (fun _ hk => hk.2)⟩, ⟨by q_nr; exact Kd.R_mono HO739.out (fun _ hk => hk.2)⟩, ⟨by q_nr; exact Kd.R_mono HO742.out (fun _ hk => trivial)⟩, ⟨by repeat (first | (with_reducible first | exact HB.out | apply below_alloc | apply pw_below_drewN | apply below_drew1) | exact HB.out)⟩⟩
     case round =>
      clear H'
      q_x c1 p2 c3 c5 c7 c12 c12b0 c12b1 c12b2 c14 c16 p2
      obtain ⟨x48_2, rfl, HA, HK2, HO_7, HO_8, HO_46, HB⟩ := hrel
      cases gk with
      | zero => exact absurd HA.out (by simp [semigrouplaw14_MultNeeds.l0])
      | succ k2 =>
       have H := HA.out
       clear HA
       simp only [semigrouplaw14_MultNeeds.l0] at H
       by_cases c27 : x48_2 < (t740.length : Int)
       ·rw [if_pos c27] at H
        have c27b0 : decide (x48_2 < (t740.length : Int)) = true := decide_eq_true c27
        clear c27
        by_cases c28 : 0 ≤ x48_2
        ·rw [if_pos c28] at H
         have c28b0 : decide (0 ≤ x48_2) = true := decide_eq_true c28
         clear c28
         by_cases c29 : x48_2 < (t740.length : Int)
         ·rw [if_pos c29] at H
          have c29b0 : decide (x48_2 < (t740.length : Int)) = true := decide_eq_true c29
          clear c29
          by_cases c30 : 0 ≤ (rd t740 x48_2)
          ·rw [if_pos c30] at H
           have c30b0 : decide (0 ≤ (rd t740 x48_2)) = true := decide_eq_true c30
           clear c30
           by_cases c31 : (rd t740 x48_2) < (t734.length : Int)
           ·rw [if_pos c31] at H
            have c31b0 : decide ((rd t740 x48_2) < (t734.length : Int)) = true := decide_eq_true c31
            clear c31
            obtain ⟨bq32, hbq32⟩ : ∃ b_ : Bool, b_ = (rdOf false t734 (rd t740 x48_2)) := ⟨_, rfl⟩
            replace H : (if (bq32 = true) then (if bz6 = true then (if (rd t740 x48_2) < (t737.length : Int) then (if (rdOf false t737 (rd t740 x48_2) = true) then (semigrouplaw14_MultNeeds.l0 k2 bz6 t734 t737 t740 (t740.length : Int) (wrap64 (x48_2 + 1))) else (some false)) else (none)) else (semigrouplaw14_MultNeeds.l0 k2 bz6 t734 t737 t740 (t740.length : Int) (wrap64 (x48_2 + 1)))) else (some false)) = some r := by rw [← hbq32] at H; exact H
            have Nbq32 := Aside0.mk hbq32
            clear hbq32
            by_cases c33 : (bq32 = true)
            ·subst c33
             have H1 : (if bz6 = true then (if (rd t740 x48_2) < (t737.length : Int) then (if (rdOf false t737 (rd t740 x48_2) = true) then (semigrouplaw14_MultNeeds.l0 k2 bz6 t734 t737 t740 (t740.length : Int) (wrap64 (x48_2 + 1))) else (some false)) else (none)) else (semigrouplaw14_MultNeeds.l0 k2 bz6 t734 t737 t740 (t740.length : Int) (wrap64 (x48_2 + 1)))) = some r := by rw [if_pos rfl] at H; exact H
             clear H
             have H := H1
             clear H1
             by_cases c34 : bz6 = true
             ·rw [if_pos c34] at H
              replace c34 : bz6 = true := by simpa using c34
              subst c34
              by_cases c35 : (rd t740 x48_2) < (t737.length : Int)
              ·rw [if_pos c35] at H
               have c35b0 : decide ((rd t740 x48_2) < (t737.length : Int)) = true := decide_eq_true c35
               clear c35
               obtain ⟨bq36, hbq36⟩ : ∃ b_ : Bool, b_ = (rdOf false t737 (rd t740 x48_2)) := ⟨_, rfl⟩
               replace H : (if (bq36 = true) then (semigrouplaw14_MultNeeds.l0 k2 true t734 t737 t740 (t740.length : Int) (wrap64 (x48_2 + 1))) else (some false)) = some r := by rw [← hbq36] at H; exact H
               have Nbq36 := Aside0.mk hbq36
               clear hbq36
               by_cases c37 : (bq36 = true)
               ·subst c37
                have H1 : (semigrouplaw14_MultNeeds.l0 k2 true t734 t737 t740 (t740.length : Int) (wrap64 (x48_2 + 1))) = some r := by rw [if_pos rfl] at H; exact H
                clear H
                have H := H1
                clear H1
                have H' := Aside0.mk H
                clear H
                have p743 : 0 ≤ (x48_2 : Int) := of_decide_eq_true q_as
                have q743 : x48_2 < (t740.length : Int) := of_decide_eq_true q_as
                obtain ⟨ad743, e743, hx743_0⟩ := Kd.at_int (Kd.R_reads' HO_46.out).2.2 x48_2 p743 q743
                cases e743
                q_t p743 q743
                obtain ⟨Ao38, co38, eo38⟩ := Kd.R_slice HO_7.out
                subst eo38
                have p744 : 0 ≤ ((rd t740 x48_2) : Int) := of_decide_eq_true q_as
                have q744 : (rd t740 x48_2) < (t734.length : Int) := of_decide_eq_true q_as
                obtain ⟨ad744, e744, hx744_0⟩ := Kd.at_bool (Kd.R_reads' HO_7.out).2.2 (rd t740 x48_2) p744 q744
                (try rw [← Nbq32.out] at hx744_0)
                (try rw [← Nbq36.out] at hx744_0)
                cases e744
                q_t p744 q744
                obtain ⟨Ao39, co39, eo39⟩ := Kd.R_slice HO_8.out
                subst eo39
                have p745 : 0 ≤ ((rd t740 x48_2) : Int) := of_decide_eq_true q_as
                have q745 : (rd t740 x48_2) < (t737.length : Int) := of_decide_eq_true q_as
                obtain ⟨ad745, e745, hx745_0⟩ := Kd.at_bool (Kd.R_reads' HO_8.out).2.2 (rd t740 x48_2) p745 q745
                (try rw [← Nbq32.out] at hx745_0)
                (try rw [← Nbq36.out] at hx745_0)
                cases e745
                q_t p745 q745
                go_wp2
                go_roundg k2
                case measure => have := HJ2.out; have := HK2.out; omega
                case rel => exact ⟨(wrap64 (x48_2 + 1)), q_rs, H', ⟨by have := HJ2.out; have := HK2.out; omega⟩, ⟨by q_nr; exact HO_7.out⟩, ⟨by q_nr; exact HO_8.out⟩, ⟨by q_nr; exact HO_46.out⟩, ⟨by repeat (first | (with_reducible first | exact HB.out | apply below_alloc | apply pw_below_drewN | apply below_drew1) | exact HB.out)⟩⟩
               ·replace c37 := Bool.eq_false_iff.mpr c37
                subst c37
                have H1 : (some false) = some r := by rw [if_neg (show ¬ (false = true) by decide)] at H; exact H
                clear H
                have H := H1
                clear H1
                obtain rfl := Option.some.inj H
                have p743 : 0 ≤ (x48_2 : Int) := of_decide_eq_true q_as
                have q743 : x48_2 < (t740.length : Int) := of_decide_eq_true q_as
                obtain ⟨ad743, e743, hx743_0⟩ := Kd.at_int (Kd.R_reads' HO_46.out).2.2 x48_2 p743 q743
                cases e743
                q_t p743 q743
                obtain ⟨Ao40, co40, eo40⟩ := Kd.R_slice HO_7.out
                subst eo40
                have p744 : 0 ≤ ((rd t740 x48_2) : Int) := of_decide_eq_true q_as
                have q744 : (rd t740 x48_2) < (t734.length : Int) := of_decide_eq_true q_as
                obtain ⟨ad744, e744, hx744_0⟩ := Kd.at_bool (Kd.R_reads' HO_7.out).2.2 (rd t740 x48_2) p744 q744
                (try rw [← Nbq32.out] at hx744_0)
                (try rw [← Nbq36.out] at hx744_0)
                cases e744
                q_t p744 q744
                obtain ⟨Ao41, co41, eo41⟩ := Kd.R_slice HO_8.out
                subst eo41
                have p745 : 0 ≤ ((rd t740 x48_2) : Int) := of_decide_eq_true q_as
                have q745 : (rd t740 x48_2) < (t737.length : Int) := of_decide_eq_true q_as
                obtain ⟨ad745, e745, hx745_0⟩ := Kd.at_bool (Kd.R_reads' HO_8.out).2.2 (rd t740 x48_2) p745 q745
                (try rw [← Nbq32.out] at hx745_0)
                (try rw [← Nbq36.out] at hx745_0)
                cases e745
                q_t p745 q745
                go_wp2
                go_ret
                exact ⟨by first | rfl | q_em | q_en, by repeat (first | (with_reducible first | exact HB.out | apply below_alloc | apply pw_below_drewN | apply below_drew1) | exact HB.out)⟩
              ·rw [if_neg c35] at H
               exact absurd H (by simp)
             ·rw [if_neg c34] at H
              replace c34 : bz6 = false := by simpa using c34
              subst c34
              have H' := Aside0.mk H
              clear H
              have p743 : 0 ≤ (x48_2 : Int) := of_decide_eq_true q_as
              have q743 : x48_2 < (t740.length : Int) := of_decide_eq_true q_as
              obtain ⟨ad743, e743, hx743_0⟩ := Kd.at_int (Kd.R_reads' HO_46.out).2.2 x48_2 p743 q743
              cases e743
              q_t p743 q743
              obtain ⟨Ao42, co42, eo42⟩ := Kd.R_slice HO_7.out
              subst eo42
              have p744 : 0 ≤ ((rd t740 x48_2) : Int) := of_decide_eq_true q_as
              have q744 : (rd t740 x48_2) < (t734.length : Int) := of_decide_eq_true q_as
              obtain ⟨ad744, e744, hx744_0⟩ := Kd.at_bool (Kd.R_reads' HO_7.out).2.2 (rd t740 x48_2) p744 q744
              (try rw [← Nbq32.out] at hx744_0)
              cases e744
              q_t p744 q744
              go_wp2
              go_roundg k2
              case measure => have := HJ2.out; have := HK2.out; omega
              case rel => exact ⟨(wrap64 (x48_2 + 1)), q_rs, H', ⟨by have := HJ2.out; have := HK2.out; omega⟩, ⟨by q_nr; exact HO_7.out⟩, ⟨by q_nr; exact HO_8.out⟩, ⟨by q_nr; exact HO_46.out⟩, ⟨by repeat (first | (with_reducible first | exact HB.out | apply below_alloc | apply pw_below_drewN | apply below_drew1) | exact HB.out)⟩⟩
            ·replace c33 := Bool.eq_false_iff.mpr c33
             subst c33
             have H1 : (some false) = some r := by rw [if_neg (show ¬ (false = true) by decide)] at H; exact H
             clear H
             have H := H1
             clear H1
             obtain rfl := Option.some.inj H
             have p743 : 0 ≤ (x48_2 : Int) := of_decide_eq_true q_as
             have q743 : x48_2 < (t740.length : Int) := of_decide_eq_true q_as
             obtain ⟨ad743, e743, hx743_0⟩ := Kd.at_int (Kd.R_reads' HO_46.out).2.2 x48_2 p743 q743
             cases e743
             q_t p743 q743
             obtain ⟨Ao43, co43, eo43⟩ := Kd.R_slice HO_7.out
             subst eo43
             have p744 : 0 ≤ ((rd t740 x48_2) : Int) := of_decide_eq_true q_as
             have q744 : (rd t740 x48_2) < (t734.length : Int) := of_decide_eq_true q_as
             obtain ⟨ad744, e744, hx744_0⟩ := Kd.at_bool (Kd.R_reads' HO_7.out).2.2 (rd t740 x48_2) p744 q744
             (try rw [← Nbq32.out] at hx744_0)
             cases e744
             q_t p744 q744
             go_wp2
             go_ret
             exact ⟨by first | rfl | q_em | q_en, by repeat (first | (with_reducible first | exact HB.out | apply below_alloc | apply pw_below_drewN | apply below_drew1) | exact HB.out)⟩
           ·rw [if_neg c31] at H
            exact absurd H (by simp)
          ·rw [if_neg c30] at H
           exact absurd H (by simp)
         ·rw [if_neg c29] at H
          exact absurd H (by simp)
        ·rw [if_neg c28] at H
         exact absurd H (by simp)
       ·rw [if_neg c27] at H
        have c27b0 : decide (x48_2 < (t740.length : Int)) = false := decide_eq_false c27
        clear c27
        replace H := Option.bind_eq_some_iff.mp H
        obtain ⟨t746, A440, H⟩ := H
        replace H : (some t746) = some r := H
        have A44 := Aside0.mk A440
        clear A440
        obtain rfl := Option.some.inj H
        go_wp2_with (first | ((with_reducible refine gate_callee (f := 16) rfl ?_); refine goesL_ (some 68) rfl rfl Try.func16 (by kernel_rfl) rfl #[] rfl q_ml ?_; (with_reducible refine (semigrouplaw14_awake.calls k2  t746 _ A44.out).mono ?_); rintro e w45 ⟨rfl, hb⟩; refine ⟨_, rfl, ?_⟩; have n0_ := Aside0.mk (Kd.R_below (by q_nr; exact HO_7.out) hb); have n1_ := Aside0.mk (Kd.R_below (by q_nr; exact HO_8.out) hb); have n2_ := Aside0.mk (Kd.R_below (by q_nr; exact HO_46.out) hb); have n3_ := Aside0.mk (below_step q_hb hb); clear HO_7; clear HO_8; clear HO_46; clear HB; have HO_7 := n0_; have HO_8 := n1_; have HO_46 := n2_; have HB := n3_; clear n0_ n1_ n2_ n3_; (q_x hb hb2 hk); (try clear hi)))
        go_ret
        exact ⟨by first | rfl | q_em | q_en, by repeat (first | (with_reducible first | exact HB.out | apply below_alloc | apply pw_below_drewN | apply below_drew1) | exact HB.out)⟩
    ·rw [if_neg c12] at H
     have c12b0 : ((t728.length : Int) == (l0.length : Int)) = false := beq_eq_false_iff_ne.mpr c12
     have c12b1 : ((t728.length : Int) != (l0.length : Int)) = true := bne_iff_ne.mpr c12
     have c12b2 : (t728.length == l0.length) = false := by first | simpa using c12 | (simp at c12 ⊢; omega)
     obtain rfl := Option.some.inj H
     go_wp2_with (first | ((with_reducible refine gate_callee (f := 55) rfl ?_); refine goesL_ (some 22) rfl rfl Try.func55 (by kernel_rfl) rfl #[.slice A0 l0.length c0] rfl q_ml ?_; (with_reducible refine (mult_Generators.calls kj2 _ _ l0 t725 _ ?side1 ?side2 A10.out).mono ?_); (case side1 => q_cc (Kd.C_below HR0.out HB.out)); (case side2 => exact HC0.out); rintro e w46 ⟨v726, rfl, ho0, hb⟩; refine ⟨_, rfl, ?_⟩; have n0_ := Aside0.mk (Kd.R_lower ho0 q_bs); have n1_ := Aside0.mk (below_step q_hb hb); clear HB; have HO727 := n0_; have HB := n1_; clear n0_ n1_; (q_x hb hb2 hk hi ho0); obtain ⟨Ao47, co47, eo47⟩ := Kd.R_slice HO727.out; subst eo47) | ((with_reducible refine gate_callee (f := 51) rfl ?_); refine goesL_ (some 25) rfl rfl Try.func51 (by kernel_rfl) rfl #[.slice A0 l0.length c0, .slice Ao47 t725.length co47] rfl q_ml ?_; (with_reducible refine (mult_Generated.calls kj2 _ _ l0 _ _ t725 t728 _ ?side1 ?side2 ?side3 ?side4 A11.out).mono ?_); (case side1 => q_cc (Kd.C_below HR0.out HB.out)); (case side2 => exact HC0.out); (case side3 => repeat (first | exact (Kd.R_reads' HO727.out).2.2 | (with_reducible refine Kd.C_alloc ?_ _) | (with_reducible refine Kd.C_drewN ?_ _) | (with_reducible refine Kd.C_drew ?_))); (case side4 => exact (Kd.R_reads' HO727.out).2.1); rintro e w48 ⟨v729, rfl, ho0, hb⟩; refine ⟨_, rfl, ?_⟩; have n0_ := Aside0.mk (Kd.R_elder' (by q_nr; exact HO727.out) (by first | exact Kd.N_base ho0 | exact Kd.S_base ho0 | exact Kd.R_base ho0) hb); have n1_ := Aside0.mk (Kd.R_lower (Kd.R_new' ho0 (Kd.R_lt (by q_nr; exact HO727.out))) q_bs); have n2_ := Aside0.mk (below_step q_hb hb); clear HO727; clear HB; have HO727 := n0_; have HO730 := n1_; have HB := n2_; clear n0_ n1_ n2_; (q_x hb hb2 hk hi ho0); obtain ⟨Ao49, co49, eo49⟩ := Kd.R_slice HO730.out; subst eo49))
     go_ret
     exact ⟨by first | rfl | q_em | q_en, by repeat (first | (with_reducible first | exact HB.out | apply below_alloc | apply pw_below_drewN | apply below_drew1) | exact HB.out)⟩


end Go.Proofs.Ytlhckcldeojfmaa.PAll
