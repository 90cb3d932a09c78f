-- printed for this claim out of the translation; Lean checks it
import Derived.Test.YtlhckcldeojfmaaKMultGeneratesP1
namespace Go.Proofs.Ytlhckcldeojfmaa.PAll
open Go.RowKit Go.Proofs.YtlhckcldeojfmaaW.PrintWords Go.Proofs.YtlhckcldeojfmaaW.PrintLast Go.Proofs.YtlhckcldeojfmaaW.PrintMore
attribute [local go_sem] max2_int min2_int max_two min_two max_three min_three max_four min_four   -- for this text's walks alone
set_option linter.unusedVariables false
set_option linter.unusedSimpArgs false
/-! ### mult_Generated: function 51 -/
def mult_Generated.f (k : Nat) (l0 : List (List Int)) (l1 : List Int) : Option (List Int) := (mult_Validate.f k l0).bind fun t588 => (if t588 = 0 then ((mult_elements.f k l0 l1).bind fun t589 => (if t589 = true then ((mult_generated.f l0 l1).bind fun t590 => (some t590)) else (some ([] : List Int)))) else (some ([] : List Int)))
theorem mult_Generated.mono : ∀ a0 a1 k, LeO (mult_Generated.f k a0 a1) (mult_Generated.f (k + 1) a0 a1) := by
 intro a0 a1 k
 unfold mult_Generated.f
 repeat' first
   | (with_reducible exact mult_Validate.mono _ _)
   | (with_reducible exact mult_elements.mono _ _ _)
   | (with_reducible exact LeO.refl _)
   | (with_reducible exact LeO.none _)
   | (with_reducible refine LeO.ite ?_ ?_)
   | (with_reducible refine LeO.bind ?_ (fun _ => ?_))
   | exact mult_Validate.mono _ _
   | exact mult_elements.mono _ _ _
   | exact LeO.none _
   | refine LeO.ite ?_ ?_
   | refine LeO.bind ?_ (fun _ => ?_)
set_option maxHeartbeats 8000000 in
set_option maxRecDepth 100000 in
theorem mult_Generated.calls (k : Nat) (A0 : Option Addr) (c0 : Nat) (l0 : List (List Int)) (A1 : Option Addr) (c1 : Nat) (l1 : List Int) (r : List Int) (w : World) (hr0 : Kd.C (Kd.slice 3 (Kd.int .i64)) w A0 l0.length l0) (hc0 : l0.length ≤ c0) (hr1 : Kd.C (Kd.int .i64) w A1 l1.length l1) (hc1 : l1.length ≤ c1) (h : mult_Generated.f k l0 l1 = some r) :
  Calls Try.prog 51 #[.slice A0 l0.length c0, .slice A1 l1.length c1] w fun e w' => ∃ v0_ : Value, e = .returned (v0_) ∧ Kd.R (Kd.int .i64) 3 w' w.heap.size (fun _ => True) v0_ r ∧ Below w.heap.size w w' := by
 have HR0 := Aside0.mk hr0
 have HC0 := Aside0.mk hc0
 (try clear hr0); (try clear hc0)
 have HR1 := Aside0.mk hr1
 have HC1 := Aside0.mk hc1
 (try clear hr1); (try clear hc1)
 have HB := Aside0.mk (Below.refl w.heap.size w)
 have H : ((mult_Validate.f k l0).bind fun t588 => (if t588 = 0 then ((mult_elements.f k l0 l1).bind fun t589 => (if t589 = true then ((mult_generated.f l0 l1).bind fun t590 => (some t590)) else (some ([] : List Int)))) else (some ([] : List Int)))) = some r := h
 clear h
 replace H := Option.bind_eq_some_iff.mp H
 obtain ⟨t588, A30, H⟩ := H
 replace H : (if t588 = 0 then ((mult_elements.f k l0 l1).bind fun t589 => (if t589 = true then ((mult_generated.f l0 l1).bind fun t590 => (some t590)) else (some ([] : List Int)))) else (some ([] : List Int))) = some r := H
 have A3 := Aside0.mk A30
 clear A30
 by_cases c4 : t588 = 0
 ·rw [if_pos c4] at H
  have c4b0 : (t588 == 0) = true := beq_iff_eq.mpr c4
  have c4b1 : (t588 != 0) = false := bne_eq_false_iff_eq.mpr c4
  clear c4
  replace H := Option.bind_eq_some_iff.mp H
  obtain ⟨t589, A50, H⟩ := H
  replace H : (if t589 = true then ((mult_generated.f l0 l1).bind fun t590 => (some t590)) else (some ([] : List Int))) = some r := H
  have A5 := Aside0.mk A50
  clear A50
  by_cases c6 : t589 = true
  ·subst c6
   have H1 : ((mult_generated.f l0 l1).bind fun t590 => (some t590)) = some r := by rw [if_pos rfl] at H; exact H
   clear H
   have H := H1
   clear H1
   replace H := Option.bind_eq_some_iff.mp H
   obtain ⟨t590, A70, H⟩ := H
   replace H : (some t590) = some r := H
   have A7 := Aside0.mk A70
   clear A70
   obtain rfl := Option.some.inj H
   go_enter Try.func51, Try.ntmps51
   go_wp2_with (first | ((with_reducible refine gate_callee (f := 19) rfl ?_); refine goesL_ (some 6) rfl rfl Try.func19 (by kernel_rfl) rfl #[.slice A0 l0.length c0] rfl q_ml ?_; (with_reducible refine (mult_Validate.calls k _ _ l0 t588 _ ?side1 ?side2 A3.out).mono ?_); (case side1 => q_cc HR0.out); (case side2 => exact HC0.out); rintro e w' ⟨rfl, ⟨nd, rfl⟩⟩; refine ⟨_, rfl, ?_⟩) | (go_at_call 69; (with_reducible refine (mult_elements.calls k _ _ l0 _ _ l1 true _ ?side1 ?side2 ?side3 ?side4 A5.out).mono ?_); (case side1 => q_cc HR0.out); (case side2 => exact HC0.out); (case side3 => q_cc HR1.out); (case side4 => exact HC1.out); rintro e w' ⟨rfl, ⟨nd, rfl⟩⟩) | ((with_reducible refine gate_callee (f := 74) rfl ?_); refine goesL_ (some 16) rfl rfl Try.func74 (by kernel_rfl) rfl #[.slice A0 l0.length c0, .slice A1 l1.length c1] rfl q_ml ?_; (with_reducible refine (mult_generated.calls _ _ l0 _ _ l1 t590 _ ?side1 ?side2 ?side3 ?side4 A7.out).mono ?_); (case side1 => q_cc HR0.out); (case side2 => exact HC0.out); (case side3 => q_cc HR1.out); (case side4 => exact HC1.out); rintro e w8 ⟨v591, rfl, ho0, hb⟩; refine ⟨_, rfl, ?_⟩; have n0_ := Aside0.mk (Kd.R_lower ho0 q_bs); have n1_ := Aside0.mk (below_step q_hb hb); clear HB; have HO592 := n0_; have HB := n1_; clear n0_ n1_; (q_x hb hb2 hk hi); (try clear ho0)))
   go_ret
   exact ⟨_, by first | rfl | q_em | q_en, by q_nr; exact HO592.out, by repeat (first | (with_reducible first | exact HB.out | apply below_alloc | apply pw_below_drewN | apply below_drew1) | exact HB.out)⟩
  ·replace c6 := Bool.eq_false_iff.mpr c6
   subst c6
   have H1 : (some ([] : List Int)) = some r := by rw [if_neg (show ¬ (false = true) by decide)] at H; exact H
   clear H
   have H := H1
   clear H1
   obtain rfl := Option.some.inj H
   go_enter Try.func51, Try.ntmps51
   go_wp2_with (first | ((with_reducible refine gate_callee (f := 19) rfl ?_); refine goesL_ (some 6) rfl rfl Try.func19 (by kernel_rfl) rfl #[.slice A0 l0.length c0] rfl q_ml ?_; (with_reducible refine (mult_Validate.calls k _ _ l0 t588 _ ?side1 ?side2 A3.out).mono ?_); (case side1 => q_cc HR0.out); (case side2 => exact HC0.out); rintro e w' ⟨rfl, ⟨nd, rfl⟩⟩; refine ⟨_, rfl, ?_⟩) | (go_at_call 69; (with_reducible refine (mult_elements.calls k _ _ l0 _ _ l1 false _ ?side1 ?side2 ?side3 ?side4 A5.out).mono ?_); (case side1 => q_cc HR0.out); (case side2 => exact HC0.out); (case side3 => q_cc HR1.out); (case side4 => exact HC1.out); rintro e w' ⟨rfl, ⟨nd, rfl⟩⟩))
   go_ret
   exact ⟨_, by first | rfl | q_em | q_en, by first | exact Kd.R_nil _ _ _ _ _ | exact Kd.N_nil _ _ _ _ _ | exact Kd.V_nil _ _ _ _ _ | exact Kd.Q_nil _ _ _ _ _ | exact Kd.S_nil _ _ _ _ _, by repeat (first | (with_reducible first | exact HB.out | apply below_alloc | apply pw_below_drewN | apply below_drew1) | exact HB.out)⟩
 ·rw [if_neg c4] at H
  have c4b0 : (t588 == 0) = false := beq_eq_false_iff_ne.mpr c4
  have c4b1 : (t588 != 0) = true := bne_iff_ne.mpr c4
  obtain rfl := Option.some.inj H
  go_enter Try.func51, Try.ntmps51
  go_wp2_with (first | ((with_reducible refine gate_callee (f := 19) rfl ?_); refine goesL_ (some 6) rfl rfl Try.func19 (by kernel_rfl) rfl #[.slice A0 l0.length c0] rfl q_ml ?_; (with_reducible refine (mult_Validate.calls k _ _ l0 t588 _ ?side1 ?side2 A3.out).mono ?_); (case side1 => q_cc HR0.out); (case side2 => exact HC0.out); rintro e w' ⟨rfl, ⟨nd, rfl⟩⟩; refine ⟨_, rfl, ?_⟩))
  go_ret
  exact ⟨_, by first | rfl | q_em | q_en, by first | exact Kd.R_nil _ _ _ _ _ | exact Kd.N_nil _ _ _ _ _ | exact Kd.V_nil _ _ _ _ _ | exact Kd.Q_nil _ _ _ _ _ | exact Kd.S_nil _ _ _ _ _, by repeat (first | (with_reducible first | exact HB.out | apply below_alloc | apply pw_below_drewN | apply below_drew1) | exact HB.out)⟩

/-! ### mult_Sub: function 52 -/
mutual
def mult_Sub.j0 : Nat → List (List Int) → List Int → Bool → Option ((List (List Int)) × Int)
 | 0, _, _, _ => none
 | k + 1, x0, x1, x29 => if x29 = true then (some (([] : List (List Int)), 1)) else (if 0 ≤ (x0.length : Int) then (if ((x0.length : Int) : Int).toNat ≤ 35184372088832 then ((some (List.replicate ((x0.length : Int) : Int).toNat 0 : List Int)).bind fun y595 => (mult_Sub.l0 k x0 x1 y595 (y595.length : Int) 0)) else (none)) else (none))
def mult_Sub.l0 : Nat → List (List Int) → List Int → List Int → Int → Int → Option ((List (List Int)) × Int)
 | 0, _, _, _, _, _ => none
 | k + 1, x0, x1, x7, x34, x35 => if x35 < x34 then (if 0 ≤ x35 then (if x35 < (x7.length : Int) then (mult_Sub.l0 k x0 x1 (x7.set (x35 : Int).toNat (-1)) x34 (wrap64 (x35 + 1))) else (none)) else (none)) else (mult_Sub.l1 k x0 x1 x7 x1 (x1.length : Int) 0)
def mult_Sub.l1 : Nat → List (List Int) → List Int → List Int → List Int → Int → Int → Option ((List (List Int)) × Int)
 | 0, _, _, _, _, _, _ => none
 | k + 1, x0, x1, x7, x42, x43, x44 => if x44 < x43 then (if 0 ≤ x44 then (if x44 < (x42.length : Int) then (if x44 > 0 then (if 0 ≤ (wrap64 (x44 - 1)) then (if (wrap64 (x44 - 1)) < (x1.length : Int) then (if (rd x1 (wrap64 (x44 - 1))) ≥ (rd x42 x44) then (some (([] : List (List Int)), 1)) else (if 0 ≤ (rd x42 x44) then (if (rd x42 x44) < (x7.length : Int) then (mult_Sub.l1 k x0 x1 (x7.set ((rd x42 x44) : Int).toNat x44) x42 x43 (wrap64 (x44 + 1))) else (none)) else (none))) else (none)) else (none)) else (if 0 ≤ (rd x42 x44) then (if (rd x42 x44) < (x7.length : Int) then (mult_Sub.l1 k x0 x1 (x7.set ((rd x42 x44) : Int).toNat x44) x42 x43 (wrap64 (x44 + 1))) else (none)) else (none))) else (none)) else (none)) else (if 0 ≤ (x1.length : Int) then (if ((x1.length : Int) : Int).toNat ≤ 11728124029610 then (mult_Sub.l2 k x0 x1 x7 (List.replicate ((x1.length : Int) : Int).toNat []) x1 (x1.length : Int) 0) else (none)) else (none))
def mult_Sub.l2 : Nat → List (List Int) → List Int → List Int → List (List Int) → List Int → Int → Int → Option ((List (List Int)) × Int)
 | 0, _, _, _, _, _, _, _ => none
 | k + 1, x0, x1, x7, x11, x68, x69, x70 => if x70 < x69 then (if 0 ≤ x70 then (if x70 < (x68.length : Int) then (if 0 ≤ (x1.length : Int) then (if ((x1.length : Int) : Int).toNat ≤ 35184372088832 then (if x70 < (x11.length : Int) then (mult_Sub.l3 k x0 x1 x7 (x11.set (x70 : Int).toNat (List.replicate ((x1.length : Int) : Int).toNat 0)) x70 (rd x68 x70) x68 x69 x70 x1 (x1.length : Int) 0) else (none)) else (none)) else (none)) else (none)) else (none)) else (some (x11, 0))
def mult_Sub.l3 : Nat → List (List Int) → List Int → List Int → List (List Int) → Int → Int → List Int → Int → Int → List Int → Int → Int → Option ((List (List Int)) × Int)
 | 0, _, _, _, _, _, _, _, _, _, _, _, _ => none
 | k + 1, x0, x1, x7, x11, x12, x13, x68, x69, x70, x81, x82, x83 => if x83 < x82 then (if 0 ≤ x83 then (if x83 < (x81.length : Int) then (if 0 ≤ x13 then (if x13 < (x0.length : Int) then (if 0 ≤ (rd x81 x83) then (if (rd x81 x83) < ((rd_L1 x0 x13).length : Int) then (if 0 ≤ (rd (rd_L1 x0 x13) (rd x81 x83)) then (if (rd (rd_L1 x0 x13) (rd x81 x83)) < (x7.length : Int) then (if (rd x7 (rd (rd_L1 x0 x13) (rd x81 x83))) < 0 then (some (([] : List (List Int)), 9)) else (if 0 ≤ x12 then (if x12 < (x11.length : Int) then (if x83 < ((rd_L1 x11 x12).length : Int) then (mult_Sub.l3 k x0 x1 x7 (x11.set (x12 : Int).toNat ((rd_L1 x11 x12).set (x83 : Int).toNat (rd x7 (rd (rd_L1 x0 x13) (rd x81 x83))))) x12 x13 x68 x69 x70 x81 x82 (wrap64 (x83 + 1))) else (none)) else (none)) else (none))) else (none)) else (none)) else (none)) else (none)) else (none)) else (none)) else (none)) else (none)) else (mult_Sub.l2 k x0 x1 x7 x11 x68 x69 (wrap64 (x70 + 1)))
end
def mult_Sub.f (k : Nat) (l0 : List (List Int)) (l1 : List Int) : Option ((List (List Int)) × Int) := (mult_Validate.f k l0).bind fun t593 => (if t593 = 0 then (if (l1.length : Int) = 0 then (mult_Sub.j0 k l0 l1 true) else ((mult_elements.f k l0 l1).bind fun t594 => (mult_Sub.j0 k l0 l1 (!t594)))) else (some (([] : List (List Int)), t593)))
theorem mult_Sub.mono_l : ∀ k, (∀ y0 y1 y2, LeO (mult_Sub.j0 k y0 y1 y2) (mult_Sub.j0 (k + 1) y0 y1 y2)) ∧ (∀ y0 y1 y2 y3 y4, LeO (mult_Sub.l0 k y0 y1 y2 y3 y4) (mult_Sub.l0 (k + 1) y0 y1 y2 y3 y4)) ∧ (∀ y0 y1 y2 y3 y4 y5, LeO (mult_Sub.l1 k y0 y1 y2 y3 y4 y5) (mult_Sub.l1 (k + 1) y0 y1 y2 y3 y4 y5)) ∧ (∀ y0 y1 y2 y3 y4 y5 y6, LeO (mult_Sub.l2 k y0 y1 y2 y3 y4 y5 y6) (mult_Sub.l2 (k + 1) y0 y1 y2 y3 y4 y5 y6)) ∧ (∀ y0 y1 y2 y3 y4 y5 y6 y7 y8 y9 y10 y11, LeO (mult_Sub.l3 k y0 y1 y2 y3 y4 y5 y6 y7 y8 y9 y10 y11) (mult_Sub.l3 (k + 1) y0 y1 y2 y3 y4 y5 y6 y7 y8 y9 y10 y11))
 | 0 => ⟨fun _ _ _ r h => by simp [mult_Sub.j0] at h, fun _ _ _ _ _ r h => by simp [mult_Sub.l0] at h, fun _ _ _ _ _ _ r h => by simp [mult_Sub.l1] at h, fun _ _ _ _ _ _ _ r h => by simp [mult_Sub.l2] at h, fun _ _ _ _ _ _ _ _ _ _ _ _ r h => by simp [mult_Sub.l3] at h⟩
 | k + 1 => by
  obtain ⟨ih0, ih1, ih2, ih3, ih4⟩ := mult_Sub.mono_l k
  refine ⟨?_, ?_, ?_, ?_, ?_⟩
  ·intro y0 y1 y2
   unfold mult_Sub.j0
   repeat' first
   | (with_reducible exact ih0 _ _ _)
   | (with_reducible exact ih1 _ _ _ _ _)
   | (with_reducible exact ih2 _ _ _ _ _ _)
   | (with_reducible exact ih3 _ _ _ _ _ _ _)
   | (with_reducible exact ih4 _ _ _ _ _ _ _ _ _ _ _ _)
   | (with_reducible exact mult_Validate.mono _ _)
   | (with_reducible exact mult_elements.mono _ _ _)
   | (with_reducible exact LeO.refl _)
   | (with_reducible exact LeO.none _)
   | (with_reducible refine LeO.ite ?_ ?_)
   | (with_reducible refine LeO.bind ?_ (fun _ => ?_))
   | exact ih0 _ _ _
   | exact ih1 _ _ _ _ _
   | exact ih2 _ _ _ _ _ _
   | exact ih3 _ _ _ _ _ _ _
   | exact ih4 _ _ _ _ _ _ _ _ _ _ _ _
   | exact mult_Validate.mono _ _
   | exact mult_elements.mono _ _ _
   | exact LeO.none _
   | refine LeO.ite ?_ ?_
   | refine LeO.bind ?_ (fun _ => ?_)
  ·intro y0 y1 y2 y3 y4
   unfold mult_Sub.l0
   repeat' first
   | (with_reducible exact ih0 _ _ _)
   | (with_reducible exact ih1 _ _ _ _ _)
   | (with_reducible exact ih2 _ _ _ _ _ _)
   | (with_reducible exact ih3 _ _ _ _ _ _ _)
   | (with_reducible exact ih4 _ _ _ _ _ _ _ _ _ _ _ _)
   | (with_reducible exact mult_Validate.mono _ _)
   | (with_reducible exact mult_elements.mono _ _ _)
   | (with_reducible exact LeO.refl _)
   | (with_reducible exact LeO.none _)
   | (with_reducible refine LeO.ite ?_ ?_)
   | (with_reducible refine LeO.bind ?_ (fun _ => ?_))
   | exact ih0 _ _ _
   | exact ih1 _ _ _ _ _
   | exact ih2 _ _ _ _ _ _
   | exact ih3 _ _ _ _ _ _ _
   | exact ih4 _ _ _ _ _ _ _ _ _ _ _ _
   | exact mult_Validate.mono _ _
   | exact mult_elements.mono _ _ _
   | exact LeO.none _
   | refine LeO.ite ?_ ?_
   | refine LeO.bind ?_ (fun _ => ?_)
  ·intro y0 y1 y2 y3 y4 y5
   unfold mult_Sub.l1
   repeat' first
   | (with_reducible exact ih0 _ _ _)
   | (with_reducible exact ih1 _ _ _ _ _)
   | (with_reducible exact ih2 _ _ _ _ _ _)
   | (with_reducible exact ih3 _ _ _ _ _ _ _)
   | (with_reducible exact ih4 _ _ _ _ _ _ _ _ _ _ _ _)
   | (with_reducible exact mult_Validate.mono _ _)
   | (with_reducible exact mult_elements.mono _ _ _)
   | (with_reducible exact LeO.refl _)
   | (with_reducible exact LeO.none _)
   | (with_reducible refine LeO.ite ?_ ?_)
   | (with_reducible refine LeO.bind ?_ (fun _ => ?_))
   | exact ih0 _ _ _
   | exact ih1 _ _ _ _ _
   | exact ih2 _ _ _ _ _ _
   | exact ih3 _ _ _ _ _ _ _
   | exact ih4 _ _ _ _ _ _ _ _ _ _ _ _
   | exact mult_Validate.mono _ _
   | exact mult_elements.mono _ _ _
   | exact LeO.none _
   | refine LeO.ite ?_ ?_
   | refine LeO.bind ?_ (fun _ => ?_)
  ·intro y0 y1 y2 y3 y4 y5 y6
   unfold mult_Sub.l2
   repeat' first
   | (with_reducible exact ih0 _ _ _)
   | (with_reducible exact ih1 _ _ _ _ _)
   | (with_reducible exact ih2 _ _ _ _ _ _)
   | (with_reducible exact ih3 _ _ _ _ _ _ _)
   | (with_reducible exact ih4 _ _ _ _ _ _ _ _ _ _ _ _)
   | (with_reducible exact mult_Validate.mono _ _)
   | (with_reducible exact mult_elements.mono _ _ _)
   | (with_reducible exact LeO.refl _)
   | (with_reducible exact LeO.none _)
   | (with_reducible refine LeO.ite ?_ ?_)
   | (with_reducible refine LeO.bind ?_ (fun _ => ?_))
   | exact ih0 _ _ _
   | exact ih1 _ _ _ _ _
   | exact ih2 _ _ _ _ _ _
   | exact ih3 _ _ _ _ _ _ _
   | exact ih4 _ _ _ _ _ _ _ _ _ _ _ _
   | exact mult_Validate.mono _ _
   | exact mult_elements.mono _ _ _
   | exact LeO.none _
   | refine LeO.ite ?_ ?_
   | refine LeO.bind ?_ (fun _ => ?_)
  ·intro y0 y1 y2 y3 y4 y5 y6 y7 y8 y9 y10 y11
   unfold mult_Sub.l3
   repeat' first
   | (with_reducible exact ih0 _ _ _)
   | (with_reducible exact ih1 _ _ _ _ _)
   | (with_reducible exact ih2 _ _ _ _ _ _)
   | (with_reducible exact ih3 _ _ _ _ _ _ _)
   | (with_reducible exact ih4 _ _ _ _ _ _ _ _ _ _ _ _)
   | (with_reducible exact mult_Validate.mono _ _)
   | (with_reducible exact mult_elements.mono _ _ _)
   | (with_reducible exact LeO.refl _)
   | (with_reducible exact LeO.none _)
   | (with_reducible refine LeO.ite ?_ ?_)
   | (with_reducible refine LeO.bind ?_ (fun _ => ?_))
   | exact ih0 _ _ _
   | exact ih1 _ _ _ _ _
   | exact ih2 _ _ _ _ _ _
   | exact ih3 _ _ _ _ _ _ _
   | exact ih4 _ _ _ _ _ _ _ _ _ _ _ _
   | exact mult_Validate.mono _ _
   | exact mult_elements.mono _ _ _
   | exact LeO.none _
   | refine LeO.ite ?_ ?_
   | refine LeO.bind ?_ (fun _ => ?_)
theorem mult_Sub.mono : ∀ a0 a1 k, LeO (mult_Sub.f k a0 a1) (mult_Sub.f (k + 1) a0 a1) := by
 intro a0 a1 k
 obtain ⟨ih0, ih1, ih2, ih3, ih4⟩ := mult_Sub.mono_l k
 unfold mult_Sub.f
 repeat' first
   | (with_reducible exact ih0 _ _ _)
   | (with_reducible exact ih1 _ _ _ _ _)
   | (with_reducible exact ih2 _ _ _ _ _ _)
   | (with_reducible exact ih3 _ _ _ _ _ _ _)
   | (with_reducible exact ih4 _ _ _ _ _ _ _ _ _ _ _ _)
   | (with_reducible exact mult_Validate.mono _ _)
   | (with_reducible exact mult_elements.mono _ _ _)
   | (with_reducible exact LeO.refl _)
   | (with_reducible exact LeO.none _)
   | (with_reducible refine LeO.ite ?_ ?_)
   | (with_reducible refine LeO.bind ?_ (fun _ => ?_))
   | exact ih0 _ _ _
   | exact ih1 _ _ _ _ _
   | exact ih2 _ _ _ _ _ _
   | exact ih3 _ _ _ _ _ _ _
   | exact ih4 _ _ _ _ _ _ _ _ _ _ _ _
   | exact mult_Validate.mono _ _
   | exact mult_elements.mono _ _ _
   | exact LeO.none _
   | refine LeO.ite ?_ ?_
   | refine LeO.bind ?_ (fun _ => ?_)
def mult_Sub.T29 : Bool × List (List Nat × List Nat) := (true, [([], []), ([], []), ([0, 1], [0, 1]), ([2], [2]), ([], []), ([], []), ([], []), ([], []), ([6, 7], [6, 7]), ([8], [8]), ([], []), ([9, 10], [9, 10]), ([11], [11]), ([5, 12], [5, 12]), ([13], [13]), ([3, 4, 0, 1, 2, 3, 4, 5, 6, 7, 8, 9, 10, 11, 12, 13, 14], [3, 4]), ([15, 14, 0, 1, 2, 3, 4, 5, 6, 7, 8, 9, 10, 11, 12, 13, 14], [14, 15])])
def mult_Sub.B29 : List Nat := [0, 0, 3, 7, 0, 0, 0, 0, 192, 448, 0, 1984, 4032, 8160, 16352, 32767, 65535]
theorem mult_Sub.tab29 : rtab .any (opsOf Try.f52 29) = mult_Sub.T29 := by kernel_rfl
theorem mult_Sub.bits29 : waitsOk mult_Sub.T29.2 mult_Sub.B29 = true := by kernel_rfl
set_option maxHeartbeats 8000000 in
set_option maxRecDepth 100000 in
theorem mult_Sub.calls (k : Nat) (A0 : Option Addr) (c0 : Nat) (l0 : List (List Int)) (A1 : Option Addr) (c1 : Nat) (l1 : List Int) (r1 : List (List Int)) (r2 : Int) (w : World) (hr0 : Kd.C (Kd.slice 3 (Kd.int .i64)) w A0 l0.length l0) (hc0 : l0.length ≤ c0) (hr1 : Kd.C (Kd.int .i64) w A1 l1.length l1) (hc1 : l1.length ≤ c1) (h : mult_Sub.f k l0 l1 = some (r1, r2)) :
  Calls Try.prog 52 #[.slice A0 l0.length c0, .slice A1 l1.length c1] w fun e w' => ∃ v0_ : Value, e = .returned (.tuple #[v0_, .int .i64 r2]) ∧ Kd.S (Kd.slice 3 (Kd.int .i64)) 30 w' w.heap.size (fun _ => True) v0_ r1 ∧ Below w.heap.size w w' := by
 have HR0 := Aside0.mk hr0
 have HC0 := Aside0.mk hc0
 (try clear hr0); (try clear hc0)
 have HR1 := Aside0.mk hr1
 have HC1 := Aside0.mk hc1
 (try clear hr1); (try clear hc1)
 have HB := Aside0.mk (Below.refl w.heap.size w)
 have H : ((mult_Validate.f k l0).bind fun t593 => (if t593 = 0 then (if (l1.length : Int) = 0 then (mult_Sub.j0 k l0 l1 true) else ((mult_elements.f k l0 l1).bind fun t594 => (mult_Sub.j0 k l0 l1 (!t594)))) else (some (([] : List (List Int)), t593)))) = some (r1, r2) := h
 clear h
 replace H := Option.bind_eq_some_iff.mp H
 obtain ⟨t593, A30, H⟩ := H
 replace H : (if t593 = 0 then (if (l1.length : Int) = 0 then (mult_Sub.j0 k l0 l1 true) else ((mult_elements.f k l0 l1).bind fun t594 => (mult_Sub.j0 k l0 l1 (!t594)))) else (some (([] : List (List Int)), t593))) = some (r1, r2) := H
 have A3 := Aside0.mk A30
 clear A30
 by_cases c4 : t593 = 0
 ·rw [if_pos c4] at H
  have c4b0 : (t593 == 0) = true := beq_iff_eq.mpr c4
  have c4b1 : (t593 != 0) = false := bne_eq_false_iff_eq.mpr c4
  clear c4
  have HC5 := Aside0.mk H
  clear H
  go_enter Try.func52, Try.ntmps52
  go_upto_region 4 with (first | ((with_reducible refine gate_callee (f := 19) rfl ?_); refine goesL_ (some 17) rfl rfl Try.func19 (by kernel_rfl) rfl #[.slice A0 l0.length c0] rfl q_ml ?_; (with_reducible refine (mult_Validate.calls k _ _ l0 t593 _ ?side1 ?side2 A3.out).mono ?_); (case side1 => q_cc HR0.out); (case side2 => exact HC0.out); rintro e w' ⟨rfl, ⟨nd, rfl⟩⟩; refine ⟨_, rfl, ?_⟩))
  (try simp only [Act.put, List.setIfInBounds_toArray, List.set_cons_zero, List.set_cons_succ])
  go_cut [29] (fun v29 wc => ∃ (kq : Nat) (x29_4 : Bool), v29 = .bool x29_4 ∧ Aside0 (mult_Sub.j0 kq l0 l1 x29_4 = some (r1, r2)) ∧ Aside0 (kq ≤ k) ∧ Aside0 (Below w.heap.size w wc))
  case first =>
   have H := HC5.out
   clear HC5
   by_cases c6 : (l1.length : Int) = 0
   ·rw [if_pos c6] at H
    have c6b0 : ((l1.length : Int) == 0) = true := beq_iff_eq.mpr c6
    have c6b1 : ((l1.length : Int) != 0) = false := bne_eq_false_iff_eq.mpr c6
    clear c6
    (first | rw [c6b0] | (simp only [i64_w, i32_w]; rw [c6b0]) | skip)
    have H' := Aside0.mk H
    clear H
    go_wp2
    go_meet
    case rel => exact ⟨_, (true), q_rs, H', ⟨by first | omega | exact Nat.le_refl _⟩, ⟨by repeat (first | (with_reducible first | exact HB.out | apply below_alloc | apply pw_below_drewN | apply below_drew1) | exact HB.out)⟩⟩
   ·rw [if_neg c6] at H
    have c6b0 : ((l1.length : Int) == 0) = false := beq_eq_false_iff_ne.mpr c6
    have c6b1 : ((l1.length : Int) != 0) = true := bne_iff_ne.mpr c6
    have c6b2 : ¬ (l1 = []) := fun h_ => c6 (by rw [h_]; rfl)
    (first | rw [c6b0] | (simp only [i64_w, i32_w]; rw [c6b0]) | skip)
    replace H := Option.bind_eq_some_iff.mp H
    obtain ⟨t594, A70, H⟩ := H
    replace H : (mult_Sub.j0 k l0 l1 (!t594)) = some (r1, r2) := H
    have A7 := Aside0.mk A70
    clear A70
    have H' := Aside0.mk H
    clear H
    go_wp2_with (first | (go_at_call 69; (with_reducible refine (mult_elements.calls k _ _ l0 _ _ l1 t594 _ ?side1 ?side2 ?side3 ?side4 A7.out).mono ?_); (case side1 => q_cc (Kd.C_below HR0.out HB.out)); (case side2 => exact HC0.out); (case side3 => q_cc (Kd.C_below HR1.out HB.out)); (case side4 => exact HC1.out); rintro e w' ⟨rfl, ⟨nd, rfl⟩⟩))
    go_meet
    case rel => exact ⟨_, (!t594), q_rs, H', ⟨by first | omega | exact Nat.le_refl _⟩, ⟨by repeat (first | (with_reducible first | exact HB.out | apply below_alloc | apply pw_below_drewN | apply below_drew1) | exact HB.out)⟩⟩
  case rest =>
   clear HC5
   q_x c1 p2 c4 c4b0 c4b1 c5 c6 c6b0 c6b1 c6b2
   obtain ⟨kq, x29_4, rfl, HA, HJ4, HB⟩ := hcut
   cases kq with
   | zero => exact absurd HA.out (by simp [mult_Sub.j0])
   | succ kj4 =>
    have H := HA.out
    clear HA
    simp only [mult_Sub.j0] at H
    by_cases c8 : x29_4 = true
    ·subst c8
     have H1 : (some (([] : List (List Int)), 1)) = some (r1, r2) := by rw [if_pos rfl] at H; exact H
     clear H
     have H := H1
     clear H1
     simp only [Option.some.injEq, Prod.mk.injEq] at H
     obtain ⟨rfl, rfl⟩ := H
     go_wp2
     go_ret2
     exact ⟨_, by first | rfl | q_em | q_en, by first | exact Kd.S_nil _ _ _ _ _ | exact Kd.N_nil _ _ _ _ _ | exact Kd.V_nil _ _ _ _ _ | exact Kd.Q_nil _ _ _ _ _ | exact Kd.R_nil _ _ _ _ _, by repeat (first | (with_reducible first | exact HB.out | apply below_alloc | apply pw_below_drewN | apply below_drew1) | exact HB.out)⟩
    ·replace c8 := Bool.eq_false_iff.mpr c8
     subst c8
     have H1 : (if 0 ≤ (l0.length : Int) then (if ((l0.length : Int) : Int).toNat ≤ 35184372088832 then ((some (List.replicate ((l0.length : Int) : Int).toNat 0 : List Int)).bind fun y595 => (mult_Sub.l0 kj4 l0 l1 y595 (y595.length : Int) 0)) else (none)) else (none)) = some (r1, r2) := by rw [if_neg (show ¬ (false = true) by decide)] at H; exact H
     clear H
     have H := H1
     clear H1
     by_cases c9 : 0 ≤ (l0.length : Int)
     ·rw [if_pos c9] at H
      have c9b0 := eq_true c9
      have c9b1 : decide (0 ≤ (l0.length : Int)) = true := decide_eq_true c9
      clear c9
      by_cases c10 : ((l0.length : Int) : Int).toNat ≤ 35184372088832
      ·rw [if_pos c10] at H
       have c10b0 := eq_true c10
       have c10b1 : decide (((l0.length : Int) : Int).toNat ≤ 35184372088832) = true := decide_eq_true c10
       clear c10
       obtain ⟨y595, hy595⟩ : ∃ y_ : List Int, y_ = (List.replicate ((l0.length : Int) : Int).toNat 0) := ⟨_, rfl⟩
       replace H : (mult_Sub.l0 kj4 l0 l1 y595 (y595.length : Int) 0) = some (r1, r2) := by first | (rw [hy595]; with_reducible exact H) | (have H2_ := (Option.bind_some _ _).symm.trans H; rw [hy595]; with_reducible exact H2_) | (have H2_ := (Option.bind_some _ _).symm.trans H; with_reducible exact H2_) | with_reducible exact H | (rw [hy595]; exact H) | exact H
       have Ny595 := Aside0.mk hy595
       clear hy595
       have H' := Aside0.mk H
       clear H
       go_wp2_with (first | ((with_reducible refine gate_dst (N := 32) rfl ?_); refine Kd.R_make (Kd.int .i64) _ 3 rfl (N := 32) rfl 30 _ _ rfl (l0.length : Int) rfl rfl Try.underlying30 (.int .i64 0) 8 info3 rfl (by decide) (by omega) 0 (ok := fun _ => True) (okp := fun _ => True) rfl (fun _ hk => hk) trivial (of_decide_eq_true q_as) (Nat.le_trans (Nat.mul_le_mul_right _ (of_decide_eq_true q_as : (l0.length : Int).toNat ≤ 35184372088832)) (by omega)) (Below.refl _ _) (Nat.le_refl _) ?_; intro v596 w11 ho12 hb hg_ hnew_; (q_x hg_ hnew_); (first | rw [← Ny595.out] at ho12 | (simp only [Int.reduceToNat] at ho12; rw [← Ny595.out] at ho12)); have n0_ := Aside0.mk (Kd.R_lower ho12 q_bs); have n1_ := Aside0.mk (below_step q_hb hb); clear HB; have HO597 := n0_; have HB := n1_; clear n0_ n1_; (q_x hb ho12); obtain ⟨Ao13, co13, eo13⟩ := Kd.R_slice HO597.out; subst eo13))
       go_loopg [35] kj4 (fun kq v35 w' => ∃ (x7_2 : List Int) (x35_2 : Int), v35 = .int .i64 x35_2 ∧ Aside0 (mult_Sub.l0 kq l0 l1 x7_2 (y595.length : Int) x35_2 = some (r1, r2)) ∧ Aside0 (kq ≤ kj4) ∧ Aside0 (Kd.R (Kd.int .i64) 3 w' w.heap.size (fun _ => True) (.slice Ao13 y595.length co13) x7_2) ∧ Aside0 (Below w.heap.size w w'))
       case atStart => exact ⟨(y595), (0), q_rs, H', ⟨Nat.le_refl _⟩, ⟨by q_nr; exact HO597.out⟩, ⟨by repeat (first | (with_reducible first | exact HB.out | apply below_alloc | apply pw_below_drewN | apply below_drew1) | exact HB.out)⟩⟩
       case round =>
        clear H'
        q_x c1 p2 c4 c4b0 c4b1 c5 c6 c6b0 c6b1 c6b2 c8 c9 c9b0 c9b1 c10 c10b0 c10b1 p2
        obtain ⟨x7_2, x35_2, rfl, HA, HK2, HO_7, HB⟩ := hrel
        have hl7_2 := (Kd.R_reads' HO_7.out).1
        rw [hl7_2] at HO_7
        (try simp only [hl7_2])
        cases gk with
        | zero => exact absurd HA.out (by simp [mult_Sub.l0])
        | succ k2 =>
         have H := HA.out
         clear HA
         simp only [mult_Sub.l0] at H
         by_cases c14 : x35_2 < (y595.length : Int)
         ·rw [if_pos c14] at H
          have c14b0 : decide (x35_2 < (y595.length : Int)) = true := decide_eq_true c14
          (try (have c14b0z := c14b0; simp only [hl7_2] at c14b0z))
          clear c14
          by_cases c15 : 0 ≤ x35_2
          ·rw [if_pos c15] at H
           have c15b0 : decide (0 ≤ x35_2) = true := decide_eq_true c15
           clear c15
           by_cases c16 : x35_2 < (x7_2.length : Int)
           ·rw [if_pos c16] at H
            have c16b0 : decide (x35_2 < (x7_2.length : Int)) = true := decide_eq_true c16
            (try (have c16b0z := c16b0; simp only [hl7_2] at c16b0z))
            clear c16
            obtain ⟨y598, hy598⟩ : ∃ y_ : List Int, y_ = (x7_2.set (x35_2 : Int).toNat (-1)) := ⟨_, rfl⟩
            replace H : (mult_Sub.l0 k2 l0 l1 y598 (y595.length : Int) (wrap64 (x35_2 + 1))) = some (r1, r2) := by first | (rw [hy598]; with_reducible exact H) | (have H2_ := (Option.bind_some _ _).symm.trans H; rw [hy598]; with_reducible exact H2_) | (have H2_ := (Option.bind_some _ _).symm.trans H; with_reducible exact H2_) | with_reducible exact H | (rw [hy598]; exact H) | exact H
            have Ny598 := Aside0.mk hy598
            clear hy598
            have H' := Aside0.mk H
            clear H
            have p17 : 0 ≤ (x35_2 : Int) := of_decide_eq_true q_as
            have q17 : (x35_2 : Int) < ((x7_2.length : Int) : Int) := of_decide_eq_true q_as
            obtain ⟨go17, co17, eo17, gb17, gl17, cl17, HG17⟩ := Kd.R_form HO_7.out (by omega)
            (first | cases eo17 | (injection eo17 with ea_ en_ ec_; (first | subst ea_ | (injection ea_ with ea_; subst ea_)); subst ec_; clear en_))
            have GB17 := Aside0.mk gb17
            have GG17 := Aside0.mk HG17
            (q_x gb17 gl17); (try clear HG17)
            obtain ⟨hx17_0, hf17_0⟩ := Kd.R_celln 0 HO_7.out (x35_2 : Int) p17 q17
            q_t p17 q17
            have HP18 := Kd.R_putg HO_7.out (x35_2 : Int) (-1)
            go_wp2_with (first | ((with_reducible refine gate_store (t := 3) (p := 40) rfl ?_); refine store_event (t := 3) (p := 40) (v := ?vo_w19) (w1 := (wr.setCell ⟨go17, (x35_2 : Int).toNat, none⟩ (.int .i64 (-1)))) ?hg ?ho ?hn ?hr ?_; (case ho => rfl); (case hg => rfl); (case hn => rfl); q_hr; intro w19 hw; have hg : wr.grownBy w19 (some go17) := (by rw [hw]; exact HP18.2); have hp_ : Kd.R (Kd.int .i64) 3 w19 w.heap.size (fun _ => True) (.slice (some ⟨go17, 0, none⟩) x7_2.length co13) y598 := (by rw [hw, Ny598.out]; exact HP18.1); clear HP18; have n0_ := Aside0.mk (hp_); have n1_ := Aside0.mk ((by rw [hw]; exact below_set (HB.out) GB17.out : Below w.heap.size w w19)); clear HO_7; clear HB; have HO_7 := n0_; have HB := n1_; clear n0_ n1_; (q_x hg hw); (try clear hp_)))
            (try simp only [← hl7_2])
            go_roundg k2
            case measure => have := HJ4.out; have := HK2.out; omega
            case rel => exact ⟨(y598), (wrap64 (x35_2 + 1)), q_rs, H', ⟨by have := HJ4.out; have := HK2.out; omega⟩, ⟨by (try simp only [hl7_2]); q_nr; exact HO_7.out⟩, ⟨by repeat (first | (with_reducible first | exact HB.out | apply below_alloc | apply pw_below_drewN | apply below_drew1) | exact HB.out)⟩⟩
           ·rw [if_neg c16] at H
            exact absurd H (by simp)
          ·rw [if_neg c15] at H
           exact absurd H (by simp)
         ·rw [if_neg c14] at H
          have c14b0 : decide (x35_2 < (y595.length : Int)) = false := decide_eq_false c14
          (try (have c14b0z := c14b0; simp only [hl7_2] at c14b0z))
          clear c14
          have H' := Aside0.mk H
          clear H
          go_wp2
          go_loopg [44] k2 (fun kq v44 w' => ∃ (x7_3 : List Int) (x44_3 : Int), v44 = .int .i64 x44_3 ∧ Aside0 (mult_Sub.l1 kq l0 l1 x7_3 l1 (l1.length : Int) x44_3 = some (r1, r2)) ∧ Aside0 (kq ≤ k2) ∧ Aside0 (Kd.R (Kd.int .i64) 3 w' w.heap.size (fun _ => True) (.slice Ao13 x7_2.length co13) x7_3) ∧ Aside0 (Below w.heap.size w w'))
          case atStart => exact ⟨(x7_2), (0), q_rs, H', ⟨Nat.le_refl _⟩, ⟨by (try simp only [hl7_2]); q_nr; exact HO_7.out⟩, ⟨by repeat (first | (with_reducible first | exact HB.out | apply below_alloc | apply pw_below_drewN | apply below_drew1) | exact HB.out)⟩⟩
          case round =>
           clear H'
           q_x c1 p1 q1 hx1 p2 c4 c4b0 c4b1 c5 c6 c6b0 c6b1 c6b2 p6 c8 c9 c9b0 c9b1 c10 c10b0 c10b1 c14 c14b0 c15 c15b0 c16 c16b0 p17 q17 hx17 hf17 c19 hx17_0 p17 p2 q17
           obtain ⟨x7_3, x44_3, rfl, HA, HK3, HO_7, HB⟩ := hrel
           have hl7_3 := (Kd.R_reads' HO_7.out).1
           rw [hl7_3] at HO_7
           (try simp only [hl7_3])
           cases gk with
           | zero => exact absurd HA.out (by simp [mult_Sub.l1])
           | succ k3 =>
            have H := HA.out
            clear HA
            simp only [mult_Sub.l1] at H
            by_cases c20 : x44_3 < (l1.length : Int)
            ·rw [if_pos c20] at H
             have c20b0 : decide (x44_3 < (l1.length : Int)) = true := decide_eq_true c20
             (try (have c20b0z := c20b0; simp only [hl7_2, hl7_3] at c20b0z))
             clear c20
             by_cases c21 : 0 ≤ x44_3
             ·rw [if_pos c21] at H
              have c21b0 : decide (0 ≤ x44_3) = true := decide_eq_true c21
              clear c21
              by_cases c22 : x44_3 < (l1.length : Int)
              ·rw [if_pos c22] at H
               have c22b0 : decide (x44_3 < (l1.length : Int)) = true := decide_eq_true c22
               (try (have c22b0z := c22b0; simp only [hl7_2, hl7_3] at c22b0z))
               clear c22
               by_cases c23 : x44_3 > 0
               ·rw [if_pos c23] at H
                have c23b0 : decide (0 < x44_3) = true := decide_eq_true c23
                clear c23
                obtain ⟨ji24, hji24⟩ : ∃ j_ : Int, (wrap64 (x44_3 - 1)) = j_ := ⟨_, rfl⟩
                replace H : (if 0 ≤ (ji24) then (if (ji24) < (l1.length : Int) then (if (rd l1 (ji24)) ≥ (rd l1 x44_3) then (some (([] : List (List Int)), 1)) else (if 0 ≤ (rd l1 x44_3) then (if (rd l1 x44_3) < (x7_3.length : Int) then (mult_Sub.l1 k3 l0 l1 (x7_3.set ((rd l1 x44_3) : Int).toNat x44_3) l1 (l1.length : Int) (wrap64 (x44_3 + 1))) else (none)) else (none))) else (none)) else (none)) = some (r1, r2) := by first | (rw [hji24] at H; exact H) | (simp only [hji24] at H ⊢; exact H)
                have hji24w : (IntKind.i64.wrap (x44_3 - 1)) = ji24 := (i64_w _).trans hji24
                by_cases c25 : 0 ≤ (ji24)
                ·rw [if_pos c25] at H
                 have c25b0 : decide (0 ≤ (ji24)) = true := decide_eq_true c25
                 clear c25
                 by_cases c26 : (ji24) < (l1.length : Int)
                 ·rw [if_pos c26] at H
                  have c26b0 : decide ((ji24) < (l1.length : Int)) = true := decide_eq_true c26
                  (try (have c26b0z := c26b0; simp only [hl7_2, hl7_3] at c26b0z))
                  clear c26
                  by_cases c27 : (rd l1 (ji24)) ≥ (rd l1 x44_3)
                  ·rw [if_pos c27] at H
                   have c27b0 : decide ((rd l1 x44_3) ≤ (rd l1 (ji24))) = true := decide_eq_true c27
                   clear c27
                   simp only [Option.some.injEq, Prod.mk.injEq] at H
                   obtain ⟨rfl, rfl⟩ := H
                   have p599 : 0 ≤ (x44_3 : Int) := of_decide_eq_true q_as
                   have q599 : x44_3 < (l1.length : Int) := of_decide_eq_true q_as
                   obtain ⟨ad599, e599, hx599_0⟩ := Kd.at_int HR1.out x44_3 p599 q599
                   cases e599
                   replace hx599_0 := (HB.out.cell (World.block_lt_of_cell? w _ hx599_0)).trans hx599_0
                   q_t p599 q599
                   have p600 : 0 ≤ ((ji24) : Int) := of_decide_eq_true q_as
                   have q600 : (ji24) < (l1.length : Int) := of_decide_eq_true q_as
                   obtain ⟨ad600, e600, hx600_0⟩ := Kd.at_int HR1.out (ji24) p600 q600
                   obtain rfl : ad599 = ad600 := (by injection e600)
                   replace hx600_0 := (HB.out.cell (World.block_lt_of_cell? w _ hx600_0)).trans hx600_0
                   q_t p600 q600
                   go_wp2
                   go_ret2
                   exact ⟨_, by first | rfl | q_em | (simp only [← hji24]; first | rfl | q_em) | q_en, by first | exact Kd.S_nil _ _ _ _ _ | exact Kd.N_nil _ _ _ _ _ | exact Kd.V_nil _ _ _ _ _ | exact Kd.Q_nil _ _ _ _ _ | exact Kd.R_nil _ _ _ _ _, by repeat (first | (with_reducible first | exact HB.out | apply below_alloc | apply pw_below_drewN | apply below_drew1) | exact HB.out)⟩
                  ·rw [if_neg c27] at H
                   have c27b0 : decide ((rd l1 x44_3) ≤ (rd l1 (ji24))) = false := decide_eq_false c27
                   clear c27
                   by_cases c28 : 0 ≤ (rd l1 x44_3)
                   ·rw [if_pos c28] at H
                    have c28b0 : decide (0 ≤ (rd l1 x44_3)) = true := decide_eq_true c28
                    clear c28
                    by_cases c29 : (rd l1 x44_3) < (x7_3.length : Int)
                    ·rw [if_pos c29] at H
                     have c29b0 : decide ((rd l1 x44_3) < (x7_3.length : Int)) = true := decide_eq_true c29
                     (try (have c29b0z := c29b0; simp only [hl7_2, hl7_3] at c29b0z))
                     clear c29
                     obtain ⟨y601, hy601⟩ : ∃ y_ : List Int, y_ = (x7_3.set ((rd l1 x44_3) : Int).toNat x44_3) := ⟨_, rfl⟩
                     replace H : (mult_Sub.l1 k3 l0 l1 y601 l1 (l1.length : Int) (wrap64 (x44_3 + 1))) = some (r1, r2) := by first | (rw [hy601]; with_reducible exact H) | (have H2_ := (Option.bind_some _ _).symm.trans H; rw [hy601]; with_reducible exact H2_) | (have H2_ := (Option.bind_some _ _).symm.trans H; with_reducible exact H2_) | with_reducible exact H | (rw [hy601]; exact H) | exact H
                     have Ny601 := Aside0.mk hy601
                     clear hy601
                     have H' := Aside0.mk H
                     clear H
                     have p599 : 0 ≤ (x44_3 : Int) := of_decide_eq_true q_as
                     have q599 : x44_3 < (l1.length : Int) := of_decide_eq_true q_as
                     obtain ⟨ad599, e599, hx599_0⟩ := Kd.at_int HR1.out x44_3 p599 q599
                     cases e599
                     replace hx599_0 := (HB.out.cell (World.block_lt_of_cell? w _ hx599_0)).trans hx599_0
                     q_t p599 q599
                     have p600 : 0 ≤ ((ji24) : Int) := of_decide_eq_true q_as
                     have q600 : (ji24) < (l1.length : Int) := of_decide_eq_true q_as
                     obtain ⟨ad600, e600, hx600_0⟩ := Kd.at_int HR1.out (ji24) p600 q600
                     obtain rfl : ad599 = ad600 := (by injection e600)
                     replace hx600_0 := (HB.out.cell (World.block_lt_of_cell? w _ hx600_0)).trans hx600_0
                     q_t p600 q600
                     have p30 : 0 ≤ ((rd l1 x44_3) : Int) := of_decide_eq_true q_as
                     have q30 : ((rd l1 x44_3) : Int) < ((x7_3.length : Int) : Int) := of_decide_eq_true q_as
                     obtain ⟨go30, co30, eo30, gb30, gl30, cl30, HG30⟩ := Kd.R_form HO_7.out (by omega)
                     (first | cases eo30 | (injection eo30 with ea_ en_ ec_; (first | subst ea_ | (injection ea_ with ea_; subst ea_)); subst ec_; clear en_))
                     have GB30 := Aside0.mk gb30
                     have GG30 := Aside0.mk HG30
                     (q_x gb30 gl30); (try clear HG30)
                     obtain ⟨hx30_0, hf30_0⟩ := Kd.R_celln 0 HO_7.out ((rd l1 x44_3) : Int) p30 q30
                     q_t p30 q30
                     have HP31 := Kd.R_putg HO_7.out ((rd l1 x44_3) : Int) x44_3
                     go_wp2_with (first | ((with_reducible refine gate_store (t := 3) (p := 63) rfl ?_); refine store_event (t := 3) (p := 63) (v := ?vo_w32) (w1 := (wr.setCell ⟨go30, ((rd l1 x44_3) : Int).toNat, none⟩ (.int .i64 x44_3))) ?hg ?ho ?hn ?hr ?_; (case ho => rfl); (case hg => rfl); (case hn => rfl); q_hr; intro w32 hw; have hg : wr.grownBy w32 (some go30) := (by rw [hw]; exact HP31.2); have hp_ : Kd.R (Kd.int .i64) 3 w32 w.heap.size (fun _ => True) (.slice (some ⟨go30, 0, none⟩) x7_3.length co13) y601 := (by rw [hw, Ny601.out]; exact HP31.1); clear HP31; have n0_ := Aside0.mk (hp_); have n1_ := Aside0.mk ((by rw [hw]; exact below_set (HB.out) GB30.out : Below w.heap.size w w32)); clear HO_7; clear HB; have HO_7 := n0_; have HB := n1_; clear n0_ n1_; (q_x hg hw); (try clear hp_)))
                     (try simp only [← hl7_3])
                     go_roundg k3
                     case measure => have := HJ4.out; have := HK2.out; have := HK3.out; omega
                     case rel => exact ⟨(y601), (wrap64 (x44_3 + 1)), q_rs, H', ⟨by have := HJ4.out; have := HK2.out; have := HK3.out; omega⟩, ⟨by (try simp only [hl7_2]); (try simp only [hl7_3]); q_nr; exact HO_7.out⟩, ⟨by repeat (first | (with_reducible first | exact HB.out | apply below_alloc | apply pw_below_drewN | apply below_drew1) | exact HB.out)⟩⟩
                    ·rw [if_neg c29] at H
                     exact absurd H (by simp)
                   ·rw [if_neg c28] at H
                    exact absurd H (by simp)
                 ·rw [if_neg c26] at H
                  exact absurd H (by simp)
                ·rw [if_neg c25] at H
                 exact absurd H (by simp)
               ·rw [if_neg c23] at H
                have c23b0 : decide (0 < x44_3) = false := decide_eq_false c23
                clear c23
                by_cases c33 : 0 ≤ (rd l1 x44_3)
                ·rw [if_pos c33] at H
                 have c33b0 : decide (0 ≤ (rd l1 x44_3)) = true := decide_eq_true c33
                 clear c33
                 by_cases c34 : (rd l1 x44_3) < (x7_3.length : Int)
                 ·rw [if_pos c34] at H
                  have c34b0 : decide ((rd l1 x44_3) < (x7_3.length : Int)) = true := decide_eq_true c34
                  (try (have c34b0z := c34b0; simp only [hl7_2, hl7_3] at c34b0z))
                  clear c34
                  obtain ⟨y602, hy602⟩ : ∃ y_ : List Int, y_ = (x7_3.set ((rd l1 x44_3) : Int).toNat x44_3) := ⟨_, rfl⟩
                  replace H : (mult_Sub.l1 k3 l0 l1 y602 l1 (l1.length : Int) (wrap64 (x44_3 + 1))) = some (r1, r2) := by first | (rw [hy602]; with_reducible exact H) | (have H2_ := (Option.bind_some _ _).symm.trans H; rw [hy602]; with_reducible exact H2_) | (have H2_ := (Option.bind_some _ _).symm.trans H; with_reducible exact H2_) | with_reducible exact H | (rw [hy602]; exact H) | exact H
                  have Ny602 := Aside0.mk hy602
                  clear hy602
                  have H' := Aside0.mk H
                  clear H
                  have p599 : 0 ≤ (x44_3 : Int) := of_decide_eq_true q_as
                  have q599 : x44_3 < (l1.length : Int) := of_decide_eq_true q_as
                  obtain ⟨ad599, e599, hx599_0⟩ := Kd.at_int HR1.out x44_3 p599 q599
                  cases e599
                  replace hx599_0 := (HB.out.cell (World.block_lt_of_cell? w _ hx599_0)).trans hx599_0
                  q_t p599 q599
                  have p35 : 0 ≤ ((rd l1 x44_3) : Int) := of_decide_eq_true q_as
                  have q35 : ((rd l1 x44_3) : Int) < ((x7_3.length : Int) : Int) := of_decide_eq_true q_as
                  obtain ⟨go35, co35, eo35, gb35, gl35, cl35, HG35⟩ := Kd.R_form HO_7.out (by omega)
                  (first | cases eo35 | (injection eo35 with ea_ en_ ec_; (first | subst ea_ | (injection ea_ with ea_; subst ea_)); subst ec_; clear en_))
                  have GB35 := Aside0.mk gb35
                  have GG35 := Aside0.mk HG35
                  (q_x gb35 gl35); (try clear HG35)
                  obtain ⟨hx35_0, hf35_0⟩ := Kd.R_celln 0 HO_7.out ((rd l1 x44_3) : Int) p35 q35
                  q_t p35 q35
                  have HP36 := Kd.R_putg HO_7.out ((rd l1 x44_3) : Int) x44_3
                  go_wp2_with (first | ((with_reducible refine gate_store (t := 3) (p := 63) rfl ?_); refine store_event (t := 3) (p := 63) (v := ?vo_w37) (w1 := (wr.setCell ⟨go35, ((rd l1 x44_3) : Int).toNat, none⟩ (.int .i64 x44_3))) ?hg ?ho ?hn ?hr ?_; (case ho => rfl); (case hg => rfl); (case hn => rfl); q_hr; intro w37 hw; have hg : wr.grownBy w37 (some go35) := (by rw [hw]; exact HP36.2); have hp_ : Kd.R (Kd.int .i64) 3 w37 w.heap.size (fun _ => True) (.slice (some ⟨go35, 0, none⟩) x7_3.length co13) y602 := (by rw [hw, Ny602.out]; exact HP36.1); clear HP36; have n0_ := Aside0.mk (hp_); have n1_ := Aside0.mk ((by rw [hw]; exact below_set (HB.out) GB35.out : Below w.heap.size w w37)); clear HO_7; clear HB; have HO_7 := n0_; have HB := n1_; clear n0_ n1_; (q_x hg hw); (try clear hp_)))
                  (try simp only [← hl7_3])
                  go_roundg k3
                  case measure => have := HJ4.out; have := HK2.out; have := HK3.out; omega
                  case rel => exact ⟨(y602), (wrap64 (x44_3 + 1)), q_rs, H', ⟨by have := HJ4.out; have := HK2.out; have := HK3.out; omega⟩, ⟨by (try simp only [hl7_2]); (try simp only [hl7_3]); q_nr; exact HO_7.out⟩, ⟨by repeat (first | (with_reducible first | exact HB.out | apply below_alloc | apply pw_below_drewN | apply below_drew1) | exact HB.out)⟩⟩
                 ·rw [if_neg c34] at H
                  exact absurd H (by simp)
                ·rw [if_neg c33] at H
                 exact absurd H (by simp)
              ·rw [if_neg c22] at H
               exact absurd H (by simp)
             ·rw [if_neg c21] at H
              exact absurd H (by simp)
            ·rw [if_neg c20] at H
             have c20b0 : decide (x44_3 < (l1.length : Int)) = false := decide_eq_false c20
             (try (have c20b0z := c20b0; simp only [hl7_2, hl7_3] at c20b0z))
             clear c20
             by_cases c38 : 0 ≤ (l1.length : Int)
             ·rw [if_pos c38] at H
              have c38b0 := eq_true c38
              have c38b1 : decide (0 ≤ (l1.length : Int)) = true := decide_eq_true c38
              (try (have c38b1z := c38b1; simp only [hl7_2, hl7_3] at c38b1z))
              clear c38
              by_cases c39 : ((l1.length : Int) : Int).toNat ≤ 11728124029610
              ·rw [if_pos c39] at H
               have c39b0 := eq_true c39
               have c39b1 : decide (((l1.length : Int) : Int).toNat ≤ 11728124029610) = true := decide_eq_true c39
               (try (have c39b1z := c39b1; simp only [hl7_2, hl7_3] at c39b1z))
               clear c39
               obtain ⟨y603, hy603⟩ : ∃ y_ : List (List Int), y_ = (List.replicate ((l1.length : Int) : Int).toNat []) := ⟨_, rfl⟩
               replace H : (mult_Sub.l2 k3 l0 l1 x7_3 y603 l1 (l1.length : Int) 0) = some (r1, r2) := by first | (rw [hy603]; with_reducible exact H) | (have H2_ := (Option.bind_some _ _).symm.trans H; rw [hy603]; with_reducible exact H2_) | (have H2_ := (Option.bind_some _ _).symm.trans H; with_reducible exact H2_) | with_reducible exact H | (rw [hy603]; exact H) | exact H
               have Ny603 := Aside0.mk hy603
               clear hy603
               have H' := Aside0.mk H
               clear H
               go_wp2_with (first | ((with_reducible refine gate_dst (N := 67) rfl ?_); refine Kd.S_make (Kd.slice 3 (Kd.int .i64)) _ 30 rfl (N := 67) rfl 22 _ _ rfl (l1.length : Int) rfl rfl Try.underlying22 (.slice none 0 0) 24 info30 rfl (by decide) (by omega) [] (ok := fun _ => True) (okp := fun _ => True) ⟨_, rfl, Kd.R_nil _ _ _ _ _⟩ (fun _ hk => hk) trivial (of_decide_eq_true q_as) (Nat.le_trans (Nat.mul_le_mul_right _ (of_decide_eq_true q_as : (l1.length : Int).toNat ≤ 11728124029610)) (by omega)) (Below.refl _ _) (Nat.le_refl _) ?_; intro v604 w40 ho41 hb hg_ hnew_; (q_x hg_ hnew_); (first | rw [← Ny603.out] at ho41 | (simp only [Int.reduceToNat] at ho41; rw [← Ny603.out] at ho41)); have n0_ := Aside0.mk (Kd.R_below (by q_nr; exact HO_7.out) hb); have n1_ := Aside0.mk (Kd.S_lower (Kd.S_new' ho41 (Kd.R_lt (by q_nr; exact HO_7.out))) q_bs); have n2_ := Aside0.mk (below_step q_hb hb); clear HO_7; clear HB; have HO_7 := n0_; have HO605 := n1_; have HB := n2_; clear n0_ n1_ n2_; (try clear hb); (try clear ho41)))
               go_loopg [70] k3 (fun kq v70 w' => ∃ (x7_4 : List Int) (x11_4 : List (List Int)) (x70_4 : Int), v70 = .int .i64 x70_4 ∧ Aside0 (mult_Sub.l2 kq l0 l1 x7_4 x11_4 l1 (l1.length : Int) x70_4 = some (r1, r2)) ∧ Aside0 (kq ≤ k3) ∧ Aside0 (Kd.R (Kd.int .i64) 3 w' w.heap.size (fun _ => True) (.slice Ao13 x7_3.length co13) x7_4) ∧ Aside0 (Kd.S (Kd.slice 3 (Kd.int .i64)) 30 w' w.heap.size (fun k_ => some k_ ≠ ((.slice Ao13 x7_3.length co13) : Value).ownBlock) v604 x11_4) ∧ Aside0 (Below w.heap.size w w'))
               case atStart => exact ⟨(x7_3), (y603), (0), q_rs, H', ⟨Nat.le_refl _⟩, ⟨by (try simp only [hl7_2]); (try simp only [hl7_3]); q_nr; exact HO_7.out⟩, ⟨by (try simp only [hl7_2]); (try simp only [hl7_3]); q_ns; exact Kd.S_mono HO605.out (fun _ hk => hk.2)⟩, ⟨by repeat (first | (with_reducible first | exact HB.out | apply below_alloc | apply pw_below_drewN | apply below_drew1) | exact HB.out)⟩⟩
               case round =>
                clear H'
                q_x c1 p1 q1 hx1 c2 p2 c3 p3 q3 hx3 hf3 c4 c4b0 c4b1 c5 p5 q5 hx5 c6 c6b0 c6b1 c6b2 p6 q6 hx6 c8 c9 c9b0 c9b1 c10 c10b0 c10b1 c14 c14b0 c15 c15b0 c16 c16b0 p17 q17 hx17 hf17 c19 c20 c20b0 c21 c21b0 c22 c22b0 c23 c23b0 c25 c25b0 c26 c26b0 c27 c27b0 c28 c28b0 c29 c29b0 p30 q30 hx30 hf30 c33 c33b0 c34 c34b0 p35 q35 hx35 hf35 c38 c38b0 c38b1 c39 c39b0 c39b1 hx17_0 hx30_0 hx35_0 hx599_0 hx600_0 p1 p17 p2 p30 p35 p599 p6 p600 q1 q17 q30 q35 q599 q600
                obtain ⟨x7_4, x11_4, x70_4, rfl, HA, HK4, HO_7, HO_11, HB⟩ := hrel
                have hl7_4 := (Kd.R_reads' HO_7.out).1
                rw [hl7_4] at HO_7
                (try simp only [hl7_4])
                (try simp only [hl7_4] at HO_11)
                cases gk with
                | zero => exact absurd HA.out (by simp [mult_Sub.l2])
                | succ k4 =>
                 have H := HA.out
                 clear HA
                 simp only [mult_Sub.l2] at H
                 by_cases c42 : x70_4 < (l1.length : Int)
                 ·rw [if_pos c42] at H
                  have c42b0 : decide (x70_4 < (l1.length : Int)) = true := decide_eq_true c42
                  (try (have c42b0z := c42b0; simp only [hl7_2, hl7_3, hl7_4] at c42b0z))
                  clear c42
                  by_cases c43 : 0 ≤ x70_4
                  ·rw [if_pos c43] at H
                   have c43b0 : decide (0 ≤ x70_4) = true := decide_eq_true c43
                   clear c43
                   by_cases c44 : x70_4 < (l1.length : Int)
                   ·rw [if_pos c44] at H
                    have c44b0 : decide (x70_4 < (l1.length : Int)) = true := decide_eq_true c44
                    (try (have c44b0z := c44b0; simp only [hl7_2, hl7_3, hl7_4] at c44b0z))
                    clear c44
                    by_cases c45 : 0 ≤ (l1.length : Int)
                    ·rw [if_pos c45] at H
                     have c45b0 := eq_true c45
                     have c45b1 : decide (0 ≤ (l1.length : Int)) = true := decide_eq_true c45
                     (try (have c45b1z := c45b1; simp only [hl7_2, hl7_3, hl7_4] at c45b1z))
                     clear c45
                     by_cases c46 : ((l1.length : Int) : Int).toNat ≤ 35184372088832
                     ·rw [if_pos c46] at H
                      have c46b0 := eq_true c46
                      have c46b1 : decide (((l1.length : Int) : Int).toNat ≤ 35184372088832) = true := decide_eq_true c46
                      (try (have c46b1z := c46b1; simp only [hl7_2, hl7_3, hl7_4] at c46b1z))
                      clear c46
                      obtain ⟨y607, hy607⟩ : ∃ y_ : List Int, y_ = (List.replicate ((l1.length : Int) : Int).toNat 0) := ⟨_, rfl⟩
                      replace H : (if x70_4 < (x11_4.length : Int) then (mult_Sub.l3 k4 l0 l1 x7_4 (x11_4.set (x70_4 : Int).toNat y607) x70_4 (rd l1 x70_4) l1 (l1.length : Int) x70_4 l1 (l1.length : Int) 0) else (none)) = some (r1, r2) := by first | (rw [hy607]; with_reducible exact H) | (have H2_ := (Option.bind_some _ _).symm.trans H; rw [hy607]; with_reducible exact H2_) | (have H2_ := (Option.bind_some _ _).symm.trans H; with_reducible exact H2_) | with_reducible exact H | (rw [hy607]; exact H) | exact H
                      have Ny607 := Aside0.mk hy607
                      clear hy607
                      by_cases c47 : x70_4 < (x11_4.length : Int)
                      ·rw [if_pos c47] at H
                       have c47b0 : decide (x70_4 < (x11_4.length : Int)) = true := decide_eq_true c47
                       (try (have c47b0z := c47b0; simp only [hl7_2, hl7_3, hl7_4] at c47b0z))
                       clear c47
                       obtain ⟨y610, hy610⟩ : ∃ y_ : List (List Int), y_ = (x11_4.set (x70_4 : Int).toNat y607) := ⟨_, rfl⟩
                       replace H : (mult_Sub.l3 k4 l0 l1 x7_4 y610 x70_4 (rd l1 x70_4) l1 (l1.length : Int) x70_4 l1 (l1.length : Int) 0) = some (r1, r2) := by first | (rw [hy610]; with_reducible exact H) | (have H2_ := (Option.bind_some _ _).symm.trans H; rw [hy610]; with_reducible exact H2_) | (have H2_ := (Option.bind_some _ _).symm.trans H; with_reducible exact H2_) | with_reducible exact H | (rw [hy610]; exact H) | exact H
                       have Ny610 := Aside0.mk hy610
                       clear hy610
                       have H' := Aside0.mk H
                       clear H
                       have p606 : 0 ≤ (x70_4 : Int) := of_decide_eq_true q_as
                       have q606 : x70_4 < (l1.length : Int) := of_decide_eq_true q_as
                       obtain ⟨ad606, e606, hx606_0⟩ := Kd.at_int HR1.out x70_4 p606 q606
                       cases e606
                       replace hx606_0 := (HB.out.cell (World.block_lt_of_cell? w _ hx606_0)).trans hx606_0
                       q_t p606 q606
                       go_wp2_with (first | ((with_reducible refine gate_dst (N := 79) rfl ?_); refine Kd.R_make (Kd.int .i64) _ 3 rfl (N := 79) rfl 30 _ _ rfl (l1.length : Int) rfl rfl Try.underlying30 (.int .i64 0) 8 info3 rfl (by decide) (by omega) 0 (ok := fun _ => True) (okp := fun _ => True) rfl (fun _ hk => hk) trivial (of_decide_eq_true q_as) (Nat.le_trans (Nat.mul_le_mul_right _ (of_decide_eq_true q_as : (l1.length : Int).toNat ≤ 35184372088832)) (by omega)) (Below.refl _ _) (Nat.le_refl _) ?_; intro v608 w49 ho50 hb hg_ hnew_; (q_x hg_ hnew_); (first | rw [← Ny607.out] at ho50 | (simp only [Int.reduceToNat] at ho50; rw [← Ny607.out] at ho50)); have n0_ := Aside0.mk (Kd.R_elder' (by q_nr; exact HO_7.out) (by first | exact Kd.N_base ho50 | exact Kd.S_base ho50 | exact Kd.R_base ho50) hb); have n1_ := Aside0.mk (Kd.S_elder' (by q_ns; exact HO_11.out) (by first | exact Kd.N_base ho50 | exact Kd.S_base ho50 | exact Kd.R_base ho50) hb); have n2_ := Aside0.mk (Kd.R_lower (Kd.R_new' ho50 (Kd.R_lt (by q_nr; exact HO_7.out))) q_bs); have n3_ := Aside0.mk (below_step q_hb hb); clear HO_7; clear HO_11; clear HB; have HO_7 := n0_; have HO_11 := n1_; have HO609 := n2_; have HB := n3_; clear n0_ n1_ n2_ n3_; (q_x hb ho50); have p48 : 0 ≤ (x70_4 : Int) := of_decide_eq_true q_as; have q48 : (x70_4 : Int) < ((x11_4.length : Int) : Int) := of_decide_eq_true q_as; obtain ⟨go48, co48, eo48, gb48, gl48, cl48, HG48⟩ := Kd.S_form HO_11.out (by omega); (first | cases eo48 | (injection eo48 with ea_ en_ ec_; (first | subst ea_ | (injection ea_ with ea_; subst ea_)); subst ec_; clear en_)); have GB48 := Aside0.mk gb48; have GG48 := Aside0.mk HG48; (q_x gb48 gl48 HG48); obtain ⟨_, ce48, hcl48, hM48, hcc48, hfr48, _, _⟩ := Kd.S_elem HO_11.out [] (x70_4 : Int) p48 q48; obtain ⟨ve48_0, rfl, ge48_0⟩ := hM48; have hx48_0 := hcc48 0 _ rfl; have hf48_0 := hfr48 0; (try simp only [show ((Kd.slice 3 (Kd.int .i64))).sz = 1 from rfl, Nat.mul_one, Nat.add_zero] at hx48_0); (try simp only [show ((Kd.slice 3 (Kd.int .i64))).sz = 1 from rfl, Nat.mul_one, Nat.add_zero] at hf48_0); (q_x hcl48 hcc48 hfr48 hM48); replace p48 := eq_true p48; replace q48 := eq_true q48; have HX51 := Aside0.mk (show Kd.S (Kd.slice 3 (Kd.int .i64)) 30 w49 w.heap.size (fun k_ => ((fun k_ => some k_ ≠ (.slice Ao13 x7_4.length co13 : Value).ownBlock)) k_ ∧ ¬ ((fun k_ => some k_ = (v608 : Value).ownBlock)) k_) (.slice (some ⟨go48, 0, none⟩) x11_4.length co48) x11_4 from (by q_ns; exact Kd.S_mono HO_11.out (fun k_ hk => ⟨hk.1, fun e_ => hk.2 e_⟩))); obtain ⟨oki51, ce51, hcl51, hM51, hcc51, hfr51, hoki51, hH51⟩ := Kd.S_elem HX51.out [] (x70_4 : Int) (of_decide_eq_true q_as) (by have h_ : (x70_4 : Int) < ((x11_4.length : Int) : Int) := of_decide_eq_true q_as; first | exact h_ | (have e_ := (Kd.S_reads' HO_11.out).1; omega) | simpa using h_); obtain ⟨ve51_0, rfl, ge51_0⟩ := hM51; have HP51 := Kd.S_seg hH51 (of_decide_eq_true q_as) (by have h_ : (x70_4 : Int) < ((x11_4.length : Int) : Int) := of_decide_eq_true q_as; first | exact h_ | (have e_ := (Kd.S_reads' HO_11.out).1; omega) | simpa using h_) (seg := [v608]) (j := 0) (show 1 ≤ 1 from by decide) (x' := y607) (Kd.M_row (Kd.R_mono (Kd.R_tight rfl (Kd.R_mono (ok' := fun k_ => ((fun k_ => some k_ ≠ (.slice Ao13 x7_4.length co13 : Value).ownBlock)) k_ ∧ k_ ≠ go48) (Kd.R_apart' (HO609.out) (Kd.S_typed HO_11.out) (by decide)) (fun k_ hk => ⟨hk.1.2, fun e_ => (hk.2) (by rw [e_]; rfl)⟩))) (fun _ h_ => Or.inr (h_)))) (fun _ hk => hk) (fun k_ hk_ => ((Kd.R_mono (ok' := fun k_ => ((fun k_ => some k_ ≠ (.slice Ao13 x7_4.length co13 : Value).ownBlock)) k_ ∧ k_ ≠ go48) (Kd.R_apart' (HO609.out) (Kd.S_typed HO_11.out) (by decide)) (fun k_ hk => ⟨hk.1.2, fun e_ => (hk.2) (by rw [e_]; rfl)⟩))).1 k_ hk_.symm); have hx51_0 := hcc51 0 _ rfl; (try simp only [show ((Kd.slice 3 (Kd.int .i64))).sz = 1 from rfl, Nat.mul_one, Nat.add_zero] at hx51_0); have hf51_0 := hfr51 0; (try simp only [show ((Kd.slice 3 (Kd.int .i64))).sz = 1 from rfl, Nat.mul_one, Nat.add_zero] at hf51_0); (q_x hcl51 hcc51 hfr51 hM51 hoki51 hH51); (try simp only [show ((Kd.slice 3 (Kd.int .i64))).sz = 1 from rfl, Nat.mul_one, Nat.add_zero] at HP51)) | ((with_reducible refine gate_store (t := 30) (p := 80) rfl ?_); refine store_event (t := 30) (p := 80) (v := ?vo_w52) (w1 := (w49.setCell ⟨go48, (x70_4 : Int).toNat, none⟩ (v608))) ?hg ?ho ?hn ?hr ?_; (case ho => rfl); (case hg => rfl); (case hn => rfl); (case hr => first | (go_simp; done) | (go_simp; rfl) | (obtain ⟨A_, c_, e_⟩ := Kd.R_slice HO609.out; subst e_; first | (go_simp; done) | (go_simp; rfl)) | (obtain ⟨A_, c_, e_⟩ := Kd.S_slice HO609.out; subst e_; first | (go_simp; done) | (go_simp; rfl)) | (obtain ⟨A_, c_, e_⟩ := Kd.N_slice HO609.out; subst e_; first | (go_simp; done) | (go_simp; rfl))); intro w52 hw; have hg : w49.grownBy w52 (some go48) := (by rw [hw]; exact HP51.2); have hp_ : Kd.S (Kd.slice 3 (Kd.int .i64)) 30 w52 w.heap.size (fun k_ => some k_ ≠ (.slice Ao13 x7_4.length co13 : Value).ownBlock) (.slice (some ⟨go48, 0, none⟩) x11_4.length co48) y610 := (by rw [hw, Ny610.out]; exact HP51.1); clear HP51; have n0_ := Aside0.mk (Kd.R_over' (v := (.slice (some ⟨go48, 0, none⟩) x11_4.length co48)) (by q_nr; exact HO_7.out) (Kd.S_typed HO_11.out) (by decide) hg); have n1_ := Aside0.mk (hp_); have n2_ := Aside0.mk ((by rw [hw]; exact below_set (HB.out) GB48.out : Below w.heap.size w w52)); clear HO_7; clear HO_11; clear HB; clear HO609; have HO_7 := n0_; have HO_11 := n1_; have HB := n2_; clear n0_ n1_ n2_; (q_x hg hw); (try clear hp_)))
                       go_loopg [83] k4 (fun kq v83 w' => ∃ (x7_5 : List Int) (x11_5 : List (List Int)) (x83_5 : Int), v83 = .int .i64 x83_5 ∧ Aside0 (mult_Sub.l3 kq l0 l1 x7_5 x11_5 x70_4 (rd l1 x70_4) l1 (l1.length : Int) x70_4 l1 (l1.length : Int) x83_5 = some (r1, r2)) ∧ Aside0 (kq ≤ k4) ∧ Aside0 (Kd.R (Kd.int .i64) 3 w' w.heap.size (fun _ => True) (.slice Ao13 x7_4.length co13) x7_5) ∧ Aside0 (Kd.S (Kd.slice 3 (Kd.int .i64)) 30 w' w.heap.size (fun k_ => some k_ ≠ ((.slice Ao13 x7_4.length co13) : Value).ownBlock) (.slice (some ⟨go48, 0, none⟩) x11_4.length co48) x11_5) ∧ Aside0 (Below w.heap.size w w'))
                       case atStart => exact ⟨(x7_4), (y610), (0), q_rs, H', ⟨Nat.le_refl _⟩, ⟨by (try simp only [hl7_2]); (try simp only [hl7_3]); (try simp only [hl7_4]); q_nr; exact Kd.R_mono HO_7.out (fun _ hk => trivial)⟩, ⟨by (try simp only [hl7_2]); (try simp only [hl7_3]); (try simp only [hl7_4]); q_ns; exact HO_11.out⟩, ⟨by repeat (first | (with_reducible first | exact HB.out | apply below_alloc | apply pw_below_drewN | apply below_drew1) | exact HB.out)⟩⟩
                       case round =>
                        clear H'
                        q_x c1 p1 q1 hx1 c2 p2 c3 p3 q3 hx3 hf3 c4 c4b0 c4b1 p4 q4 hx4 hf4 c5 p5 q5 hx5 hf5 c6 c6b0 c6b1 c6b2 p6 q6 hx6 c8 c9 c9b0 c9b1 c10 c10b0 c10b1 c14 c14b0 c15 c15b0 c16 c16b0 p17 q17 hx17 hf17 c19 c20 c20b0 c21 c21b0 c22 c22b0 c23 c23b0 c25 c25b0 c26 c26b0 c27 c27b0 c28 c28b0 c29 c29b0 p30 q30 hx30 hf30 c33 c33b0 c34 c34b0 p35 q35 hx35 hf35 c38 c38b0 c38b1 c39 c39b0 c39b1 c42 c42b0 c43 c43b0 c44 c44b0 c45 c45b0 c45b1 c46 c46b0 c46b1 c47 c47b0 c48 p48 q48 hx48 hf48 c51 hx51 hf51 c52 hx17_0 hx30_0 hx35_0 hx48_0 hx51_0 hx599_0 hx600_0 hx606_0 p1 p17 p2 p3 p30 p35 p48 p5 p599 p6 p600 p606 q1 q17 q3 q30 q35 q48 q5 q599 q6 q600 q606
                        obtain ⟨x7_5, x11_5, x83_5, rfl, HA, HK5, HO_7, HO_11, HB⟩ := hrel
                        have hl7_5 := (Kd.R_reads' HO_7.out).1
                        rw [hl7_5] at HO_7
                        (try simp only [hl7_5])
                        (try simp only [hl7_5] at HO_11)
                        have hl11_5 := (Kd.S_reads' HO_11.out).1
                        rw [hl11_5] at HO_11
                        (try simp only [hl11_5])
                        (try simp only [hl11_5] at HO_7)
                        cases gk with
                        | zero => exact absurd HA.out (by simp [mult_Sub.l3])
                        | succ k5 =>
                         have H := HA.out
                         clear HA
                         simp only [mult_Sub.l3] at H
                         by_cases c53 : x83_5 < (l1.length : Int)
                         ·rw [if_pos c53] at H
                          have c53b0 : decide (x83_5 < (l1.length : Int)) = true := decide_eq_true c53
                          (try (have c53b0z := c53b0; simp only [hl7_2, hl7_3, hl7_4, hl7_5, hl11_5] at c53b0z))
                          clear c53
                          by_cases c54 : 0 ≤ x83_5
                          ·rw [if_pos c54] at H
                           have c54b0 : decide (0 ≤ x83_5) = true := decide_eq_true c54
                           clear c54
                           by_cases c55 : x83_5 < (l1.length : Int)
                           ·rw [if_pos c55] at H
                            have c55b0 : decide (x83_5 < (l1.length : Int)) = true := decide_eq_true c55
                            (try (have c55b0z := c55b0; simp only [hl7_2, hl7_3, hl7_4, hl7_5, hl11_5] at c55b0z))
                            clear c55
                            by_cases c56 : 0 ≤ (rd l1 x70_4)
                            ·rw [if_pos c56] at H
                             have c56b0 : decide (0 ≤ (rd l1 x70_4)) = true := decide_eq_true c56
                             clear c56
                             by_cases c57 : (rd l1 x70_4) < (l0.length : Int)
                             ·rw [if_pos c57] at H
                              have c57b0 : decide ((rd l1 x70_4) < (l0.length : Int)) = true := decide_eq_true c57
                              (try (have c57b0z := c57b0; simp only [hl7_2, hl7_3, hl7_4, hl7_5, hl11_5] at c57b0z))
                              clear c57
                              by_cases c58 : 0 ≤ (rd l1 x83_5)
                              ·rw [if_pos c58] at H
                               have c58b0 : decide (0 ≤ (rd l1 x83_5)) = true := decide_eq_true c58
                               clear c58
                               by_cases c59 : (rd l1 x83_5) < ((rd_L1 l0 (rd l1 x70_4)).length : Int)
                               ·rw [if_pos c59] at H
                                have c59b0 : decide ((rd l1 x83_5) < ((rd_L1 l0 (rd l1 x70_4)).length : Int)) = true := decide_eq_true c59
                                (try (have c59b0z := c59b0; simp only [hl7_2, hl7_3, hl7_4, hl7_5, hl11_5] at c59b0z))
                                clear c59
                                by_cases c60 : 0 ≤ (rd (rd_L1 l0 (rd l1 x70_4)) (rd l1 x83_5))
                                ·rw [if_pos c60] at H
                                 have c60b0 : decide (0 ≤ (rd (rd_L1 l0 (rd l1 x70_4)) (rd l1 x83_5))) = true := decide_eq_true c60
                                 clear c60
                                 by_cases c61 : (rd (rd_L1 l0 (rd l1 x70_4)) (rd l1 x83_5)) < (x7_5.length : Int)
                                 ·rw [if_pos c61] at H
                                  have c61b0 : decide ((rd (rd_L1 l0 (rd l1 x70_4)) (rd l1 x83_5)) < (x7_5.length : Int)) = true := decide_eq_true c61
                                  (try (have c61b0z := c61b0; simp only [hl7_2, hl7_3, hl7_4, hl7_5, hl11_5] at c61b0z))
                                  clear c61
                                  by_cases c62 : (rd x7_5 (rd (rd_L1 l0 (rd l1 x70_4)) (rd l1 x83_5))) < 0
                                  ·rw [if_pos c62] at H
                                   have c62b0 : decide ((rd x7_5 (rd (rd_L1 l0 (rd l1 x70_4)) (rd l1 x83_5))) < 0) = true := decide_eq_true c62
                                   clear c62
                                   simp only [Option.some.injEq, Prod.mk.injEq] at H
                                   obtain ⟨rfl, rfl⟩ := H
                                   have p611 : 0 ≤ (x83_5 : Int) := of_decide_eq_true q_as
                                   have q611 : x83_5 < (l1.length : Int) := of_decide_eq_true q_as
                                   obtain ⟨ad611, e611, hx611_0⟩ := Kd.at_int HR1.out x83_5 p611 q611
                                   obtain rfl : ad606 = ad611 := (by injection e611)
                                   replace hx611_0 := (HB.out.cell (World.block_lt_of_cell? w _ hx611_0)).trans hx611_0
                                   q_t p611 q611
                                   have p612 : 0 ≤ ((rd l1 x70_4) : Int) := of_decide_eq_true q_as
                                   have q612 : (rd l1 x70_4) < (l0.length : Int) := of_decide_eq_true q_as
                                   obtain ⟨ad612, A612_0, c612_0, e612, hx612_0, hl612_0, hi612_0⟩ := at_L1 HR0.out (rd l1 x70_4) p612 q612
                                   cases e612
                                   replace hx612_0 := (HB.out.cell (World.block_lt_of_cell? w _ hx612_0)).trans hx612_0
                                   have HR612_0 := Aside0.mk hi612_0
                                   have HC612_0 := Aside0.mk hl612_0
                                   (try clear hi612_0); (try clear hl612_0)
                                   q_t p612 q612
                                   have p613 : 0 ≤ ((rd l1 x83_5) : Int) := of_decide_eq_true q_as
                                   have q613 : (rd l1 x83_5) < ((rd_L1 l0 (rd l1 x70_4)).length : Int) := of_decide_eq_true q_as
                                   obtain ⟨ad613, e613, hx613_0⟩ := Kd.at_int HR612_0.out (rd l1 x83_5) p613 q613
                                   cases e613
                                   replace hx613_0 := (HB.out.cell (World.block_lt_of_cell? w _ hx613_0)).trans hx613_0
                                   q_t p613 q613
                                   have p614 : 0 ≤ ((rd (rd_L1 l0 (rd l1 x70_4)) (rd l1 x83_5)) : Int) := of_decide_eq_true q_as
                                   have q614 : (rd (rd_L1 l0 (rd l1 x70_4)) (rd l1 x83_5)) < (x7_5.length : Int) := of_decide_eq_true q_as
                                   obtain ⟨ad614, e614, hx614_0⟩ := Kd.at_int (Kd.R_reads' HO_7.out).2.2 (rd (rd_L1 l0 (rd l1 x70_4)) (rd l1 x83_5)) p614 q614
                                   cases e614
                                   q_t p614 q614
                                   go_wp2
                                   go_ret2
                                   exact ⟨_, by first | rfl | q_em | q_en, by first | exact Kd.S_nil _ _ _ _ _ | exact Kd.N_nil _ _ _ _ _ | exact Kd.V_nil _ _ _ _ _ | exact Kd.Q_nil _ _ _ _ _ | exact Kd.R_nil _ _ _ _ _, by repeat (first | (with_reducible first | exact HB.out | apply below_alloc | apply pw_below_drewN | apply below_drew1) | exact HB.out)⟩
                                  ·rw [if_neg c62] at H
                                   have c62b0 : decide ((rd x7_5 (rd (rd_L1 l0 (rd l1 x70_4)) (rd l1 x83_5))) < 0) = false := decide_eq_false c62
                                   clear c62
                                   by_cases c63 : 0 ≤ x70_4
                                   ·rw [if_pos c63] at H
                                    have c63b0 : decide (0 ≤ x70_4) = true := decide_eq_true c63
                                    clear c63
                                    by_cases c64 : x70_4 < (x11_5.length : Int)
                                    ·rw [if_pos c64] at H
                                     have c64b0 : decide (x70_4 < (x11_5.length : Int)) = true := decide_eq_true c64
                                     (try (have c64b0z := c64b0; simp only [hl7_2, hl7_3, hl7_4, hl7_5, hl11_5] at c64b0z))
                                     clear c64
                                     by_cases c65 : x83_5 < ((rd_L1 x11_5 x70_4).length : Int)
                                     ·rw [if_pos c65] at H
                                      have c65b0 : decide (x83_5 < ((rd_L1 x11_5 x70_4).length : Int)) = true := decide_eq_true c65
                                      (try (have c65b0z := c65b0; simp only [hl7_2, hl7_3, hl7_4, hl7_5, hl11_5] at c65b0z))
                                      clear c65
                                      obtain ⟨y619, hy619⟩ : ∃ y_ : List Int, y_ = ((rd_L1 x11_5 x70_4).set (x83_5 : Int).toNat (rd x7_5 (rd (rd_L1 l0 (rd l1 x70_4)) (rd l1 x83_5)))) := ⟨_, rfl⟩
                                      replace H : (mult_Sub.l3 k5 l0 l1 x7_5 (x11_5.set (x70_4 : Int).toNat y619) x70_4 (rd l1 x70_4) l1 (l1.length : Int) x70_4 l1 (l1.length : Int) (wrap64 (x83_5 + 1))) = some (r1, r2) := by first | (rw [hy619]; with_reducible exact H) | (have H2_ := (Option.bind_some _ _).symm.trans H; rw [hy619]; with_reducible exact H2_) | (have H2_ := (Option.bind_some _ _).symm.trans H; with_reducible exact H2_) | with_reducible exact H | (rw [hy619]; exact H) | exact H
                                      have Ny619 := Aside0.mk hy619
                                      clear hy619
                                      obtain ⟨y621, hy621⟩ : ∃ y_ : List (List Int), y_ = (x11_5.set (x70_4 : Int).toNat y619) := ⟨_, rfl⟩
                                      replace H : (mult_Sub.l3 k5 l0 l1 x7_5 y621 x70_4 (rd l1 x70_4) l1 (l1.length : Int) x70_4 l1 (l1.length : Int) (wrap64 (x83_5 + 1))) = some (r1, r2) := by first | (rw [hy621]; with_reducible exact H) | (have H2_ := (Option.bind_some _ _).symm.trans H; rw [hy621]; with_reducible exact H2_) | (have H2_ := (Option.bind_some _ _).symm.trans H; with_reducible exact H2_) | with_reducible exact H | (rw [hy621]; exact H) | exact H
                                      have Ny621 := Aside0.mk hy621
                                      clear hy621
                                      have H' := Aside0.mk H
                                      clear H
                                      have p611 : 0 ≤ (x83_5 : Int) := of_decide_eq_true q_as
                                      have q611 : x83_5 < (l1.length : Int) := of_decide_eq_true q_as
                                      obtain ⟨ad611, e611, hx611_0⟩ := Kd.at_int HR1.out x83_5 p611 q611
                                      obtain rfl : ad606 = ad611 := (by injection e611)
                                      replace hx611_0 := (HB.out.cell (World.block_lt_of_cell? w _ hx611_0)).trans hx611_0
                                      q_t p611 q611
                                      have p612 : 0 ≤ ((rd l1 x70_4) : Int) := of_decide_eq_true q_as
                                      have q612 : (rd l1 x70_4) < (l0.length : Int) := of_decide_eq_true q_as
                                      obtain ⟨ad612, A612_0, c612_0, e612, hx612_0, hl612_0, hi612_0⟩ := at_L1 HR0.out (rd l1 x70_4) p612 q612
                                      cases e612
                                      replace hx612_0 := (HB.out.cell (World.block_lt_of_cell? w _ hx612_0)).trans hx612_0
                                      have HR612_0 := Aside0.mk hi612_0
                                      have HC612_0 := Aside0.mk hl612_0
                                      (try clear hi612_0); (try clear hl612_0)
                                      q_t p612 q612
                                      have p613 : 0 ≤ ((rd l1 x83_5) : Int) := of_decide_eq_true q_as
                                      have q613 : (rd l1 x83_5) < ((rd_L1 l0 (rd l1 x70_4)).length : Int) := of_decide_eq_true q_as
                                      obtain ⟨ad613, e613, hx613_0⟩ := Kd.at_int HR612_0.out (rd l1 x83_5) p613 q613
                                      cases e613
                                      replace hx613_0 := (HB.out.cell (World.block_lt_of_cell? w _ hx613_0)).trans hx613_0
                                      q_t p613 q613
                                      have p614 : 0 ≤ ((rd (rd_L1 l0 (rd l1 x70_4)) (rd l1 x83_5)) : Int) := of_decide_eq_true q_as
                                      have q614 : (rd (rd_L1 l0 (rd l1 x70_4)) (rd l1 x83_5)) < (x7_5.length : Int) := of_decide_eq_true q_as
                                      obtain ⟨ad614, e614, hx614_0⟩ := Kd.at_int (Kd.R_reads' HO_7.out).2.2 (rd (rd_L1 l0 (rd l1 x70_4)) (rd l1 x83_5)) p614 q614
                                      cases e614
                                      q_t p614 q614
                                      try go_wp2
                                      have n0_ := Aside0.mk (Kd.R_drew HO_7.out)
                                      have n1_ := Aside0.mk (Kd.S_drew HO_11.out)
                                      have n2_ := Aside0.mk (below_drew1 HB.out)
                                      clear HB HO_11 HO_7
                                      have HO_7 := n0_
                                      have HO_11 := n1_
                                      have HB := n2_
                                      clear n0_ n1_ n2_
                                      have p615 : 0 ≤ (x70_4 : Int) := of_decide_eq_true q_as
                                      have q615 : x70_4 < (x11_5.length : Int) := of_decide_eq_true q_as
                                      obtain ⟨ad615, A615_0, c615_0, e615, hx615_0, hl615_0, hi615_0⟩ := at_L1 (Kd.S_reads' HO_11.out).2.2 x70_4 p615 q615
                                      obtain rfl : (⟨go48, 0, none⟩ : Addr) = ad615 := (by injection e615)
                                      obtain ⟨ce615, hce615, hMe615, hcc615⟩ := Kd.S_get HO_11.out [] x70_4 p615 (by first | exact q615 | exact of_decide_eq_true q_as | (have e_ := (Kd.S_reads' HO_11.out).1; omega))
                                      obtain ⟨ve615_0, rfl, ge615_0⟩ := hMe615
                                      have hv615_0 := hcc615 0 _ rfl
                                      rw [Nat.add_zero, show ((Kd.slice 3 (Kd.int .i64))).sz = 1 from rfl, Nat.mul_one] at hv615_0
                                      replace hv615_0 := Option.some.inj (hv615_0.symm.trans hx615_0)
                                      rw [hv615_0] at ge615_0
                                      have HL615_0 := Aside0.mk (show Kd.R (Kd.int .i64) 3 _ _ _ _ (rd_L1 x11_5 x70_4) from ge615_0)
                                      (try clear hv615_0); (try clear ge615_0)
                                      have HX615_0 := Aside0.mk hx615_0
                                      (try clear hcc615); (try clear hce615)
                                      (first | simp only [add_plain] at hx615_0 | simp only [add_at] at hx615_0 | simp only [Addr.add, Nat.zero_add] at hx615_0 | skip)
                                      have HR615_0 := Aside0.mk hi615_0
                                      have HC615_0 := Aside0.mk hl615_0
                                      (try clear hi615_0); (try clear hl615_0)
                                      q_t p615 q615
                                      have p616 : 0 ≤ ((rd l1 x70_4) : Int) := of_decide_eq_true q_as
                                      have q616 : (rd l1 x70_4) < (l0.length : Int) := of_decide_eq_true q_as
                                      obtain ⟨ad616, A616_0, c616_0, e616, hx616_0, hl616_0, hi616_0⟩ := at_L1 HR0.out (rd l1 x70_4) p616 q616
                                      have hw616_0 := hx616_0
                                      obtain rfl : ad612 = ad616 := (by injection e616)
                                      replace hx616_0 := (HB.out.cell (World.block_lt_of_cell? w _ hx616_0)).trans hx616_0
                                      have HR616_0 := Aside0.mk hi616_0
                                      have HC616_0 := Aside0.mk hl616_0
                                      (try clear hi616_0); (try clear hl616_0)
                                      q_t p616 q616
                                      have p617 : 0 ≤ ((rd l1 x83_5) : Int) := of_decide_eq_true q_as
                                      have q617 : (rd l1 x83_5) < ((rd_L1 l0 (rd l1 x70_4)).length : Int) := of_decide_eq_true q_as
                                      obtain ⟨ad617, e617, hx617_0⟩ := Kd.at_int HR616_0.out (rd l1 x83_5) p617 q617
                                      have hw617_0 := hx617_0
                                      cases e617
                                      replace hx617_0 := (HB.out.cell (World.block_lt_of_cell? w _ hx617_0)).trans hx617_0
                                      q_t p617 q617
                                      have p618 : 0 ≤ ((rd (rd_L1 l0 (rd l1 x70_4)) (rd l1 x83_5)) : Int) := of_decide_eq_true q_as
                                      have q618 : (rd (rd_L1 l0 (rd l1 x70_4)) (rd l1 x83_5)) < (x7_5.length : Int) := of_decide_eq_true q_as
                                      obtain ⟨ad618, e618, hx618_0⟩ := Kd.at_int (Kd.R_reads' HO_7.out).2.2 (rd (rd_L1 l0 (rd l1 x70_4)) (rd l1 x83_5)) p618 q618
                                      obtain rfl : ad614 = ad618 := (by injection e618)
                                      q_t p618 q618
                                      have p66 : 0 ≤ (x83_5 : Int) := of_decide_eq_true q_as
                                      have q66 : (x83_5 : Int) < (((rd_L1 x11_5 x70_4).length : Int) : Int) := of_decide_eq_true q_as
                                      obtain ⟨go66, co66, eo66, gb66, gl66, cl66, HG66⟩ := Kd.R_form HL615_0.out (by omega)
                                      (first | cases eo66 | (injection eo66 with ea_ en_ ec_; (first | subst ea_ | (injection ea_ with ea_; subst ea_)); subst ec_; clear en_))
                                      have GB66 := Aside0.mk gb66
                                      have GG66 := Aside0.mk HG66
                                      (q_x gb66 gl66); (try clear HG66)
                                      obtain ⟨hx66_0, hf66_0⟩ := Kd.R_celln 0 HL615_0.out (x83_5 : Int) p66 q66
                                      q_t p66 q66
                                      have hq68 : (x70_4 : Int) < (x11_5.length : Int) := (by have h_ : (x70_4 : Int) < ((x11_5.length : Int) : Int) := of_decide_eq_true q_as; first | exact h_ | (have e_ := (Kd.S_reads' HO_11.out).1; omega) | simpa only [List.length_set, List.length_set] using h_)
                                      obtain ⟨oki68, ce68, hcl68, hM68, hcc68, hok68, hbk68⟩ := Kd.S_borrow HO_11.out [] (x70_4 : Int) (of_decide_eq_true q_as) (by first | exact hq68 | (have e_ := (Kd.S_reads' HO_11.out).1; omega))
                                      obtain ⟨ve68_0, rfl, ge68_0⟩ := hM68
                                      have hv68 := hcc68 0 _ rfl
                                      rw [Nat.add_zero, show ((Kd.slice 3 (Kd.int .i64))).sz = 1 from rfl, Nat.mul_one] at hv68
                                      replace hv68 := Option.some.inj (hv68.symm.trans HX615_0.out)
                                      subst hv68
                                      (try clear hcc68); (try clear hcl68)
                                      replace ge68_0 := (show Kd.R (Kd.int .i64) 3 _ _ _ _ (rd_L1 x11_5 x70_4) from ge68_0)
                                      have HP68 := Kd.R_putg ge68_0 (x83_5 : Int) (rd x7_5 (rd (rd_L1 l0 (rd l1 x70_4)) (rd l1 x83_5)))
                                      rw [← Ny619.out] at HP68
                                      have HS68 := hbk68 HP68.2 (fun k_ e_ => by injection e_ with e_; subst e_; exact ge68_0.1 _ rfl) (x' := y619) (Kd.M_row HP68.1)
                                      rw [← Ny621.out] at HS68
                                      have HQ68 := Aside0.mk HS68
                                      (q_x HP68 HS68 hbk68); (try clear hok68)
                                      refine start_ (n := 17) (S := fun w' => w'.cell? ⟨go48, (x70_4).toNat, none⟩ = some (.slice (some ⟨go66, 0, none⟩) (rd_L1 x11_5 x70_4).length c615_0) ∧ w'.cell? (ad612.add ((rd l1 x70_4)).toNat) = some (.slice (some ad617) (rd_L1 l0 (rd l1 x70_4)).length c616_0) ∧ w'.cell? (ad617.add ((rd l1 x83_5)).toNat) = some (.int .i64 (rd (rd_L1 l0 (rd l1 x70_4)) (rd l1 x83_5))) ∧ w'.cell? (ad614.add ((rd (rd_L1 l0 (rd l1 x70_4)) (rd l1 x83_5))).toNat) = some (.int .i64 (rd x7_5 (rd (rd_L1 l0 (rd l1 x70_4)) (rd l1 x83_5))))) (ds := [16]) #[false, false, false, false, false, false, false, false, false, false, false, false, false, false, false, false, false] (by kernel_rfl) rfl rfl ⟨hx615_0, ((HB.out.cell (World.block_lt_of_cell? w _ hw616_0)).trans hw616_0), ((HB.out.cell (World.block_lt_of_cell? w _ hw617_0)).trans hw617_0), hx618_0⟩ (fun hHeld => ?_); refine with_tabW mult_Sub.tab29 mult_Sub.bits29 (fun HT_ HW_ => ?_)
                                      generalize wr.drew = w67 at HO_7 HO_11 HB GG66 HL615_0 HQ68 HR615_0 HR616_0 HX615_0 hf66_0 hx615_0 hx616_0 hx617_0 hx618_0 hx66_0 hHeld ⊢
                                      refine pure_ (i := 0) (N := some 99) (v := ?_) (a' := ?_) #[true, false, false, false, false, false, false, false, false, false, false, false, false, false, false, false, false] rfl rfl q_ho q_id (Or.inl ⟨by rfl, ?_⟩) ?_ ?_
                                      rotate_left
                                      ·intro w'
                                       go_simp
                                       with_reducible rfl
                                      rotate_left
                                      ·q_si
                                       rfl
                                      refine pure_ (i := 1) (N := some 100) (v := ?_) (a' := ?_) #[true, true, false, false, false, false, false, false, false, false, false, false, false, false, false, false, false] rfl rfl q_ho q_id (Or.inl ⟨by rfl, ?_⟩) ?_ ?_
                                      rotate_left
                                      ·intro w'
                                       go_simp
                                       with_reducible rfl
                                      rotate_left
                                      ·q_si
                                       rfl
                                      refine pure_ (i := 2) (N := some 101) (v := ?_) (a' := ?_) #[true, true, true, false, false, false, false, false, false, false, false, false, false, false, false, false, false] rfl rfl q_ho q_id (Or.inl ⟨by rfl, ?_⟩) ?_ ?_
                                      rotate_left
                                      ·intro w'
                                       go_simp
                                       with_reducible rfl
                                      rotate_left
                                      ·q_si
                                       rfl
                                      refine pure_ (i := 4) (N := some 103) (v := ?_) (a' := ?_) #[true, true, true, false, true, false, false, false, false, false, false, false, false, false, false, false, false] rfl rfl q_ho q_id (Or.inl ⟨by rfl, ?_⟩) ?_ ?_
                                      rotate_left
                                      ·intro w'
                                       go_simp
                                       with_reducible rfl
                                      rotate_left
                                      ·q_si
                                       rfl
                                      refine pure_ (i := 5) (N := some 104) (v := ?_) (a' := ?_) #[true, true, true, false, true, true, false, false, false, false, false, false, false, false, false, false, false] rfl rfl q_ho q_id (Or.inl ⟨by rfl, ?_⟩) ?_ ?_
                                      rotate_left
                                      ·intro w'
                                       go_simp
                                       with_reducible rfl
                                      rotate_left
                                      ·q_si
                                       rfl
                                      refine pure_ (i := 6) (N := some 105) (v := ?_) (a' := ?_) #[true, true, true, false, true, true, true, false, false, false, false, false, false, false, false, false, false] rfl rfl q_ho q_id (Or.inl ⟨by rfl, ?_⟩) ?_ ?_
                                      rotate_left
                                      ·intro w'
                                       go_simp
                                       with_reducible rfl
                                      rotate_left
                                      ·q_si
                                       rfl
                                      refine pure_ (i := 7) (N := some 106) (v := ?_) (a' := ?_) #[true, true, true, false, true, true, true, true, false, false, false, false, false, false, false, false, false] rfl rfl q_ho q_id (Or.inl ⟨by rfl, ?_⟩) ?_ ?_
                                      rotate_left
                                      ·intro w'
                                       go_simp
                                       with_reducible rfl
                                      rotate_left
                                      ·q_si
                                       rfl
                                      refine pure_ (i := 8) (N := some 107) (v := ?_) (a' := ?_) #[true, true, true, false, true, true, true, true, true, false, false, false, false, false, false, false, false] rfl rfl q_ho q_id (Or.inl ⟨by rfl, ?_⟩) ?_ ?_
                                      rotate_left
                                      ·intro w'
                                       go_simp
                                       with_reducible rfl
                                      rotate_left
                                      ·q_si
                                       rfl
                                      refine pure_ (i := 10) (N := some 109) (v := ?_) (a' := ?_) #[true, true, true, false, true, true, true, true, true, false, true, false, false, false, false, false, false] rfl rfl q_ho q_id (Or.inl ⟨by rfl, ?_⟩) ?_ ?_
                                      rotate_left
                                      ·intro w'
                                       go_simp
                                       with_reducible rfl
                                      rotate_left
                                      ·q_si
                                       rfl
                                      refine take_ (i := 3) (N := some 102) (v := ?_) (a' := ?_) #[true, true, true, true, true, true, true, true, true, false, true, false, false, false, false, false, false] rfl rfl q_to q_id (Or.inl ⟨by rfl, ?_⟩) hHeld ?_ ?_
                                      rotate_left
                                      ·rintro w' ⟨s0, s1, s2, s3⟩
                                       go_simp
                                       with_reducible rfl
                                      rotate_left
                                      ·q_si
                                       rfl
                                      refine take_ (i := 9) (N := some 108) (v := ?_) (a' := ?_) #[true, true, true, true, true, true, true, true, true, true, true, false, false, false, false, false, false] rfl rfl q_to q_id (Or.inl ⟨by rfl, ?_⟩) hHeld ?_ ?_
                                      rotate_left
                                      ·rintro w' ⟨s0, s1, s2, s3⟩
                                       go_simp
                                       with_reducible rfl
                                      rotate_left
                                      ·q_si
                                       rfl
                                      refine pure_ (i := 11) (N := some 110) (v := ?_) (a' := ?_) #[true, true, true, true, true, true, true, true, true, true, true, true, false, false, false, false, false] rfl rfl q_ho q_id (Or.inl ⟨by rfl, ?_⟩) ?_ ?_
                                      rotate_left
                                      ·intro w'
                                       go_simp
                                       with_reducible rfl
                                      rotate_left
                                      ·q_si
                                       rfl
                                      refine take_ (i := 12) (N := some 111) (v := ?_) (a' := ?_) #[true, true, true, true, true, true, true, true, true, true, true, true, true, false, false, false, false] rfl rfl q_to q_id (Or.inl ⟨by rfl, ?_⟩) hHeld ?_ ?_
                                      rotate_left
                                      ·rintro w' ⟨s0, s1, s2, s3⟩
                                       go_simp
                                       with_reducible rfl
                                      rotate_left
                                      ·q_si
                                       rfl
                                      refine pure_ (i := 13) (N := some 112) (v := ?_) (a' := ?_) #[true, true, true, true, true, true, true, true, true, true, true, true, true, true, false, false, false] rfl rfl q_ho q_id (Or.inl ⟨by rfl, ?_⟩) ?_ ?_
                                      rotate_left
                                      ·intro w'
                                       go_simp
                                       with_reducible rfl
                                      rotate_left
                                      ·q_si
                                       rfl
                                      refine take_ (i := 14) (N := some 113) (v := ?_) (a' := ?_) #[true, true, true, true, true, true, true, true, true, true, true, true, true, true, true, false, false] rfl rfl q_to q_id (Or.inl ⟨by rfl, ?_⟩) hHeld ?_ ?_
                                      rotate_left
                                      ·rintro w' ⟨s0, s1, s2, s3⟩
                                       go_simp
                                       with_reducible rfl
                                      rotate_left
                                      ·q_si
                                       rfl
                                      refine pure_ (i := 15) (N := some 114) (v := ?_) (a' := ?_) #[true, true, true, true, true, true, true, true, true, true, true, true, true, true, true, true, false] rfl rfl q_ho q_id (Or.inl ⟨by rfl, ?_⟩) ?_ ?_
                                      rotate_left
                                      ·intro w'
                                       go_simp
                                       with_reducible rfl
                                      rotate_left
                                      ·q_si
                                       rfl
                                      refine last_ (i := 16) (N := none) #[true, true, true, true, true, true, true, true, true, true, true, true, true, true, true, true, true] rfl rfl (one_of HT_.out (by kernel_rfl)) (by decide) (fun K hK => ?_)
                                      refine skip_ (w1 := ?_) (by rfl) rfl ?_ ?_
                                      rotate_left
                                      ·go_simp
                                       rfl
                                      refine hK.out _ _ ?_
                                      clear hK K
                                      refine done_ (done_of HT_.out (by kernel_rfl)) ?_
                                      try go_wp2
                                      (try simp only [← hl7_5, ← hl11_5])
                                      go_roundg k5
                                      case measure => have := HJ4.out; have := HK2.out; have := HK3.out; have := HK4.out; have := HK5.out; omega
                                      case rel => exact ⟨(x7_5), (y621), (wrap64 (x83_5 + 1)), q_rs, H', ⟨by have := HJ4.out; have := HK2.out; have := HK3.out; have := HK4.out; have := HK5.out; omega⟩, ⟨by (try simp only [hl7_2]); (try simp only [hl7_3]); (try simp only [hl7_4]); (try simp only [hl7_5]); (try simp only [hl11_5]); q_nr; exact Kd.R_mono (Kd.R_far (p := ⟨go66, (x83_5 : Int).toNat, none⟩) (Kd.R_far1 HO_7.out rfl ((HL615_0.out.1 _ rfl).1)) (fun _ hk => hk.2) (.int .i64 (rd x7_5 (rd (rd_L1 l0 (rd l1 x70_4)) (rd l1 x83_5))))) (fun _ hk => trivial)⟩, ⟨by (try simp only [hl7_2]); (try simp only [hl7_3]); (try simp only [hl7_4]); (try simp only [hl7_5]); (try simp only [hl11_5]); q_ns; exact HQ68.out⟩, ⟨by repeat (first | (with_reducible first | exact HB.out | apply below_alloc | apply pw_below_drewN | apply below_drew1 | refine below_set ?_ GB66.out) | exact HB.out)⟩⟩
                                     ·rw [if_neg c65] at H
                                      exact absurd H (by simp)
                                    ·rw [if_neg c64] at H
                                     exact absurd H (by simp)
                                   ·rw [if_neg c63] at H
                                    exact absurd H (by simp)
                                 ·rw [if_neg c61] at H
                                  exact absurd H (by simp)
                                ·rw [if_neg c60] at H
                                 exact absurd H (by simp)
                               ·rw [if_neg c59] at H
                                exact absurd H (by simp)
                              ·rw [if_neg c58] at H
                               exact absurd H (by simp)
                             ·rw [if_neg c57] at H
                              exact absurd H (by simp)
                            ·rw [if_neg c56] at H
                             exact absurd H (by simp)
                           ·rw [if_neg c55] at H
                            exact absurd H (by simp)
                          ·rw [if_neg c54] at H
                           exact absurd H (by simp)
                         ·rw [if_neg c53] at H
                          have c53b0 : decide (x83_5 < (l1.length : Int)) = false := decide_eq_false c53
                          (try (have c53b0z := c53b0; simp only [hl7_2, hl7_3, hl7_4, hl7_5, hl11_5] at c53b0z))
                          clear c53
                          have H' := Aside0.mk H
                          clear H
                          go_wp2
                          (try simp only [← hl7_4, ← hl7_5, ← hl11_5])
                          go_roundg k5
                          case measure => have := HJ4.out; have := HK2.out; have := HK3.out; have := HK4.out; have := HK5.out; omega
                          case rel => exact ⟨(x7_5), (x11_5), (wrap64 (x70_4 + 1)), q_rs, H', ⟨by have := HJ4.out; have := HK2.out; have := HK3.out; have := HK4.out; have := HK5.out; omega⟩, ⟨by (try simp only [hl7_2]); (try simp only [hl7_3]); (try simp only [hl7_4]); (try simp only [hl7_5]); (try simp only [hl11_5]); q_nr; exact HO_7.out⟩, ⟨by (try simp only [hl7_2]); (try simp only [hl7_3]); (try simp only [hl7_4]); (try simp only [hl7_5]); (try simp only [hl11_5]); q_ns; exact HO_11.out⟩, ⟨by repeat (first | (with_reducible first | exact HB.out | apply below_alloc | apply pw_below_drewN | apply below_drew1) | exact HB.out)⟩⟩
                      ·rw [if_neg c47] at H
                       exact absurd H (by simp)
                     ·rw [if_neg c46] at H
                      exact absurd H (by simp)
                    ·rw [if_neg c45] at H
                     exact absurd H (by simp)
                   ·rw [if_neg c44] at H
                    exact absurd H (by simp)
                  ·rw [if_neg c43] at H
                   exact absurd H (by simp)
                 ·rw [if_neg c42] at H
                  have c42b0 : decide (x70_4 < (l1.length : Int)) = false := decide_eq_false c42
                  (try (have c42b0z := c42b0; simp only [hl7_2, hl7_3, hl7_4] at c42b0z))
                  clear c42
                  simp only [Option.some.injEq, Prod.mk.injEq] at H
                  obtain ⟨rfl, rfl⟩ := H
                  go_wp2
                  go_ret2
                  exact ⟨_, by first | rfl | q_em | q_en, by q_ns; exact Kd.S_mono HO_11.out (fun _ hk => trivial), by repeat (first | (with_reducible first | exact HB.out | apply below_alloc | apply pw_below_drewN | apply below_drew1) | exact HB.out)⟩
              ·rw [if_neg c39] at H
               exact absurd H (by simp)
             ·rw [if_neg c38] at H
              exact absurd H (by simp)
      ·rw [if_neg c10] at H
       exact absurd H (by simp)
     ·rw [if_neg c9] at H
      exact absurd H (by simp)
 ·rw [if_neg c4] at H
  have c4b0 : (t593 == 0) = false := beq_eq_false_iff_ne.mpr c4
  have c4b1 : (t593 != 0) = true := bne_iff_ne.mpr c4
  simp only [Option.some.injEq, Prod.mk.injEq] at H
  obtain ⟨rfl, rfl⟩ := H
  go_enter Try.func52, Try.ntmps52
  go_wp2_with (first | ((with_reducible refine gate_callee (f := 19) rfl ?_); refine goesL_ (some 17) rfl rfl Try.func19 (by kernel_rfl) rfl #[.slice A0 l0.length c0] rfl q_ml ?_; (with_reducible refine (mult_Validate.calls k _ _ l0 t593 _ ?side1 ?side2 A3.out).mono ?_); (case side1 => q_cc HR0.out); (case side2 => exact HC0.out); rintro e w' ⟨rfl, ⟨nd, rfl⟩⟩; refine ⟨_, rfl, ?_⟩))
  go_ret2
  exact ⟨_, by first | rfl | q_em | q_en, by first | exact Kd.S_nil _ _ _ _ _ | exact Kd.N_nil _ _ _ _ _ | exact Kd.V_nil _ _ _ _ _ | exact Kd.Q_nil _ _ _ _ _ | exact Kd.R_nil _ _ _ _ _, by repeat (first | (with_reducible first | exact HB.out | apply below_alloc | apply pw_below_drewN | apply below_drew1) | exact HB.out)⟩

/-! ### semigroupref14_Ascending: function 75 -/
def semigroupref14_Ascending.l0 : Nat → List (List Int) → List Int → List Int → Int → Int → Option (Bool)
 | 0, _, _, _, _, _ => none
 | k + 1, x0, x1, x7, x8, x9 => if x9 < x8 then (if 0 ≤ x9 then (if x9 < (x7.length : Int) then (if (rd x7 x9) < 0 then (some false) else (if (rd x7 x9) ≥ (x0.length : Int) then (some false) else (if x9 > 0 then (if 0 ≤ (wrap64 (x9 - 1)) then (if (wrap64 (x9 - 1)) < (x1.length : Int) then (if (rd x1 (wrap64 (x9 - 1))) ≥ (rd x7 x9) then (some false) else (semigroupref14_Ascending.l0 k x0 x1 x7 x8 (wrap64 (x9 + 1)))) else (none)) else (none)) else (semigroupref14_Ascending.l0 k x0 x1 x7 x8 (wrap64 (x9 + 1)))))) else (none)) else (none)) else (some (decide ((x1.length : Int) > 0)))
def semigroupref14_Ascending.f (k : Nat) (l0 : List (List Int)) (l1 : List Int) : Option (Bool) := semigroupref14_Ascending.l0 k l0 l1 l1 (l1.length : Int) 0
theorem semigroupref14_Ascending.mono_l : ∀ k, (∀ y0 y1 y2 y3 y4, LeO (semigroupref14_Ascending.l0 k y0 y1 y2 y3 y4) (semigroupref14_Ascending.l0 (k + 1) y0 y1 y2 y3 y4))
 | 0 => fun _ _ _ _ _ r h => by simp [semigroupref14_Ascending.l0] at h
 | k + 1 => by
  have ih0 := semigroupref14_Ascending.mono_l k
  ·intro y0 y1 y2 y3 y4
   unfold semigroupref14_Ascending.l0
   repeat' first
   | (with_reducible exact ih0 _ _ _ _ _)
   | (with_reducible exact LeO.refl _)
   | (with_reducible exact LeO.none _)
   | (with_reducible refine LeO.ite ?_ ?_)
   | (with_reducible refine LeO.bind ?_ (fun _ => ?_))
   | exact ih0 _ _ _ _ _
   | exact LeO.none _
   | refine LeO.ite ?_ ?_
   | refine LeO.bind ?_ (fun _ => ?_)
theorem semigroupref14_Ascending.mono : ∀ a0 a1 k, LeO (semigroupref14_Ascending.f k a0 a1) (semigroupref14_Ascending.f (k + 1) a0 a1) := by
 intro a0 a1 k
 have ih0 := semigroupref14_Ascending.mono_l k
 unfold semigroupref14_Ascending.f
 repeat' first
   | (with_reducible exact ih0 _ _ _ _ _)
   | (with_reducible exact LeO.refl _)
   | (with_reducible exact LeO.none _)
   | (with_reducible refine LeO.ite ?_ ?_)
   | (with_reducible refine LeO.bind ?_ (fun _ => ?_))
   | exact ih0 _ _ _ _ _
   | exact LeO.none _
   | refine LeO.ite ?_ ?_
   | refine LeO.bind ?_ (fun _ => ?_)
set_option maxHeartbeats 8000000 in
set_option maxRecDepth 100000 in
theorem semigroupref14_Ascending.calls (k : Nat) (A0 : Option Addr) (c0 : Nat) (l0 : List (List Int)) (A1 : Option Addr) (c1 : Nat) (l1 : List Int) (r : Bool) (w : World) (hr0 : Kd.C (Kd.slice 3 (Kd.int .i64)) w A0 l0.length l0) (hc0 : l0.length ≤ c0) (hr1 : Kd.C (Kd.int .i64) w A1 l1.length l1) (hc1 : l1.length ≤ c1) (h : semigroupref14_Ascending.f k l0 l1 = some r) :
  Calls Try.prog 75 #[.slice A0 l0.length c0, .slice A1 l1.length c1] w fun e w' => e = .returned (.bool r) ∧ Drawn0 w w' := by
 have HR0 := Aside0.mk hr0
 have HC0 := Aside0.mk hc0
 (try clear hr0); (try clear hc0)
 have HR1 := Aside0.mk hr1
 have HC1 := Aside0.mk hc1
 (try clear hr1); (try clear hc1)
 have H : (semigroupref14_Ascending.l0 k l0 l1 l1 (l1.length : Int) 0) = some r := h
 clear h
 have H' := Aside0.mk H
 clear H
 go_enter Try.func75, Try.ntmps75
 go_wp2
 go_loopg [9] k (fun kq v9 w' => ∃ (x9_1 : Int), v9 = .int .i64 x9_1 ∧ Aside0 (semigroupref14_Ascending.l0 kq l0 l1 l1 (l1.length : Int) x9_1 = some r) ∧ Aside0 (kq ≤ k) ∧ Drawn0 w w')
 case atStart => exact ⟨(0), q_rs, H', ⟨Nat.le_refl _⟩, by repeat (first | exact Drawn0.refl _ | apply Drawn0.step)⟩
 case round =>
  clear H'
  q_x c1 p2
  obtain ⟨x9_1, rfl, HA, HK1, ⟨m1, rfl⟩⟩ := hrel
  cases gk with
  | zero => exact absurd HA.out (by simp [semigroupref14_Ascending.l0])
  | succ k1 =>
   have H := HA.out
   clear HA
   simp only [semigroupref14_Ascending.l0] at H
   by_cases c3 : x9_1 < (l1.length : Int)
   ·rw [if_pos c3] at H
    have c3b0 : decide (x9_1 < (l1.length : Int)) = true := decide_eq_true c3
    clear c3
    by_cases c4 : 0 ≤ x9_1
    ·rw [if_pos c4] at H
     have c4b0 : decide (0 ≤ x9_1) = true := decide_eq_true c4
     clear c4
     by_cases c5 : x9_1 < (l1.length : Int)
     ·rw [if_pos c5] at H
      have c5b0 : decide (x9_1 < (l1.length : Int)) = true := decide_eq_true c5
      clear c5
      by_cases c6 : (rd l1 x9_1) < 0
      ·rw [if_pos c6] at H
       have c6b0 : decide ((rd l1 x9_1) < 0) = true := decide_eq_true c6
       clear c6
       obtain rfl := Option.some.inj H
       have p622 : 0 ≤ (x9_1 : Int) := of_decide_eq_true q_as
       have q622 : x9_1 < (l1.length : Int) := of_decide_eq_true q_as
       obtain ⟨ad622, e622, hx622_0⟩ := Kd.at_int HR1.out x9_1 p622 q622
       cases e622
       q_t p622 q622
       go_wp2
       go_ret
       exact ⟨by first | rfl | (simp; done) | (simp [*]; done), by repeat (first | exact Drawn0.refl _ | apply Drawn0.step)⟩
      ·rw [if_neg c6] at H
       have c6b0 : decide ((rd l1 x9_1) < 0) = false := decide_eq_false c6
       clear c6
       by_cases c7 : (rd l1 x9_1) ≥ (l0.length : Int)
       ·rw [if_pos c7] at H
        have c7b0 : decide ((l0.length : Int) ≤ (rd l1 x9_1)) = true := decide_eq_true c7
        clear c7
        obtain rfl := Option.some.inj H
        have p622 : 0 ≤ (x9_1 : Int) := of_decide_eq_true q_as
        have q622 : x9_1 < (l1.length : Int) := of_decide_eq_true q_as
        obtain ⟨ad622, e622, hx622_0⟩ := Kd.at_int HR1.out x9_1 p622 q622
        cases e622
        q_t p622 q622
        go_wp2
        go_ret
        exact ⟨by first | rfl | (simp; done) | (simp [*]; done), by repeat (first | exact Drawn0.refl _ | apply Drawn0.step)⟩
       ·rw [if_neg c7] at H
        have c7b0 : decide ((l0.length : Int) ≤ (rd l1 x9_1)) = false := decide_eq_false c7
        clear c7
        by_cases c8 : x9_1 > 0
        ·rw [if_pos c8] at H
         have c8b0 : decide (0 < x9_1) = true := decide_eq_true c8
         clear c8
         obtain ⟨ji9, hji9⟩ : ∃ j_ : Int, (wrap64 (x9_1 - 1)) = j_ := ⟨_, rfl⟩
         replace H : (if 0 ≤ (ji9) then (if (ji9) < (l1.length : Int) then (if (rd l1 (ji9)) ≥ (rd l1 x9_1) then (some false) else (semigroupref14_Ascending.l0 k1 l0 l1 l1 (l1.length : Int) (wrap64 (x9_1 + 1)))) else (none)) else (none)) = some r := by first | (rw [hji9] at H; exact H) | (simp only [hji9] at H ⊢; exact H)
         have hji9w : (IntKind.i64.wrap (x9_1 - 1)) = ji9 := (i64_w _).trans hji9
         by_cases c10 : 0 ≤ (ji9)
         ·rw [if_pos c10] at H
          have c10b0 : decide (0 ≤ (ji9)) = true := decide_eq_true c10
          clear c10
          by_cases c11 : (ji9) < (l1.length : Int)
          ·rw [if_pos c11] at H
           have c11b0 : decide ((ji9) < (l1.length : Int)) = true := decide_eq_true c11
           clear c11
           by_cases c12 : (rd l1 (ji9)) ≥ (rd l1 x9_1)
           ·rw [if_pos c12] at H
            have c12b0 : decide ((rd l1 x9_1) ≤ (rd l1 (ji9))) = true := decide_eq_true c12
            clear c12
            obtain rfl := Option.some.inj H
            have p622 : 0 ≤ (x9_1 : Int) := of_decide_eq_true q_as
            have q622 : x9_1 < (l1.length : Int) := of_decide_eq_true q_as
            obtain ⟨ad622, e622, hx622_0⟩ := Kd.at_int HR1.out x9_1 p622 q622
            cases e622
            q_t p622 q622
            have p623 : 0 ≤ ((ji9) : Int) := of_decide_eq_true q_as
            have q623 : (ji9) < (l1.length : Int) := of_decide_eq_true q_as
            obtain ⟨ad623, e623, hx623_0⟩ := Kd.at_int HR1.out (ji9) p623 q623
            obtain rfl : ad622 = ad623 := (by injection e623)
            q_t p623 q623
            go_wp2
            go_ret
            exact ⟨by first | rfl | (simp; done) | (simp only [← hji9] <;> (first | rfl | simp)) | (simp [*]; done), by repeat (first | exact Drawn0.refl _ | apply Drawn0.step)⟩
           ·rw [if_neg c12] at H
            have c12b0 : decide ((rd l1 x9_1) ≤ (rd l1 (ji9))) = false := decide_eq_false c12
            clear c12
            have H' := Aside0.mk H
            clear H
            have p622 : 0 ≤ (x9_1 : Int) := of_decide_eq_true q_as
            have q622 : x9_1 < (l1.length : Int) := of_decide_eq_true q_as
            obtain ⟨ad622, e622, hx622_0⟩ := Kd.at_int HR1.out x9_1 p622 q622
            cases e622
            q_t p622 q622
            have p623 : 0 ≤ ((ji9) : Int) := of_decide_eq_true q_as
            have q623 : (ji9) < (l1.length : Int) := of_decide_eq_true q_as
            obtain ⟨ad623, e623, hx623_0⟩ := Kd.at_int HR1.out (ji9) p623 q623
            obtain rfl : ad622 = ad623 := (by injection e623)
            q_t p623 q623
            go_wp2
            go_roundg k1
            case measure => have := HK1.out; omega
            case rel => exact ⟨(wrap64 (x9_1 + 1)), q_rs, H', ⟨by have := HK1.out; omega⟩, by repeat (first | exact Drawn0.refl _ | apply Drawn0.step)⟩
          ·rw [if_neg c11] at H
           exact absurd H (by simp)
         ·rw [if_neg c10] at H
          exact absurd H (by simp)
        ·rw [if_neg c8] at H
         have c8b0 : decide (0 < x9_1) = false := decide_eq_false c8
         clear c8
         have H' := Aside0.mk H
         clear H
         have p622 : 0 ≤ (x9_1 : Int) := of_decide_eq_true q_as
         have q622 : x9_1 < (l1.length : Int) := of_decide_eq_true q_as
         obtain ⟨ad622, e622, hx622_0⟩ := Kd.at_int HR1.out x9_1 p622 q622
         cases e622
         q_t p622 q622
         go_wp2
         go_roundg k1
         case measure => have := HK1.out; omega
         case rel => exact ⟨(wrap64 (x9_1 + 1)), q_rs, H', ⟨by have := HK1.out; omega⟩, by repeat (first | exact Drawn0.refl _ | apply Drawn0.step)⟩
     ·rw [if_neg c5] at H
      exact absurd H (by simp)
    ·rw [if_neg c4] at H
     exact absurd H (by simp)
   ·rw [if_neg c3] at H
    have c3b0 : decide (x9_1 < (l1.length : Int)) = false := decide_eq_false c3
    clear c3
    obtain rfl := Option.some.inj H
    go_wp2
    go_ret
    exact ⟨by first | rfl | (simp; done) | (simp [*]; done), by repeat (first | exact Drawn0.refl _ | apply Drawn0.step)⟩

/-! ### semigroupref14_Sub: function 53 -/
mutual
def semigroupref14_Sub.l0 : Nat → List (List Int) → List Int → List Int → Int → Int → Option ((List (List Int)) × Int)
 | 0, _, _, _, _, _ => none
 | k + 1, x0, x1, x7, x30, x31 => if x31 < x30 then (if 0 ≤ x31 then (if x31 < (x7.length : Int) then (semigroupref14_Sub.l0 k x0 x1 (x7.set (x31 : Int).toNat (-1)) x30 (wrap64 (x31 + 1))) else (none)) else (none)) else (semigroupref14_Sub.l1 k x0 x1 x7 x1 (x1.length : Int) 0)
def semigroupref14_Sub.l1 : Nat → List (List Int) → List Int → List Int → List Int → Int → Int → Option ((List (List Int)) × Int)
 | 0, _, _, _, _, _, _ => none
 | k + 1, x0, x1, x7, x38, x39, x40 => if x40 < x39 then (if 0 ≤ x40 then (if x40 < (x38.length : Int) then (if 0 ≤ (rd x38 x40) then (if (rd x38 x40) < (x7.length : Int) then (semigroupref14_Sub.l1 k x0 x1 (x7.set ((rd x38 x40) : Int).toNat x40) x38 x39 (wrap64 (x40 + 1))) else (none)) else (none)) else (none)) else (none)) else (semigroupref14_Sub.l2 k x0 x1 x7 ([] : List (List Int)) x1 (x1.length : Int) 0)
def semigroupref14_Sub.l2 : Nat → List (List Int) → List Int → List Int → List (List Int) → List Int → Int → Int → Option ((List (List Int)) × Int)
 | 0, _, _, _, _, _, _, _ => none
 | k + 1, x0, x1, x7, x11, x50, x51, x52 => if x52 < x51 then (if 0 ≤ x52 then (if x52 < (x50.length : Int) then (semigroupref14_Sub.l3 k x0 x1 x7 x11 (rd x50 x52) ([] : List Int) x50 x51 x52 x1 (x1.length : Int) 0) else (none)) else (none)) else (some (x11, 0))
def semigroupref14_Sub.l3 : Nat → List (List Int) → List Int → List Int → List (List Int) → Int → List Int → List Int → Int → Int → List Int → Int → Int → Option ((List (List Int)) × Int)
 | 0, _, _, _, _, _, _, _, _, _, _, _, _ => none
 | k + 1, x0, x1, x7, x11, x13, x14, x50, x51, x52, x56, x57, x58 => if x58 < x57 then (if 0 ≤ x58 then (if x58 < (x56.length : Int) then (if 0 ≤ x13 then (if x13 < (x0.length : Int) then (if 0 ≤ (rd x56 x58) then (if (rd x56 x58) < ((rd_L1 x0 x13).length : Int) then (if 0 ≤ (rd (rd_L1 x0 x13) (rd x56 x58)) then (if (rd (rd_L1 x0 x13) (rd x56 x58)) < (x7.length : Int) then (if (rd x7 (rd (rd_L1 x0 x13) (rd x56 x58))) < 0 then (some (([] : List (List Int)), 9)) else (if x14.length < 17592186044416 then (semigroupref14_Sub.l3 k x0 x1 x7 x11 x13 (x14 ++ [rd x7 (rd (rd_L1 x0 x13) (rd x56 x58))]) x50 x51 x52 x56 x57 (wrap64 (x58 + 1))) else (none))) else (none)) else (none)) else (none)) else (none)) else (none)) else (none)) else (none)) else (none)) else (if x11.length < 5864062014805 then (semigroupref14_Sub.l2 k x0 x1 x7 (x11 ++ [x14]) x50 x51 (wrap64 (x52 + 1))) else (none))
end
def semigroupref14_Sub.f (k : Nat) (l0 : List (List Int)) (l1 : List Int) : Option ((List (List Int)) × Int) := (semigroupref14_Validate.f k l0).bind fun t624 => (if t624 = 0 then ((semigroupref14_Ascending.f k l0 l1).bind fun t625 => (if t625 = true then (if 0 ≤ (l0.length : Int) then (if ((l0.length : Int) : Int).toNat ≤ 35184372088832 then ((some (List.replicate ((l0.length : Int) : Int).toNat 0 : List Int)).bind fun y626 => (semigroupref14_Sub.l0 k l0 l1 y626 (y626.length : Int) 0)) else (none)) else (none)) else (some (([] : List (List Int)), 1)))) else (some (([] : List (List Int)), t624)))
theorem semigroupref14_Sub.mono_l : ∀ k, (∀ y0 y1 y2 y3 y4, LeO (semigroupref14_Sub.l0 k y0 y1 y2 y3 y4) (semigroupref14_Sub.l0 (k + 1) y0 y1 y2 y3 y4)) ∧ (∀ y0 y1 y2 y3 y4 y5, LeO (semigroupref14_Sub.l1 k y0 y1 y2 y3 y4 y5) (semigroupref14_Sub.l1 (k + 1) y0 y1 y2 y3 y4 y5)) ∧ (∀ y0 y1 y2 y3 y4 y5 y6, LeO (semigroupref14_Sub.l2 k y0 y1 y2 y3 y4 y5 y6) (semigroupref14_Sub.l2 (k + 1) y0 y1 y2 y3 y4 y5 y6)) ∧ (∀ y0 y1 y2 y3 y4 y5 y6 y7 y8 y9 y10 y11, LeO (semigroupref14_Sub.l3 k y0 y1 y2 y3 y4 y5 y6 y7 y8 y9 y10 y11) (semigroupref14_Sub.l3 (k + 1) y0 y1 y2 y3 y4 y5 y6 y7 y8 y9 y10 y11))
 | 0 => ⟨fun _ _ _ _ _ r h => by simp [semigroupref14_Sub.l0] at h, fun _ _ _ _ _ _ r h => by simp [semigroupref14_Sub.l1] at h, fun _ _ _ _ _ _ _ r h => by simp [semigroupref14_Sub.l2] at h, fun _ _ _ _ _ _ _ _ _ _ _ _ r h => by simp [semigroupref14_Sub.l3] at h⟩
 | k + 1 => by
  obtain ⟨ih0, ih1, ih2, ih3⟩ := semigroupref14_Sub.mono_l k
  refine ⟨?_, ?_, ?_, ?_⟩
  ·intro y0 y1 y2 y3 y4
   unfold semigroupref14_Sub.l0
   repeat' first
   | (with_reducible exact ih0 _ _ _ _ _)
   | (with_reducible exact ih1 _ _ _ _ _ _)
   | (with_reducible exact ih2 _ _ _ _ _ _ _)
   | (with_reducible exact ih3 _ _ _ _ _ _ _ _ _ _ _ _)
   | (with_reducible exact semigroupref14_Ascending.mono _ _ _)
   | (with_reducible exact semigroupref14_Validate.mono _ _)
   | (with_reducible exact LeO.refl _)
   | (with_reducible exact LeO.none _)
   | (with_reducible refine LeO.ite ?_ ?_)
   | (with_reducible refine LeO.bind ?_ (fun _ => ?_))
   | exact ih0 _ _ _ _ _
   | exact ih1 _ _ _ _ _ _
   | exact ih2 _ _ _ _ _ _ _
   | exact ih3 _ _ _ _ _ _ _ _ _ _ _ _
   | exact semigroupref14_Ascending.mono _ _ _
   | exact semigroupref14_Validate.mono _ _
   | exact LeO.none _
   | refine LeO.ite ?_ ?_
   | refine LeO.bind ?_ (fun _ => ?_)
  ·intro y0 y1 y2 y3 y4 y5
   unfold semigroupref14_Sub.l1
   repeat' first
   | (with_reducible exact ih0 _ _ _ _ _)
   | (with_reducible exact ih1 _ _ _ _ _ _)
   | (with_reducible exact ih2 _ _ _ _ _ _ _)
   | (with_reducible exact ih3 _ _ _ _ _ _ _ _ _ _ _ _)
   | (with_reducible exact semigroupref14_Ascending.mono _ _ _)
   | (with_reducible exact semigroupref14_Validate.mono _ _)
   | (with_reducible exact LeO.refl _)
   | (with_reducible exact LeO.none _)
   | (with_reducible refine LeO.ite ?_ ?_)
   | (with_reducible refine LeO.bind ?_ (fun _ => ?_))
   | exact ih0 _ _ _ _ _
   | exact ih1 _ _ _ _ _ _
   | exact ih2 _ _ _ _ _ _ _
   | exact ih3 _ _ _ _ _ _ _ _ _ _ _ _
   | exact semigroupref14_Ascending.mono _ _ _
   | exact semigroupref14_Validate.mono _ _
   | exact LeO.none _
   | refine LeO.ite ?_ ?_
   | refine LeO.bind ?_ (fun _ => ?_)
  ·intro y0 y1 y2 y3 y4 y5 y6
   unfold semigroupref14_Sub.l2
   repeat' first
   | (with_reducible exact ih0 _ _ _ _ _)
   | (with_reducible exact ih1 _ _ _ _ _ _)
   | (with_reducible exact ih2 _ _ _ _ _ _ _)
   | (with_reducible exact ih3 _ _ _ _ _ _ _ _ _ _ _ _)
   | (with_reducible exact semigroupref14_Ascending.mono _ _ _)
   | (with_reducible exact semigroupref14_Validate.mono _ _)
   | (with_reducible exact LeO.refl _)
   | (with_reducible exact LeO.none _)
   | (with_reducible refine LeO.ite ?_ ?_)
   | (with_reducible refine LeO.bind ?_ (fun _ => ?_))
   | exact ih0 _ _ _ _ _
   | exact ih1 _ _ _ _ _ _
   | exact ih2 _ _ _ _ _ _ _
   | exact ih3 _ _ _ _ _ _ _ _ _ _ _ _
   | exact semigroupref14_Ascending.mono _ _ _
   | exact semigroupref14_Validate.mono _ _
   | exact LeO.none _
   | refine LeO.ite ?_ ?_
   | refine LeO.bind ?_ (fun _ => ?_)
  ·intro y0 y1 y2 y3 y4 y5 y6 y7 y8 y9 y10 y11
   unfold semigroupref14_Sub.l3
   repeat' first
   | (with_reducible exact ih0 _ _ _ _ _)
   | (with_reducible exact ih1 _ _ _ _ _ _)
   | (with_reducible exact ih2 _ _ _ _ _ _ _)
   | (with_reducible exact ih3 _ _ _ _ _ _ _ _ _ _ _ _)
   | (with_reducible exact semigroupref14_Ascending.mono _ _ _)
   | (with_reducible exact semigroupref14_Validate.mono _ _)
   | (with_reducible exact LeO.refl _)
   | (with_reducible exact LeO.none _)
   | (with_reducible refine LeO.ite ?_ ?_)
   | (with_reducible refine LeO.bind ?_ (fun _ => ?_))
   | exact ih0 _ _ _ _ _
   | exact ih1 _ _ _ _ _ _
   | exact ih2 _ _ _ _ _ _ _
   | exact ih3 _ _ _ _ _ _ _ _ _ _ _ _
   | exact semigroupref14_Ascending.mono _ _ _
   | exact semigroupref14_Validate.mono _ _
   | exact LeO.none _
   | refine LeO.ite ?_ ?_
   | refine LeO.bind ?_ (fun _ => ?_)
theorem semigroupref14_Sub.mono : ∀ a0 a1 k, LeO (semigroupref14_Sub.f k a0 a1) (semigroupref14_Sub.f (k + 1) a0 a1) := by
 intro a0 a1 k
 obtain ⟨ih0, ih1, ih2, ih3⟩ := semigroupref14_Sub.mono_l k
 unfold semigroupref14_Sub.f
 repeat' first
   | (with_reducible exact ih0 _ _ _ _ _)
   | (with_reducible exact ih1 _ _ _ _ _ _)
   | (with_reducible exact ih2 _ _ _ _ _ _ _)
   | (with_reducible exact ih3 _ _ _ _ _ _ _ _ _ _ _ _)
   | (with_reducible exact semigroupref14_Ascending.mono _ _ _)
   | (with_reducible exact semigroupref14_Validate.mono _ _)
   | (with_reducible exact LeO.refl _)
   | (with_reducible exact LeO.none _)
   | (with_reducible refine LeO.ite ?_ ?_)
   | (with_reducible refine LeO.bind ?_ (fun _ => ?_))
   | exact ih0 _ _ _ _ _
   | exact ih1 _ _ _ _ _ _
   | exact ih2 _ _ _ _ _ _ _
   | exact ih3 _ _ _ _ _ _ _ _ _ _ _ _
   | exact semigroupref14_Ascending.mono _ _ _
   | exact semigroupref14_Validate.mono _ _
   | exact LeO.none _
   | refine LeO.ite ?_ ?_
   | refine LeO.bind ?_ (fun _ => ?_)
set_option maxHeartbeats 8000000 in
set_option maxRecDepth 100000 in
theorem semigroupref14_Sub.calls (k : Nat) (A0 : Option Addr) (c0 : Nat) (l0 : List (List Int)) (A1 : Option Addr) (c1 : Nat) (l1 : List Int) (r1 : List (List Int)) (r2 : Int) (w : World) (hr0 : Kd.C (Kd.slice 3 (Kd.int .i64)) w A0 l0.length l0) (hc0 : l0.length ≤ c0) (hr1 : Kd.C (Kd.int .i64) w A1 l1.length l1) (hc1 : l1.length ≤ c1) (h : semigroupref14_Sub.f k l0 l1 = some (r1, r2)) :
  Calls Try.prog 53 #[.slice A0 l0.length c0, .slice A1 l1.length c1] w fun e w' => ∃ v0_ : Value, e = .returned (.tuple #[v0_, .int .i64 r2]) ∧ Kd.S (Kd.slice 3 (Kd.int .i64)) 30 w' w.heap.size (fun _ => True) v0_ r1 ∧ Below w.heap.size w w' := by
 have HR0 := Aside0.mk hr0
 have HC0 := Aside0.mk hc0
 (try clear hr0); (try clear hc0)
 have HR1 := Aside0.mk hr1
 have HC1 := Aside0.mk hc1
 (try clear hr1); (try clear hc1)
 have HB := Aside0.mk (Below.refl w.heap.size w)
 have H : ((semigroupref14_Validate.f k l0).bind fun t624 => (if t624 = 0 then ((semigroupref14_Ascending.f k l0 l1).bind fun t625 => (if t625 = true then (if 0 ≤ (l0.length : Int) then (if ((l0.length : Int) : Int).toNat ≤ 35184372088832 then ((some (List.replicate ((l0.length : Int) : Int).toNat 0 : List Int)).bind fun y626 => (semigroupref14_Sub.l0 k l0 l1 y626 (y626.length : Int) 0)) else (none)) else (none)) else (some (([] : List (List Int)), 1)))) else (some (([] : List (List Int)), t624)))) = some (r1, r2) := h
 clear h
 replace H := Option.bind_eq_some_iff.mp H
 obtain ⟨t624, A30, H⟩ := H
 replace H : (if t624 = 0 then ((semigroupref14_Ascending.f k l0 l1).bind fun t625 => (if t625 = true then (if 0 ≤ (l0.length : Int) then (if ((l0.length : Int) : Int).toNat ≤ 35184372088832 then ((some (List.replicate ((l0.length : Int) : Int).toNat 0 : List Int)).bind fun y626 => (semigroupref14_Sub.l0 k l0 l1 y626 (y626.length : Int) 0)) else (none)) else (none)) else (some (([] : List (List Int)), 1)))) else (some (([] : List (List Int)), t624))) = some (r1, r2) := H
 have A3 := Aside0.mk A30
 clear A30
 by_cases c4 : t624 = 0
 ·rw [if_pos c4] at H
  have c4b0 : (t624 == 0) = true := beq_iff_eq.mpr c4
  have c4b1 : (t624 != 0) = false := bne_eq_false_iff_eq.mpr c4
  clear c4
  replace H := Option.bind_eq_some_iff.mp H
  obtain ⟨t625, A50, H⟩ := H
  replace H : (if t625 = true then (if 0 ≤ (l0.length : Int) then (if ((l0.length : Int) : Int).toNat ≤ 35184372088832 then ((some (List.replicate ((l0.length : Int) : Int).toNat 0 : List Int)).bind fun y626 => (semigroupref14_Sub.l0 k l0 l1 y626 (y626.length : Int) 0)) else (none)) else (none)) else (some (([] : List (List Int)), 1))) = some (r1, r2) := H
  have A5 := Aside0.mk A50
  clear A50
  by_cases c6 : t625 = true
  ·subst c6
   have H1 : (if 0 ≤ (l0.length : Int) then (if ((l0.length : Int) : Int).toNat ≤ 35184372088832 then ((some (List.replicate ((l0.length : Int) : Int).toNat 0 : List Int)).bind fun y626 => (semigroupref14_Sub.l0 k l0 l1 y626 (y626.length : Int) 0)) else (none)) else (none)) = some (r1, r2) := by rw [if_pos rfl] at H; exact H
   clear H
   have H := H1
   clear H1
   by_cases c7 : 0 ≤ (l0.length : Int)
   ·rw [if_pos c7] at H
    have c7b0 := eq_true c7
    have c7b1 : decide (0 ≤ (l0.length : Int)) = true := decide_eq_true c7
    clear c7
    by_cases c8 : ((l0.length : Int) : Int).toNat ≤ 35184372088832
    ·rw [if_pos c8] at H
     have c8b0 := eq_true c8
     have c8b1 : decide (((l0.length : Int) : Int).toNat ≤ 35184372088832) = true := decide_eq_true c8
     clear c8
     obtain ⟨y626, hy626⟩ : ∃ y_ : List Int, y_ = (List.replicate ((l0.length : Int) : Int).toNat 0) := ⟨_, rfl⟩
     replace H : (semigroupref14_Sub.l0 k l0 l1 y626 (y626.length : Int) 0) = some (r1, r2) := by first | (rw [hy626]; with_reducible exact H) | (have H2_ := (Option.bind_some _ _).symm.trans H; rw [hy626]; with_reducible exact H2_) | (have H2_ := (Option.bind_some _ _).symm.trans H; with_reducible exact H2_) | with_reducible exact H | (rw [hy626]; exact H) | exact H
     have Ny626 := Aside0.mk hy626
     clear hy626
     have H' := Aside0.mk H
     clear H
     go_enter Try.func53, Try.ntmps53
     go_wp2_with (first | ((with_reducible refine gate_callee (f := 65) rfl ?_); refine goesL_ (some 18) rfl rfl Try.func65 (by kernel_rfl) rfl #[.slice A0 l0.length c0] rfl q_ml ?_; (with_reducible refine (semigroupref14_Validate.calls k _ _ l0 t624 _ ?side1 ?side2 A3.out).mono ?_); (case side1 => q_cc HR0.out); (case side2 => exact HC0.out); rintro e w' ⟨rfl, ⟨nd, rfl⟩⟩; refine ⟨_, rfl, ?_⟩) | ((with_reducible refine gate_callee (f := 75) rfl ?_); refine goesL_ (some 24) rfl rfl Try.func75 (by kernel_rfl) rfl #[.slice A0 l0.length c0, .slice A1 l1.length c1] rfl q_ml ?_; (with_reducible refine (semigroupref14_Ascending.calls k _ _ l0 _ _ l1 true _ ?side1 ?side2 ?side3 ?side4 A5.out).mono ?_); (case side1 => q_cc HR0.out); (case side2 => exact HC0.out); (case side3 => q_cc HR1.out); (case side4 => exact HC1.out); rintro e w' ⟨rfl, ⟨nd, rfl⟩⟩; refine ⟨_, rfl, ?_⟩) | ((with_reducible refine gate_dst (N := 28) rfl ?_); refine Kd.R_make (Kd.int .i64) _ 3 rfl (N := 28) rfl 30 _ _ rfl (l0.length : Int) rfl rfl Try.underlying30 (.int .i64 0) 8 info3 rfl (by decide) (by omega) 0 (ok := fun _ => True) (okp := fun _ => True) rfl (fun _ hk => hk) trivial (of_decide_eq_true q_as) (Nat.le_trans (Nat.mul_le_mul_right _ (of_decide_eq_true q_as : (l0.length : Int).toNat ≤ 35184372088832)) (by omega)) (Below.refl _ _) (Nat.le_refl _) ?_; intro v627 w9 ho10 hb hg_ hnew_; (q_x hg_ hnew_); (first | rw [← Ny626.out] at ho10 | (simp only [Int.reduceToNat] at ho10; rw [← Ny626.out] at ho10)); have n0_ := Aside0.mk (Kd.R_lower ho10 q_bs); have n1_ := Aside0.mk (below_step q_hb hb); clear HB; have HO628 := n0_; have HB := n1_; clear n0_ n1_; (q_x hb ho10); obtain ⟨Ao11, co11, eo11⟩ := Kd.R_slice HO628.out; subst eo11))
     go_loopg [31] k (fun kq v31 w' => ∃ (x7_1 : List Int) (x31_1 : Int), v31 = .int .i64 x31_1 ∧ Aside0 (semigroupref14_Sub.l0 kq l0 l1 x7_1 (y626.length : Int) x31_1 = some (r1, r2)) ∧ Aside0 (kq ≤ k) ∧ Aside0 (Kd.R (Kd.int .i64) 3 w' w.heap.size (fun _ => True) (.slice Ao11 y626.length co11) x7_1) ∧ Aside0 (Below w.heap.size w w'))
     case atStart => exact ⟨(y626), (0), q_rs, H', ⟨Nat.le_refl _⟩, ⟨by q_nr; exact HO628.out⟩, ⟨by repeat (first | (with_reducible first | exact HB.out | apply below_alloc | apply pw_below_drewN | apply below_drew1) | exact HB.out)⟩⟩
     case round =>
      clear H'
      q_x c1 p2 c4 c4b0 c4b1 c5 c6 c7 c7b0 c7b1 c8 c8b0 c8b1
      obtain ⟨x7_1, x31_1, rfl, HA, HK1, HO_7, HB⟩ := hrel
      have hl7_1 := (Kd.R_reads' HO_7.out).1
      rw [hl7_1] at HO_7
      (try simp only [hl7_1])
      cases gk with
      | zero => exact absurd HA.out (by simp [semigroupref14_Sub.l0])
      | succ k1 =>
       have H := HA.out
       clear HA
       simp only [semigroupref14_Sub.l0] at H
       by_cases c12 : x31_1 < (y626.length : Int)
       ·rw [if_pos c12] at H
        have c12b0 : decide (x31_1 < (y626.length : Int)) = true := decide_eq_true c12
        (try (have c12b0z := c12b0; simp only [hl7_1] at c12b0z))
        clear c12
        by_cases c13 : 0 ≤ x31_1
        ·rw [if_pos c13] at H
         have c13b0 : decide (0 ≤ x31_1) = true := decide_eq_true c13
         clear c13
         by_cases c14 : x31_1 < (x7_1.length : Int)
         ·rw [if_pos c14] at H
          have c14b0 : decide (x31_1 < (x7_1.length : Int)) = true := decide_eq_true c14
          (try (have c14b0z := c14b0; simp only [hl7_1] at c14b0z))
          clear c14
          obtain ⟨y629, hy629⟩ : ∃ y_ : List Int, y_ = (x7_1.set (x31_1 : Int).toNat (-1)) := ⟨_, rfl⟩
          replace H : (semigroupref14_Sub.l0 k1 l0 l1 y629 (y626.length : Int) (wrap64 (x31_1 + 1))) = some (r1, r2) := by first | (rw [hy629]; with_reducible exact H) | (have H2_ := (Option.bind_some _ _).symm.trans H; rw [hy629]; with_reducible exact H2_) | (have H2_ := (Option.bind_some _ _).symm.trans H; with_reducible exact H2_) | with_reducible exact H | (rw [hy629]; exact H) | exact H
          have Ny629 := Aside0.mk hy629
          clear hy629
          have H' := Aside0.mk H
          clear H
          have p15 : 0 ≤ (x31_1 : Int) := of_decide_eq_true q_as
          have q15 : (x31_1 : Int) < ((x7_1.length : Int) : Int) := of_decide_eq_true q_as
          obtain ⟨go15, co15, eo15, gb15, gl15, cl15, HG15⟩ := Kd.R_form HO_7.out (by omega)
          (first | cases eo15 | (injection eo15 with ea_ en_ ec_; (first | subst ea_ | (injection ea_ with ea_; subst ea_)); subst ec_; clear en_))
          have GB15 := Aside0.mk gb15
          have GG15 := Aside0.mk HG15
          (q_x gb15 gl15); (try clear HG15)
          obtain ⟨hx15_0, hf15_0⟩ := Kd.R_celln 0 HO_7.out (x31_1 : Int) p15 q15
          q_t p15 q15
          have HP16 := Kd.R_putg HO_7.out (x31_1 : Int) (-1)
          go_wp2_with (first | ((with_reducible refine gate_store (t := 3) (p := 36) rfl ?_); refine store_event (t := 3) (p := 36) (v := ?vo_w17) (w1 := (wr.setCell ⟨go15, (x31_1 : Int).toNat, none⟩ (.int .i64 (-1)))) ?hg ?ho ?hn ?hr ?_; (case ho => rfl); (case hg => rfl); (case hn => rfl); q_hr; intro w17 hw; have hg : wr.grownBy w17 (some go15) := (by rw [hw]; exact HP16.2); have hp_ : Kd.R (Kd.int .i64) 3 w17 w.heap.size (fun _ => True) (.slice (some ⟨go15, 0, none⟩) x7_1.length co11) y629 := (by rw [hw, Ny629.out]; exact HP16.1); clear HP16; have n0_ := Aside0.mk (hp_); have n1_ := Aside0.mk ((by rw [hw]; exact below_set (HB.out) GB15.out : Below w.heap.size w w17)); clear HO_7; clear HB; have HO_7 := n0_; have HB := n1_; clear n0_ n1_; (q_x hg hw); (try clear hp_)))
          (try simp only [← hl7_1])
          go_roundg k1
          case measure => have := HK1.out; omega
          case rel => exact ⟨(y629), (wrap64 (x31_1 + 1)), q_rs, H', ⟨by have := HK1.out; omega⟩, ⟨by (try simp only [hl7_1]); q_nr; exact HO_7.out⟩, ⟨by repeat (first | (with_reducible first | exact HB.out | apply below_alloc | apply pw_below_drewN | apply below_drew1) | exact HB.out)⟩⟩
         ·rw [if_neg c14] at H
          exact absurd H (by simp)
        ·rw [if_neg c13] at H
         exact absurd H (by simp)
       ·rw [if_neg c12] at H
        have c12b0 : decide (x31_1 < (y626.length : Int)) = false := decide_eq_false c12
        (try (have c12b0z := c12b0; simp only [hl7_1] at c12b0z))
        clear c12
        have H' := Aside0.mk H
        clear H
        go_wp2
        go_loopg [40] k1 (fun kq v40 w' => ∃ (x7_2 : List Int) (x40_2 : Int), v40 = .int .i64 x40_2 ∧ Aside0 (semigroupref14_Sub.l1 kq l0 l1 x7_2 l1 (l1.length : Int) x40_2 = some (r1, r2)) ∧ Aside0 (kq ≤ k1) ∧ Aside0 (Kd.R (Kd.int .i64) 3 w' w.heap.size (fun _ => True) (.slice Ao11 x7_1.length co11) x7_2) ∧ Aside0 (Below w.heap.size w w'))
        case atStart => exact ⟨(x7_1), (0), q_rs, H', ⟨Nat.le_refl _⟩, ⟨by (try simp only [hl7_1]); q_nr; exact HO_7.out⟩, ⟨by repeat (first | (with_reducible first | exact HB.out | apply below_alloc | apply pw_below_drewN | apply below_drew1) | exact HB.out)⟩⟩
        case round =>
         clear H'
         q_x c1 p1 q1 hx1 p2 c4 c4b0 c4b1 c5 c6 p6 c7 c7b0 c7b1 c8 c8b0 c8b1 c12 c12b0 c13 c13b0 c14 c14b0 p15 q15 hx15 hf15 hx15_0 p15 p2 q15
         obtain ⟨x7_2, x40_2, rfl, HA, HK2, HO_7, HB⟩ := hrel
         have hl7_2 := (Kd.R_reads' HO_7.out).1
         rw [hl7_2] at HO_7
         (try simp only [hl7_2])
         cases gk with
         | zero => exact absurd HA.out (by simp [semigroupref14_Sub.l1])
         | succ k2 =>
          have H := HA.out
          clear HA
          simp only [semigroupref14_Sub.l1] at H
          by_cases c18 : x40_2 < (l1.length : Int)
          ·rw [if_pos c18] at H
           have c18b0 : decide (x40_2 < (l1.length : Int)) = true := decide_eq_true c18
           (try (have c18b0z := c18b0; simp only [hl7_1, hl7_2] at c18b0z))
           clear c18
           by_cases c19 : 0 ≤ x40_2
           ·rw [if_pos c19] at H
            have c19b0 : decide (0 ≤ x40_2) = true := decide_eq_true c19
            clear c19
            by_cases c20 : x40_2 < (l1.length : Int)
            ·rw [if_pos c20] at H
             have c20b0 : decide (x40_2 < (l1.length : Int)) = true := decide_eq_true c20
             (try (have c20b0z := c20b0; simp only [hl7_1, hl7_2] at c20b0z))
             clear c20
             by_cases c21 : 0 ≤ (rd l1 x40_2)
             ·rw [if_pos c21] at H
              have c21b0 : decide (0 ≤ (rd l1 x40_2)) = true := decide_eq_true c21
              clear c21
              by_cases c22 : (rd l1 x40_2) < (x7_2.length : Int)
              ·rw [if_pos c22] at H
               have c22b0 : decide ((rd l1 x40_2) < (x7_2.length : Int)) = true := decide_eq_true c22
               (try (have c22b0z := c22b0; simp only [hl7_1, hl7_2] at c22b0z))
               clear c22
               obtain ⟨y631, hy631⟩ : ∃ y_ : List Int, y_ = (x7_2.set ((rd l1 x40_2) : Int).toNat x40_2) := ⟨_, rfl⟩
               replace H : (semigroupref14_Sub.l1 k2 l0 l1 y631 l1 (l1.length : Int) (wrap64 (x40_2 + 1))) = some (r1, r2) := by first | (rw [hy631]; with_reducible exact H) | (have H2_ := (Option.bind_some _ _).symm.trans H; rw [hy631]; with_reducible exact H2_) | (have H2_ := (Option.bind_some _ _).symm.trans H; with_reducible exact H2_) | with_reducible exact H | (rw [hy631]; exact H) | exact H
               have Ny631 := Aside0.mk hy631
               clear hy631
               have H' := Aside0.mk H
               clear H
               have p630 : 0 ≤ (x40_2 : Int) := of_decide_eq_true q_as
               have q630 : x40_2 < (l1.length : Int) := of_decide_eq_true q_as
               obtain ⟨ad630, e630, hx630_0⟩ := Kd.at_int HR1.out x40_2 p630 q630
               cases e630
               replace hx630_0 := (HB.out.cell (World.block_lt_of_cell? w _ hx630_0)).trans hx630_0
               q_t p630 q630
               have p23 : 0 ≤ ((rd l1 x40_2) : Int) := of_decide_eq_true q_as
               have q23 : ((rd l1 x40_2) : Int) < ((x7_2.length : Int) : Int) := of_decide_eq_true q_as
               obtain ⟨go23, co23, eo23, gb23, gl23, cl23, HG23⟩ := Kd.R_form HO_7.out (by omega)
               (first | cases eo23 | (injection eo23 with ea_ en_ ec_; (first | subst ea_ | (injection ea_ with ea_; subst ea_)); subst ec_; clear en_))
               have GB23 := Aside0.mk gb23
               have GG23 := Aside0.mk HG23
               (q_x gb23 gl23); (try clear HG23)
               obtain ⟨hx23_0, hf23_0⟩ := Kd.R_celln 0 HO_7.out ((rd l1 x40_2) : Int) p23 q23
               q_t p23 q23
               have HP24 := Kd.R_putg HO_7.out ((rd l1 x40_2) : Int) x40_2
               go_wp2_with (first | ((with_reducible refine gate_store (t := 3) (p := 48) rfl ?_); refine store_event (t := 3) (p := 48) (v := ?vo_w25) (w1 := (wr.setCell ⟨go23, ((rd l1 x40_2) : Int).toNat, none⟩ (.int .i64 x40_2))) ?hg ?ho ?hn ?hr ?_; (case ho => rfl); (case hg => rfl); (case hn => rfl); q_hr; intro w25 hw; have hg : wr.grownBy w25 (some go23) := (by rw [hw]; exact HP24.2); have hp_ : Kd.R (Kd.int .i64) 3 w25 w.heap.size (fun _ => True) (.slice (some ⟨go23, 0, none⟩) x7_2.length co11) y631 := (by rw [hw, Ny631.out]; exact HP24.1); clear HP24; have n0_ := Aside0.mk (hp_); have n1_ := Aside0.mk ((by rw [hw]; exact below_set (HB.out) GB23.out : Below w.heap.size w w25)); clear HO_7; clear HB; have HO_7 := n0_; have HB := n1_; clear n0_ n1_; (q_x hg hw); (try clear hp_)))
               (try simp only [← hl7_2])
               go_roundg k2
               case measure => have := HK1.out; have := HK2.out; omega
               case rel => exact ⟨(y631), (wrap64 (x40_2 + 1)), q_rs, H', ⟨by have := HK1.out; have := HK2.out; omega⟩, ⟨by (try simp only [hl7_1]); (try simp only [hl7_2]); q_nr; exact HO_7.out⟩, ⟨by repeat (first | (with_reducible first | exact HB.out | apply below_alloc | apply pw_below_drewN | apply below_drew1) | exact HB.out)⟩⟩
              ·rw [if_neg c22] at H
               exact absurd H (by simp)
             ·rw [if_neg c21] at H
              exact absurd H (by simp)
            ·rw [if_neg c20] at H
             exact absurd H (by simp)
           ·rw [if_neg c19] at H
            exact absurd H (by simp)
          ·rw [if_neg c18] at H
           have c18b0 : decide (x40_2 < (l1.length : Int)) = false := decide_eq_false c18
           (try (have c18b0z := c18b0; simp only [hl7_1, hl7_2] at c18b0z))
           clear c18
           have H' := Aside0.mk H
           clear H
           go_wp2
           go_loopg [11, 52] k2 (fun kq v11 v52 w' => ∃ (x11_3 : List (List Int)) (x52_3 : Int), v52 = .int .i64 x52_3 ∧ Aside0 (semigroupref14_Sub.l2 kq l0 l1 x7_2 x11_3 l1 (l1.length : Int) x52_3 = some (r1, r2)) ∧ Aside0 (kq ≤ k2) ∧ Aside0 (Kd.R (Kd.int .i64) 3 w' w.heap.size (fun _ => True) (.slice Ao11 x7_2.length co11) x7_2) ∧ Aside0 (Kd.S (Kd.slice 3 (Kd.int .i64)) 30 w' w.heap.size (fun k_ => some k_ ≠ ((.slice Ao11 x7_2.length co11) : Value).ownBlock) v11 x11_3) ∧ Aside0 (Below w.heap.size w w'))
           case atStart => exact ⟨(([] : List (List Int))), (0), q_rs, H', ⟨Nat.le_refl _⟩, ⟨by (try simp only [hl7_1]); (try simp only [hl7_2]); q_nr; exact HO_7.out⟩, ⟨by (try simp only [hl7_1]); (try simp only [hl7_2]); first | exact Kd.S_nil _ _ _ _ _ | exact Kd.N_nil _ _ _ _ _ | exact Kd.V_nil _ _ _ _ _ | exact Kd.Q_nil _ _ _ _ _ | exact Kd.R_nil _ _ _ _ _⟩, ⟨by repeat (first | (with_reducible first | exact HB.out | apply below_alloc | apply pw_below_drewN | apply below_drew1) | exact HB.out)⟩⟩
           case round =>
            clear H'
            q_x c1 p1 q1 hx1 c2 p2 q2 hx2 hf2 c4 c4b0 c4b1 c5 c6 p6 q6 hx6 c7 c7b0 c7b1 c8 c8b0 c8b1 c12 c12b0 c13 c13b0 c14 c14b0 p15 q15 hx15 hf15 c18 c18b0 c19 c19b0 c20 c20b0 c21 c21b0 c22 c22b0 p23 q23 hx23 hf23 hx15_0 hx23_0 hx630_0 p1 p15 p2 p23 p6 p630 q1 q15 q23 q630
            obtain ⟨x11_3, x52_3, rfl, HA, HK3, HO_7, HO_11, HB⟩ := hrel
            cases gk with
            | zero => exact absurd HA.out (by simp [semigroupref14_Sub.l2])
            | succ k3 =>
             have H := HA.out
             clear HA
             simp only [semigroupref14_Sub.l2] at H
             by_cases c26 : x52_3 < (l1.length : Int)
             ·rw [if_pos c26] at H
              have c26b0 : decide (x52_3 < (l1.length : Int)) = true := decide_eq_true c26
              (try (have c26b0z := c26b0; simp only [hl7_1, hl7_2] at c26b0z))
              clear c26
              by_cases c27 : 0 ≤ x52_3
              ·rw [if_pos c27] at H
               have c27b0 : decide (0 ≤ x52_3) = true := decide_eq_true c27
               clear c27
               by_cases c28 : x52_3 < (l1.length : Int)
               ·rw [if_pos c28] at H
                have c28b0 : decide (x52_3 < (l1.length : Int)) = true := decide_eq_true c28
                (try (have c28b0z := c28b0; simp only [hl7_1, hl7_2] at c28b0z))
                clear c28
                have H' := Aside0.mk H
                clear H
                have p632 : 0 ≤ (x52_3 : Int) := of_decide_eq_true q_as
                have q632 : x52_3 < (l1.length : Int) := of_decide_eq_true q_as
                obtain ⟨ad632, e632, hx632_0⟩ := Kd.at_int HR1.out x52_3 p632 q632
                cases e632
                replace hx632_0 := (HB.out.cell (World.block_lt_of_cell? w _ hx632_0)).trans hx632_0
                q_t p632 q632
                go_wp2
                go_loopg [14, 58] k3 (fun kq v14 v58 w' => ∃ (x14_4 : List Int) (x58_4 : Int), v58 = .int .i64 x58_4 ∧ Aside0 (semigroupref14_Sub.l3 kq l0 l1 x7_2 x11_3 (rd l1 x52_3) x14_4 l1 (l1.length : Int) x52_3 l1 (l1.length : Int) x58_4 = some (r1, r2)) ∧ Aside0 (kq ≤ k3) ∧ Aside0 (Kd.R (Kd.int .i64) 3 w' w.heap.size (fun k_ => some k_ ≠ (v14 : Value).ownBlock) (.slice Ao11 x7_2.length co11) x7_2) ∧ Aside0 (Kd.S (Kd.slice 3 (Kd.int .i64)) 30 w' w.heap.size (fun k_ => some k_ ≠ ((.slice Ao11 x7_2.length co11) : Value).ownBlock ∧ some k_ ≠ (v14 : Value).ownBlock) u11 x11_3) ∧ Aside0 (Kd.R (Kd.int .i64) 3 w' w.heap.size (fun k_ => some k_ ≠ ((.slice Ao11 x7_2.length co11) : Value).ownBlock) v14 x14_4) ∧ Aside0 (Below w.heap.size w w'))
                case atStart => exact ⟨(([] : List Int)), (0), q_rs, H', ⟨Nat.le_refl _⟩, ⟨by (try simp only [hl7_1]); (try simp only [hl7_2]); q_nr; exact Kd.R_mono HO_7.out (fun _ hk => (by simp [Value.ownBlock]))⟩, ⟨by (try simp only [hl7_1]); (try simp only [hl7_2]); q_ns; exact Kd.S_mono HO_11.out (fun _ hk => ⟨hk, (by simp [Value.ownBlock])⟩)⟩, ⟨by (try simp only [hl7_1]); (try simp only [hl7_2]); first | exact Kd.R_nil _ _ _ _ _ | exact Kd.N_nil _ _ _ _ _ | exact Kd.V_nil _ _ _ _ _ | exact Kd.Q_nil _ _ _ _ _ | exact Kd.S_nil _ _ _ _ _⟩, ⟨by repeat (first | (with_reducible first | exact HB.out | apply below_alloc | apply pw_below_drewN | apply below_drew1) | exact HB.out)⟩⟩
                case round =>
                 clear H'
                 q_x c1 p1 q1 hx1 c2 p2 q2 hx2 hf2 c4 c4b0 c4b1 c5 c6 p6 q6 hx6 c7 c7b0 c7b1 c8 c8b0 c8b1 c12 c12b0 c13 c13b0 c14 c14b0 p15 q15 hx15 hf15 c18 c18b0 c19 c19b0 c20 c20b0 c21 c21b0 c22 c22b0 p23 q23 hx23 hf23 c26 c26b0 c27 c27b0 c28 c28b0 hx15_0 hx23_0 hx630_0 hx632_0 p1 p15 p2 p23 p6 p630 p632 q1 q15 q2 q23 q6 q630 q632
                 obtain ⟨x14_4, x58_4, rfl, HA, HK4, HO_7, HO_11, HO_14, HB⟩ := hrel
                 cases gk with
                 | zero => exact absurd HA.out (by simp [semigroupref14_Sub.l3])
                 | succ k4 =>
                  have H := HA.out
                  clear HA
                  simp only [semigroupref14_Sub.l3] at H
                  by_cases c29 : x58_4 < (l1.length : Int)
                  ·rw [if_pos c29] at H
                   have c29b0 : decide (x58_4 < (l1.length : Int)) = true := decide_eq_true c29
                   (try (have c29b0z := c29b0; simp only [hl7_1, hl7_2] at c29b0z))
                   clear c29
                   by_cases c30 : 0 ≤ x58_4
                   ·rw [if_pos c30] at H
                    have c30b0 : decide (0 ≤ x58_4) = true := decide_eq_true c30
                    clear c30
                    by_cases c31 : x58_4 < (l1.length : Int)
                    ·rw [if_pos c31] at H
                     have c31b0 : decide (x58_4 < (l1.length : Int)) = true := decide_eq_true c31
                     (try (have c31b0z := c31b0; simp only [hl7_1, hl7_2] at c31b0z))
                     clear c31
                     by_cases c32 : 0 ≤ (rd l1 x52_3)
                     ·rw [if_pos c32] at H
                      have c32b0 : decide (0 ≤ (rd l1 x52_3)) = true := decide_eq_true c32
                      clear c32
                      by_cases c33 : (rd l1 x52_3) < (l0.length : Int)
                      ·rw [if_pos c33] at H
                       have c33b0 : decide ((rd l1 x52_3) < (l0.length : Int)) = true := decide_eq_true c33
                       (try (have c33b0z := c33b0; simp only [hl7_1, hl7_2] at c33b0z))
                       clear c33
                       by_cases c34 : 0 ≤ (rd l1 x58_4)
                       ·rw [if_pos c34] at H
                        have c34b0 : decide (0 ≤ (rd l1 x58_4)) = true := decide_eq_true c34
                        clear c34
                        by_cases c35 : (rd l1 x58_4) < ((rd_L1 l0 (rd l1 x52_3)).length : Int)
                        ·rw [if_pos c35] at H
                         have c35b0 : decide ((rd l1 x58_4) < ((rd_L1 l0 (rd l1 x52_3)).length : Int)) = true := decide_eq_true c35
                         (try (have c35b0z := c35b0; simp only [hl7_1, hl7_2] at c35b0z))
                         clear c35
                         by_cases c36 : 0 ≤ (rd (rd_L1 l0 (rd l1 x52_3)) (rd l1 x58_4))
                         ·rw [if_pos c36] at H
                          have c36b0 : decide (0 ≤ (rd (rd_L1 l0 (rd l1 x52_3)) (rd l1 x58_4))) = true := decide_eq_true c36
                          clear c36
                          by_cases c37 : (rd (rd_L1 l0 (rd l1 x52_3)) (rd l1 x58_4)) < (x7_2.length : Int)
                          ·rw [if_pos c37] at H
                           have c37b0 : decide ((rd (rd_L1 l0 (rd l1 x52_3)) (rd l1 x58_4)) < (x7_2.length : Int)) = true := decide_eq_true c37
                           (try (have c37b0z := c37b0; simp only [hl7_1, hl7_2] at c37b0z))
                           clear c37
                           by_cases c38 : (rd x7_2 (rd (rd_L1 l0 (rd l1 x52_3)) (rd l1 x58_4))) < 0
                           ·rw [if_pos c38] at H
                            have c38b0 : decide ((rd x7_2 (rd (rd_L1 l0 (rd l1 x52_3)) (rd l1 x58_4))) < 0) = true := decide_eq_true c38
                            clear c38
                            simp only [Option.some.injEq, Prod.mk.injEq] at H
                            obtain ⟨rfl, rfl⟩ := H
                            have p633 : 0 ≤ (x58_4 : Int) := of_decide_eq_true q_as
                            have q633 : x58_4 < (l1.length : Int) := of_decide_eq_true q_as
                            obtain ⟨ad633, e633, hx633_0⟩ := Kd.at_int HR1.out x58_4 p633 q633
                            obtain rfl : ad632 = ad633 := (by injection e633)
                            replace hx633_0 := (HB.out.cell (World.block_lt_of_cell? w _ hx633_0)).trans hx633_0
                            q_t p633 q633
                            have p634 : 0 ≤ ((rd l1 x52_3) : Int) := of_decide_eq_true q_as
                            have q634 : (rd l1 x52_3) < (l0.length : Int) := of_decide_eq_true q_as
                            obtain ⟨ad634, A634_0, c634_0, e634, hx634_0, hl634_0, hi634_0⟩ := at_L1 HR0.out (rd l1 x52_3) p634 q634
                            cases e634
                            replace hx634_0 := (HB.out.cell (World.block_lt_of_cell? w _ hx634_0)).trans hx634_0
                            have HR634_0 := Aside0.mk hi634_0
                            have HC634_0 := Aside0.mk hl634_0
                            (try clear hi634_0); (try clear hl634_0)
                            q_t p634 q634
                            have p635 : 0 ≤ ((rd l1 x58_4) : Int) := of_decide_eq_true q_as
                            have q635 : (rd l1 x58_4) < ((rd_L1 l0 (rd l1 x52_3)).length : Int) := of_decide_eq_true q_as
                            obtain ⟨ad635, e635, hx635_0⟩ := Kd.at_int HR634_0.out (rd l1 x58_4) p635 q635
                            cases e635
                            replace hx635_0 := (HB.out.cell (World.block_lt_of_cell? w _ hx635_0)).trans hx635_0
                            q_t p635 q635
                            have p636 : 0 ≤ ((rd (rd_L1 l0 (rd l1 x52_3)) (rd l1 x58_4)) : Int) := of_decide_eq_true q_as
                            have q636 : (rd (rd_L1 l0 (rd l1 x52_3)) (rd l1 x58_4)) < (x7_2.length : Int) := of_decide_eq_true q_as
                            obtain ⟨ad636, e636, hx636_0⟩ := Kd.at_int (Kd.R_reads' HO_7.out).2.2 (rd (rd_L1 l0 (rd l1 x52_3)) (rd l1 x58_4)) p636 q636
                            cases e636
                            q_t p636 q636
                            go_wp2
                            go_ret2
                            exact ⟨_, by first | rfl | q_em | q_en, by first | exact Kd.S_nil _ _ _ _ _ | exact Kd.N_nil _ _ _ _ _ | exact Kd.V_nil _ _ _ _ _ | exact Kd.Q_nil _ _ _ _ _ | exact Kd.R_nil _ _ _ _ _, by repeat (first | (with_reducible first | exact HB.out | apply below_alloc | apply pw_below_drewN | apply below_drew1) | exact HB.out)⟩
                           ·rw [if_neg c38] at H
                            have c38b0 : decide ((rd x7_2 (rd (rd_L1 l0 (rd l1 x52_3)) (rd l1 x58_4))) < 0) = false := decide_eq_false c38
                            clear c38
                            by_cases c39 : x14_4.length < 17592186044416
                            ·rw [if_pos c39] at H
                             have LMc39 := Aside0.mk c39
                             clear c39
                             obtain ⟨y640, hy640⟩ : ∃ y_ : List Int, y_ = (x14_4 ++ [rd x7_2 (rd (rd_L1 l0 (rd l1 x52_3)) (rd l1 x58_4))]) := ⟨_, rfl⟩
                             replace H : (semigroupref14_Sub.l3 k4 l0 l1 x7_2 x11_3 (rd l1 x52_3) y640 l1 (l1.length : Int) x52_3 l1 (l1.length : Int) (wrap64 (x58_4 + 1))) = some (r1, r2) := by first | (rw [hy640]; with_reducible exact H) | (have H2_ := (Option.bind_some _ _).symm.trans H; rw [hy640]; with_reducible exact H2_) | (have H2_ := (Option.bind_some _ _).symm.trans H; with_reducible exact H2_) | with_reducible exact H | (rw [hy640]; exact H) | exact H
                             have Ny640 := Aside0.mk hy640
                             clear hy640
                             have H' := Aside0.mk H
                             clear H
                             have p633 : 0 ≤ (x58_4 : Int) := of_decide_eq_true q_as
                             have q633 : x58_4 < (l1.length : Int) := of_decide_eq_true q_as
                             obtain ⟨ad633, e633, hx633_0⟩ := Kd.at_int HR1.out x58_4 p633 q633
                             obtain rfl : ad632 = ad633 := (by injection e633)
                             replace hx633_0 := (HB.out.cell (World.block_lt_of_cell? w _ hx633_0)).trans hx633_0
                             q_t p633 q633
                             have p634 : 0 ≤ ((rd l1 x52_3) : Int) := of_decide_eq_true q_as
                             have q634 : (rd l1 x52_3) < (l0.length : Int) := of_decide_eq_true q_as
                             obtain ⟨ad634, A634_0, c634_0, e634, hx634_0, hl634_0, hi634_0⟩ := at_L1 HR0.out (rd l1 x52_3) p634 q634
                             cases e634
                             replace hx634_0 := (HB.out.cell (World.block_lt_of_cell? w _ hx634_0)).trans hx634_0
                             have HR634_0 := Aside0.mk hi634_0
                             have HC634_0 := Aside0.mk hl634_0
                             (try clear hi634_0); (try clear hl634_0)
                             q_t p634 q634
                             have p635 : 0 ≤ ((rd l1 x58_4) : Int) := of_decide_eq_true q_as
                             have q635 : (rd l1 x58_4) < ((rd_L1 l0 (rd l1 x52_3)).length : Int) := of_decide_eq_true q_as
                             obtain ⟨ad635, e635, hx635_0⟩ := Kd.at_int HR634_0.out (rd l1 x58_4) p635 q635
                             cases e635
                             replace hx635_0 := (HB.out.cell (World.block_lt_of_cell? w _ hx635_0)).trans hx635_0
                             q_t p635 q635
                             have p636 : 0 ≤ ((rd (rd_L1 l0 (rd l1 x52_3)) (rd l1 x58_4)) : Int) := of_decide_eq_true q_as
                             have q636 : (rd (rd_L1 l0 (rd l1 x52_3)) (rd l1 x58_4)) < (x7_2.length : Int) := of_decide_eq_true q_as
                             obtain ⟨ad636, e636, hx636_0⟩ := Kd.at_int (Kd.R_reads' HO_7.out).2.2 (rd (rd_L1 l0 (rd l1 x52_3)) (rd l1 x58_4)) p636 q636
                             cases e636
                             q_t p636 q636
                             have p637 : 0 ≤ ((rd l1 x52_3) : Int) := of_decide_eq_true q_as
                             have q637 : (rd l1 x52_3) < (l0.length : Int) := of_decide_eq_true q_as
                             obtain ⟨ad637, A637_0, c637_0, e637, hx637_0, hl637_0, hi637_0⟩ := at_L1 HR0.out (rd l1 x52_3) p637 q637
                             obtain rfl : ad634 = ad637 := (by injection e637)
                             replace hx637_0 := (HB.out.cell (World.block_lt_of_cell? w _ hx637_0)).trans hx637_0
                             have HR637_0 := Aside0.mk hi637_0
                             have HC637_0 := Aside0.mk hl637_0
                             (try clear hi637_0); (try clear hl637_0)
                             q_t p637 q637
                             have ea_ := Option.some.inj (hx634_0.symm.trans hx637_0)
                             injection ea_ with ea_ en_ ec_
                             subst ea_
                             subst ec_
                             clear en_
                             have p638 : 0 ≤ ((rd l1 x58_4) : Int) := of_decide_eq_true q_as
                             have q638 : (rd l1 x58_4) < ((rd_L1 l0 (rd l1 x52_3)).length : Int) := of_decide_eq_true q_as
                             obtain ⟨ad638, e638, hx638_0⟩ := Kd.at_int HR637_0.out (rd l1 x58_4) p638 q638
                             cases e638
                             replace hx638_0 := (HB.out.cell (World.block_lt_of_cell? w _ hx638_0)).trans hx638_0
                             q_t p638 q638
                             have p639 : 0 ≤ ((rd (rd_L1 l0 (rd l1 x52_3)) (rd l1 x58_4)) : Int) := of_decide_eq_true q_as
                             have q639 : (rd (rd_L1 l0 (rd l1 x52_3)) (rd l1 x58_4)) < (x7_2.length : Int) := of_decide_eq_true q_as
                             obtain ⟨ad639, e639, hx639_0⟩ := Kd.at_int (Kd.R_reads' HO_7.out).2.2 (rd (rd_L1 l0 (rd l1 x52_3)) (rd l1 x58_4)) p639 q639
                             obtain rfl : ad636 = ad639 := (by injection e639)
                             q_t p639 q639
                             go_wp2_with (first | ((with_reducible refine gate_builtin (b := .append) (xs := #[.tmp 73, .tmp 84]) rfl ?_); at_builtin; refine Kd.R_append (Kd.int .i64) (w0 := w) w.heap.size rfl (.tmp 73) (.tmp 84) 30 3 (.int .i64 0) 8 rfl Try.underlying30 info3 rfl (by decide) (by omega) u14 x14_4 (rd x7_2 (rd (rd_L1 l0 (rd l1 x52_3)) (rd l1 x58_4))) [.int .i64 (rd x7_2 (rd (rd_L1 l0 (rd l1 x52_3)) (rd l1 x58_4)))] (fun k_ => some k_ ≠ (.slice (some ad636) x7_2.length co11 : Value).ownBlock) (fun _ => False) rfl rfl ?aP (fun _ hk => hk.elim) ?aF ?aO ?aB ?aS ?aL ?_; (case aP => exact rfl); (case aB => exact q_hb); (case aF => exact (fun k_ hk => Kd.fresh' (Kd.R_lt (by q_nr; exact HO_7.out)) k_ hk)); (case aO => exact (by q_nr; exact HO_14.out)); (case aS => exact q_bs); (case aL => have := LMc39.out; omega); intro v641 w40 ho hb hg hat; rw [← Ny640.out] at ho; have n0_ := Aside0.mk (Kd.R_after (ok := (fun _ => True)) (by q_nr; exact Kd.R_mono HO_7.out (fun _ hk => ⟨trivial, hk⟩)) hg hat); have n1_ := Aside0.mk (Kd.S_after (ok := (fun k_ => some k_ ≠ (.slice (some ad636) x7_2.length co11 : Value).ownBlock)) (by q_ns; exact HO_11.out) hg hat); have n2_ := Aside0.mk (hb); have n3_ := Aside0.mk (ho); clear HO_7; clear HO_11; clear HB; clear HO_14; have HO_7 := n0_; have HO_11 := n1_; have HB := n2_; have HO642 := n3_; clear n0_ n1_ n2_ n3_; (q_x ho hb hg); (try clear hat)))
                             go_roundg k4
                             case measure => have := HK1.out; have := HK2.out; have := HK3.out; have := HK4.out; omega
                             case rel => exact ⟨(y640), (wrap64 (x58_4 + 1)), q_rs, H', ⟨by have := HK1.out; have := HK2.out; have := HK3.out; have := HK4.out; omega⟩, ⟨by (try simp only [hl7_1]); (try simp only [hl7_2]); q_nr; exact Kd.R_mono HO_7.out (fun _ hk => hk.2)⟩, ⟨by (try simp only [hl7_1]); (try simp only [hl7_2]); q_ns; exact HO_11.out⟩, ⟨by (try simp only [hl7_1]); (try simp only [hl7_2]); q_nr; exact HO642.out⟩, ⟨by repeat (first | (with_reducible first | exact HB.out | apply below_alloc | apply pw_below_drewN | apply below_drew1) | exact HB.out)⟩⟩
                            ·rw [if_neg c39] at H
                             exact absurd H (by simp)
                          ·rw [if_neg c37] at H
                           exact absurd H (by simp)
                         ·rw [if_neg c36] at H
                          exact absurd H (by simp)
                        ·rw [if_neg c35] at H
                         exact absurd H (by simp)
                       ·rw [if_neg c34] at H
                        exact absurd H (by simp)
                      ·rw [if_neg c33] at H
                       exact absurd H (by simp)
                     ·rw [if_neg c32] at H
                      exact absurd H (by simp)
                    ·rw [if_neg c31] at H
                     exact absurd H (by simp)
                   ·rw [if_neg c30] at H
                    exact absurd H (by simp)
                  ·rw [if_neg c29] at H
                   have c29b0 : decide (x58_4 < (l1.length : Int)) = false := decide_eq_false c29
                   (try (have c29b0z := c29b0; simp only [hl7_1, hl7_2] at c29b0z))
                   clear c29
                   by_cases c41 : x11_3.length < 5864062014805
                   ·rw [if_pos c41] at H
                    have LMc41 := Aside0.mk c41
                    clear c41
                    obtain ⟨y643, hy643⟩ : ∃ y_ : List (List Int), y_ = (x11_3 ++ [x14_4]) := ⟨_, rfl⟩
                    replace H : (semigroupref14_Sub.l2 k4 l0 l1 x7_2 y643 l1 (l1.length : Int) (wrap64 (x52_3 + 1))) = some (r1, r2) := by first | (rw [hy643]; with_reducible exact H) | (have H2_ := (Option.bind_some _ _).symm.trans H; rw [hy643]; with_reducible exact H2_) | (have H2_ := (Option.bind_some _ _).symm.trans H; with_reducible exact H2_) | with_reducible exact H | (rw [hy643]; exact H) | exact H
                    have Ny643 := Aside0.mk hy643
                    clear hy643
                    have H' := Aside0.mk H
                    clear H
                    obtain ⟨Ao43, co43, eo43⟩ := Kd.R_slice HO_14.out
                    subst eo43
                    go_wp2_with (first | ((with_reducible refine gate_builtin (b := .append) (xs := #[.tmp 87, .tmp 89]) rfl ?_); at_builtin; refine Kd.S_append (Kd.slice 3 (Kd.int .i64)) (w0 := w) w.heap.size rfl (.tmp 87) (.tmp 89) 22 30 (.slice none 0 0) 24 rfl Try.underlying22 info30 rfl (by decide) (by omega) u11 x11_3 x14_4 [.slice Ao43 x14_4.length co43] (fun k_ => some k_ ≠ (.slice Ao11 x7_2.length co11 : Value).ownBlock) (fun k_ => some k_ = (.slice Ao43 x14_4.length co43 : Value).ownBlock) rfl rfl ?aP (fun k_ hk_ => ((Kd.R_mono (ok' := fun k_ => ((fun k_ => some k_ ≠ (.slice Ao11 x7_2.length co11 : Value).ownBlock)) k_ ∧ some k_ ≠ (u11 : Value).ownBlock) (Kd.R_apart' (HO_14.out) (Kd.S_typed HO_11.out) (by decide)) (fun k_ hk => ⟨hk.1, hk.2⟩))).1 k_ hk_.symm) ?aF ?aO ?aB ?aS ?aL ?_; (case aP => exact Kd.M_row (Kd.R_mono (Kd.R_tight rfl (Kd.R_mono (ok' := fun k_ => ((fun k_ => some k_ ≠ (.slice Ao11 x7_2.length co11 : Value).ownBlock)) k_ ∧ some k_ ≠ (u11 : Value).ownBlock) (Kd.R_apart' (HO_14.out) (Kd.S_typed HO_11.out) (by decide)) (fun k_ hk => ⟨hk.1, hk.2⟩))) (fun _ h_ => h_))); (case aB => exact q_hb); (case aF => exact (fun k_ hk => Kd.fresh' (Kd.R_lt (by q_nr; exact HO_7.out)) k_ hk)); (case aO => exact (by q_ns; exact Kd.S_mono HO_11.out (fun k_ hk => ⟨hk.1, fun e_ => hk.2 e_⟩))); (case aS => exact q_bs); (case aL => have := LMc41.out; omega); intro v644 w42 ho hb hg hat; rw [← Ny643.out] at ho; have n0_ := Aside0.mk (Kd.R_over' (by q_nr; exact HO_7.out) (Kd.S_typed (by q_ns; exact HO_11.out)) (by decide) hg); have n1_ := Aside0.mk (hb); have n2_ := Aside0.mk (ho); clear HO_7; clear HB; clear HO_11; clear HO_14; have HO_7 := n0_; have HB := n1_; have HO645 := n2_; clear n0_ n1_ n2_; (q_x ho hb hg); (try clear hat)))
                    go_roundg k4
                    case measure => have := HK1.out; have := HK2.out; have := HK3.out; have := HK4.out; omega
                    case rel => exact ⟨(y643), (wrap64 (x52_3 + 1)), q_rs, H', ⟨by have := HK1.out; have := HK2.out; have := HK3.out; have := HK4.out; omega⟩, ⟨by (try simp only [hl7_1]); (try simp only [hl7_2]); q_nr; exact Kd.R_mono HO_7.out (fun _ hk => trivial)⟩, ⟨by (try simp only [hl7_1]); (try simp only [hl7_2]); q_ns; exact HO645.out⟩, ⟨by repeat (first | (with_reducible first | exact HB.out | apply below_alloc | apply pw_below_drewN | apply below_drew1) | exact HB.out)⟩⟩
                   ·rw [if_neg c41] at H
                    exact absurd H (by simp)
               ·rw [if_neg c28] at H
                exact absurd H (by simp)
              ·rw [if_neg c27] at H
               exact absurd H (by simp)
             ·rw [if_neg c26] at H
              have c26b0 : decide (x52_3 < (l1.length : Int)) = false := decide_eq_false c26
              (try (have c26b0z := c26b0; simp only [hl7_1, hl7_2] at c26b0z))
              clear c26
              simp only [Option.some.injEq, Prod.mk.injEq] at H
              obtain ⟨rfl, rfl⟩ := H
              go_wp2
              go_ret2
              exact ⟨_, by first | rfl | q_em | q_en, by q_ns; exact Kd.S_mono HO_11.out (fun _ hk => trivial), by repeat (first | (with_reducible first | exact HB.out | apply below_alloc | apply pw_below_drewN | apply below_drew1) | exact HB.out)⟩
    ·rw [if_neg c8] at H
     exact absurd H (by simp)
   ·rw [if_neg c7] at H
    exact absurd H (by simp)
  ·replace c6 := Bool.eq_false_iff.mpr c6
   subst c6
   have H1 : (some (([] : List (List Int)), 1)) = some (r1, r2) := by rw [if_neg (show ¬ (false = true) by decide)] at H; exact H
   clear H
   have H := H1
   clear H1
   simp only [Option.some.injEq, Prod.mk.injEq] at H
   obtain ⟨rfl, rfl⟩ := H
   go_enter Try.func53, Try.ntmps53
   go_wp2_with (first | ((with_reducible refine gate_callee (f := 65) rfl ?_); refine goesL_ (some 18) rfl rfl Try.func65 (by kernel_rfl) rfl #[.slice A0 l0.length c0] rfl q_ml ?_; (with_reducible refine (semigroupref14_Validate.calls k _ _ l0 t624 _ ?side1 ?side2 A3.out).mono ?_); (case side1 => q_cc HR0.out); (case side2 => exact HC0.out); rintro e w' ⟨rfl, ⟨nd, rfl⟩⟩; refine ⟨_, rfl, ?_⟩) | ((with_reducible refine gate_callee (f := 75) rfl ?_); refine goesL_ (some 24) rfl rfl Try.func75 (by kernel_rfl) rfl #[.slice A0 l0.length c0, .slice A1 l1.length c1] rfl q_ml ?_; (with_reducible refine (semigroupref14_Ascending.calls k _ _ l0 _ _ l1 false _ ?side1 ?side2 ?side3 ?side4 A5.out).mono ?_); (case side1 => q_cc HR0.out); (case side2 => exact HC0.out); (case side3 => q_cc HR1.out); (case side4 => exact HC1.out); rintro e w' ⟨rfl, ⟨nd, rfl⟩⟩; refine ⟨_, rfl, ?_⟩))
   go_ret2
   exact ⟨_, by first | rfl | q_em | q_en, by first | exact Kd.S_nil _ _ _ _ _ | exact Kd.N_nil _ _ _ _ _ | exact Kd.V_nil _ _ _ _ _ | exact Kd.Q_nil _ _ _ _ _ | exact Kd.R_nil _ _ _ _ _, by repeat (first | (with_reducible first | exact HB.out | apply below_alloc | apply pw_below_drewN | apply below_drew1) | exact HB.out)⟩
 ·rw [if_neg c4] at H
  have c4b0 : (t624 == 0) = false := beq_eq_false_iff_ne.mpr c4
  have c4b1 : (t624 != 0) = true := bne_iff_ne.mpr c4
  simp only [Option.some.injEq, Prod.mk.injEq] at H
  obtain ⟨rfl, rfl⟩ := H
  go_enter Try.func53, Try.ntmps53
  go_wp2_with (first | ((with_reducible refine gate_callee (f := 65) rfl ?_); refine goesL_ (some 18) rfl rfl Try.func65 (by kernel_rfl) rfl #[.slice A0 l0.length c0] rfl q_ml ?_; (with_reducible refine (semigroupref14_Validate.calls k _ _ l0 t624 _ ?side1 ?side2 A3.out).mono ?_); (case side1 => q_cc HR0.out); (case side2 => exact HC0.out); rintro e w' ⟨rfl, ⟨nd, rfl⟩⟩; refine ⟨_, rfl, ?_⟩))
  go_ret2
  exact ⟨_, by first | rfl | q_em | q_en, by first | exact Kd.S_nil _ _ _ _ _ | exact Kd.N_nil _ _ _ _ _ | exact Kd.V_nil _ _ _ _ _ | exact Kd.Q_nil _ _ _ _ _ | exact Kd.R_nil _ _ _ _ _, by repeat (first | (with_reducible first | exact HB.out | apply below_alloc | apply pw_below_drewN | apply below_drew1) | exact HB.out)⟩

/-! ### semigrouplaw14_MultGenerates: function 12 -/
mutual
def semigrouplaw14_MultGenerates.j0 : Nat → List (List Int) → List Int → List Int → Bool → Option (Bool)
 | 0, _, _, _, _ => none
 | k + 1, x0, x1, x2, x19 => if x19 = true then ((semigrouplaw14_awake.f k).bind fun t647 => (some t647)) else ((mult_Generated.f k x0 x1).bind fun t648 => ((mult_Sub.f k x0 x2).bind fun bt651 => ((semigroupref14_Sub.f k x0 x2).bind fun bt655 => (if bt651.2 = bt655.2 then ((semigroupref03_SameRows.f k bt651.1 bt655.1).bind fun t659 => (semigrouplaw14_MultGenerates.j1 k x0 x1 t648 (!t659))) else (semigrouplaw14_MultGenerates.j1 k x0 x1 t648 true)))))
def semigrouplaw14_MultGenerates.j1 : Nat → List (List Int) → List Int → List Int → Bool → Option (Bool)
 | 0, _, _, _, _ => none
 | k + 1, x0, x1, x7, x44 => if x44 = true then (some false) else ((semigroupref14_Valid.f k x0).bind fun t660 => (if t660 = true then ((semigroupref14_In.f k x0 x1).bind fun t661 => (semigrouplaw14_MultGenerates.j2 k x0 x1 x7 (!t661))) else (semigrouplaw14_MultGenerates.j2 k x0 x1 x7 true)))
def semigrouplaw14_MultGenerates.j2 : Nat → List (List Int) → List Int → List Int → Bool → Option (Bool)
 | 0, _, _, _, _ => none
 | k + 1, x0, x1, x7, x53 => if x53 = true then (if (x7.length : Int) = 0 then ((semigrouplaw14_awake.f k).bind fun t662 => (some t662)) else (some false)) else ((semigroupref14_Generated.f k x0 x1).bind fun t663 => ((semigroupref03_Same.f k x7 t663).bind fun t666 => (if t666 = true then ((semigrouplaw14_awake.f k).bind fun t667 => (some t667)) else (some false))))
end
def semigrouplaw14_MultGenerates.f (k : Nat) (l0 : List (List Int)) (l1 : List Int) (l2 : List Int) : Option (Bool) := (semigroupref14_Shape.f k l0).bind fun t646 => (if t646 = 0 then (semigrouplaw14_MultGenerates.j0 k l0 l1 l2 (decide ((l0.length : Int) > 20))) else (semigrouplaw14_MultGenerates.j0 k l0 l1 l2 false))
theorem semigrouplaw14_MultGenerates.mono_l : ∀ k, (∀ y0 y1 y2 y3, LeO (semigrouplaw14_MultGenerates.j0 k y0 y1 y2 y3) (semigrouplaw14_MultGenerates.j0 (k + 1) y0 y1 y2 y3)) ∧ (∀ y0 y1 y2 y3, LeO (semigrouplaw14_MultGenerates.j1 k y0 y1 y2 y3) (semigrouplaw14_MultGenerates.j1 (k + 1) y0 y1 y2 y3)) ∧ (∀ y0 y1 y2 y3, LeO (semigrouplaw14_MultGenerates.j2 k y0 y1 y2 y3) (semigrouplaw14_MultGenerates.j2 (k + 1) y0 y1 y2 y3))
 | 0 => ⟨fun _ _ _ _ r h => by simp [semigrouplaw14_MultGenerates.j0] at h, fun _ _ _ _ r h => by simp [semigrouplaw14_MultGenerates.j1] at h, fun _ _ _ _ r h => by simp [semigrouplaw14_MultGenerates.j2] at h⟩
 | k + 1 => by
  obtain ⟨ih0, ih1, ih2⟩ := semigrouplaw14_MultGenerates.mono_l k
  refine ⟨?_, ?_, ?_⟩
  ·intro y0 y1 y2 y3
   unfold semigrouplaw14_MultGenerates.j0
   repeat' first
   | (with_reducible exact ih0 _ _ _ _)
   | (with_reducible exact ih1 _ _ _ _)
   | (with_reducible exact ih2 _ _ _ _)
   | (with_reducible exact mult_Generated.mono _ _ _)
   | (with_reducible exact mult_Sub.mono _ _ _)
   | (with_reducible exact semigrouplaw14_awake.mono _)
   | (with_reducible exact semigroupref03_Same.mono _ _ _)
   | (with_reducible exact semigroupref03_SameRows.mono _ _ _)
   | (with_reducible exact semigroupref14_Generated.mono _ _ _)
   | (with_reducible exact semigroupref14_In.mono _ _ _)
   | (with_reducible exact semigroupref14_Shape.mono _ _)
   | (with_reducible exact semigroupref14_Sub.mono _ _ _)
   | (with_reducible exact semigroupref14_Valid.mono _ _)
   | (with_reducible exact LeO.refl _)
   | (with_reducible exact LeO.none _)
   | (with_reducible refine LeO.ite ?_ ?_)
   | (with_reducible refine LeO.bind ?_ (fun _ => ?_))
   | exact ih0 _ _ _ _
   | exact ih1 _ _ _ _
   | exact ih2 _ _ _ _
   | exact mult_Generated.mono _ _ _
   | exact mult_Sub.mono _ _ _
   | exact semigrouplaw14_awake.mono _
   | exact semigroupref03_Same.mono _ _ _
   | exact semigroupref03_SameRows.mono _ _ _
   | exact semigroupref14_Generated.mono _ _ _
   | exact semigroupref14_In.mono _ _ _
   | exact semigroupref14_Shape.mono _ _
   | exact semigroupref14_Sub.mono _ _ _
   | exact semigroupref14_Valid.mono _ _
   | exact LeO.none _
   | refine LeO.ite ?_ ?_
   | refine LeO.bind ?_ (fun _ => ?_)
  ·intro y0 y1 y2 y3
   unfold semigrouplaw14_MultGenerates.j1
   repeat' first
   | (with_reducible exact ih0 _ _ _ _)
   | (with_reducible exact ih1 _ _ _ _)
   | (with_reducible exact ih2 _ _ _ _)
   | (with_reducible exact mult_Generated.mono _ _ _)
   | (with_reducible exact mult_Sub.mono _ _ _)
   | (with_reducible exact semigrouplaw14_awake.mono _)
   | (with_reducible exact semigroupref03_Same.mono _ _ _)
   | (with_reducible exact semigroupref03_SameRows.mono _ _ _)
   | (with_reducible exact semigroupref14_Generated.mono _ _ _)
   | (with_reducible exact semigroupref14_In.mono _ _ _)
   | (with_reducible exact semigroupref14_Shape.mono _ _)
   | (with_reducible exact semigroupref14_Sub.mono _ _ _)
   | (with_reducible exact semigroupref14_Valid.mono _ _)
   | (with_reducible exact LeO.refl _)
   | (with_reducible exact LeO.none _)
   | (with_reducible refine LeO.ite ?_ ?_)
   | (with_reducible refine LeO.bind ?_ (fun _ => ?_))
   | exact ih0 _ _ _ _
   | exact ih1 _ _ _ _
   | exact ih2 _ _ _ _
   | exact mult_Generated.mono _ _ _
   | exact mult_Sub.mono _ _ _
   | exact semigrouplaw14_awake.mono _
   | exact semigroupref03_Same.mono _ _ _
   | exact semigroupref03_SameRows.mono _ _ _
   | exact semigroupref14_Generated.mono _ _ _
   | exact semigroupref14_In.mono _ _ _
   | exact semigroupref14_Shape.mono _ _
   | exact semigroupref14_Sub.mono _ _ _
   | exact semigroupref14_Valid.mono _ _
   | exact LeO.none _
   | refine LeO.ite ?_ ?_
   | refine LeO.bind ?_ (fun _ => ?_)
  ·intro y0 y1 y2 y3
   unfold semigrouplaw14_MultGenerates.j2
   repeat' first
   | (with_reducible exact ih0 _ _ _ _)
   | (with_reducible exact ih1 _ _ _ _)
   | (with_reducible exact ih2 _ _ _ _)
   | (with_reducible exact mult_Generated.mono _ _ _)
   | (with_reducible exact mult_Sub.mono _ _ _)
   | (with_reducible exact semigrouplaw14_awake.mono _)
   | (with_reducible exact semigroupref03_Same.mono _ _ _)
   | (with_reducible exact semigroupref03_SameRows.mono _ _ _)
   | (with_reducible exact semigroupref14_Generated.mono _ _ _)
   | (with_reducible exact semigroupref14_In.mono _ _ _)
   | (with_reducible exact semigroupref14_Shape.mono _ _)
   | (with_reducible exact semigroupref14_Sub.mono _ _ _)
   | (with_reducible exact semigroupref14_Valid.mono _ _)
   | (with_reducible exact LeO.refl _)
   | (with_reducible exact LeO.none _)
   | (with_reducible refine LeO.ite ?_ ?_)
   | (with_reducible refine LeO.bind ?_ (fun _ => ?_))
   | exact ih0 _ _ _ _
   | exact ih1 _ _ _ _
   | exact ih2 _ _ _ _
   | exact mult_Generated.mono _ _ _
   | exact mult_Sub.mono _ _ _
   | exact semigrouplaw14_awake.mono _
   | exact semigroupref03_Same.mono _ _ _
   | exact semigroupref03_SameRows.mono _ _ _
   | exact semigroupref14_Generated.mono _ _ _
   | exact semigroupref14_In.mono _ _ _
   | exact semigroupref14_Shape.mono _ _
   | exact semigroupref14_Sub.mono _ _ _
   | exact semigroupref14_Valid.mono _ _
   | exact LeO.none _
   | refine LeO.ite ?_ ?_
   | refine LeO.bind ?_ (fun _ => ?_)
theorem semigrouplaw14_MultGenerates.mono : ∀ a0 a1 a2 k, LeO (semigrouplaw14_MultGenerates.f k a0 a1 a2) (semigrouplaw14_MultGenerates.f (k + 1) a0 a1 a2) := by
 intro a0 a1 a2 k
 obtain ⟨ih0, ih1, ih2⟩ := semigrouplaw14_MultGenerates.mono_l k
 unfold semigrouplaw14_MultGenerates.f
 repeat' first
   | (with_reducible exact ih0 _ _ _ _)
   | (with_reducible exact ih1 _ _ _ _)
   | (with_reducible exact ih2 _ _ _ _)
   | (with_reducible exact mult_Generated.mono _ _ _)
   | (with_reducible exact mult_Sub.mono _ _ _)
   | (with_reducible exact semigrouplaw14_awake.mono _)
   | (with_reducible exact semigroupref03_Same.mono _ _ _)
   | (with_reducible exact semigroupref03_SameRows.mono _ _ _)
   | (with_reducible exact semigroupref14_Generated.mono _ _ _)
   | (with_reducible exact semigroupref14_In.mono _ _ _)
   | (with_reducible exact semigroupref14_Shape.mono _ _)
   | (with_reducible exact semigroupref14_Sub.mono _ _ _)
   | (with_reducible exact semigroupref14_Valid.mono _ _)
   | (with_reducible exact LeO.refl _)
   | (with_reducible exact LeO.none _)
   | (with_reducible refine LeO.ite ?_ ?_)
   | (with_reducible refine LeO.bind ?_ (fun _ => ?_))
   | exact ih0 _ _ _ _
   | exact ih1 _ _ _ _
   | exact ih2 _ _ _ _
   | exact mult_Generated.mono _ _ _
   | exact mult_Sub.mono _ _ _
   | exact semigrouplaw14_awake.mono _
   | exact semigroupref03_Same.mono _ _ _
   | exact semigroupref03_SameRows.mono _ _ _
   | exact semigroupref14_Generated.mono _ _ _
   | exact semigroupref14_In.mono _ _ _
   | exact semigroupref14_Shape.mono _ _
   | exact semigroupref14_Sub.mono _ _ _
   | exact semigroupref14_Valid.mono _ _
   | exact LeO.none _
   | refine LeO.ite ?_ ?_
   | refine LeO.bind ?_ (fun _ => ?_)
set_option maxHeartbeats 8000000 in
set_option maxRecDepth 100000 in
theorem semigrouplaw14_MultGenerates.calls (k : Nat) (A0 : Option Addr) (c0 : Nat) (l0 : List (List Int)) (A1 : Option Addr) (c1 : Nat) (l1 : List Int) (A2 : Option Addr) (c2 : Nat) (l2 : List Int) (r : Bool) (w : World) (hr0 : Kd.C (Kd.slice 3 (Kd.int .i64)) w A0 l0.length l0) (hc0 : l0.length ≤ c0) (hr1 : Kd.C (Kd.int .i64) w A1 l1.length l1) (hc1 : l1.length ≤ c1) (hr2 : Kd.C (Kd.int .i64) w A2 l2.length l2) (hc2 : l2.length ≤ c2) (h : semigrouplaw14_MultGenerates.f k l0 l1 l2 = some r) :
  Calls Try.prog 12 #[.slice A0 l0.length c0, .slice A1 l1.length c1, .slice A2 l2.length c2] w fun e w' => e = .returned (.bool r) ∧ Below w.heap.size w w' := by
 have HR0 := Aside0.mk hr0
 have HC0 := Aside0.mk hc0
 (try clear hr0); (try clear hc0)
 have HR1 := Aside0.mk hr1
 have HC1 := Aside0.mk hc1
 (try clear hr1); (try clear hc1)
 have HR2 := Aside0.mk hr2
 have HC2 := Aside0.mk hc2
 (try clear hr2); (try clear hc2)
 have HB := Aside0.mk (Below.refl w.heap.size w)
 have H : ((semigroupref14_Shape.f k l0).bind fun t646 => (if t646 = 0 then (semigrouplaw14_MultGenerates.j0 k l0 l1 l2 (decide ((l0.length : Int) > 20))) else (semigrouplaw14_MultGenerates.j0 k l0 l1 l2 false))) = some r := h
 clear h
 have HC4 := Aside0.mk H
 clear H
 go_enter Try.func12, Try.ntmps12
 go_upto_region 1 with (fail)
 go_cut [19] (fun v19 wc => ∃ (kq : Nat) (x19_3 : Bool), v19 = .bool x19_3 ∧ Aside0 (semigrouplaw14_MultGenerates.j0 kq l0 l1 l2 x19_3 = some r) ∧ Aside0 (kq ≤ k) ∧ Aside0 (Below w.heap.size w wc))
 case first =>
  have H := HC4.out
  clear HC4
  replace H := Option.bind_eq_some_iff.mp H
  obtain ⟨t646, A50, H⟩ := H
  replace H : (if t646 = 0 then (semigrouplaw14_MultGenerates.j0 k l0 l1 l2 (decide ((l0.length : Int) > 20))) else (semigrouplaw14_MultGenerates.j0 k l0 l1 l2 false)) = some r := H
  have A5 := Aside0.mk A50
  clear A50
  by_cases c6 : t646 = 0
  ·rw [if_pos c6] at H
   have c6b0 : (t646 == 0) = true := beq_iff_eq.mpr c6
   have c6b1 : (t646 != 0) = false := bne_eq_false_iff_eq.mpr c6
   clear c6
   (first | rw [c6b0] | (simp only [i64_w, i32_w]; rw [c6b0]) | skip)
   have H' := Aside0.mk H
   clear H
   go_wp2_with (first | ((with_reducible refine gate_callee (f := 23) rfl ?_); refine goesL_ (some 13) rfl rfl Try.func23 (by kernel_rfl) rfl #[.slice A0 l0.length c0] rfl q_ml ?_; (with_reducible refine (semigroupref14_Shape.calls k _ _ l0 t646 _ ?side1 ?side2 A5.out).mono ?_); (case side1 => q_cc (Kd.C_below HR0.out HB.out)); (case side2 => exact HC0.out); rintro e w' ⟨rfl, ⟨nd, rfl⟩⟩; refine ⟨_, rfl, ?_⟩))
   go_meet
   case rel => exact ⟨_, (decide ((l0.length : Int) > 20)), q_rs, H', ⟨by first | omega | exact Nat.le_refl _⟩, ⟨by repeat (first | (with_reducible first | exact HB.out | apply below_alloc | apply pw_below_drewN | apply below_drew1) | exact HB.out)⟩⟩
  ·rw [if_neg c6] at H
   have c6b0 : (t646 == 0) = false := beq_eq_false_iff_ne.mpr c6
   have c6b1 : (t646 != 0) = true := bne_iff_ne.mpr c6
   (first | rw [c6b0] | (simp only [i64_w, i32_w]; rw [c6b0]) | skip)
   have H' := Aside0.mk H
   clear H
   go_wp2_with (first | ((with_reducible refine gate_callee (f := 23) rfl ?_); refine goesL_ (some 13) rfl rfl Try.func23 (by kernel_rfl) rfl #[.slice A0 l0.length c0] rfl q_ml ?_; (with_reducible refine (semigroupref14_Shape.calls k _ _ l0 t646 _ ?side1 ?side2 A5.out).mono ?_); (case side1 => q_cc (Kd.C_below HR0.out HB.out)); (case side2 => exact HC0.out); rintro e w' ⟨rfl, ⟨nd, rfl⟩⟩; refine ⟨_, rfl, ?_⟩))
   go_meet
   case rel => exact ⟨_, (false), q_rs, H', ⟨by first | omega | exact Nat.le_refl _⟩, ⟨by repeat (first | (with_reducible first | exact HB.out | apply below_alloc | apply pw_below_drewN | apply below_drew1) | exact HB.out)⟩⟩
 case rest =>
  clear HC4
  q_x c1 c2 p2 c6 c6b0 c6b1
  obtain ⟨kq, x19_3, rfl, HA, HJ3, HB⟩ := hcut
  cases kq with
  | zero => exact absurd HA.out (by simp [semigrouplaw14_MultGenerates.j0])
  | succ kj3 =>
   have H := HA.out
   clear HA
   simp only [semigrouplaw14_MultGenerates.j0] at H
   by_cases c7 : x19_3 = true
   ·subst c7
    have H1 : ((semigrouplaw14_awake.f kj3).bind fun t647 => (some t647)) = some r := by rw [if_pos rfl] at H; exact H
    clear H
    have H := H1
    clear H1
    replace H := Option.bind_eq_some_iff.mp H
    obtain ⟨t647, A80, H⟩ := H
    replace H : (some t647) = some r := H
    have A8 := Aside0.mk A80
    clear A80
    obtain rfl := Option.some.inj H
    go_wp2_with (first | ((with_reducible refine gate_callee (f := 16) rfl ?_); refine goesL_ (some 20) rfl rfl Try.func16 (by kernel_rfl) rfl #[] rfl q_ml ?_; (with_reducible refine (semigrouplaw14_awake.calls kj3  t647 _ A8.out).mono ?_); rintro e w9 ⟨rfl, hb⟩; refine ⟨_, rfl, ?_⟩; have n0_ := Aside0.mk (below_step q_hb hb); clear HB; have HB := n0_; clear n0_; (q_x hb hb2 hk); (try clear hi)))
    go_ret
    exact ⟨by first | rfl | q_em | q_en, by repeat (first | (with_reducible first | exact HB.out | apply below_alloc | apply pw_below_drewN | apply below_drew1) | exact HB.out)⟩
   ·replace c7 := Bool.eq_false_iff.mpr c7
    subst c7
    have H1 : ((mult_Generated.f kj3 l0 l1).bind fun t648 => ((mult_Sub.f kj3 l0 l2).bind fun bt651 => ((semigroupref14_Sub.f kj3 l0 l2).bind fun bt655 => (if bt651.2 = bt655.2 then ((semigroupref03_SameRows.f kj3 bt651.1 bt655.1).bind fun t659 => (semigrouplaw14_MultGenerates.j1 kj3 l0 l1 t648 (!t659))) else (semigrouplaw14_MultGenerates.j1 kj3 l0 l1 t648 true))))) = some r := by rw [if_neg (show ¬ (false = true) by decide)] at H; exact H
    clear H
    have H := H1
    clear H1
    replace H := Option.bind_eq_some_iff.mp H
    obtain ⟨t648, A100, H⟩ := H
    replace H : ((mult_Sub.f kj3 l0 l2).bind fun bt651 => ((semigroupref14_Sub.f kj3 l0 l2).bind fun bt655 => (if bt651.2 = bt655.2 then ((semigroupref03_SameRows.f kj3 bt651.1 bt655.1).bind fun t659 => (semigrouplaw14_MultGenerates.j1 kj3 l0 l1 t648 (!t659))) else (semigrouplaw14_MultGenerates.j1 kj3 l0 l1 t648 true)))) = some r := H
    have A10 := Aside0.mk A100
    clear A100
    replace H := Option.bind_eq_some_iff.mp H
    obtain ⟨⟨t651, t652⟩, A110, H⟩ := H
    replace H : ((semigroupref14_Sub.f kj3 l0 l2).bind fun bt655 => (if t652 = bt655.2 then ((semigroupref03_SameRows.f kj3 t651 bt655.1).bind fun t659 => (semigrouplaw14_MultGenerates.j1 kj3 l0 l1 t648 (!t659))) else (semigrouplaw14_MultGenerates.j1 kj3 l0 l1 t648 true))) = some r := H
    have A11 := Aside0.mk A110
    clear A110
    replace H := Option.bind_eq_some_iff.mp H
    obtain ⟨⟨t655, t656⟩, A120, H⟩ := H
    replace H : (if t652 = t656 then ((semigroupref03_SameRows.f kj3 t651 t655).bind fun t659 => (semigrouplaw14_MultGenerates.j1 kj3 l0 l1 t648 (!t659))) else (semigrouplaw14_MultGenerates.j1 kj3 l0 l1 t648 true)) = some r := H
    have A12 := Aside0.mk A120
    clear A120
    have HC13 := Aside0.mk H
    clear H
    go_upto_region 6 with (first | ((with_reducible refine gate_callee (f := 51) rfl ?_); refine goesL_ (some 23) rfl rfl Try.func51 (by kernel_rfl) rfl #[.slice A0 l0.length c0, .slice A1 l1.length c1] rfl q_ml ?_; (with_reducible refine (mult_Generated.calls kj3 _ _ l0 _ _ l1 t648 _ ?side1 ?side2 ?side3 ?side4 A10.out).mono ?_); (case side1 => q_cc (Kd.C_below HR0.out HB.out)); (case side2 => exact HC0.out); (case side3 => q_cc (Kd.C_below HR1.out HB.out)); (case side4 => exact HC1.out); rintro e w14 ⟨v649, rfl, ho0, hb⟩; refine ⟨_, rfl, ?_⟩; have n0_ := Aside0.mk (Kd.R_lower ho0 q_bs); have n1_ := Aside0.mk (below_step q_hb hb); clear HB; have HO650 := n0_; have HB := n1_; clear n0_ n1_; (q_x hb hb2 hk hi); (try clear ho0)) | ((with_reducible refine gate_callee (f := 52) rfl ?_); refine goesL_ (some 27) rfl rfl Try.func52 (by kernel_rfl) rfl #[.slice A0 l0.length c0, .slice A2 l2.length c2] rfl q_ml ?_; (with_reducible refine (mult_Sub.calls kj3 _ _ l0 _ _ l2 t651 t652 _ ?side1 ?side2 ?side3 ?side4 A11.out).mono ?_); (case side1 => q_cc (Kd.C_below HR0.out HB.out)); (case side2 => exact HC0.out); (case side3 => q_cc (Kd.C_below HR2.out HB.out)); (case side4 => exact HC2.out); rintro e w15 ⟨v653, rfl, ho0, hb⟩; refine ⟨_, rfl, ?_⟩; have n0_ := Aside0.mk (Kd.R_below (by q_nr; exact HO650.out) hb); have n1_ := Aside0.mk (Kd.S_lower (Kd.S_new' ho0 (Kd.R_lt (by q_nr; exact HO650.out))) q_bs); have n2_ := Aside0.mk (below_step q_hb hb); clear HO650; clear HB; have HO650 := n0_; have HO654 := n1_; have HB := n2_; clear n0_ n1_ n2_; (q_x hb hb2 hk hi); (try clear ho0)) | ((with_reducible refine gate_callee (f := 53) rfl ?_); refine goesL_ (some 33) rfl rfl Try.func53 (by kernel_rfl) rfl #[.slice A0 l0.length c0, .slice A2 l2.length c2] rfl q_ml ?_; (with_reducible refine (semigroupref14_Sub.calls kj3 _ _ l0 _ _ l2 t655 t656 _ ?side1 ?side2 ?side3 ?side4 A12.out).mono ?_); (case side1 => q_cc (Kd.C_below HR0.out HB.out)); (case side2 => exact HC0.out); (case side3 => q_cc (Kd.C_below HR2.out HB.out)); (case side4 => exact HC2.out); rintro e w16 ⟨v657, rfl, ho0, hb⟩; refine ⟨_, rfl, ?_⟩; have n0_ := Aside0.mk (Kd.R_below (by q_nr; exact HO650.out) hb); have n1_ := Aside0.mk (Kd.S_elder' (by q_ns; exact HO654.out) (by first | exact Kd.N_base ho0 | exact Kd.S_base ho0 | exact Kd.R_base ho0) hb); have n2_ := Aside0.mk (Kd.S_lower (Kd.S_new' (Kd.S_new' ho0 (Kd.R_lt (by q_nr; exact HO650.out))) (Kd.S_lt (by q_ns; exact HO654.out))) q_bs); have n3_ := Aside0.mk (below_step q_hb hb); clear HO650; clear HO654; clear HB; have HO650 := n0_; have HO654 := n1_; have HO658 := n2_; have HB := n3_; clear n0_ n1_ n2_ n3_; (q_x hb hb2 hk hi); (try clear ho0)))
    (try simp only [Act.put, List.setIfInBounds_toArray, List.set_cons_zero, List.set_cons_succ])
    go_cut [44] (fun v44 wc => ∃ (kq : Nat) (x44_12 : Bool), v44 = .bool x44_12 ∧ Aside0 (semigrouplaw14_MultGenerates.j1 kq l0 l1 t648 x44_12 = some r) ∧ Aside0 (kq ≤ kj3) ∧ Aside0 (Kd.R (Kd.int .i64) 3 wc w.heap.size (fun _ => True) v649 t648) ∧ Aside0 (Below w.heap.size w wc))
    case first =>
     have H := HC13.out
     clear HC13
     by_cases c17 : t652 = t656
     ·rw [if_pos c17] at H
      have c17b0 : (t652 == t656) = true := beq_iff_eq.mpr c17
      have c17b1 : (t652 != t656) = false := bne_eq_false_iff_eq.mpr c17
      clear c17
      (first | rw [c17b0] | (simp only [i64_w, i32_w]; rw [c17b0]) | skip)
      replace H := Option.bind_eq_some_iff.mp H
      obtain ⟨t659, A180, H⟩ := H
      replace H : (semigrouplaw14_MultGenerates.j1 kj3 l0 l1 t648 (!t659)) = some r := H
      have A18 := Aside0.mk A180
      clear A180
      have H' := Aside0.mk H
      clear H
      obtain ⟨Ao19, co19, eo19⟩ := Kd.S_slice HO654.out
      subst eo19
      obtain ⟨Ao20, co20, eo20⟩ := Kd.S_slice HO658.out
      subst eo20
      go_wp2_with (first | (go_at_call 47; (with_reducible refine (semigroupref03_SameRows.calls kj3 _ _ t651 _ _ t655 t659 _ ?side1 ?side2 ?side3 ?side4 A18.out).mono ?_); (case side1 => repeat (first | exact (Kd.S_reads' HO654.out).2.2 | (with_reducible refine Kd.C_alloc ?_ _) | (with_reducible refine Kd.C_drewN ?_ _) | (with_reducible refine Kd.C_drew ?_))); (case side2 => exact (Kd.S_reads' HO654.out).2.1); (case side3 => repeat (first | exact (Kd.S_reads' HO658.out).2.2 | (with_reducible refine Kd.C_alloc ?_ _) | (with_reducible refine Kd.C_drewN ?_ _) | (with_reducible refine Kd.C_drew ?_))); (case side4 => exact (Kd.S_reads' HO658.out).2.1); rintro e w' ⟨rfl, ⟨nd, rfl⟩⟩))
      go_meet
      case rel => exact ⟨_, (!t659), q_rs, H', ⟨by have := HJ3.out; first | omega | exact Nat.le_refl _⟩, ⟨by q_nr; exact HO650.out⟩, ⟨by repeat (first | (with_reducible first | exact HB.out | apply below_alloc | apply pw_below_drewN | apply below_drew1) | exact HB.out)⟩⟩
     ·rw [if_neg c17] at H
      have c17b0 : (t652 == t656) = false := beq_eq_false_iff_ne.mpr c17
      have c17b1 : (t652 != t656) = true := bne_iff_ne.mpr c17
      (first | rw [c17b0] | (simp only [i64_w, i32_w]; rw [c17b0]) | skip)
      have H' := Aside0.mk H
      clear H
      go_wp2
      go_meet
      case rel => exact ⟨_, (true), q_rs, H', ⟨by have := HJ3.out; first | omega | exact Nat.le_refl _⟩, ⟨by q_nr; exact HO650.out⟩, ⟨by repeat (first | (with_reducible first | exact HB.out | apply below_alloc | apply pw_below_drewN | apply below_drew1) | exact HB.out)⟩⟩
    case rest =>
     clear HC13
     q_x c1 c2 p2 c5 c6 c6b0 c6b1 c7 c12 c16 c17 c17b0 c17b1 p2
     obtain ⟨kq, x44_12, rfl, HA, HJ12, HO_7, HB⟩ := hcut
     cases kq with
     | zero => exact absurd HA.out (by simp [semigrouplaw14_MultGenerates.j1])
     | succ kj12 =>
      have H := HA.out
      clear HA
      simp only [semigrouplaw14_MultGenerates.j1] at H
      by_cases c21 : x44_12 = true
      ·subst c21
       have H1 : (some false) = some r := by rw [if_pos rfl] at H; exact H
       clear H
       have H := H1
       clear H1
       obtain rfl := Option.some.inj H
       go_wp2
       go_ret
       exact ⟨by first | rfl | q_em | q_en, by repeat (first | (with_reducible first | exact HB.out | apply below_alloc | apply pw_below_drewN | apply below_drew1) | exact HB.out)⟩
      ·replace c21 := Bool.eq_false_iff.mpr c21
       subst c21
       have H1 : ((semigroupref14_Valid.f kj12 l0).bind fun t660 => (if t660 = true then ((semigroupref14_In.f kj12 l0 l1).bind fun t661 => (semigrouplaw14_MultGenerates.j2 kj12 l0 l1 t648 (!t661))) else (semigrouplaw14_MultGenerates.j2 kj12 l0 l1 t648 true))) = some r := by rw [if_neg (show ¬ (false = true) by decide)] at H; exact H
       clear H
       have H := H1
       clear H1
       have HC22 := Aside0.mk H
       clear H
       go_upto_region 8 with (fail)
       go_cut [53] (fun v53 wc => ∃ (kq : Nat) (x53_21 : Bool), v53 = .bool x53_21 ∧ Aside0 (semigrouplaw14_MultGenerates.j2 kq l0 l1 t648 x53_21 = some r) ∧ Aside0 (kq ≤ kj12) ∧ Aside0 (Kd.R (Kd.int .i64) 3 wc w.heap.size (fun _ => True) v649 t648) ∧ Aside0 (Below w.heap.size w wc))
       case first =>
        have H := HC22.out
        clear HC22
        replace H := Option.bind_eq_some_iff.mp H
        obtain ⟨t660, A230, H⟩ := H
        replace H : (if t660 = true then ((semigroupref14_In.f kj12 l0 l1).bind fun t661 => (semigrouplaw14_MultGenerates.j2 kj12 l0 l1 t648 (!t661))) else (semigrouplaw14_MultGenerates.j2 kj12 l0 l1 t648 true)) = some r := H
        have A23 := Aside0.mk A230
        clear A230
        by_cases c24 : t660 = true
        ·subst c24
         have H1 : ((semigroupref14_In.f kj12 l0 l1).bind fun t661 => (semigrouplaw14_MultGenerates.j2 kj12 l0 l1 t648 (!t661))) = some r := by rw [if_pos rfl] at H; exact H
         clear H
         have H := H1
         clear H1
         replace H := Option.bind_eq_some_iff.mp H
         obtain ⟨t661, A250, H⟩ := H
         replace H : (semigrouplaw14_MultGenerates.j2 kj12 l0 l1 t648 (!t661)) = some r := H
         have A25 := Aside0.mk A250
         clear A250
         have H' := Aside0.mk H
         clear H
         go_wp2_with (first | ((with_reducible refine gate_callee (f := 24) rfl ?_); refine goesL_ (some 46) rfl rfl Try.func24 (by kernel_rfl) rfl #[.slice A0 l0.length c0] rfl q_ml ?_; (with_reducible refine (semigroupref14_Valid.calls kj12 _ _ l0 true _ ?side1 ?side2 A23.out).mono ?_); (case side1 => q_cc (Kd.C_below HR0.out HB.out)); (case side2 => exact HC0.out); rintro e w' ⟨rfl, ⟨nd, rfl⟩⟩; refine ⟨_, rfl, ?_⟩) | (go_at_call 32; (with_reducible refine (semigroupref14_In.calls kj12 _ _ l0 _ _ l1 t661 _ ?side1 ?side2 ?side3 ?side4 A25.out).mono ?_); (case side1 => repeat (first | exact (Kd.C_below HR0.out q_hb) | (with_reducible refine Kd.C_alloc ?_ _) | (with_reducible refine Kd.C_drewN ?_ _) | (with_reducible refine Kd.C_drew ?_))); (case side2 => exact HC0.out); (case side3 => repeat (first | exact (Kd.C_below HR1.out q_hb) | (with_reducible refine Kd.C_alloc ?_ _) | (with_reducible refine Kd.C_drewN ?_ _) | (with_reducible refine Kd.C_drew ?_))); (case side4 => exact HC1.out); rintro e w' ⟨rfl, ⟨nd, rfl⟩⟩))
         go_meet
         case rel => exact ⟨_, (!t661), q_rs, H', ⟨by have := HJ3.out; have := HJ12.out; first | omega | exact Nat.le_refl _⟩, ⟨by q_nr; exact HO_7.out⟩, ⟨by repeat (first | (with_reducible first | exact HB.out | apply below_alloc | apply pw_below_drewN | apply below_drew1) | exact HB.out)⟩⟩
        ·replace c24 := Bool.eq_false_iff.mpr c24
         subst c24
         have H1 : (semigrouplaw14_MultGenerates.j2 kj12 l0 l1 t648 true) = some r := by rw [if_neg (show ¬ (false = true) by decide)] at H; exact H
         clear H
         have H := H1
         clear H1
         have H' := Aside0.mk H
         clear H
         go_wp2_with (first | ((with_reducible refine gate_callee (f := 24) rfl ?_); refine goesL_ (some 46) rfl rfl Try.func24 (by kernel_rfl) rfl #[.slice A0 l0.length c0] rfl q_ml ?_; (with_reducible refine (semigroupref14_Valid.calls kj12 _ _ l0 false _ ?side1 ?side2 A23.out).mono ?_); (case side1 => q_cc (Kd.C_below HR0.out HB.out)); (case side2 => exact HC0.out); rintro e w' ⟨rfl, ⟨nd, rfl⟩⟩; refine ⟨_, rfl, ?_⟩))
         go_meet
         case rel => exact ⟨_, (true), q_rs, H', ⟨by have := HJ3.out; have := HJ12.out; first | omega | exact Nat.le_refl _⟩, ⟨by q_nr; exact HO_7.out⟩, ⟨by repeat (first | (with_reducible first | exact HB.out | apply below_alloc | apply pw_below_drewN | apply below_drew1) | exact HB.out)⟩⟩
       case rest =>
        clear HC22
        q_x c1 c2 p2 c5 c6 c6b0 c6b1 c7 c12 c16 c17 c17b0 c17b1 c21 c23 c24 p2
        obtain ⟨kq, x53_21, rfl, HA, HJ21, HO_7, HB⟩ := hcut
        cases kq with
        | zero => exact absurd HA.out (by simp [semigrouplaw14_MultGenerates.j2])
        | succ kj21 =>
         have H := HA.out
         clear HA
         simp only [semigrouplaw14_MultGenerates.j2] at H
         by_cases c26 : x53_21 = true
         ·subst c26
          have H1 : (if (t648.length : Int) = 0 then ((semigrouplaw14_awake.f kj21).bind fun t662 => (some t662)) else (some false)) = some r := by rw [if_pos rfl] at H; exact H
          clear H
          have H := H1
          clear H1
          by_cases c27 : (t648.length : Int) = 0
          ·rw [if_pos c27] at H
           have c27b0 : ((t648.length : Int) == 0) = true := beq_iff_eq.mpr c27
           have c27b1 : ((t648.length : Int) != 0) = false := bne_eq_false_iff_eq.mpr c27
           clear c27
           replace H := Option.bind_eq_some_iff.mp H
           obtain ⟨t662, A280, H⟩ := H
           replace H : (some t662) = some r := H
           have A28 := Aside0.mk A280
           clear A280
           obtain rfl := Option.some.inj H
           obtain ⟨Ao29, co29, eo29⟩ := Kd.R_slice HO_7.out
           subst eo29
           go_wp2_with (first | (go_at_call 16; (with_reducible refine (semigrouplaw14_awake.calls kj21  t662 _ A28.out).mono ?_); rintro e w30 ⟨rfl, hb⟩; have n0_ := Aside0.mk (Kd.R_below (by q_nr; exact HO_7.out) hb); have n1_ := Aside0.mk (below_step q_hb hb); clear HO_7; clear HB; have HO_7 := n0_; have HB := n1_; clear n0_ n1_; (q_x hb hb2 hk); (try clear hi)))
           go_ret
           exact ⟨by first | rfl | q_em | q_en, by repeat (first | (with_reducible first | exact HB.out | apply below_alloc | apply pw_below_drewN | apply below_drew1) | exact HB.out)⟩
          ·rw [if_neg c27] at H
           have c27b0 : ((t648.length : Int) == 0) = false := beq_eq_false_iff_ne.mpr c27
           have c27b1 : ((t648.length : Int) != 0) = true := bne_iff_ne.mpr c27
           have c27b2 : ¬ (t648 = []) := fun h_ => c27 (by rw [h_]; rfl)
           obtain rfl := Option.some.inj H
           obtain ⟨Ao31, co31, eo31⟩ := Kd.R_slice HO_7.out
           subst eo31
           go_wp2
           go_ret
           exact ⟨by first | rfl | q_em | q_en, by repeat (first | (with_reducible first | exact HB.out | apply below_alloc | apply pw_below_drewN | apply below_drew1) | exact HB.out)⟩
         ·replace c26 := Bool.eq_false_iff.mpr c26
          subst c26
          have H1 : ((semigroupref14_Generated.f kj21 l0 l1).bind fun t663 => ((semigroupref03_Same.f kj21 t648 t663).bind fun t666 => (if t666 = true then ((semigrouplaw14_awake.f kj21).bind fun t667 => (some t667)) else (some false)))) = some r := by rw [if_neg (show ¬ (false = true) by decide)] at H; exact H
          clear H
          have H := H1
          clear H1
          replace H := Option.bind_eq_some_iff.mp H
          obtain ⟨t663, A320, H⟩ := H
          replace H : ((semigroupref03_Same.f kj21 t648 t663).bind fun t666 => (if t666 = true then ((semigrouplaw14_awake.f kj21).bind fun t667 => (some t667)) else (some false))) = some r := H
          have A32 := Aside0.mk A320
          clear A320
          replace H := Option.bind_eq_some_iff.mp H
          obtain ⟨t666, A330, H⟩ := H
          replace H : (if t666 = true then ((semigrouplaw14_awake.f kj21).bind fun t667 => (some t667)) else (some false)) = some r := H
          have A33 := Aside0.mk A330
          clear A330
          by_cases c34 : t666 = true
          ·subst c34
           have H1 : ((semigrouplaw14_awake.f kj21).bind fun t667 => (some t667)) = some r := by rw [if_pos rfl] at H; exact H
           clear H
           have H := H1
           clear H1
           replace H := Option.bind_eq_some_iff.mp H
           obtain ⟨t667, A350, H⟩ := H
           replace H : (some t667) = some r := H
           have A35 := Aside0.mk A350
           clear A350
           obtain rfl := Option.some.inj H
           go_wp2_with (first | ((with_reducible refine gate_callee (f := 41) rfl ?_); refine goesL_ (some 63) rfl rfl Try.func41 (by kernel_rfl) rfl #[.slice A0 l0.length c0, .slice A1 l1.length c1] rfl q_ml ?_; (with_reducible refine (semigroupref14_Generated.calls kj21 _ _ l0 _ _ l1 t663 _ ?side1 ?side2 ?side3 ?side4 A32.out).mono ?_); (case side1 => q_cc (Kd.C_below HR0.out HB.out)); (case side2 => exact HC0.out); (case side3 => q_cc (Kd.C_below HR1.out HB.out)); (case side4 => exact HC1.out); rintro e w36 ⟨v664, rfl, ho0, hb⟩; refine ⟨_, rfl, ?_⟩; have n0_ := Aside0.mk (Kd.R_elder' (by q_nr; exact HO_7.out) (by first | exact Kd.N_base ho0 | exact Kd.S_base ho0 | exact Kd.R_base ho0) hb); have n1_ := Aside0.mk (Kd.R_lower (Kd.R_new' ho0 (Kd.R_lt (by q_nr; exact HO_7.out))) q_bs); have n2_ := Aside0.mk (below_step q_hb hb); clear HO_7; clear HB; have HO_7 := n0_; have HO665 := n1_; have HB := n2_; clear n0_ n1_ n2_; (q_x hb hb2 hk hi ho0); obtain ⟨Ao37, co37, eo37⟩ := Kd.R_slice HO_7.out; subst eo37; obtain ⟨Ao38, co38, eo38⟩ := Kd.R_slice HO665.out; subst eo38) | ((with_reducible refine gate_callee (f := 27) rfl ?_); refine goesL_ (some 64) rfl rfl Try.func27 (by kernel_rfl) rfl #[.slice Ao37 t648.length co37, .slice Ao38 t663.length co38] rfl q_ml ?_; (with_reducible refine (semigroupref03_Same.calls kj21 _ _ t648 _ _ t663 true _ ?side1 ?side2 ?side3 ?side4 A33.out).mono ?_); (case side1 => repeat (first | exact (Kd.R_reads' HO_7.out).2.2 | (with_reducible refine Kd.C_alloc ?_ _) | (with_reducible refine Kd.C_drewN ?_ _) | (with_reducible refine Kd.C_drew ?_))); (case side2 => exact (Kd.R_reads' HO_7.out).2.1); (case side3 => repeat (first | exact (Kd.R_reads' HO665.out).2.2 | (with_reducible refine Kd.C_alloc ?_ _) | (with_reducible refine Kd.C_drewN ?_ _) | (with_reducible refine Kd.C_drew ?_))); (case side4 => exact (Kd.R_reads' HO665.out).2.1); rintro e w' ⟨rfl, ⟨nd, rfl⟩⟩; refine ⟨_, rfl, ?_⟩) | (go_at_call 16; (with_reducible refine (semigrouplaw14_awake.calls kj21  t667 _ A35.out).mono ?_); rintro e w39 ⟨rfl, hb⟩; have n0_ := Aside0.mk (Kd.R_below (by q_nr; exact HO_7.out) hb); have n1_ := Aside0.mk (Kd.R_below (by q_nr; exact HO665.out) hb); have n2_ := Aside0.mk (below_step q_hb hb); clear HO_7; clear HO665; clear HB; have HO_7 := n0_; have HO665 := n1_; have HB := n2_; clear n0_ n1_ n2_; (q_x hb hb2 hk); (try clear hi)))
           go_ret
           exact ⟨by first | rfl | q_em | q_en, by repeat (first | (with_reducible first | exact HB.out | apply below_alloc | apply pw_below_drewN | apply below_drew1) | exact HB.out)⟩
          ·replace c34 := Bool.eq_false_iff.mpr c34
           subst c34
           have H1 : (some false) = some r := by rw [if_neg (show ¬ (false = true) by decide)] at H; exact H
           clear H
           have H := H1
           clear H1
           obtain rfl := Option.some.inj H
           go_wp2_with (first | ((with_reducible refine gate_callee (f := 41) rfl ?_); refine goesL_ (some 63) rfl rfl Try.func41 (by kernel_rfl) rfl #[.slice A0 l0.length c0, .slice A1 l1.length c1] rfl q_ml ?_; (with_reducible refine (semigroupref14_Generated.calls kj21 _ _ l0 _ _ l1 t663 _ ?side1 ?side2 ?side3 ?side4 A32.out).mono ?_); (case side1 => q_cc (Kd.C_below HR0.out HB.out)); (case side2 => exact HC0.out); (case side3 => q_cc (Kd.C_below HR1.out HB.out)); (case side4 => exact HC1.out); rintro e w40 ⟨v664, rfl, ho0, hb⟩; refine ⟨_, rfl, ?_⟩; have n0_ := Aside0.mk (Kd.R_elder' (by q_nr; exact HO_7.out) (by first | exact Kd.N_base ho0 | exact Kd.S_base ho0 | exact Kd.R_base ho0) hb); have n1_ := Aside0.mk (Kd.R_lower (Kd.R_new' ho0 (Kd.R_lt (by q_nr; exact HO_7.out))) q_bs); have n2_ := Aside0.mk (below_step q_hb hb); clear HO_7; clear HB; have HO_7 := n0_; have HO665 := n1_; have HB := n2_; clear n0_ n1_ n2_; (q_x hb hb2 hk hi ho0); obtain ⟨Ao41, co41, eo41⟩ := Kd.R_slice HO_7.out; subst eo41; obtain ⟨Ao42, co42, eo42⟩ := Kd.R_slice HO665.out; subst eo42) | ((with_reducible refine gate_callee (f := 27) rfl ?_); refine goesL_ (some 64) rfl rfl Try.func27 (by kernel_rfl) rfl #[.slice Ao41 t648.length co41, .slice Ao42 t663.length co42] rfl q_ml ?_; (with_reducible refine (semigroupref03_Same.calls kj21 _ _ t648 _ _ t663 false _ ?side1 ?side2 ?side3 ?side4 A33.out).mono ?_); (case side1 => repeat (first | exact (Kd.R_reads' HO_7.out).2.2 | (with_reducible refine Kd.C_alloc ?_ _) | (with_reducible refine Kd.C_drewN ?_ _) | (with_reducible refine Kd.C_drew ?_))); (case side2 => exact (Kd.R_reads' HO_7.out).2.1); (case side3 => repeat (first | exact (Kd.R_reads' HO665.out).2.2 | (with_reducible refine Kd.C_alloc ?_ _) | (with_reducible refine Kd.C_drewN ?_ _) | (with_reducible refine Kd.C_drew ?_))); (case side4 => exact (Kd.R_reads' HO665.out).2.1); rintro e w' ⟨rfl, ⟨nd, rfl⟩⟩; refine ⟨_, rfl, ?_⟩))
           go_ret
           exact ⟨by first | rfl | q_em | q_en, by repeat (first | (with_reducible first | exact HB.out | apply below_alloc | apply pw_below_drewN | apply below_drew1) | exact HB.out)⟩


end Go.Proofs.Ytlhckcldeojfmaa.PAll
