-- printed for this claim out of the translation; Lean checks it
import Derived.Test.YtlhckcldeojfmaaKMultInheritsP1
namespace Go.Proofs.Ytlhckcldeojfmaa.PAll
open Go.RowKit Go.Proofs.YtlhckcldeojfmaaW.PrintWords Go.Proofs.YtlhckcldeojfmaaW.PrintLast Go.Proofs.YtlhckcldeojfmaaW.PrintMore
attribute [local go_sem] max2_int min2_int max_two min_two max_three min_three max_four min_four   -- for this text's walks alone
set_option linter.unusedVariables false
set_option linter.unusedSimpArgs false
/-! ### mult_Direct: function 37 -/
mutual
def mult_Direct.j0 : Nat → List (List Int) → List (List Int) → Bool → Option ((List (List Int)))
 | 0, _, _, _ => none
 | k + 1, x0, x1, x24 => if x24 = true then (some ([] : List (List Int))) else (if 0 ≤ (wrap64 ((x0.length : Int) * (x1.length : Int))) then (if (wrap64 ((x0.length : Int) * (x1.length : Int)) : Int).toNat ≤ 11728124029610 then ((some (List.replicate (wrap64 ((x0.length : Int) * (x1.length : Int)) : Int).toNat [] : List (List Int))).bind fun y318 => (mult_Direct.l0 k x0 x1 (x1.length : Int) y318 (y318.length : Int) 0)) else (none)) else (none))
def mult_Direct.l0 : Nat → List (List Int) → List (List Int) → Int → List (List Int) → Int → Int → Option ((List (List Int)))
 | 0, _, _, _, _, _, _ => none
 | k + 1, x0, x1, x5, x6, x33, x34 => if x34 < x33 then (if 0 ≤ (x6.length : Int) then (if ((x6.length : Int) : Int).toNat ≤ 35184372088832 then (if 0 ≤ x34 then (if x34 < (x6.length : Int) then (mult_Direct.l1 k x0 x1 x5 (x6.set (x34 : Int).toNat (List.replicate ((x6.length : Int) : Int).toNat 0)) x34 x33 x34 (x6.length : Int) 0) else (none)) else (none)) else (none)) else (none)) else (some x6)
def mult_Direct.l1 : Nat → List (List Int) → List (List Int) → Int → List (List Int) → Int → Int → Int → Int → Int → Option ((List (List Int)))
 | 0, _, _, _, _, _, _, _, _, _ => none
 | k + 1, x0, x1, x5, x6, x7, x33, x34, x44, x45 => if x45 < x44 then (if 0 ≤ x7 then (if x7 < (x6.length : Int) then (if x5 = 0 then (none) else (if 0 ≤ (wrap64 (Int.tdiv x7 x5)) then (if (wrap64 (Int.tdiv x7 x5)) < (x0.length : Int) then (if 0 ≤ (wrap64 (Int.tdiv x45 x5)) then (if (wrap64 (Int.tdiv x45 x5)) < ((rd_L1 x0 (wrap64 (Int.tdiv x7 x5))).length : Int) then (if 0 ≤ (Int.tmod x7 x5) then (if (Int.tmod x7 x5) < (x1.length : Int) then (if 0 ≤ (Int.tmod x45 x5) then (if (Int.tmod x45 x5) < ((rd_L1 x1 (Int.tmod x7 x5)).length : Int) then (if 0 ≤ x45 then (if x45 < ((rd_L1 x6 x7).length : Int) then (mult_Direct.l1 k x0 x1 x5 (x6.set (x7 : Int).toNat ((rd_L1 x6 x7).set (x45 : Int).toNat (wrap64 ((wrap64 ((rd (rd_L1 x0 (wrap64 (Int.tdiv x7 x5))) (wrap64 (Int.tdiv x45 x5))) * x5)) + (rd (rd_L1 x1 (Int.tmod x7 x5)) (Int.tmod x45 x5)))))) x7 x33 x34 x44 (wrap64 (x45 + 1))) else (none)) else (none)) else (none)) else (none)) else (none)) else (none)) else (none)) else (none)) else (none)) else (none))) else (none)) else (none)) else (mult_Direct.l0 k x0 x1 x5 x6 x33 (wrap64 (x34 + 1)))
end
def mult_Direct.f (k : Nat) (l0 : List (List Int)) (l1 : List (List Int)) : Option ((List (List Int))) := (mult_Validate.f k l0).bind fun t316 => (if t316 = 0 then ((mult_Validate.f k l1).bind fun t317 => (if t317 = 0 then (mult_Direct.j0 k l0 l1 (decide ((wrap64 ((l0.length : Int) * (l1.length : Int))) > 400))) else (mult_Direct.j0 k l0 l1 true))) else (mult_Direct.j0 k l0 l1 true))
theorem mult_Direct.mono_l : ∀ k, (∀ y0 y1 y2, LeO (mult_Direct.j0 k y0 y1 y2) (mult_Direct.j0 (k + 1) y0 y1 y2)) ∧ (∀ y0 y1 y2 y3 y4 y5, LeO (mult_Direct.l0 k y0 y1 y2 y3 y4 y5) (mult_Direct.l0 (k + 1) y0 y1 y2 y3 y4 y5)) ∧ (∀ y0 y1 y2 y3 y4 y5 y6 y7 y8, LeO (mult_Direct.l1 k y0 y1 y2 y3 y4 y5 y6 y7 y8) (mult_Direct.l1 (k + 1) y0 y1 y2 y3 y4 y5 y6 y7 y8))
 | 0 => ⟨fun _ _ _ r h => by simp [mult_Direct.j0] at h, fun _ _ _ _ _ _ r h => by simp [mult_Direct.l0] at h, fun _ _ _ _ _ _ _ _ _ r h => by simp [mult_Direct.l1] at h⟩
 | k + 1 => by
  obtain ⟨ih0, ih1, ih2⟩ := mult_Direct.mono_l k
  refine ⟨?_, ?_, ?_⟩
  ·intro y0 y1 y2
   unfold mult_Direct.j0
   repeat' first
   | (with_reducible exact ih0 _ _ _)
   | (with_reducible exact ih1 _ _ _ _ _ _)
   | (with_reducible exact ih2 _ _ _ _ _ _ _ _ _)
   | (with_reducible exact mult_Validate.mono _ _)
   | (with_reducible exact LeO.refl _)
   | (with_reducible exact LeO.none _)
   | (with_reducible refine LeO.ite ?_ ?_)
   | (with_reducible refine LeO.bind ?_ (fun _ => ?_))
   | exact ih0 _ _ _
   | exact ih1 _ _ _ _ _ _
   | exact ih2 _ _ _ _ _ _ _ _ _
   | exact mult_Validate.mono _ _
   | exact LeO.none _
   | refine LeO.ite ?_ ?_
   | refine LeO.bind ?_ (fun _ => ?_)
  ·intro y0 y1 y2 y3 y4 y5
   unfold mult_Direct.l0
   repeat' first
   | (with_reducible exact ih0 _ _ _)
   | (with_reducible exact ih1 _ _ _ _ _ _)
   | (with_reducible exact ih2 _ _ _ _ _ _ _ _ _)
   | (with_reducible exact mult_Validate.mono _ _)
   | (with_reducible exact LeO.refl _)
   | (with_reducible exact LeO.none _)
   | (with_reducible refine LeO.ite ?_ ?_)
   | (with_reducible refine LeO.bind ?_ (fun _ => ?_))
   | exact ih0 _ _ _
   | exact ih1 _ _ _ _ _ _
   | exact ih2 _ _ _ _ _ _ _ _ _
   | exact mult_Validate.mono _ _
   | exact LeO.none _
   | refine LeO.ite ?_ ?_
   | refine LeO.bind ?_ (fun _ => ?_)
  ·intro y0 y1 y2 y3 y4 y5 y6 y7 y8
   unfold mult_Direct.l1
   repeat' first
   | (with_reducible exact ih0 _ _ _)
   | (with_reducible exact ih1 _ _ _ _ _ _)
   | (with_reducible exact ih2 _ _ _ _ _ _ _ _ _)
   | (with_reducible exact mult_Validate.mono _ _)
   | (with_reducible exact LeO.refl _)
   | (with_reducible exact LeO.none _)
   | (with_reducible refine LeO.ite ?_ ?_)
   | (with_reducible refine LeO.bind ?_ (fun _ => ?_))
   | exact ih0 _ _ _
   | exact ih1 _ _ _ _ _ _
   | exact ih2 _ _ _ _ _ _ _ _ _
   | exact mult_Validate.mono _ _
   | exact LeO.none _
   | refine LeO.ite ?_ ?_
   | refine LeO.bind ?_ (fun _ => ?_)
theorem mult_Direct.mono : ∀ a0 a1 k, LeO (mult_Direct.f k a0 a1) (mult_Direct.f (k + 1) a0 a1) := by
 intro a0 a1 k
 obtain ⟨ih0, ih1, ih2⟩ := mult_Direct.mono_l k
 unfold mult_Direct.f
 repeat' first
   | (with_reducible exact ih0 _ _ _)
   | (with_reducible exact ih1 _ _ _ _ _ _)
   | (with_reducible exact ih2 _ _ _ _ _ _ _ _ _)
   | (with_reducible exact mult_Validate.mono _ _)
   | (with_reducible exact LeO.refl _)
   | (with_reducible exact LeO.none _)
   | (with_reducible refine LeO.ite ?_ ?_)
   | (with_reducible refine LeO.bind ?_ (fun _ => ?_))
   | exact ih0 _ _ _
   | exact ih1 _ _ _ _ _ _
   | exact ih2 _ _ _ _ _ _ _ _ _
   | exact mult_Validate.mono _ _
   | exact LeO.none _
   | refine LeO.ite ?_ ?_
   | refine LeO.bind ?_ (fun _ => ?_)
def mult_Direct.T12 : Bool × List (List Nat × List Nat) := (true, [([], []), ([], []), ([0, 1], [0, 1]), ([2], [2]), ([], []), ([], []), ([], []), ([], []), ([6, 7], [6, 7]), ([5, 8], [5, 8]), ([9], [9]), ([], []), ([], []), ([11, 12], [11, 12]), ([10, 13], [10, 13]), ([14], [14]), ([], []), ([15, 16], [15, 16]), ([], []), ([], []), ([], []), ([19, 20], [19, 20]), ([18, 21], [18, 21]), ([22], [22]), ([], []), ([], []), ([24, 25], [24, 25]), ([23, 26], [23, 26]), ([27], [27]), ([17, 28], [17, 28]), ([3, 4, 0, 1, 2, 3, 4, 5, 6, 7, 8, 9, 10, 11, 12, 13, 14, 15, 16, 17, 18, 19, 20, 21, 22, 23, 24, 25, 26, 27, 28, 29], [3, 4]), ([30, 29, 0, 1, 2, 3, 4, 5, 6, 7, 8, 9, 10, 11, 12, 13, 14, 15, 16, 17, 18, 19, 20, 21, 22, 23, 24, 25, 26, 27, 28, 29], [29, 30])])
def mult_Direct.B12 : List Nat := [0, 0, 3, 7, 0, 0, 0, 0, 192, 480, 992, 0, 0, 6144, 16352, 32736, 0, 131040, 0, 0, 0, 1572864, 3932160, 8126464, 0, 0, 50331648, 133955584, 268173312, 536870880, 1073741823, 2147483647]
theorem mult_Direct.tab12 : rtab .any (opsOf Try.f37 12) = mult_Direct.T12 := by kernel_rfl
theorem mult_Direct.bits12 : waitsOk mult_Direct.T12.2 mult_Direct.B12 = true := by kernel_rfl
set_option maxHeartbeats 8000000 in
set_option maxRecDepth 100000 in
theorem mult_Direct.calls (k : Nat) (A0 : Option Addr) (c0 : Nat) (l0 : List (List Int)) (A1 : Option Addr) (c1 : Nat) (l1 : List (List Int)) (r : List (List Int)) (w : World) (hr0 : Kd.C (Kd.slice 3 (Kd.int .i64)) w A0 l0.length l0) (hc0 : l0.length ≤ c0) (hr1 : Kd.C (Kd.slice 3 (Kd.int .i64)) w A1 l1.length l1) (hc1 : l1.length ≤ c1) (h : mult_Direct.f k l0 l1 = some r) :
  Calls Try.prog 37 #[.slice A0 l0.length c0, .slice A1 l1.length c1] w fun e w' => ∃ v0_ : Value, e = .returned (v0_) ∧ Kd.S (Kd.slice 3 (Kd.int .i64)) 30 w' w.heap.size (fun _ => True) v0_ r ∧ Below w.heap.size w w' := by
 have HR0 := Aside0.mk hr0
 have HC0 := Aside0.mk hc0
 (try clear hr0); (try clear hc0)
 have HR1 := Aside0.mk hr1
 have HC1 := Aside0.mk hc1
 (try clear hr1); (try clear hc1)
 have HB := Aside0.mk (Below.refl w.heap.size w)
 have H : ((mult_Validate.f k l0).bind fun t316 => (if t316 = 0 then ((mult_Validate.f k l1).bind fun t317 => (if t317 = 0 then (mult_Direct.j0 k l0 l1 (decide ((wrap64 ((l0.length : Int) * (l1.length : Int))) > 400))) else (mult_Direct.j0 k l0 l1 true))) else (mult_Direct.j0 k l0 l1 true))) = some r := h
 clear h
 have HC3 := Aside0.mk H
 clear H
 go_enter Try.func37, Try.ntmps37
 go_upto_region 1 with (fail)
 go_cut [24] (fun v24 wc => ∃ (kq : Nat) (x24_2 : Bool), v24 = .bool x24_2 ∧ Aside0 (mult_Direct.j0 kq l0 l1 x24_2 = some r) ∧ Aside0 (kq ≤ k) ∧ Aside0 (Below w.heap.size w wc))
 case first =>
  have H := HC3.out
  clear HC3
  replace H := Option.bind_eq_some_iff.mp H
  obtain ⟨t316, A40, H⟩ := H
  replace H : (if t316 = 0 then ((mult_Validate.f k l1).bind fun t317 => (if t317 = 0 then (mult_Direct.j0 k l0 l1 (decide ((wrap64 ((l0.length : Int) * (l1.length : Int))) > 400))) else (mult_Direct.j0 k l0 l1 true))) else (mult_Direct.j0 k l0 l1 true)) = some r := H
  have A4 := Aside0.mk A40
  clear A40
  by_cases c5 : t316 = 0
  ·rw [if_pos c5] at H
   have c5b0 : (t316 == 0) = true := beq_iff_eq.mpr c5
   have c5b1 : (t316 != 0) = false := bne_eq_false_iff_eq.mpr c5
   clear c5
   (first | rw [c5b0] | (simp only [i64_w, i32_w]; rw [c5b0]) | skip)
   replace H := Option.bind_eq_some_iff.mp H
   obtain ⟨t317, A60, H⟩ := H
   replace H : (if t317 = 0 then (mult_Direct.j0 k l0 l1 (decide ((wrap64 ((l0.length : Int) * (l1.length : Int))) > 400))) else (mult_Direct.j0 k l0 l1 true)) = some r := H
   have A6 := Aside0.mk A60
   clear A60
   by_cases c7 : t317 = 0
   ·rw [if_pos c7] at H
    have c7b0 : (t317 == 0) = true := beq_iff_eq.mpr c7
    have c7b1 : (t317 != 0) = false := bne_eq_false_iff_eq.mpr c7
    clear c7
    have H' := Aside0.mk H
    clear H
    go_wp2_with (first | ((with_reducible refine gate_callee (f := 19) rfl ?_); refine goesL_ (some 10) rfl rfl Try.func19 (by kernel_rfl) rfl #[.slice A0 l0.length c0] rfl (by (try simp only [List.map_toArray, List.map_cons, List.map_nil]); first | done | rfl | (simp only [List.length_drop, List.length_take]; rfl)) ?_; (with_reducible refine (mult_Validate.calls k _ _ l0 t316 _ ?side1 ?side2 A4.out).mono ?_); (case side1 => repeat (first | exact (Kd.C_below HR0.out HB.out) | (with_reducible refine Kd.C_alloc ?_ _) | (with_reducible refine Kd.C_drewN ?_ _) | (with_reducible refine Kd.C_drew ?_))); (case side2 => exact HC0.out); rintro e w' ⟨rfl, ⟨nd, rfl⟩⟩; refine ⟨_, rfl, ?_⟩) | (go_at_call 19; (with_reducible refine (mult_Validate.calls k _ _ l1 t317 _ ?side1 ?side2 A6.out).mono ?_); (case side1 => repeat (first | exact (Kd.C_below HR1.out (by repeat (first | (with_reducible first | exact HB.out | apply below_alloc | apply pw_below_drewN | apply below_drew1) | exact HB.out))) | (with_reducible refine Kd.C_alloc ?_ _) | (with_reducible refine Kd.C_drewN ?_ _) | (with_reducible refine Kd.C_drew ?_))); (case side2 => exact HC1.out); rintro e w' ⟨rfl, ⟨nd, rfl⟩⟩))
    go_meet
    case rel => exact ⟨_, (decide ((wrap64 ((l0.length : Int) * (l1.length : Int))) > 400)), (by first | rfl | (simp; done) | (simp [*]; done)), H', ⟨by first | omega | exact Nat.le_refl _⟩, ⟨by repeat (first | (with_reducible first | exact HB.out | apply below_alloc | apply pw_below_drewN | apply below_drew1) | exact HB.out)⟩⟩
   ·rw [if_neg c7] at H
    have c7b0 : (t317 == 0) = false := beq_eq_false_iff_ne.mpr c7
    have c7b1 : (t317 != 0) = true := bne_iff_ne.mpr c7
    have H' := Aside0.mk H
    clear H
    go_wp2_with (first | ((with_reducible refine gate_callee (f := 19) rfl ?_); refine goesL_ (some 10) rfl rfl Try.func19 (by kernel_rfl) rfl #[.slice A0 l0.length c0] rfl (by (try simp only [List.map_toArray, List.map_cons, List.map_nil]); first | done | rfl | (simp only [List.length_drop, List.length_take]; rfl)) ?_; (with_reducible refine (mult_Validate.calls k _ _ l0 t316 _ ?side1 ?side2 A4.out).mono ?_); (case side1 => repeat (first | exact (Kd.C_below HR0.out HB.out) | (with_reducible refine Kd.C_alloc ?_ _) | (with_reducible refine Kd.C_drewN ?_ _) | (with_reducible refine Kd.C_drew ?_))); (case side2 => exact HC0.out); rintro e w' ⟨rfl, ⟨nd, rfl⟩⟩; refine ⟨_, rfl, ?_⟩) | (go_at_call 19; (with_reducible refine (mult_Validate.calls k _ _ l1 t317 _ ?side1 ?side2 A6.out).mono ?_); (case side1 => repeat (first | exact (Kd.C_below HR1.out (by repeat (first | (with_reducible first | exact HB.out | apply below_alloc | apply pw_below_drewN | apply below_drew1) | exact HB.out))) | (with_reducible refine Kd.C_alloc ?_ _) | (with_reducible refine Kd.C_drewN ?_ _) | (with_reducible refine Kd.C_drew ?_))); (case side2 => exact HC1.out); rintro e w' ⟨rfl, ⟨nd, rfl⟩⟩))
    go_meet
    case rel => exact ⟨_, (true), (by first | rfl | (simp; done) | (simp [*]; done)), H', ⟨by first | omega | exact Nat.le_refl _⟩, ⟨by repeat (first | (with_reducible first | exact HB.out | apply below_alloc | apply pw_below_drewN | apply below_drew1) | exact HB.out)⟩⟩
  ·rw [if_neg c5] at H
   have c5b0 : (t316 == 0) = false := beq_eq_false_iff_ne.mpr c5
   have c5b1 : (t316 != 0) = true := bne_iff_ne.mpr c5
   (first | rw [c5b0] | (simp only [i64_w, i32_w]; rw [c5b0]) | skip)
   have H' := Aside0.mk H
   clear H
   go_wp2_with (first | ((with_reducible refine gate_callee (f := 19) rfl ?_); refine goesL_ (some 10) rfl rfl Try.func19 (by kernel_rfl) rfl #[.slice A0 l0.length c0] rfl (by (try simp only [List.map_toArray, List.map_cons, List.map_nil]); first | done | rfl | (simp only [List.length_drop, List.length_take]; rfl)) ?_; (with_reducible refine (mult_Validate.calls k _ _ l0 t316 _ ?side1 ?side2 A4.out).mono ?_); (case side1 => repeat (first | exact (Kd.C_below HR0.out HB.out) | (with_reducible refine Kd.C_alloc ?_ _) | (with_reducible refine Kd.C_drewN ?_ _) | (with_reducible refine Kd.C_drew ?_))); (case side2 => exact HC0.out); rintro e w' ⟨rfl, ⟨nd, rfl⟩⟩; refine ⟨_, rfl, ?_⟩))
   go_meet
   case rel => exact ⟨_, (true), (by first | rfl | (simp; done) | (simp [*]; done)), H', ⟨by first | omega | exact Nat.le_refl _⟩, ⟨by repeat (first | (with_reducible first | exact HB.out | apply below_alloc | apply pw_below_drewN | apply below_drew1) | exact HB.out)⟩⟩
 case rest =>
  clear HC3
  try clear c1
  try clear p2
  try clear c3
  try clear c5
  try clear c5b0
  try clear c5b1
  try clear p6
  try clear c7
  try clear c7b0
  try clear c7b1
  obtain ⟨kq, x24_2, rfl, HA, HJ2, HB⟩ := hcut
  cases kq with
  | zero => exact absurd HA.out (by simp [mult_Direct.j0])
  | succ kj2 =>
   have H := HA.out
   clear HA
   simp only [mult_Direct.j0] at H
   by_cases c8 : x24_2 = true
   ·subst c8
    have H1 : (some ([] : List (List Int))) = some r := by rw [if_pos rfl] at H; exact H
    clear H
    have H := H1
    clear H1
    obtain rfl := Option.some.inj H
    go_wp2
    go_ret
    exact ⟨_, by first | rfl | (simp [errW_none, errW_some] <;> rfl) | (simp [*, errW_none, errW_some] <;> rfl), by first | exact Kd.S_nil _ _ _ _ _ | exact Kd.N_nil _ _ _ _ _ | exact Kd.V_nil _ _ _ _ _ | exact Kd.Q_nil _ _ _ _ _ | exact Kd.R_nil _ _ _ _ _, by repeat (first | (with_reducible first | exact HB.out | apply below_alloc | apply pw_below_drewN | apply below_drew1) | exact HB.out)⟩
   ·replace c8 := Bool.eq_false_iff.mpr c8
    subst c8
    have H1 : (if 0 ≤ (wrap64 ((l0.length : Int) * (l1.length : Int))) then (if (wrap64 ((l0.length : Int) * (l1.length : Int)) : Int).toNat ≤ 11728124029610 then ((some (List.replicate (wrap64 ((l0.length : Int) * (l1.length : Int)) : Int).toNat [] : List (List Int))).bind fun y318 => (mult_Direct.l0 kj2 l0 l1 (l1.length : Int) y318 (y318.length : Int) 0)) else (none)) else (none)) = some r := by rw [if_neg (show ¬ (false = true) by decide)] at H; exact H
    clear H
    have H := H1
    clear H1
    obtain ⟨ji9, hji9⟩ : ∃ j_ : Int, (wrap64 ((l0.length : Int) * (l1.length : Int))) = j_ := ⟨_, rfl⟩
    replace H : (if 0 ≤ (ji9) then (if (ji9 : Int).toNat ≤ 11728124029610 then ((some (List.replicate (ji9 : Int).toNat [] : List (List Int))).bind fun y318 => (mult_Direct.l0 kj2 l0 l1 (l1.length : Int) y318 (y318.length : Int) 0)) else (none)) else (none)) = some r := by first | (rw [hji9] at H; exact H) | (simp only [hji9] at H ⊢; exact H)
    have hji9w : (IntKind.i64.wrap ((l0.length : Int) * (l1.length : Int))) = ji9 := (i64_w _).trans hji9
    by_cases c10 : 0 ≤ (ji9)
    ·rw [if_pos c10] at H
     have c10b0 := eq_true c10
     have c10b1 : decide (0 ≤ (ji9)) = true := decide_eq_true c10
     clear c10
     by_cases c11 : (ji9 : Int).toNat ≤ 11728124029610
     ·rw [if_pos c11] at H
      have c11b0 := eq_true c11
      have c11b1 : decide ((ji9 : Int).toNat ≤ 11728124029610) = true := decide_eq_true c11
      clear c11
      obtain ⟨y318, hy318⟩ : ∃ y_ : List (List Int), y_ = (List.replicate (ji9 : Int).toNat []) := ⟨_, rfl⟩
      replace H : (mult_Direct.l0 kj2 l0 l1 (l1.length : Int) y318 (y318.length : Int) 0) = some r := by first | (rw [hy318]; with_reducible exact H) | (have H2_ := (Option.bind_some _ _).symm.trans H; rw [hy318]; with_reducible exact H2_) | (have H2_ := (Option.bind_some _ _).symm.trans H; with_reducible exact H2_) | with_reducible exact H | (rw [hy318]; exact H) | exact H
      have Ny318 := Aside0.mk hy318
      clear hy318
      have H' := Aside0.mk H
      clear H
      go_wp2_with (first | ((with_reducible refine gate_dst (N := 31) rfl ?_); (try (refine gate_guard (by rfl) ?_; dsimp only)); refine Kd.S_make (Kd.slice 3 (Kd.int .i64)) _ 30 rfl (N := 31) rfl 22 _ _ rfl ji9 rfl rfl Try.underlying22 (.slice none 0 0) 24 info30 rfl (by decide) (by omega) [] (ok := fun _ => True) (okp := fun _ => True) ⟨_, rfl, Kd.R_nil _ _ _ _ _⟩ (fun _ hk => hk) trivial (of_decide_eq_true (by first | (with_reducible assumption) | assumption)) (Nat.le_trans (Nat.mul_le_mul_right _ (of_decide_eq_true (by first | (with_reducible assumption) | assumption) : ji9.toNat ≤ 11728124029610)) (by omega)) (Below.refl _ _) (Nat.le_refl _) ?_; intro v319 w12 ho13 hb hg_ hnew_; (try clear hg_); (try clear hnew_); (first | rw [← Ny318.out] at ho13 | (simp only [Int.reduceToNat] at ho13; rw [← Ny318.out] at ho13)); have n0_ := Aside0.mk (Kd.S_lower ho13 (below_size (by repeat (first | (with_reducible first | exact HB.out | apply below_alloc | apply pw_below_drewN | apply below_drew1) | exact HB.out)))); have n1_ := Aside0.mk (below_step (by repeat (first | (with_reducible first | exact HB.out | apply below_alloc | apply pw_below_drewN | apply below_drew1) | exact HB.out)) hb); clear HB; have HO320 := n0_; have HB := n1_; clear n0_ n1_; (try clear hb); (try clear ho13); obtain ⟨Ao14, co14, eo14⟩ := Kd.S_slice HO320.out; subst eo14))
      go_loopg [34] kj2 (fun kq v34 w' => ∃ (x6_2 : List (List Int)) (x34_2 : Int), v34 = .int .i64 x34_2 ∧ Aside0 (mult_Direct.l0 kq l0 l1 (l1.length : Int) x6_2 (y318.length : Int) x34_2 = some r) ∧ Aside0 (kq ≤ kj2) ∧ Aside0 (Kd.S (Kd.slice 3 (Kd.int .i64)) 30 w' w.heap.size (fun _ => True) (.slice Ao14 y318.length co14) x6_2) ∧ Aside0 (Below w.heap.size w w'))
      case atStart => exact ⟨(y318), (0), (by first | rfl | (simp; done) | (simp [*]; done)), H', ⟨Nat.le_refl _⟩, ⟨by (with_reducible repeat (first | apply Kd.S_alloc | apply Kd.S_drewN | apply Kd.S_drew)); exact HO320.out⟩, ⟨by repeat (first | (with_reducible first | exact HB.out | apply below_alloc | apply pw_below_drewN | apply below_drew1) | exact HB.out)⟩⟩
      case round =>
       (try clear hji9); (try clear hji9w)
       clear H'
       try clear c1
       try clear p2
       try clear c3
       try clear c5
       try clear c5b0
       try clear c5b1
       try clear p6
       try clear c7
       try clear c7b0
       try clear c7b1
       try clear c8
       try clear c10
       try clear c10b0
       try clear c10b1
       try clear c11
       try clear c11b0
       try clear c11b1
       try clear p2
       try clear p6
       obtain ⟨x6_2, x34_2, rfl, HA, HK2, HO_6, HB⟩ := hrel
       have hl6_2 := (Kd.S_reads' HO_6.out).1
       rw [hl6_2] at HO_6
       (try simp only [hl6_2])
       cases gk with
       | zero => exact absurd HA.out (by simp [mult_Direct.l0])
       | succ k2 =>
        have H := HA.out
        clear HA
        simp only [mult_Direct.l0] at H
        by_cases c15 : x34_2 < (y318.length : Int)
        ·rw [if_pos c15] at H
         have c15b0 : decide (x34_2 < (y318.length : Int)) = true := decide_eq_true c15
         (try (have c15b0z := c15b0; simp only [hl6_2] at c15b0z))
         clear c15
         by_cases c16 : 0 ≤ (x6_2.length : Int)
         ·rw [if_pos c16] at H
          have c16b0 := eq_true c16
          have c16b1 : decide (0 ≤ (x6_2.length : Int)) = true := decide_eq_true c16
          (try (have c16b1z := c16b1; simp only [hl6_2] at c16b1z))
          clear c16
          by_cases c17 : ((x6_2.length : Int) : Int).toNat ≤ 35184372088832
          ·rw [if_pos c17] at H
           have c17b0 := eq_true c17
           have c17b1 : decide (((x6_2.length : Int) : Int).toNat ≤ 35184372088832) = true := decide_eq_true c17
           (try (have c17b1z := c17b1; simp only [hl6_2] at c17b1z))
           clear c17
           obtain ⟨y321, hy321⟩ : ∃ y_ : List Int, y_ = (List.replicate ((x6_2.length : Int) : Int).toNat 0) := ⟨_, rfl⟩
           replace H : (if 0 ≤ x34_2 then (if x34_2 < (x6_2.length : Int) then (mult_Direct.l1 k2 l0 l1 (l1.length : Int) (x6_2.set (x34_2 : Int).toNat y321) x34_2 (y318.length : Int) x34_2 (x6_2.length : Int) 0) else (none)) else (none)) = some r := by first | (rw [hy321]; with_reducible exact H) | (have H2_ := (Option.bind_some _ _).symm.trans H; rw [hy321]; with_reducible exact H2_) | (have H2_ := (Option.bind_some _ _).symm.trans H; with_reducible exact H2_) | with_reducible exact H | (rw [hy321]; exact H) | exact H
           have Ny321 := Aside0.mk hy321
           clear hy321
           by_cases c18 : 0 ≤ x34_2
           ·rw [if_pos c18] at H
            have c18b0 : decide (0 ≤ x34_2) = true := decide_eq_true c18
            clear c18
            by_cases c19 : x34_2 < (x6_2.length : Int)
            ·rw [if_pos c19] at H
             have c19b0 : decide (x34_2 < (x6_2.length : Int)) = true := decide_eq_true c19
             (try (have c19b0z := c19b0; simp only [hl6_2] at c19b0z))
             clear c19
             obtain ⟨y324, hy324⟩ : ∃ y_ : List (List Int), y_ = (x6_2.set (x34_2 : Int).toNat y321) := ⟨_, rfl⟩
             replace H : (mult_Direct.l1 k2 l0 l1 (l1.length : Int) y324 x34_2 (y318.length : Int) x34_2 (x6_2.length : Int) 0) = some r := by first | (rw [hy324]; with_reducible exact H) | (have H2_ := (Option.bind_some _ _).symm.trans H; rw [hy324]; with_reducible exact H2_) | (have H2_ := (Option.bind_some _ _).symm.trans H; with_reducible exact H2_) | with_reducible exact H | (rw [hy324]; exact H) | exact H
             have Ny324 := Aside0.mk hy324
             clear hy324
             have H' := Aside0.mk H
             clear H
             go_wp2_with (first | ((with_reducible refine gate_dst (N := 41) rfl ?_); (try (refine gate_guard (by rfl) ?_; dsimp only)); refine Kd.R_make (Kd.int .i64) _ 3 rfl (N := 41) rfl 30 _ _ rfl (x6_2.length : Int) rfl rfl Try.underlying30 (.int .i64 0) 8 info3 rfl (by decide) (by omega) 0 (ok := fun _ => True) (okp := fun _ => True) rfl (fun _ hk => hk) trivial (of_decide_eq_true (by first | (with_reducible assumption) | assumption)) (Nat.le_trans (Nat.mul_le_mul_right _ (of_decide_eq_true (by first | (with_reducible assumption) | assumption) : (x6_2.length : Int).toNat ≤ 35184372088832)) (by omega)) (Below.refl _ _) (Nat.le_refl _) ?_; intro v322 w21 ho22 hb hg_ hnew_; (try clear hg_); (try clear hnew_); (first | rw [← Ny321.out] at ho22 | (simp only [Int.reduceToNat] at ho22; rw [← Ny321.out] at ho22)); have n0_ := Aside0.mk (Kd.S_elder' (by (with_reducible repeat (first | apply Kd.S_alloc | apply Kd.S_drewN | apply Kd.S_drew)); exact HO_6.out) (Kd.R_base ho22) hb); have n1_ := Aside0.mk (Kd.R_lower ho22 (below_size (by repeat (first | (with_reducible first | exact HB.out | apply below_alloc | apply pw_below_drewN | apply below_drew1) | exact HB.out)))); have n2_ := Aside0.mk (below_step (by repeat (first | (with_reducible first | exact HB.out | apply below_alloc | apply pw_below_drewN | apply below_drew1) | exact HB.out)) hb); clear HO_6; clear HB; have HO_6 := n0_; have HO323 := n1_; have HB := n2_; clear n0_ n1_ n2_; (try clear hb); (try clear ho22); have p20 : 0 ≤ (x34_2 : Int) := of_decide_eq_true (by first | (with_reducible assumption) | assumption); have q20 : (x34_2 : Int) < ((x6_2.length : Int) : Int) := of_decide_eq_true (by first | (with_reducible assumption) | assumption); obtain ⟨go20, co20, eo20, gb20, gl20, cl20, HG20⟩ := Kd.S_form HO_6.out (by omega); (first | cases eo20 | (injection eo20 with ea_ en_ ec_; (first | subst ea_ | (injection ea_ with ea_; subst ea_)); subst ec_; clear en_)); have GB20 := Aside0.mk gb20; have GG20 := Aside0.mk HG20; (try clear gb20); (try clear gl20); (try clear HG20); obtain ⟨_, ce20, hcl20, hM20, hcc20, hfr20, _, _⟩ := Kd.S_elem HO_6.out [] (x34_2 : Int) p20 q20; obtain ⟨ve20_0, rfl, ge20_0⟩ := hM20; have hx20_0 := hcc20 0 _ rfl; have hf20_0 := hfr20 0; (try simp only [show ((Kd.slice 3 (Kd.int .i64))).sz = 1 from rfl, Nat.mul_one, Nat.add_zero] at hx20_0); (try simp only [show ((Kd.slice 3 (Kd.int .i64))).sz = 1 from rfl, Nat.mul_one, Nat.add_zero] at hf20_0); (try clear hcl20); (try clear hcc20); (try clear hfr20); (try clear hM20); replace p20 := eq_true p20; replace q20 := eq_true q20; have n_ := Aside0.mk (Kd.S_mono (ok' := (fun k_ => some k_ ≠ (v322 : Value).ownBlock)) HO_6.out (fun k_ hk => hk.2)); clear HO_6; have HO_6 := n_; clear n_; have HX23 := Aside0.mk (show Kd.S (Kd.slice 3 (Kd.int .i64)) 30 w21 w.heap.size (fun k_ => ((fun _ => True)) k_ ∧ ¬ ((fun k_ => some k_ = (v322 : Value).ownBlock)) k_) (.slice (some ⟨go20, 0, none⟩) x6_2.length co14) x6_2 from (by (with_reducible repeat (first | apply Kd.S_alloc | apply Kd.S_drewN | apply Kd.S_drew)); exact Kd.S_mono HO_6.out (fun k_ hk => ⟨trivial, fun e_ => hk e_⟩))); obtain ⟨oki23, ce23, hcl23, hM23, hcc23, hfr23, hoki23, hH23⟩ := Kd.S_elem HX23.out [] (x34_2 : Int) (of_decide_eq_true (by first | (with_reducible assumption) | assumption)) (by have h_ : (x34_2 : Int) < ((x6_2.length : Int) : Int) := of_decide_eq_true (by first | (with_reducible assumption) | assumption); first | exact h_ | (have e_ := (Kd.S_reads' HO_6.out).1; omega) | simpa using h_); obtain ⟨ve23_0, rfl, ge23_0⟩ := hM23; have HP23 := Kd.S_seg hH23 (of_decide_eq_true (by first | (with_reducible assumption) | assumption)) (by have h_ : (x34_2 : Int) < ((x6_2.length : Int) : Int) := of_decide_eq_true (by first | (with_reducible assumption) | assumption); first | exact h_ | (have e_ := (Kd.S_reads' HO_6.out).1; omega) | simpa using h_) (seg := [v322]) (j := 0) (show 1 ≤ 1 from by decide) (x' := y321) (Kd.M_row (Kd.R_mono (Kd.R_tight rfl (Kd.R_mono (ok' := fun k_ => ((fun _ => True)) k_ ∧ k_ ≠ go20) (Kd.R_apart' (HO323.out) (Kd.S_typed HO_6.out) (by decide)) (fun k_ hk => ⟨trivial, fun e_ => (hk.2) (by rw [e_]; rfl)⟩))) (fun _ h_ => Or.inr (h_)))) (fun _ hk => hk) (fun k_ hk_ => ((Kd.R_mono (ok' := fun k_ => ((fun _ => True)) k_ ∧ k_ ≠ go20) (Kd.R_apart' (HO323.out) (Kd.S_typed HO_6.out) (by decide)) (fun k_ hk => ⟨trivial, fun e_ => (hk.2) (by rw [e_]; rfl)⟩))).1 k_ hk_.symm); have hx23_0 := hcc23 0 _ rfl; (try simp only [show ((Kd.slice 3 (Kd.int .i64))).sz = 1 from rfl, Nat.mul_one, Nat.add_zero] at hx23_0); have hf23_0 := hfr23 0; (try simp only [show ((Kd.slice 3 (Kd.int .i64))).sz = 1 from rfl, Nat.mul_one, Nat.add_zero] at hf23_0); (try clear hcl23); (try clear hcc23); (try clear hfr23); (try clear hM23); (try clear hoki23); (try clear hH23); (try simp only [show ((Kd.slice 3 (Kd.int .i64))).sz = 1 from rfl, Nat.mul_one, Nat.add_zero] at HP23)) | ((with_reducible refine gate_store (t := 30) (p := 42) rfl ?_); refine store_event (t := 30) (p := 42) (v := ?vo_w24) (w1 := (w21.setCell ⟨go20, (x34_2 : Int).toNat, none⟩ (v322))) ?hg ?ho ?hn ?hr ?_; (case ho => rfl); (case hg => rfl); (case hn => rfl); (case hr => first | (go_simp; done) | (go_simp; rfl) | (obtain ⟨A_, c_, e_⟩ := Kd.R_slice HO323.out; subst e_; first | (go_simp; done) | (go_simp; rfl)) | (obtain ⟨A_, c_, e_⟩ := Kd.S_slice HO323.out; subst e_; first | (go_simp; done) | (go_simp; rfl)) | (obtain ⟨A_, c_, e_⟩ := Kd.N_slice HO323.out; subst e_; first | (go_simp; done) | (go_simp; rfl))); intro w24 hw; have hg : w21.grownBy w24 (some go20) := (by rw [hw]; exact HP23.2); have hp_ : Kd.S (Kd.slice 3 (Kd.int .i64)) 30 w24 w.heap.size (fun _ => True) (.slice (some ⟨go20, 0, none⟩) x6_2.length co14) y324 := (by rw [hw, Ny324.out]; exact HP23.1); clear HP23; have n0_ := Aside0.mk (hp_); have n1_ := Aside0.mk ((by rw [hw]; exact below_set (HB.out) GB20.out : Below w.heap.size w w24)); clear HO_6; clear HB; clear HO323; have HO_6 := n0_; have HB := n1_; clear n0_ n1_; (try clear hg); (try clear hw); (try clear hp_)))
             go_loopg [45] k2 (fun kq v45 w' => ∃ (x6_3 : List (List Int)) (x45_3 : Int), v45 = .int .i64 x45_3 ∧ Aside0 (mult_Direct.l1 kq l0 l1 (l1.length : Int) x6_3 x34_2 (y318.length : Int) x34_2 (x6_2.length : Int) x45_3 = some r) ∧ Aside0 (kq ≤ k2) ∧ Aside0 (Kd.S (Kd.slice 3 (Kd.int .i64)) 30 w' w.heap.size (fun _ => True) (.slice (some ⟨go20, 0, none⟩) x6_2.length co14) x6_3) ∧ Aside0 (Below w.heap.size w w'))
             case atStart => exact ⟨(y324), (0), (by first | rfl | (simp; done) | (simp [*]; done)), H', ⟨Nat.le_refl _⟩, ⟨by (try simp only [hl6_2]); (with_reducible repeat (first | apply Kd.S_alloc | apply Kd.S_drewN | apply Kd.S_drew)); exact HO_6.out⟩, ⟨by repeat (first | (with_reducible first | exact HB.out | apply below_alloc | apply pw_below_drewN | apply below_drew1) | exact HB.out)⟩⟩
             case round =>
              clear H'
              try clear c1
              try clear c2
              try clear p2
              try clear q2
              try clear hx2
              try clear hf2
              try clear c3
              try clear c5
              try clear c5b0
              try clear c5b1
              try clear p6
              try clear c7
              try clear c7b0
              try clear c7b1
              try clear c8
              try clear c10
              try clear c10b0
              try clear c10b1
              try clear c11
              try clear c11b0
              try clear c11b1
              try clear c15
              try clear c15b0
              try clear c16
              try clear c16b0
              try clear c16b1
              try clear c17
              try clear c17b0
              try clear c17b1
              try clear c18
              try clear c18b0
              try clear c19
              try clear c19b0
              try clear c20
              try clear p20
              try clear q20
              try clear hx20
              try clear hf20
              try clear c23
              try clear hx23
              try clear hf23
              try clear hx20_0
              try clear hx23_0
              try clear p2
              try clear p20
              try clear p6
              try clear q20
              obtain ⟨x6_3, x45_3, rfl, HA, HK3, HO_6, HB⟩ := hrel
              have hl6_3 := (Kd.S_reads' HO_6.out).1
              rw [hl6_3] at HO_6
              (try simp only [hl6_3])
              cases gk with
              | zero => exact absurd HA.out (by simp [mult_Direct.l1])
              | succ k3 =>
               have H := HA.out
               clear HA
               simp only [mult_Direct.l1] at H
               by_cases c25 : x45_3 < (x6_2.length : Int)
               ·rw [if_pos c25] at H
                have c25b0 : decide (x45_3 < (x6_2.length : Int)) = true := decide_eq_true c25
                (try (have c25b0z := c25b0; simp only [hl6_2, hl6_3] at c25b0z))
                clear c25
                by_cases c26 : 0 ≤ x34_2
                ·rw [if_pos c26] at H
                 have c26b0 : decide (0 ≤ x34_2) = true := decide_eq_true c26
                 clear c26
                 by_cases c27 : x34_2 < (x6_3.length : Int)
                 ·rw [if_pos c27] at H
                  have c27b0 : decide (x34_2 < (x6_3.length : Int)) = true := decide_eq_true c27
                  (try (have c27b0z := c27b0; simp only [hl6_2, hl6_3] at c27b0z))
                  clear c27
                  by_cases c28 : (l1.length : Int) = 0
                  ·rw [if_pos c28] at H
                   exact absurd H (by simp)
                  ·rw [if_neg c28] at H
                   have c28b0 : ((l1.length : Int) == 0) = false := beq_eq_false_iff_ne.mpr c28
                   have c28b1 : ((l1.length : Int) != 0) = true := bne_iff_ne.mpr c28
                   have c28b2 : ¬ (l1 = []) := fun h_ => c28 (by rw [h_]; rfl)
                   obtain ⟨ji29, hji29⟩ : ∃ j_ : Int, (wrap64 (Int.tdiv x34_2 (l1.length : Int))) = j_ := ⟨_, rfl⟩
                   replace H : (if 0 ≤ (ji29) then (if (ji29) < (l0.length : Int) then (if 0 ≤ (wrap64 (Int.tdiv x45_3 (l1.length : Int))) then (if (wrap64 (Int.tdiv x45_3 (l1.length : Int))) < ((rd_L1 l0 (ji29)).length : Int) then (if 0 ≤ (Int.tmod x34_2 (l1.length : Int)) then (if (Int.tmod x34_2 (l1.length : Int)) < (l1.length : Int) then (if 0 ≤ (Int.tmod x45_3 (l1.length : Int)) then (if (Int.tmod x45_3 (l1.length : Int)) < ((rd_L1 l1 (Int.tmod x34_2 (l1.length : Int))).length : Int) then (if 0 ≤ x45_3 then (if x45_3 < ((rd_L1 x6_3 x34_2).length : Int) then (mult_Direct.l1 k3 l0 l1 (l1.length : Int) (x6_3.set (x34_2 : Int).toNat ((rd_L1 x6_3 x34_2).set (x45_3 : Int).toNat (wrap64 ((wrap64 ((rd (rd_L1 l0 (ji29)) (wrap64 (Int.tdiv x45_3 (l1.length : Int)))) * (l1.length : Int))) + (rd (rd_L1 l1 (Int.tmod x34_2 (l1.length : Int))) (Int.tmod x45_3 (l1.length : Int))))))) x34_2 (y318.length : Int) x34_2 (x6_2.length : Int) (wrap64 (x45_3 + 1))) else (none)) else (none)) else (none)) else (none)) else (none)) else (none)) else (none)) else (none)) else (none)) else (none)) = some r := by first | (rw [hji29] at H; exact H) | (simp only [hji29] at H ⊢; exact H)
                   have hji29w : (IntKind.i64.wrap (Int.tdiv x34_2 (l1.length : Int))) = ji29 := (i64_w _).trans hji29
                   by_cases c30 : 0 ≤ (ji29)
                   ·rw [if_pos c30] at H
                    have c30b0 : decide (0 ≤ (ji29)) = true := decide_eq_true c30
                    clear c30
                    by_cases c31 : (ji29) < (l0.length : Int)
                    ·rw [if_pos c31] at H
                     have c31b0 : decide ((ji29) < (l0.length : Int)) = true := decide_eq_true c31
                     (try (have c31b0z := c31b0; simp only [hl6_2, hl6_3] at c31b0z))
                     clear c31
                     obtain ⟨ji32, hji32⟩ : ∃ j_ : Int, (wrap64 (Int.tdiv x45_3 (l1.length : Int))) = j_ := ⟨_, rfl⟩
                     replace H : (if 0 ≤ (ji32) then (if (ji32) < ((rd_L1 l0 (ji29)).length : Int) then (if 0 ≤ (Int.tmod x34_2 (l1.length : Int)) then (if (Int.tmod x34_2 (l1.length : Int)) < (l1.length : Int) then (if 0 ≤ (Int.tmod x45_3 (l1.length : Int)) then (if (Int.tmod x45_3 (l1.length : Int)) < ((rd_L1 l1 (Int.tmod x34_2 (l1.length : Int))).length : Int) then (if 0 ≤ x45_3 then (if x45_3 < ((rd_L1 x6_3 x34_2).length : Int) then (mult_Direct.l1 k3 l0 l1 (l1.length : Int) (x6_3.set (x34_2 : Int).toNat ((rd_L1 x6_3 x34_2).set (x45_3 : Int).toNat (wrap64 ((wrap64 ((rd (rd_L1 l0 (ji29)) (ji32)) * (l1.length : Int))) + (rd (rd_L1 l1 (Int.tmod x34_2 (l1.length : Int))) (Int.tmod x45_3 (l1.length : Int))))))) x34_2 (y318.length : Int) x34_2 (x6_2.length : Int) (wrap64 (x45_3 + 1))) else (none)) else (none)) else (none)) else (none)) else (none)) else (none)) else (none)) else (none)) = some r := by first | (rw [hji32] at H; exact H) | (simp only [hji32] at H ⊢; exact H)
                     have hji32w : (IntKind.i64.wrap (Int.tdiv x45_3 (l1.length : Int))) = ji32 := (i64_w _).trans hji32
                     by_cases c33 : 0 ≤ (ji32)
                     ·rw [if_pos c33] at H
                      have c33b0 : decide (0 ≤ (ji32)) = true := decide_eq_true c33
                      clear c33
                      by_cases c34 : (ji32) < ((rd_L1 l0 (ji29)).length : Int)
                      ·rw [if_pos c34] at H
                       have c34b0 : decide ((ji32) < ((rd_L1 l0 (ji29)).length : Int)) = true := decide_eq_true c34
                       (try (have c34b0z := c34b0; simp only [hl6_2, hl6_3] at c34b0z))
                       clear c34
                       obtain ⟨ji35, hji35⟩ : ∃ j_ : Int, (Int.tmod x34_2 (l1.length : Int)) = j_ := ⟨_, rfl⟩
                       replace H : (if 0 ≤ (ji35) then (if (ji35) < (l1.length : Int) then (if 0 ≤ (Int.tmod x45_3 (l1.length : Int)) then (if (Int.tmod x45_3 (l1.length : Int)) < ((rd_L1 l1 (ji35)).length : Int) then (if 0 ≤ x45_3 then (if x45_3 < ((rd_L1 x6_3 x34_2).length : Int) then (mult_Direct.l1 k3 l0 l1 (l1.length : Int) (x6_3.set (x34_2 : Int).toNat ((rd_L1 x6_3 x34_2).set (x45_3 : Int).toNat (wrap64 ((wrap64 ((rd (rd_L1 l0 (ji29)) (ji32)) * (l1.length : Int))) + (rd (rd_L1 l1 (ji35)) (Int.tmod x45_3 (l1.length : Int))))))) x34_2 (y318.length : Int) x34_2 (x6_2.length : Int) (wrap64 (x45_3 + 1))) else (none)) else (none)) else (none)) else (none)) else (none)) else (none)) = some r := by first | (rw [hji35] at H; exact H) | (simp only [hji35] at H ⊢; exact H)
                       by_cases c36 : 0 ≤ (ji35)
                       ·rw [if_pos c36] at H
                        have c36b0 : decide (0 ≤ (ji35)) = true := decide_eq_true c36
                        clear c36
                        by_cases c37 : (ji35) < (l1.length : Int)
                        ·rw [if_pos c37] at H
                         have c37b0 : decide ((ji35) < (l1.length : Int)) = true := decide_eq_true c37
                         (try (have c37b0z := c37b0; simp only [hl6_2, hl6_3] at c37b0z))
                         clear c37
                         obtain ⟨ji38, hji38⟩ : ∃ j_ : Int, (Int.tmod x45_3 (l1.length : Int)) = j_ := ⟨_, rfl⟩
                         replace H : (if 0 ≤ (ji38) then (if (ji38) < ((rd_L1 l1 (ji35)).length : Int) then (if 0 ≤ x45_3 then (if x45_3 < ((rd_L1 x6_3 x34_2).length : Int) then (mult_Direct.l1 k3 l0 l1 (l1.length : Int) (x6_3.set (x34_2 : Int).toNat ((rd_L1 x6_3 x34_2).set (x45_3 : Int).toNat (wrap64 ((wrap64 ((rd (rd_L1 l0 (ji29)) (ji32)) * (l1.length : Int))) + (rd (rd_L1 l1 (ji35)) (ji38)))))) x34_2 (y318.length : Int) x34_2 (x6_2.length : Int) (wrap64 (x45_3 + 1))) else (none)) else (none)) else (none)) else (none)) = some r := by first | (rw [hji38] at H; exact H) | (simp only [hji38] at H ⊢; exact H)
                         by_cases c39 : 0 ≤ (ji38)
                         ·rw [if_pos c39] at H
                          have c39b0 : decide (0 ≤ (ji38)) = true := decide_eq_true c39
                          clear c39
                          by_cases c40 : (ji38) < ((rd_L1 l1 (ji35)).length : Int)
                          ·rw [if_pos c40] at H
                           have c40b0 : decide ((ji38) < ((rd_L1 l1 (ji35)).length : Int)) = true := decide_eq_true c40
                           (try (have c40b0z := c40b0; simp only [hl6_2, hl6_3] at c40b0z))
                           clear c40
                           by_cases c41 : 0 ≤ x45_3
                           ·rw [if_pos c41] at H
                            have c41b0 : decide (0 ≤ x45_3) = true := decide_eq_true c41
                            clear c41
                            by_cases c42 : x45_3 < ((rd_L1 x6_3 x34_2).length : Int)
                            ·rw [if_pos c42] at H
                             have c42b0 : decide (x45_3 < ((rd_L1 x6_3 x34_2).length : Int)) = true := decide_eq_true c42
                             (try (have c42b0z := c42b0; simp only [hl6_2, hl6_3] at c42b0z))
                             clear c42
                             obtain ⟨y330, hy330⟩ : ∃ y_ : List Int, y_ = ((rd_L1 x6_3 x34_2).set (x45_3 : Int).toNat (wrap64 ((wrap64 ((rd (rd_L1 l0 (ji29)) (ji32)) * (l1.length : Int))) + (rd (rd_L1 l1 (ji35)) (ji38))))) := ⟨_, rfl⟩
                             replace H : (mult_Direct.l1 k3 l0 l1 (l1.length : Int) (x6_3.set (x34_2 : Int).toNat y330) x34_2 (y318.length : Int) x34_2 (x6_2.length : Int) (wrap64 (x45_3 + 1))) = some r := by first | (rw [hy330]; with_reducible exact H) | (have H2_ := (Option.bind_some _ _).symm.trans H; rw [hy330]; with_reducible exact H2_) | (have H2_ := (Option.bind_some _ _).symm.trans H; with_reducible exact H2_) | with_reducible exact H | (rw [hy330]; exact H) | exact H
                             have Ny330 := Aside0.mk hy330
                             clear hy330
                             obtain ⟨y332, hy332⟩ : ∃ y_ : List (List Int), y_ = (x6_3.set (x34_2 : Int).toNat y330) := ⟨_, rfl⟩
                             replace H : (mult_Direct.l1 k3 l0 l1 (l1.length : Int) y332 x34_2 (y318.length : Int) x34_2 (x6_2.length : Int) (wrap64 (x45_3 + 1))) = some r := by first | (rw [hy332]; with_reducible exact H) | (have H2_ := (Option.bind_some _ _).symm.trans H; rw [hy332]; with_reducible exact H2_) | (have H2_ := (Option.bind_some _ _).symm.trans H; with_reducible exact H2_) | with_reducible exact H | (rw [hy332]; exact H) | exact H
                             have Ny332 := Aside0.mk hy332
                             clear hy332
                             have H' := Aside0.mk H
                             clear H
                             try go_wp2
                             have n0_ := Aside0.mk (Kd.S_drew HO_6.out)
                             have n1_ := Aside0.mk (below_drew1 HB.out)
                             clear HO_6
                             clear HB
                             have HO_6 := n0_
                             have HB := n1_
                             clear n0_ n1_
                             have p325 : 0 ≤ (x34_2 : Int) := of_decide_eq_true (by first | (with_reducible assumption) | assumption)
                             have q325 : x34_2 < (x6_3.length : Int) := of_decide_eq_true (by first | (with_reducible assumption) | assumption)
                             obtain ⟨ad325, A325_0, c325_0, e325, hx325_0, hl325_0, hi325_0⟩ := at_L1 (Kd.S_reads' HO_6.out).2.2 x34_2 p325 q325
                             obtain rfl : (⟨go20, 0, none⟩ : Addr) = ad325 := (by injection e325)
                             obtain ⟨ce325, hce325, hMe325, hcc325⟩ := Kd.S_get HO_6.out [] x34_2 p325 (by first | exact q325 | exact of_decide_eq_true (by first | (with_reducible assumption) | assumption) | (have e_ := (Kd.S_reads' HO_6.out).1; omega))
                             obtain ⟨ve325_0, rfl, ge325_0⟩ := hMe325
                             have hv325_0 := hcc325 0 _ rfl
                             rw [Nat.add_zero, show ((Kd.slice 3 (Kd.int .i64))).sz = 1 from rfl, Nat.mul_one] at hv325_0
                             replace hv325_0 := Option.some.inj (hv325_0.symm.trans hx325_0)
                             rw [hv325_0] at ge325_0
                             have HL325_0 := Aside0.mk (show Kd.R (Kd.int .i64) 3 _ _ _ _ (rd_L1 x6_3 x34_2) from ge325_0)
                             (try clear hv325_0); (try clear ge325_0)
                             have HX325_0 := Aside0.mk hx325_0
                             (try clear hcc325); (try clear hce325)
                             (first | simp only [add_plain] at hx325_0 | simp only [add_at] at hx325_0 | simp only [Addr.add, Nat.zero_add] at hx325_0 | skip)
                             have HR325_0 := Aside0.mk hi325_0
                             have HC325_0 := Aside0.mk hl325_0
                             (try clear hi325_0); (try clear hl325_0)
                             replace p325 := eq_true p325
                             replace q325 := eq_true q325
                             have p326 : 0 ≤ ((ji29) : Int) := of_decide_eq_true (by first | (with_reducible assumption) | assumption)
                             have q326 : (ji29) < (l0.length : Int) := of_decide_eq_true (by first | (with_reducible assumption) | assumption)
                             obtain ⟨ad326, A326_0, c326_0, e326, hx326_0, hl326_0, hi326_0⟩ := at_L1 HR0.out (ji29) p326 q326
                             have hw326_0 := hx326_0
                             cases e326
                             replace hx326_0 := (HB.out.cell (World.block_lt_of_cell? w _ hx326_0)).trans hx326_0
                             have HR326_0 := Aside0.mk hi326_0
                             have HC326_0 := Aside0.mk hl326_0
                             (try clear hi326_0); (try clear hl326_0)
                             replace p326 := eq_true p326
                             replace q326 := eq_true q326
                             have p327 : 0 ≤ ((ji32) : Int) := of_decide_eq_true (by first | (with_reducible assumption) | assumption)
                             have q327 : (ji32) < ((rd_L1 l0 (ji29)).length : Int) := of_decide_eq_true (by first | (with_reducible assumption) | assumption)
                             obtain ⟨ad327, e327, hx327_0⟩ := Kd.at_int HR326_0.out (ji32) p327 q327
                             have hw327_0 := hx327_0
                             cases e327
                             replace hx327_0 := (HB.out.cell (World.block_lt_of_cell? w _ hx327_0)).trans hx327_0
                             replace p327 := eq_true p327
                             replace q327 := eq_true q327
                             have p328 : 0 ≤ ((ji35) : Int) := of_decide_eq_true (by first | (with_reducible assumption) | assumption)
                             have q328 : (ji35) < (l1.length : Int) := of_decide_eq_true (by first | (with_reducible assumption) | assumption)
                             obtain ⟨ad328, A328_0, c328_0, e328, hx328_0, hl328_0, hi328_0⟩ := at_L1 HR1.out (ji35) p328 q328
                             have hw328_0 := hx328_0
                             cases e328
                             replace hx328_0 := (HB.out.cell (World.block_lt_of_cell? w _ hx328_0)).trans hx328_0
                             have HR328_0 := Aside0.mk hi328_0
                             have HC328_0 := Aside0.mk hl328_0
                             (try clear hi328_0); (try clear hl328_0)
                             replace p328 := eq_true p328
                             replace q328 := eq_true q328
                             have p329 : 0 ≤ ((ji38) : Int) := of_decide_eq_true (by first | (with_reducible assumption) | assumption)
                             have q329 : (ji38) < ((rd_L1 l1 (ji35)).length : Int) := of_decide_eq_true (by first | (with_reducible assumption) | assumption)
                             obtain ⟨ad329, e329, hx329_0⟩ := Kd.at_int HR328_0.out (ji38) p329 q329
                             have hw329_0 := hx329_0
                             cases e329
                             replace hx329_0 := (HB.out.cell (World.block_lt_of_cell? w _ hx329_0)).trans hx329_0
                             replace p329 := eq_true p329
                             replace q329 := eq_true q329
                             have p43 : 0 ≤ (x45_3 : Int) := of_decide_eq_true (by first | (with_reducible assumption) | assumption)
                             have q43 : (x45_3 : Int) < (((rd_L1 x6_3 x34_2).length : Int) : Int) := of_decide_eq_true (by first | (with_reducible assumption) | assumption)
                             obtain ⟨go43, co43, eo43, gb43, gl43, cl43, HG43⟩ := Kd.R_form HL325_0.out (by omega)
                             (first | cases eo43 | (injection eo43 with ea_ en_ ec_; (first | subst ea_ | (injection ea_ with ea_; subst ea_)); subst ec_; clear en_))
                             have GB43 := Aside0.mk gb43
                             have GG43 := Aside0.mk HG43
                             (try clear gb43); (try clear gl43); (try clear HG43)
                             obtain ⟨hx43_0, hf43_0⟩ := Kd.R_celln 0 HL325_0.out (x45_3 : Int) p43 q43
                             replace p43 := eq_true p43
                             replace q43 := eq_true q43
                             have hq45 : (x34_2 : Int) < (x6_3.length : Int) := (by have h_ : (x34_2 : Int) < ((x6_3.length : Int) : Int) := of_decide_eq_true (by first | (with_reducible assumption) | assumption); first | exact h_ | (have e_ := (Kd.S_reads' HO_6.out).1; omega) | simpa only [List.length_set, List.length_set] using h_)
                             obtain ⟨oki45, ce45, hcl45, hM45, hcc45, hok45, hbk45⟩ := Kd.S_borrow HO_6.out [] (x34_2 : Int) (of_decide_eq_true (by first | (with_reducible assumption) | assumption)) hq45
                             obtain ⟨ve45_0, rfl, ge45_0⟩ := hM45
                             have hv45 := hcc45 0 _ rfl
                             rw [Nat.add_zero, show ((Kd.slice 3 (Kd.int .i64))).sz = 1 from rfl, Nat.mul_one] at hv45
                             replace hv45 := Option.some.inj (hv45.symm.trans HX325_0.out)
                             subst hv45
                             (try clear hcc45); (try clear hcl45)
                             replace ge45_0 := (show Kd.R (Kd.int .i64) 3 _ _ _ _ (rd_L1 x6_3 x34_2) from ge45_0)
                             have HP45 := Kd.R_putg ge45_0 (x45_3 : Int) (wrap64 ((wrap64 ((rd (rd_L1 l0 (ji29)) (ji32)) * (l1.length : Int))) + (rd (rd_L1 l1 (ji35)) (ji38))))
                             rw [← Ny330.out] at HP45
                             have HS45 := hbk45 HP45.2 (fun k_ e_ => by injection e_ with e_; subst e_; exact ge45_0.1 _ rfl) (x' := y330) (Kd.M_row HP45.1)
                             rw [← Ny332.out] at HS45
                             have HQ45 := Aside0.mk HS45
                             (try clear HP45); (try clear HS45); (try clear hbk45); (try clear hok45)
                             refine start_ (n := 32) (S := fun w' => w'.cell? ⟨go20, (x34_2).toNat, none⟩ = some (.slice (some ⟨go43, 0, none⟩) (rd_L1 x6_3 x34_2).length c325_0) ∧ w'.cell? (ad326.add ((ji29)).toNat) = some (.slice (some ad327) (rd_L1 l0 (ji29)).length c326_0) ∧ w'.cell? (ad327.add ((ji32)).toNat) = some (.int .i64 (rd (rd_L1 l0 (ji29)) (ji32))) ∧ w'.cell? (ad328.add ((ji35)).toNat) = some (.slice (some ad329) (rd_L1 l1 (ji35)).length c328_0) ∧ w'.cell? (ad329.add ((ji38)).toNat) = some (.int .i64 (rd (rd_L1 l1 (ji35)) (ji38)))) (ds := [31]) #[false, false, false, false, false, false, false, false, false, false, false, false, false, false, false, false, false, false, false, false, false, false, false, false, false, false, false, false, false, false, false, false] (by kernel_rfl) rfl rfl ⟨hx325_0, ((HB.out.cell (World.block_lt_of_cell? w _ hw326_0)).trans hw326_0), ((HB.out.cell (World.block_lt_of_cell? w _ hw327_0)).trans hw327_0), ((HB.out.cell (World.block_lt_of_cell? w _ hw328_0)).trans hw328_0), ((HB.out.cell (World.block_lt_of_cell? w _ hw329_0)).trans hw329_0)⟩ (fun hHeld => ?_); refine with_tabW mult_Direct.tab12 mult_Direct.bits12 (fun HT_ HW_ => ?_)
                             generalize wr.drew = w44 at HO_6 HB GG43 HL325_0 HQ45 HR325_0 HR326_0 HR328_0 HX325_0 hf43_0 hx325_0 hx326_0 hx327_0 hx328_0 hx329_0 hx43_0 hHeld ⊢
                             refine pure_ (i := 0) (N := some 48) (v := ?_) (a' := ?_) #[true, false, false, false, false, false, false, false, false, false, false, false, false, false, false, false, false, false, false, false, false, false, false, false, false, false, false, false, false, false, false, false] rfl rfl (any_of HT_.out (by kernel_rfl)) (fun _ _ _ h => h) (Or.inl ⟨by rfl, ?_⟩) ?_ ?_
                             rotate_left
                             ·intro w'
                              go_simp
                              with_reducible rfl
                             rotate_left
                             ·simp only [Act.put, List.setIfInBounds_toArray, List.set_cons_zero, List.set_cons_succ, i64_w, i32_w]
                              rfl
                             refine pure_ (i := 1) (N := some 49) (v := ?_) (a' := ?_) #[true, true, false, false, false, false, false, false, false, false, false, false, false, false, false, false, false, false, false, false, false, false, false, false, false, false, false, false, false, false, false, false] rfl rfl (any_of HT_.out (by kernel_rfl)) (fun _ _ _ h => h) (Or.inl ⟨by rfl, ?_⟩) ?_ ?_
                             rotate_left
                             ·intro w'
                              go_simp
                              with_reducible rfl
                             rotate_left
                             ·simp only [Act.put, List.setIfInBounds_toArray, List.set_cons_zero, List.set_cons_succ, i64_w, i32_w]
                              rfl
                             refine pure_ (i := 2) (N := some 50) (v := ?_) (a' := ?_) #[true, true, true, false, false, false, false, false, false, false, false, false, false, false, false, false, false, false, false, false, false, false, false, false, false, false, false, false, false, false, false, false] rfl rfl (any_of HT_.out (by kernel_rfl)) (fun _ _ _ h => h) (Or.inl ⟨by rfl, ?_⟩) ?_ ?_
                             rotate_left
                             ·intro w'
                              go_simp
                              with_reducible rfl
                             rotate_left
                             ·simp only [Act.put, List.setIfInBounds_toArray, List.set_cons_zero, List.set_cons_succ, i64_w, i32_w]
                              rfl
                             refine pure_ (i := 4) (N := some 52) (v := ?_) (a' := ?_) #[true, true, true, false, true, false, false, false, false, false, false, false, false, false, false, false, false, false, false, false, false, false, false, false, false, false, false, false, false, false, false, false] rfl rfl (any_of HT_.out (by kernel_rfl)) (fun _ _ _ h => h) (Or.inl ⟨by rfl, ?_⟩) ?_ ?_
                             rotate_left
                             ·intro w'
                              go_simp
                              with_reducible rfl
                             rotate_left
                             ·simp only [Act.put, List.setIfInBounds_toArray, List.set_cons_zero, List.set_cons_succ, i64_w, i32_w]
                              rfl
                             refine pure_ (i := 5) (N := some 53) (v := ?_) (a' := ?_) #[true, true, true, false, true, true, false, false, false, false, false, false, false, false, false, false, false, false, false, false, false, false, false, false, false, false, false, false, false, false, false, false] rfl rfl (any_of HT_.out (by kernel_rfl)) (fun _ _ _ h => h) (Or.inl ⟨by rfl, ?_⟩) ?_ ?_
                             rotate_left
                             ·intro w'
                              go_simp
                              with_reducible rfl
                             rotate_left
                             ·simp only [Act.put, List.setIfInBounds_toArray, List.set_cons_zero, List.set_cons_succ, i64_w, i32_w]
                              rfl
                             refine pure_ (i := 6) (N := some 54) (v := ?_) (a' := ?_) #[true, true, true, false, true, true, true, false, false, false, false, false, false, false, false, false, false, false, false, false, false, false, false, false, false, false, false, false, false, false, false, false] rfl rfl (any_of HT_.out (by kernel_rfl)) (fun _ _ _ h => h) (Or.inl ⟨by rfl, ?_⟩) ?_ ?_
                             rotate_left
                             ·intro w'
                              go_simp
                              with_reducible rfl
                             rotate_left
                             ·simp only [Act.put, List.setIfInBounds_toArray, List.set_cons_zero, List.set_cons_succ, i64_w, i32_w]
                              rfl
                             refine pure_ (i := 7) (N := some 55) (v := ?_) (a' := ?_) #[true, true, true, false, true, true, true, true, false, false, false, false, false, false, false, false, false, false, false, false, false, false, false, false, false, false, false, false, false, false, false, false] rfl rfl (any_of HT_.out (by kernel_rfl)) (fun _ _ _ h => h) (Or.inl ⟨by rfl, ?_⟩) ?_ ?_
                             rotate_left
                             ·intro w'
                              go_simp
                              with_reducible rfl
                             rotate_left
                             ·simp only [Act.put, List.setIfInBounds_toArray, List.set_cons_zero, List.set_cons_succ, i64_w, i32_w]
                              rfl
                             refine pure_ (i := 8) (N := some 56) (v := ?_) (a' := ?_) #[true, true, true, false, true, true, true, true, true, false, false, false, false, false, false, false, false, false, false, false, false, false, false, false, false, false, false, false, false, false, false, false] rfl rfl (any_of HT_.out (by kernel_rfl)) (fun _ _ _ h => h) (Or.inl ⟨by rfl, ?_⟩) ?_ ?_
                             rotate_left
                             ·intro w'
                              go_simp
                              with_reducible rfl
                             rotate_left
                             ·simp only [Act.put, List.setIfInBounds_toArray, List.set_cons_zero, List.set_cons_succ, i64_w, i32_w]
                              rfl
                             refine pure_ (i := 9) (N := some 57) (v := ?_) (a' := ?_) #[true, true, true, false, true, true, true, true, true, true, false, false, false, false, false, false, false, false, false, false, false, false, false, false, false, false, false, false, false, false, false, false] rfl rfl (any_of HT_.out (by kernel_rfl)) (fun _ _ _ h => h) (Or.inl ⟨by rfl, ?_⟩) ?_ ?_
                             rotate_left
                             ·intro w'
                              go_simp
                              with_reducible rfl
                             rotate_left
                             ·simp only [Act.put, List.setIfInBounds_toArray, List.set_cons_zero, List.set_cons_succ, i64_w, i32_w]
                              rfl
                             refine pure_ (i := 11) (N := some 59) (v := ?_) (a' := ?_) #[true, true, true, false, true, true, true, true, true, true, false, true, false, false, false, false, false, false, false, false, false, false, false, false, false, false, false, false, false, false, false, false] rfl rfl (any_of HT_.out (by kernel_rfl)) (fun _ _ _ h => h) (Or.inl ⟨by rfl, ?_⟩) ?_ ?_
                             rotate_left
                             ·intro w'
                              go_simp
                              with_reducible rfl
                             rotate_left
                             ·simp only [Act.put, List.setIfInBounds_toArray, List.set_cons_zero, List.set_cons_succ, i64_w, i32_w]
                              rfl
                             refine pure_ (i := 12) (N := some 60) (v := ?_) (a' := ?_) #[true, true, true, false, true, true, true, true, true, true, false, true, true, false, false, false, false, false, false, false, false, false, false, false, false, false, false, false, false, false, false, false] rfl rfl (any_of HT_.out (by kernel_rfl)) (fun _ _ _ h => h) (Or.inl ⟨by rfl, ?_⟩) ?_ ?_
                             rotate_left
                             ·intro w'
                              go_simp
                              with_reducible rfl
                             rotate_left
                             ·simp only [Act.put, List.setIfInBounds_toArray, List.set_cons_zero, List.set_cons_succ, i64_w, i32_w]
                              rfl
                             refine pure_ (i := 13) (N := some 61) (v := ?_) (a' := ?_) #[true, true, true, false, true, true, true, true, true, true, false, true, true, true, false, false, false, false, false, false, false, false, false, false, false, false, false, false, false, false, false, false] rfl rfl (any_of HT_.out (by kernel_rfl)) (fun _ _ _ h => h) (Or.inl ⟨by rfl, ?_⟩) ?_ ?_
                             rotate_left
                             ·intro w'
                              go_simp
                              with_reducible rfl
                             rotate_left
                             ·simp only [Act.put, List.setIfInBounds_toArray, List.set_cons_zero, List.set_cons_succ, i64_w, i32_w]
                              rfl
                             refine pure_ (i := 16) (N := some 64) (v := ?_) (a' := ?_) #[true, true, true, false, true, true, true, true, true, true, false, true, true, true, false, false, true, false, false, false, false, false, false, false, false, false, false, false, false, false, false, false] rfl rfl (any_of HT_.out (by kernel_rfl)) (fun _ _ _ h => h) (Or.inl ⟨by rfl, ?_⟩) ?_ ?_
                             rotate_left
                             ·intro w'
                              go_simp
                              with_reducible rfl
                             rotate_left
                             ·simp only [Act.put, List.setIfInBounds_toArray, List.set_cons_zero, List.set_cons_succ, i64_w, i32_w]
                              rfl
                             refine pure_ (i := 18) (N := some 66) (v := ?_) (a' := ?_) #[true, true, true, false, true, true, true, true, true, true, false, true, true, true, false, false, true, false, true, false, false, false, false, false, false, false, false, false, false, false, false, false] rfl rfl (any_of HT_.out (by kernel_rfl)) (fun _ _ _ h => h) (Or.inl ⟨by rfl, ?_⟩) ?_ ?_
                             rotate_left
                             ·intro w'
                              go_simp
                              with_reducible rfl
                             rotate_left
                             ·simp only [Act.put, List.setIfInBounds_toArray, List.set_cons_zero, List.set_cons_succ, i64_w, i32_w]
                              rfl
                             refine pure_ (i := 19) (N := some 67) (v := ?_) (a' := ?_) #[true, true, true, false, true, true, true, true, true, true, false, true, true, true, false, false, true, false, true, true, false, false, false, false, false, false, false, false, false, false, false, false] rfl rfl (any_of HT_.out (by kernel_rfl)) (fun _ _ _ h => h) (Or.inl ⟨by rfl, ?_⟩) ?_ ?_
                             rotate_left
                             ·intro w'
                              go_simp
                              with_reducible rfl
                             rotate_left
                             ·simp only [Act.put, List.setIfInBounds_toArray, List.set_cons_zero, List.set_cons_succ, i64_w, i32_w]
                              rfl
                             refine pure_ (i := 20) (N := some 68) (v := ?_) (a' := ?_) #[true, true, true, false, true, true, true, true, true, true, false, true, true, true, false, false, true, false, true, true, true, false, false, false, false, false, false, false, false, false, false, false] rfl rfl (any_of HT_.out (by kernel_rfl)) (fun _ _ _ h => h) (Or.inl ⟨by rfl, ?_⟩) ?_ ?_
                             rotate_left
                             ·intro w'
                              go_simp
                              with_reducible rfl
                             rotate_left
                             ·simp only [Act.put, List.setIfInBounds_toArray, List.set_cons_zero, List.set_cons_succ, i64_w, i32_w]
                              rfl
                             refine pure_ (i := 21) (N := some 69) (v := ?_) (a' := ?_) #[true, true, true, false, true, true, true, true, true, true, false, true, true, true, false, false, true, false, true, true, true, true, false, false, false, false, false, false, false, false, false, false] rfl rfl (any_of HT_.out (by kernel_rfl)) (fun _ _ _ h => h) (Or.inl ⟨by rfl, ?_⟩) ?_ ?_
                             rotate_left
                             ·intro w'
                              go_simp
                              with_reducible rfl
                             rotate_left
                             ·simp only [Act.put, List.setIfInBounds_toArray, List.set_cons_zero, List.set_cons_succ, i64_w, i32_w]
                              rfl
                             refine pure_ (i := 22) (N := some 70) (v := ?_) (a' := ?_) #[true, true, true, false, true, true, true, true, true, true, false, true, true, true, false, false, true, false, true, true, true, true, true, false, false, false, false, false, false, false, false, false] rfl rfl (any_of HT_.out (by kernel_rfl)) (fun _ _ _ h => h) (Or.inl ⟨by rfl, ?_⟩) ?_ ?_
                             rotate_left
                             ·intro w'
                              go_simp
                              with_reducible rfl
                             rotate_left
                             ·simp only [Act.put, List.setIfInBounds_toArray, List.set_cons_zero, List.set_cons_succ, i64_w, i32_w]
                              rfl
                             refine pure_ (i := 24) (N := some 72) (v := ?_) (a' := ?_) #[true, true, true, false, true, true, true, true, true, true, false, true, true, true, false, false, true, false, true, true, true, true, true, false, true, false, false, false, false, false, false, false] rfl rfl (any_of HT_.out (by kernel_rfl)) (fun _ _ _ h => h) (Or.inl ⟨by rfl, ?_⟩) ?_ ?_
                             rotate_left
                             ·intro w'
                              go_simp
                              with_reducible rfl
                             rotate_left
                             ·simp only [Act.put, List.setIfInBounds_toArray, List.set_cons_zero, List.set_cons_succ, i64_w, i32_w]
                              rfl
                             refine pure_ (i := 25) (N := some 73) (v := ?_) (a' := ?_) #[true, true, true, false, true, true, true, true, true, true, false, true, true, true, false, false, true, false, true, true, true, true, true, false, true, true, false, false, false, false, false, false] rfl rfl (any_of HT_.out (by kernel_rfl)) (fun _ _ _ h => h) (Or.inl ⟨by rfl, ?_⟩) ?_ ?_
                             rotate_left
                             ·intro w'
                              go_simp
                              with_reducible rfl
                             rotate_left
                             ·simp only [Act.put, List.setIfInBounds_toArray, List.set_cons_zero, List.set_cons_succ, i64_w, i32_w]
                              rfl
                             refine pure_ (i := 26) (N := some 74) (v := ?_) (a' := ?_) #[true, true, true, false, true, true, true, true, true, true, false, true, true, true, false, false, true, false, true, true, true, true, true, false, true, true, true, false, false, false, false, false] rfl rfl (any_of HT_.out (by kernel_rfl)) (fun _ _ _ h => h) (Or.inl ⟨by rfl, ?_⟩) ?_ ?_
                             rotate_left
                             ·intro w'
                              go_simp
                              with_reducible rfl
                             rotate_left
                             ·simp only [Act.put, List.setIfInBounds_toArray, List.set_cons_zero, List.set_cons_succ, i64_w, i32_w]
                              rfl
                             refine take_ (i := 3) (N := some 51) (v := ?_) (a' := ?_) #[true, true, true, true, true, true, true, true, true, true, false, true, true, true, false, false, true, false, true, true, true, true, true, false, true, true, true, false, false, false, false, false] rfl rfl (take_ofW HT_.out HW_.out (by kernel_rfl)) (fun _ _ _ h => h) (Or.inl ⟨by rfl, ?_⟩) hHeld ?_ ?_
                             rotate_left
                             ·rintro w' ⟨s0, s1, s2, s3, s4⟩
                              go_simp
                              with_reducible rfl
                             rotate_left
                             ·simp only [Act.put, List.setIfInBounds_toArray, List.set_cons_zero, List.set_cons_succ, i64_w, i32_w]
                              rfl
                             refine take_ (i := 10) (N := some 58) (v := ?_) (a' := ?_) #[true, true, true, true, true, true, true, true, true, true, true, true, true, true, false, false, true, false, true, true, true, true, true, false, true, true, true, false, false, false, false, false] rfl rfl (take_ofW HT_.out HW_.out (by kernel_rfl)) (fun _ _ _ h => h) (Or.inl ⟨by rfl, ?_⟩) hHeld ?_ ?_
                             rotate_left
                             ·rintro w' ⟨s0, s1, s2, s3, s4⟩
                              go_simp
                              with_reducible rfl
                             rotate_left
                             ·simp only [Act.put, List.setIfInBounds_toArray, List.set_cons_zero, List.set_cons_succ, i64_w, i32_w]
                              rfl
                             refine pure_ (i := 14) (N := some 62) (v := ?_) (a' := ?_) #[true, true, true, true, true, true, true, true, true, true, true, true, true, true, true, false, true, false, true, true, true, true, true, false, true, true, true, false, false, false, false, false] rfl rfl (any_of HT_.out (by kernel_rfl)) (fun _ _ _ h => h) (Or.inl ⟨by rfl, ?_⟩) ?_ ?_
                             rotate_left
                             ·intro w'
                              go_simp
                              with_reducible rfl
                             rotate_left
                             ·simp only [Act.put, List.setIfInBounds_toArray, List.set_cons_zero, List.set_cons_succ, i64_w, i32_w]
                              rfl
                             refine take_ (i := 15) (N := some 63) (v := ?_) (a' := ?_) #[true, true, true, true, true, true, true, true, true, true, true, true, true, true, true, true, true, false, true, true, true, true, true, false, true, true, true, false, false, false, false, false] rfl rfl (take_ofW HT_.out HW_.out (by kernel_rfl)) (fun _ _ _ h => h) (Or.inl ⟨by rfl, ?_⟩) hHeld ?_ ?_
                             rotate_left
                             ·rintro w' ⟨s0, s1, s2, s3, s4⟩
                              go_simp
                              with_reducible rfl
                             rotate_left
                             ·simp only [Act.put, List.setIfInBounds_toArray, List.set_cons_zero, List.set_cons_succ, i64_w, i32_w]
                              rfl
                             refine pure_ (i := 17) (N := some 65) (v := ?_) (a' := ?_) #[true, true, true, true, true, true, true, true, true, true, true, true, true, true, true, true, true, true, true, true, true, true, true, false, true, true, true, false, false, false, false, false] rfl rfl (any_of HT_.out (by kernel_rfl)) (fun _ _ _ h => h) (Or.inl ⟨by rfl, ?_⟩) ?_ ?_
                             rotate_left
                             ·intro w'
                              go_simp
                              with_reducible rfl
                             rotate_left
                             ·simp only [Act.put, List.setIfInBounds_toArray, List.set_cons_zero, List.set_cons_succ, i64_w, i32_w]
                              rfl
                             refine take_ (i := 23) (N := some 71) (v := ?_) (a' := ?_) #[true, true, true, true, true, true, true, true, true, true, true, true, true, true, true, true, true, true, true, true, true, true, true, true, true, true, true, false, false, false, false, false] rfl rfl (take_ofW HT_.out HW_.out (by kernel_rfl)) (fun _ _ _ h => h) (Or.inl ⟨by rfl, ?_⟩) hHeld ?_ ?_
                             rotate_left
                             ·rintro w' ⟨s0, s1, s2, s3, s4⟩
                              go_simp
                              with_reducible rfl
                             rotate_left
                             ·simp only [Act.put, List.setIfInBounds_toArray, List.set_cons_zero, List.set_cons_succ, i64_w, i32_w]
                              rfl
                             refine pure_ (i := 27) (N := some 75) (v := ?_) (a' := ?_) #[true, true, true, true, true, true, true, true, true, true, true, true, true, true, true, true, true, true, true, true, true, true, true, true, true, true, true, true, false, false, false, false] rfl rfl (any_of HT_.out (by kernel_rfl)) (fun _ _ _ h => h) (Or.inl ⟨by rfl, ?_⟩) ?_ ?_
                             rotate_left
                             ·intro w'
                              go_simp
                              with_reducible rfl
                             rotate_left
                             ·simp only [Act.put, List.setIfInBounds_toArray, List.set_cons_zero, List.set_cons_succ, i64_w, i32_w]
                              rfl
                             refine take_ (i := 28) (N := some 76) (v := ?_) (a' := ?_) #[true, true, true, true, true, true, true, true, true, true, true, true, true, true, true, true, true, true, true, true, true, true, true, true, true, true, true, true, true, false, false, false] rfl rfl (take_ofW HT_.out HW_.out (by kernel_rfl)) (fun _ _ _ h => h) (Or.inl ⟨by rfl, ?_⟩) hHeld ?_ ?_
                             rotate_left
                             ·rintro w' ⟨s0, s1, s2, s3, s4⟩
                              go_simp
                              with_reducible rfl
                             rotate_left
                             ·simp only [Act.put, List.setIfInBounds_toArray, List.set_cons_zero, List.set_cons_succ, i64_w, i32_w]
                              rfl
                             refine pure_ (i := 29) (N := some 77) (v := ?_) (a' := ?_) #[true, true, true, true, true, true, true, true, true, true, true, true, true, true, true, true, true, true, true, true, true, true, true, true, true, true, true, true, true, true, false, false] rfl rfl (any_of HT_.out (by kernel_rfl)) (fun _ _ _ h => h) (Or.inl ⟨by rfl, ?_⟩) ?_ ?_
                             rotate_left
                             ·intro w'
                              go_simp
                              with_reducible rfl
                             rotate_left
                             ·simp only [Act.put, List.setIfInBounds_toArray, List.set_cons_zero, List.set_cons_succ, i64_w, i32_w]
                              rfl
                             refine pure_ (i := 30) (N := some 78) (v := ?_) (a' := ?_) #[true, true, true, true, true, true, true, true, true, true, true, true, true, true, true, true, true, true, true, true, true, true, true, true, true, true, true, true, true, true, true, false] rfl rfl (any_of HT_.out (by kernel_rfl)) (fun _ _ _ h => h) (Or.inl ⟨by rfl, ?_⟩) ?_ ?_
                             rotate_left
                             ·intro w'
                              go_simp
                              with_reducible rfl
                             rotate_left
                             ·simp only [Act.put, List.setIfInBounds_toArray, List.set_cons_zero, List.set_cons_succ, i64_w, i32_w]
                              rfl
                             refine last_ (i := 31) (N := none) #[true, true, true, true, true, true, true, true, true, true, true, true, true, true, true, true, true, true, true, true, true, true, true, true, true, true, true, true, true, true, true, true] rfl rfl (one_of HT_.out (by kernel_rfl)) (by decide) (fun K hK => ?_)
                             refine skip_ (w1 := ?_) (by rfl) rfl ?_ ?_
                             rotate_left
                             ·go_simp
                              rfl
                             refine hK.out _ _ ?_
                             clear hK K
                             refine done_ (done_of HT_.out (by kernel_rfl)) ?_
                             try go_wp2
                             (try simp only [← hl6_3])
                             go_roundg k3
                             case measure => have := HJ2.out; have := HK2.out; have := HK3.out; omega
                             case rel => exact ⟨(y332), (wrap64 (x45_3 + 1)), (by first | rfl | (simp; done) | (simp [*]; done)), H', ⟨by have := HJ2.out; have := HK2.out; have := HK3.out; omega⟩, ⟨by (try simp only [hl6_2]); (try simp only [hl6_3]); (with_reducible repeat (first | apply Kd.S_alloc | apply Kd.S_drewN | apply Kd.S_drew)); exact HQ45.out⟩, ⟨by repeat (first | (with_reducible first | exact HB.out | apply below_alloc | apply pw_below_drewN | apply below_drew1 | refine below_set ?_ GB43.out) | exact HB.out)⟩⟩
                            ·rw [if_neg c42] at H
                             exact absurd H (by simp)
                           ·rw [if_neg c41] at H
                            exact absurd H (by simp)
                          ·rw [if_neg c40] at H
                           exact absurd H (by simp)
                         ·rw [if_neg c39] at H
                          exact absurd H (by simp)
                        ·rw [if_neg c37] at H
                         exact absurd H (by simp)
                       ·rw [if_neg c36] at H
                        exact absurd H (by simp)
                      ·rw [if_neg c34] at H
                       exact absurd H (by simp)
                     ·rw [if_neg c33] at H
                      exact absurd H (by simp)
                    ·rw [if_neg c31] at H
                     exact absurd H (by simp)
                   ·rw [if_neg c30] at H
                    exact absurd H (by simp)
                 ·rw [if_neg c27] at H
                  exact absurd H (by simp)
                ·rw [if_neg c26] at H
                 exact absurd H (by simp)
               ·rw [if_neg c25] at H
                have c25b0 : decide (x45_3 < (x6_2.length : Int)) = false := decide_eq_false c25
                (try (have c25b0z := c25b0; simp only [hl6_2, hl6_3] at c25b0z))
                clear c25
                have H' := Aside0.mk H
                clear H
                go_wp2
                (try simp only [← hl6_2, ← hl6_3])
                go_roundg k3
                case measure => have := HJ2.out; have := HK2.out; have := HK3.out; omega
                case rel => exact ⟨(x6_3), (wrap64 (x34_2 + 1)), (by first | rfl | (simp; done) | (simp [*]; done)), H', ⟨by have := HJ2.out; have := HK2.out; have := HK3.out; omega⟩, ⟨by (try simp only [hl6_2]); (try simp only [hl6_3]); (with_reducible repeat (first | apply Kd.S_alloc | apply Kd.S_drewN | apply Kd.S_drew)); exact HO_6.out⟩, ⟨by repeat (first | (with_reducible first | exact HB.out | apply below_alloc | apply pw_below_drewN | apply below_drew1) | exact HB.out)⟩⟩
            ·rw [if_neg c19] at H
             exact absurd H (by simp)
           ·rw [if_neg c18] at H
            exact absurd H (by simp)
          ·rw [if_neg c17] at H
           exact absurd H (by simp)
         ·rw [if_neg c16] at H
          exact absurd H (by simp)
        ·rw [if_neg c15] at H
         have c15b0 : decide (x34_2 < (y318.length : Int)) = false := decide_eq_false c15
         (try (have c15b0z := c15b0; simp only [hl6_2] at c15b0z))
         clear c15
         obtain rfl := Option.some.inj H
         go_wp2
         go_ret
         exact ⟨_, by first | rfl | (simp [errW_none, errW_some] <;> rfl) | (simp only [← hji9]; first | rfl | (simp [errW_none, errW_some] <;> rfl)) | (simp [*, errW_none, errW_some] <;> rfl), by (with_reducible repeat (first | apply Kd.S_alloc | apply Kd.S_drewN | apply Kd.S_drew)); exact HO_6.out, by repeat (first | (with_reducible first | exact HB.out | apply below_alloc | apply pw_below_drewN | apply below_drew1) | exact HB.out)⟩
     ·rw [if_neg c11] at H
      exact absurd H (by simp)
    ·rw [if_neg c10] at H
     exact absurd H (by simp)

/-! ### mult_Opposite: function 45 -/
mutual
def mult_Opposite.l0 : Nat → List (List Int) → List (List Int) → Int → Int → Option ((List (List Int)))
 | 0, _, _, _, _ => none
 | k + 1, x0, x3, x13, x14 => if x14 < x13 then (if 0 ≤ (x0.length : Int) then (if ((x0.length : Int) : Int).toNat ≤ 35184372088832 then (if 0 ≤ x14 then (if x14 < (x3.length : Int) then (mult_Opposite.l1 k x0 (x3.set (x14 : Int).toNat (List.replicate ((x0.length : Int) : Int).toNat 0)) x14 x13 x14 (x0.length : Int) 0) else (none)) else (none)) else (none)) else (none)) else (some x3)
def mult_Opposite.l1 : Nat → List (List Int) → List (List Int) → Int → Int → Int → Int → Int → Option ((List (List Int)))
 | 0, _, _, _, _, _, _, _ => none
 | k + 1, x0, x3, x4, x13, x14, x24, x25 => if x25 < x24 then (if 0 ≤ x4 then (if x4 < (x3.length : Int) then (if 0 ≤ x25 then (if x25 < (x0.length : Int) then (if x4 < ((rd_L1 x0 x25).length : Int) then (if x25 < ((rd_L1 x3 x4).length : Int) then (mult_Opposite.l1 k x0 (x3.set (x4 : Int).toNat ((rd_L1 x3 x4).set (x25 : Int).toNat (rd (rd_L1 x0 x25) x4))) x4 x13 x14 x24 (wrap64 (x25 + 1))) else (none)) else (none)) else (none)) else (none)) else (none)) else (none)) else (mult_Opposite.l0 k x0 x3 x13 (wrap64 (x14 + 1)))
end
def mult_Opposite.f (k : Nat) (l0 : List (List Int)) : Option ((List (List Int))) := (mult_Validate.f k l0).bind fun t436 => (if t436 = 0 then (if 0 ≤ (l0.length : Int) then (if ((l0.length : Int) : Int).toNat ≤ 11728124029610 then (mult_Opposite.l0 k l0 (List.replicate ((l0.length : Int) : Int).toNat []) (l0.length : Int) 0) else (none)) else (none)) else (some ([] : List (List Int))))
theorem mult_Opposite.mono_l : ∀ k, (∀ y0 y1 y2 y3, LeO (mult_Opposite.l0 k y0 y1 y2 y3) (mult_Opposite.l0 (k + 1) y0 y1 y2 y3)) ∧ (∀ y0 y1 y2 y3 y4 y5 y6, LeO (mult_Opposite.l1 k y0 y1 y2 y3 y4 y5 y6) (mult_Opposite.l1 (k + 1) y0 y1 y2 y3 y4 y5 y6))
 | 0 => ⟨fun _ _ _ _ r h => by simp [mult_Opposite.l0] at h, fun _ _ _ _ _ _ _ r h => by simp [mult_Opposite.l1] at h⟩
 | k + 1 => by
  obtain ⟨ih0, ih1⟩ := mult_Opposite.mono_l k
  refine ⟨?_, ?_⟩
  ·intro y0 y1 y2 y3
   unfold mult_Opposite.l0
   repeat' first
   | (with_reducible exact ih0 _ _ _ _)
   | (with_reducible exact ih1 _ _ _ _ _ _ _)
   | (with_reducible exact mult_Validate.mono _ _)
   | (with_reducible exact LeO.refl _)
   | (with_reducible exact LeO.none _)
   | (with_reducible refine LeO.ite ?_ ?_)
   | (with_reducible refine LeO.bind ?_ (fun _ => ?_))
   | exact ih0 _ _ _ _
   | exact ih1 _ _ _ _ _ _ _
   | exact mult_Validate.mono _ _
   | exact LeO.none _
   | refine LeO.ite ?_ ?_
   | refine LeO.bind ?_ (fun _ => ?_)
  ·intro y0 y1 y2 y3 y4 y5 y6
   unfold mult_Opposite.l1
   repeat' first
   | (with_reducible exact ih0 _ _ _ _)
   | (with_reducible exact ih1 _ _ _ _ _ _ _)
   | (with_reducible exact mult_Validate.mono _ _)
   | (with_reducible exact LeO.refl _)
   | (with_reducible exact LeO.none _)
   | (with_reducible refine LeO.ite ?_ ?_)
   | (with_reducible refine LeO.bind ?_ (fun _ => ?_))
   | exact ih0 _ _ _ _
   | exact ih1 _ _ _ _ _ _ _
   | exact mult_Validate.mono _ _
   | exact LeO.none _
   | refine LeO.ite ?_ ?_
   | refine LeO.bind ?_ (fun _ => ?_)
theorem mult_Opposite.mono : ∀ a0 k, LeO (mult_Opposite.f k a0) (mult_Opposite.f (k + 1) a0) := by
 intro a0 k
 obtain ⟨ih0, ih1⟩ := mult_Opposite.mono_l k
 unfold mult_Opposite.f
 repeat' first
   | (with_reducible exact ih0 _ _ _ _)
   | (with_reducible exact ih1 _ _ _ _ _ _ _)
   | (with_reducible exact mult_Validate.mono _ _)
   | (with_reducible exact LeO.refl _)
   | (with_reducible exact LeO.none _)
   | (with_reducible refine LeO.ite ?_ ?_)
   | (with_reducible refine LeO.bind ?_ (fun _ => ?_))
   | exact ih0 _ _ _ _
   | exact ih1 _ _ _ _ _ _ _
   | exact mult_Validate.mono _ _
   | exact LeO.none _
   | refine LeO.ite ?_ ?_
   | refine LeO.bind ?_ (fun _ => ?_)
def mult_Opposite.T11 : Bool × List (List Nat × List Nat) := (true, [([], []), ([], []), ([0, 1], [0, 1]), ([2], [2]), ([], []), ([], []), ([], []), ([5, 6], [5, 6]), ([7], [7]), ([], []), ([8, 9], [8, 9]), ([10], [10]), ([3, 4, 0, 1, 2, 3, 4, 5, 6, 7, 8, 9, 10, 11], [3, 4]), ([12, 11, 0, 1, 2, 3, 4, 5, 6, 7, 8, 9, 10, 11], [11, 12])])
def mult_Opposite.B11 : List Nat := [0, 0, 3, 7, 0, 0, 0, 96, 224, 0, 992, 2016, 4095, 8191]
theorem mult_Opposite.tab11 : rtab .any (opsOf Try.f45 11) = mult_Opposite.T11 := by kernel_rfl
theorem mult_Opposite.bits11 : waitsOk mult_Opposite.T11.2 mult_Opposite.B11 = true := by kernel_rfl
set_option maxHeartbeats 8000000 in
set_option maxRecDepth 100000 in
theorem mult_Opposite.calls (k : Nat) (A0 : Option Addr) (c0 : Nat) (l0 : List (List Int)) (r : List (List Int)) (w : World) (hr0 : Kd.C (Kd.slice 3 (Kd.int .i64)) w A0 l0.length l0) (hc0 : l0.length ≤ c0) (h : mult_Opposite.f k l0 = some r) :
  Calls Try.prog 45 #[.slice A0 l0.length c0] w fun e w' => ∃ v0_ : Value, e = .returned (v0_) ∧ Kd.S (Kd.slice 3 (Kd.int .i64)) 30 w' w.heap.size (fun _ => True) v0_ r ∧ Below w.heap.size w w' := by
 have HR0 := Aside0.mk hr0
 have HC0 := Aside0.mk hc0
 (try clear hr0); (try clear hc0)
 have HB := Aside0.mk (Below.refl w.heap.size w)
 have H : ((mult_Validate.f k l0).bind fun t436 => (if t436 = 0 then (if 0 ≤ (l0.length : Int) then (if ((l0.length : Int) : Int).toNat ≤ 11728124029610 then (mult_Opposite.l0 k l0 (List.replicate ((l0.length : Int) : Int).toNat []) (l0.length : Int) 0) else (none)) else (none)) else (some ([] : List (List Int))))) = some r := h
 clear h
 replace H := Option.bind_eq_some_iff.mp H
 obtain ⟨t436, A20, H⟩ := H
 replace H : (if t436 = 0 then (if 0 ≤ (l0.length : Int) then (if ((l0.length : Int) : Int).toNat ≤ 11728124029610 then (mult_Opposite.l0 k l0 (List.replicate ((l0.length : Int) : Int).toNat []) (l0.length : Int) 0) else (none)) else (none)) else (some ([] : List (List Int)))) = some r := H
 have A2 := Aside0.mk A20
 clear A20
 by_cases c3 : t436 = 0
 ·rw [if_pos c3] at H
  have c3b0 : (t436 == 0) = true := beq_iff_eq.mpr c3
  have c3b1 : (t436 != 0) = false := bne_eq_false_iff_eq.mpr c3
  clear c3
  by_cases c4 : 0 ≤ (l0.length : Int)
  ·rw [if_pos c4] at H
   have c4b0 := eq_true c4
   have c4b1 : decide (0 ≤ (l0.length : Int)) = true := decide_eq_true c4
   clear c4
   by_cases c5 : ((l0.length : Int) : Int).toNat ≤ 11728124029610
   ·rw [if_pos c5] at H
    have c5b0 := eq_true c5
    have c5b1 : decide (((l0.length : Int) : Int).toNat ≤ 11728124029610) = true := decide_eq_true c5
    clear c5
    obtain ⟨y437, hy437⟩ : ∃ y_ : List (List Int), y_ = (List.replicate ((l0.length : Int) : Int).toNat []) := ⟨_, rfl⟩
    replace H : (mult_Opposite.l0 k l0 y437 (l0.length : Int) 0) = some r := by first | (rw [hy437]; with_reducible exact H) | (have H2_ := (Option.bind_some _ _).symm.trans H; rw [hy437]; with_reducible exact H2_) | (have H2_ := (Option.bind_some _ _).symm.trans H; with_reducible exact H2_) | with_reducible exact H | (rw [hy437]; exact H) | exact H
    have Ny437 := Aside0.mk hy437
    clear hy437
    have H' := Aside0.mk H
    clear H
    go_enter Try.func45, Try.ntmps45
    go_wp2_with (first | ((with_reducible refine gate_callee (f := 19) rfl ?_); refine goesL_ (some 7) rfl rfl Try.func19 (by kernel_rfl) rfl #[.slice A0 l0.length c0] rfl (by (try simp only [List.map_toArray, List.map_cons, List.map_nil]); first | done | rfl | (simp only [List.length_drop, List.length_take]; rfl)) ?_; (with_reducible refine (mult_Validate.calls k _ _ l0 t436 _ ?side1 ?side2 A2.out).mono ?_); (case side1 => repeat (first | exact HR0.out | (with_reducible refine Kd.C_alloc ?_ _) | (with_reducible refine Kd.C_drewN ?_ _) | (with_reducible refine Kd.C_drew ?_))); (case side2 => exact HC0.out); rintro e w' ⟨rfl, ⟨nd, rfl⟩⟩; refine ⟨_, rfl, ?_⟩) | ((with_reducible refine gate_dst (N := 11) rfl ?_); refine Kd.S_make (Kd.slice 3 (Kd.int .i64)) _ 30 rfl (N := 11) rfl 22 _ _ rfl (l0.length : Int) rfl rfl Try.underlying22 (.slice none 0 0) 24 info30 rfl (by decide) (by omega) [] (ok := fun _ => True) (okp := fun _ => True) ⟨_, rfl, Kd.R_nil _ _ _ _ _⟩ (fun _ hk => hk) trivial (of_decide_eq_true (by first | (with_reducible assumption) | assumption)) (Nat.le_trans (Nat.mul_le_mul_right _ (of_decide_eq_true (by first | (with_reducible assumption) | assumption) : (l0.length : Int).toNat ≤ 11728124029610)) (by omega)) (Below.refl _ _) (Nat.le_refl _) ?_; intro v438 w6 ho7 hb hg_ hnew_; (try clear hg_); (try clear hnew_); (first | rw [← Ny437.out] at ho7 | (simp only [Int.reduceToNat] at ho7; rw [← Ny437.out] at ho7)); have n0_ := Aside0.mk (Kd.S_lower ho7 (below_size (by repeat (first | (with_reducible first | exact HB.out | apply below_alloc | apply pw_below_drewN | apply below_drew1) | exact HB.out)))); have n1_ := Aside0.mk (below_step (by repeat (first | (with_reducible first | exact HB.out | apply below_alloc | apply pw_below_drewN | apply below_drew1) | exact HB.out)) hb); clear HB; have HO439 := n0_; have HB := n1_; clear n0_ n1_; (try clear hb); (try clear ho7)))
    go_loopg [14] k (fun kq v14 w' => ∃ (x3_1 : List (List Int)) (x14_1 : Int), v14 = .int .i64 x14_1 ∧ Aside0 (mult_Opposite.l0 kq l0 x3_1 (l0.length : Int) x14_1 = some r) ∧ Aside0 (kq ≤ k) ∧ Aside0 (Kd.S (Kd.slice 3 (Kd.int .i64)) 30 w' w.heap.size (fun _ => True) v438 x3_1) ∧ Aside0 (Below w.heap.size w w'))
    case atStart => exact ⟨(y437), (0), (by first | rfl | (simp; done) | (simp [*]; done)), H', ⟨Nat.le_refl _⟩, ⟨by (with_reducible repeat (first | apply Kd.S_alloc | apply Kd.S_drewN | apply Kd.S_drew)); exact HO439.out⟩, ⟨by repeat (first | (with_reducible first | exact HB.out | apply below_alloc | apply pw_below_drewN | apply below_drew1) | exact HB.out)⟩⟩
    case round =>
     clear H'
     try clear c1
     try clear p2
     try clear c3
     try clear c3b0
     try clear c3b1
     try clear c4
     try clear c4b0
     try clear c4b1
     try clear c5
     try clear c5b0
     try clear c5b1
     obtain ⟨x3_1, x14_1, rfl, HA, HK1, HO_3, HB⟩ := hrel
     cases gk with
     | zero => exact absurd HA.out (by simp [mult_Opposite.l0])
     | succ k1 =>
      have H := HA.out
      clear HA
      simp only [mult_Opposite.l0] at H
      by_cases c8 : x14_1 < (l0.length : Int)
      ·rw [if_pos c8] at H
       have c8b0 : decide (x14_1 < (l0.length : Int)) = true := decide_eq_true c8
       clear c8
       by_cases c9 : 0 ≤ (l0.length : Int)
       ·rw [if_pos c9] at H
        have c9b0 := eq_true c9
        have c9b1 : decide (0 ≤ (l0.length : Int)) = true := decide_eq_true c9
        clear c9
        by_cases c10 : ((l0.length : Int) : Int).toNat ≤ 35184372088832
        ·rw [if_pos c10] at H
         have c10b0 := eq_true c10
         have c10b1 : decide (((l0.length : Int) : Int).toNat ≤ 35184372088832) = true := decide_eq_true c10
         clear c10
         obtain ⟨y440, hy440⟩ : ∃ y_ : List Int, y_ = (List.replicate ((l0.length : Int) : Int).toNat 0) := ⟨_, rfl⟩
         replace H : (if 0 ≤ x14_1 then (if x14_1 < (x3_1.length : Int) then (mult_Opposite.l1 k1 l0 (x3_1.set (x14_1 : Int).toNat y440) x14_1 (l0.length : Int) x14_1 (l0.length : Int) 0) else (none)) else (none)) = some r := by first | (rw [hy440]; with_reducible exact H) | (have H2_ := (Option.bind_some _ _).symm.trans H; rw [hy440]; with_reducible exact H2_) | (have H2_ := (Option.bind_some _ _).symm.trans H; with_reducible exact H2_) | with_reducible exact H | (rw [hy440]; exact H) | exact H
         have Ny440 := Aside0.mk hy440
         clear hy440
         by_cases c11 : 0 ≤ x14_1
         ·rw [if_pos c11] at H
          have c11b0 : decide (0 ≤ x14_1) = true := decide_eq_true c11
          clear c11
          by_cases c12 : x14_1 < (x3_1.length : Int)
          ·rw [if_pos c12] at H
           have c12b0 : decide (x14_1 < (x3_1.length : Int)) = true := decide_eq_true c12
           clear c12
           obtain ⟨y443, hy443⟩ : ∃ y_ : List (List Int), y_ = (x3_1.set (x14_1 : Int).toNat y440) := ⟨_, rfl⟩
           replace H : (mult_Opposite.l1 k1 l0 y443 x14_1 (l0.length : Int) x14_1 (l0.length : Int) 0) = some r := by first | (rw [hy443]; with_reducible exact H) | (have H2_ := (Option.bind_some _ _).symm.trans H; rw [hy443]; with_reducible exact H2_) | (have H2_ := (Option.bind_some _ _).symm.trans H; with_reducible exact H2_) | with_reducible exact H | (rw [hy443]; exact H) | exact H
           have Ny443 := Aside0.mk hy443
           clear hy443
           have H' := Aside0.mk H
           clear H
           go_wp2_with (first | ((with_reducible refine gate_dst (N := 21) rfl ?_); refine Kd.R_make (Kd.int .i64) _ 3 rfl (N := 21) rfl 30 _ _ rfl (l0.length : Int) rfl rfl Try.underlying30 (.int .i64 0) 8 info3 rfl (by decide) (by omega) 0 (ok := fun _ => True) (okp := fun _ => True) rfl (fun _ hk => hk) trivial (of_decide_eq_true (by first | (with_reducible assumption) | assumption)) (Nat.le_trans (Nat.mul_le_mul_right _ (of_decide_eq_true (by first | (with_reducible assumption) | assumption) : (l0.length : Int).toNat ≤ 35184372088832)) (by omega)) (Below.refl _ _) (Nat.le_refl _) ?_; intro v441 w14 ho15 hb hg_ hnew_; (try clear hg_); (try clear hnew_); (first | rw [← Ny440.out] at ho15 | (simp only [Int.reduceToNat] at ho15; rw [← Ny440.out] at ho15)); have n0_ := Aside0.mk (Kd.S_elder' (by (with_reducible repeat (first | apply Kd.S_alloc | apply Kd.S_drewN | apply Kd.S_drew)); exact HO_3.out) (Kd.R_base ho15) hb); have n1_ := Aside0.mk (Kd.R_lower ho15 (below_size (by repeat (first | (with_reducible first | exact HB.out | apply below_alloc | apply pw_below_drewN | apply below_drew1) | exact HB.out)))); have n2_ := Aside0.mk (below_step (by repeat (first | (with_reducible first | exact HB.out | apply below_alloc | apply pw_below_drewN | apply below_drew1) | exact HB.out)) hb); clear HO_3; clear HB; have HO_3 := n0_; have HO442 := n1_; have HB := n2_; clear n0_ n1_ n2_; (try clear hb); (try clear ho15); have p13 : 0 ≤ (x14_1 : Int) := of_decide_eq_true (by first | (with_reducible assumption) | assumption); have q13 : (x14_1 : Int) < ((x3_1.length : Int) : Int) := of_decide_eq_true (by first | (with_reducible assumption) | assumption); obtain ⟨go13, co13, eo13, gb13, gl13, cl13, HG13⟩ := Kd.S_form HO_3.out (by omega); (first | cases eo13 | (injection eo13 with ea_ en_ ec_; (first | subst ea_ | (injection ea_ with ea_; subst ea_)); subst ec_; clear en_)); have GB13 := Aside0.mk gb13; have GG13 := Aside0.mk HG13; (try clear gb13); (try clear gl13); (try clear HG13); obtain ⟨_, ce13, hcl13, hM13, hcc13, hfr13, _, _⟩ := Kd.S_elem HO_3.out [] (x14_1 : Int) p13 q13; obtain ⟨ve13_0, rfl, ge13_0⟩ := hM13; have hx13_0 := hcc13 0 _ rfl; have hf13_0 := hfr13 0; (try simp only [show ((Kd.slice 3 (Kd.int .i64))).sz = 1 from rfl, Nat.mul_one, Nat.add_zero] at hx13_0); (try simp only [show ((Kd.slice 3 (Kd.int .i64))).sz = 1 from rfl, Nat.mul_one, Nat.add_zero] at hf13_0); (try clear hcl13); (try clear hcc13); (try clear hfr13); (try clear hM13); replace p13 := eq_true p13; replace q13 := eq_true q13; have n_ := Aside0.mk (Kd.S_mono (ok' := (fun k_ => some k_ ≠ (v441 : Value).ownBlock)) HO_3.out (fun k_ hk => hk.2)); clear HO_3; have HO_3 := n_; clear n_; have HX16 := Aside0.mk (show Kd.S (Kd.slice 3 (Kd.int .i64)) 30 w14 w.heap.size (fun k_ => ((fun _ => True)) k_ ∧ ¬ ((fun k_ => some k_ = (v441 : Value).ownBlock)) k_) (.slice (some ⟨go13, 0, none⟩) x3_1.length co13) x3_1 from (by (with_reducible repeat (first | apply Kd.S_alloc | apply Kd.S_drewN | apply Kd.S_drew)); exact Kd.S_mono HO_3.out (fun k_ hk => ⟨trivial, fun e_ => hk e_⟩))); obtain ⟨oki16, ce16, hcl16, hM16, hcc16, hfr16, hoki16, hH16⟩ := Kd.S_elem HX16.out [] (x14_1 : Int) (of_decide_eq_true (by first | (with_reducible assumption) | assumption)) (by have h_ : (x14_1 : Int) < ((x3_1.length : Int) : Int) := of_decide_eq_true (by first | (with_reducible assumption) | assumption); first | exact h_ | (have e_ := (Kd.S_reads' HO_3.out).1; omega) | simpa using h_); obtain ⟨ve16_0, rfl, ge16_0⟩ := hM16; have HP16 := Kd.S_seg hH16 (of_decide_eq_true (by first | (with_reducible assumption) | assumption)) (by have h_ : (x14_1 : Int) < ((x3_1.length : Int) : Int) := of_decide_eq_true (by first | (with_reducible assumption) | assumption); first | exact h_ | (have e_ := (Kd.S_reads' HO_3.out).1; omega) | simpa using h_) (seg := [v441]) (j := 0) (show 1 ≤ 1 from by decide) (x' := y440) (Kd.M_row (Kd.R_mono (Kd.R_tight rfl (Kd.R_mono (ok' := fun k_ => ((fun _ => True)) k_ ∧ k_ ≠ go13) (Kd.R_apart' (HO442.out) (Kd.S_typed HO_3.out) (by decide)) (fun k_ hk => ⟨trivial, fun e_ => (hk.2) (by rw [e_]; rfl)⟩))) (fun _ h_ => Or.inr (h_)))) (fun _ hk => hk) (fun k_ hk_ => ((Kd.R_mono (ok' := fun k_ => ((fun _ => True)) k_ ∧ k_ ≠ go13) (Kd.R_apart' (HO442.out) (Kd.S_typed HO_3.out) (by decide)) (fun k_ hk => ⟨trivial, fun e_ => (hk.2) (by rw [e_]; rfl)⟩))).1 k_ hk_.symm); have hx16_0 := hcc16 0 _ rfl; (try simp only [show ((Kd.slice 3 (Kd.int .i64))).sz = 1 from rfl, Nat.mul_one, Nat.add_zero] at hx16_0); have hf16_0 := hfr16 0; (try simp only [show ((Kd.slice 3 (Kd.int .i64))).sz = 1 from rfl, Nat.mul_one, Nat.add_zero] at hf16_0); (try clear hcl16); (try clear hcc16); (try clear hfr16); (try clear hM16); (try clear hoki16); (try clear hH16); (try simp only [show ((Kd.slice 3 (Kd.int .i64))).sz = 1 from rfl, Nat.mul_one, Nat.add_zero] at HP16)) | ((with_reducible refine gate_store (t := 30) (p := 22) rfl ?_); refine store_event (t := 30) (p := 22) (v := ?vo_w17) (w1 := (w14.setCell ⟨go13, (x14_1 : Int).toNat, none⟩ (v441))) ?hg ?ho ?hn ?hr ?_; (case ho => rfl); (case hg => rfl); (case hn => rfl); (case hr => first | (go_simp; done) | (go_simp; rfl) | (obtain ⟨A_, c_, e_⟩ := Kd.R_slice HO442.out; subst e_; first | (go_simp; done) | (go_simp; rfl)) | (obtain ⟨A_, c_, e_⟩ := Kd.S_slice HO442.out; subst e_; first | (go_simp; done) | (go_simp; rfl)) | (obtain ⟨A_, c_, e_⟩ := Kd.N_slice HO442.out; subst e_; first | (go_simp; done) | (go_simp; rfl))); intro w17 hw; have hg : w14.grownBy w17 (some go13) := (by rw [hw]; exact HP16.2); have hp_ : Kd.S (Kd.slice 3 (Kd.int .i64)) 30 w17 w.heap.size (fun _ => True) (.slice (some ⟨go13, 0, none⟩) x3_1.length co13) y443 := (by rw [hw, Ny443.out]; exact HP16.1); clear HP16; have n0_ := Aside0.mk (hp_); have n1_ := Aside0.mk ((by rw [hw]; exact below_set (HB.out) GB13.out : Below w.heap.size w w17)); clear HO_3; clear HB; clear HO442; have HO_3 := n0_; have HB := n1_; clear n0_ n1_; (try clear hg); (try clear hw); (try clear hp_)))
           go_loopg [25] k1 (fun kq v25 w' => ∃ (x3_2 : List (List Int)) (x25_2 : Int), v25 = .int .i64 x25_2 ∧ Aside0 (mult_Opposite.l1 kq l0 x3_2 x14_1 (l0.length : Int) x14_1 (l0.length : Int) x25_2 = some r) ∧ Aside0 (kq ≤ k1) ∧ Aside0 (Kd.S (Kd.slice 3 (Kd.int .i64)) 30 w' w.heap.size (fun _ => True) (.slice (some ⟨go13, 0, none⟩) x3_1.length co13) x3_2) ∧ Aside0 (Below w.heap.size w w'))
           case atStart => exact ⟨(y443), (0), (by first | rfl | (simp; done) | (simp [*]; done)), H', ⟨Nat.le_refl _⟩, ⟨by (with_reducible repeat (first | apply Kd.S_alloc | apply Kd.S_drewN | apply Kd.S_drew)); exact HO_3.out⟩, ⟨by repeat (first | (with_reducible first | exact HB.out | apply below_alloc | apply pw_below_drewN | apply below_drew1) | exact HB.out)⟩⟩
           case round =>
            clear H'
            try clear c1
            try clear p1
            try clear q1
            try clear hx1
            try clear hf1
            try clear p2
            try clear c3
            try clear c3b0
            try clear c3b1
            try clear c4
            try clear c4b0
            try clear c4b1
            try clear c5
            try clear c5b0
            try clear c5b1
            try clear c8
            try clear c8b0
            try clear c9
            try clear c9b0
            try clear c9b1
            try clear c10
            try clear c10b0
            try clear c10b1
            try clear c11
            try clear c11b0
            try clear c12
            try clear c12b0
            try clear c13
            try clear p13
            try clear q13
            try clear hx13
            try clear hf13
            try clear c16
            try clear hx16
            try clear hf16
            try clear hx13_0
            try clear hx16_0
            try clear p13
            try clear p2
            try clear q13
            obtain ⟨x3_2, x25_2, rfl, HA, HK2, HO_3, HB⟩ := hrel
            have hl3_2 := (Kd.S_reads' HO_3.out).1
            rw [hl3_2] at HO_3
            (try simp only [hl3_2])
            cases gk with
            | zero => exact absurd HA.out (by simp [mult_Opposite.l1])
            | succ k2 =>
             have H := HA.out
             clear HA
             simp only [mult_Opposite.l1] at H
             by_cases c18 : x25_2 < (l0.length : Int)
             ·rw [if_pos c18] at H
              have c18b0 : decide (x25_2 < (l0.length : Int)) = true := decide_eq_true c18
              (try (have c18b0z := c18b0; simp only [hl3_2] at c18b0z))
              clear c18
              by_cases c19 : 0 ≤ x14_1
              ·rw [if_pos c19] at H
               have c19b0 : decide (0 ≤ x14_1) = true := decide_eq_true c19
               clear c19
               by_cases c20 : x14_1 < (x3_2.length : Int)
               ·rw [if_pos c20] at H
                have c20b0 : decide (x14_1 < (x3_2.length : Int)) = true := decide_eq_true c20
                (try (have c20b0z := c20b0; simp only [hl3_2] at c20b0z))
                clear c20
                by_cases c21 : 0 ≤ x25_2
                ·rw [if_pos c21] at H
                 have c21b0 : decide (0 ≤ x25_2) = true := decide_eq_true c21
                 clear c21
                 by_cases c22 : x25_2 < (l0.length : Int)
                 ·rw [if_pos c22] at H
                  have c22b0 : decide (x25_2 < (l0.length : Int)) = true := decide_eq_true c22
                  (try (have c22b0z := c22b0; simp only [hl3_2] at c22b0z))
                  clear c22
                  by_cases c23 : x14_1 < ((rd_L1 l0 x25_2).length : Int)
                  ·rw [if_pos c23] at H
                   have c23b0 : decide (x14_1 < ((rd_L1 l0 x25_2).length : Int)) = true := decide_eq_true c23
                   (try (have c23b0z := c23b0; simp only [hl3_2] at c23b0z))
                   clear c23
                   by_cases c24 : x25_2 < ((rd_L1 x3_2 x14_1).length : Int)
                   ·rw [if_pos c24] at H
                    have c24b0 : decide (x25_2 < ((rd_L1 x3_2 x14_1).length : Int)) = true := decide_eq_true c24
                    (try (have c24b0z := c24b0; simp only [hl3_2] at c24b0z))
                    clear c24
                    obtain ⟨y447, hy447⟩ : ∃ y_ : List Int, y_ = ((rd_L1 x3_2 x14_1).set (x25_2 : Int).toNat (rd (rd_L1 l0 x25_2) x14_1)) := ⟨_, rfl⟩
                    replace H : (mult_Opposite.l1 k2 l0 (x3_2.set (x14_1 : Int).toNat y447) x14_1 (l0.length : Int) x14_1 (l0.length : Int) (wrap64 (x25_2 + 1))) = some r := by first | (rw [hy447]; with_reducible exact H) | (have H2_ := (Option.bind_some _ _).symm.trans H; rw [hy447]; with_reducible exact H2_) | (have H2_ := (Option.bind_some _ _).symm.trans H; with_reducible exact H2_) | with_reducible exact H | (rw [hy447]; exact H) | exact H
                    have Ny447 := Aside0.mk hy447
                    clear hy447
                    obtain ⟨y449, hy449⟩ : ∃ y_ : List (List Int), y_ = (x3_2.set (x14_1 : Int).toNat y447) := ⟨_, rfl⟩
                    replace H : (mult_Opposite.l1 k2 l0 y449 x14_1 (l0.length : Int) x14_1 (l0.length : Int) (wrap64 (x25_2 + 1))) = some r := by first | (rw [hy449]; with_reducible exact H) | (have H2_ := (Option.bind_some _ _).symm.trans H; rw [hy449]; with_reducible exact H2_) | (have H2_ := (Option.bind_some _ _).symm.trans H; with_reducible exact H2_) | with_reducible exact H | (rw [hy449]; exact H) | exact H
                    have Ny449 := Aside0.mk hy449
                    clear hy449
                    have H' := Aside0.mk H
                    clear H
                    try go_wp2
                    have n0_ := Aside0.mk (Kd.S_drew HO_3.out)
                    have n1_ := Aside0.mk (below_drew1 HB.out)
                    clear HO_3
                    clear HB
                    have HO_3 := n0_
                    have HB := n1_
                    clear n0_ n1_
                    have p444 : 0 ≤ (x14_1 : Int) := of_decide_eq_true (by first | (with_reducible assumption) | assumption)
                    have q444 : x14_1 < (x3_2.length : Int) := of_decide_eq_true (by first | (with_reducible assumption) | assumption)
                    obtain ⟨ad444, A444_0, c444_0, e444, hx444_0, hl444_0, hi444_0⟩ := at_L1 (Kd.S_reads' HO_3.out).2.2 x14_1 p444 q444
                    obtain rfl : (⟨go13, 0, none⟩ : Addr) = ad444 := (by injection e444)
                    obtain ⟨ce444, hce444, hMe444, hcc444⟩ := Kd.S_get HO_3.out [] x14_1 p444 (by first | exact q444 | exact of_decide_eq_true (by first | (with_reducible assumption) | assumption) | (have e_ := (Kd.S_reads' HO_3.out).1; omega))
                    obtain ⟨ve444_0, rfl, ge444_0⟩ := hMe444
                    have hv444_0 := hcc444 0 _ rfl
                    rw [Nat.add_zero, show ((Kd.slice 3 (Kd.int .i64))).sz = 1 from rfl, Nat.mul_one] at hv444_0
                    replace hv444_0 := Option.some.inj (hv444_0.symm.trans hx444_0)
                    rw [hv444_0] at ge444_0
                    have HL444_0 := Aside0.mk (show Kd.R (Kd.int .i64) 3 _ _ _ _ (rd_L1 x3_2 x14_1) from ge444_0)
                    (try clear hv444_0); (try clear ge444_0)
                    have HX444_0 := Aside0.mk hx444_0
                    (try clear hcc444); (try clear hce444)
                    (first | simp only [add_plain] at hx444_0 | simp only [add_at] at hx444_0 | simp only [Addr.add, Nat.zero_add] at hx444_0 | skip)
                    have HR444_0 := Aside0.mk hi444_0
                    have HC444_0 := Aside0.mk hl444_0
                    (try clear hi444_0); (try clear hl444_0)
                    replace p444 := eq_true p444
                    replace q444 := eq_true q444
                    have p445 : 0 ≤ (x25_2 : Int) := of_decide_eq_true (by first | (with_reducible assumption) | assumption)
                    have q445 : x25_2 < (l0.length : Int) := of_decide_eq_true (by first | (with_reducible assumption) | assumption)
                    obtain ⟨ad445, A445_0, c445_0, e445, hx445_0, hl445_0, hi445_0⟩ := at_L1 HR0.out x25_2 p445 q445
                    have hw445_0 := hx445_0
                    cases e445
                    replace hx445_0 := (HB.out.cell (World.block_lt_of_cell? w _ hx445_0)).trans hx445_0
                    have HR445_0 := Aside0.mk hi445_0
                    have HC445_0 := Aside0.mk hl445_0
                    (try clear hi445_0); (try clear hl445_0)
                    replace p445 := eq_true p445
                    replace q445 := eq_true q445
                    have p446 : 0 ≤ (x14_1 : Int) := of_decide_eq_true (by first | (with_reducible assumption) | assumption)
                    have q446 : x14_1 < ((rd_L1 l0 x25_2).length : Int) := of_decide_eq_true (by first | (with_reducible assumption) | assumption)
                    obtain ⟨ad446, e446, hx446_0⟩ := Kd.at_int HR445_0.out x14_1 p446 q446
                    have hw446_0 := hx446_0
                    cases e446
                    replace hx446_0 := (HB.out.cell (World.block_lt_of_cell? w _ hx446_0)).trans hx446_0
                    replace p446 := eq_true p446
                    replace q446 := eq_true q446
                    have p25 : 0 ≤ (x25_2 : Int) := of_decide_eq_true (by first | (with_reducible assumption) | assumption)
                    have q25 : (x25_2 : Int) < (((rd_L1 x3_2 x14_1).length : Int) : Int) := of_decide_eq_true (by first | (with_reducible assumption) | assumption)
                    obtain ⟨go25, co25, eo25, gb25, gl25, cl25, HG25⟩ := Kd.R_form HL444_0.out (by omega)
                    (first | cases eo25 | (injection eo25 with ea_ en_ ec_; (first | subst ea_ | (injection ea_ with ea_; subst ea_)); subst ec_; clear en_))
                    have GB25 := Aside0.mk gb25
                    have GG25 := Aside0.mk HG25
                    (try clear gb25); (try clear gl25); (try clear HG25)
                    obtain ⟨hx25_0, hf25_0⟩ := Kd.R_celln 0 HL444_0.out (x25_2 : Int) p25 q25
                    replace p25 := eq_true p25
                    replace q25 := eq_true q25
                    have hq27 : (x14_1 : Int) < (x3_2.length : Int) := (by have h_ : (x14_1 : Int) < ((x3_2.length : Int) : Int) := of_decide_eq_true (by first | (with_reducible assumption) | assumption); first | exact h_ | (have e_ := (Kd.S_reads' HO_3.out).1; omega) | simpa only [List.length_set, List.length_set] using h_)
                    obtain ⟨oki27, ce27, hcl27, hM27, hcc27, hok27, hbk27⟩ := Kd.S_borrow HO_3.out [] (x14_1 : Int) (of_decide_eq_true (by first | (with_reducible assumption) | assumption)) hq27
                    obtain ⟨ve27_0, rfl, ge27_0⟩ := hM27
                    have hv27 := hcc27 0 _ rfl
                    rw [Nat.add_zero, show ((Kd.slice 3 (Kd.int .i64))).sz = 1 from rfl, Nat.mul_one] at hv27
                    replace hv27 := Option.some.inj (hv27.symm.trans HX444_0.out)
                    subst hv27
                    (try clear hcc27); (try clear hcl27)
                    replace ge27_0 := (show Kd.R (Kd.int .i64) 3 _ _ _ _ (rd_L1 x3_2 x14_1) from ge27_0)
                    have HP27 := Kd.R_putg ge27_0 (x25_2 : Int) (rd (rd_L1 l0 x25_2) x14_1)
                    rw [← Ny447.out] at HP27
                    have HS27 := hbk27 HP27.2 (fun k_ e_ => by injection e_ with e_; subst e_; exact ge27_0.1 _ rfl) (x' := y447) (Kd.M_row HP27.1)
                    rw [← Ny449.out] at HS27
                    have HQ27 := Aside0.mk HS27
                    (try clear HP27); (try clear HS27); (try clear hbk27); (try clear hok27)
                    refine start_ (n := 14) (S := fun w' => w'.cell? ⟨go13, (x14_1).toNat, none⟩ = some (.slice (some ⟨go25, 0, none⟩) (rd_L1 x3_2 x14_1).length c444_0) ∧ w'.cell? (ad445.add (x25_2).toNat) = some (.slice (some ad446) (rd_L1 l0 x25_2).length c445_0) ∧ w'.cell? (ad446.add (x14_1).toNat) = some (.int .i64 (rd (rd_L1 l0 x25_2) x14_1))) (ds := [13]) #[false, false, false, false, false, false, false, false, false, false, false, false, false, false] (by kernel_rfl) rfl rfl ⟨hx444_0, ((HB.out.cell (World.block_lt_of_cell? w _ hw445_0)).trans hw445_0), ((HB.out.cell (World.block_lt_of_cell? w _ hw446_0)).trans hw446_0)⟩ (fun hHeld => ?_); refine with_tabW mult_Opposite.tab11 mult_Opposite.bits11 (fun HT_ HW_ => ?_)
                    generalize wr.drew = w26 at HO_3 HB GG25 HL444_0 HQ27 HR444_0 HR445_0 HX444_0 hf25_0 hx25_0 hx444_0 hx445_0 hx446_0 hHeld ⊢
                    refine pure_ (i := 0) (N := some 28) (v := ?_) (a' := ?_) #[true, false, false, false, false, false, false, false, false, false, false, false, false, false] rfl rfl (any_of HT_.out (by kernel_rfl)) (fun _ _ _ h => h) (Or.inl ⟨by rfl, ?_⟩) ?_ ?_
                    rotate_left
                    ·intro w'
                     go_simp
                     with_reducible rfl
                    rotate_left
                    ·simp only [Act.put, List.setIfInBounds_toArray, List.set_cons_zero, List.set_cons_succ, i64_w, i32_w]
                     rfl
                    refine pure_ (i := 1) (N := some 29) (v := ?_) (a' := ?_) #[true, true, false, false, false, false, false, false, false, false, false, false, false, false] rfl rfl (any_of HT_.out (by kernel_rfl)) (fun _ _ _ h => h) (Or.inl ⟨by rfl, ?_⟩) ?_ ?_
                    rotate_left
                    ·intro w'
                     go_simp
                     with_reducible rfl
                    rotate_left
                    ·simp only [Act.put, List.setIfInBounds_toArray, List.set_cons_zero, List.set_cons_succ, i64_w, i32_w]
                     rfl
                    refine pure_ (i := 2) (N := some 30) (v := ?_) (a' := ?_) #[true, true, true, false, false, false, false, false, false, false, false, false, false, false] rfl rfl (any_of HT_.out (by kernel_rfl)) (fun _ _ _ h => h) (Or.inl ⟨by rfl, ?_⟩) ?_ ?_
                    rotate_left
                    ·intro w'
                     go_simp
                     with_reducible rfl
                    rotate_left
                    ·simp only [Act.put, List.setIfInBounds_toArray, List.set_cons_zero, List.set_cons_succ, i64_w, i32_w]
                     rfl
                    refine pure_ (i := 4) (N := some 32) (v := ?_) (a' := ?_) #[true, true, true, false, true, false, false, false, false, false, false, false, false, false] rfl rfl (any_of HT_.out (by kernel_rfl)) (fun _ _ _ h => h) (Or.inl ⟨by rfl, ?_⟩) ?_ ?_
                    rotate_left
                    ·intro w'
                     go_simp
                     with_reducible rfl
                    rotate_left
                    ·simp only [Act.put, List.setIfInBounds_toArray, List.set_cons_zero, List.set_cons_succ, i64_w, i32_w]
                     rfl
                    refine pure_ (i := 5) (N := some 33) (v := ?_) (a' := ?_) #[true, true, true, false, true, true, false, false, false, false, false, false, false, false] rfl rfl (any_of HT_.out (by kernel_rfl)) (fun _ _ _ h => h) (Or.inl ⟨by rfl, ?_⟩) ?_ ?_
                    rotate_left
                    ·intro w'
                     go_simp
                     with_reducible rfl
                    rotate_left
                    ·simp only [Act.put, List.setIfInBounds_toArray, List.set_cons_zero, List.set_cons_succ, i64_w, i32_w]
                     rfl
                    refine pure_ (i := 6) (N := some 34) (v := ?_) (a' := ?_) #[true, true, true, false, true, true, true, false, false, false, false, false, false, false] rfl rfl (any_of HT_.out (by kernel_rfl)) (fun _ _ _ h => h) (Or.inl ⟨by rfl, ?_⟩) ?_ ?_
                    rotate_left
                    ·intro w'
                     go_simp
                     with_reducible rfl
                    rotate_left
                    ·simp only [Act.put, List.setIfInBounds_toArray, List.set_cons_zero, List.set_cons_succ, i64_w, i32_w]
                     rfl
                    refine pure_ (i := 7) (N := some 35) (v := ?_) (a' := ?_) #[true, true, true, false, true, true, true, true, false, false, false, false, false, false] rfl rfl (any_of HT_.out (by kernel_rfl)) (fun _ _ _ h => h) (Or.inl ⟨by rfl, ?_⟩) ?_ ?_
                    rotate_left
                    ·intro w'
                     go_simp
                     with_reducible rfl
                    rotate_left
                    ·simp only [Act.put, List.setIfInBounds_toArray, List.set_cons_zero, List.set_cons_succ, i64_w, i32_w]
                     rfl
                    refine pure_ (i := 9) (N := some 37) (v := ?_) (a' := ?_) #[true, true, true, false, true, true, true, true, false, true, false, false, false, false] rfl rfl (any_of HT_.out (by kernel_rfl)) (fun _ _ _ h => h) (Or.inl ⟨by rfl, ?_⟩) ?_ ?_
                    rotate_left
                    ·intro w'
                     go_simp
                     with_reducible rfl
                    rotate_left
                    ·simp only [Act.put, List.setIfInBounds_toArray, List.set_cons_zero, List.set_cons_succ, i64_w, i32_w]
                     rfl
                    refine take_ (i := 3) (N := some 31) (v := ?_) (a' := ?_) #[true, true, true, true, true, true, true, true, false, true, false, false, false, false] rfl rfl (take_ofW HT_.out HW_.out (by kernel_rfl)) (fun _ _ _ h => h) (Or.inl ⟨by rfl, ?_⟩) hHeld ?_ ?_
                    rotate_left
                    ·rintro w' ⟨s0, s1, s2⟩
                     go_simp
                     with_reducible rfl
                    rotate_left
                    ·simp only [Act.put, List.setIfInBounds_toArray, List.set_cons_zero, List.set_cons_succ, i64_w, i32_w]
                     rfl
                    refine take_ (i := 8) (N := some 36) (v := ?_) (a' := ?_) #[true, true, true, true, true, true, true, true, true, true, false, false, false, false] rfl rfl (take_ofW HT_.out HW_.out (by kernel_rfl)) (fun _ _ _ h => h) (Or.inl ⟨by rfl, ?_⟩) hHeld ?_ ?_
                    rotate_left
                    ·rintro w' ⟨s0, s1, s2⟩
                     go_simp
                     with_reducible rfl
                    rotate_left
                    ·simp only [Act.put, List.setIfInBounds_toArray, List.set_cons_zero, List.set_cons_succ, i64_w, i32_w]
                     rfl
                    refine pure_ (i := 10) (N := some 38) (v := ?_) (a' := ?_) #[true, true, true, true, true, true, true, true, true, true, true, false, false, false] rfl rfl (any_of HT_.out (by kernel_rfl)) (fun _ _ _ h => h) (Or.inl ⟨by rfl, ?_⟩) ?_ ?_
                    rotate_left
                    ·intro w'
                     go_simp
                     with_reducible rfl
                    rotate_left
                    ·simp only [Act.put, List.setIfInBounds_toArray, List.set_cons_zero, List.set_cons_succ, i64_w, i32_w]
                     rfl
                    refine take_ (i := 11) (N := some 39) (v := ?_) (a' := ?_) #[true, true, true, true, true, true, true, true, true, true, true, true, false, false] rfl rfl (take_ofW HT_.out HW_.out (by kernel_rfl)) (fun _ _ _ h => h) (Or.inl ⟨by rfl, ?_⟩) hHeld ?_ ?_
                    rotate_left
                    ·rintro w' ⟨s0, s1, s2⟩
                     go_simp
                     with_reducible rfl
                    rotate_left
                    ·simp only [Act.put, List.setIfInBounds_toArray, List.set_cons_zero, List.set_cons_succ, i64_w, i32_w]
                     rfl
                    refine pure_ (i := 12) (N := some 40) (v := ?_) (a' := ?_) #[true, true, true, true, true, true, true, true, true, true, true, true, true, false] rfl rfl (any_of HT_.out (by kernel_rfl)) (fun _ _ _ h => h) (Or.inl ⟨by rfl, ?_⟩) ?_ ?_
                    rotate_left
                    ·intro w'
                     go_simp
                     with_reducible rfl
                    rotate_left
                    ·simp only [Act.put, List.setIfInBounds_toArray, List.set_cons_zero, List.set_cons_succ, i64_w, i32_w]
                     rfl
                    refine last_ (i := 13) (N := none) #[true, true, true, true, true, true, true, true, true, true, true, true, true, true] rfl rfl (one_of HT_.out (by kernel_rfl)) (by decide) (fun K hK => ?_)
                    refine skip_ (w1 := ?_) (by rfl) rfl ?_ ?_
                    rotate_left
                    ·go_simp
                     rfl
                    refine hK.out _ _ ?_
                    clear hK K
                    refine done_ (done_of HT_.out (by kernel_rfl)) ?_
                    try go_wp2
                    (try simp only [← hl3_2])
                    go_roundg k2
                    case measure => have := HK1.out; have := HK2.out; omega
                    case rel => exact ⟨(y449), (wrap64 (x25_2 + 1)), (by first | rfl | (simp; done) | (simp [*]; done)), H', ⟨by have := HK1.out; have := HK2.out; omega⟩, ⟨by (try simp only [hl3_2]); (with_reducible repeat (first | apply Kd.S_alloc | apply Kd.S_drewN | apply Kd.S_drew)); exact HQ27.out⟩, ⟨by repeat (first | (with_reducible first | exact HB.out | apply below_alloc | apply pw_below_drewN | apply below_drew1 | refine below_set ?_ GB25.out) | exact HB.out)⟩⟩
                   ·rw [if_neg c24] at H
                    exact absurd H (by simp)
                  ·rw [if_neg c23] at H
                   exact absurd H (by simp)
                 ·rw [if_neg c22] at H
                  exact absurd H (by simp)
                ·rw [if_neg c21] at H
                 exact absurd H (by simp)
               ·rw [if_neg c20] at H
                exact absurd H (by simp)
              ·rw [if_neg c19] at H
               exact absurd H (by simp)
             ·rw [if_neg c18] at H
              have c18b0 : decide (x25_2 < (l0.length : Int)) = false := decide_eq_false c18
              (try (have c18b0z := c18b0; simp only [hl3_2] at c18b0z))
              clear c18
              have H' := Aside0.mk H
              clear H
              go_wp2
              (try simp only [← hl3_2])
              go_roundg k2
              case measure => have := HK1.out; have := HK2.out; omega
              case rel => exact ⟨(x3_2), (wrap64 (x14_1 + 1)), (by first | rfl | (simp; done) | (simp [*]; done)), H', ⟨by have := HK1.out; have := HK2.out; omega⟩, ⟨by (try simp only [hl3_2]); (with_reducible repeat (first | apply Kd.S_alloc | apply Kd.S_drewN | apply Kd.S_drew)); exact HO_3.out⟩, ⟨by repeat (first | (with_reducible first | exact HB.out | apply below_alloc | apply pw_below_drewN | apply below_drew1) | exact HB.out)⟩⟩
          ·rw [if_neg c12] at H
           exact absurd H (by simp)
         ·rw [if_neg c11] at H
          exact absurd H (by simp)
        ·rw [if_neg c10] at H
         exact absurd H (by simp)
       ·rw [if_neg c9] at H
        exact absurd H (by simp)
      ·rw [if_neg c8] at H
       have c8b0 : decide (x14_1 < (l0.length : Int)) = false := decide_eq_false c8
       clear c8
       obtain rfl := Option.some.inj H
       go_wp2
       go_ret
       exact ⟨_, by first | rfl | (simp [errW_none, errW_some] <;> rfl) | (simp [*, errW_none, errW_some] <;> rfl), by (with_reducible repeat (first | apply Kd.S_alloc | apply Kd.S_drewN | apply Kd.S_drew)); exact HO_3.out, by repeat (first | (with_reducible first | exact HB.out | apply below_alloc | apply pw_below_drewN | apply below_drew1) | exact HB.out)⟩
   ·rw [if_neg c5] at H
    exact absurd H (by simp)
  ·rw [if_neg c4] at H
   exact absurd H (by simp)
 ·rw [if_neg c3] at H
  have c3b0 : (t436 == 0) = false := beq_eq_false_iff_ne.mpr c3
  have c3b1 : (t436 != 0) = true := bne_iff_ne.mpr c3
  obtain rfl := Option.some.inj H
  go_enter Try.func45, Try.ntmps45
  go_wp2_with (first | ((with_reducible refine gate_callee (f := 19) rfl ?_); refine goesL_ (some 7) rfl rfl Try.func19 (by kernel_rfl) rfl #[.slice A0 l0.length c0] rfl (by (try simp only [List.map_toArray, List.map_cons, List.map_nil]); first | done | rfl | (simp only [List.length_drop, List.length_take]; rfl)) ?_; (with_reducible refine (mult_Validate.calls k _ _ l0 t436 _ ?side1 ?side2 A2.out).mono ?_); (case side1 => repeat (first | exact HR0.out | (with_reducible refine Kd.C_alloc ?_ _) | (with_reducible refine Kd.C_drewN ?_ _) | (with_reducible refine Kd.C_drew ?_))); (case side2 => exact HC0.out); rintro e w' ⟨rfl, ⟨nd, rfl⟩⟩; refine ⟨_, rfl, ?_⟩))
  go_ret
  exact ⟨_, by first | rfl | (simp [errW_none, errW_some] <;> rfl) | (simp [*, errW_none, errW_some] <;> rfl), by first | exact Kd.S_nil _ _ _ _ _ | exact Kd.N_nil _ _ _ _ _ | exact Kd.V_nil _ _ _ _ _ | exact Kd.Q_nil _ _ _ _ _ | exact Kd.R_nil _ _ _ _ _, by repeat (first | (with_reducible first | exact HB.out | apply below_alloc | apply pw_below_drewN | apply below_drew1) | exact HB.out)⟩

/-! ### mult_Adjoin: function 46 -/
mutual
def mult_Adjoin.j0 : Nat → List (List Int) → Bool → Option ((List (List Int)))
 | 0, _, _ => none
 | k + 1, x0, x14 => if x14 = true then (some ([] : List (List Int))) else (if 0 ≤ (wrap64 ((x0.length : Int) + 1)) then (if (wrap64 ((x0.length : Int) + 1) : Int).toNat ≤ 11728124029610 then ((some (List.replicate (wrap64 ((x0.length : Int) + 1) : Int).toNat [] : List (List Int))).bind fun y451 => (mult_Adjoin.l0 k x0 (x0.length : Int) y451 (y451.length : Int) 0)) else (none)) else (none))
def mult_Adjoin.l0 : Nat → List (List Int) → Int → List (List Int) → Int → Int → Option ((List (List Int)))
 | 0, _, _, _, _, _ => none
 | k + 1, x0, x3, x4, x21, x22 => if x22 < x21 then (if 0 ≤ (wrap64 (x3 + 1)) then (if (wrap64 (x3 + 1) : Int).toNat ≤ 35184372088832 then (if 0 ≤ x22 then (if x22 < (x4.length : Int) then ((some (x4.set (x22 : Int).toNat (List.replicate (wrap64 (x3 + 1) : Int).toNat 0) : List (List Int))).bind fun y457 => (mult_Adjoin.l1 k x0 x3 y457 x22 x21 x22 ((rd_L1 y457 x22).length : Int) 0)) else (none)) else (none)) else (none)) else (none)) else (some x4)
def mult_Adjoin.l1 : Nat → List (List Int) → Int → List (List Int) → Int → Int → Int → Int → Int → Option ((List (List Int)))
 | 0, _, _, _, _, _, _, _, _ => none
 | k + 1, x0, x3, x4, x5, x21, x22, x35, x36 => if x36 < x35 then (if x5 = x3 then (if 0 ≤ x5 then (if x5 < (x4.length : Int) then (if 0 ≤ x36 then (if x36 < ((rd_L1 x4 x5).length : Int) then (mult_Adjoin.l1 k x0 x3 (x4.set (x5 : Int).toNat ((rd_L1 x4 x5).set (x36 : Int).toNat x36)) x5 x21 x22 x35 (wrap64 (x36 + 1))) else (none)) else (none)) else (none)) else (none)) else (if x36 = x3 then (if 0 ≤ x5 then (if x5 < (x4.length : Int) then (if 0 ≤ x36 then (if x36 < ((rd_L1 x4 x5).length : Int) then (mult_Adjoin.l1 k x0 x3 (x4.set (x5 : Int).toNat ((rd_L1 x4 x5).set (x36 : Int).toNat x5)) x5 x21 x22 x35 (wrap64 (x36 + 1))) else (none)) else (none)) else (none)) else (none)) else (if 0 ≤ x5 then (if x5 < (x4.length : Int) then (if x5 < (x0.length : Int) then (if 0 ≤ x36 then (if x36 < ((rd_L1 x0 x5).length : Int) then (if x36 < ((rd_L1 x4 x5).length : Int) then (mult_Adjoin.l1 k x0 x3 (x4.set (x5 : Int).toNat ((rd_L1 x4 x5).set (x36 : Int).toNat (rd (rd_L1 x0 x5) x36))) x5 x21 x22 x35 (wrap64 (x36 + 1))) else (none)) else (none)) else (none)) else (none)) else (none)) else (none)))) else (mult_Adjoin.l0 k x0 x3 x4 x21 (wrap64 (x22 + 1)))
end
def mult_Adjoin.f (k : Nat) (l0 : List (List Int)) : Option ((List (List Int))) := (mult_Validate.f k l0).bind fun t450 => (if t450 = 0 then (mult_Adjoin.j0 k l0 (decide ((l0.length : Int) ≥ 400))) else (mult_Adjoin.j0 k l0 true))
theorem mult_Adjoin.mono_l : ∀ k, (∀ y0 y1, LeO (mult_Adjoin.j0 k y0 y1) (mult_Adjoin.j0 (k + 1) y0 y1)) ∧ (∀ y0 y1 y2 y3 y4, LeO (mult_Adjoin.l0 k y0 y1 y2 y3 y4) (mult_Adjoin.l0 (k + 1) y0 y1 y2 y3 y4)) ∧ (∀ y0 y1 y2 y3 y4 y5 y6 y7, LeO (mult_Adjoin.l1 k y0 y1 y2 y3 y4 y5 y6 y7) (mult_Adjoin.l1 (k + 1) y0 y1 y2 y3 y4 y5 y6 y7))
 | 0 => ⟨fun _ _ r h => by simp [mult_Adjoin.j0] at h, fun _ _ _ _ _ r h => by simp [mult_Adjoin.l0] at h, fun _ _ _ _ _ _ _ _ r h => by simp [mult_Adjoin.l1] at h⟩
 | k + 1 => by
  obtain ⟨ih0, ih1, ih2⟩ := mult_Adjoin.mono_l k
  refine ⟨?_, ?_, ?_⟩
  ·intro y0 y1
   unfold mult_Adjoin.j0
   repeat' first
   | (with_reducible exact ih0 _ _)
   | (with_reducible exact ih1 _ _ _ _ _)
   | (with_reducible exact ih2 _ _ _ _ _ _ _ _)
   | (with_reducible exact mult_Validate.mono _ _)
   | (with_reducible exact LeO.refl _)
   | (with_reducible exact LeO.none _)
   | (with_reducible refine LeO.ite ?_ ?_)
   | (with_reducible refine LeO.bind ?_ (fun _ => ?_))
   | exact ih0 _ _
   | exact ih1 _ _ _ _ _
   | exact ih2 _ _ _ _ _ _ _ _
   | exact mult_Validate.mono _ _
   | exact LeO.none _
   | refine LeO.ite ?_ ?_
   | refine LeO.bind ?_ (fun _ => ?_)
  ·intro y0 y1 y2 y3 y4
   unfold mult_Adjoin.l0
   repeat' first
   | (with_reducible exact ih0 _ _)
   | (with_reducible exact ih1 _ _ _ _ _)
   | (with_reducible exact ih2 _ _ _ _ _ _ _ _)
   | (with_reducible exact mult_Validate.mono _ _)
   | (with_reducible exact LeO.refl _)
   | (with_reducible exact LeO.none _)
   | (with_reducible refine LeO.ite ?_ ?_)
   | (with_reducible refine LeO.bind ?_ (fun _ => ?_))
   | exact ih0 _ _
   | exact ih1 _ _ _ _ _
   | exact ih2 _ _ _ _ _ _ _ _
   | exact mult_Validate.mono _ _
   | exact LeO.none _
   | refine LeO.ite ?_ ?_
   | refine LeO.bind ?_ (fun _ => ?_)
  ·intro y0 y1 y2 y3 y4 y5 y6 y7
   unfold mult_Adjoin.l1
   repeat' first
   | (with_reducible exact ih0 _ _)
   | (with_reducible exact ih1 _ _ _ _ _)
   | (with_reducible exact ih2 _ _ _ _ _ _ _ _)
   | (with_reducible exact mult_Validate.mono _ _)
   | (with_reducible exact LeO.refl _)
   | (with_reducible exact LeO.none _)
   | (with_reducible refine LeO.ite ?_ ?_)
   | (with_reducible refine LeO.bind ?_ (fun _ => ?_))
   | exact ih0 _ _
   | exact ih1 _ _ _ _ _
   | exact ih2 _ _ _ _ _ _ _ _
   | exact mult_Validate.mono _ _
   | exact LeO.none _
   | refine LeO.ite ?_ ?_
   | refine LeO.bind ?_ (fun _ => ?_)
theorem mult_Adjoin.mono : ∀ a0 k, LeO (mult_Adjoin.f k a0) (mult_Adjoin.f (k + 1) a0) := by
 intro a0 k
 obtain ⟨ih0, ih1, ih2⟩ := mult_Adjoin.mono_l k
 unfold mult_Adjoin.f
 repeat' first
   | (with_reducible exact ih0 _ _)
   | (with_reducible exact ih1 _ _ _ _ _)
   | (with_reducible exact ih2 _ _ _ _ _ _ _ _)
   | (with_reducible exact mult_Validate.mono _ _)
   | (with_reducible exact LeO.refl _)
   | (with_reducible exact LeO.none _)
   | (with_reducible refine LeO.ite ?_ ?_)
   | (with_reducible refine LeO.bind ?_ (fun _ => ?_))
   | exact ih0 _ _
   | exact ih1 _ _ _ _ _
   | exact ih2 _ _ _ _ _ _ _ _
   | exact mult_Validate.mono _ _
   | exact LeO.none _
   | refine LeO.ite ?_ ?_
   | refine LeO.bind ?_ (fun _ => ?_)
def mult_Adjoin.T12 : Bool × List (List Nat × List Nat) := (true, [([], []), ([], []), ([0, 1], [0, 1]), ([2], [2]), ([], []), ([], []), ([], []), ([5, 6], [5, 6]), ([7], [7]), ([], []), ([8, 9], [8, 9]), ([10], [10]), ([3, 4, 0, 1, 2, 3, 4, 5, 6, 7, 8, 9, 10, 11], [3, 4]), ([12, 11, 0, 1, 2, 3, 4, 5, 6, 7, 8, 9, 10, 11], [11, 12])])
def mult_Adjoin.B12 : List Nat := [0, 0, 3, 7, 0, 0, 0, 96, 224, 0, 992, 2016, 4095, 8191]
theorem mult_Adjoin.tab12 : rtab .any (opsOf Try.f46 12) = mult_Adjoin.T12 := by kernel_rfl
theorem mult_Adjoin.bits12 : waitsOk mult_Adjoin.T12.2 mult_Adjoin.B12 = true := by kernel_rfl
set_option maxHeartbeats 8000000 in
set_option maxRecDepth 100000 in
theorem mult_Adjoin.calls (k : Nat) (A0 : Option Addr) (c0 : Nat) (l0 : List (List Int)) (r : List (List Int)) (w : World) (hr0 : Kd.C (Kd.slice 3 (Kd.int .i64)) w A0 l0.length l0) (hc0 : l0.length ≤ c0) (h : mult_Adjoin.f k l0 = some r) :
  Calls Try.prog 46 #[.slice A0 l0.length c0] w fun e w' => ∃ v0_ : Value, e = .returned (v0_) ∧ Kd.S (Kd.slice 3 (Kd.int .i64)) 30 w' w.heap.size (fun _ => True) v0_ r ∧ Below w.heap.size w w' := by
 have HR0 := Aside0.mk hr0
 have HC0 := Aside0.mk hc0
 (try clear hr0); (try clear hc0)
 have HB := Aside0.mk (Below.refl w.heap.size w)
 have H : ((mult_Validate.f k l0).bind fun t450 => (if t450 = 0 then (mult_Adjoin.j0 k l0 (decide ((l0.length : Int) ≥ 400))) else (mult_Adjoin.j0 k l0 true))) = some r := h
 clear h
 have HC2 := Aside0.mk H
 clear H
 go_enter Try.func46, Try.ntmps46
 go_upto_region 1 with (fail)
 go_cut [14] (fun v14 wc => ∃ (kq : Nat) (x14_1 : Bool), v14 = .bool x14_1 ∧ Aside0 (mult_Adjoin.j0 kq l0 x14_1 = some r) ∧ Aside0 (kq ≤ k) ∧ Aside0 (Below w.heap.size w wc))
 case first =>
  have H := HC2.out
  clear HC2
  replace H := Option.bind_eq_some_iff.mp H
  obtain ⟨t450, A30, H⟩ := H
  replace H : (if t450 = 0 then (mult_Adjoin.j0 k l0 (decide ((l0.length : Int) ≥ 400))) else (mult_Adjoin.j0 k l0 true)) = some r := H
  have A3 := Aside0.mk A30
  clear A30
  by_cases c4 : t450 = 0
  ·rw [if_pos c4] at H
   have c4b0 : (t450 == 0) = true := beq_iff_eq.mpr c4
   have c4b1 : (t450 != 0) = false := bne_eq_false_iff_eq.mpr c4
   clear c4
   (first | rw [c4b0] | (simp only [i64_w, i32_w]; rw [c4b0]) | skip)
   have H' := Aside0.mk H
   clear H
   go_wp2_with (first | ((with_reducible refine gate_callee (f := 19) rfl ?_); refine goesL_ (some 8) rfl rfl Try.func19 (by kernel_rfl) rfl #[.slice A0 l0.length c0] rfl (by (try simp only [List.map_toArray, List.map_cons, List.map_nil]); first | done | rfl | (simp only [List.length_drop, List.length_take]; rfl)) ?_; (with_reducible refine (mult_Validate.calls k _ _ l0 t450 _ ?side1 ?side2 A3.out).mono ?_); (case side1 => repeat (first | exact (Kd.C_below HR0.out HB.out) | (with_reducible refine Kd.C_alloc ?_ _) | (with_reducible refine Kd.C_drewN ?_ _) | (with_reducible refine Kd.C_drew ?_))); (case side2 => exact HC0.out); rintro e w' ⟨rfl, ⟨nd, rfl⟩⟩; refine ⟨_, rfl, ?_⟩))
   go_meet
   case rel => exact ⟨_, (decide ((l0.length : Int) ≥ 400)), (by first | rfl | (simp; done) | (simp [*]; done)), H', ⟨by first | omega | exact Nat.le_refl _⟩, ⟨by repeat (first | (with_reducible first | exact HB.out | apply below_alloc | apply pw_below_drewN | apply below_drew1) | exact HB.out)⟩⟩
  ·rw [if_neg c4] at H
   have c4b0 : (t450 == 0) = false := beq_eq_false_iff_ne.mpr c4
   have c4b1 : (t450 != 0) = true := bne_iff_ne.mpr c4
   (first | rw [c4b0] | (simp only [i64_w, i32_w]; rw [c4b0]) | skip)
   have H' := Aside0.mk H
   clear H
   go_wp2_with (first | ((with_reducible refine gate_callee (f := 19) rfl ?_); refine goesL_ (some 8) rfl rfl Try.func19 (by kernel_rfl) rfl #[.slice A0 l0.length c0] rfl (by (try simp only [List.map_toArray, List.map_cons, List.map_nil]); first | done | rfl | (simp only [List.length_drop, List.length_take]; rfl)) ?_; (with_reducible refine (mult_Validate.calls k _ _ l0 t450 _ ?side1 ?side2 A3.out).mono ?_); (case side1 => repeat (first | exact (Kd.C_below HR0.out HB.out) | (with_reducible refine Kd.C_alloc ?_ _) | (with_reducible refine Kd.C_drewN ?_ _) | (with_reducible refine Kd.C_drew ?_))); (case side2 => exact HC0.out); rintro e w' ⟨rfl, ⟨nd, rfl⟩⟩; refine ⟨_, rfl, ?_⟩))
   go_meet
   case rel => exact ⟨_, (true), (by first | rfl | (simp; done) | (simp [*]; done)), H', ⟨by first | omega | exact Nat.le_refl _⟩, ⟨by repeat (first | (with_reducible first | exact HB.out | apply below_alloc | apply pw_below_drewN | apply below_drew1) | exact HB.out)⟩⟩
 case rest =>
  clear HC2
  try clear c1
  try clear p2
  try clear c4
  try clear c4b0
  try clear c4b1
  obtain ⟨kq, x14_1, rfl, HA, HJ1, HB⟩ := hcut
  cases kq with
  | zero => exact absurd HA.out (by simp [mult_Adjoin.j0])
  | succ kj1 =>
   have H := HA.out
   clear HA
   simp only [mult_Adjoin.j0] at H
   by_cases c5 : x14_1 = true
   ·subst c5
    have H1 : (some ([] : List (List Int))) = some r := by rw [if_pos rfl] at H; exact H
    clear H
    have H := H1
    clear H1
    obtain rfl := Option.some.inj H
    go_wp2
    go_ret
    exact ⟨_, by first | rfl | (simp [errW_none, errW_some] <;> rfl) | (simp [*, errW_none, errW_some] <;> rfl), by first | exact Kd.S_nil _ _ _ _ _ | exact Kd.N_nil _ _ _ _ _ | exact Kd.V_nil _ _ _ _ _ | exact Kd.Q_nil _ _ _ _ _ | exact Kd.R_nil _ _ _ _ _, by repeat (first | (with_reducible first | exact HB.out | apply below_alloc | apply pw_below_drewN | apply below_drew1) | exact HB.out)⟩
   ·replace c5 := Bool.eq_false_iff.mpr c5
    subst c5
    have H1 : (if 0 ≤ (wrap64 ((l0.length : Int) + 1)) then (if (wrap64 ((l0.length : Int) + 1) : Int).toNat ≤ 11728124029610 then ((some (List.replicate (wrap64 ((l0.length : Int) + 1) : Int).toNat [] : List (List Int))).bind fun y451 => (mult_Adjoin.l0 kj1 l0 (l0.length : Int) y451 (y451.length : Int) 0)) else (none)) else (none)) = some r := by rw [if_neg (show ¬ (false = true) by decide)] at H; exact H
    clear H
    have H := H1
    clear H1
    obtain ⟨ji6, hji6⟩ : ∃ j_ : Int, (wrap64 ((l0.length : Int) + 1)) = j_ := ⟨_, rfl⟩
    replace H : (if 0 ≤ (ji6) then (if (ji6 : Int).toNat ≤ 11728124029610 then ((some (List.replicate (ji6 : Int).toNat [] : List (List Int))).bind fun y451 => (mult_Adjoin.l0 kj1 l0 (l0.length : Int) y451 (y451.length : Int) 0)) else (none)) else (none)) = some r := by first | (rw [hji6] at H; exact H) | (simp only [hji6] at H ⊢; exact H)
    have hji6w : (IntKind.i64.wrap ((l0.length : Int) + 1)) = ji6 := (i64_w _).trans hji6
    by_cases c7 : 0 ≤ (ji6)
    ·rw [if_pos c7] at H
     have c7b0 := eq_true c7
     have c7b1 : decide (0 ≤ (ji6)) = true := decide_eq_true c7
     clear c7
     by_cases c8 : (ji6 : Int).toNat ≤ 11728124029610
     ·rw [if_pos c8] at H
      have c8b0 := eq_true c8
      have c8b1 : decide ((ji6 : Int).toNat ≤ 11728124029610) = true := decide_eq_true c8
      clear c8
      obtain ⟨y451, hy451⟩ : ∃ y_ : List (List Int), y_ = (List.replicate (ji6 : Int).toNat []) := ⟨_, rfl⟩
      replace H : (mult_Adjoin.l0 kj1 l0 (l0.length : Int) y451 (y451.length : Int) 0) = some r := by first | (rw [hy451]; with_reducible exact H) | (have H2_ := (Option.bind_some _ _).symm.trans H; rw [hy451]; with_reducible exact H2_) | (have H2_ := (Option.bind_some _ _).symm.trans H; with_reducible exact H2_) | with_reducible exact H | (rw [hy451]; exact H) | exact H
      have Ny451 := Aside0.mk hy451
      clear hy451
      have H' := Aside0.mk H
      clear H
      go_wp2_with (first | ((with_reducible refine gate_dst (N := 19) rfl ?_); (try (refine gate_guard (by rfl) ?_; dsimp only)); refine Kd.S_make (Kd.slice 3 (Kd.int .i64)) _ 30 rfl (N := 19) rfl 22 _ _ rfl ji6 rfl rfl Try.underlying22 (.slice none 0 0) 24 info30 rfl (by decide) (by omega) [] (ok := fun _ => True) (okp := fun _ => True) ⟨_, rfl, Kd.R_nil _ _ _ _ _⟩ (fun _ hk => hk) trivial (of_decide_eq_true (by first | (with_reducible assumption) | assumption)) (Nat.le_trans (Nat.mul_le_mul_right _ (of_decide_eq_true (by first | (with_reducible assumption) | assumption) : ji6.toNat ≤ 11728124029610)) (by omega)) (Below.refl _ _) (Nat.le_refl _) ?_; intro v452 w9 ho10 hb hg_ hnew_; (try clear hg_); (try clear hnew_); (first | rw [← Ny451.out] at ho10 | (simp only [Int.reduceToNat] at ho10; rw [← Ny451.out] at ho10)); have n0_ := Aside0.mk (Kd.S_lower ho10 (below_size (by repeat (first | (with_reducible first | exact HB.out | apply below_alloc | apply pw_below_drewN | apply below_drew1) | exact HB.out)))); have n1_ := Aside0.mk (below_step (by repeat (first | (with_reducible first | exact HB.out | apply below_alloc | apply pw_below_drewN | apply below_drew1) | exact HB.out)) hb); clear HB; have HO453 := n0_; have HB := n1_; clear n0_ n1_; (try clear hb); (try clear ho10); obtain ⟨Ao11, co11, eo11⟩ := Kd.S_slice HO453.out; subst eo11))
      go_loopg [22] kj1 (fun kq v22 w' => ∃ (x4_2 : List (List Int)) (x22_2 : Int), v22 = .int .i64 x22_2 ∧ Aside0 (mult_Adjoin.l0 kq l0 (l0.length : Int) x4_2 (y451.length : Int) x22_2 = some r) ∧ Aside0 (kq ≤ kj1) ∧ Aside0 (Kd.S (Kd.slice 3 (Kd.int .i64)) 30 w' w.heap.size (fun _ => True) (.slice Ao11 y451.length co11) x4_2) ∧ Aside0 (Below w.heap.size w w'))
      case atStart => exact ⟨(y451), (0), (by first | rfl | (simp; done) | (simp [*]; done)), H', ⟨Nat.le_refl _⟩, ⟨by (with_reducible repeat (first | apply Kd.S_alloc | apply Kd.S_drewN | apply Kd.S_drew)); exact HO453.out⟩, ⟨by repeat (first | (with_reducible first | exact HB.out | apply below_alloc | apply pw_below_drewN | apply below_drew1) | exact HB.out)⟩⟩
      case round =>
       (try clear hji6); (try clear hji6w)
       clear H'
       try clear c1
       try clear p2
       try clear c4
       try clear c4b0
       try clear c4b1
       try clear c5
       try clear p6
       try clear c7
       try clear c7b0
       try clear c7b1
       try clear c8
       try clear c8b0
       try clear c8b1
       try clear p2
       obtain ⟨x4_2, x22_2, rfl, HA, HK2, HO_4, HB⟩ := hrel
       have hl4_2 := (Kd.S_reads' HO_4.out).1
       rw [hl4_2] at HO_4
       (try simp only [hl4_2])
       cases gk with
       | zero => exact absurd HA.out (by simp [mult_Adjoin.l0])
       | succ k2 =>
        have H := HA.out
        clear HA
        simp only [mult_Adjoin.l0] at H
        by_cases c12 : x22_2 < (y451.length : Int)
        ·rw [if_pos c12] at H
         have c12b0 : decide (x22_2 < (y451.length : Int)) = true := decide_eq_true c12
         (try (have c12b0z := c12b0; simp only [hl4_2] at c12b0z))
         clear c12
         obtain ⟨ji13, hji13⟩ : ∃ j_ : Int, (wrap64 ((l0.length : Int) + 1)) = j_ := ⟨_, rfl⟩
         replace H : (if 0 ≤ (ji13) then (if (ji13 : Int).toNat ≤ 35184372088832 then (if 0 ≤ x22_2 then (if x22_2 < (x4_2.length : Int) then ((some (x4_2.set (x22_2 : Int).toNat (List.replicate (ji13 : Int).toNat 0) : List (List Int))).bind fun y457 => (mult_Adjoin.l1 k2 l0 (l0.length : Int) y457 x22_2 (y451.length : Int) x22_2 ((rd_L1 y457 x22_2).length : Int) 0)) else (none)) else (none)) else (none)) else (none)) = some r := by first | (rw [hji13] at H; exact H) | (simp only [hji13] at H ⊢; exact H)
         have hji13w : (IntKind.i64.wrap ((l0.length : Int) + 1)) = ji13 := (i64_w _).trans hji13
         by_cases c14 : 0 ≤ (ji13)
         ·rw [if_pos c14] at H
          have c14b0 := eq_true c14
          have c14b1 : decide (0 ≤ (ji13)) = true := decide_eq_true c14
          clear c14
          by_cases c15 : (ji13 : Int).toNat ≤ 35184372088832
          ·rw [if_pos c15] at H
           have c15b0 := eq_true c15
           have c15b1 : decide ((ji13 : Int).toNat ≤ 35184372088832) = true := decide_eq_true c15
           clear c15
           obtain ⟨y454, hy454⟩ : ∃ y_ : List Int, y_ = (List.replicate (ji13 : Int).toNat 0) := ⟨_, rfl⟩
           replace H : (if 0 ≤ x22_2 then (if x22_2 < (x4_2.length : Int) then ((some (x4_2.set (x22_2 : Int).toNat y454 : List (List Int))).bind fun y457 => (mult_Adjoin.l1 k2 l0 (l0.length : Int) y457 x22_2 (y451.length : Int) x22_2 ((rd_L1 y457 x22_2).length : Int) 0)) else (none)) else (none)) = some r := by first | (rw [hy454]; with_reducible exact H) | (have H2_ := (Option.bind_some _ _).symm.trans H; rw [hy454]; with_reducible exact H2_) | (have H2_ := (Option.bind_some _ _).symm.trans H; with_reducible exact H2_) | with_reducible exact H | (rw [hy454]; exact H) | exact H
           have Ny454 := Aside0.mk hy454
           clear hy454
           by_cases c16 : 0 ≤ x22_2
           ·rw [if_pos c16] at H
            have c16b0 : decide (0 ≤ x22_2) = true := decide_eq_true c16
            clear c16
            by_cases c17 : x22_2 < (x4_2.length : Int)
            ·rw [if_pos c17] at H
             have c17b0 : decide (x22_2 < (x4_2.length : Int)) = true := decide_eq_true c17
             (try (have c17b0z := c17b0; simp only [hl4_2] at c17b0z))
             clear c17
             obtain ⟨y457, hy457⟩ : ∃ y_ : List (List Int), y_ = (x4_2.set (x22_2 : Int).toNat y454) := ⟨_, rfl⟩
             replace H : (mult_Adjoin.l1 k2 l0 (l0.length : Int) y457 x22_2 (y451.length : Int) x22_2 ((rd_L1 y457 x22_2).length : Int) 0) = some r := by first | (rw [hy457]; with_reducible exact H) | (have H2_ := (Option.bind_some _ _).symm.trans H; rw [hy457]; with_reducible exact H2_) | (have H2_ := (Option.bind_some _ _).symm.trans H; with_reducible exact H2_) | with_reducible exact H | (rw [hy457]; exact H) | exact H
             have Ny457 := Aside0.mk hy457
             clear hy457
             have H' := Aside0.mk H
             clear H
             go_wp2_with (first | ((with_reducible refine gate_dst (N := 29) rfl ?_); (try (refine gate_guard (by rfl) ?_; dsimp only)); refine Kd.R_make (Kd.int .i64) _ 3 rfl (N := 29) rfl 30 _ _ rfl ji13 rfl rfl Try.underlying30 (.int .i64 0) 8 info3 rfl (by decide) (by omega) 0 (ok := fun _ => True) (okp := fun _ => True) rfl (fun _ hk => hk) trivial (of_decide_eq_true (by first | (with_reducible assumption) | assumption)) (Nat.le_trans (Nat.mul_le_mul_right _ (of_decide_eq_true (by first | (with_reducible assumption) | assumption) : ji13.toNat ≤ 35184372088832)) (by omega)) (Below.refl _ _) (Nat.le_refl _) ?_; intro v455 w19 ho20 hb hg_ hnew_; (try clear hg_); (try clear hnew_); (first | rw [← Ny454.out] at ho20 | (simp only [Int.reduceToNat] at ho20; rw [← Ny454.out] at ho20)); have n0_ := Aside0.mk (Kd.S_elder' (by (with_reducible repeat (first | apply Kd.S_alloc | apply Kd.S_drewN | apply Kd.S_drew)); exact HO_4.out) (Kd.R_base ho20) hb); have n1_ := Aside0.mk (Kd.R_lower ho20 (below_size (by repeat (first | (with_reducible first | exact HB.out | apply below_alloc | apply pw_below_drewN | apply below_drew1) | exact HB.out)))); have n2_ := Aside0.mk (below_step (by repeat (first | (with_reducible first | exact HB.out | apply below_alloc | apply pw_below_drewN | apply below_drew1) | exact HB.out)) hb); clear HO_4; clear HB; have HO_4 := n0_; have HO456 := n1_; have HB := n2_; clear n0_ n1_ n2_; (try clear hb); (try clear ho20); have p18 : 0 ≤ (x22_2 : Int) := of_decide_eq_true (by first | (with_reducible assumption) | assumption); have q18 : (x22_2 : Int) < ((x4_2.length : Int) : Int) := of_decide_eq_true (by first | (with_reducible assumption) | assumption); obtain ⟨go18, co18, eo18, gb18, gl18, cl18, HG18⟩ := Kd.S_form HO_4.out (by omega); (first | cases eo18 | (injection eo18 with ea_ en_ ec_; (first | subst ea_ | (injection ea_ with ea_; subst ea_)); subst ec_; clear en_)); have GB18 := Aside0.mk gb18; have GG18 := Aside0.mk HG18; (try clear gb18); (try clear gl18); (try clear HG18); obtain ⟨_, ce18, hcl18, hM18, hcc18, hfr18, _, _⟩ := Kd.S_elem HO_4.out [] (x22_2 : Int) p18 q18; obtain ⟨ve18_0, rfl, ge18_0⟩ := hM18; have hx18_0 := hcc18 0 _ rfl; have hf18_0 := hfr18 0; (try simp only [show ((Kd.slice 3 (Kd.int .i64))).sz = 1 from rfl, Nat.mul_one, Nat.add_zero] at hx18_0); (try simp only [show ((Kd.slice 3 (Kd.int .i64))).sz = 1 from rfl, Nat.mul_one, Nat.add_zero] at hf18_0); (try clear hcl18); (try clear hcc18); (try clear hfr18); (try clear hM18); replace p18 := eq_true p18; replace q18 := eq_true q18; have n_ := Aside0.mk (Kd.S_mono (ok' := (fun k_ => some k_ ≠ (v455 : Value).ownBlock)) HO_4.out (fun k_ hk => hk.2)); clear HO_4; have HO_4 := n_; clear n_; have HX21 := Aside0.mk (show Kd.S (Kd.slice 3 (Kd.int .i64)) 30 w19 w.heap.size (fun k_ => ((fun _ => True)) k_ ∧ ¬ ((fun k_ => some k_ = (v455 : Value).ownBlock)) k_) (.slice (some ⟨go18, 0, none⟩) x4_2.length co11) x4_2 from (by (with_reducible repeat (first | apply Kd.S_alloc | apply Kd.S_drewN | apply Kd.S_drew)); exact Kd.S_mono HO_4.out (fun k_ hk => ⟨trivial, fun e_ => hk e_⟩))); obtain ⟨oki21, ce21, hcl21, hM21, hcc21, hfr21, hoki21, hH21⟩ := Kd.S_elem HX21.out [] (x22_2 : Int) (of_decide_eq_true (by first | (with_reducible assumption) | assumption)) (by have h_ : (x22_2 : Int) < ((x4_2.length : Int) : Int) := of_decide_eq_true (by first | (with_reducible assumption) | assumption); first | exact h_ | (have e_ := (Kd.S_reads' HO_4.out).1; omega) | simpa using h_); obtain ⟨ve21_0, rfl, ge21_0⟩ := hM21; have HP21 := Kd.S_seg hH21 (of_decide_eq_true (by first | (with_reducible assumption) | assumption)) (by have h_ : (x22_2 : Int) < ((x4_2.length : Int) : Int) := of_decide_eq_true (by first | (with_reducible assumption) | assumption); first | exact h_ | (have e_ := (Kd.S_reads' HO_4.out).1; omega) | simpa using h_) (seg := [v455]) (j := 0) (show 1 ≤ 1 from by decide) (x' := y454) (Kd.M_row (Kd.R_mono (Kd.R_tight rfl (Kd.R_mono (ok' := fun k_ => ((fun _ => True)) k_ ∧ k_ ≠ go18) (Kd.R_apart' (HO456.out) (Kd.S_typed HO_4.out) (by decide)) (fun k_ hk => ⟨trivial, fun e_ => (hk.2) (by rw [e_]; rfl)⟩))) (fun _ h_ => Or.inr (h_)))) (fun _ hk => hk) (fun k_ hk_ => ((Kd.R_mono (ok' := fun k_ => ((fun _ => True)) k_ ∧ k_ ≠ go18) (Kd.R_apart' (HO456.out) (Kd.S_typed HO_4.out) (by decide)) (fun k_ hk => ⟨trivial, fun e_ => (hk.2) (by rw [e_]; rfl)⟩))).1 k_ hk_.symm); have hx21_0 := hcc21 0 _ rfl; (try simp only [show ((Kd.slice 3 (Kd.int .i64))).sz = 1 from rfl, Nat.mul_one, Nat.add_zero] at hx21_0); have hf21_0 := hfr21 0; (try simp only [show ((Kd.slice 3 (Kd.int .i64))).sz = 1 from rfl, Nat.mul_one, Nat.add_zero] at hf21_0); (try clear hcl21); (try clear hcc21); (try clear hfr21); (try clear hM21); (try clear hoki21); (try clear hH21); (try simp only [show ((Kd.slice 3 (Kd.int .i64))).sz = 1 from rfl, Nat.mul_one, Nat.add_zero] at HP21)) | ((with_reducible refine gate_store (t := 30) (p := 30) rfl ?_); refine store_event (t := 30) (p := 30) (v := ?vo_w22) (w1 := (w19.setCell ⟨go18, (x22_2 : Int).toNat, none⟩ (v455))) ?hg ?ho ?hn ?hr ?_; (case ho => rfl); (case hg => rfl); (case hn => rfl); (case hr => first | (go_simp; done) | (go_simp; rfl) | (obtain ⟨A_, c_, e_⟩ := Kd.R_slice HO456.out; subst e_; first | (go_simp; done) | (go_simp; rfl)) | (obtain ⟨A_, c_, e_⟩ := Kd.S_slice HO456.out; subst e_; first | (go_simp; done) | (go_simp; rfl)) | (obtain ⟨A_, c_, e_⟩ := Kd.N_slice HO456.out; subst e_; first | (go_simp; done) | (go_simp; rfl))); intro w22 hw; have hg : w19.grownBy w22 (some go18) := (by rw [hw]; exact HP21.2); have hp_ : Kd.S (Kd.slice 3 (Kd.int .i64)) 30 w22 w.heap.size (fun _ => True) (.slice (some ⟨go18, 0, none⟩) x4_2.length co11) y457 := (by rw [hw, Ny457.out]; exact HP21.1); clear HP21; have n0_ := Aside0.mk (hp_); have n1_ := Aside0.mk ((by rw [hw]; exact below_set (HB.out) GB18.out : Below w.heap.size w w22)); clear HO_4; clear HB; clear HO456; have HO_4 := n0_; have HB := n1_; clear n0_ n1_; (try clear hg); (try clear hw); (try clear hp_); have p458 : 0 ≤ (x22_2 : Int) := of_decide_eq_true (by first | (with_reducible assumption) | assumption); have q458 : x22_2 < (y457.length : Int) := (by have h_ : (x22_2 : Int) < ((x4_2.length : Int) : Int) := of_decide_eq_true (by first | (with_reducible assumption) | assumption); first | (have e_ := (Kd.S_reads' HO_4.out).1; omega) | simpa only [Ny457.out, List.length_set] using h_); have ql458 : ((x22_2 : Int) < ((x4_2.length : Int) : Int)) = True := eq_true (of_decide_eq_true (by first | (with_reducible assumption) | assumption)); obtain ⟨ad458, A458_0, c458_0, e458, hx458_0, hl458_0, hi458_0⟩ := at_L1 (Kd.S_reads' HO_4.out).2.2 x22_2 p458 q458; obtain rfl : (⟨go18, 0, none⟩ : Addr) = ad458 := (by injection e458); obtain ⟨ce458, hce458, hMe458, hcc458⟩ := Kd.S_get HO_4.out [] x22_2 p458 (by first | exact q458 | exact of_decide_eq_true (by first | (with_reducible assumption) | assumption) | (have e_ := (Kd.S_reads' HO_4.out).1; omega)); obtain ⟨ve458_0, rfl, ge458_0⟩ := hMe458; have hv458_0 := hcc458 0 _ rfl; rw [Nat.add_zero, show ((Kd.slice 3 (Kd.int .i64))).sz = 1 from rfl, Nat.mul_one] at hv458_0; replace hv458_0 := Option.some.inj (hv458_0.symm.trans hx458_0); rw [hv458_0] at ge458_0; have HL458_0 := Aside0.mk (show Kd.R (Kd.int .i64) 3 _ _ _ _ (rd_L1 y457 x22_2) from ge458_0); (try clear hv458_0); (try clear ge458_0); have HX458_0 := Aside0.mk hx458_0; (try clear hcc458); (try clear hce458); (first | simp only [add_plain] at hx458_0 | simp only [add_at] at hx458_0 | simp only [Addr.add, Nat.zero_add] at hx458_0 | skip); have HR458_0 := Aside0.mk hi458_0; have HC458_0 := Aside0.mk hl458_0; (try clear hi458_0); (try clear hl458_0); replace p458 := eq_true p458; replace q458 := eq_true q458))
             go_loopg [36] k2 (fun kq v36 w' => ∃ (x4_3 : List (List Int)) (x36_3 : Int), v36 = .int .i64 x36_3 ∧ Aside0 (mult_Adjoin.l1 kq l0 (l0.length : Int) x4_3 x22_2 (y451.length : Int) x22_2 ((rd_L1 y457 x22_2).length : Int) x36_3 = some r) ∧ Aside0 (kq ≤ k2) ∧ Aside0 (Kd.S (Kd.slice 3 (Kd.int .i64)) 30 w' w.heap.size (fun _ => True) (.slice (some ⟨go18, 0, none⟩) x4_2.length co11) x4_3) ∧ Aside0 (Below w.heap.size w w'))
             case atStart => exact ⟨(y457), (0), (by first | rfl | (simp; done) | (simp [*]; done)), H', ⟨Nat.le_refl _⟩, ⟨by (try simp only [hl4_2]); (with_reducible repeat (first | apply Kd.S_alloc | apply Kd.S_drewN | apply Kd.S_drew)); exact HO_4.out⟩, ⟨by repeat (first | (with_reducible first | exact HB.out | apply below_alloc | apply pw_below_drewN | apply below_drew1) | exact HB.out)⟩⟩
             case round =>
              (try clear hji13); (try clear hji13w)
              clear H'
              try clear c1
              try clear p1
              try clear q1
              try clear hx1
              try clear hf1
              try clear c2
              try clear p2
              try clear hx2
              try clear hf2
              try clear c4
              try clear c4b0
              try clear c4b1
              try clear p4
              try clear q4
              try clear hx4
              try clear c5
              try clear p6
              try clear c7
              try clear c7b0
              try clear c7b1
              try clear c8
              try clear c8b0
              try clear c8b1
              try clear c12
              try clear c12b0
              try clear c14
              try clear c14b0
              try clear c14b1
              try clear c15
              try clear c15b0
              try clear c15b1
              try clear c16
              try clear c16b0
              try clear c17
              try clear c17b0
              try clear c18
              try clear p18
              try clear q18
              try clear hx18
              try clear hf18
              try clear c19
              try clear c21
              try clear hx21
              try clear hf21
              try clear hx18_0
              try clear hx21_0
              try clear hx458_0
              try clear p18
              try clear p2
              try clear p458
              try clear p6
              try clear q18
              try clear q458
              obtain ⟨x4_3, x36_3, rfl, HA, HK3, HO_4, HB⟩ := hrel
              have hl4_3 := (Kd.S_reads' HO_4.out).1
              rw [hl4_3] at HO_4
              (try simp only [hl4_3])
              cases gk with
              | zero => exact absurd HA.out (by simp [mult_Adjoin.l1])
              | succ k3 =>
               have H := HA.out
               clear HA
               simp only [mult_Adjoin.l1] at H
               by_cases c23 : x36_3 < ((rd_L1 y457 x22_2).length : Int)
               ·rw [if_pos c23] at H
                have c23b0 : decide (x36_3 < ((rd_L1 y457 x22_2).length : Int)) = true := decide_eq_true c23
                (try (have c23b0z := c23b0; simp only [hl4_2, hl4_3] at c23b0z))
                clear c23
                by_cases c24 : x22_2 = (l0.length : Int)
                ·rw [if_pos c24] at H
                 have c24b0 : (x22_2 == (l0.length : Int)) = true := beq_iff_eq.mpr c24
                 have c24b1 : (x22_2 != (l0.length : Int)) = false := bne_eq_false_iff_eq.mpr c24
                 clear c24
                 by_cases c25 : 0 ≤ x22_2
                 ·rw [if_pos c25] at H
                  have c25b0 : decide (0 ≤ x22_2) = true := decide_eq_true c25
                  clear c25
                  by_cases c26 : x22_2 < (x4_3.length : Int)
                  ·rw [if_pos c26] at H
                   have c26b0 : decide (x22_2 < (x4_3.length : Int)) = true := decide_eq_true c26
                   (try (have c26b0z := c26b0; simp only [hl4_2, hl4_3] at c26b0z))
                   clear c26
                   by_cases c27 : 0 ≤ x36_3
                   ·rw [if_pos c27] at H
                    have c27b0 : decide (0 ≤ x36_3) = true := decide_eq_true c27
                    clear c27
                    by_cases c28 : x36_3 < ((rd_L1 x4_3 x22_2).length : Int)
                    ·rw [if_pos c28] at H
                     have c28b0 : decide (x36_3 < ((rd_L1 x4_3 x22_2).length : Int)) = true := decide_eq_true c28
                     (try (have c28b0z := c28b0; simp only [hl4_2, hl4_3] at c28b0z))
                     clear c28
                     obtain ⟨y460, hy460⟩ : ∃ y_ : List Int, y_ = ((rd_L1 x4_3 x22_2).set (x36_3 : Int).toNat x36_3) := ⟨_, rfl⟩
                     replace H : (mult_Adjoin.l1 k3 l0 (l0.length : Int) (x4_3.set (x22_2 : Int).toNat y460) x22_2 (y451.length : Int) x22_2 ((rd_L1 y457 x22_2).length : Int) (wrap64 (x36_3 + 1))) = some r := by first | (rw [hy460]; with_reducible exact H) | (have H2_ := (Option.bind_some _ _).symm.trans H; rw [hy460]; with_reducible exact H2_) | (have H2_ := (Option.bind_some _ _).symm.trans H; with_reducible exact H2_) | with_reducible exact H | (rw [hy460]; exact H) | exact H
                     have Ny460 := Aside0.mk hy460
                     clear hy460
                     obtain ⟨y462, hy462⟩ : ∃ y_ : List (List Int), y_ = (x4_3.set (x22_2 : Int).toNat y460) := ⟨_, rfl⟩
                     replace H : (mult_Adjoin.l1 k3 l0 (l0.length : Int) y462 x22_2 (y451.length : Int) x22_2 ((rd_L1 y457 x22_2).length : Int) (wrap64 (x36_3 + 1))) = some r := by first | (rw [hy462]; with_reducible exact H) | (have H2_ := (Option.bind_some _ _).symm.trans H; rw [hy462]; with_reducible exact H2_) | (have H2_ := (Option.bind_some _ _).symm.trans H; with_reducible exact H2_) | with_reducible exact H | (rw [hy462]; exact H) | exact H
                     have Ny462 := Aside0.mk hy462
                     clear hy462
                     have H' := Aside0.mk H
                     clear H
                     have p459 : 0 ≤ (x22_2 : Int) := of_decide_eq_true (by first | (with_reducible assumption) | assumption)
                     have q459 : x22_2 < (x4_3.length : Int) := of_decide_eq_true (by first | (with_reducible assumption) | assumption)
                     obtain ⟨ad459, A459_0, c459_0, e459, hx459_0, hl459_0, hi459_0⟩ := at_L1 (Kd.S_reads' HO_4.out).2.2 x22_2 p459 q459
                     obtain rfl : (⟨go18, 0, none⟩ : Addr) = ad459 := (by injection e459)
                     obtain ⟨ce459, hce459, hMe459, hcc459⟩ := Kd.S_get HO_4.out [] x22_2 p459 (by first | exact q459 | exact of_decide_eq_true (by first | (with_reducible assumption) | assumption) | (have e_ := (Kd.S_reads' HO_4.out).1; omega))
                     obtain ⟨ve459_0, rfl, ge459_0⟩ := hMe459
                     have hv459_0 := hcc459 0 _ rfl
                     rw [Nat.add_zero, show ((Kd.slice 3 (Kd.int .i64))).sz = 1 from rfl, Nat.mul_one] at hv459_0
                     replace hv459_0 := Option.some.inj (hv459_0.symm.trans hx459_0)
                     rw [hv459_0] at ge459_0
                     have HL459_0 := Aside0.mk (show Kd.R (Kd.int .i64) 3 _ _ _ _ (rd_L1 x4_3 x22_2) from ge459_0)
                     (try clear hv459_0); (try clear ge459_0)
                     have HX459_0 := Aside0.mk hx459_0
                     (try clear hcc459); (try clear hce459)
                     (first | simp only [add_plain] at hx459_0 | simp only [add_at] at hx459_0 | simp only [Addr.add, Nat.zero_add] at hx459_0 | skip)
                     have HR459_0 := Aside0.mk hi459_0
                     have HC459_0 := Aside0.mk hl459_0
                     (try clear hi459_0); (try clear hl459_0)
                     replace p459 := eq_true p459
                     replace q459 := eq_true q459
                     have p29 : 0 ≤ (x36_3 : Int) := of_decide_eq_true (by first | (with_reducible assumption) | assumption)
                     have q29 : (x36_3 : Int) < (((rd_L1 x4_3 x22_2).length : Int) : Int) := of_decide_eq_true (by first | (with_reducible assumption) | assumption)
                     obtain ⟨go29, co29, eo29, gb29, gl29, cl29, HG29⟩ := Kd.R_form HL459_0.out (by omega)
                     (first | cases eo29 | (injection eo29 with ea_ en_ ec_; (first | subst ea_ | (injection ea_ with ea_; subst ea_)); subst ec_; clear en_))
                     have GB29 := Aside0.mk gb29
                     have GG29 := Aside0.mk HG29
                     (try clear gb29); (try clear gl29); (try clear HG29)
                     obtain ⟨hx29_0, hf29_0⟩ := Kd.R_celln 0 HL459_0.out (x36_3 : Int) p29 q29
                     replace p29 := eq_true p29
                     replace q29 := eq_true q29
                     have hq30 : (x22_2 : Int) < (x4_3.length : Int) := (by have h_ : (x22_2 : Int) < ((x4_3.length : Int) : Int) := of_decide_eq_true (by first | (with_reducible assumption) | assumption); first | exact h_ | (have e_ := (Kd.S_reads' HO_4.out).1; omega) | simpa only [List.length_set, List.length_set] using h_)
                     obtain ⟨oki30, ce30, hcl30, hM30, hcc30, hok30, hbk30⟩ := Kd.S_borrow HO_4.out [] (x22_2 : Int) (of_decide_eq_true (by first | (with_reducible assumption) | assumption)) hq30
                     obtain ⟨ve30_0, rfl, ge30_0⟩ := hM30
                     have hv30 := hcc30 0 _ rfl
                     rw [Nat.add_zero, show ((Kd.slice 3 (Kd.int .i64))).sz = 1 from rfl, Nat.mul_one] at hv30
                     replace hv30 := Option.some.inj (hv30.symm.trans HX459_0.out)
                     subst hv30
                     (try clear hcc30); (try clear hcl30)
                     replace ge30_0 := (show Kd.R (Kd.int .i64) 3 _ _ _ _ (rd_L1 x4_3 x22_2) from ge30_0)
                     have HP30 := Kd.R_putg ge30_0 (x36_3 : Int) x36_3
                     go_wp2_with (first | ((with_reducible refine gate_store (t := 3) (p := 62) rfl ?_); refine store_event (t := 3) (p := 62) (v := ?vo_w31) (w1 := (wr.setCell ⟨go29, (x36_3 : Int).toNat, none⟩ (.int .i64 x36_3))) ?hg ?ho ?hn ?hr ?_; (case ho => rfl); (case hg => rfl); (case hn => rfl); (case hr => first | (go_simp; done) | (go_simp; rfl)); intro w31 hw; have hg : wr.grownBy w31 (some go29) := (by rw [hw]; exact HP30.2); have hz_ : Kd.R (Kd.int .i64) 3 w31 w.heap.size oki30 (.slice (some ⟨go29, 0, none⟩) (rd_L1 x4_3 x22_2).length c459_0) y460 := (by rw [hw, Ny460.out]; exact HP30.1); have hp_ : Kd.S (Kd.slice 3 (Kd.int .i64)) 30 w31 w.heap.size (fun _ => True) (.slice (some ⟨go18, 0, none⟩) x4_3.length co11) y462 := (by rw [Ny462.out]; exact hbk30 hg (fun k_ e_ => by injection e_ with e_; subst e_; exact ge30_0.1 _ rfl) (Kd.M_row hz_)); have hm_ := Kd.R_mono hz_ hok30; (try clear HP30); (try clear hbk30); have n0_ := Aside0.mk (hp_); have n1_ := Aside0.mk ((by rw [hw]; exact below_set (HB.out) GB29.out : Below w.heap.size w w31)); have n2_ := Aside0.mk (hm_); have n3_ := Aside0.mk ((Kd.R_reads' hm_).2.1); clear HO_4; clear HB; clear HL459_0; have HO_4 := n0_; have HB := n1_; have HL473 := n2_; have HC461 := n3_; clear n0_ n1_ n2_ n3_; (try clear hg); (try clear hw); (try clear hp_); (try clear hz_); (try clear hm_); (try clear hok30)))
                     (try simp only [← hl4_3])
                     go_roundg k3
                     case measure => have := HJ1.out; have := HK2.out; have := HK3.out; omega
                     case rel => exact ⟨(y462), (wrap64 (x36_3 + 1)), (by first | rfl | (simp; done) | (simp [*]; done)), H', ⟨by have := HJ1.out; have := HK2.out; have := HK3.out; omega⟩, ⟨by (try simp only [hl4_2]); (try simp only [hl4_3]); (with_reducible repeat (first | apply Kd.S_alloc | apply Kd.S_drewN | apply Kd.S_drew)); exact HO_4.out⟩, ⟨by repeat (first | (with_reducible first | exact HB.out | apply below_alloc | apply pw_below_drewN | apply below_drew1) | exact HB.out)⟩⟩
                    ·rw [if_neg c28] at H
                     exact absurd H (by simp)
                   ·rw [if_neg c27] at H
                    exact absurd H (by simp)
                  ·rw [if_neg c26] at H
                   exact absurd H (by simp)
                 ·rw [if_neg c25] at H
                  exact absurd H (by simp)
                ·rw [if_neg c24] at H
                 have c24b0 : (x22_2 == (l0.length : Int)) = false := beq_eq_false_iff_ne.mpr c24
                 have c24b1 : (x22_2 != (l0.length : Int)) = true := bne_iff_ne.mpr c24
                 by_cases c32 : x36_3 = (l0.length : Int)
                 ·rw [if_pos c32] at H
                  have c32b0 : (x36_3 == (l0.length : Int)) = true := beq_iff_eq.mpr c32
                  have c32b1 : (x36_3 != (l0.length : Int)) = false := bne_eq_false_iff_eq.mpr c32
                  clear c32
                  by_cases c33 : 0 ≤ x22_2
                  ·rw [if_pos c33] at H
                   have c33b0 : decide (0 ≤ x22_2) = true := decide_eq_true c33
                   clear c33
                   by_cases c34 : x22_2 < (x4_3.length : Int)
                   ·rw [if_pos c34] at H
                    have c34b0 : decide (x22_2 < (x4_3.length : Int)) = true := decide_eq_true c34
                    (try (have c34b0z := c34b0; simp only [hl4_2, hl4_3] at c34b0z))
                    clear c34
                    by_cases c35 : 0 ≤ x36_3
                    ·rw [if_pos c35] at H
                     have c35b0 : decide (0 ≤ x36_3) = true := decide_eq_true c35
                     clear c35
                     by_cases c36 : x36_3 < ((rd_L1 x4_3 x22_2).length : Int)
                     ·rw [if_pos c36] at H
                      have c36b0 : decide (x36_3 < ((rd_L1 x4_3 x22_2).length : Int)) = true := decide_eq_true c36
                      (try (have c36b0z := c36b0; simp only [hl4_2, hl4_3] at c36b0z))
                      clear c36
                      obtain ⟨y464, hy464⟩ : ∃ y_ : List Int, y_ = ((rd_L1 x4_3 x22_2).set (x36_3 : Int).toNat x22_2) := ⟨_, rfl⟩
                      replace H : (mult_Adjoin.l1 k3 l0 (l0.length : Int) (x4_3.set (x22_2 : Int).toNat y464) x22_2 (y451.length : Int) x22_2 ((rd_L1 y457 x22_2).length : Int) (wrap64 (x36_3 + 1))) = some r := by first | (rw [hy464]; with_reducible exact H) | (have H2_ := (Option.bind_some _ _).symm.trans H; rw [hy464]; with_reducible exact H2_) | (have H2_ := (Option.bind_some _ _).symm.trans H; with_reducible exact H2_) | with_reducible exact H | (rw [hy464]; exact H) | exact H
                      have Ny464 := Aside0.mk hy464
                      clear hy464
                      obtain ⟨y466, hy466⟩ : ∃ y_ : List (List Int), y_ = (x4_3.set (x22_2 : Int).toNat y464) := ⟨_, rfl⟩
                      replace H : (mult_Adjoin.l1 k3 l0 (l0.length : Int) y466 x22_2 (y451.length : Int) x22_2 ((rd_L1 y457 x22_2).length : Int) (wrap64 (x36_3 + 1))) = some r := by first | (rw [hy466]; with_reducible exact H) | (have H2_ := (Option.bind_some _ _).symm.trans H; rw [hy466]; with_reducible exact H2_) | (have H2_ := (Option.bind_some _ _).symm.trans H; with_reducible exact H2_) | with_reducible exact H | (rw [hy466]; exact H) | exact H
                      have Ny466 := Aside0.mk hy466
                      clear hy466
                      have H' := Aside0.mk H
                      clear H
                      have p463 : 0 ≤ (x22_2 : Int) := of_decide_eq_true (by first | (with_reducible assumption) | assumption)
                      have q463 : x22_2 < (x4_3.length : Int) := of_decide_eq_true (by first | (with_reducible assumption) | assumption)
                      obtain ⟨ad463, A463_0, c463_0, e463, hx463_0, hl463_0, hi463_0⟩ := at_L1 (Kd.S_reads' HO_4.out).2.2 x22_2 p463 q463
                      obtain rfl : (⟨go18, 0, none⟩ : Addr) = ad463 := (by injection e463)
                      obtain ⟨ce463, hce463, hMe463, hcc463⟩ := Kd.S_get HO_4.out [] x22_2 p463 (by first | exact q463 | exact of_decide_eq_true (by first | (with_reducible assumption) | assumption) | (have e_ := (Kd.S_reads' HO_4.out).1; omega))
                      obtain ⟨ve463_0, rfl, ge463_0⟩ := hMe463
                      have hv463_0 := hcc463 0 _ rfl
                      rw [Nat.add_zero, show ((Kd.slice 3 (Kd.int .i64))).sz = 1 from rfl, Nat.mul_one] at hv463_0
                      replace hv463_0 := Option.some.inj (hv463_0.symm.trans hx463_0)
                      rw [hv463_0] at ge463_0
                      have HL463_0 := Aside0.mk (show Kd.R (Kd.int .i64) 3 _ _ _ _ (rd_L1 x4_3 x22_2) from ge463_0)
                      (try clear hv463_0); (try clear ge463_0)
                      have HX463_0 := Aside0.mk hx463_0
                      (try clear hcc463); (try clear hce463)
                      (first | simp only [add_plain] at hx463_0 | simp only [add_at] at hx463_0 | simp only [Addr.add, Nat.zero_add] at hx463_0 | skip)
                      have HR463_0 := Aside0.mk hi463_0
                      have HC463_0 := Aside0.mk hl463_0
                      (try clear hi463_0); (try clear hl463_0)
                      replace p463 := eq_true p463
                      replace q463 := eq_true q463
                      have p37 : 0 ≤ (x36_3 : Int) := of_decide_eq_true (by first | (with_reducible assumption) | assumption)
                      have q37 : (x36_3 : Int) < (((rd_L1 x4_3 x22_2).length : Int) : Int) := of_decide_eq_true (by first | (with_reducible assumption) | assumption)
                      obtain ⟨go37, co37, eo37, gb37, gl37, cl37, HG37⟩ := Kd.R_form HL463_0.out (by omega)
                      (first | cases eo37 | (injection eo37 with ea_ en_ ec_; (first | subst ea_ | (injection ea_ with ea_; subst ea_)); subst ec_; clear en_))
                      have GB37 := Aside0.mk gb37
                      have GG37 := Aside0.mk HG37
                      (try clear gb37); (try clear gl37); (try clear HG37)
                      obtain ⟨hx37_0, hf37_0⟩ := Kd.R_celln 0 HL463_0.out (x36_3 : Int) p37 q37
                      replace p37 := eq_true p37
                      replace q37 := eq_true q37
                      have hq38 : (x22_2 : Int) < (x4_3.length : Int) := (by have h_ : (x22_2 : Int) < ((x4_3.length : Int) : Int) := of_decide_eq_true (by first | (with_reducible assumption) | assumption); first | exact h_ | (have e_ := (Kd.S_reads' HO_4.out).1; omega) | simpa only [List.length_set, List.length_set] using h_)
                      obtain ⟨oki38, ce38, hcl38, hM38, hcc38, hok38, hbk38⟩ := Kd.S_borrow HO_4.out [] (x22_2 : Int) (of_decide_eq_true (by first | (with_reducible assumption) | assumption)) hq38
                      obtain ⟨ve38_0, rfl, ge38_0⟩ := hM38
                      have hv38 := hcc38 0 _ rfl
                      rw [Nat.add_zero, show ((Kd.slice 3 (Kd.int .i64))).sz = 1 from rfl, Nat.mul_one] at hv38
                      replace hv38 := Option.some.inj (hv38.symm.trans HX463_0.out)
                      subst hv38
                      (try clear hcc38); (try clear hcl38)
                      replace ge38_0 := (show Kd.R (Kd.int .i64) 3 _ _ _ _ (rd_L1 x4_3 x22_2) from ge38_0)
                      have HP38 := Kd.R_putg ge38_0 (x36_3 : Int) x22_2
                      go_wp2_with (first | ((with_reducible refine gate_store (t := 3) (p := 73) rfl ?_); refine store_event (t := 3) (p := 73) (v := ?vo_w39) (w1 := (wr.setCell ⟨go37, (x36_3 : Int).toNat, none⟩ (.int .i64 x22_2))) ?hg ?ho ?hn ?hr ?_; (case ho => rfl); (case hg => rfl); (case hn => rfl); (case hr => first | (go_simp; done) | (go_simp; rfl)); intro w39 hw; have hg : wr.grownBy w39 (some go37) := (by rw [hw]; exact HP38.2); have hz_ : Kd.R (Kd.int .i64) 3 w39 w.heap.size oki38 (.slice (some ⟨go37, 0, none⟩) (rd_L1 x4_3 x22_2).length c463_0) y464 := (by rw [hw, Ny464.out]; exact HP38.1); have hp_ : Kd.S (Kd.slice 3 (Kd.int .i64)) 30 w39 w.heap.size (fun _ => True) (.slice (some ⟨go18, 0, none⟩) x4_3.length co11) y466 := (by rw [Ny466.out]; exact hbk38 hg (fun k_ e_ => by injection e_ with e_; subst e_; exact ge38_0.1 _ rfl) (Kd.M_row hz_)); have hm_ := Kd.R_mono hz_ hok38; (try clear HP38); (try clear hbk38); have n0_ := Aside0.mk (hp_); have n1_ := Aside0.mk ((by rw [hw]; exact below_set (HB.out) GB37.out : Below w.heap.size w w39)); have n2_ := Aside0.mk (hm_); have n3_ := Aside0.mk ((Kd.R_reads' hm_).2.1); clear HO_4; clear HB; clear HL463_0; have HO_4 := n0_; have HB := n1_; have HL474 := n2_; have HC465 := n3_; clear n0_ n1_ n2_ n3_; (try clear hg); (try clear hw); (try clear hp_); (try clear hz_); (try clear hm_); (try clear hok38)))
                      (try simp only [← hl4_3])
                      go_roundg k3
                      case measure => have := HJ1.out; have := HK2.out; have := HK3.out; omega
                      case rel => exact ⟨(y466), (wrap64 (x36_3 + 1)), (by first | rfl | (simp; done) | (simp [*]; done)), H', ⟨by have := HJ1.out; have := HK2.out; have := HK3.out; omega⟩, ⟨by (try simp only [hl4_2]); (try simp only [hl4_3]); (with_reducible repeat (first | apply Kd.S_alloc | apply Kd.S_drewN | apply Kd.S_drew)); exact HO_4.out⟩, ⟨by repeat (first | (with_reducible first | exact HB.out | apply below_alloc | apply pw_below_drewN | apply below_drew1) | exact HB.out)⟩⟩
                     ·rw [if_neg c36] at H
                      exact absurd H (by simp)
                    ·rw [if_neg c35] at H
                     exact absurd H (by simp)
                   ·rw [if_neg c34] at H
                    exact absurd H (by simp)
                  ·rw [if_neg c33] at H
                   exact absurd H (by simp)
                 ·rw [if_neg c32] at H
                  have c32b0 : (x36_3 == (l0.length : Int)) = false := beq_eq_false_iff_ne.mpr c32
                  have c32b1 : (x36_3 != (l0.length : Int)) = true := bne_iff_ne.mpr c32
                  by_cases c40 : 0 ≤ x22_2
                  ·rw [if_pos c40] at H
                   have c40b0 : decide (0 ≤ x22_2) = true := decide_eq_true c40
                   clear c40
                   by_cases c41 : x22_2 < (x4_3.length : Int)
                   ·rw [if_pos c41] at H
                    have c41b0 : decide (x22_2 < (x4_3.length : Int)) = true := decide_eq_true c41
                    (try (have c41b0z := c41b0; simp only [hl4_2, hl4_3] at c41b0z))
                    clear c41
                    by_cases c42 : x22_2 < (l0.length : Int)
                    ·rw [if_pos c42] at H
                     have c42b0 : decide (x22_2 < (l0.length : Int)) = true := decide_eq_true c42
                     (try (have c42b0z := c42b0; simp only [hl4_2, hl4_3] at c42b0z))
                     clear c42
                     by_cases c43 : 0 ≤ x36_3
                     ·rw [if_pos c43] at H
                      have c43b0 : decide (0 ≤ x36_3) = true := decide_eq_true c43
                      clear c43
                      by_cases c44 : x36_3 < ((rd_L1 l0 x22_2).length : Int)
                      ·rw [if_pos c44] at H
                       have c44b0 : decide (x36_3 < ((rd_L1 l0 x22_2).length : Int)) = true := decide_eq_true c44
                       (try (have c44b0z := c44b0; simp only [hl4_2, hl4_3] at c44b0z))
                       clear c44
                       by_cases c45 : x36_3 < ((rd_L1 x4_3 x22_2).length : Int)
                       ·rw [if_pos c45] at H
                        have c45b0 : decide (x36_3 < ((rd_L1 x4_3 x22_2).length : Int)) = true := decide_eq_true c45
                        (try (have c45b0z := c45b0; simp only [hl4_2, hl4_3] at c45b0z))
                        clear c45
                        obtain ⟨y470, hy470⟩ : ∃ y_ : List Int, y_ = ((rd_L1 x4_3 x22_2).set (x36_3 : Int).toNat (rd (rd_L1 l0 x22_2) x36_3)) := ⟨_, rfl⟩
                        replace H : (mult_Adjoin.l1 k3 l0 (l0.length : Int) (x4_3.set (x22_2 : Int).toNat y470) x22_2 (y451.length : Int) x22_2 ((rd_L1 y457 x22_2).length : Int) (wrap64 (x36_3 + 1))) = some r := by first | (rw [hy470]; with_reducible exact H) | (have H2_ := (Option.bind_some _ _).symm.trans H; rw [hy470]; with_reducible exact H2_) | (have H2_ := (Option.bind_some _ _).symm.trans H; with_reducible exact H2_) | with_reducible exact H | (rw [hy470]; exact H) | exact H
                        have Ny470 := Aside0.mk hy470
                        clear hy470
                        obtain ⟨y472, hy472⟩ : ∃ y_ : List (List Int), y_ = (x4_3.set (x22_2 : Int).toNat y470) := ⟨_, rfl⟩
                        replace H : (mult_Adjoin.l1 k3 l0 (l0.length : Int) y472 x22_2 (y451.length : Int) x22_2 ((rd_L1 y457 x22_2).length : Int) (wrap64 (x36_3 + 1))) = some r := by first | (rw [hy472]; with_reducible exact H) | (have H2_ := (Option.bind_some _ _).symm.trans H; rw [hy472]; with_reducible exact H2_) | (have H2_ := (Option.bind_some _ _).symm.trans H; with_reducible exact H2_) | with_reducible exact H | (rw [hy472]; exact H) | exact H
                        have Ny472 := Aside0.mk hy472
                        clear hy472
                        have H' := Aside0.mk H
                        clear H
                        try go_wp2
                        have n0_ := Aside0.mk (Kd.S_drew HO_4.out)
                        have n1_ := Aside0.mk (below_drew1 HB.out)
                        clear HO_4
                        clear HB
                        have HO_4 := n0_
                        have HB := n1_
                        clear n0_ n1_
                        have p467 : 0 ≤ (x22_2 : Int) := of_decide_eq_true (by first | (with_reducible assumption) | assumption)
                        have q467 : x22_2 < (x4_3.length : Int) := of_decide_eq_true (by first | (with_reducible assumption) | assumption)
                        obtain ⟨ad467, A467_0, c467_0, e467, hx467_0, hl467_0, hi467_0⟩ := at_L1 (Kd.S_reads' HO_4.out).2.2 x22_2 p467 q467
                        obtain rfl : (⟨go18, 0, none⟩ : Addr) = ad467 := (by injection e467)
                        obtain ⟨ce467, hce467, hMe467, hcc467⟩ := Kd.S_get HO_4.out [] x22_2 p467 (by first | exact q467 | exact of_decide_eq_true (by first | (with_reducible assumption) | assumption) | (have e_ := (Kd.S_reads' HO_4.out).1; omega))
                        obtain ⟨ve467_0, rfl, ge467_0⟩ := hMe467
                        have hv467_0 := hcc467 0 _ rfl
                        rw [Nat.add_zero, show ((Kd.slice 3 (Kd.int .i64))).sz = 1 from rfl, Nat.mul_one] at hv467_0
                        replace hv467_0 := Option.some.inj (hv467_0.symm.trans hx467_0)
                        rw [hv467_0] at ge467_0
                        have HL467_0 := Aside0.mk (show Kd.R (Kd.int .i64) 3 _ _ _ _ (rd_L1 x4_3 x22_2) from ge467_0)
                        (try clear hv467_0); (try clear ge467_0)
                        have HX467_0 := Aside0.mk hx467_0
                        (try clear hcc467); (try clear hce467)
                        (first | simp only [add_plain] at hx467_0 | simp only [add_at] at hx467_0 | simp only [Addr.add, Nat.zero_add] at hx467_0 | skip)
                        have HR467_0 := Aside0.mk hi467_0
                        have HC467_0 := Aside0.mk hl467_0
                        (try clear hi467_0); (try clear hl467_0)
                        replace p467 := eq_true p467
                        replace q467 := eq_true q467
                        have p468 : 0 ≤ (x22_2 : Int) := of_decide_eq_true (by first | (with_reducible assumption) | assumption)
                        have q468 : x22_2 < (l0.length : Int) := of_decide_eq_true (by first | (with_reducible assumption) | assumption)
                        obtain ⟨ad468, A468_0, c468_0, e468, hx468_0, hl468_0, hi468_0⟩ := at_L1 HR0.out x22_2 p468 q468
                        have hw468_0 := hx468_0
                        cases e468
                        replace hx468_0 := (HB.out.cell (World.block_lt_of_cell? w _ hx468_0)).trans hx468_0
                        have HR468_0 := Aside0.mk hi468_0
                        have HC468_0 := Aside0.mk hl468_0
                        (try clear hi468_0); (try clear hl468_0)
                        replace p468 := eq_true p468
                        replace q468 := eq_true q468
                        have p469 : 0 ≤ (x36_3 : Int) := of_decide_eq_true (by first | (with_reducible assumption) | assumption)
                        have q469 : x36_3 < ((rd_L1 l0 x22_2).length : Int) := of_decide_eq_true (by first | (with_reducible assumption) | assumption)
                        obtain ⟨ad469, e469, hx469_0⟩ := Kd.at_int HR468_0.out x36_3 p469 q469
                        have hw469_0 := hx469_0
                        cases e469
                        replace hx469_0 := (HB.out.cell (World.block_lt_of_cell? w _ hx469_0)).trans hx469_0
                        replace p469 := eq_true p469
                        replace q469 := eq_true q469
                        have p46 : 0 ≤ (x36_3 : Int) := of_decide_eq_true (by first | (with_reducible assumption) | assumption)
                        have q46 : (x36_3 : Int) < (((rd_L1 x4_3 x22_2).length : Int) : Int) := of_decide_eq_true (by first | (with_reducible assumption) | assumption)
                        obtain ⟨go46, co46, eo46, gb46, gl46, cl46, HG46⟩ := Kd.R_form HL467_0.out (by omega)
                        (first | cases eo46 | (injection eo46 with ea_ en_ ec_; (first | subst ea_ | (injection ea_ with ea_; subst ea_)); subst ec_; clear en_))
                        have GB46 := Aside0.mk gb46
                        have GG46 := Aside0.mk HG46
                        (try clear gb46); (try clear gl46); (try clear HG46)
                        obtain ⟨hx46_0, hf46_0⟩ := Kd.R_celln 0 HL467_0.out (x36_3 : Int) p46 q46
                        replace p46 := eq_true p46
                        replace q46 := eq_true q46
                        have hq48 : (x22_2 : Int) < (x4_3.length : Int) := (by have h_ : (x22_2 : Int) < ((x4_3.length : Int) : Int) := of_decide_eq_true (by first | (with_reducible assumption) | assumption); first | exact h_ | (have e_ := (Kd.S_reads' HO_4.out).1; omega) | simpa only [List.length_set, List.length_set] using h_)
                        obtain ⟨oki48, ce48, hcl48, hM48, hcc48, hok48, hbk48⟩ := Kd.S_borrow HO_4.out [] (x22_2 : Int) (of_decide_eq_true (by first | (with_reducible assumption) | assumption)) hq48
                        obtain ⟨ve48_0, rfl, ge48_0⟩ := hM48
                        have hv48 := hcc48 0 _ rfl
                        rw [Nat.add_zero, show ((Kd.slice 3 (Kd.int .i64))).sz = 1 from rfl, Nat.mul_one] at hv48
                        replace hv48 := Option.some.inj (hv48.symm.trans HX467_0.out)
                        subst hv48
                        (try clear hcc48); (try clear hcl48)
                        replace ge48_0 := (show Kd.R (Kd.int .i64) 3 _ _ _ _ (rd_L1 x4_3 x22_2) from ge48_0)
                        have HP48 := Kd.R_putg ge48_0 (x36_3 : Int) (rd (rd_L1 l0 x22_2) x36_3)
                        rw [← Ny470.out] at HP48
                        have HS48 := hbk48 HP48.2 (fun k_ e_ => by injection e_ with e_; subst e_; exact ge48_0.1 _ rfl) (x' := y470) (Kd.M_row HP48.1)
                        rw [← Ny472.out] at HS48
                        have HQ48 := Aside0.mk HS48
                        (try clear HP48); (try clear HS48); (try clear hbk48); (try clear hok48)
                        refine start_ (n := 14) (S := fun w' => w'.cell? ⟨go18, (x22_2).toNat, none⟩ = some (.slice (some ⟨go46, 0, none⟩) (rd_L1 x4_3 x22_2).length c467_0) ∧ w'.cell? (ad468.add (x22_2).toNat) = some (.slice (some ad469) (rd_L1 l0 x22_2).length c468_0) ∧ w'.cell? (ad469.add (x36_3).toNat) = some (.int .i64 (rd (rd_L1 l0 x22_2) x36_3))) (ds := [13]) #[false, false, false, false, false, false, false, false, false, false, false, false, false, false] (by kernel_rfl) rfl rfl ⟨hx467_0, ((HB.out.cell (World.block_lt_of_cell? w _ hw468_0)).trans hw468_0), ((HB.out.cell (World.block_lt_of_cell? w _ hw469_0)).trans hw469_0)⟩ (fun hHeld => ?_); refine with_tabW mult_Adjoin.tab12 mult_Adjoin.bits12 (fun HT_ HW_ => ?_)
                        generalize wr.drew = w47 at HO_4 HB GG46 HL467_0 HQ48 HR467_0 HR468_0 HX467_0 hf46_0 hx467_0 hx468_0 hx469_0 hx46_0 hHeld ⊢
                        refine pure_ (i := 0) (N := some 39) (v := ?_) (a' := ?_) #[true, false, false, false, false, false, false, false, false, false, false, false, false, false] rfl rfl (any_of HT_.out (by kernel_rfl)) (fun _ _ _ h => h) (Or.inl ⟨by rfl, ?_⟩) ?_ ?_
                        rotate_left
                        ·intro w'
                         go_simp
                         with_reducible rfl
                        rotate_left
                        ·simp only [Act.put, List.setIfInBounds_toArray, List.set_cons_zero, List.set_cons_succ, i64_w, i32_w]
                         rfl
                        refine pure_ (i := 1) (N := some 40) (v := ?_) (a' := ?_) #[true, true, false, false, false, false, false, false, false, false, false, false, false, false] rfl rfl (any_of HT_.out (by kernel_rfl)) (fun _ _ _ h => h) (Or.inl ⟨by rfl, ?_⟩) ?_ ?_
                        rotate_left
                        ·intro w'
                         go_simp
                         with_reducible rfl
                        rotate_left
                        ·simp only [Act.put, List.setIfInBounds_toArray, List.set_cons_zero, List.set_cons_succ, i64_w, i32_w]
                         rfl
                        refine pure_ (i := 2) (N := some 41) (v := ?_) (a' := ?_) #[true, true, true, false, false, false, false, false, false, false, false, false, false, false] rfl rfl (any_of HT_.out (by kernel_rfl)) (fun _ _ _ h => h) (Or.inl ⟨by rfl, ?_⟩) ?_ ?_
                        rotate_left
                        ·intro w'
                         go_simp
                         with_reducible rfl
                        rotate_left
                        ·simp only [Act.put, List.setIfInBounds_toArray, List.set_cons_zero, List.set_cons_succ, i64_w, i32_w]
                         rfl
                        refine pure_ (i := 4) (N := some 43) (v := ?_) (a' := ?_) #[true, true, true, false, true, false, false, false, false, false, false, false, false, false] rfl rfl (any_of HT_.out (by kernel_rfl)) (fun _ _ _ h => h) (Or.inl ⟨by rfl, ?_⟩) ?_ ?_
                        rotate_left
                        ·intro w'
                         go_simp
                         with_reducible rfl
                        rotate_left
                        ·simp only [Act.put, List.setIfInBounds_toArray, List.set_cons_zero, List.set_cons_succ, i64_w, i32_w]
                         rfl
                        refine pure_ (i := 5) (N := some 44) (v := ?_) (a' := ?_) #[true, true, true, false, true, true, false, false, false, false, false, false, false, false] rfl rfl (any_of HT_.out (by kernel_rfl)) (fun _ _ _ h => h) (Or.inl ⟨by rfl, ?_⟩) ?_ ?_
                        rotate_left
                        ·intro w'
                         go_simp
                         with_reducible rfl
                        rotate_left
                        ·simp only [Act.put, List.setIfInBounds_toArray, List.set_cons_zero, List.set_cons_succ, i64_w, i32_w]
                         rfl
                        refine pure_ (i := 6) (N := some 45) (v := ?_) (a' := ?_) #[true, true, true, false, true, true, true, false, false, false, false, false, false, false] rfl rfl (any_of HT_.out (by kernel_rfl)) (fun _ _ _ h => h) (Or.inl ⟨by rfl, ?_⟩) ?_ ?_
                        rotate_left
                        ·intro w'
                         go_simp
                         with_reducible rfl
                        rotate_left
                        ·simp only [Act.put, List.setIfInBounds_toArray, List.set_cons_zero, List.set_cons_succ, i64_w, i32_w]
                         rfl
                        refine pure_ (i := 7) (N := some 46) (v := ?_) (a' := ?_) #[true, true, true, false, true, true, true, true, false, false, false, false, false, false] rfl rfl (any_of HT_.out (by kernel_rfl)) (fun _ _ _ h => h) (Or.inl ⟨by rfl, ?_⟩) ?_ ?_
                        rotate_left
                        ·intro w'
                         go_simp
                         with_reducible rfl
                        rotate_left
                        ·simp only [Act.put, List.setIfInBounds_toArray, List.set_cons_zero, List.set_cons_succ, i64_w, i32_w]
                         rfl
                        refine pure_ (i := 9) (N := some 48) (v := ?_) (a' := ?_) #[true, true, true, false, true, true, true, true, false, true, false, false, false, false] rfl rfl (any_of HT_.out (by kernel_rfl)) (fun _ _ _ h => h) (Or.inl ⟨by rfl, ?_⟩) ?_ ?_
                        rotate_left
                        ·intro w'
                         go_simp
                         with_reducible rfl
                        rotate_left
                        ·simp only [Act.put, List.setIfInBounds_toArray, List.set_cons_zero, List.set_cons_succ, i64_w, i32_w]
                         rfl
                        refine take_ (i := 3) (N := some 42) (v := ?_) (a' := ?_) #[true, true, true, true, true, true, true, true, false, true, false, false, false, false] rfl rfl (take_ofW HT_.out HW_.out (by kernel_rfl)) (fun _ _ _ h => h) (Or.inl ⟨by rfl, ?_⟩) hHeld ?_ ?_
                        rotate_left
                        ·rintro w' ⟨s0, s1, s2⟩
                         go_simp
                         with_reducible rfl
                        rotate_left
                        ·simp only [Act.put, List.setIfInBounds_toArray, List.set_cons_zero, List.set_cons_succ, i64_w, i32_w]
                         rfl
                        refine take_ (i := 8) (N := some 47) (v := ?_) (a' := ?_) #[true, true, true, true, true, true, true, true, true, true, false, false, false, false] rfl rfl (take_ofW HT_.out HW_.out (by kernel_rfl)) (fun _ _ _ h => h) (Or.inl ⟨by rfl, ?_⟩) hHeld ?_ ?_
                        rotate_left
                        ·rintro w' ⟨s0, s1, s2⟩
                         go_simp
                         with_reducible rfl
                        rotate_left
                        ·simp only [Act.put, List.setIfInBounds_toArray, List.set_cons_zero, List.set_cons_succ, i64_w, i32_w]
                         rfl
                        refine pure_ (i := 10) (N := some 49) (v := ?_) (a' := ?_) #[true, true, true, true, true, true, true, true, true, true, true, false, false, false] rfl rfl (any_of HT_.out (by kernel_rfl)) (fun _ _ _ h => h) (Or.inl ⟨by rfl, ?_⟩) ?_ ?_
                        rotate_left
                        ·intro w'
                         go_simp
                         with_reducible rfl
                        rotate_left
                        ·simp only [Act.put, List.setIfInBounds_toArray, List.set_cons_zero, List.set_cons_succ, i64_w, i32_w]
                         rfl
                        refine take_ (i := 11) (N := some 50) (v := ?_) (a' := ?_) #[true, true, true, true, true, true, true, true, true, true, true, true, false, false] rfl rfl (take_ofW HT_.out HW_.out (by kernel_rfl)) (fun _ _ _ h => h) (Or.inl ⟨by rfl, ?_⟩) hHeld ?_ ?_
                        rotate_left
                        ·rintro w' ⟨s0, s1, s2⟩
                         go_simp
                         with_reducible rfl
                        rotate_left
                        ·simp only [Act.put, List.setIfInBounds_toArray, List.set_cons_zero, List.set_cons_succ, i64_w, i32_w]
                         rfl
                        refine pure_ (i := 12) (N := some 51) (v := ?_) (a' := ?_) #[true, true, true, true, true, true, true, true, true, true, true, true, true, false] rfl rfl (any_of HT_.out (by kernel_rfl)) (fun _ _ _ h => h) (Or.inl ⟨by rfl, ?_⟩) ?_ ?_
                        rotate_left
                        ·intro w'
                         go_simp
                         with_reducible rfl
                        rotate_left
                        ·simp only [Act.put, List.setIfInBounds_toArray, List.set_cons_zero, List.set_cons_succ, i64_w, i32_w]
                         rfl
                        refine last_ (i := 13) (N := none) #[true, true, true, true, true, true, true, true, true, true, true, true, true, true] rfl rfl (one_of HT_.out (by kernel_rfl)) (by decide) (fun K hK => ?_)
                        refine skip_ (w1 := ?_) (by rfl) rfl ?_ ?_
                        rotate_left
                        ·go_simp
                         rfl
                        refine hK.out _ _ ?_
                        clear hK K
                        refine done_ (done_of HT_.out (by kernel_rfl)) ?_
                        try go_wp2
                        (try simp only [← hl4_3])
                        go_roundg k3
                        case measure => have := HJ1.out; have := HK2.out; have := HK3.out; omega
                        case rel => exact ⟨(y472), (wrap64 (x36_3 + 1)), (by first | rfl | (simp; done) | (simp [*]; done)), H', ⟨by have := HJ1.out; have := HK2.out; have := HK3.out; omega⟩, ⟨by (try simp only [hl4_2]); (try simp only [hl4_3]); (with_reducible repeat (first | apply Kd.S_alloc | apply Kd.S_drewN | apply Kd.S_drew)); exact HQ48.out⟩, ⟨by repeat (first | (with_reducible first | exact HB.out | apply below_alloc | apply pw_below_drewN | apply below_drew1 | refine below_set ?_ GB46.out) | exact HB.out)⟩⟩
                       ·rw [if_neg c45] at H
                        exact absurd H (by simp)
                      ·rw [if_neg c44] at H
                       exact absurd H (by simp)
                     ·rw [if_neg c43] at H
                      exact absurd H (by simp)
                    ·rw [if_neg c42] at H
                     exact absurd H (by simp)
                   ·rw [if_neg c41] at H
                    exact absurd H (by simp)
                  ·rw [if_neg c40] at H
                   exact absurd H (by simp)
               ·rw [if_neg c23] at H
                have c23b0 : decide (x36_3 < ((rd_L1 y457 x22_2).length : Int)) = false := decide_eq_false c23
                (try (have c23b0z := c23b0; simp only [hl4_2, hl4_3] at c23b0z))
                clear c23
                have H' := Aside0.mk H
                clear H
                go_wp2
                (try simp only [← hl4_2, ← hl4_3])
                go_roundg k3
                case measure => have := HJ1.out; have := HK2.out; have := HK3.out; omega
                case rel => exact ⟨(x4_3), (wrap64 (x22_2 + 1)), (by first | rfl | (simp; done) | (simp [*]; done)), H', ⟨by have := HJ1.out; have := HK2.out; have := HK3.out; omega⟩, ⟨by (try simp only [hl4_2]); (try simp only [hl4_3]); (with_reducible repeat (first | apply Kd.S_alloc | apply Kd.S_drewN | apply Kd.S_drew)); exact HO_4.out⟩, ⟨by repeat (first | (with_reducible first | exact HB.out | apply below_alloc | apply pw_below_drewN | apply below_drew1) | exact HB.out)⟩⟩
            ·rw [if_neg c17] at H
             exact absurd H (by simp)
           ·rw [if_neg c16] at H
            exact absurd H (by simp)
          ·rw [if_neg c15] at H
           exact absurd H (by simp)
         ·rw [if_neg c14] at H
          exact absurd H (by simp)
        ·rw [if_neg c12] at H
         have c12b0 : decide (x22_2 < (y451.length : Int)) = false := decide_eq_false c12
         (try (have c12b0z := c12b0; simp only [hl4_2] at c12b0z))
         clear c12
         obtain rfl := Option.some.inj H
         go_wp2
         go_ret
         exact ⟨_, by first | rfl | (simp [errW_none, errW_some] <;> rfl) | (simp only [← hji6]; first | rfl | (simp [errW_none, errW_some] <;> rfl)) | (simp [*, errW_none, errW_some] <;> rfl), by (with_reducible repeat (first | apply Kd.S_alloc | apply Kd.S_drewN | apply Kd.S_drew)); exact HO_4.out, by repeat (first | (with_reducible first | exact HB.out | apply below_alloc | apply pw_below_drewN | apply below_drew1) | exact HB.out)⟩
     ·rw [if_neg c8] at H
      exact absurd H (by simp)
    ·rw [if_neg c7] at H
     exact absurd H (by simp)

/-! ### semigroupref03_SameRows: function 47 -/
def semigroupref03_SameRows.l0 : Nat → List (List Int) → List (List Int) → Int → Int → Option (Bool)
 | 0, _, _, _, _ => none
 | k + 1, x0, x1, x12, x13 => if x13 < x12 then (if 0 ≤ x13 then (if x13 < (x0.length : Int) then (if x13 < (x1.length : Int) then ((semigroupref03_Same.f k (rd_L1 x0 x13) (rd_L1 x1 x13)).bind fun t477 => (if t477 = true then (semigroupref03_SameRows.l0 k x0 x1 x12 (wrap64 (x13 + 1))) else (some false))) else (none)) else (none)) else (none)) else (some true)
def semigroupref03_SameRows.f (k : Nat) (l0 : List (List Int)) (l1 : List (List Int)) : Option (Bool) := if (l0.length : Int) = (l1.length : Int) then (semigroupref03_SameRows.l0 k l0 l1 (l0.length : Int) 0) else (some false)
theorem semigroupref03_SameRows.mono_l : ∀ k, (∀ y0 y1 y2 y3, LeO (semigroupref03_SameRows.l0 k y0 y1 y2 y3) (semigroupref03_SameRows.l0 (k + 1) y0 y1 y2 y3))
 | 0 => fun _ _ _ _ r h => by simp [semigroupref03_SameRows.l0] at h
 | k + 1 => by
  have ih0 := semigroupref03_SameRows.mono_l k
  ·intro y0 y1 y2 y3
   unfold semigroupref03_SameRows.l0
   repeat' first
   | (with_reducible exact ih0 _ _ _ _)
   | (with_reducible exact semigroupref03_Same.mono _ _ _)
   | (with_reducible exact LeO.refl _)
   | (with_reducible exact LeO.none _)
   | (with_reducible refine LeO.ite ?_ ?_)
   | (with_reducible refine LeO.bind ?_ (fun _ => ?_))
   | exact ih0 _ _ _ _
   | exact semigroupref03_Same.mono _ _ _
   | exact LeO.none _
   | refine LeO.ite ?_ ?_
   | refine LeO.bind ?_ (fun _ => ?_)
theorem semigroupref03_SameRows.mono : ∀ a0 a1 k, LeO (semigroupref03_SameRows.f k a0 a1) (semigroupref03_SameRows.f (k + 1) a0 a1) := by
 intro a0 a1 k
 have ih0 := semigroupref03_SameRows.mono_l k
 unfold semigroupref03_SameRows.f
 repeat' first
   | (with_reducible exact ih0 _ _ _ _)
   | (with_reducible exact semigroupref03_Same.mono _ _ _)
   | (with_reducible exact LeO.refl _)
   | (with_reducible exact LeO.none _)
   | (with_reducible refine LeO.ite ?_ ?_)
   | (with_reducible refine LeO.bind ?_ (fun _ => ?_))
   | exact ih0 _ _ _ _
   | exact semigroupref03_Same.mono _ _ _
   | exact LeO.none _
   | refine LeO.ite ?_ ?_
   | refine LeO.bind ?_ (fun _ => ?_)
set_option maxHeartbeats 8000000 in
set_option maxRecDepth 100000 in
theorem semigroupref03_SameRows.calls (k : Nat) (A0 : Option Addr) (c0 : Nat) (l0 : List (List Int)) (A1 : Option Addr) (c1 : Nat) (l1 : List (List Int)) (r : Bool) (w : World) (hr0 : Kd.C (Kd.slice 3 (Kd.int .i64)) w A0 l0.length l0) (hc0 : l0.length ≤ c0) (hr1 : Kd.C (Kd.slice 3 (Kd.int .i64)) w A1 l1.length l1) (hc1 : l1.length ≤ c1) (h : semigroupref03_SameRows.f k l0 l1 = some r) :
  Calls Try.prog 47 #[.slice A0 l0.length c0, .slice A1 l1.length c1] w fun e w' => e = .returned (.bool r) ∧ Drawn0 w w' := by
 have HR0 := Aside0.mk hr0
 have HC0 := Aside0.mk hc0
 (try clear hr0); (try clear hc0)
 have HR1 := Aside0.mk hr1
 have HC1 := Aside0.mk hc1
 (try clear hr1); (try clear hc1)
 have H : (if (l0.length : Int) = (l1.length : Int) then (semigroupref03_SameRows.l0 k l0 l1 (l0.length : Int) 0) else (some false)) = some r := h
 clear h
 by_cases c3 : (l0.length : Int) = (l1.length : Int)
 ·rw [if_pos c3] at H
  have c3b0 : ((l0.length : Int) == (l1.length : Int)) = true := beq_iff_eq.mpr c3
  have c3b1 : ((l0.length : Int) != (l1.length : Int)) = false := bne_eq_false_iff_eq.mpr c3
  have c3b2 : (l0.length == l1.length) = true := by first | simpa using c3 | (simp at c3 ⊢; omega)
  clear c3
  have H' := Aside0.mk H
  clear H
  go_enter Try.func47, Try.ntmps47
  go_wp2
  repeat (go_quiet (fail); try go_wp2)
  go_loopg [13] k (fun kq v13 w' => ∃ (x13_1 : Int), v13 = .int .i64 x13_1 ∧ Aside0 (semigroupref03_SameRows.l0 kq l0 l1 (l0.length : Int) x13_1 = some r) ∧ Aside0 (kq ≤ k) ∧ Drawn0 w w')
  case atStart => exact ⟨(0), (by first | rfl | (simp; done) | (simp [*]; done)), H', ⟨Nat.le_refl _⟩, by repeat (first | exact Drawn0.refl _ | apply Drawn0.step)⟩
  case round =>
   clear H'
   try clear c1
   try clear p2
   try clear c3
   try clear c3b0
   try clear c3b1
   try clear c3b2
   obtain ⟨x13_1, rfl, HA, HK1, ⟨m1, rfl⟩⟩ := hrel
   cases gk with
   | zero => exact absurd HA.out (by simp [semigroupref03_SameRows.l0])
   | succ k1 =>
    have H := HA.out
    clear HA
    simp only [semigroupref03_SameRows.l0] at H
    by_cases c4 : x13_1 < (l0.length : Int)
    ·rw [if_pos c4] at H
     have c4b0 : decide (x13_1 < (l0.length : Int)) = true := decide_eq_true c4
     clear c4
     by_cases c5 : 0 ≤ x13_1
     ·rw [if_pos c5] at H
      have c5b0 : decide (0 ≤ x13_1) = true := decide_eq_true c5
      clear c5
      by_cases c6 : x13_1 < (l0.length : Int)
      ·rw [if_pos c6] at H
       have c6b0 : decide (x13_1 < (l0.length : Int)) = true := decide_eq_true c6
       clear c6
       by_cases c7 : x13_1 < (l1.length : Int)
       ·rw [if_pos c7] at H
        have c7b0 : decide (x13_1 < (l1.length : Int)) = true := decide_eq_true c7
        clear c7
        replace H := Option.bind_eq_some_iff.mp H
        obtain ⟨t477, A80, H⟩ := H
        replace H : (if t477 = true then (semigroupref03_SameRows.l0 k1 l0 l1 (l0.length : Int) (wrap64 (x13_1 + 1))) else (some false)) = some r := H
        have A8 := Aside0.mk A80
        clear A80
        by_cases c9 : t477 = true
        ·subst c9
         have H1 : (semigroupref03_SameRows.l0 k1 l0 l1 (l0.length : Int) (wrap64 (x13_1 + 1))) = some r := by rw [if_pos rfl] at H; exact H
         clear H
         have H := H1
         clear H1
         have H' := Aside0.mk H
         clear H
         have p475 : 0 ≤ (x13_1 : Int) := of_decide_eq_true (by first | (with_reducible assumption) | assumption)
         have q475 : x13_1 < (l0.length : Int) := of_decide_eq_true (by first | (with_reducible assumption) | assumption)
         obtain ⟨ad475, A475_0, c475_0, e475, hx475_0, hl475_0, hi475_0⟩ := at_L1 HR0.out x13_1 p475 q475
         cases e475
         have HR475_0 := Aside0.mk hi475_0
         have HC475_0 := Aside0.mk hl475_0
         (try clear hi475_0); (try clear hl475_0)
         replace p475 := eq_true p475
         replace q475 := eq_true q475
         have p476 : 0 ≤ (x13_1 : Int) := of_decide_eq_true (by first | (with_reducible assumption) | assumption)
         have q476 : x13_1 < (l1.length : Int) := of_decide_eq_true (by first | (with_reducible assumption) | assumption)
         obtain ⟨ad476, A476_0, c476_0, e476, hx476_0, hl476_0, hi476_0⟩ := at_L1 HR1.out x13_1 p476 q476
         cases e476
         have HR476_0 := Aside0.mk hi476_0
         have HC476_0 := Aside0.mk hl476_0
         (try clear hi476_0); (try clear hl476_0)
         replace p476 := eq_true p476
         replace q476 := eq_true q476
         go_wp2_with (first | (go_at_call 27; (with_reducible refine (semigroupref03_Same.calls k1 _ _ (rd_L1 l0 x13_1) _ _ (rd_L1 l1 x13_1) true _ ?side1 ?side2 ?side3 ?side4 A8.out).mono ?_); (case side1 => repeat (first | exact HR475_0.out | (with_reducible refine Kd.C_alloc ?_ _) | (with_reducible refine Kd.C_drewN ?_ _) | (with_reducible refine Kd.C_drew ?_))); (case side2 => exact HC475_0.out); (case side3 => repeat (first | exact HR476_0.out | (with_reducible refine Kd.C_alloc ?_ _) | (with_reducible refine Kd.C_drewN ?_ _) | (with_reducible refine Kd.C_drew ?_))); (case side4 => exact HC476_0.out); rintro e w' ⟨rfl, ⟨nd, rfl⟩⟩; (try first | exact ⟨rfl, _, World.drewN_drewN _ _ _⟩ | exact ⟨rfl, _, Eq.trans (World.drewN_drewN _ _ _) (congrArg (World.drewN _) (Nat.add_assoc _ _ _))⟩)))
         repeat (go_quiet (first | (go_at_call 27; (with_reducible refine (semigroupref03_Same.calls k1 _ _ (rd_L1 l0 x13_1) _ _ (rd_L1 l1 x13_1) true _ ?side1 ?side2 ?side3 ?side4 A8.out).mono ?_); (case side1 => repeat (first | exact HR475_0.out | (with_reducible refine Kd.C_alloc ?_ _) | (with_reducible refine Kd.C_drewN ?_ _) | (with_reducible refine Kd.C_drew ?_))); (case side2 => exact HC475_0.out); (case side3 => repeat (first | exact HR476_0.out | (with_reducible refine Kd.C_alloc ?_ _) | (with_reducible refine Kd.C_drewN ?_ _) | (with_reducible refine Kd.C_drew ?_))); (case side4 => exact HC476_0.out); rintro e w' ⟨rfl, ⟨nd, rfl⟩⟩; (try first | exact ⟨rfl, _, World.drewN_drewN _ _ _⟩ | exact ⟨rfl, _, Eq.trans (World.drewN_drewN _ _ _) (congrArg (World.drewN _) (Nat.add_assoc _ _ _))⟩))); try go_wp2_with (first | (go_at_call 27; (with_reducible refine (semigroupref03_Same.calls k1 _ _ (rd_L1 l0 x13_1) _ _ (rd_L1 l1 x13_1) true _ ?side1 ?side2 ?side3 ?side4 A8.out).mono ?_); (case side1 => repeat (first | exact HR475_0.out | (with_reducible refine Kd.C_alloc ?_ _) | (with_reducible refine Kd.C_drewN ?_ _) | (with_reducible refine Kd.C_drew ?_))); (case side2 => exact HC475_0.out); (case side3 => repeat (first | exact HR476_0.out | (with_reducible refine Kd.C_alloc ?_ _) | (with_reducible refine Kd.C_drewN ?_ _) | (with_reducible refine Kd.C_drew ?_))); (case side4 => exact HC476_0.out); rintro e w' ⟨rfl, ⟨nd, rfl⟩⟩; (try first | exact ⟨rfl, _, World.drewN_drewN _ _ _⟩ | exact ⟨rfl, _, Eq.trans (World.drewN_drewN _ _ _) (congrArg (World.drewN _) (Nat.add_assoc _ _ _))⟩))))
         go_roundg k1
         case measure => have := HK1.out; omega
         case rel => exact ⟨(wrap64 (x13_1 + 1)), (by first | rfl | (simp; done) | (simp [*]; done)), H', ⟨by have := HK1.out; omega⟩, by repeat (first | exact Drawn0.refl _ | apply Drawn0.step)⟩
        ·replace c9 := Bool.eq_false_iff.mpr c9
         subst c9
         have H1 : (some false) = some r := by rw [if_neg (show ¬ (false = true) by decide)] at H; exact H
         clear H
         have H := H1
         clear H1
         obtain rfl := Option.some.inj H
         have p475 : 0 ≤ (x13_1 : Int) := of_decide_eq_true (by first | (with_reducible assumption) | assumption)
         have q475 : x13_1 < (l0.length : Int) := of_decide_eq_true (by first | (with_reducible assumption) | assumption)
         obtain ⟨ad475, A475_0, c475_0, e475, hx475_0, hl475_0, hi475_0⟩ := at_L1 HR0.out x13_1 p475 q475
         cases e475
         have HR475_0 := Aside0.mk hi475_0
         have HC475_0 := Aside0.mk hl475_0
         (try clear hi475_0); (try clear hl475_0)
         replace p475 := eq_true p475
         replace q475 := eq_true q475
         have p476 : 0 ≤ (x13_1 : Int) := of_decide_eq_true (by first | (with_reducible assumption) | assumption)
         have q476 : x13_1 < (l1.length : Int) := of_decide_eq_true (by first | (with_reducible assumption) | assumption)
         obtain ⟨ad476, A476_0, c476_0, e476, hx476_0, hl476_0, hi476_0⟩ := at_L1 HR1.out x13_1 p476 q476
         cases e476
         have HR476_0 := Aside0.mk hi476_0
         have HC476_0 := Aside0.mk hl476_0
         (try clear hi476_0); (try clear hl476_0)
         replace p476 := eq_true p476
         replace q476 := eq_true q476
         go_wp2_with (first | (go_at_call 27; (with_reducible refine (semigroupref03_Same.calls k1 _ _ (rd_L1 l0 x13_1) _ _ (rd_L1 l1 x13_1) false _ ?side1 ?side2 ?side3 ?side4 A8.out).mono ?_); (case side1 => repeat (first | exact HR475_0.out | (with_reducible refine Kd.C_alloc ?_ _) | (with_reducible refine Kd.C_drewN ?_ _) | (with_reducible refine Kd.C_drew ?_))); (case side2 => exact HC475_0.out); (case side3 => repeat (first | exact HR476_0.out | (with_reducible refine Kd.C_alloc ?_ _) | (with_reducible refine Kd.C_drewN ?_ _) | (with_reducible refine Kd.C_drew ?_))); (case side4 => exact HC476_0.out); rintro e w' ⟨rfl, ⟨nd, rfl⟩⟩; (try first | exact ⟨rfl, _, World.drewN_drewN _ _ _⟩ | exact ⟨rfl, _, Eq.trans (World.drewN_drewN _ _ _) (congrArg (World.drewN _) (Nat.add_assoc _ _ _))⟩)))
         repeat (go_quiet (first | (go_at_call 27; (with_reducible refine (semigroupref03_Same.calls k1 _ _ (rd_L1 l0 x13_1) _ _ (rd_L1 l1 x13_1) false _ ?side1 ?side2 ?side3 ?side4 A8.out).mono ?_); (case side1 => repeat (first | exact HR475_0.out | (with_reducible refine Kd.C_alloc ?_ _) | (with_reducible refine Kd.C_drewN ?_ _) | (with_reducible refine Kd.C_drew ?_))); (case side2 => exact HC475_0.out); (case side3 => repeat (first | exact HR476_0.out | (with_reducible refine Kd.C_alloc ?_ _) | (with_reducible refine Kd.C_drewN ?_ _) | (with_reducible refine Kd.C_drew ?_))); (case side4 => exact HC476_0.out); rintro e w' ⟨rfl, ⟨nd, rfl⟩⟩; (try first | exact ⟨rfl, _, World.drewN_drewN _ _ _⟩ | exact ⟨rfl, _, Eq.trans (World.drewN_drewN _ _ _) (congrArg (World.drewN _) (Nat.add_assoc _ _ _))⟩))); try go_wp2_with (first | (go_at_call 27; (with_reducible refine (semigroupref03_Same.calls k1 _ _ (rd_L1 l0 x13_1) _ _ (rd_L1 l1 x13_1) false _ ?side1 ?side2 ?side3 ?side4 A8.out).mono ?_); (case side1 => repeat (first | exact HR475_0.out | (with_reducible refine Kd.C_alloc ?_ _) | (with_reducible refine Kd.C_drewN ?_ _) | (with_reducible refine Kd.C_drew ?_))); (case side2 => exact HC475_0.out); (case side3 => repeat (first | exact HR476_0.out | (with_reducible refine Kd.C_alloc ?_ _) | (with_reducible refine Kd.C_drewN ?_ _) | (with_reducible refine Kd.C_drew ?_))); (case side4 => exact HC476_0.out); rintro e w' ⟨rfl, ⟨nd, rfl⟩⟩; (try first | exact ⟨rfl, _, World.drewN_drewN _ _ _⟩ | exact ⟨rfl, _, Eq.trans (World.drewN_drewN _ _ _) (congrArg (World.drewN _) (Nat.add_assoc _ _ _))⟩))))
         go_ret
         exact ⟨by first | rfl | (simp; done) | (simp [*]; done), by repeat (first | exact Drawn0.refl _ | apply Drawn0.step)⟩
       ·rw [if_neg c7] at H
        exact absurd H (by simp)
      ·rw [if_neg c6] at H
       exact absurd H (by simp)
     ·rw [if_neg c5] at H
      exact absurd H (by simp)
    ·rw [if_neg c4] at H
     have c4b0 : decide (x13_1 < (l0.length : Int)) = false := decide_eq_false c4
     clear c4
     obtain rfl := Option.some.inj H
     go_wp2
     repeat (go_quiet (fail); try go_wp2)
     go_ret
     exact ⟨by first | rfl | (simp; done) | (simp [*]; done), by repeat (first | exact Drawn0.refl _ | apply Drawn0.step)⟩
 ·rw [if_neg c3] at H
  have c3b0 : ((l0.length : Int) == (l1.length : Int)) = false := beq_eq_false_iff_ne.mpr c3
  have c3b1 : ((l0.length : Int) != (l1.length : Int)) = true := bne_iff_ne.mpr c3
  have c3b2 : (l0.length == l1.length) = false := by first | simpa using c3 | (simp at c3 ⊢; omega)
  obtain rfl := Option.some.inj H
  go_enter Try.func47, Try.ntmps47
  go_wp2
  repeat (go_quiet (fail); try go_wp2)
  go_ret
  exact ⟨by first | rfl | (simp; done) | (simp [*]; done), by repeat (first | exact Drawn0.refl _ | apply Drawn0.step)⟩


end Go.Proofs.Ytlhckcldeojfmaa.PAll
