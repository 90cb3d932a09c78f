-- printed for this claim by printall.sh out of the translation; Lean checks it
import Derived.Test.YtlhckcldeojfmaaPAllx0
import Derived.Test.YtlhckcldeojfmaaPAllx1
namespace Go.Proofs.Ytlhckcldeojfmaa.PAll
open Go.RowKit Go.Proofs.YtlhckcldeojfmaaW.PrintWords Go.Proofs.YtlhckcldeojfmaaW.PrintLast Go.Proofs.YtlhckcldeojfmaaW.PrintMore
attribute [local go_sem] max2_int min2_int max_two min_two max_three min_three max_four min_four   -- for this text's walks alone
set_option linter.unusedVariables false
set_option linter.unusedSimpArgs false

/-! ### mult_Direct: function 37 -/
mutual
def mult_Direct.j0 : Nat → List (List Int) → List (List Int) → Bool → Option ((List (List Int)))
  | 0, _, _, _ => none
  | k + 1, x0, x1, x24 => if x24 = true then (some ([] : List (List Int))) else (if 0 ≤ (wrap64 ((x0.length : Int) * (x1.length : Int))) then (if (wrap64 ((x0.length : Int) * (x1.length : Int)) : Int).toNat ≤ 11728124029610 then ((some (List.replicate (wrap64 ((x0.length : Int) * (x1.length : Int)) : Int).toNat [] : List (List Int))).bind fun y318 => (mult_Direct.l0 k x0 x1 (x1.length : Int) y318 (y318.length : Int) 0)) else (none)) else (none))
def mult_Direct.l0 : Nat → List (List Int) → List (List Int) → Int → List (List Int) → Int → Int → Option ((List (List Int)))
  | 0, _, _, _, _, _, _ => none
  | k + 1, x0, x1, x5, x6, x33, x34 => if x34 < x33 then (if 0 ≤ (x6.length : Int) then (if ((x6.length : Int) : Int).toNat ≤ 35184372088832 then (if 0 ≤ x34 then (if x34 < (x6.length : Int) then (mult_Direct.l1 k x0 x1 x5 (x6.set (x34 : Int).toNat (List.replicate ((x6.length : Int) : Int).toNat 0)) x34 x33 x34 (x6.length : Int) 0) else (none)) else (none)) else (none)) else (none)) else (some x6)
def mult_Direct.l1 : Nat → List (List Int) → List (List Int) → Int → List (List Int) → Int → Int → Int → Int → Int → Option ((List (List Int)))
  | 0, _, _, _, _, _, _, _, _, _ => none
  | k + 1, x0, x1, x5, x6, x7, x33, x34, x44, x45 => if x45 < x44 then (if 0 ≤ x7 then (if x7 < (x6.length : Int) then (if x5 = 0 then (none) else (if 0 ≤ (wrap64 (Int.tdiv x7 x5)) then (if (wrap64 (Int.tdiv x7 x5)) < (x0.length : Int) then (if 0 ≤ (wrap64 (Int.tdiv x45 x5)) then (if (wrap64 (Int.tdiv x45 x5)) < ((rd_L1 x0 (wrap64 (Int.tdiv x7 x5))).length : Int) then (if 0 ≤ (Int.tmod x7 x5) then (if (Int.tmod x7 x5) < (x1.length : Int) then (if 0 ≤ (Int.tmod x45 x5) then (if (Int.tmod x45 x5) < ((rd_L1 x1 (Int.tmod x7 x5)).length : Int) then (if 0 ≤ x45 then (if x45 < ((rd_L1 x6 x7).length : Int) then (mult_Direct.l1 k x0 x1 x5 (x6.set (x7 : Int).toNat ((rd_L1 x6 x7).set (x45 : Int).toNat (wrap64 ((wrap64 ((rd (rd_L1 x0 (wrap64 (Int.tdiv x7 x5))) (wrap64 (Int.tdiv x45 x5))) * x5)) + (rd (rd_L1 x1 (Int.tmod x7 x5)) (Int.tmod x45 x5)))))) x7 x33 x34 x44 (wrap64 (x45 + 1))) else (none)) else (none)) else (none)) else (none)) else (none)) else (none)) else (none)) else (none)) else (none)) else (none))) else (none)) else (none)) else (mult_Direct.l0 k x0 x1 x5 x6 x33 (wrap64 (x34 + 1)))
end
def mult_Direct.f (k : Nat) (l0 : List (List Int)) (l1 : List (List Int)) : Option ((List (List Int))) := (mult_Validate.f k l0).bind fun t316 => (if t316 = 0 then ((mult_Validate.f k l1).bind fun t317 => (if t317 = 0 then (mult_Direct.j0 k l0 l1 (decide ((wrap64 ((l0.length : Int) * (l1.length : Int))) > 400))) else (mult_Direct.j0 k l0 l1 true))) else (mult_Direct.j0 k l0 l1 true))
theorem mult_Direct.mono_l : ∀ k, (∀ y0 y1 y2, LeO (mult_Direct.j0 k y0 y1 y2) (mult_Direct.j0 (k + 1) y0 y1 y2)) ∧ (∀ y0 y1 y2 y3 y4 y5, LeO (mult_Direct.l0 k y0 y1 y2 y3 y4 y5) (mult_Direct.l0 (k + 1) y0 y1 y2 y3 y4 y5)) ∧ (∀ y0 y1 y2 y3 y4 y5 y6 y7 y8, LeO (mult_Direct.l1 k y0 y1 y2 y3 y4 y5 y6 y7 y8) (mult_Direct.l1 (k + 1) y0 y1 y2 y3 y4 y5 y6 y7 y8))
  | 0 => ⟨fun _ _ _ r h => by simp [mult_Direct.j0] at h, fun _ _ _ _ _ _ r h => by simp [mult_Direct.l0] at h, fun _ _ _ _ _ _ _ _ _ r h => by simp [mult_Direct.l1] at h⟩
  | k + 1 => by
    obtain ⟨ih0, ih1, ih2⟩ := mult_Direct.mono_l k
    refine ⟨?_, ?_, ?_⟩
    · intro y0 y1 y2
      unfold mult_Direct.j0
      repeat' first
      | (with_reducible exact ih0 _ _ _)
      | (with_reducible exact ih1 _ _ _ _ _ _)
      | (with_reducible exact ih2 _ _ _ _ _ _ _ _ _)
      | (with_reducible exact mult_Validate.mono _ _)
      | (with_reducible exact LeO.refl _)
      | (with_reducible exact LeO.none _)
      | (with_reducible refine LeO.ite ?_ ?_)
      | (with_reducible refine LeO.bind ?_ (fun _ => ?_))
      | exact ih0 _ _ _
      | exact ih1 _ _ _ _ _ _
      | exact ih2 _ _ _ _ _ _ _ _ _
      | exact mult_Validate.mono _ _
      | exact LeO.none _
      | refine LeO.ite ?_ ?_
      | refine LeO.bind ?_ (fun _ => ?_)
    · intro y0 y1 y2 y3 y4 y5
      unfold mult_Direct.l0
      repeat' first
      | (with_reducible exact ih0 _ _ _)
      | (with_reducible exact ih1 _ _ _ _ _ _)
      | (with_reducible exact ih2 _ _ _ _ _ _ _ _ _)
      | (with_reducible exact mult_Validate.mono _ _)
      | (with_reducible exact LeO.refl _)
      | (with_reducible exact LeO.none _)
      | (with_reducible refine LeO.ite ?_ ?_)
      | (with_reducible refine LeO.bind ?_ (fun _ => ?_))
      | exact ih0 _ _ _
      | exact ih1 _ _ _ _ _ _
      | exact ih2 _ _ _ _ _ _ _ _ _
      | exact mult_Validate.mono _ _
      | exact LeO.none _
      | refine LeO.ite ?_ ?_
      | refine LeO.bind ?_ (fun _ => ?_)
    · intro y0 y1 y2 y3 y4 y5 y6 y7 y8
      unfold mult_Direct.l1
      repeat' first
      | (with_reducible exact ih0 _ _ _)
      | (with_reducible exact ih1 _ _ _ _ _ _)
      | (with_reducible exact ih2 _ _ _ _ _ _ _ _ _)
      | (with_reducible exact mult_Validate.mono _ _)
      | (with_reducible exact LeO.refl _)
      | (with_reducible exact LeO.none _)
      | (with_reducible refine LeO.ite ?_ ?_)
      | (with_reducible refine LeO.bind ?_ (fun _ => ?_))
      | exact ih0 _ _ _
      | exact ih1 _ _ _ _ _ _
      | exact ih2 _ _ _ _ _ _ _ _ _
      | exact mult_Validate.mono _ _
      | exact LeO.none _
      | refine LeO.ite ?_ ?_
      | refine LeO.bind ?_ (fun _ => ?_)
theorem mult_Direct.mono : ∀ a0 a1 k, LeO (mult_Direct.f k a0 a1) (mult_Direct.f (k + 1) a0 a1) := by
  intro a0 a1 k
  obtain ⟨ih0, ih1, ih2⟩ := mult_Direct.mono_l k
  unfold mult_Direct.f
  repeat' first
      | (with_reducible exact ih0 _ _ _)
      | (with_reducible exact ih1 _ _ _ _ _ _)
      | (with_reducible exact ih2 _ _ _ _ _ _ _ _ _)
      | (with_reducible exact mult_Validate.mono _ _)
      | (with_reducible exact LeO.refl _)
      | (with_reducible exact LeO.none _)
      | (with_reducible refine LeO.ite ?_ ?_)
      | (with_reducible refine LeO.bind ?_ (fun _ => ?_))
      | exact ih0 _ _ _
      | exact ih1 _ _ _ _ _ _
      | exact ih2 _ _ _ _ _ _ _ _ _
      | exact mult_Validate.mono _ _
      | exact LeO.none _
      | refine LeO.ite ?_ ?_
      | refine LeO.bind ?_ (fun _ => ?_)
def mult_Direct.T12 : Bool × List (List Nat × List Nat) := (true, [([], []), ([], []), ([0, 1], [0, 1]), ([2], [2]), ([], []), ([], []), ([], []), ([], []), ([6, 7], [6, 7]), ([5, 8], [5, 8]), ([9], [9]), ([], []), ([], []), ([11, 12], [11, 12]), ([10, 13], [10, 13]), ([14], [14]), ([], []), ([15, 16], [15, 16]), ([], []), ([], []), ([], []), ([19, 20], [19, 20]), ([18, 21], [18, 21]), ([22], [22]), ([], []), ([], []), ([24, 25], [24, 25]), ([23, 26], [23, 26]), ([27], [27]), ([17, 28], [17, 28]), ([3, 4, 0, 1, 2, 3, 4, 5, 6, 7, 8, 9, 10, 11, 12, 13, 14, 15, 16, 17, 18, 19, 20, 21, 22, 23, 24, 25, 26, 27, 28, 29], [3, 4]), ([30, 29, 0, 1, 2, 3, 4, 5, 6, 7, 8, 9, 10, 11, 12, 13, 14, 15, 16, 17, 18, 19, 20, 21, 22, 23, 24, 25, 26, 27, 28, 29], [29, 30])])
def mult_Direct.B12 : List Nat := [0, 0, 3, 7, 0, 0, 0, 0, 192, 480, 992, 0, 0, 6144, 16352, 32736, 0, 131040, 0, 0, 0, 1572864, 3932160, 8126464, 0, 0, 50331648, 133955584, 268173312, 536870880, 1073741823, 2147483647]
theorem mult_Direct.tab12 : rtab .any (opsOf Try.f37 12) = mult_Direct.T12 := by kernel_rfl
theorem mult_Direct.bits12 : waitsOk mult_Direct.T12.2 mult_Direct.B12 = true := by kernel_rfl
set_option maxHeartbeats 8000000 in
set_option maxRecDepth 100000 in
theorem mult_Direct.calls (k : Nat) (A0 : Option Addr) (c0 : Nat) (l0 : List (List Int)) (A1 : Option Addr) (c1 : Nat) (l1 : List (List Int)) (r : List (List Int)) (w : World) (hr0 : Kd.C (Kd.slice 3 (Kd.int .i64)) w A0 l0.length l0) (hc0 : l0.length ≤ c0) (hr1 : Kd.C (Kd.slice 3 (Kd.int .i64)) w A1 l1.length l1) (hc1 : l1.length ≤ c1) (h : mult_Direct.f k l0 l1 = some r) :
    Calls Try.prog 37 #[.slice A0 l0.length c0, .slice A1 l1.length c1] w fun e w' => ∃ v0_ : Value, e = .returned (v0_) ∧ Kd.S (Kd.slice 3 (Kd.int .i64)) 30 w' w.heap.size (fun _ => True) v0_ r ∧ Below w.heap.size w w' := by
  have HR0 := Aside0.mk hr0
  have HC0 := Aside0.mk hc0
  (try clear hr0); (try clear hc0)
  have HR1 := Aside0.mk hr1
  have HC1 := Aside0.mk hc1
  (try clear hr1); (try clear hc1)
  have HB := Aside0.mk (Below.refl w.heap.size w)
  have H : ((mult_Validate.f k l0).bind fun t316 => (if t316 = 0 then ((mult_Validate.f k l1).bind fun t317 => (if t317 = 0 then (mult_Direct.j0 k l0 l1 (decide ((wrap64 ((l0.length : Int) * (l1.length : Int))) > 400))) else (mult_Direct.j0 k l0 l1 true))) else (mult_Direct.j0 k l0 l1 true))) = some r := h
  clear h
  have HC3 := Aside0.mk H
  clear H
  go_enter Try.func37, Try.ntmps37
  go_upto_region 1 with (fail)
  go_cut [24] (fun v24 wc => ∃ (kq : Nat) (x24_2 : Bool), v24 = .bool x24_2 ∧ Aside0 (mult_Direct.j0 kq l0 l1 x24_2 = some r) ∧ Aside0 (kq ≤ k) ∧ Aside0 (Below w.heap.size w wc))
  case first =>
    have H := HC3.out
    clear HC3
    replace H := Option.bind_eq_some_iff.mp H
    obtain ⟨t316, A40, H⟩ := H
    replace H : (if t316 = 0 then ((mult_Validate.f k l1).bind fun t317 => (if t317 = 0 then (mult_Direct.j0 k l0 l1 (decide ((wrap64 ((l0.length : Int) * (l1.length : Int))) > 400))) else (mult_Direct.j0 k l0 l1 true))) else (mult_Direct.j0 k l0 l1 true)) = some r := H
    have A4 := Aside0.mk A40
    clear A40
    by_cases c5 : t316 = 0
    · rw [if_pos c5] at H
      have c5b0 : (t316 == 0) = true := beq_iff_eq.mpr c5
      have c5b1 : (t316 != 0) = false := bne_eq_false_iff_eq.mpr c5
      clear c5
      (first | rw [c5b0] | (simp only [i64_w, i32_w]; rw [c5b0]) | skip)
      replace H := Option.bind_eq_some_iff.mp H
      obtain ⟨t317, A60, H⟩ := H
      replace H : (if t317 = 0 then (mult_Direct.j0 k l0 l1 (decide ((wrap64 ((l0.length : Int) * (l1.length : Int))) > 400))) else (mult_Direct.j0 k l0 l1 true)) = some r := H
      have A6 := Aside0.mk A60
      clear A60
      by_cases c7 : t317 = 0
      · rw [if_pos c7] at H
        have c7b0 : (t317 == 0) = true := beq_iff_eq.mpr c7
        have c7b1 : (t317 != 0) = false := bne_eq_false_iff_eq.mpr c7
        clear c7
        have H' := Aside0.mk H
        clear H
        go_wp2_with (first | ((with_reducible refine gate_callee (f := 19) rfl ?_); refine goesL_ (some 10) rfl rfl Try.func19 (by kernel_rfl) rfl #[.slice A0 l0.length c0] rfl (by (try simp only [List.map_toArray, List.map_cons, List.map_nil]); first | done | rfl | (simp only [List.length_drop, List.length_take]; rfl)) ?_; (with_reducible refine (mult_Validate.calls k _ _ l0 t316 _ ?side1 ?side2 A4.out).mono ?_); (case side1 => repeat (first | exact (Kd.C_below HR0.out HB.out) | (with_reducible refine Kd.C_alloc ?_ _) | (with_reducible refine Kd.C_drewN ?_ _) | (with_reducible refine Kd.C_drew ?_))); (case side2 => exact HC0.out); rintro e w' ⟨rfl, ⟨nd, rfl⟩⟩; refine ⟨_, rfl, ?_⟩) | (go_at_call 19; (with_reducible refine (mult_Validate.calls k _ _ l1 t317 _ ?side1 ?side2 A6.out).mono ?_); (case side1 => repeat (first | exact (Kd.C_below HR1.out (by repeat (first | (with_reducible first | exact HB.out | apply below_alloc | apply pw_below_drewN | apply below_drew1) | exact HB.out))) | (with_reducible refine Kd.C_alloc ?_ _) | (with_reducible refine Kd.C_drewN ?_ _) | (with_reducible refine Kd.C_drew ?_))); (case side2 => exact HC1.out); rintro e w' ⟨rfl, ⟨nd, rfl⟩⟩))
        go_meet
        case rel => exact ⟨_, (decide ((wrap64 ((l0.length : Int) * (l1.length : Int))) > 400)), (by first | rfl | (simp; done) | (simp [*]; done)), H', ⟨by first | omega | exact Nat.le_refl _⟩, ⟨by repeat (first | (with_reducible first | exact HB.out | apply below_alloc | apply pw_below_drewN | apply below_drew1) | exact HB.out)⟩⟩
      · rw [if_neg c7] at H
        have c7b0 : (t317 == 0) = false := beq_eq_false_iff_ne.mpr c7
        have c7b1 : (t317 != 0) = true := bne_iff_ne.mpr c7
        have H' := Aside0.mk H
        clear H
        go_wp2_with (first | ((with_reducible refine gate_callee (f := 19) rfl ?_); refine goesL_ (some 10) rfl rfl Try.func19 (by kernel_rfl) rfl #[.slice A0 l0.length c0] rfl (by (try simp only [List.map_toArray, List.map_cons, List.map_nil]); first | done | rfl | (simp only [List.length_drop, List.length_take]; rfl)) ?_; (with_reducible refine (mult_Validate.calls k _ _ l0 t316 _ ?side1 ?side2 A4.out).mono ?_); (case side1 => repeat (first | exact (Kd.C_below HR0.out HB.out) | (with_reducible refine Kd.C_alloc ?_ _) | (with_reducible refine Kd.C_drewN ?_ _) | (with_reducible refine Kd.C_drew ?_))); (case side2 => exact HC0.out); rintro e w' ⟨rfl, ⟨nd, rfl⟩⟩; refine ⟨_, rfl, ?_⟩) | (go_at_call 19; (with_reducible refine (mult_Validate.calls k _ _ l1 t317 _ ?side1 ?side2 A6.out).mono ?_); (case side1 => repeat (first | exact (Kd.C_below HR1.out (by repeat (first | (with_reducible first | exact HB.out | apply below_alloc | apply pw_below_drewN | apply below_drew1) | exact HB.out))) | (with_reducible refine Kd.C_alloc ?_ _) | (with_reducible refine Kd.C_drewN ?_ _) | (with_reducible refine Kd.C_drew ?_))); (case side2 => exact HC1.out); rintro e w' ⟨rfl, ⟨nd, rfl⟩⟩))
        go_meet
        case rel => exact ⟨_, (true), (by first | rfl | (simp; done) | (simp [*]; done)), H', ⟨by first | omega | exact Nat.le_refl _⟩, ⟨by repeat (first | (with_reducible first | exact HB.out | apply below_alloc | apply pw_below_drewN | apply below_drew1) | exact HB.out)⟩⟩
    · rw [if_neg c5] at H
      have c5b0 : (t316 == 0) = false := beq_eq_false_iff_ne.mpr c5
      have c5b1 : (t316 != 0) = true := bne_iff_ne.mpr c5
      (first | rw [c5b0] | (simp only [i64_w, i32_w]; rw [c5b0]) | skip)
      have H' := Aside0.mk H
      clear H
      go_wp2_with (first | ((with_reducible refine gate_callee (f := 19) rfl ?_); refine goesL_ (some 10) rfl rfl Try.func19 (by kernel_rfl) rfl #[.slice A0 l0.length c0] rfl (by (try simp only [List.map_toArray, List.map_cons, List.map_nil]); first | done | rfl | (simp only [List.length_drop, List.length_take]; rfl)) ?_; (with_reducible refine (mult_Validate.calls k _ _ l0 t316 _ ?side1 ?side2 A4.out).mono ?_); (case side1 => repeat (first | exact (Kd.C_below HR0.out HB.out) | (with_reducible refine Kd.C_alloc ?_ _) | (with_reducible refine Kd.C_drewN ?_ _) | (with_reducible refine Kd.C_drew ?_))); (case side2 => exact HC0.out); rintro e w' ⟨rfl, ⟨nd, rfl⟩⟩; refine ⟨_, rfl, ?_⟩))
      go_meet
      case rel => exact ⟨_, (true), (by first | rfl | (simp; done) | (simp [*]; done)), H', ⟨by first | omega | exact Nat.le_refl _⟩, ⟨by repeat (first | (with_reducible first | exact HB.out | apply below_alloc | apply pw_below_drewN | apply below_drew1) | exact HB.out)⟩⟩
  case rest =>
    clear HC3
    try clear c1
    try clear p2
    try clear c3
    try clear c5
    try clear c5b0
    try clear c5b1
    try clear p6
    try clear c7
    try clear c7b0
    try clear c7b1
    obtain ⟨kq, x24_2, rfl, HA, HJ2, HB⟩ := hcut
    cases kq with
    | zero => exact absurd HA.out (by simp [mult_Direct.j0])
    | succ kj2 =>
      have H := HA.out
      clear HA
      simp only [mult_Direct.j0] at H
      by_cases c8 : x24_2 = true
      · subst c8
        have H1 : (some ([] : List (List Int))) = some r := by rw [if_pos rfl] at H; exact H
        clear H
        have H := H1
        clear H1
        obtain rfl := Option.some.inj H
        go_wp2
        go_ret
        exact ⟨_, by first | rfl | (simp [errW_none, errW_some] <;> rfl) | (simp [*, errW_none, errW_some] <;> rfl), by first | exact Kd.S_nil _ _ _ _ _ | exact Kd.N_nil _ _ _ _ _ | exact Kd.V_nil _ _ _ _ _ | exact Kd.Q_nil _ _ _ _ _ | exact Kd.R_nil _ _ _ _ _, by repeat (first | (with_reducible first | exact HB.out | apply below_alloc | apply pw_below_drewN | apply below_drew1) | exact HB.out)⟩
      · replace c8 := Bool.eq_false_iff.mpr c8
        subst c8
        have H1 : (if 0 ≤ (wrap64 ((l0.length : Int) * (l1.length : Int))) then (if (wrap64 ((l0.length : Int) * (l1.length : Int)) : Int).toNat ≤ 11728124029610 then ((some (List.replicate (wrap64 ((l0.length : Int) * (l1.length : Int)) : Int).toNat [] : List (List Int))).bind fun y318 => (mult_Direct.l0 kj2 l0 l1 (l1.length : Int) y318 (y318.length : Int) 0)) else (none)) else (none)) = some r := by rw [if_neg (show ¬ (false = true) by decide)] at H; exact H
        clear H
        have H := H1
        clear H1
        obtain ⟨ji9, hji9⟩ : ∃ j_ : Int, (wrap64 ((l0.length : Int) * (l1.length : Int))) = j_ := ⟨_, rfl⟩
        replace H : (if 0 ≤ (ji9) then (if (ji9 : Int).toNat ≤ 11728124029610 then ((some (List.replicate (ji9 : Int).toNat [] : List (List Int))).bind fun y318 => (mult_Direct.l0 kj2 l0 l1 (l1.length : Int) y318 (y318.length : Int) 0)) else (none)) else (none)) = some r := by first | (rw [hji9] at H; exact H) | (simp only [hji9] at H ⊢; exact H)
        have hji9w : (IntKind.i64.wrap ((l0.length : Int) * (l1.length : Int))) = ji9 := (i64_w _).trans hji9
        by_cases c10 : 0 ≤ (ji9)
        · rw [if_pos c10] at H
          have c10b0 := eq_true c10
          have c10b1 : decide (0 ≤ (ji9)) = true := decide_eq_true c10
          clear c10
          by_cases c11 : (ji9 : Int).toNat ≤ 11728124029610
          · rw [if_pos c11] at H
            have c11b0 := eq_true c11
            have c11b1 : decide ((ji9 : Int).toNat ≤ 11728124029610) = true := decide_eq_true c11
            clear c11
            obtain ⟨y318, hy318⟩ : ∃ y_ : List (List Int), y_ = (List.replicate (ji9 : Int).toNat []) := ⟨_, rfl⟩
            replace H : (mult_Direct.l0 kj2 l0 l1 (l1.length : Int) y318 (y318.length : Int) 0) = some r := by first | (rw [hy318]; with_reducible exact H) | (have H2_ := (Option.bind_some _ _).symm.trans H; rw [hy318]; with_reducible exact H2_) | (have H2_ := (Option.bind_some _ _).symm.trans H; with_reducible exact H2_) | with_reducible exact H | (rw [hy318]; exact H) | exact H
            have Ny318 := Aside0.mk hy318
            clear hy318
            have H' := Aside0.mk H
            clear H
            go_wp2_with (first | ((with_reducible refine gate_dst (N := 31) rfl ?_); (try (refine gate_guard (by rfl) ?_; dsimp only)); refine Kd.S_make (Kd.slice 3 (Kd.int .i64)) _ 30 rfl (N := 31) rfl 22 _ _ rfl ji9 rfl rfl Try.underlying22 (.slice none 0 0) 24 info30 rfl (by decide) (by omega) [] (ok := fun _ => True) (okp := fun _ => True) ⟨_, rfl, Kd.R_nil _ _ _ _ _⟩ (fun _ hk => hk) trivial (of_decide_eq_true (by first | (with_reducible assumption) | assumption)) (Nat.le_trans (Nat.mul_le_mul_right _ (of_decide_eq_true (by first | (with_reducible assumption) | assumption) : ji9.toNat ≤ 11728124029610)) (by omega)) (Below.refl _ _) (Nat.le_refl _) ?_; intro v319 w12 ho13 hb hg_ hnew_; (try clear hg_); (try clear hnew_); (first | rw [← Ny318.out] at ho13 | (simp only [Int.reduceToNat] at ho13; rw [← Ny318.out] at ho13)); have n0_ := Aside0.mk (Kd.S_lower ho13 (below_size (by repeat (first | (with_reducible first | exact HB.out | apply below_alloc | apply pw_below_drewN | apply below_drew1) | exact HB.out)))); have n1_ := Aside0.mk (below_step (by repeat (first | (with_reducible first | exact HB.out | apply below_alloc | apply pw_below_drewN | apply below_drew1) | exact HB.out)) hb); clear HB; have HO320 := n0_; have HB := n1_; clear n0_ n1_; (try clear hb); (try clear ho13); obtain ⟨Ao14, co14, eo14⟩ := Kd.S_slice HO320.out; subst eo14))
            go_loopg [34] kj2 (fun kq v34 w' => ∃ (x6_2 : List (List Int)) (x34_2 : Int), v34 = .int .i64 x34_2 ∧ Aside0 (mult_Direct.l0 kq l0 l1 (l1.length : Int) x6_2 (y318.length : Int) x34_2 = some r) ∧ Aside0 (kq ≤ kj2) ∧ Aside0 (Kd.S (Kd.slice 3 (Kd.int .i64)) 30 w' w.heap.size (fun _ => True) (.slice Ao14 y318.length co14) x6_2) ∧ Aside0 (Below w.heap.size w w'))
            case atStart => exact ⟨(y318), (0), (by first | rfl | (simp; done) | (simp [*]; done)), H', ⟨Nat.le_refl _⟩, ⟨by (with_reducible repeat (first | apply Kd.S_alloc | apply Kd.S_drewN | apply Kd.S_drew)); exact HO320.out⟩, ⟨by repeat (first | (with_reducible first | exact HB.out | apply below_alloc | apply pw_below_drewN | apply below_drew1) | exact HB.out)⟩⟩
            case round =>
              (try clear hji9); (try clear hji9w)
              clear H'
              try clear c1
              try clear p2
              try clear c3
              try clear c5
              try clear c5b0
              try clear c5b1
              try clear p6
              try clear c7
              try clear c7b0
              try clear c7b1
              try clear c8
              try clear c10
              try clear c10b0
              try clear c10b1
              try clear c11
              try clear c11b0
              try clear c11b1
              try clear p2
              try clear p6
              obtain ⟨x6_2, x34_2, rfl, HA, HK2, HO_6, HB⟩ := hrel
              have hl6_2 := (Kd.S_reads' HO_6.out).1
              rw [hl6_2] at HO_6
              (try simp only [hl6_2])
              cases gk with
              | zero => exact absurd HA.out (by simp [mult_Direct.l0])
              | succ k2 =>
                have H := HA.out
                clear HA
                simp only [mult_Direct.l0] at H
                by_cases c15 : x34_2 < (y318.length : Int)
                · rw [if_pos c15] at H
                  have c15b0 : decide (x34_2 < (y318.length : Int)) = true := decide_eq_true c15
                  (try (have c15b0z := c15b0; simp only [hl6_2] at c15b0z))
                  clear c15
                  by_cases c16 : 0 ≤ (x6_2.length : Int)
                  · rw [if_pos c16] at H
                    have c16b0 := eq_true c16
                    have c16b1 : decide (0 ≤ (x6_2.length : Int)) = true := decide_eq_true c16
                    (try (have c16b1z := c16b1; simp only [hl6_2] at c16b1z))
                    clear c16
                    by_cases c17 : ((x6_2.length : Int) : Int).toNat ≤ 35184372088832
                    · rw [if_pos c17] at H
                      have c17b0 := eq_true c17
                      have c17b1 : decide (((x6_2.length : Int) : Int).toNat ≤ 35184372088832) = true := decide_eq_true c17
                      (try (have c17b1z := c17b1; simp only [hl6_2] at c17b1z))
                      clear c17
                      obtain ⟨y321, hy321⟩ : ∃ y_ : List Int, y_ = (List.replicate ((x6_2.length : Int) : Int).toNat 0) := ⟨_, rfl⟩
                      replace H : (if 0 ≤ x34_2 then (if x34_2 < (x6_2.length : Int) then (mult_Direct.l1 k2 l0 l1 (l1.length : Int) (x6_2.set (x34_2 : Int).toNat y321) x34_2 (y318.length : Int) x34_2 (x6_2.length : Int) 0) else (none)) else (none)) = some r := by first | (rw [hy321]; with_reducible exact H) | (have H2_ := (Option.bind_some _ _).symm.trans H; rw [hy321]; with_reducible exact H2_) | (have H2_ := (Option.bind_some _ _).symm.trans H; with_reducible exact H2_) | with_reducible exact H | (rw [hy321]; exact H) | exact H
                      have Ny321 := Aside0.mk hy321
                      clear hy321
                      by_cases c18 : 0 ≤ x34_2
                      · rw [if_pos c18] at H
                        have c18b0 : decide (0 ≤ x34_2) = true := decide_eq_true c18
                        clear c18
                        by_cases c19 : x34_2 < (x6_2.length : Int)
                        · rw [if_pos c19] at H
                          have c19b0 : decide (x34_2 < (x6_2.length : Int)) = true := decide_eq_true c19
                          (try (have c19b0z := c19b0; simp only [hl6_2] at c19b0z))
                          clear c19
                          obtain ⟨y324, hy324⟩ : ∃ y_ : List (List Int), y_ = (x6_2.set (x34_2 : Int).toNat y321) := ⟨_, rfl⟩
                          replace H : (mult_Direct.l1 k2 l0 l1 (l1.length : Int) y324 x34_2 (y318.length : Int) x34_2 (x6_2.length : Int) 0) = some r := by first | (rw [hy324]; with_reducible exact H) | (have H2_ := (Option.bind_some _ _).symm.trans H; rw [hy324]; with_reducible exact H2_) | (have H2_ := (Option.bind_some _ _).symm.trans H; with_reducible exact H2_) | with_reducible exact H | (rw [hy324]; exact H) | exact H
                          have Ny324 := Aside0.mk hy324
                          clear hy324
                          have H' := Aside0.mk H
                          clear H
                          go_wp2_with (first | ((with_reducible refine gate_dst (N := 41) rfl ?_); (try (refine gate_guard (by rfl) ?_; dsimp only)); refine Kd.R_make (Kd.int .i64) _ 3 rfl (N := 41) rfl 30 _ _ rfl (x6_2.length : Int) rfl rfl Try.underlying30 (.int .i64 0) 8 info3 rfl (by decide) (by omega) 0 (ok := fun _ => True) (okp := fun _ => True) rfl (fun _ hk => hk) trivial (of_decide_eq_true (by first | (with_reducible assumption) | assumption)) (Nat.le_trans (Nat.mul_le_mul_right _ (of_decide_eq_true (by first | (with_reducible assumption) | assumption) : (x6_2.length : Int).toNat ≤ 35184372088832)) (by omega)) (Below.refl _ _) (Nat.le_refl _) ?_; intro v322 w21 ho22 hb hg_ hnew_; (try clear hg_); (try clear hnew_); (first | rw [← Ny321.out] at ho22 | (simp only [Int.reduceToNat] at ho22; rw [← Ny321.out] at ho22)); have n0_ := Aside0.mk (Kd.S_elder' (by (with_reducible repeat (first | apply Kd.S_alloc | apply Kd.S_drewN | apply Kd.S_drew)); exact HO_6.out) (Kd.R_base ho22) hb); have n1_ := Aside0.mk (Kd.R_lower ho22 (below_size (by repeat (first | (with_reducible first | exact HB.out | apply below_alloc | apply pw_below_drewN | apply below_drew1) | exact HB.out)))); have n2_ := Aside0.mk (below_step (by repeat (first | (with_reducible first | exact HB.out | apply below_alloc | apply pw_below_drewN | apply below_drew1) | exact HB.out)) hb); clear HO_6; clear HB; have HO_6 := n0_; have HO323 := n1_; have HB := n2_; clear n0_ n1_ n2_; (try clear hb); (try clear ho22); have p20 : 0 ≤ (x34_2 : Int) := of_decide_eq_true (by first | (with_reducible assumption) | assumption); have q20 : (x34_2 : Int) < ((x6_2.length : Int) : Int) := of_decide_eq_true (by first | (with_reducible assumption) | assumption); obtain ⟨go20, co20, eo20, gb20, gl20, cl20, HG20⟩ := Kd.S_form HO_6.out (by omega); (first | cases eo20 | (injection eo20 with ea_ en_ ec_; (first | subst ea_ | (injection ea_ with ea_; subst ea_)); subst ec_; clear en_)); have GB20 := Aside0.mk gb20; have GG20 := Aside0.mk HG20; (try clear gb20); (try clear gl20); (try clear HG20); obtain ⟨_, ce20, hcl20, hM20, hcc20, hfr20, _, _⟩ := Kd.S_elem HO_6.out [] (x34_2 : Int) p20 q20; obtain ⟨ve20_0, rfl, ge20_0⟩ := hM20; have hx20_0 := hcc20 0 _ rfl; have hf20_0 := hfr20 0; (try simp only [show ((Kd.slice 3 (Kd.int .i64))).sz = 1 from rfl, Nat.mul_one, Nat.add_zero] at hx20_0); (try simp only [show ((Kd.slice 3 (Kd.int .i64))).sz = 1 from rfl, Nat.mul_one, Nat.add_zero] at hf20_0); (try clear hcl20); (try clear hcc20); (try clear hfr20); (try clear hM20); replace p20 := eq_true p20; replace q20 := eq_true q20; have n_ := Aside0.mk (Kd.S_mono (ok' := (fun k_ => some k_ ≠ (v322 : Value).ownBlock)) HO_6.out (fun k_ hk => hk.2)); clear HO_6; have HO_6 := n_; clear n_; have HX23 := Aside0.mk (show Kd.S (Kd.slice 3 (Kd.int .i64)) 30 w21 w.heap.size (fun k_ => ((fun _ => True)) k_ ∧ ¬ ((fun k_ => some k_ = (v322 : Value).ownBlock)) k_) (.slice (some ⟨go20, 0, none⟩) x6_2.length co14) x6_2 from (by (with_reducible repeat (first | apply Kd.S_alloc | apply Kd.S_drewN | apply Kd.S_drew)); exact Kd.S_mono HO_6.out (fun k_ hk => ⟨trivial, fun e_ => hk e_⟩))); obtain ⟨oki23, ce23, hcl23, hM23, hcc23, hfr23, hoki23, hH23⟩ := Kd.S_elem HX23.out [] (x34_2 : Int) (of_decide_eq_true (by first | (with_reducible assumption) | assumption)) (by have h_ : (x34_2 : Int) < ((x6_2.length : Int) : Int) := of_decide_eq_true (by first | (with_reducible assumption) | assumption); first | exact h_ | (have e_ := (Kd.S_reads' HO_6.out).1; omega) | simpa using h_); obtain ⟨ve23_0, rfl, ge23_0⟩ := hM23; have HP23 := Kd.S_seg hH23 (of_decide_eq_true (by first | (with_reducible assumption) | assumption)) (by have h_ : (x34_2 : Int) < ((x6_2.length : Int) : Int) := of_decide_eq_true (by first | (with_reducible assumption) | assumption); first | exact h_ | (have e_ := (Kd.S_reads' HO_6.out).1; omega) | simpa using h_) (seg := [v322]) (j := 0) (show 1 ≤ 1 from by decide) (x' := y321) (Kd.M_row (Kd.R_mono (Kd.R_tight rfl (Kd.R_mono (ok' := fun k_ => ((fun _ => True)) k_ ∧ k_ ≠ go20) (Kd.R_apart' (HO323.out) (Kd.S_typed HO_6.out) (by decide)) (fun k_ hk => ⟨trivial, fun e_ => (hk.2) (by rw [e_]; rfl)⟩))) (fun _ h_ => Or.inr (h_)))) (fun _ hk => hk) (fun k_ hk_ => ((Kd.R_mono (ok' := fun k_ => ((fun _ => True)) k_ ∧ k_ ≠ go20) (Kd.R_apart' (HO323.out) (Kd.S_typed HO_6.out) (by decide)) (fun k_ hk => ⟨trivial, fun e_ => (hk.2) (by rw [e_]; rfl)⟩))).1 k_ hk_.symm); have hx23_0 := hcc23 0 _ rfl; (try simp only [show ((Kd.slice 3 (Kd.int .i64))).sz = 1 from rfl, Nat.mul_one, Nat.add_zero] at hx23_0); have hf23_0 := hfr23 0; (try simp only [show ((Kd.slice 3 (Kd.int .i64))).sz = 1 from rfl, Nat.mul_one, Nat.add_zero] at hf23_0); (try clear hcl23); (try clear hcc23); (try clear hfr23); (try clear hM23); (try clear hoki23); (try clear hH23); (try simp only [show ((Kd.slice 3 (Kd.int .i64))).sz = 1 from rfl, Nat.mul_one, Nat.add_zero] at HP23)) | ((with_reducible refine gate_store (t := 30) (p := 42) rfl ?_); refine store_event (t := 30) (p := 42) (v := ?vo_w24) (w1 := (w21.setCell ⟨go20, (x34_2 : Int).toNat, none⟩ (v322))) ?hg ?ho ?hn ?hr ?_; (case ho => rfl); (case hg => rfl); (case hn => rfl); (case hr => first | (go_simp; done) | (go_simp; rfl) | (obtain ⟨A_, c_, e_⟩ := Kd.R_slice HO323.out; subst e_; first | (go_simp; done) | (go_simp; rfl)) | (obtain ⟨A_, c_, e_⟩ := Kd.S_slice HO323.out; subst e_; first | (go_simp; done) | (go_simp; rfl)) | (obtain ⟨A_, c_, e_⟩ := Kd.N_slice HO323.out; subst e_; first | (go_simp; done) | (go_simp; rfl))); intro w24 hw; have hg : w21.grownBy w24 (some go20) := (by rw [hw]; exact HP23.2); have hp_ : Kd.S (Kd.slice 3 (Kd.int .i64)) 30 w24 w.heap.size (fun _ => True) (.slice (some ⟨go20, 0, none⟩) x6_2.length co14) y324 := (by rw [hw, Ny324.out]; exact HP23.1); clear HP23; have n0_ := Aside0.mk (hp_); have n1_ := Aside0.mk ((by rw [hw]; exact below_set (HB.out) GB20.out : Below w.heap.size w w24)); clear HO_6; clear HB; clear HO323; have HO_6 := n0_; have HB := n1_; clear n0_ n1_; (try clear hg); (try clear hw); (try clear hp_)))
                          go_loopg [45] k2 (fun kq v45 w' => ∃ (x6_3 : List (List Int)) (x45_3 : Int), v45 = .int .i64 x45_3 ∧ Aside0 (mult_Direct.l1 kq l0 l1 (l1.length : Int) x6_3 x34_2 (y318.length : Int) x34_2 (x6_2.length : Int) x45_3 = some r) ∧ Aside0 (kq ≤ k2) ∧ Aside0 (Kd.S (Kd.slice 3 (Kd.int .i64)) 30 w' w.heap.size (fun _ => True) (.slice (some ⟨go20, 0, none⟩) x6_2.length co14) x6_3) ∧ Aside0 (Below w.heap.size w w'))
                          case atStart => exact ⟨(y324), (0), (by first | rfl | (simp; done) | (simp [*]; done)), H', ⟨Nat.le_refl _⟩, ⟨by (try simp only [hl6_2]); (with_reducible repeat (first | apply Kd.S_alloc | apply Kd.S_drewN | apply Kd.S_drew)); exact HO_6.out⟩, ⟨by repeat (first | (with_reducible first | exact HB.out | apply below_alloc | apply pw_below_drewN | apply below_drew1) | exact HB.out)⟩⟩
                          case round =>
                            clear H'
                            try clear c1
                            try clear c2
                            try clear p2
                            try clear q2
                            try clear hx2
                            try clear hf2
                            try clear c3
                            try clear c5
                            try clear c5b0
                            try clear c5b1
                            try clear p6
                            try clear c7
                            try clear c7b0
                            try clear c7b1
                            try clear c8
                            try clear c10
                            try clear c10b0
                            try clear c10b1
                            try clear c11
                            try clear c11b0
                            try clear c11b1
                            try clear c15
                            try clear c15b0
                            try clear c16
                            try clear c16b0
                            try clear c16b1
                            try clear c17
                            try clear c17b0
                            try clear c17b1
                            try clear c18
                            try clear c18b0
                            try clear c19
                            try clear c19b0
                            try clear c20
                            try clear p20
                            try clear q20
                            try clear hx20
                            try clear hf20
                            try clear c23
                            try clear hx23
                            try clear hf23
                            try clear hx20_0
                            try clear hx23_0
                            try clear p2
                            try clear p20
                            try clear p6
                            try clear q20
                            obtain ⟨x6_3, x45_3, rfl, HA, HK3, HO_6, HB⟩ := hrel
                            have hl6_3 := (Kd.S_reads' HO_6.out).1
                            rw [hl6_3] at HO_6
                            (try simp only [hl6_3])
                            cases gk with
                            | zero => exact absurd HA.out (by simp [mult_Direct.l1])
                            | succ k3 =>
                              have H := HA.out
                              clear HA
                              simp only [mult_Direct.l1] at H
                              by_cases c25 : x45_3 < (x6_2.length : Int)
                              · rw [if_pos c25] at H
                                have c25b0 : decide (x45_3 < (x6_2.length : Int)) = true := decide_eq_true c25
                                (try (have c25b0z := c25b0; simp only [hl6_2, hl6_3] at c25b0z))
                                clear c25
                                by_cases c26 : 0 ≤ x34_2
                                · rw [if_pos c26] at H
                                  have c26b0 : decide (0 ≤ x34_2) = true := decide_eq_true c26
                                  clear c26
                                  by_cases c27 : x34_2 < (x6_3.length : Int)
                                  · rw [if_pos c27] at H
                                    have c27b0 : decide (x34_2 < (x6_3.length : Int)) = true := decide_eq_true c27
                                    (try (have c27b0z := c27b0; simp only [hl6_2, hl6_3] at c27b0z))
                                    clear c27
                                    by_cases c28 : (l1.length : Int) = 0
                                    · rw [if_pos c28] at H
                                      exact absurd H (by simp)
                                    · rw [if_neg c28] at H
                                      have c28b0 : ((l1.length : Int) == 0) = false := beq_eq_false_iff_ne.mpr c28
                                      have c28b1 : ((l1.length : Int) != 0) = true := bne_iff_ne.mpr c28
                                      have c28b2 : ¬ (l1 = []) := fun h_ => c28 (by rw [h_]; rfl)
                                      obtain ⟨ji29, hji29⟩ : ∃ j_ : Int, (wrap64 (Int.tdiv x34_2 (l1.length : Int))) = j_ := ⟨_, rfl⟩
                                      replace H : (if 0 ≤ (ji29) then (if (ji29) < (l0.length : Int) then (if 0 ≤ (wrap64 (Int.tdiv x45_3 (l1.length : Int))) then (if (wrap64 (Int.tdiv x45_3 (l1.length : Int))) < ((rd_L1 l0 (ji29)).length : Int) then (if 0 ≤ (Int.tmod x34_2 (l1.length : Int)) then (if (Int.tmod x34_2 (l1.length : Int)) < (l1.length : Int) then (if 0 ≤ (Int.tmod x45_3 (l1.length : Int)) then (if (Int.tmod x45_3 (l1.length : Int)) < ((rd_L1 l1 (Int.tmod x34_2 (l1.length : Int))).length : Int) then (if 0 ≤ x45_3 then (if x45_3 < ((rd_L1 x6_3 x34_2).length : Int) then (mult_Direct.l1 k3 l0 l1 (l1.length : Int) (x6_3.set (x34_2 : Int).toNat ((rd_L1 x6_3 x34_2).set (x45_3 : Int).toNat (wrap64 ((wrap64 ((rd (rd_L1 l0 (ji29)) (wrap64 (Int.tdiv x45_3 (l1.length : Int)))) * (l1.length : Int))) + (rd (rd_L1 l1 (Int.tmod x34_2 (l1.length : Int))) (Int.tmod x45_3 (l1.length : Int))))))) x34_2 (y318.length : Int) x34_2 (x6_2.length : Int) (wrap64 (x45_3 + 1))) else (none)) else (none)) else (none)) else (none)) else (none)) else (none)) else (none)) else (none)) else (none)) else (none)) = some r := by first | (rw [hji29] at H; exact H) | (simp only [hji29] at H ⊢; exact H)
                                      have hji29w : (IntKind.i64.wrap (Int.tdiv x34_2 (l1.length : Int))) = ji29 := (i64_w _).trans hji29
                                      by_cases c30 : 0 ≤ (ji29)
                                      · rw [if_pos c30] at H
                                        have c30b0 : decide (0 ≤ (ji29)) = true := decide_eq_true c30
                                        clear c30
                                        by_cases c31 : (ji29) < (l0.length : Int)
                                        · rw [if_pos c31] at H
                                          have c31b0 : decide ((ji29) < (l0.length : Int)) = true := decide_eq_true c31
                                          (try (have c31b0z := c31b0; simp only [hl6_2, hl6_3] at c31b0z))
                                          clear c31
                                          obtain ⟨ji32, hji32⟩ : ∃ j_ : Int, (wrap64 (Int.tdiv x45_3 (l1.length : Int))) = j_ := ⟨_, rfl⟩
                                          replace H : (if 0 ≤ (ji32) then (if (ji32) < ((rd_L1 l0 (ji29)).length : Int) then (if 0 ≤ (Int.tmod x34_2 (l1.length : Int)) then (if (Int.tmod x34_2 (l1.length : Int)) < (l1.length : Int) then (if 0 ≤ (Int.tmod x45_3 (l1.length : Int)) then (if (Int.tmod x45_3 (l1.length : Int)) < ((rd_L1 l1 (Int.tmod x34_2 (l1.length : Int))).length : Int) then (if 0 ≤ x45_3 then (if x45_3 < ((rd_L1 x6_3 x34_2).length : Int) then (mult_Direct.l1 k3 l0 l1 (l1.length : Int) (x6_3.set (x34_2 : Int).toNat ((rd_L1 x6_3 x34_2).set (x45_3 : Int).toNat (wrap64 ((wrap64 ((rd (rd_L1 l0 (ji29)) (ji32)) * (l1.length : Int))) + (rd (rd_L1 l1 (Int.tmod x34_2 (l1.length : Int))) (Int.tmod x45_3 (l1.length : Int))))))) x34_2 (y318.length : Int) x34_2 (x6_2.length : Int) (wrap64 (x45_3 + 1))) else (none)) else (none)) else (none)) else (none)) else (none)) else (none)) else (none)) else (none)) = some r := by first | (rw [hji32] at H; exact H) | (simp only [hji32] at H ⊢; exact H)
                                          have hji32w : (IntKind.i64.wrap (Int.tdiv x45_3 (l1.length : Int))) = ji32 := (i64_w _).trans hji32
                                          by_cases c33 : 0 ≤ (ji32)
                                          · rw [if_pos c33] at H
                                            have c33b0 : decide (0 ≤ (ji32)) = true := decide_eq_true c33
                                            clear c33
                                            by_cases c34 : (ji32) < ((rd_L1 l0 (ji29)).length : Int)
                                            · rw [if_pos c34] at H
                                              have c34b0 : decide ((ji32) < ((rd_L1 l0 (ji29)).length : Int)) = true := decide_eq_true c34
                                              (try (have c34b0z := c34b0; simp only [hl6_2, hl6_3] at c34b0z))
                                              clear c34
                                              obtain ⟨ji35, hji35⟩ : ∃ j_ : Int, (Int.tmod x34_2 (l1.length : Int)) = j_ := ⟨_, rfl⟩
                                              replace H : (if 0 ≤ (ji35) then (if (ji35) < (l1.length : Int) then (if 0 ≤ (Int.tmod x45_3 (l1.length : Int)) then (if (Int.tmod x45_3 (l1.length : Int)) < ((rd_L1 l1 (ji35)).length : Int) then (if 0 ≤ x45_3 then (if x45_3 < ((rd_L1 x6_3 x34_2).length : Int) then (mult_Direct.l1 k3 l0 l1 (l1.length : Int) (x6_3.set (x34_2 : Int).toNat ((rd_L1 x6_3 x34_2).set (x45_3 : Int).toNat (wrap64 ((wrap64 ((rd (rd_L1 l0 (ji29)) (ji32)) * (l1.length : Int))) + (rd (rd_L1 l1 (ji35)) (Int.tmod x45_3 (l1.length : Int))))))) x34_2 (y318.length : Int) x34_2 (x6_2.length : Int) (wrap64 (x45_3 + 1))) else (none)) else (none)) else (none)) else (none)) else (none)) else (none)) = some r := by first | (rw [hji35] at H; exact H) | (simp only [hji35] at H ⊢; exact H)
                                              by_cases c36 : 0 ≤ (ji35)
                                              · rw [if_pos c36] at H
                                                have c36b0 : decide (0 ≤ (ji35)) = true := decide_eq_true c36
                                                clear c36
                                                by_cases c37 : (ji35) < (l1.length : Int)
                                                · rw [if_pos c37] at H
                                                  have c37b0 : decide ((ji35) < (l1.length : Int)) = true := decide_eq_true c37
                                                  (try (have c37b0z := c37b0; simp only [hl6_2, hl6_3] at c37b0z))
                                                  clear c37
                                                  obtain ⟨ji38, hji38⟩ : ∃ j_ : Int, (Int.tmod x45_3 (l1.length : Int)) = j_ := ⟨_, rfl⟩
                                                  replace H : (if 0 ≤ (ji38) then (if (ji38) < ((rd_L1 l1 (ji35)).length : Int) then (if 0 ≤ x45_3 then (if x45_3 < ((rd_L1 x6_3 x34_2).length : Int) then (mult_Direct.l1 k3 l0 l1 (l1.length : Int) (x6_3.set (x34_2 : Int).toNat ((rd_L1 x6_3 x34_2).set (x45_3 : Int).toNat (wrap64 ((wrap64 ((rd (rd_L1 l0 (ji29)) (ji32)) * (l1.length : Int))) + (rd (rd_L1 l1 (ji35)) (ji38)))))) x34_2 (y318.length : Int) x34_2 (x6_2.length : Int) (wrap64 (x45_3 + 1))) else (none)) else (none)) else (none)) else (none)) = some r := by first | (rw [hji38] at H; exact H) | (simp only [hji38] at H ⊢; exact H)
                                                  by_cases c39 : 0 ≤ (ji38)
                                                  · rw [if_pos c39] at H
                                                    have c39b0 : decide (0 ≤ (ji38)) = true := decide_eq_true c39
                                                    clear c39
                                                    by_cases c40 : (ji38) < ((rd_L1 l1 (ji35)).length : Int)
                                                    · rw [if_pos c40] at H
                                                      have c40b0 : decide ((ji38) < ((rd_L1 l1 (ji35)).length : Int)) = true := decide_eq_true c40
                                                      (try (have c40b0z := c40b0; simp only [hl6_2, hl6_3] at c40b0z))
                                                      clear c40
                                                      by_cases c41 : 0 ≤ x45_3
                                                      · rw [if_pos c41] at H
                                                        have c41b0 : decide (0 ≤ x45_3) = true := decide_eq_true c41
                                                        clear c41
                                                        by_cases c42 : x45_3 < ((rd_L1 x6_3 x34_2).length : Int)
                                                        · rw [if_pos c42] at H
                                                          have c42b0 : decide (x45_3 < ((rd_L1 x6_3 x34_2).length : Int)) = true := decide_eq_true c42
                                                          (try (have c42b0z := c42b0; simp only [hl6_2, hl6_3] at c42b0z))
                                                          clear c42
                                                          obtain ⟨y330, hy330⟩ : ∃ y_ : List Int, y_ = ((rd_L1 x6_3 x34_2).set (x45_3 : Int).toNat (wrap64 ((wrap64 ((rd (rd_L1 l0 (ji29)) (ji32)) * (l1.length : Int))) + (rd (rd_L1 l1 (ji35)) (ji38))))) := ⟨_, rfl⟩
                                                          replace H : (mult_Direct.l1 k3 l0 l1 (l1.length : Int) (x6_3.set (x34_2 : Int).toNat y330) x34_2 (y318.length : Int) x34_2 (x6_2.length : Int) (wrap64 (x45_3 + 1))) = some r := by first | (rw [hy330]; with_reducible exact H) | (have H2_ := (Option.bind_some _ _).symm.trans H; rw [hy330]; with_reducible exact H2_) | (have H2_ := (Option.bind_some _ _).symm.trans H; with_reducible exact H2_) | with_reducible exact H | (rw [hy330]; exact H) | exact H
                                                          have Ny330 := Aside0.mk hy330
                                                          clear hy330
                                                          obtain ⟨y332, hy332⟩ : ∃ y_ : List (List Int), y_ = (x6_3.set (x34_2 : Int).toNat y330) := ⟨_, rfl⟩
                                                          replace H : (mult_Direct.l1 k3 l0 l1 (l1.length : Int) y332 x34_2 (y318.length : Int) x34_2 (x6_2.length : Int) (wrap64 (x45_3 + 1))) = some r := by first | (rw [hy332]; with_reducible exact H) | (have H2_ := (Option.bind_some _ _).symm.trans H; rw [hy332]; with_reducible exact H2_) | (have H2_ := (Option.bind_some _ _).symm.trans H; with_reducible exact H2_) | with_reducible exact H | (rw [hy332]; exact H) | exact H
                                                          have Ny332 := Aside0.mk hy332
                                                          clear hy332
                                                          have H' := Aside0.mk H
                                                          clear H
                                                          try go_wp2
                                                          have n0_ := Aside0.mk (Kd.S_drew HO_6.out)
                                                          have n1_ := Aside0.mk (below_drew1 HB.out)
                                                          clear HO_6
                                                          clear HB
                                                          have HO_6 := n0_
                                                          have HB := n1_
                                                          clear n0_ n1_
                                                          have p325 : 0 ≤ (x34_2 : Int) := of_decide_eq_true (by first | (with_reducible assumption) | assumption)
                                                          have q325 : x34_2 < (x6_3.length : Int) := of_decide_eq_true (by first | (with_reducible assumption) | assumption)
                                                          obtain ⟨ad325, A325_0, c325_0, e325, hx325_0, hl325_0, hi325_0⟩ := at_L1 (Kd.S_reads' HO_6.out).2.2 x34_2 p325 q325
                                                          obtain rfl : (⟨go20, 0, none⟩ : Addr) = ad325 := (by injection e325)
                                                          obtain ⟨ce325, hce325, hMe325, hcc325⟩ := Kd.S_get HO_6.out [] x34_2 p325 (by first | exact q325 | exact of_decide_eq_true (by first | (with_reducible assumption) | assumption) | (have e_ := (Kd.S_reads' HO_6.out).1; omega))
                                                          obtain ⟨ve325_0, rfl, ge325_0⟩ := hMe325
                                                          have hv325_0 := hcc325 0 _ rfl
                                                          rw [Nat.add_zero, show ((Kd.slice 3 (Kd.int .i64))).sz = 1 from rfl, Nat.mul_one] at hv325_0
                                                          replace hv325_0 := Option.some.inj (hv325_0.symm.trans hx325_0)
                                                          rw [hv325_0] at ge325_0
                                                          have HL325_0 := Aside0.mk (show Kd.R (Kd.int .i64) 3 _ _ _ _ (rd_L1 x6_3 x34_2) from ge325_0)
                                                          (try clear hv325_0); (try clear ge325_0)
                                                          have HX325_0 := Aside0.mk hx325_0
                                                          (try clear hcc325); (try clear hce325)
                                                          (first | simp only [add_plain] at hx325_0 | simp only [add_at] at hx325_0 | simp only [Addr.add, Nat.zero_add] at hx325_0 | skip)
                                                          have HR325_0 := Aside0.mk hi325_0
                                                          have HC325_0 := Aside0.mk hl325_0
                                                          (try clear hi325_0); (try clear hl325_0)
                                                          replace p325 := eq_true p325
                                                          replace q325 := eq_true q325
                                                          have p326 : 0 ≤ ((ji29) : Int) := of_decide_eq_true (by first | (with_reducible assumption) | assumption)
                                                          have q326 : (ji29) < (l0.length : Int) := of_decide_eq_true (by first | (with_reducible assumption) | assumption)
                                                          obtain ⟨ad326, A326_0, c326_0, e326, hx326_0, hl326_0, hi326_0⟩ := at_L1 HR0.out (ji29) p326 q326
                                                          have hw326_0 := hx326_0
                                                          cases e326
                                                          replace hx326_0 := (HB.out.cell (World.block_lt_of_cell? w _ hx326_0)).trans hx326_0
                                                          have HR326_0 := Aside0.mk hi326_0
                                                          have HC326_0 := Aside0.mk hl326_0
                                                          (try clear hi326_0); (try clear hl326_0)
                                                          replace p326 := eq_true p326
                                                          replace q326 := eq_true q326
                                                          have p327 : 0 ≤ ((ji32) : Int) := of_decide_eq_true (by first | (with_reducible assumption) | assumption)
                                                          have q327 : (ji32) < ((rd_L1 l0 (ji29)).length : Int) := of_decide_eq_true (by first | (with_reducible assumption) | assumption)
                                                          obtain ⟨ad327, e327, hx327_0⟩ := Kd.at_int HR326_0.out (ji32) p327 q327
                                                          have hw327_0 := hx327_0
                                                          cases e327
                                                          replace hx327_0 := (HB.out.cell (World.block_lt_of_cell? w _ hx327_0)).trans hx327_0
                                                          replace p327 := eq_true p327
                                                          replace q327 := eq_true q327
                                                          have p328 : 0 ≤ ((ji35) : Int) := of_decide_eq_true (by first | (with_reducible assumption) | assumption)
                                                          have q328 : (ji35) < (l1.length : Int) := of_decide_eq_true (by first | (with_reducible assumption) | assumption)
                                                          obtain ⟨ad328, A328_0, c328_0, e328, hx328_0, hl328_0, hi328_0⟩ := at_L1 HR1.out (ji35) p328 q328
                                                          have hw328_0 := hx328_0
                                                          cases e328
                                                          replace hx328_0 := (HB.out.cell (World.block_lt_of_cell? w _ hx328_0)).trans hx328_0
                                                          have HR328_0 := Aside0.mk hi328_0
                                                          have HC328_0 := Aside0.mk hl328_0
                                                          (try clear hi328_0); (try clear hl328_0)
                                                          replace p328 := eq_true p328
                                                          replace q328 := eq_true q328
                                                          have p329 : 0 ≤ ((ji38) : Int) := of_decide_eq_true (by first | (with_reducible assumption) | assumption)
                                                          have q329 : (ji38) < ((rd_L1 l1 (ji35)).length : Int) := of_decide_eq_true (by first | (with_reducible assumption) | assumption)
                                                          obtain ⟨ad329, e329, hx329_0⟩ := Kd.at_int HR328_0.out (ji38) p329 q329
                                                          have hw329_0 := hx329_0
                                                          cases e329
                                                          replace hx329_0 := (HB.out.cell (World.block_lt_of_cell? w _ hx329_0)).trans hx329_0
                                                          replace p329 := eq_true p329
                                                          replace q329 := eq_true q329
                                                          have p43 : 0 ≤ (x45_3 : Int) := of_decide_eq_true (by first | (with_reducible assumption) | assumption)
                                                          have q43 : (x45_3 : Int) < (((rd_L1 x6_3 x34_2).length : Int) : Int) := of_decide_eq_true (by first | (with_reducible assumption) | assumption)
                                                          obtain ⟨go43, co43, eo43, gb43, gl43, cl43, HG43⟩ := Kd.R_form HL325_0.out (by omega)
                                                          (first | cases eo43 | (injection eo43 with ea_ en_ ec_; (first | subst ea_ | (injection ea_ with ea_; subst ea_)); subst ec_; clear en_))
                                                          have GB43 := Aside0.mk gb43
                                                          have GG43 := Aside0.mk HG43
                                                          (try clear gb43); (try clear gl43); (try clear HG43)
                                                          obtain ⟨hx43_0, hf43_0⟩ := Kd.R_celln 0 HL325_0.out (x45_3 : Int) p43 q43
                                                          replace p43 := eq_true p43
                                                          replace q43 := eq_true q43
                                                          have hq45 : (x34_2 : Int) < (x6_3.length : Int) := (by have h_ : (x34_2 : Int) < ((x6_3.length : Int) : Int) := of_decide_eq_true (by first | (with_reducible assumption) | assumption); first | exact h_ | (have e_ := (Kd.S_reads' HO_6.out).1; omega) | simpa only [List.length_set, List.length_set] using h_)
                                                          obtain ⟨oki45, ce45, hcl45, hM45, hcc45, hok45, hbk45⟩ := Kd.S_borrow HO_6.out [] (x34_2 : Int) (of_decide_eq_true (by first | (with_reducible assumption) | assumption)) hq45
                                                          obtain ⟨ve45_0, rfl, ge45_0⟩ := hM45
                                                          have hv45 := hcc45 0 _ rfl
                                                          rw [Nat.add_zero, show ((Kd.slice 3 (Kd.int .i64))).sz = 1 from rfl, Nat.mul_one] at hv45
                                                          replace hv45 := Option.some.inj (hv45.symm.trans HX325_0.out)
                                                          subst hv45
                                                          (try clear hcc45); (try clear hcl45)
                                                          replace ge45_0 := (show Kd.R (Kd.int .i64) 3 _ _ _ _ (rd_L1 x6_3 x34_2) from ge45_0)
                                                          have HP45 := Kd.R_putg ge45_0 (x45_3 : Int) (wrap64 ((wrap64 ((rd (rd_L1 l0 (ji29)) (ji32)) * (l1.length : Int))) + (rd (rd_L1 l1 (ji35)) (ji38))))
                                                          rw [← Ny330.out] at HP45
                                                          have HS45 := hbk45 HP45.2 (fun k_ e_ => by injection e_ with e_; subst e_; exact ge45_0.1 _ rfl) (x' := y330) (Kd.M_row HP45.1)
                                                          rw [← Ny332.out] at HS45
                                                          have HQ45 := Aside0.mk HS45
                                                          (try clear HP45); (try clear HS45); (try clear hbk45); (try clear hok45)
                                                          refine start_ (n := 32) (S := fun w' => w'.cell? ⟨go20, (x34_2).toNat, none⟩ = some (.slice (some ⟨go43, 0, none⟩) (rd_L1 x6_3 x34_2).length c325_0) ∧ w'.cell? (ad326.add ((ji29)).toNat) = some (.slice (some ad327) (rd_L1 l0 (ji29)).length c326_0) ∧ w'.cell? (ad327.add ((ji32)).toNat) = some (.int .i64 (rd (rd_L1 l0 (ji29)) (ji32))) ∧ w'.cell? (ad328.add ((ji35)).toNat) = some (.slice (some ad329) (rd_L1 l1 (ji35)).length c328_0) ∧ w'.cell? (ad329.add ((ji38)).toNat) = some (.int .i64 (rd (rd_L1 l1 (ji35)) (ji38)))) (ds := [31]) #[false, false, false, false, false, false, false, false, false, false, false, false, false, false, false, false, false, false, false, false, false, false, false, false, false, false, false, false, false, false, false, false] (by kernel_rfl) rfl rfl ⟨hx325_0, ((HB.out.cell (World.block_lt_of_cell? w _ hw326_0)).trans hw326_0), ((HB.out.cell (World.block_lt_of_cell? w _ hw327_0)).trans hw327_0), ((HB.out.cell (World.block_lt_of_cell? w _ hw328_0)).trans hw328_0), ((HB.out.cell (World.block_lt_of_cell? w _ hw329_0)).trans hw329_0)⟩ (fun hHeld => ?_); refine with_tabW mult_Direct.tab12 mult_Direct.bits12 (fun HT_ HW_ => ?_)
                                                          generalize wr.drew = w44 at HO_6 HB GG43 HL325_0 HQ45 HR325_0 HR326_0 HR328_0 HX325_0 hf43_0 hx325_0 hx326_0 hx327_0 hx328_0 hx329_0 hx43_0 hHeld ⊢
                                                          refine pure_ (i := 0) (N := some 48) (v := ?_) (a' := ?_) #[true, false, false, false, false, false, false, false, false, false, false, false, false, false, false, false, false, false, false, false, false, false, false, false, false, false, false, false, false, false, false, false] rfl rfl (any_of HT_.out (by kernel_rfl)) (fun _ _ _ h => h) (Or.inl ⟨by rfl, ?_⟩) ?_ ?_
                                                          rotate_left
                                                          · intro w'
                                                            go_simp
                                                            with_reducible rfl
                                                          rotate_left
                                                          · simp only [Act.put, List.setIfInBounds_toArray, List.set_cons_zero, List.set_cons_succ, i64_w, i32_w]
                                                            rfl
                                                          refine pure_ (i := 1) (N := some 49) (v := ?_) (a' := ?_) #[true, true, false, false, false, false, false, false, false, false, false, false, false, false, false, false, false, false, false, false, false, false, false, false, false, false, false, false, false, false, false, false] rfl rfl (any_of HT_.out (by kernel_rfl)) (fun _ _ _ h => h) (Or.inl ⟨by rfl, ?_⟩) ?_ ?_
                                                          rotate_left
                                                          · intro w'
                                                            go_simp
                                                            with_reducible rfl
                                                          rotate_left
                                                          · simp only [Act.put, List.setIfInBounds_toArray, List.set_cons_zero, List.set_cons_succ, i64_w, i32_w]
                                                            rfl
                                                          refine pure_ (i := 2) (N := some 50) (v := ?_) (a' := ?_) #[true, true, true, false, false, false, false, false, false, false, false, false, false, false, false, false, false, false, false, false, false, false, false, false, false, false, false, false, false, false, false, false] rfl rfl (any_of HT_.out (by kernel_rfl)) (fun _ _ _ h => h) (Or.inl ⟨by rfl, ?_⟩) ?_ ?_
                                                          rotate_left
                                                          · intro w'
                                                            go_simp
                                                            with_reducible rfl
                                                          rotate_left
                                                          · simp only [Act.put, List.setIfInBounds_toArray, List.set_cons_zero, List.set_cons_succ, i64_w, i32_w]
                                                            rfl
                                                          refine pure_ (i := 4) (N := some 52) (v := ?_) (a' := ?_) #[true, true, true, false, true, false, false, false, false, false, false, false, false, false, false, false, false, false, false, false, false, false, false, false, false, false, false, false, false, false, false, false] rfl rfl (any_of HT_.out (by kernel_rfl)) (fun _ _ _ h => h) (Or.inl ⟨by rfl, ?_⟩) ?_ ?_
                                                          rotate_left
                                                          · intro w'
                                                            go_simp
                                                            with_reducible rfl
                                                          rotate_left
                                                          · simp only [Act.put, List.setIfInBounds_toArray, List.set_cons_zero, List.set_cons_succ, i64_w, i32_w]
                                                            rfl
                                                          refine pure_ (i := 5) (N := some 53) (v := ?_) (a' := ?_) #[true, true, true, false, true, true, false, false, false, false, false, false, false, false, false, false, false, false, false, false, false, false, false, false, false, false, false, false, false, false, false, false] rfl rfl (any_of HT_.out (by kernel_rfl)) (fun _ _ _ h => h) (Or.inl ⟨by rfl, ?_⟩) ?_ ?_
                                                          rotate_left
                                                          · intro w'
                                                            go_simp
                                                            with_reducible rfl
                                                          rotate_left
                                                          · simp only [Act.put, List.setIfInBounds_toArray, List.set_cons_zero, List.set_cons_succ, i64_w, i32_w]
                                                            rfl
                                                          refine pure_ (i := 6) (N := some 54) (v := ?_) (a' := ?_) #[true, true, true, false, true, true, true, false, false, false, false, false, false, false, false, false, false, false, false, false, false, false, false, false, false, false, false, false, false, false, false, false] rfl rfl (any_of HT_.out (by kernel_rfl)) (fun _ _ _ h => h) (Or.inl ⟨by rfl, ?_⟩) ?_ ?_
                                                          rotate_left
                                                          · intro w'
                                                            go_simp
                                                            with_reducible rfl
                                                          rotate_left
                                                          · simp only [Act.put, List.setIfInBounds_toArray, List.set_cons_zero, List.set_cons_succ, i64_w, i32_w]
                                                            rfl
                                                          refine pure_ (i := 7) (N := some 55) (v := ?_) (a' := ?_) #[true, true, true, false, true, true, true, true, false, false, false, false, false, false, false, false, false, false, false, false, false, false, false, false, false, false, false, false, false, false, false, false] rfl rfl (any_of HT_.out (by kernel_rfl)) (fun _ _ _ h => h) (Or.inl ⟨by rfl, ?_⟩) ?_ ?_
                                                          rotate_left
                                                          · intro w'
                                                            go_simp
                                                            with_reducible rfl
                                                          rotate_left
                                                          · simp only [Act.put, List.setIfInBounds_toArray, List.set_cons_zero, List.set_cons_succ, i64_w, i32_w]
                                                            rfl
                                                          refine pure_ (i := 8) (N := some 56) (v := ?_) (a' := ?_) #[true, true, true, false, true, true, true, true, true, false, false, false, false, false, false, false, false, false, false, false, false, false, false, false, false, false, false, false, false, false, false, false] rfl rfl (any_of HT_.out (by kernel_rfl)) (fun _ _ _ h => h) (Or.inl ⟨by rfl, ?_⟩) ?_ ?_
                                                          rotate_left
                                                          · intro w'
                                                            go_simp
                                                            with_reducible rfl
                                                          rotate_left
                                                          · simp only [Act.put, List.setIfInBounds_toArray, List.set_cons_zero, List.set_cons_succ, i64_w, i32_w]
                                                            rfl
                                                          refine pure_ (i := 9) (N := some 57) (v := ?_) (a' := ?_) #[true, true, true, false, true, true, true, true, true, true, false, false, false, false, false, false, false, false, false, false, false, false, false, false, false, false, false, false, false, false, false, false] rfl rfl (any_of HT_.out (by kernel_rfl)) (fun _ _ _ h => h) (Or.inl ⟨by rfl, ?_⟩) ?_ ?_
                                                          rotate_left
                                                          · intro w'
                                                            go_simp
                                                            with_reducible rfl
                                                          rotate_left
                                                          · simp only [Act.put, List.setIfInBounds_toArray, List.set_cons_zero, List.set_cons_succ, i64_w, i32_w]
                                                            rfl
                                                          refine pure_ (i := 11) (N := some 59) (v := ?_) (a' := ?_) #[true, true, true, false, true, true, true, true, true, true, false, true, false, false, false, false, false, false, false, false, false, false, false, false, false, false, false, false, false, false, false, false] rfl rfl (any_of HT_.out (by kernel_rfl)) (fun _ _ _ h => h) (Or.inl ⟨by rfl, ?_⟩) ?_ ?_
                                                          rotate_left
                                                          · intro w'
                                                            go_simp
                                                            with_reducible rfl
                                                          rotate_left
                                                          · simp only [Act.put, List.setIfInBounds_toArray, List.set_cons_zero, List.set_cons_succ, i64_w, i32_w]
                                                            rfl
                                                          refine pure_ (i := 12) (N := some 60) (v := ?_) (a' := ?_) #[true, true, true, false, true, true, true, true, true, true, false, true, true, false, false, false, false, false, false, false, false, false, false, false, false, false, false, false, false, false, false, false] rfl rfl (any_of HT_.out (by kernel_rfl)) (fun _ _ _ h => h) (Or.inl ⟨by rfl, ?_⟩) ?_ ?_
                                                          rotate_left
                                                          · intro w'
                                                            go_simp
                                                            with_reducible rfl
                                                          rotate_left
                                                          · simp only [Act.put, List.setIfInBounds_toArray, List.set_cons_zero, List.set_cons_succ, i64_w, i32_w]
                                                            rfl
                                                          refine pure_ (i := 13) (N := some 61) (v := ?_) (a' := ?_) #[true, true, true, false, true, true, true, true, true, true, false, true, true, true, false, false, false, false, false, false, false, false, false, false, false, false, false, false, false, false, false, false] rfl rfl (any_of HT_.out (by kernel_rfl)) (fun _ _ _ h => h) (Or.inl ⟨by rfl, ?_⟩) ?_ ?_
                                                          rotate_left
                                                          · intro w'
                                                            go_simp
                                                            with_reducible rfl
                                                          rotate_left
                                                          · simp only [Act.put, List.setIfInBounds_toArray, List.set_cons_zero, List.set_cons_succ, i64_w, i32_w]
                                                            rfl
                                                          refine pure_ (i := 16) (N := some 64) (v := ?_) (a' := ?_) #[true, true, true, false, true, true, true, true, true, true, false, true, true, true, false, false, true, false, false, false, false, false, false, false, false, false, false, false, false, false, false, false] rfl rfl (any_of HT_.out (by kernel_rfl)) (fun _ _ _ h => h) (Or.inl ⟨by rfl, ?_⟩) ?_ ?_
                                                          rotate_left
                                                          · intro w'
                                                            go_simp
                                                            with_reducible rfl
                                                          rotate_left
                                                          · simp only [Act.put, List.setIfInBounds_toArray, List.set_cons_zero, List.set_cons_succ, i64_w, i32_w]
                                                            rfl
                                                          refine pure_ (i := 18) (N := some 66) (v := ?_) (a' := ?_) #[true, true, true, false, true, true, true, true, true, true, false, true, true, true, false, false, true, false, true, false, false, false, false, false, false, false, false, false, false, false, false, false] rfl rfl (any_of HT_.out (by kernel_rfl)) (fun _ _ _ h => h) (Or.inl ⟨by rfl, ?_⟩) ?_ ?_
                                                          rotate_left
                                                          · intro w'
                                                            go_simp
                                                            with_reducible rfl
                                                          rotate_left
                                                          · simp only [Act.put, List.setIfInBounds_toArray, List.set_cons_zero, List.set_cons_succ, i64_w, i32_w]
                                                            rfl
                                                          refine pure_ (i := 19) (N := some 67) (v := ?_) (a' := ?_) #[true, true, true, false, true, true, true, true, true, true, false, true, true, true, false, false, true, false, true, true, false, false, false, false, false, false, false, false, false, false, false, false] rfl rfl (any_of HT_.out (by kernel_rfl)) (fun _ _ _ h => h) (Or.inl ⟨by rfl, ?_⟩) ?_ ?_
                                                          rotate_left
                                                          · intro w'
                                                            go_simp
                                                            with_reducible rfl
                                                          rotate_left
                                                          · simp only [Act.put, List.setIfInBounds_toArray, List.set_cons_zero, List.set_cons_succ, i64_w, i32_w]
                                                            rfl
                                                          refine pure_ (i := 20) (N := some 68) (v := ?_) (a' := ?_) #[true, true, true, false, true, true, true, true, true, true, false, true, true, true, false, false, true, false, true, true, true, false, false, false, false, false, false, false, false, false, false, false] rfl rfl (any_of HT_.out (by kernel_rfl)) (fun _ _ _ h => h) (Or.inl ⟨by rfl, ?_⟩) ?_ ?_
                                                          rotate_left
                                                          · intro w'
                                                            go_simp
                                                            with_reducible rfl
                                                          rotate_left
                                                          · simp only [Act.put, List.setIfInBounds_toArray, List.set_cons_zero, List.set_cons_succ, i64_w, i32_w]
                                                            rfl
                                                          refine pure_ (i := 21) (N := some 69) (v := ?_) (a' := ?_) #[true, true, true, false, true, true, true, true, true, true, false, true, true, true, false, false, true, false, true, true, true, true, false, false, false, false, false, false, false, false, false, false] rfl rfl (any_of HT_.out (by kernel_rfl)) (fun _ _ _ h => h) (Or.inl ⟨by rfl, ?_⟩) ?_ ?_
                                                          rotate_left
                                                          · intro w'
                                                            go_simp
                                                            with_reducible rfl
                                                          rotate_left
                                                          · simp only [Act.put, List.setIfInBounds_toArray, List.set_cons_zero, List.set_cons_succ, i64_w, i32_w]
                                                            rfl
                                                          refine pure_ (i := 22) (N := some 70) (v := ?_) (a' := ?_) #[true, true, true, false, true, true, true, true, true, true, false, true, true, true, false, false, true, false, true, true, true, true, true, false, false, false, false, false, false, false, false, false] rfl rfl (any_of HT_.out (by kernel_rfl)) (fun _ _ _ h => h) (Or.inl ⟨by rfl, ?_⟩) ?_ ?_
                                                          rotate_left
                                                          · intro w'
                                                            go_simp
                                                            with_reducible rfl
                                                          rotate_left
                                                          · simp only [Act.put, List.setIfInBounds_toArray, List.set_cons_zero, List.set_cons_succ, i64_w, i32_w]
                                                            rfl
                                                          refine pure_ (i := 24) (N := some 72) (v := ?_) (a' := ?_) #[true, true, true, false, true, true, true, true, true, true, false, true, true, true, false, false, true, false, true, true, true, true, true, false, true, false, false, false, false, false, false, false] rfl rfl (any_of HT_.out (by kernel_rfl)) (fun _ _ _ h => h) (Or.inl ⟨by rfl, ?_⟩) ?_ ?_
                                                          rotate_left
                                                          · intro w'
                                                            go_simp
                                                            with_reducible rfl
                                                          rotate_left
                                                          · simp only [Act.put, List.setIfInBounds_toArray, List.set_cons_zero, List.set_cons_succ, i64_w, i32_w]
                                                            rfl
                                                          refine pure_ (i := 25) (N := some 73) (v := ?_) (a' := ?_) #[true, true, true, false, true, true, true, true, true, true, false, true, true, true, false, false, true, false, true, true, true, true, true, false, true, true, false, false, false, false, false, false] rfl rfl (any_of HT_.out (by kernel_rfl)) (fun _ _ _ h => h) (Or.inl ⟨by rfl, ?_⟩) ?_ ?_
                                                          rotate_left
                                                          · intro w'
                                                            go_simp
                                                            with_reducible rfl
                                                          rotate_left
                                                          · simp only [Act.put, List.setIfInBounds_toArray, List.set_cons_zero, List.set_cons_succ, i64_w, i32_w]
                                                            rfl
                                                          refine pure_ (i := 26) (N := some 74) (v := ?_) (a' := ?_) #[true, true, true, false, true, true, true, true, true, true, false, true, true, true, false, false, true, false, true, true, true, true, true, false, true, true, true, false, false, false, false, false] rfl rfl (any_of HT_.out (by kernel_rfl)) (fun _ _ _ h => h) (Or.inl ⟨by rfl, ?_⟩) ?_ ?_
                                                          rotate_left
                                                          · intro w'
                                                            go_simp
                                                            with_reducible rfl
                                                          rotate_left
                                                          · simp only [Act.put, List.setIfInBounds_toArray, List.set_cons_zero, List.set_cons_succ, i64_w, i32_w]
                                                            rfl
                                                          refine take_ (i := 3) (N := some 51) (v := ?_) (a' := ?_) #[true, true, true, true, true, true, true, true, true, true, false, true, true, true, false, false, true, false, true, true, true, true, true, false, true, true, true, false, false, false, false, false] rfl rfl (take_ofW HT_.out HW_.out (by kernel_rfl)) (fun _ _ _ h => h) (Or.inl ⟨by rfl, ?_⟩) hHeld ?_ ?_
                                                          rotate_left
                                                          · rintro w' ⟨s0, s1, s2, s3, s4⟩
                                                            go_simp
                                                            with_reducible rfl
                                                          rotate_left
                                                          · simp only [Act.put, List.setIfInBounds_toArray, List.set_cons_zero, List.set_cons_succ, i64_w, i32_w]
                                                            rfl
                                                          refine take_ (i := 10) (N := some 58) (v := ?_) (a' := ?_) #[true, true, true, true, true, true, true, true, true, true, true, true, true, true, false, false, true, false, true, true, true, true, true, false, true, true, true, false, false, false, false, false] rfl rfl (take_ofW HT_.out HW_.out (by kernel_rfl)) (fun _ _ _ h => h) (Or.inl ⟨by rfl, ?_⟩) hHeld ?_ ?_
                                                          rotate_left
                                                          · rintro w' ⟨s0, s1, s2, s3, s4⟩
                                                            go_simp
                                                            with_reducible rfl
                                                          rotate_left
                                                          · simp only [Act.put, List.setIfInBounds_toArray, List.set_cons_zero, List.set_cons_succ, i64_w, i32_w]
                                                            rfl
                                                          refine pure_ (i := 14) (N := some 62) (v := ?_) (a' := ?_) #[true, true, true, true, true, true, true, true, true, true, true, true, true, true, true, false, true, false, true, true, true, true, true, false, true, true, true, false, false, false, false, false] rfl rfl (any_of HT_.out (by kernel_rfl)) (fun _ _ _ h => h) (Or.inl ⟨by rfl, ?_⟩) ?_ ?_
                                                          rotate_left
                                                          · intro w'
                                                            go_simp
                                                            with_reducible rfl
                                                          rotate_left
                                                          · simp only [Act.put, List.setIfInBounds_toArray, List.set_cons_zero, List.set_cons_succ, i64_w, i32_w]
                                                            rfl
                                                          refine take_ (i := 15) (N := some 63) (v := ?_) (a' := ?_) #[true, true, true, true, true, true, true, true, true, true, true, true, true, true, true, true, true, false, true, true, true, true, true, false, true, true, true, false, false, false, false, false] rfl rfl (take_ofW HT_.out HW_.out (by kernel_rfl)) (fun _ _ _ h => h) (Or.inl ⟨by rfl, ?_⟩) hHeld ?_ ?_
                                                          rotate_left
                                                          · rintro w' ⟨s0, s1, s2, s3, s4⟩
                                                            go_simp
                                                            with_reducible rfl
                                                          rotate_left
                                                          · simp only [Act.put, List.setIfInBounds_toArray, List.set_cons_zero, List.set_cons_succ, i64_w, i32_w]
                                                            rfl
                                                          refine pure_ (i := 17) (N := some 65) (v := ?_) (a' := ?_) #[true, true, true, true, true, true, true, true, true, true, true, true, true, true, true, true, true, true, true, true, true, true, true, false, true, true, true, false, false, false, false, false] rfl rfl (any_of HT_.out (by kernel_rfl)) (fun _ _ _ h => h) (Or.inl ⟨by rfl, ?_⟩) ?_ ?_
                                                          rotate_left
                                                          · intro w'
                                                            go_simp
                                                            with_reducible rfl
                                                          rotate_left
                                                          · simp only [Act.put, List.setIfInBounds_toArray, List.set_cons_zero, List.set_cons_succ, i64_w, i32_w]
                                                            rfl
                                                          refine take_ (i := 23) (N := some 71) (v := ?_) (a' := ?_) #[true, true, true, true, true, true, true, true, true, true, true, true, true, true, true, true, true, true, true, true, true, true, true, true, true, true, true, false, false, false, false, false] rfl rfl (take_ofW HT_.out HW_.out (by kernel_rfl)) (fun _ _ _ h => h) (Or.inl ⟨by rfl, ?_⟩) hHeld ?_ ?_
                                                          rotate_left
                                                          · rintro w' ⟨s0, s1, s2, s3, s4⟩
                                                            go_simp
                                                            with_reducible rfl
                                                          rotate_left
                                                          · simp only [Act.put, List.setIfInBounds_toArray, List.set_cons_zero, List.set_cons_succ, i64_w, i32_w]
                                                            rfl
                                                          refine pure_ (i := 27) (N := some 75) (v := ?_) (a' := ?_) #[true, true, true, true, true, true, true, true, true, true, true, true, true, true, true, true, true, true, true, true, true, true, true, true, true, true, true, true, false, false, false, false] rfl rfl (any_of HT_.out (by kernel_rfl)) (fun _ _ _ h => h) (Or.inl ⟨by rfl, ?_⟩) ?_ ?_
                                                          rotate_left
                                                          · intro w'
                                                            go_simp
                                                            with_reducible rfl
                                                          rotate_left
                                                          · simp only [Act.put, List.setIfInBounds_toArray, List.set_cons_zero, List.set_cons_succ, i64_w, i32_w]
                                                            rfl
                                                          refine take_ (i := 28) (N := some 76) (v := ?_) (a' := ?_) #[true, true, true, true, true, true, true, true, true, true, true, true, true, true, true, true, true, true, true, true, true, true, true, true, true, true, true, true, true, false, false, false] rfl rfl (take_ofW HT_.out HW_.out (by kernel_rfl)) (fun _ _ _ h => h) (Or.inl ⟨by rfl, ?_⟩) hHeld ?_ ?_
                                                          rotate_left
                                                          · rintro w' ⟨s0, s1, s2, s3, s4⟩
                                                            go_simp
                                                            with_reducible rfl
                                                          rotate_left
                                                          · simp only [Act.put, List.setIfInBounds_toArray, List.set_cons_zero, List.set_cons_succ, i64_w, i32_w]
                                                            rfl
                                                          refine pure_ (i := 29) (N := some 77) (v := ?_) (a' := ?_) #[true, true, true, true, true, true, true, true, true, true, true, true, true, true, true, true, true, true, true, true, true, true, true, true, true, true, true, true, true, true, false, false] rfl rfl (any_of HT_.out (by kernel_rfl)) (fun _ _ _ h => h) (Or.inl ⟨by rfl, ?_⟩) ?_ ?_
                                                          rotate_left
                                                          · intro w'
                                                            go_simp
                                                            with_reducible rfl
                                                          rotate_left
                                                          · simp only [Act.put, List.setIfInBounds_toArray, List.set_cons_zero, List.set_cons_succ, i64_w, i32_w]
                                                            rfl
                                                          refine pure_ (i := 30) (N := some 78) (v := ?_) (a' := ?_) #[true, true, true, true, true, true, true, true, true, true, true, true, true, true, true, true, true, true, true, true, true, true, true, true, true, true, true, true, true, true, true, false] rfl rfl (any_of HT_.out (by kernel_rfl)) (fun _ _ _ h => h) (Or.inl ⟨by rfl, ?_⟩) ?_ ?_
                                                          rotate_left
                                                          · intro w'
                                                            go_simp
                                                            with_reducible rfl
                                                          rotate_left
                                                          · simp only [Act.put, List.setIfInBounds_toArray, List.set_cons_zero, List.set_cons_succ, i64_w, i32_w]
                                                            rfl
                                                          refine last_ (i := 31) (N := none) #[true, true, true, true, true, true, true, true, true, true, true, true, true, true, true, true, true, true, true, true, true, true, true, true, true, true, true, true, true, true, true, true] rfl rfl (one_of HT_.out (by kernel_rfl)) (by decide) (fun K hK => ?_)
                                                          refine skip_ (w1 := ?_) (by rfl) rfl ?_ ?_
                                                          rotate_left
                                                          · go_simp
                                                            rfl
                                                          refine hK.out _ _ ?_
                                                          clear hK K
                                                          refine done_ (done_of HT_.out (by kernel_rfl)) ?_
                                                          try go_wp2
                                                          (try simp only [← hl6_3])
                                                          go_roundg k3
                                                          case measure => have := HJ2.out; have := HK2.out; have := HK3.out; omega
                                                          case rel => exact ⟨(y332), (wrap64 (x45_3 + 1)), (by first | rfl | (simp; done) | (simp [*]; done)), H', ⟨by have := HJ2.out; have := HK2.out; have := HK3.out; omega⟩, ⟨by (try simp only [hl6_2]); (try simp only [hl6_3]); (with_reducible repeat (first | apply Kd.S_alloc | apply Kd.S_drewN | apply Kd.S_drew)); exact HQ45.out⟩, ⟨by repeat (first | (with_reducible first | exact HB.out | apply below_alloc | apply pw_below_drewN | apply below_drew1 | refine below_set ?_ GB43.out) | exact HB.out)⟩⟩
                                                        · rw [if_neg c42] at H
                                                          exact absurd H (by simp)
                                                      · rw [if_neg c41] at H
                                                        exact absurd H (by simp)
                                                    · rw [if_neg c40] at H
                                                      exact absurd H (by simp)
                                                  · rw [if_neg c39] at H
                                                    exact absurd H (by simp)
                                                · rw [if_neg c37] at H
                                                  exact absurd H (by simp)
                                              · rw [if_neg c36] at H
                                                exact absurd H (by simp)
                                            · rw [if_neg c34] at H
                                              exact absurd H (by simp)
                                          · rw [if_neg c33] at H
                                            exact absurd H (by simp)
                                        · rw [if_neg c31] at H
                                          exact absurd H (by simp)
                                      · rw [if_neg c30] at H
                                        exact absurd H (by simp)
                                  · rw [if_neg c27] at H
                                    exact absurd H (by simp)
                                · rw [if_neg c26] at H
                                  exact absurd H (by simp)
                              · rw [if_neg c25] at H
                                have c25b0 : decide (x45_3 < (x6_2.length : Int)) = false := decide_eq_false c25
                                (try (have c25b0z := c25b0; simp only [hl6_2, hl6_3] at c25b0z))
                                clear c25
                                have H' := Aside0.mk H
                                clear H
                                go_wp2
                                (try simp only [← hl6_2, ← hl6_3])
                                go_roundg k3
                                case measure => have := HJ2.out; have := HK2.out; have := HK3.out; omega
                                case rel => exact ⟨(x6_3), (wrap64 (x34_2 + 1)), (by first | rfl | (simp; done) | (simp [*]; done)), H', ⟨by have := HJ2.out; have := HK2.out; have := HK3.out; omega⟩, ⟨by (try simp only [hl6_2]); (try simp only [hl6_3]); (with_reducible repeat (first | apply Kd.S_alloc | apply Kd.S_drewN | apply Kd.S_drew)); exact HO_6.out⟩, ⟨by repeat (first | (with_reducible first | exact HB.out | apply below_alloc | apply pw_below_drewN | apply below_drew1) | exact HB.out)⟩⟩
                        · rw [if_neg c19] at H
                          exact absurd H (by simp)
                      · rw [if_neg c18] at H
                        exact absurd H (by simp)
                    · rw [if_neg c17] at H
                      exact absurd H (by simp)
                  · rw [if_neg c16] at H
                    exact absurd H (by simp)
                · rw [if_neg c15] at H
                  have c15b0 : decide (x34_2 < (y318.length : Int)) = false := decide_eq_false c15
                  (try (have c15b0z := c15b0; simp only [hl6_2] at c15b0z))
                  clear c15
                  obtain rfl := Option.some.inj H
                  go_wp2
                  go_ret
                  exact ⟨_, by first | rfl | (simp [errW_none, errW_some] <;> rfl) | (simp only [← hji9]; first | rfl | (simp [errW_none, errW_some] <;> rfl)) | (simp [*, errW_none, errW_some] <;> rfl), by (with_reducible repeat (first | apply Kd.S_alloc | apply Kd.S_drewN | apply Kd.S_drew)); exact HO_6.out, by repeat (first | (with_reducible first | exact HB.out | apply below_alloc | apply pw_below_drewN | apply below_drew1) | exact HB.out)⟩
          · rw [if_neg c11] at H
            exact absurd H (by simp)
        · rw [if_neg c10] at H
          exact absurd H (by simp)

end Go.Proofs.Ytlhckcldeojfmaa.PAll
