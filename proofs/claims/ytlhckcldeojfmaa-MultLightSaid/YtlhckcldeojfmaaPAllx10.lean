-- printed for this claim by printall.sh out of the translation; Lean checks it
import Derived.Test.YtlhckcldeojfmaaPAllx0
import Derived.Test.YtlhckcldeojfmaaPAllx1
import Derived.Test.YtlhckcldeojfmaaPAllx9
namespace Go.Proofs.Ytlhckcldeojfmaa.PAll
open Go.RowKit Go.Proofs.YtlhckcldeojfmaaW.PrintWords Go.Proofs.YtlhckcldeojfmaaW.PrintLast Go.Proofs.YtlhckcldeojfmaaW.PrintMore
attribute [local go_sem] max2_int min2_int max_two min_two max_three min_three max_four min_four   -- for this text's walks alone
set_option linter.unusedVariables false
set_option linter.unusedSimpArgs false

/-! ### mult_Light: function 39 -/
mutual
def mult_Light.j0 : Nat → List (List Int) → List Int → Bool → Option (Bool)
  | 0, _, _, _ => none
  | k + 1, x0, x1, x17 => if x17 = true then (some false) else (mult_Light.l0 k x0 x1 (x1.length : Int) 0)
def mult_Light.l0 : Nat → List (List Int) → List Int → Int → Int → Option (Bool)
  | 0, _, _, _, _ => none
  | k + 1, x0, x18, x19, x20 => if x20 < x19 then (if 0 ≤ x20 then (if x20 < (x18.length : Int) then (mult_Light.l1 k x0 (rd x18 x20) x18 x19 x20 (x0.length : Int) 0) else (none)) else (none)) else (some true)
def mult_Light.l1 : Nat → List (List Int) → Int → List Int → Int → Int → Int → Int → Option (Bool)
  | 0, _, _, _, _, _, _, _ => none
  | k + 1, x0, x6, x18, x19, x20, x25, x26 => if x26 < x25 then (mult_Light.l2 k x0 x6 x26 x18 x19 x20 x25 x26 (x0.length : Int) 0) else (mult_Light.l0 k x0 x18 x19 (wrap64 (x20 + 1)))
def mult_Light.l2 : Nat → List (List Int) → Int → Int → List Int → Int → Int → Int → Int → Int → Int → Option (Bool)
  | 0, _, _, _, _, _, _, _, _, _, _ => none
  | k + 1, x0, x6, x7, x18, x19, x20, x25, x26, x30, x31 => if x31 < x30 then (if 0 ≤ x7 then (if x7 < (x0.length : Int) then (if 0 ≤ x6 then (if x6 < ((rd_L1 x0 x7).length : Int) then (if 0 ≤ (rd (rd_L1 x0 x7) x6) then (if (rd (rd_L1 x0 x7) x6) < (x0.length : Int) then (if 0 ≤ x31 then (if x31 < ((rd_L1 x0 (rd (rd_L1 x0 x7) x6)).length : Int) then (if x6 < (x0.length : Int) then (if x31 < ((rd_L1 x0 x6).length : Int) then (if 0 ≤ (rd (rd_L1 x0 x6) x31) then (if (rd (rd_L1 x0 x6) x31) < ((rd_L1 x0 x7).length : Int) then (if (rd (rd_L1 x0 (rd (rd_L1 x0 x7) x6)) x31) = (rd (rd_L1 x0 x7) (rd (rd_L1 x0 x6) x31)) then (mult_Light.l2 k x0 x6 x7 x18 x19 x20 x25 x26 x30 (wrap64 (x31 + 1))) else (some false)) else (none)) else (none)) else (none)) else (none)) else (none)) else (none)) else (none)) else (none)) else (none)) else (none)) else (none)) else (none)) else (mult_Light.l1 k x0 x6 x18 x19 x20 x25 (wrap64 (x26 + 1)))
end
def mult_Light.f (k : Nat) (l0 : List (List Int)) (l1 : List Int) : Option (Bool) := (mult_shape.f k l0).bind fun t351 => (if t351 = 0 then ((mult_elements.f k l0 l1).bind fun t352 => (mult_Light.j0 k l0 l1 (!t352))) else (mult_Light.j0 k l0 l1 true))
theorem mult_Light.mono_l : ∀ k, (∀ y0 y1 y2, LeO (mult_Light.j0 k y0 y1 y2) (mult_Light.j0 (k + 1) y0 y1 y2)) ∧ (∀ y0 y1 y2 y3, LeO (mult_Light.l0 k y0 y1 y2 y3) (mult_Light.l0 (k + 1) y0 y1 y2 y3)) ∧ (∀ y0 y1 y2 y3 y4 y5 y6, LeO (mult_Light.l1 k y0 y1 y2 y3 y4 y5 y6) (mult_Light.l1 (k + 1) y0 y1 y2 y3 y4 y5 y6)) ∧ (∀ y0 y1 y2 y3 y4 y5 y6 y7 y8 y9, LeO (mult_Light.l2 k y0 y1 y2 y3 y4 y5 y6 y7 y8 y9) (mult_Light.l2 (k + 1) y0 y1 y2 y3 y4 y5 y6 y7 y8 y9))
  | 0 => ⟨fun _ _ _ r h => by simp [mult_Light.j0] at h, fun _ _ _ _ r h => by simp [mult_Light.l0] at h, fun _ _ _ _ _ _ _ r h => by simp [mult_Light.l1] at h, fun _ _ _ _ _ _ _ _ _ _ r h => by simp [mult_Light.l2] at h⟩
  | k + 1 => by
    obtain ⟨ih0, ih1, ih2, ih3⟩ := mult_Light.mono_l k
    refine ⟨?_, ?_, ?_, ?_⟩
    · intro y0 y1 y2
      unfold mult_Light.j0
      repeat' first
      | (with_reducible exact ih0 _ _ _)
      | (with_reducible exact ih1 _ _ _ _)
      | (with_reducible exact ih2 _ _ _ _ _ _ _)
      | (with_reducible exact ih3 _ _ _ _ _ _ _ _ _ _)
      | (with_reducible exact mult_elements.mono _ _ _)
      | (with_reducible exact mult_shape.mono _ _)
      | (with_reducible exact LeO.refl _)
      | (with_reducible exact LeO.none _)
      | (with_reducible refine LeO.ite ?_ ?_)
      | (with_reducible refine LeO.bind ?_ (fun _ => ?_))
      | exact ih0 _ _ _
      | exact ih1 _ _ _ _
      | exact ih2 _ _ _ _ _ _ _
      | exact ih3 _ _ _ _ _ _ _ _ _ _
      | exact mult_elements.mono _ _ _
      | exact mult_shape.mono _ _
      | exact LeO.none _
      | refine LeO.ite ?_ ?_
      | refine LeO.bind ?_ (fun _ => ?_)
    · intro y0 y1 y2 y3
      unfold mult_Light.l0
      repeat' first
      | (with_reducible exact ih0 _ _ _)
      | (with_reducible exact ih1 _ _ _ _)
      | (with_reducible exact ih2 _ _ _ _ _ _ _)
      | (with_reducible exact ih3 _ _ _ _ _ _ _ _ _ _)
      | (with_reducible exact mult_elements.mono _ _ _)
      | (with_reducible exact mult_shape.mono _ _)
      | (with_reducible exact LeO.refl _)
      | (with_reducible exact LeO.none _)
      | (with_reducible refine LeO.ite ?_ ?_)
      | (with_reducible refine LeO.bind ?_ (fun _ => ?_))
      | exact ih0 _ _ _
      | exact ih1 _ _ _ _
      | exact ih2 _ _ _ _ _ _ _
      | exact ih3 _ _ _ _ _ _ _ _ _ _
      | exact mult_elements.mono _ _ _
      | exact mult_shape.mono _ _
      | exact LeO.none _
      | refine LeO.ite ?_ ?_
      | refine LeO.bind ?_ (fun _ => ?_)
    · intro y0 y1 y2 y3 y4 y5 y6
      unfold mult_Light.l1
      repeat' first
      | (with_reducible exact ih0 _ _ _)
      | (with_reducible exact ih1 _ _ _ _)
      | (with_reducible exact ih2 _ _ _ _ _ _ _)
      | (with_reducible exact ih3 _ _ _ _ _ _ _ _ _ _)
      | (with_reducible exact mult_elements.mono _ _ _)
      | (with_reducible exact mult_shape.mono _ _)
      | (with_reducible exact LeO.refl _)
      | (with_reducible exact LeO.none _)
      | (with_reducible refine LeO.ite ?_ ?_)
      | (with_reducible refine LeO.bind ?_ (fun _ => ?_))
      | exact ih0 _ _ _
      | exact ih1 _ _ _ _
      | exact ih2 _ _ _ _ _ _ _
      | exact ih3 _ _ _ _ _ _ _ _ _ _
      | exact mult_elements.mono _ _ _
      | exact mult_shape.mono _ _
      | exact LeO.none _
      | refine LeO.ite ?_ ?_
      | refine LeO.bind ?_ (fun _ => ?_)
    · intro y0 y1 y2 y3 y4 y5 y6 y7 y8 y9
      unfold mult_Light.l2
      repeat' first
      | (with_reducible exact ih0 _ _ _)
      | (with_reducible exact ih1 _ _ _ _)
      | (with_reducible exact ih2 _ _ _ _ _ _ _)
      | (with_reducible exact ih3 _ _ _ _ _ _ _ _ _ _)
      | (with_reducible exact mult_elements.mono _ _ _)
      | (with_reducible exact mult_shape.mono _ _)
      | (with_reducible exact LeO.refl _)
      | (with_reducible exact LeO.none _)
      | (with_reducible refine LeO.ite ?_ ?_)
      | (with_reducible refine LeO.bind ?_ (fun _ => ?_))
      | exact ih0 _ _ _
      | exact ih1 _ _ _ _
      | exact ih2 _ _ _ _ _ _ _
      | exact ih3 _ _ _ _ _ _ _ _ _ _
      | exact mult_elements.mono _ _ _
      | exact mult_shape.mono _ _
      | exact LeO.none _
      | refine LeO.ite ?_ ?_
      | refine LeO.bind ?_ (fun _ => ?_)
theorem mult_Light.mono : ∀ a0 a1 k, LeO (mult_Light.f k a0 a1) (mult_Light.f (k + 1) a0 a1) := by
  intro a0 a1 k
  obtain ⟨ih0, ih1, ih2, ih3⟩ := mult_Light.mono_l k
  unfold mult_Light.f
  repeat' first
      | (with_reducible exact ih0 _ _ _)
      | (with_reducible exact ih1 _ _ _ _)
      | (with_reducible exact ih2 _ _ _ _ _ _ _)
      | (with_reducible exact ih3 _ _ _ _ _ _ _ _ _ _)
      | (with_reducible exact mult_elements.mono _ _ _)
      | (with_reducible exact mult_shape.mono _ _)
      | (with_reducible exact LeO.refl _)
      | (with_reducible exact LeO.none _)
      | (with_reducible refine LeO.ite ?_ ?_)
      | (with_reducible refine LeO.bind ?_ (fun _ => ?_))
      | exact ih0 _ _ _
      | exact ih1 _ _ _ _
      | exact ih2 _ _ _ _ _ _ _
      | exact ih3 _ _ _ _ _ _ _ _ _ _
      | exact mult_elements.mono _ _ _
      | exact mult_shape.mono _ _
      | exact LeO.none _
      | refine LeO.ite ?_ ?_
      | refine LeO.bind ?_ (fun _ => ?_)
set_option maxHeartbeats 8000000 in
set_option maxRecDepth 100000 in
theorem mult_Light.calls (k : Nat) (A0 : Option Addr) (c0 : Nat) (l0 : List (List Int)) (A1 : Option Addr) (c1 : Nat) (l1 : List Int) (r : Bool) (w : World) (hr0 : Kd.C (Kd.slice 3 (Kd.int .i64)) w A0 l0.length l0) (hc0 : l0.length ≤ c0) (hr1 : Kd.C (Kd.int .i64) w A1 l1.length l1) (hc1 : l1.length ≤ c1) (h : mult_Light.f k l0 l1 = some r) :
    Calls Try.prog 39 #[.slice A0 l0.length c0, .slice A1 l1.length c1] w fun e w' => e = .returned (.bool r) ∧ Drawn0 w w' := by
  have HR0 := Aside0.mk hr0
  have HC0 := Aside0.mk hc0
  (try clear hr0); (try clear hc0)
  have HR1 := Aside0.mk hr1
  have HC1 := Aside0.mk hc1
  (try clear hr1); (try clear hc1)
  have H : ((mult_shape.f k l0).bind fun t351 => (if t351 = 0 then ((mult_elements.f k l0 l1).bind fun t352 => (mult_Light.j0 k l0 l1 (!t352))) else (mult_Light.j0 k l0 l1 true))) = some r := h
  clear h
  have HC3 := Aside0.mk H
  clear H
  go_enter Try.func39, Try.ntmps39
  go_upto_region 1 with (fail)
  repeat (go_quiet (fail); go_upto_region 1 with (fail))
  go_cut [17] (fun v17 wc => ∃ (kq : Nat) (x17_2 : Bool), v17 = .bool x17_2 ∧ Aside0 (mult_Light.j0 kq l0 l1 x17_2 = some r) ∧ Aside0 (kq ≤ k) ∧ Drawn0 w wc)
  case first =>
    have H := HC3.out
    clear HC3
    replace H := Option.bind_eq_some_iff.mp H
    obtain ⟨t351, A40, H⟩ := H
    replace H : (if t351 = 0 then ((mult_elements.f k l0 l1).bind fun t352 => (mult_Light.j0 k l0 l1 (!t352))) else (mult_Light.j0 k l0 l1 true)) = some r := H
    have A4 := Aside0.mk A40
    clear A40
    by_cases c5 : t351 = 0
    · rw [if_pos c5] at H
      have c5b0 : (t351 == 0) = true := beq_iff_eq.mpr c5
      have c5b1 : (t351 != 0) = false := bne_eq_false_iff_eq.mpr c5
      clear c5
      (first | rw [c5b0] | (simp only [i64_w, i32_w]; rw [c5b0]) | skip)
      replace H := Option.bind_eq_some_iff.mp H
      obtain ⟨t352, A60, H⟩ := H
      replace H : (mult_Light.j0 k l0 l1 (!t352)) = some r := H
      have A6 := Aside0.mk A60
      clear A60
      have H' := Aside0.mk H
      clear H
      go_wp2_with (first | (go_at_call 62; (with_reducible refine (mult_shape.calls k _ _ l0 t351 _ ?side1 ?side2 A4.out).mono ?_); (case side1 => repeat (first | exact HR0.out | (with_reducible refine Kd.C_alloc ?_ _) | (with_reducible refine Kd.C_drewN ?_ _) | (with_reducible refine Kd.C_drew ?_))); (case side2 => exact HC0.out); rintro e w' ⟨rfl, ⟨nd, rfl⟩⟩; (try first | exact ⟨rfl, _, World.drewN_drewN _ _ _⟩ | exact ⟨rfl, _, Eq.trans (World.drewN_drewN _ _ _) (congrArg (World.drewN _) (Nat.add_assoc _ _ _))⟩)) | (go_at_call 69; (with_reducible refine (mult_elements.calls k _ _ l0 _ _ l1 t352 _ ?side1 ?side2 ?side3 ?side4 A6.out).mono ?_); (case side1 => repeat (first | exact HR0.out | (with_reducible refine Kd.C_alloc ?_ _) | (with_reducible refine Kd.C_drewN ?_ _) | (with_reducible refine Kd.C_drew ?_))); (case side2 => exact HC0.out); (case side3 => repeat (first | exact HR1.out | (with_reducible refine Kd.C_alloc ?_ _) | (with_reducible refine Kd.C_drewN ?_ _) | (with_reducible refine Kd.C_drew ?_))); (case side4 => exact HC1.out); rintro e w' ⟨rfl, ⟨nd, rfl⟩⟩; (try first | exact ⟨rfl, _, World.drewN_drewN _ _ _⟩ | exact ⟨rfl, _, Eq.trans (World.drewN_drewN _ _ _) (congrArg (World.drewN _) (Nat.add_assoc _ _ _))⟩)))
      repeat (go_quiet (first | (go_at_call 62; (with_reducible refine (mult_shape.calls k _ _ l0 t351 _ ?side1 ?side2 A4.out).mono ?_); (case side1 => repeat (first | exact HR0.out | (with_reducible refine Kd.C_alloc ?_ _) | (with_reducible refine Kd.C_drewN ?_ _) | (with_reducible refine Kd.C_drew ?_))); (case side2 => exact HC0.out); rintro e w' ⟨rfl, ⟨nd, rfl⟩⟩; (try first | exact ⟨rfl, _, World.drewN_drewN _ _ _⟩ | exact ⟨rfl, _, Eq.trans (World.drewN_drewN _ _ _) (congrArg (World.drewN _) (Nat.add_assoc _ _ _))⟩)) | (go_at_call 69; (with_reducible refine (mult_elements.calls k _ _ l0 _ _ l1 t352 _ ?side1 ?side2 ?side3 ?side4 A6.out).mono ?_); (case side1 => repeat (first | exact HR0.out | (with_reducible refine Kd.C_alloc ?_ _) | (with_reducible refine Kd.C_drewN ?_ _) | (with_reducible refine Kd.C_drew ?_))); (case side2 => exact HC0.out); (case side3 => repeat (first | exact HR1.out | (with_reducible refine Kd.C_alloc ?_ _) | (with_reducible refine Kd.C_drewN ?_ _) | (with_reducible refine Kd.C_drew ?_))); (case side4 => exact HC1.out); rintro e w' ⟨rfl, ⟨nd, rfl⟩⟩; (try first | exact ⟨rfl, _, World.drewN_drewN _ _ _⟩ | exact ⟨rfl, _, Eq.trans (World.drewN_drewN _ _ _) (congrArg (World.drewN _) (Nat.add_assoc _ _ _))⟩))); try go_wp2_with (first | (go_at_call 62; (with_reducible refine (mult_shape.calls k _ _ l0 t351 _ ?side1 ?side2 A4.out).mono ?_); (case side1 => repeat (first | exact HR0.out | (with_reducible refine Kd.C_alloc ?_ _) | (with_reducible refine Kd.C_drewN ?_ _) | (with_reducible refine Kd.C_drew ?_))); (case side2 => exact HC0.out); rintro e w' ⟨rfl, ⟨nd, rfl⟩⟩; (try first | exact ⟨rfl, _, World.drewN_drewN _ _ _⟩ | exact ⟨rfl, _, Eq.trans (World.drewN_drewN _ _ _) (congrArg (World.drewN _) (Nat.add_assoc _ _ _))⟩)) | (go_at_call 69; (with_reducible refine (mult_elements.calls k _ _ l0 _ _ l1 t352 _ ?side1 ?side2 ?side3 ?side4 A6.out).mono ?_); (case side1 => repeat (first | exact HR0.out | (with_reducible refine Kd.C_alloc ?_ _) | (with_reducible refine Kd.C_drewN ?_ _) | (with_reducible refine Kd.C_drew ?_))); (case side2 => exact HC0.out); (case side3 => repeat (first | exact HR1.out | (with_reducible refine Kd.C_alloc ?_ _) | (with_reducible refine Kd.C_drewN ?_ _) | (with_reducible refine Kd.C_drew ?_))); (case side4 => exact HC1.out); rintro e w' ⟨rfl, ⟨nd, rfl⟩⟩; (try first | exact ⟨rfl, _, World.drewN_drewN _ _ _⟩ | exact ⟨rfl, _, Eq.trans (World.drewN_drewN _ _ _) (congrArg (World.drewN _) (Nat.add_assoc _ _ _))⟩))))
      go_meet
      case rel => exact ⟨_, (!t352), (by first | rfl | (simp; done) | (simp [*]; done)), H', ⟨by first | omega | exact Nat.le_refl _⟩, by repeat (first | exact Drawn0.refl _ | apply Drawn0.step)⟩
    · rw [if_neg c5] at H
      have c5b0 : (t351 == 0) = false := beq_eq_false_iff_ne.mpr c5
      have c5b1 : (t351 != 0) = true := bne_iff_ne.mpr c5
      (first | rw [c5b0] | (simp only [i64_w, i32_w]; rw [c5b0]) | skip)
      have H' := Aside0.mk H
      clear H
      go_wp2_with (first | (go_at_call 62; (with_reducible refine (mult_shape.calls k _ _ l0 t351 _ ?side1 ?side2 A4.out).mono ?_); (case side1 => repeat (first | exact HR0.out | (with_reducible refine Kd.C_alloc ?_ _) | (with_reducible refine Kd.C_drewN ?_ _) | (with_reducible refine Kd.C_drew ?_))); (case side2 => exact HC0.out); rintro e w' ⟨rfl, ⟨nd, rfl⟩⟩; (try first | exact ⟨rfl, _, World.drewN_drewN _ _ _⟩ | exact ⟨rfl, _, Eq.trans (World.drewN_drewN _ _ _) (congrArg (World.drewN _) (Nat.add_assoc _ _ _))⟩)))
      repeat (go_quiet (first | (go_at_call 62; (with_reducible refine (mult_shape.calls k _ _ l0 t351 _ ?side1 ?side2 A4.out).mono ?_); (case side1 => repeat (first | exact HR0.out | (with_reducible refine Kd.C_alloc ?_ _) | (with_reducible refine Kd.C_drewN ?_ _) | (with_reducible refine Kd.C_drew ?_))); (case side2 => exact HC0.out); rintro e w' ⟨rfl, ⟨nd, rfl⟩⟩; (try first | exact ⟨rfl, _, World.drewN_drewN _ _ _⟩ | exact ⟨rfl, _, Eq.trans (World.drewN_drewN _ _ _) (congrArg (World.drewN _) (Nat.add_assoc _ _ _))⟩))); try go_wp2_with (first | (go_at_call 62; (with_reducible refine (mult_shape.calls k _ _ l0 t351 _ ?side1 ?side2 A4.out).mono ?_); (case side1 => repeat (first | exact HR0.out | (with_reducible refine Kd.C_alloc ?_ _) | (with_reducible refine Kd.C_drewN ?_ _) | (with_reducible refine Kd.C_drew ?_))); (case side2 => exact HC0.out); rintro e w' ⟨rfl, ⟨nd, rfl⟩⟩; (try first | exact ⟨rfl, _, World.drewN_drewN _ _ _⟩ | exact ⟨rfl, _, Eq.trans (World.drewN_drewN _ _ _) (congrArg (World.drewN _) (Nat.add_assoc _ _ _))⟩))))
      go_meet
      case rel => exact ⟨_, (true), (by first | rfl | (simp; done) | (simp [*]; done)), H', ⟨by first | omega | exact Nat.le_refl _⟩, by repeat (first | exact Drawn0.refl _ | apply Drawn0.step)⟩
  case rest =>
    clear HC3
    try clear c1
    try clear p2
    try clear c3
    try clear c5
    try clear c5b0
    try clear c5b1
    obtain ⟨kq, x17_2, rfl, HA, HJ2, ⟨mc2, rfl⟩⟩ := hcut
    cases kq with
    | zero => exact absurd HA.out (by simp [mult_Light.j0])
    | succ kj2 =>
      have H := HA.out
      clear HA
      simp only [mult_Light.j0] at H
      by_cases c7 : x17_2 = true
      · subst c7
        have H1 : (some false) = some r := by rw [if_pos rfl] at H; exact H
        clear H
        have H := H1
        clear H1
        obtain rfl := Option.some.inj H
        go_wp2
        repeat (go_quiet (fail); try go_wp2)
        go_ret
        exact ⟨by first | rfl | (simp; done) | (simp [*]; done), by repeat (first | exact Drawn0.refl _ | apply Drawn0.step)⟩
      · replace c7 := Bool.eq_false_iff.mpr c7
        subst c7
        have H1 : (mult_Light.l0 kj2 l0 l1 (l1.length : Int) 0) = some r := by rw [if_neg (show ¬ (false = true) by decide)] at H; exact H
        clear H
        have H := H1
        clear H1
        have H' := Aside0.mk H
        clear H
        go_wp2
        repeat (go_quiet (fail); try go_wp2)
        go_loopg [20] kj2 (fun kq v20 w' => ∃ (x20_2 : Int), v20 = .int .i64 x20_2 ∧ Aside0 (mult_Light.l0 kq l0 l1 (l1.length : Int) x20_2 = some r) ∧ Aside0 (kq ≤ kj2) ∧ Drawn0 w w')
        case atStart => exact ⟨(0), (by first | rfl | (simp; done) | (simp [*]; done)), H', ⟨Nat.le_refl _⟩, by repeat (first | exact Drawn0.refl _ | apply Drawn0.step)⟩
        case round =>
          clear H'
          try clear c1
          try clear c2
          try clear p2
          try clear c3
          try clear c5
          try clear c5b0
          try clear c5b1
          try clear c7
          try clear p2
          obtain ⟨x20_2, rfl, HA, HK2, ⟨m2, rfl⟩⟩ := hrel
          cases gk with
          | zero => exact absurd HA.out (by simp [mult_Light.l0])
          | succ k2 =>
            have H := HA.out
            clear HA
            simp only [mult_Light.l0] at H
            by_cases c8 : x20_2 < (l1.length : Int)
            · rw [if_pos c8] at H
              have c8b0 : decide (x20_2 < (l1.length : Int)) = true := decide_eq_true c8
              clear c8
              by_cases c9 : 0 ≤ x20_2
              · rw [if_pos c9] at H
                have c9b0 : decide (0 ≤ x20_2) = true := decide_eq_true c9
                clear c9
                by_cases c10 : x20_2 < (l1.length : Int)
                · rw [if_pos c10] at H
                  have c10b0 : decide (x20_2 < (l1.length : Int)) = true := decide_eq_true c10
                  clear c10
                  have H' := Aside0.mk H
                  clear H
                  have p353 : 0 ≤ (x20_2 : Int) := of_decide_eq_true (by first | (with_reducible assumption) | assumption)
                  have q353 : x20_2 < (l1.length : Int) := of_decide_eq_true (by first | (with_reducible assumption) | assumption)
                  obtain ⟨ad353, e353, hx353_0⟩ := Kd.at_int HR1.out x20_2 p353 q353
                  cases e353
                  replace p353 := eq_true p353
                  replace q353 := eq_true q353
                  go_wp2
                  repeat (go_quiet (fail); try go_wp2)
                  go_loopg [26] k2 (fun kq v26 w' => ∃ (x26_3 : Int), v26 = .int .i64 x26_3 ∧ Aside0 (mult_Light.l1 kq l0 (rd l1 x20_2) l1 (l1.length : Int) x20_2 (l0.length : Int) x26_3 = some r) ∧ Aside0 (kq ≤ k2) ∧ Drawn0 w w')
                  case atStart => exact ⟨(0), (by first | rfl | (simp; done) | (simp [*]; done)), H', ⟨Nat.le_refl _⟩, by repeat (first | exact Drawn0.refl _ | apply Drawn0.step)⟩
                  case round =>
                    clear H'
                    try clear c1
                    try clear c2
                    try clear p2
                    try clear c3
                    try clear p3
                    try clear q3
                    try clear hx3
                    try clear c5
                    try clear c5b0
                    try clear c5b1
                    try clear c7
                    try clear c8
                    try clear c8b0
                    try clear c9
                    try clear c9b0
                    try clear c10
                    try clear c10b0
                    try clear hx353_0
                    try clear p2
                    try clear p353
                    try clear q353
                    obtain ⟨x26_3, rfl, HA, HK3, ⟨m3, rfl⟩⟩ := hrel
                    cases gk with
                    | zero => exact absurd HA.out (by simp [mult_Light.l1])
                    | succ k3 =>
                      have H := HA.out
                      clear HA
                      simp only [mult_Light.l1] at H
                      by_cases c11 : x26_3 < (l0.length : Int)
                      · rw [if_pos c11] at H
                        have c11b0 : decide (x26_3 < (l0.length : Int)) = true := decide_eq_true c11
                        clear c11
                        have H' := Aside0.mk H
                        clear H
                        go_wp2
                        repeat (go_quiet (fail); try go_wp2)
                        go_loopg [31] k3 (fun kq v31 w' => ∃ (x31_4 : Int), v31 = .int .i64 x31_4 ∧ Aside0 (mult_Light.l2 kq l0 (rd l1 x20_2) x26_3 l1 (l1.length : Int) x20_2 (l0.length : Int) x26_3 (l0.length : Int) x31_4 = some r) ∧ Aside0 (kq ≤ k3) ∧ Drawn0 w w')
                        case atStart => exact ⟨(0), (by first | rfl | (simp; done) | (simp [*]; done)), H', ⟨Nat.le_refl _⟩, by repeat (first | exact Drawn0.refl _ | apply Drawn0.step)⟩
                        case round =>
                          clear H'
                          try clear c1
                          try clear c2
                          try clear p2
                          try clear c3
                          try clear p3
                          try clear q3
                          try clear hx3
                          try clear c5
                          try clear c5b0
                          try clear c5b1
                          try clear c7
                          try clear c8
                          try clear c8b0
                          try clear c9
                          try clear c9b0
                          try clear c10
                          try clear c10b0
                          try clear c11
                          try clear c11b0
                          try clear hx353_0
                          try clear p2
                          try clear p3
                          try clear p353
                          try clear q3
                          try clear q353
                          obtain ⟨x31_4, rfl, HA, HK4, ⟨m4, rfl⟩⟩ := hrel
                          cases gk with
                          | zero => exact absurd HA.out (by simp [mult_Light.l2])
                          | succ k4 =>
                            have H := HA.out
                            clear HA
                            simp only [mult_Light.l2] at H
                            by_cases c12 : x31_4 < (l0.length : Int)
                            · rw [if_pos c12] at H
                              have c12b0 : decide (x31_4 < (l0.length : Int)) = true := decide_eq_true c12
                              clear c12
                              by_cases c13 : 0 ≤ x26_3
                              · rw [if_pos c13] at H
                                have c13b0 : decide (0 ≤ x26_3) = true := decide_eq_true c13
                                clear c13
                                by_cases c14 : x26_3 < (l0.length : Int)
                                · rw [if_pos c14] at H
                                  have c14b0 : decide (x26_3 < (l0.length : Int)) = true := decide_eq_true c14
                                  clear c14
                                  by_cases c15 : 0 ≤ (rd l1 x20_2)
                                  · rw [if_pos c15] at H
                                    have c15b0 : decide (0 ≤ (rd l1 x20_2)) = true := decide_eq_true c15
                                    clear c15
                                    by_cases c16 : (rd l1 x20_2) < ((rd_L1 l0 x26_3).length : Int)
                                    · rw [if_pos c16] at H
                                      have c16b0 : decide ((rd l1 x20_2) < ((rd_L1 l0 x26_3).length : Int)) = true := decide_eq_true c16
                                      clear c16
                                      by_cases c17 : 0 ≤ (rd (rd_L1 l0 x26_3) (rd l1 x20_2))
                                      · rw [if_pos c17] at H
                                        have c17b0 : decide (0 ≤ (rd (rd_L1 l0 x26_3) (rd l1 x20_2))) = true := decide_eq_true c17
                                        clear c17
                                        by_cases c18 : (rd (rd_L1 l0 x26_3) (rd l1 x20_2)) < (l0.length : Int)
                                        · rw [if_pos c18] at H
                                          have c18b0 : decide ((rd (rd_L1 l0 x26_3) (rd l1 x20_2)) < (l0.length : Int)) = true := decide_eq_true c18
                                          clear c18
                                          by_cases c19 : 0 ≤ x31_4
                                          · rw [if_pos c19] at H
                                            have c19b0 : decide (0 ≤ x31_4) = true := decide_eq_true c19
                                            clear c19
                                            by_cases c20 : x31_4 < ((rd_L1 l0 (rd (rd_L1 l0 x26_3) (rd l1 x20_2))).length : Int)
                                            · rw [if_pos c20] at H
                                              have c20b0 : decide (x31_4 < ((rd_L1 l0 (rd (rd_L1 l0 x26_3) (rd l1 x20_2))).length : Int)) = true := decide_eq_true c20
                                              clear c20
                                              by_cases c21 : (rd l1 x20_2) < (l0.length : Int)
                                              · rw [if_pos c21] at H
                                                have c21b0 : decide ((rd l1 x20_2) < (l0.length : Int)) = true := decide_eq_true c21
                                                clear c21
                                                by_cases c22 : x31_4 < ((rd_L1 l0 (rd l1 x20_2)).length : Int)
                                                · rw [if_pos c22] at H
                                                  have c22b0 : decide (x31_4 < ((rd_L1 l0 (rd l1 x20_2)).length : Int)) = true := decide_eq_true c22
                                                  clear c22
                                                  by_cases c23 : 0 ≤ (rd (rd_L1 l0 (rd l1 x20_2)) x31_4)
                                                  · rw [if_pos c23] at H
                                                    have c23b0 : decide (0 ≤ (rd (rd_L1 l0 (rd l1 x20_2)) x31_4)) = true := decide_eq_true c23
                                                    clear c23
                                                    by_cases c24 : (rd (rd_L1 l0 (rd l1 x20_2)) x31_4) < ((rd_L1 l0 x26_3).length : Int)
                                                    · rw [if_pos c24] at H
                                                      have c24b0 : decide ((rd (rd_L1 l0 (rd l1 x20_2)) x31_4) < ((rd_L1 l0 x26_3).length : Int)) = true := decide_eq_true c24
                                                      clear c24
                                                      by_cases c25 : (rd (rd_L1 l0 (rd (rd_L1 l0 x26_3) (rd l1 x20_2))) x31_4) = (rd (rd_L1 l0 x26_3) (rd (rd_L1 l0 (rd l1 x20_2)) x31_4))
                                                      · rw [if_pos c25] at H
                                                        have c25b0 : ((rd (rd_L1 l0 (rd (rd_L1 l0 x26_3) (rd l1 x20_2))) x31_4) == (rd (rd_L1 l0 x26_3) (rd (rd_L1 l0 (rd l1 x20_2)) x31_4))) = true := beq_iff_eq.mpr c25
                                                        have c25b1 : ((rd (rd_L1 l0 (rd (rd_L1 l0 x26_3) (rd l1 x20_2))) x31_4) != (rd (rd_L1 l0 x26_3) (rd (rd_L1 l0 (rd l1 x20_2)) x31_4))) = false := bne_eq_false_iff_eq.mpr c25
                                                        clear c25
                                                        have H' := Aside0.mk H
                                                        clear H
                                                        have p354 : 0 ≤ (x26_3 : Int) := of_decide_eq_true (by first | (with_reducible assumption) | assumption)
                                                        have q354 : x26_3 < (l0.length : Int) := of_decide_eq_true (by first | (with_reducible assumption) | assumption)
                                                        obtain ⟨ad354, A354_0, c354_0, e354, hx354_0, hl354_0, hi354_0⟩ := at_L1 HR0.out x26_3 p354 q354
                                                        cases e354
                                                        have HR354_0 := Aside0.mk hi354_0
                                                        have HC354_0 := Aside0.mk hl354_0
                                                        (try clear hi354_0); (try clear hl354_0)
                                                        replace p354 := eq_true p354
                                                        replace q354 := eq_true q354
                                                        have p355 : 0 ≤ ((rd l1 x20_2) : Int) := of_decide_eq_true (by first | (with_reducible assumption) | assumption)
                                                        have q355 : (rd l1 x20_2) < ((rd_L1 l0 x26_3).length : Int) := of_decide_eq_true (by first | (with_reducible assumption) | assumption)
                                                        obtain ⟨ad355, e355, hx355_0⟩ := Kd.at_int HR354_0.out (rd l1 x20_2) p355 q355
                                                        cases e355
                                                        replace p355 := eq_true p355
                                                        replace q355 := eq_true q355
                                                        have p356 : 0 ≤ ((rd (rd_L1 l0 x26_3) (rd l1 x20_2)) : Int) := of_decide_eq_true (by first | (with_reducible assumption) | assumption)
                                                        have q356 : (rd (rd_L1 l0 x26_3) (rd l1 x20_2)) < (l0.length : Int) := of_decide_eq_true (by first | (with_reducible assumption) | assumption)
                                                        obtain ⟨ad356, A356_0, c356_0, e356, hx356_0, hl356_0, hi356_0⟩ := at_L1 HR0.out (rd (rd_L1 l0 x26_3) (rd l1 x20_2)) p356 q356
                                                        obtain rfl : ad354 = ad356 := (by injection e356)
                                                        have HR356_0 := Aside0.mk hi356_0
                                                        have HC356_0 := Aside0.mk hl356_0
                                                        (try clear hi356_0); (try clear hl356_0)
                                                        replace p356 := eq_true p356
                                                        replace q356 := eq_true q356
                                                        have p357 : 0 ≤ (x31_4 : Int) := of_decide_eq_true (by first | (with_reducible assumption) | assumption)
                                                        have q357 : x31_4 < ((rd_L1 l0 (rd (rd_L1 l0 x26_3) (rd l1 x20_2))).length : Int) := of_decide_eq_true (by first | (with_reducible assumption) | assumption)
                                                        obtain ⟨ad357, e357, hx357_0⟩ := Kd.at_int HR356_0.out x31_4 p357 q357
                                                        cases e357
                                                        replace p357 := eq_true p357
                                                        replace q357 := eq_true q357
                                                        have p358 : 0 ≤ (x26_3 : Int) := of_decide_eq_true (by first | (with_reducible assumption) | assumption)
                                                        have q358 : x26_3 < (l0.length : Int) := of_decide_eq_true (by first | (with_reducible assumption) | assumption)
                                                        obtain ⟨ad358, A358_0, c358_0, e358, hx358_0, hl358_0, hi358_0⟩ := at_L1 HR0.out x26_3 p358 q358
                                                        obtain rfl : ad354 = ad358 := (by injection e358)
                                                        have HR358_0 := Aside0.mk hi358_0
                                                        have HC358_0 := Aside0.mk hl358_0
                                                        (try clear hi358_0); (try clear hl358_0)
                                                        replace p358 := eq_true p358
                                                        replace q358 := eq_true q358
                                                        have ea_ := Option.some.inj (hx354_0.symm.trans hx358_0)
                                                        injection ea_ with ea_ en_ ec_
                                                        subst ea_
                                                        subst ec_
                                                        clear en_
                                                        have p359 : 0 ≤ ((rd l1 x20_2) : Int) := of_decide_eq_true (by first | (with_reducible assumption) | assumption)
                                                        have q359 : (rd l1 x20_2) < (l0.length : Int) := of_decide_eq_true (by first | (with_reducible assumption) | assumption)
                                                        obtain ⟨ad359, A359_0, c359_0, e359, hx359_0, hl359_0, hi359_0⟩ := at_L1 HR0.out (rd l1 x20_2) p359 q359
                                                        obtain rfl : ad354 = ad359 := (by injection e359)
                                                        have HR359_0 := Aside0.mk hi359_0
                                                        have HC359_0 := Aside0.mk hl359_0
                                                        (try clear hi359_0); (try clear hl359_0)
                                                        replace p359 := eq_true p359
                                                        replace q359 := eq_true q359
                                                        have p360 : 0 ≤ (x31_4 : Int) := of_decide_eq_true (by first | (with_reducible assumption) | assumption)
                                                        have q360 : x31_4 < ((rd_L1 l0 (rd l1 x20_2)).length : Int) := of_decide_eq_true (by first | (with_reducible assumption) | assumption)
                                                        obtain ⟨ad360, e360, hx360_0⟩ := Kd.at_int HR359_0.out x31_4 p360 q360
                                                        cases e360
                                                        replace p360 := eq_true p360
                                                        replace q360 := eq_true q360
                                                        have p361 : 0 ≤ ((rd (rd_L1 l0 (rd l1 x20_2)) x31_4) : Int) := of_decide_eq_true (by first | (with_reducible assumption) | assumption)
                                                        have q361 : (rd (rd_L1 l0 (rd l1 x20_2)) x31_4) < ((rd_L1 l0 x26_3).length : Int) := of_decide_eq_true (by first | (with_reducible assumption) | assumption)
                                                        obtain ⟨ad361, e361, hx361_0⟩ := Kd.at_int HR358_0.out (rd (rd_L1 l0 (rd l1 x20_2)) x31_4) p361 q361
                                                        cases e361
                                                        replace p361 := eq_true p361
                                                        replace q361 := eq_true q361
                                                        go_wp2
                                                        repeat (go_quiet (fail); try go_wp2)
                                                        go_roundg k4
                                                        case measure => have := HJ2.out; have := HK2.out; have := HK3.out; have := HK4.out; omega
                                                        case rel => exact ⟨(wrap64 (x31_4 + 1)), (by first | rfl | (simp; done) | (simp [*]; done)), H', ⟨by have := HJ2.out; have := HK2.out; have := HK3.out; have := HK4.out; omega⟩, by repeat (first | exact Drawn0.refl _ | apply Drawn0.step)⟩
                                                      · rw [if_neg c25] at H
                                                        have c25b0 : ((rd (rd_L1 l0 (rd (rd_L1 l0 x26_3) (rd l1 x20_2))) x31_4) == (rd (rd_L1 l0 x26_3) (rd (rd_L1 l0 (rd l1 x20_2)) x31_4))) = false := beq_eq_false_iff_ne.mpr c25
                                                        have c25b1 : ((rd (rd_L1 l0 (rd (rd_L1 l0 x26_3) (rd l1 x20_2))) x31_4) != (rd (rd_L1 l0 x26_3) (rd (rd_L1 l0 (rd l1 x20_2)) x31_4))) = true := bne_iff_ne.mpr c25
                                                        obtain rfl := Option.some.inj H
                                                        have p354 : 0 ≤ (x26_3 : Int) := of_decide_eq_true (by first | (with_reducible assumption) | assumption)
                                                        have q354 : x26_3 < (l0.length : Int) := of_decide_eq_true (by first | (with_reducible assumption) | assumption)
                                                        obtain ⟨ad354, A354_0, c354_0, e354, hx354_0, hl354_0, hi354_0⟩ := at_L1 HR0.out x26_3 p354 q354
                                                        cases e354
                                                        have HR354_0 := Aside0.mk hi354_0
                                                        have HC354_0 := Aside0.mk hl354_0
                                                        (try clear hi354_0); (try clear hl354_0)
                                                        replace p354 := eq_true p354
                                                        replace q354 := eq_true q354
                                                        have p355 : 0 ≤ ((rd l1 x20_2) : Int) := of_decide_eq_true (by first | (with_reducible assumption) | assumption)
                                                        have q355 : (rd l1 x20_2) < ((rd_L1 l0 x26_3).length : Int) := of_decide_eq_true (by first | (with_reducible assumption) | assumption)
                                                        obtain ⟨ad355, e355, hx355_0⟩ := Kd.at_int HR354_0.out (rd l1 x20_2) p355 q355
                                                        cases e355
                                                        replace p355 := eq_true p355
                                                        replace q355 := eq_true q355
                                                        have p356 : 0 ≤ ((rd (rd_L1 l0 x26_3) (rd l1 x20_2)) : Int) := of_decide_eq_true (by first | (with_reducible assumption) | assumption)
                                                        have q356 : (rd (rd_L1 l0 x26_3) (rd l1 x20_2)) < (l0.length : Int) := of_decide_eq_true (by first | (with_reducible assumption) | assumption)
                                                        obtain ⟨ad356, A356_0, c356_0, e356, hx356_0, hl356_0, hi356_0⟩ := at_L1 HR0.out (rd (rd_L1 l0 x26_3) (rd l1 x20_2)) p356 q356
                                                        obtain rfl : ad354 = ad356 := (by injection e356)
                                                        have HR356_0 := Aside0.mk hi356_0
                                                        have HC356_0 := Aside0.mk hl356_0
                                                        (try clear hi356_0); (try clear hl356_0)
                                                        replace p356 := eq_true p356
                                                        replace q356 := eq_true q356
                                                        have p357 : 0 ≤ (x31_4 : Int) := of_decide_eq_true (by first | (with_reducible assumption) | assumption)
                                                        have q357 : x31_4 < ((rd_L1 l0 (rd (rd_L1 l0 x26_3) (rd l1 x20_2))).length : Int) := of_decide_eq_true (by first | (with_reducible assumption) | assumption)
                                                        obtain ⟨ad357, e357, hx357_0⟩ := Kd.at_int HR356_0.out x31_4 p357 q357
                                                        cases e357
                                                        replace p357 := eq_true p357
                                                        replace q357 := eq_true q357
                                                        have p358 : 0 ≤ (x26_3 : Int) := of_decide_eq_true (by first | (with_reducible assumption) | assumption)
                                                        have q358 : x26_3 < (l0.length : Int) := of_decide_eq_true (by first | (with_reducible assumption) | assumption)
                                                        obtain ⟨ad358, A358_0, c358_0, e358, hx358_0, hl358_0, hi358_0⟩ := at_L1 HR0.out x26_3 p358 q358
                                                        obtain rfl : ad354 = ad358 := (by injection e358)
                                                        have HR358_0 := Aside0.mk hi358_0
                                                        have HC358_0 := Aside0.mk hl358_0
                                                        (try clear hi358_0); (try clear hl358_0)
                                                        replace p358 := eq_true p358
                                                        replace q358 := eq_true q358
                                                        have ea_ := Option.some.inj (hx354_0.symm.trans hx358_0)
                                                        injection ea_ with ea_ en_ ec_
                                                        subst ea_
                                                        subst ec_
                                                        clear en_
                                                        have p359 : 0 ≤ ((rd l1 x20_2) : Int) := of_decide_eq_true (by first | (with_reducible assumption) | assumption)
                                                        have q359 : (rd l1 x20_2) < (l0.length : Int) := of_decide_eq_true (by first | (with_reducible assumption) | assumption)
                                                        obtain ⟨ad359, A359_0, c359_0, e359, hx359_0, hl359_0, hi359_0⟩ := at_L1 HR0.out (rd l1 x20_2) p359 q359
                                                        obtain rfl : ad354 = ad359 := (by injection e359)
                                                        have HR359_0 := Aside0.mk hi359_0
                                                        have HC359_0 := Aside0.mk hl359_0
                                                        (try clear hi359_0); (try clear hl359_0)
                                                        replace p359 := eq_true p359
                                                        replace q359 := eq_true q359
                                                        have p360 : 0 ≤ (x31_4 : Int) := of_decide_eq_true (by first | (with_reducible assumption) | assumption)
                                                        have q360 : x31_4 < ((rd_L1 l0 (rd l1 x20_2)).length : Int) := of_decide_eq_true (by first | (with_reducible assumption) | assumption)
                                                        obtain ⟨ad360, e360, hx360_0⟩ := Kd.at_int HR359_0.out x31_4 p360 q360
                                                        cases e360
                                                        replace p360 := eq_true p360
                                                        replace q360 := eq_true q360
                                                        have p361 : 0 ≤ ((rd (rd_L1 l0 (rd l1 x20_2)) x31_4) : Int) := of_decide_eq_true (by first | (with_reducible assumption) | assumption)
                                                        have q361 : (rd (rd_L1 l0 (rd l1 x20_2)) x31_4) < ((rd_L1 l0 x26_3).length : Int) := of_decide_eq_true (by first | (with_reducible assumption) | assumption)
                                                        obtain ⟨ad361, e361, hx361_0⟩ := Kd.at_int HR358_0.out (rd (rd_L1 l0 (rd l1 x20_2)) x31_4) p361 q361
                                                        cases e361
                                                        replace p361 := eq_true p361
                                                        replace q361 := eq_true q361
                                                        go_wp2
                                                        repeat (go_quiet (fail); try go_wp2)
                                                        go_ret
                                                        exact ⟨by first | rfl | (simp; done) | (simp [*]; done), by repeat (first | exact Drawn0.refl _ | apply Drawn0.step)⟩
                                                    · rw [if_neg c24] at H
                                                      exact absurd H (by simp)
                                                  · rw [if_neg c23] at H
                                                    exact absurd H (by simp)
                                                · rw [if_neg c22] at H
                                                  exact absurd H (by simp)
                                              · rw [if_neg c21] at H
                                                exact absurd H (by simp)
                                            · rw [if_neg c20] at H
                                              exact absurd H (by simp)
                                          · rw [if_neg c19] at H
                                            exact absurd H (by simp)
                                        · rw [if_neg c18] at H
                                          exact absurd H (by simp)
                                      · rw [if_neg c17] at H
                                        exact absurd H (by simp)
                                    · rw [if_neg c16] at H
                                      exact absurd H (by simp)
                                  · rw [if_neg c15] at H
                                    exact absurd H (by simp)
                                · rw [if_neg c14] at H
                                  exact absurd H (by simp)
                              · rw [if_neg c13] at H
                                exact absurd H (by simp)
                            · rw [if_neg c12] at H
                              have c12b0 : decide (x31_4 < (l0.length : Int)) = false := decide_eq_false c12
                              clear c12
                              have H' := Aside0.mk H
                              clear H
                              go_wp2
                              repeat (go_quiet (fail); try go_wp2)
                              go_roundg k4
                              case measure => have := HJ2.out; have := HK2.out; have := HK3.out; have := HK4.out; omega
                              case rel => exact ⟨(wrap64 (x26_3 + 1)), (by first | rfl | (simp; done) | (simp [*]; done)), H', ⟨by have := HJ2.out; have := HK2.out; have := HK3.out; have := HK4.out; omega⟩, by repeat (first | exact Drawn0.refl _ | apply Drawn0.step)⟩
                      · rw [if_neg c11] at H
                        have c11b0 : decide (x26_3 < (l0.length : Int)) = false := decide_eq_false c11
                        clear c11
                        have H' := Aside0.mk H
                        clear H
                        go_wp2
                        repeat (go_quiet (fail); try go_wp2)
                        go_roundg k3
                        case measure => have := HJ2.out; have := HK2.out; have := HK3.out; omega
                        case rel => exact ⟨(wrap64 (x20_2 + 1)), (by first | rfl | (simp; done) | (simp [*]; done)), H', ⟨by have := HJ2.out; have := HK2.out; have := HK3.out; omega⟩, by repeat (first | exact Drawn0.refl _ | apply Drawn0.step)⟩
                · rw [if_neg c10] at H
                  exact absurd H (by simp)
              · rw [if_neg c9] at H
                exact absurd H (by simp)
            · rw [if_neg c8] at H
              have c8b0 : decide (x20_2 < (l1.length : Int)) = false := decide_eq_false c8
              clear c8
              obtain rfl := Option.some.inj H
              go_wp2
              repeat (go_quiet (fail); try go_wp2)
              go_ret
              exact ⟨by first | rfl | (simp; done) | (simp [*]; done), by repeat (first | exact Drawn0.refl _ | apply Drawn0.step)⟩

end Go.Proofs.Ytlhckcldeojfmaa.PAll
