-- printed for this claim by printall.sh out of the translation; Lean checks it
import Derived.Test.YtlhckcldeojfmaaPAllx0
import Derived.Test.YtlhckcldeojfmaaPAllx3
import Derived.Test.YtlhckcldeojfmaaPAllx6
namespace Go.Proofs.Ytlhckcldeojfmaa.PAll
open Go.RowKit Go.Proofs.YtlhckcldeojfmaaW.PrintWords Go.Proofs.YtlhckcldeojfmaaW.PrintLast Go.Proofs.YtlhckcldeojfmaaW.PrintMore
attribute [local go_sem] max2_int min2_int max_two min_two max_three min_three max_four min_four   -- for this text's walks alone
set_option linter.unusedVariables false
set_option linter.unusedSimpArgs false

/-! ### semigroupref14_Light: function 40 -/
mutual
def semigroupref14_Light.j0 : Nat → List (List Int) → List Int → Bool → Option (Bool)
  | 0, _, _, _ => none
  | k + 1, x0, x1, x17 => if x17 = true then (some false) else (semigroupref14_Light.l0 k x0 x1 (x1.length : Int) 0)
def semigroupref14_Light.l0 : Nat → List (List Int) → List Int → Int → Int → Option (Bool)
  | 0, _, _, _, _ => none
  | k + 1, x0, x18, x19, x20 => if x20 < x19 then (if 0 ≤ x20 then (if x20 < (x18.length : Int) then (semigroupref14_Light.l1 k x0 (rd x18 x20) x18 x19 x20 (x0.length : Int) 0) else (none)) else (none)) else (some true)
def semigroupref14_Light.l1 : Nat → List (List Int) → Int → List Int → Int → Int → Int → Int → Option (Bool)
  | 0, _, _, _, _, _, _, _ => none
  | k + 1, x0, x6, x18, x19, x20, x25, x26 => if x26 < x25 then (semigroupref14_Light.l2 k x0 x6 x26 x18 x19 x20 x25 x26 (x0.length : Int) 0) else (semigroupref14_Light.l0 k x0 x18 x19 (wrap64 (x20 + 1)))
def semigroupref14_Light.l2 : Nat → List (List Int) → Int → Int → List Int → Int → Int → Int → Int → Int → Int → Option (Bool)
  | 0, _, _, _, _, _, _, _, _, _, _ => none
  | k + 1, x0, x6, x7, x18, x19, x20, x25, x26, x30, x31 => if x31 < x30 then (if 0 ≤ x7 then (if x7 < (x0.length : Int) then (if 0 ≤ x6 then (if x6 < ((rd_L1 x0 x7).length : Int) then (if 0 ≤ (rd (rd_L1 x0 x7) x6) then (if (rd (rd_L1 x0 x7) x6) < (x0.length : Int) then (if 0 ≤ x31 then (if x31 < ((rd_L1 x0 (rd (rd_L1 x0 x7) x6)).length : Int) then (if x6 < (x0.length : Int) then (if x31 < ((rd_L1 x0 x6).length : Int) then (if 0 ≤ (rd (rd_L1 x0 x6) x31) then (if (rd (rd_L1 x0 x6) x31) < ((rd_L1 x0 x7).length : Int) then (if (rd (rd_L1 x0 (rd (rd_L1 x0 x7) x6)) x31) = (rd (rd_L1 x0 x7) (rd (rd_L1 x0 x6) x31)) then (semigroupref14_Light.l2 k x0 x6 x7 x18 x19 x20 x25 x26 x30 (wrap64 (x31 + 1))) else (some false)) else (none)) else (none)) else (none)) else (none)) else (none)) else (none)) else (none)) else (none)) else (none)) else (none)) else (none)) else (none)) else (semigroupref14_Light.l1 k x0 x6 x18 x19 x20 x25 (wrap64 (x26 + 1)))
end
def semigroupref14_Light.f (k : Nat) (l0 : List (List Int)) (l1 : List Int) : Option (Bool) := (semigroupref14_Shape.f k l0).bind fun t362 => (if t362 = 0 then ((semigroupref14_In.f k l0 l1).bind fun t363 => (semigroupref14_Light.j0 k l0 l1 (!t363))) else (semigroupref14_Light.j0 k l0 l1 true))
theorem semigroupref14_Light.mono_l : ∀ k, (∀ y0 y1 y2, LeO (semigroupref14_Light.j0 k y0 y1 y2) (semigroupref14_Light.j0 (k + 1) y0 y1 y2)) ∧ (∀ y0 y1 y2 y3, LeO (semigroupref14_Light.l0 k y0 y1 y2 y3) (semigroupref14_Light.l0 (k + 1) y0 y1 y2 y3)) ∧ (∀ y0 y1 y2 y3 y4 y5 y6, LeO (semigroupref14_Light.l1 k y0 y1 y2 y3 y4 y5 y6) (semigroupref14_Light.l1 (k + 1) y0 y1 y2 y3 y4 y5 y6)) ∧ (∀ y0 y1 y2 y3 y4 y5 y6 y7 y8 y9, LeO (semigroupref14_Light.l2 k y0 y1 y2 y3 y4 y5 y6 y7 y8 y9) (semigroupref14_Light.l2 (k + 1) y0 y1 y2 y3 y4 y5 y6 y7 y8 y9))
  | 0 => ⟨fun _ _ _ r h => by simp [semigroupref14_Light.j0] at h, fun _ _ _ _ r h => by simp [semigroupref14_Light.l0] at h, fun _ _ _ _ _ _ _ r h => by simp [semigroupref14_Light.l1] at h, fun _ _ _ _ _ _ _ _ _ _ r h => by simp [semigroupref14_Light.l2] at h⟩
  | k + 1 => by
    obtain ⟨ih0, ih1, ih2, ih3⟩ := semigroupref14_Light.mono_l k
    refine ⟨?_, ?_, ?_, ?_⟩
    · intro y0 y1 y2
      unfold semigroupref14_Light.j0
      repeat' first
      | (with_reducible exact ih0 _ _ _)
      | (with_reducible exact ih1 _ _ _ _)
      | (with_reducible exact ih2 _ _ _ _ _ _ _)
      | (with_reducible exact ih3 _ _ _ _ _ _ _ _ _ _)
      | (with_reducible exact semigroupref14_In.mono _ _ _)
      | (with_reducible exact semigroupref14_Shape.mono _ _)
      | (with_reducible exact LeO.refl _)
      | (with_reducible exact LeO.none _)
      | (with_reducible refine LeO.ite ?_ ?_)
      | (with_reducible refine LeO.bind ?_ (fun _ => ?_))
      | exact ih0 _ _ _
      | exact ih1 _ _ _ _
      | exact ih2 _ _ _ _ _ _ _
      | exact ih3 _ _ _ _ _ _ _ _ _ _
      | exact semigroupref14_In.mono _ _ _
      | exact semigroupref14_Shape.mono _ _
      | exact LeO.none _
      | refine LeO.ite ?_ ?_
      | refine LeO.bind ?_ (fun _ => ?_)
    · intro y0 y1 y2 y3
      unfold semigroupref14_Light.l0
      repeat' first
      | (with_reducible exact ih0 _ _ _)
      | (with_reducible exact ih1 _ _ _ _)
      | (with_reducible exact ih2 _ _ _ _ _ _ _)
      | (with_reducible exact ih3 _ _ _ _ _ _ _ _ _ _)
      | (with_reducible exact semigroupref14_In.mono _ _ _)
      | (with_reducible exact semigroupref14_Shape.mono _ _)
      | (with_reducible exact LeO.refl _)
      | (with_reducible exact LeO.none _)
      | (with_reducible refine LeO.ite ?_ ?_)
      | (with_reducible refine LeO.bind ?_ (fun _ => ?_))
      | exact ih0 _ _ _
      | exact ih1 _ _ _ _
      | exact ih2 _ _ _ _ _ _ _
      | exact ih3 _ _ _ _ _ _ _ _ _ _
      | exact semigroupref14_In.mono _ _ _
      | exact semigroupref14_Shape.mono _ _
      | exact LeO.none _
      | refine LeO.ite ?_ ?_
      | refine LeO.bind ?_ (fun _ => ?_)
    · intro y0 y1 y2 y3 y4 y5 y6
      unfold semigroupref14_Light.l1
      repeat' first
      | (with_reducible exact ih0 _ _ _)
      | (with_reducible exact ih1 _ _ _ _)
      | (with_reducible exact ih2 _ _ _ _ _ _ _)
      | (with_reducible exact ih3 _ _ _ _ _ _ _ _ _ _)
      | (with_reducible exact semigroupref14_In.mono _ _ _)
      | (with_reducible exact semigroupref14_Shape.mono _ _)
      | (with_reducible exact LeO.refl _)
      | (with_reducible exact LeO.none _)
      | (with_reducible refine LeO.ite ?_ ?_)
      | (with_reducible refine LeO.bind ?_ (fun _ => ?_))
      | exact ih0 _ _ _
      | exact ih1 _ _ _ _
      | exact ih2 _ _ _ _ _ _ _
      | exact ih3 _ _ _ _ _ _ _ _ _ _
      | exact semigroupref14_In.mono _ _ _
      | exact semigroupref14_Shape.mono _ _
      | exact LeO.none _
      | refine LeO.ite ?_ ?_
      | refine LeO.bind ?_ (fun _ => ?_)
    · intro y0 y1 y2 y3 y4 y5 y6 y7 y8 y9
      unfold semigroupref14_Light.l2
      repeat' first
      | (with_reducible exact ih0 _ _ _)
      | (with_reducible exact ih1 _ _ _ _)
      | (with_reducible exact ih2 _ _ _ _ _ _ _)
      | (with_reducible exact ih3 _ _ _ _ _ _ _ _ _ _)
      | (with_reducible exact semigroupref14_In.mono _ _ _)
      | (with_reducible exact semigroupref14_Shape.mono _ _)
      | (with_reducible exact LeO.refl _)
      | (with_reducible exact LeO.none _)
      | (with_reducible refine LeO.ite ?_ ?_)
      | (with_reducible refine LeO.bind ?_ (fun _ => ?_))
      | exact ih0 _ _ _
      | exact ih1 _ _ _ _
      | exact ih2 _ _ _ _ _ _ _
      | exact ih3 _ _ _ _ _ _ _ _ _ _
      | exact semigroupref14_In.mono _ _ _
      | exact semigroupref14_Shape.mono _ _
      | exact LeO.none _
      | refine LeO.ite ?_ ?_
      | refine LeO.bind ?_ (fun _ => ?_)
theorem semigroupref14_Light.mono : ∀ a0 a1 k, LeO (semigroupref14_Light.f k a0 a1) (semigroupref14_Light.f (k + 1) a0 a1) := by
  intro a0 a1 k
  obtain ⟨ih0, ih1, ih2, ih3⟩ := semigroupref14_Light.mono_l k
  unfold semigroupref14_Light.f
  repeat' first
      | (with_reducible exact ih0 _ _ _)
      | (with_reducible exact ih1 _ _ _ _)
      | (with_reducible exact ih2 _ _ _ _ _ _ _)
      | (with_reducible exact ih3 _ _ _ _ _ _ _ _ _ _)
      | (with_reducible exact semigroupref14_In.mono _ _ _)
      | (with_reducible exact semigroupref14_Shape.mono _ _)
      | (with_reducible exact LeO.refl _)
      | (with_reducible exact LeO.none _)
      | (with_reducible refine LeO.ite ?_ ?_)
      | (with_reducible refine LeO.bind ?_ (fun _ => ?_))
      | exact ih0 _ _ _
      | exact ih1 _ _ _ _
      | exact ih2 _ _ _ _ _ _ _
      | exact ih3 _ _ _ _ _ _ _ _ _ _
      | exact semigroupref14_In.mono _ _ _
      | exact semigroupref14_Shape.mono _ _
      | exact LeO.none _
      | refine LeO.ite ?_ ?_
      | refine LeO.bind ?_ (fun _ => ?_)
set_option maxHeartbeats 8000000 in
set_option maxRecDepth 100000 in
theorem semigroupref14_Light.calls (k : Nat) (A0 : Option Addr) (c0 : Nat) (l0 : List (List Int)) (A1 : Option Addr) (c1 : Nat) (l1 : List Int) (r : Bool) (w : World) (hr0 : Kd.C (Kd.slice 3 (Kd.int .i64)) w A0 l0.length l0) (hc0 : l0.length ≤ c0) (hr1 : Kd.C (Kd.int .i64) w A1 l1.length l1) (hc1 : l1.length ≤ c1) (h : semigroupref14_Light.f k l0 l1 = some r) :
    Calls Try.prog 40 #[.slice A0 l0.length c0, .slice A1 l1.length c1] w fun e w' => e = .returned (.bool r) ∧ Drawn0 w w' := by
  have HR0 := Aside0.mk hr0
  have HC0 := Aside0.mk hc0
  (try clear hr0); (try clear hc0)
  have HR1 := Aside0.mk hr1
  have HC1 := Aside0.mk hc1
  (try clear hr1); (try clear hc1)
  have H : ((semigroupref14_Shape.f k l0).bind fun t362 => (if t362 = 0 then ((semigroupref14_In.f k l0 l1).bind fun t363 => (semigroupref14_Light.j0 k l0 l1 (!t363))) else (semigroupref14_Light.j0 k l0 l1 true))) = some r := h
  clear h
  have HC3 := Aside0.mk H
  clear H
  go_enter Try.func40, Try.ntmps40
  go_upto_region 1 with (fail)
  repeat (go_quiet (fail); go_upto_region 1 with (fail))
  go_cut [17] (fun v17 wc => ∃ (kq : Nat) (x17_2 : Bool), v17 = .bool x17_2 ∧ Aside0 (semigroupref14_Light.j0 kq l0 l1 x17_2 = some r) ∧ Aside0 (kq ≤ k) ∧ Drawn0 w wc)
  case first =>
    have H := HC3.out
    clear HC3
    replace H := Option.bind_eq_some_iff.mp H
    obtain ⟨t362, A40, H⟩ := H
    replace H : (if t362 = 0 then ((semigroupref14_In.f k l0 l1).bind fun t363 => (semigroupref14_Light.j0 k l0 l1 (!t363))) else (semigroupref14_Light.j0 k l0 l1 true)) = some r := H
    have A4 := Aside0.mk A40
    clear A40
    by_cases c5 : t362 = 0
    · rw [if_pos c5] at H
      have c5b0 : (t362 == 0) = true := beq_iff_eq.mpr c5
      have c5b1 : (t362 != 0) = false := bne_eq_false_iff_eq.mpr c5
      clear c5
      (first | rw [c5b0] | (simp only [i64_w, i32_w]; rw [c5b0]) | skip)
      replace H := Option.bind_eq_some_iff.mp H
      obtain ⟨t363, A60, H⟩ := H
      replace H : (semigroupref14_Light.j0 k l0 l1 (!t363)) = some r := H
      have A6 := Aside0.mk A60
      clear A60
      have H' := Aside0.mk H
      clear H
      go_wp2_with (first | (go_at_call 23; (with_reducible refine (semigroupref14_Shape.calls k _ _ l0 t362 _ ?side1 ?side2 A4.out).mono ?_); (case side1 => repeat (first | exact HR0.out | (with_reducible refine Kd.C_alloc ?_ _) | (with_reducible refine Kd.C_drewN ?_ _) | (with_reducible refine Kd.C_drew ?_))); (case side2 => exact HC0.out); rintro e w' ⟨rfl, ⟨nd, rfl⟩⟩; (try first | exact ⟨rfl, _, World.drewN_drewN _ _ _⟩ | exact ⟨rfl, _, Eq.trans (World.drewN_drewN _ _ _) (congrArg (World.drewN _) (Nat.add_assoc _ _ _))⟩)) | (go_at_call 32; (with_reducible refine (semigroupref14_In.calls k _ _ l0 _ _ l1 t363 _ ?side1 ?side2 ?side3 ?side4 A6.out).mono ?_); (case side1 => repeat (first | exact HR0.out | (with_reducible refine Kd.C_alloc ?_ _) | (with_reducible refine Kd.C_drewN ?_ _) | (with_reducible refine Kd.C_drew ?_))); (case side2 => exact HC0.out); (case side3 => repeat (first | exact HR1.out | (with_reducible refine Kd.C_alloc ?_ _) | (with_reducible refine Kd.C_drewN ?_ _) | (with_reducible refine Kd.C_drew ?_))); (case side4 => exact HC1.out); rintro e w' ⟨rfl, ⟨nd, rfl⟩⟩; (try first | exact ⟨rfl, _, World.drewN_drewN _ _ _⟩ | exact ⟨rfl, _, Eq.trans (World.drewN_drewN _ _ _) (congrArg (World.drewN _) (Nat.add_assoc _ _ _))⟩)))
      repeat (go_quiet (first | (go_at_call 23; (with_reducible refine (semigroupref14_Shape.calls k _ _ l0 t362 _ ?side1 ?side2 A4.out).mono ?_); (case side1 => repeat (first | exact HR0.out | (with_reducible refine Kd.C_alloc ?_ _) | (with_reducible refine Kd.C_drewN ?_ _) | (with_reducible refine Kd.C_drew ?_))); (case side2 => exact HC0.out); rintro e w' ⟨rfl, ⟨nd, rfl⟩⟩; (try first | exact ⟨rfl, _, World.drewN_drewN _ _ _⟩ | exact ⟨rfl, _, Eq.trans (World.drewN_drewN _ _ _) (congrArg (World.drewN _) (Nat.add_assoc _ _ _))⟩)) | (go_at_call 32; (with_reducible refine (semigroupref14_In.calls k _ _ l0 _ _ l1 t363 _ ?side1 ?side2 ?side3 ?side4 A6.out).mono ?_); (case side1 => repeat (first | exact HR0.out | (with_reducible refine Kd.C_alloc ?_ _) | (with_reducible refine Kd.C_drewN ?_ _) | (with_reducible refine Kd.C_drew ?_))); (case side2 => exact HC0.out); (case side3 => repeat (first | exact HR1.out | (with_reducible refine Kd.C_alloc ?_ _) | (with_reducible refine Kd.C_drewN ?_ _) | (with_reducible refine Kd.C_drew ?_))); (case side4 => exact HC1.out); rintro e w' ⟨rfl, ⟨nd, rfl⟩⟩; (try first | exact ⟨rfl, _, World.drewN_drewN _ _ _⟩ | exact ⟨rfl, _, Eq.trans (World.drewN_drewN _ _ _) (congrArg (World.drewN _) (Nat.add_assoc _ _ _))⟩))); try go_wp2_with (first | (go_at_call 23; (with_reducible refine (semigroupref14_Shape.calls k _ _ l0 t362 _ ?side1 ?side2 A4.out).mono ?_); (case side1 => repeat (first | exact HR0.out | (with_reducible refine Kd.C_alloc ?_ _) | (with_reducible refine Kd.C_drewN ?_ _) | (with_reducible refine Kd.C_drew ?_))); (case side2 => exact HC0.out); rintro e w' ⟨rfl, ⟨nd, rfl⟩⟩; (try first | exact ⟨rfl, _, World.drewN_drewN _ _ _⟩ | exact ⟨rfl, _, Eq.trans (World.drewN_drewN _ _ _) (congrArg (World.drewN _) (Nat.add_assoc _ _ _))⟩)) | (go_at_call 32; (with_reducible refine (semigroupref14_In.calls k _ _ l0 _ _ l1 t363 _ ?side1 ?side2 ?side3 ?side4 A6.out).mono ?_); (case side1 => repeat (first | exact HR0.out | (with_reducible refine Kd.C_alloc ?_ _) | (with_reducible refine Kd.C_drewN ?_ _) | (with_reducible refine Kd.C_drew ?_))); (case side2 => exact HC0.out); (case side3 => repeat (first | exact HR1.out | (with_reducible refine Kd.C_alloc ?_ _) | (with_reducible refine Kd.C_drewN ?_ _) | (with_reducible refine Kd.C_drew ?_))); (case side4 => exact HC1.out); rintro e w' ⟨rfl, ⟨nd, rfl⟩⟩; (try first | exact ⟨rfl, _, World.drewN_drewN _ _ _⟩ | exact ⟨rfl, _, Eq.trans (World.drewN_drewN _ _ _) (congrArg (World.drewN _) (Nat.add_assoc _ _ _))⟩))))
      go_meet
      case rel => exact ⟨_, (!t363), (by first | rfl | (simp; done) | (simp [*]; done)), H', ⟨by first | omega | exact Nat.le_refl _⟩, by repeat (first | exact Drawn0.refl _ | apply Drawn0.step)⟩
    · rw [if_neg c5] at H
      have c5b0 : (t362 == 0) = false := beq_eq_false_iff_ne.mpr c5
      have c5b1 : (t362 != 0) = true := bne_iff_ne.mpr c5
      (first | rw [c5b0] | (simp only [i64_w, i32_w]; rw [c5b0]) | skip)
      have H' := Aside0.mk H
      clear H
      go_wp2_with (first | (go_at_call 23; (with_reducible refine (semigroupref14_Shape.calls k _ _ l0 t362 _ ?side1 ?side2 A4.out).mono ?_); (case side1 => repeat (first | exact HR0.out | (with_reducible refine Kd.C_alloc ?_ _) | (with_reducible refine Kd.C_drewN ?_ _) | (with_reducible refine Kd.C_drew ?_))); (case side2 => exact HC0.out); rintro e w' ⟨rfl, ⟨nd, rfl⟩⟩; (try first | exact ⟨rfl, _, World.drewN_drewN _ _ _⟩ | exact ⟨rfl, _, Eq.trans (World.drewN_drewN _ _ _) (congrArg (World.drewN _) (Nat.add_assoc _ _ _))⟩)))
      repeat (go_quiet (first | (go_at_call 23; (with_reducible refine (semigroupref14_Shape.calls k _ _ l0 t362 _ ?side1 ?side2 A4.out).mono ?_); (case side1 => repeat (first | exact HR0.out | (with_reducible refine Kd.C_alloc ?_ _) | (with_reducible refine Kd.C_drewN ?_ _) | (with_reducible refine Kd.C_drew ?_))); (case side2 => exact HC0.out); rintro e w' ⟨rfl, ⟨nd, rfl⟩⟩; (try first | exact ⟨rfl, _, World.drewN_drewN _ _ _⟩ | exact ⟨rfl, _, Eq.trans (World.drewN_drewN _ _ _) (congrArg (World.drewN _) (Nat.add_assoc _ _ _))⟩))); try go_wp2_with (first | (go_at_call 23; (with_reducible refine (semigroupref14_Shape.calls k _ _ l0 t362 _ ?side1 ?side2 A4.out).mono ?_); (case side1 => repeat (first | exact HR0.out | (with_reducible refine Kd.C_alloc ?_ _) | (with_reducible refine Kd.C_drewN ?_ _) | (with_reducible refine Kd.C_drew ?_))); (case side2 => exact HC0.out); rintro e w' ⟨rfl, ⟨nd, rfl⟩⟩; (try first | exact ⟨rfl, _, World.drewN_drewN _ _ _⟩ | exact ⟨rfl, _, Eq.trans (World.drewN_drewN _ _ _) (congrArg (World.drewN _) (Nat.add_assoc _ _ _))⟩))))
      go_meet
      case rel => exact ⟨_, (true), (by first | rfl | (simp; done) | (simp [*]; done)), H', ⟨by first | omega | exact Nat.le_refl _⟩, by repeat (first | exact Drawn0.refl _ | apply Drawn0.step)⟩
  case rest =>
    clear HC3
    try clear c1
    try clear p2
    try clear c4
    try clear c5
    try clear c5b0
    try clear c5b1
    obtain ⟨kq, x17_2, rfl, HA, HJ2, ⟨mc2, rfl⟩⟩ := hcut
    cases kq with
    | zero => exact absurd HA.out (by simp [semigroupref14_Light.j0])
    | succ kj2 =>
      have H := HA.out
      clear HA
      simp only [semigroupref14_Light.j0] at H
      by_cases c7 : x17_2 = true
      · subst c7
        have H1 : (some false) = some r := by rw [if_pos rfl] at H; exact H
        clear H
        have H := H1
        clear H1
        obtain rfl := Option.some.inj H
        go_wp2
        repeat (go_quiet (fail); try go_wp2)
        go_ret
        exact ⟨by first | rfl | (simp; done) | (simp [*]; done), by repeat (first | exact Drawn0.refl _ | apply Drawn0.step)⟩
      · replace c7 := Bool.eq_false_iff.mpr c7
        subst c7
        have H1 : (semigroupref14_Light.l0 kj2 l0 l1 (l1.length : Int) 0) = some r := by rw [if_neg (show ¬ (false = true) by decide)] at H; exact H
        clear H
        have H := H1
        clear H1
        have H' := Aside0.mk H
        clear H
        go_wp2
        repeat (go_quiet (fail); try go_wp2)
        go_loopg [20] kj2 (fun kq v20 w' => ∃ (x20_2 : Int), v20 = .int .i64 x20_2 ∧ Aside0 (semigroupref14_Light.l0 kq l0 l1 (l1.length : Int) x20_2 = some r) ∧ Aside0 (kq ≤ kj2) ∧ Drawn0 w w')
        case atStart => exact ⟨(0), (by first | rfl | (simp; done) | (simp [*]; done)), H', ⟨Nat.le_refl _⟩, by repeat (first | exact Drawn0.refl _ | apply Drawn0.step)⟩
        case round =>
          clear H'
          try clear c1
          try clear c2
          try clear p2
          try clear c4
          try clear c5
          try clear c5b0
          try clear c5b1
          try clear c7
          try clear p2
          obtain ⟨x20_2, rfl, HA, HK2, ⟨m2, rfl⟩⟩ := hrel
          cases gk with
          | zero => exact absurd HA.out (by simp [semigroupref14_Light.l0])
          | succ k2 =>
            have H := HA.out
            clear HA
            simp only [semigroupref14_Light.l0] at H
            by_cases c8 : x20_2 < (l1.length : Int)
            · rw [if_pos c8] at H
              have c8b0 : decide (x20_2 < (l1.length : Int)) = true := decide_eq_true c8
              clear c8
              by_cases c9 : 0 ≤ x20_2
              · rw [if_pos c9] at H
                have c9b0 : decide (0 ≤ x20_2) = true := decide_eq_true c9
                clear c9
                by_cases c10 : x20_2 < (l1.length : Int)
                · rw [if_pos c10] at H
                  have c10b0 : decide (x20_2 < (l1.length : Int)) = true := decide_eq_true c10
                  clear c10
                  have H' := Aside0.mk H
                  clear H
                  have p364 : 0 ≤ (x20_2 : Int) := of_decide_eq_true (by first | (with_reducible assumption) | assumption)
                  have q364 : x20_2 < (l1.length : Int) := of_decide_eq_true (by first | (with_reducible assumption) | assumption)
                  obtain ⟨ad364, e364, hx364_0⟩ := Kd.at_int HR1.out x20_2 p364 q364
                  cases e364
                  replace p364 := eq_true p364
                  replace q364 := eq_true q364
                  go_wp2
                  repeat (go_quiet (fail); try go_wp2)
                  go_loopg [26] k2 (fun kq v26 w' => ∃ (x26_3 : Int), v26 = .int .i64 x26_3 ∧ Aside0 (semigroupref14_Light.l1 kq l0 (rd l1 x20_2) l1 (l1.length : Int) x20_2 (l0.length : Int) x26_3 = some r) ∧ Aside0 (kq ≤ k2) ∧ Drawn0 w w')
                  case atStart => exact ⟨(0), (by first | rfl | (simp; done) | (simp [*]; done)), H', ⟨Nat.le_refl _⟩, by repeat (first | exact Drawn0.refl _ | apply Drawn0.step)⟩
                  case round =>
                    clear H'
                    try clear c1
                    try clear c2
                    try clear p2
                    try clear p3
                    try clear q3
                    try clear hx3
                    try clear c4
                    try clear c5
                    try clear c5b0
                    try clear c5b1
                    try clear c7
                    try clear c8
                    try clear c8b0
                    try clear c9
                    try clear c9b0
                    try clear c10
                    try clear c10b0
                    try clear hx364_0
                    try clear p2
                    try clear p364
                    try clear q364
                    obtain ⟨x26_3, rfl, HA, HK3, ⟨m3, rfl⟩⟩ := hrel
                    cases gk with
                    | zero => exact absurd HA.out (by simp [semigroupref14_Light.l1])
                    | succ k3 =>
                      have H := HA.out
                      clear HA
                      simp only [semigroupref14_Light.l1] at H
                      by_cases c11 : x26_3 < (l0.length : Int)
                      · rw [if_pos c11] at H
                        have c11b0 : decide (x26_3 < (l0.length : Int)) = true := decide_eq_true c11
                        clear c11
                        have H' := Aside0.mk H
                        clear H
                        go_wp2
                        repeat (go_quiet (fail); try go_wp2)
                        go_loopg [31] k3 (fun kq v31 w' => ∃ (x31_4 : Int), v31 = .int .i64 x31_4 ∧ Aside0 (semigroupref14_Light.l2 kq l0 (rd l1 x20_2) x26_3 l1 (l1.length : Int) x20_2 (l0.length : Int) x26_3 (l0.length : Int) x31_4 = some r) ∧ Aside0 (kq ≤ k3) ∧ Drawn0 w w')
                        case atStart => exact ⟨(0), (by first | rfl | (simp; done) | (simp [*]; done)), H', ⟨Nat.le_refl _⟩, by repeat (first | exact Drawn0.refl _ | apply Drawn0.step)⟩
                        case round =>
                          clear H'
                          try clear c1
                          try clear c2
                          try clear p2
                          try clear p3
                          try clear q3
                          try clear hx3
                          try clear c4
                          try clear c5
                          try clear c5b0
                          try clear c5b1
                          try clear c7
                          try clear c8
                          try clear c8b0
                          try clear c9
                          try clear c9b0
                          try clear c10
                          try clear c10b0
                          try clear c11
                          try clear c11b0
                          try clear hx364_0
                          try clear p2
                          try clear p3
                          try clear p364
                          try clear q3
                          try clear q364
                          obtain ⟨x31_4, rfl, HA, HK4, ⟨m4, rfl⟩⟩ := hrel
                          cases gk with
                          | zero => exact absurd HA.out (by simp [semigroupref14_Light.l2])
                          | succ k4 =>
                            have H := HA.out
                            clear HA
                            simp only [semigroupref14_Light.l2] at H
                            by_cases c12 : x31_4 < (l0.length : Int)
                            · rw [if_pos c12] at H
                              have c12b0 : decide (x31_4 < (l0.length : Int)) = true := decide_eq_true c12
                              clear c12
                              by_cases c13 : 0 ≤ x26_3
                              · rw [if_pos c13] at H
                                have c13b0 : decide (0 ≤ x26_3) = true := decide_eq_true c13
                                clear c13
                                by_cases c14 : x26_3 < (l0.length : Int)
                                · rw [if_pos c14] at H
                                  have c14b0 : decide (x26_3 < (l0.length : Int)) = true := decide_eq_true c14
                                  clear c14
                                  by_cases c15 : 0 ≤ (rd l1 x20_2)
                                  · rw [if_pos c15] at H
                                    have c15b0 : decide (0 ≤ (rd l1 x20_2)) = true := decide_eq_true c15
                                    clear c15
                                    by_cases c16 : (rd l1 x20_2) < ((rd_L1 l0 x26_3).length : Int)
                                    · rw [if_pos c16] at H
                                      have c16b0 : decide ((rd l1 x20_2) < ((rd_L1 l0 x26_3).length : Int)) = true := decide_eq_true c16
                                      clear c16
                                      by_cases c17 : 0 ≤ (rd (rd_L1 l0 x26_3) (rd l1 x20_2))
                                      · rw [if_pos c17] at H
                                        have c17b0 : decide (0 ≤ (rd (rd_L1 l0 x26_3) (rd l1 x20_2))) = true := decide_eq_true c17
                                        clear c17
                                        by_cases c18 : (rd (rd_L1 l0 x26_3) (rd l1 x20_2)) < (l0.length : Int)
                                        · rw [if_pos c18] at H
                                          have c18b0 : decide ((rd (rd_L1 l0 x26_3) (rd l1 x20_2)) < (l0.length : Int)) = true := decide_eq_true c18
                                          clear c18
                                          by_cases c19 : 0 ≤ x31_4
                                          · rw [if_pos c19] at H
                                            have c19b0 : decide (0 ≤ x31_4) = true := decide_eq_true c19
                                            clear c19
                                            by_cases c20 : x31_4 < ((rd_L1 l0 (rd (rd_L1 l0 x26_3) (rd l1 x20_2))).length : Int)
                                            · rw [if_pos c20] at H
                                              have c20b0 : decide (x31_4 < ((rd_L1 l0 (rd (rd_L1 l0 x26_3) (rd l1 x20_2))).length : Int)) = true := decide_eq_true c20
                                              clear c20
                                              by_cases c21 : (rd l1 x20_2) < (l0.length : Int)
                                              · rw [if_pos c21] at H
                                                have c21b0 : decide ((rd l1 x20_2) < (l0.length : Int)) = true := decide_eq_true c21
                                                clear c21
                                                by_cases c22 : x31_4 < ((rd_L1 l0 (rd l1 x20_2)).length : Int)
                                                · rw [if_pos c22] at H
                                                  have c22b0 : decide (x31_4 < ((rd_L1 l0 (rd l1 x20_2)).length : Int)) = true := decide_eq_true c22
                                                  clear c22
                                                  by_cases c23 : 0 ≤ (rd (rd_L1 l0 (rd l1 x20_2)) x31_4)
                                                  · rw [if_pos c23] at H
                                                    have c23b0 : decide (0 ≤ (rd (rd_L1 l0 (rd l1 x20_2)) x31_4)) = true := decide_eq_true c23
                                                    clear c23
                                                    by_cases c24 : (rd (rd_L1 l0 (rd l1 x20_2)) x31_4) < ((rd_L1 l0 x26_3).length : Int)
                                                    · rw [if_pos c24] at H
                                                      have c24b0 : decide ((rd (rd_L1 l0 (rd l1 x20_2)) x31_4) < ((rd_L1 l0 x26_3).length : Int)) = true := decide_eq_true c24
                                                      clear c24
                                                      by_cases c25 : (rd (rd_L1 l0 (rd (rd_L1 l0 x26_3) (rd l1 x20_2))) x31_4) = (rd (rd_L1 l0 x26_3) (rd (rd_L1 l0 (rd l1 x20_2)) x31_4))
                                                      · rw [if_pos c25] at H
                                                        have c25b0 : ((rd (rd_L1 l0 (rd (rd_L1 l0 x26_3) (rd l1 x20_2))) x31_4) == (rd (rd_L1 l0 x26_3) (rd (rd_L1 l0 (rd l1 x20_2)) x31_4))) = true := beq_iff_eq.mpr c25
                                                        have c25b1 : ((rd (rd_L1 l0 (rd (rd_L1 l0 x26_3) (rd l1 x20_2))) x31_4) != (rd (rd_L1 l0 x26_3) (rd (rd_L1 l0 (rd l1 x20_2)) x31_4))) = false := bne_eq_false_iff_eq.mpr c25
                                                        clear c25
                                                        have H' := Aside0.mk H
                                                        clear H
                                                        have p365 : 0 ≤ (x26_3 : Int) := of_decide_eq_true (by first | (with_reducible assumption) | assumption)
                                                        have q365 : x26_3 < (l0.length : Int) := of_decide_eq_true (by first | (with_reducible assumption) | assumption)
                                                        obtain ⟨ad365, A365_0, c365_0, e365, hx365_0, hl365_0, hi365_0⟩ := at_L1 HR0.out x26_3 p365 q365
                                                        cases e365
                                                        have HR365_0 := Aside0.mk hi365_0
                                                        have HC365_0 := Aside0.mk hl365_0
                                                        (try clear hi365_0); (try clear hl365_0)
                                                        replace p365 := eq_true p365
                                                        replace q365 := eq_true q365
                                                        have p366 : 0 ≤ ((rd l1 x20_2) : Int) := of_decide_eq_true (by first | (with_reducible assumption) | assumption)
                                                        have q366 : (rd l1 x20_2) < ((rd_L1 l0 x26_3).length : Int) := of_decide_eq_true (by first | (with_reducible assumption) | assumption)
                                                        obtain ⟨ad366, e366, hx366_0⟩ := Kd.at_int HR365_0.out (rd l1 x20_2) p366 q366
                                                        cases e366
                                                        replace p366 := eq_true p366
                                                        replace q366 := eq_true q366
                                                        have p367 : 0 ≤ ((rd (rd_L1 l0 x26_3) (rd l1 x20_2)) : Int) := of_decide_eq_true (by first | (with_reducible assumption) | assumption)
                                                        have q367 : (rd (rd_L1 l0 x26_3) (rd l1 x20_2)) < (l0.length : Int) := of_decide_eq_true (by first | (with_reducible assumption) | assumption)
                                                        obtain ⟨ad367, A367_0, c367_0, e367, hx367_0, hl367_0, hi367_0⟩ := at_L1 HR0.out (rd (rd_L1 l0 x26_3) (rd l1 x20_2)) p367 q367
                                                        obtain rfl : ad365 = ad367 := (by injection e367)
                                                        have HR367_0 := Aside0.mk hi367_0
                                                        have HC367_0 := Aside0.mk hl367_0
                                                        (try clear hi367_0); (try clear hl367_0)
                                                        replace p367 := eq_true p367
                                                        replace q367 := eq_true q367
                                                        have p368 : 0 ≤ (x31_4 : Int) := of_decide_eq_true (by first | (with_reducible assumption) | assumption)
                                                        have q368 : x31_4 < ((rd_L1 l0 (rd (rd_L1 l0 x26_3) (rd l1 x20_2))).length : Int) := of_decide_eq_true (by first | (with_reducible assumption) | assumption)
                                                        obtain ⟨ad368, e368, hx368_0⟩ := Kd.at_int HR367_0.out x31_4 p368 q368
                                                        cases e368
                                                        replace p368 := eq_true p368
                                                        replace q368 := eq_true q368
                                                        have p369 : 0 ≤ (x26_3 : Int) := of_decide_eq_true (by first | (with_reducible assumption) | assumption)
                                                        have q369 : x26_3 < (l0.length : Int) := of_decide_eq_true (by first | (with_reducible assumption) | assumption)
                                                        obtain ⟨ad369, A369_0, c369_0, e369, hx369_0, hl369_0, hi369_0⟩ := at_L1 HR0.out x26_3 p369 q369
                                                        obtain rfl : ad365 = ad369 := (by injection e369)
                                                        have HR369_0 := Aside0.mk hi369_0
                                                        have HC369_0 := Aside0.mk hl369_0
                                                        (try clear hi369_0); (try clear hl369_0)
                                                        replace p369 := eq_true p369
                                                        replace q369 := eq_true q369
                                                        have ea_ := Option.some.inj (hx365_0.symm.trans hx369_0)
                                                        injection ea_ with ea_ en_ ec_
                                                        subst ea_
                                                        subst ec_
                                                        clear en_
                                                        have p370 : 0 ≤ ((rd l1 x20_2) : Int) := of_decide_eq_true (by first | (with_reducible assumption) | assumption)
                                                        have q370 : (rd l1 x20_2) < (l0.length : Int) := of_decide_eq_true (by first | (with_reducible assumption) | assumption)
                                                        obtain ⟨ad370, A370_0, c370_0, e370, hx370_0, hl370_0, hi370_0⟩ := at_L1 HR0.out (rd l1 x20_2) p370 q370
                                                        obtain rfl : ad365 = ad370 := (by injection e370)
                                                        have HR370_0 := Aside0.mk hi370_0
                                                        have HC370_0 := Aside0.mk hl370_0
                                                        (try clear hi370_0); (try clear hl370_0)
                                                        replace p370 := eq_true p370
                                                        replace q370 := eq_true q370
                                                        have p371 : 0 ≤ (x31_4 : Int) := of_decide_eq_true (by first | (with_reducible assumption) | assumption)
                                                        have q371 : x31_4 < ((rd_L1 l0 (rd l1 x20_2)).length : Int) := of_decide_eq_true (by first | (with_reducible assumption) | assumption)
                                                        obtain ⟨ad371, e371, hx371_0⟩ := Kd.at_int HR370_0.out x31_4 p371 q371
                                                        cases e371
                                                        replace p371 := eq_true p371
                                                        replace q371 := eq_true q371
                                                        have p372 : 0 ≤ ((rd (rd_L1 l0 (rd l1 x20_2)) x31_4) : Int) := of_decide_eq_true (by first | (with_reducible assumption) | assumption)
                                                        have q372 : (rd (rd_L1 l0 (rd l1 x20_2)) x31_4) < ((rd_L1 l0 x26_3).length : Int) := of_decide_eq_true (by first | (with_reducible assumption) | assumption)
                                                        obtain ⟨ad372, e372, hx372_0⟩ := Kd.at_int HR369_0.out (rd (rd_L1 l0 (rd l1 x20_2)) x31_4) p372 q372
                                                        cases e372
                                                        replace p372 := eq_true p372
                                                        replace q372 := eq_true q372
                                                        go_wp2
                                                        repeat (go_quiet (fail); try go_wp2)
                                                        go_roundg k4
                                                        case measure => have := HJ2.out; have := HK2.out; have := HK3.out; have := HK4.out; omega
                                                        case rel => exact ⟨(wrap64 (x31_4 + 1)), (by first | rfl | (simp; done) | (simp [*]; done)), H', ⟨by have := HJ2.out; have := HK2.out; have := HK3.out; have := HK4.out; omega⟩, by repeat (first | exact Drawn0.refl _ | apply Drawn0.step)⟩
                                                      · rw [if_neg c25] at H
                                                        have c25b0 : ((rd (rd_L1 l0 (rd (rd_L1 l0 x26_3) (rd l1 x20_2))) x31_4) == (rd (rd_L1 l0 x26_3) (rd (rd_L1 l0 (rd l1 x20_2)) x31_4))) = false := beq_eq_false_iff_ne.mpr c25
                                                        have c25b1 : ((rd (rd_L1 l0 (rd (rd_L1 l0 x26_3) (rd l1 x20_2))) x31_4) != (rd (rd_L1 l0 x26_3) (rd (rd_L1 l0 (rd l1 x20_2)) x31_4))) = true := bne_iff_ne.mpr c25
                                                        obtain rfl := Option.some.inj H
                                                        have p365 : 0 ≤ (x26_3 : Int) := of_decide_eq_true (by first | (with_reducible assumption) | assumption)
                                                        have q365 : x26_3 < (l0.length : Int) := of_decide_eq_true (by first | (with_reducible assumption) | assumption)
                                                        obtain ⟨ad365, A365_0, c365_0, e365, hx365_0, hl365_0, hi365_0⟩ := at_L1 HR0.out x26_3 p365 q365
                                                        cases e365
                                                        have HR365_0 := Aside0.mk hi365_0
                                                        have HC365_0 := Aside0.mk hl365_0
                                                        (try clear hi365_0); (try clear hl365_0)
                                                        replace p365 := eq_true p365
                                                        replace q365 := eq_true q365
                                                        have p366 : 0 ≤ ((rd l1 x20_2) : Int) := of_decide_eq_true (by first | (with_reducible assumption) | assumption)
                                                        have q366 : (rd l1 x20_2) < ((rd_L1 l0 x26_3).length : Int) := of_decide_eq_true (by first | (with_reducible assumption) | assumption)
                                                        obtain ⟨ad366, e366, hx366_0⟩ := Kd.at_int HR365_0.out (rd l1 x20_2) p366 q366
                                                        cases e366
                                                        replace p366 := eq_true p366
                                                        replace q366 := eq_true q366
                                                        have p367 : 0 ≤ ((rd (rd_L1 l0 x26_3) (rd l1 x20_2)) : Int) := of_decide_eq_true (by first | (with_reducible assumption) | assumption)
                                                        have q367 : (rd (rd_L1 l0 x26_3) (rd l1 x20_2)) < (l0.length : Int) := of_decide_eq_true (by first | (with_reducible assumption) | assumption)
                                                        obtain ⟨ad367, A367_0, c367_0, e367, hx367_0, hl367_0, hi367_0⟩ := at_L1 HR0.out (rd (rd_L1 l0 x26_3) (rd l1 x20_2)) p367 q367
                                                        obtain rfl : ad365 = ad367 := (by injection e367)
                                                        have HR367_0 := Aside0.mk hi367_0
                                                        have HC367_0 := Aside0.mk hl367_0
                                                        (try clear hi367_0); (try clear hl367_0)
                                                        replace p367 := eq_true p367
                                                        replace q367 := eq_true q367
                                                        have p368 : 0 ≤ (x31_4 : Int) := of_decide_eq_true (by first | (with_reducible assumption) | assumption)
                                                        have q368 : x31_4 < ((rd_L1 l0 (rd (rd_L1 l0 x26_3) (rd l1 x20_2))).length : Int) := of_decide_eq_true (by first | (with_reducible assumption) | assumption)
                                                        obtain ⟨ad368, e368, hx368_0⟩ := Kd.at_int HR367_0.out x31_4 p368 q368
                                                        cases e368
                                                        replace p368 := eq_true p368
                                                        replace q368 := eq_true q368
                                                        have p369 : 0 ≤ (x26_3 : Int) := of_decide_eq_true (by first | (with_reducible assumption) | assumption)
                                                        have q369 : x26_3 < (l0.length : Int) := of_decide_eq_true (by first | (with_reducible assumption) | assumption)
                                                        obtain ⟨ad369, A369_0, c369_0, e369, hx369_0, hl369_0, hi369_0⟩ := at_L1 HR0.out x26_3 p369 q369
                                                        obtain rfl : ad365 = ad369 := (by injection e369)
                                                        have HR369_0 := Aside0.mk hi369_0
                                                        have HC369_0 := Aside0.mk hl369_0
                                                        (try clear hi369_0); (try clear hl369_0)
                                                        replace p369 := eq_true p369
                                                        replace q369 := eq_true q369
                                                        have ea_ := Option.some.inj (hx365_0.symm.trans hx369_0)
                                                        injection ea_ with ea_ en_ ec_
                                                        subst ea_
                                                        subst ec_
                                                        clear en_
                                                        have p370 : 0 ≤ ((rd l1 x20_2) : Int) := of_decide_eq_true (by first | (with_reducible assumption) | assumption)
                                                        have q370 : (rd l1 x20_2) < (l0.length : Int) := of_decide_eq_true (by first | (with_reducible assumption) | assumption)
                                                        obtain ⟨ad370, A370_0, c370_0, e370, hx370_0, hl370_0, hi370_0⟩ := at_L1 HR0.out (rd l1 x20_2) p370 q370
                                                        obtain rfl : ad365 = ad370 := (by injection e370)
                                                        have HR370_0 := Aside0.mk hi370_0
                                                        have HC370_0 := Aside0.mk hl370_0
                                                        (try clear hi370_0); (try clear hl370_0)
                                                        replace p370 := eq_true p370
                                                        replace q370 := eq_true q370
                                                        have p371 : 0 ≤ (x31_4 : Int) := of_decide_eq_true (by first | (with_reducible assumption) | assumption)
                                                        have q371 : x31_4 < ((rd_L1 l0 (rd l1 x20_2)).length : Int) := of_decide_eq_true (by first | (with_reducible assumption) | assumption)
                                                        obtain ⟨ad371, e371, hx371_0⟩ := Kd.at_int HR370_0.out x31_4 p371 q371
                                                        cases e371
                                                        replace p371 := eq_true p371
                                                        replace q371 := eq_true q371
                                                        have p372 : 0 ≤ ((rd (rd_L1 l0 (rd l1 x20_2)) x31_4) : Int) := of_decide_eq_true (by first | (with_reducible assumption) | assumption)
                                                        have q372 : (rd (rd_L1 l0 (rd l1 x20_2)) x31_4) < ((rd_L1 l0 x26_3).length : Int) := of_decide_eq_true (by first | (with_reducible assumption) | assumption)
                                                        obtain ⟨ad372, e372, hx372_0⟩ := Kd.at_int HR369_0.out (rd (rd_L1 l0 (rd l1 x20_2)) x31_4) p372 q372
                                                        cases e372
                                                        replace p372 := eq_true p372
                                                        replace q372 := eq_true q372
                                                        go_wp2
                                                        repeat (go_quiet (fail); try go_wp2)
                                                        go_ret
                                                        exact ⟨by first | rfl | (simp; done) | (simp [*]; done), by repeat (first | exact Drawn0.refl _ | apply Drawn0.step)⟩
                                                    · rw [if_neg c24] at H
                                                      exact absurd H (by simp)
                                                  · rw [if_neg c23] at H
                                                    exact absurd H (by simp)
                                                · rw [if_neg c22] at H
                                                  exact absurd H (by simp)
                                              · rw [if_neg c21] at H
                                                exact absurd H (by simp)
                                            · rw [if_neg c20] at H
                                              exact absurd H (by simp)
                                          · rw [if_neg c19] at H
                                            exact absurd H (by simp)
                                        · rw [if_neg c18] at H
                                          exact absurd H (by simp)
                                      · rw [if_neg c17] at H
                                        exact absurd H (by simp)
                                    · rw [if_neg c16] at H
                                      exact absurd H (by simp)
                                  · rw [if_neg c15] at H
                                    exact absurd H (by simp)
                                · rw [if_neg c14] at H
                                  exact absurd H (by simp)
                              · rw [if_neg c13] at H
                                exact absurd H (by simp)
                            · rw [if_neg c12] at H
                              have c12b0 : decide (x31_4 < (l0.length : Int)) = false := decide_eq_false c12
                              clear c12
                              have H' := Aside0.mk H
                              clear H
                              go_wp2
                              repeat (go_quiet (fail); try go_wp2)
                              go_roundg k4
                              case measure => have := HJ2.out; have := HK2.out; have := HK3.out; have := HK4.out; omega
                              case rel => exact ⟨(wrap64 (x26_3 + 1)), (by first | rfl | (simp; done) | (simp [*]; done)), H', ⟨by have := HJ2.out; have := HK2.out; have := HK3.out; have := HK4.out; omega⟩, by repeat (first | exact Drawn0.refl _ | apply Drawn0.step)⟩
                      · rw [if_neg c11] at H
                        have c11b0 : decide (x26_3 < (l0.length : Int)) = false := decide_eq_false c11
                        clear c11
                        have H' := Aside0.mk H
                        clear H
                        go_wp2
                        repeat (go_quiet (fail); try go_wp2)
                        go_roundg k3
                        case measure => have := HJ2.out; have := HK2.out; have := HK3.out; omega
                        case rel => exact ⟨(wrap64 (x20_2 + 1)), (by first | rfl | (simp; done) | (simp [*]; done)), H', ⟨by have := HJ2.out; have := HK2.out; have := HK3.out; omega⟩, by repeat (first | exact Drawn0.refl _ | apply Drawn0.step)⟩
                · rw [if_neg c10] at H
                  exact absurd H (by simp)
              · rw [if_neg c9] at H
                exact absurd H (by simp)
            · rw [if_neg c8] at H
              have c8b0 : decide (x20_2 < (l1.length : Int)) = false := decide_eq_false c8
              clear c8
              obtain rfl := Option.some.inj H
              go_wp2
              repeat (go_quiet (fail); try go_wp2)
              go_ret
              exact ⟨by first | rfl | (simp; done) | (simp [*]; done), by repeat (first | exact Drawn0.refl _ | apply Drawn0.step)⟩

/-! ### semigroupref03_Set: function 54 -/
def semigroupref03_Set.l0 : Nat → Int → List Bool → List Int → Int → Int → Option (List Bool)
  | 0, _, _, _, _, _ => none
  | k + 1, x1, x5, x10, x11, x12 => if x12 < x11 then (if 0 ≤ x12 then (if x12 < (x10.length : Int) then (if (rd x10 x12) ≥ 0 then (if (rd x10 x12) < x1 then (if 0 ≤ (rd x10 x12) then (if (rd x10 x12) < (x5.length : Int) then (semigroupref03_Set.l0 k x1 (x5.set ((rd x10 x12) : Int).toNat true) x10 x11 (wrap64 (x12 + 1))) else (none)) else (none)) else (semigroupref03_Set.l0 k x1 x5 x10 x11 (wrap64 (x12 + 1)))) else (semigroupref03_Set.l0 k x1 x5 x10 x11 (wrap64 (x12 + 1)))) else (none)) else (none)) else (some x5)
def semigroupref03_Set.f (k : Nat) (l0 : List Int) (a1 : Int) : Option (List Bool) := if 0 ≤ a1 then (if (a1 : Int).toNat ≤ 281474976710656 then (semigroupref03_Set.l0 k a1 (List.replicate (a1 : Int).toNat false) l0 (l0.length : Int) 0) else (none)) else (none)
theorem semigroupref03_Set.mono_l : ∀ k, (∀ y0 y1 y2 y3 y4, LeO (semigroupref03_Set.l0 k y0 y1 y2 y3 y4) (semigroupref03_Set.l0 (k + 1) y0 y1 y2 y3 y4))
  | 0 => fun _ _ _ _ _ r h => by simp [semigroupref03_Set.l0] at h
  | k + 1 => by
    have ih0 := semigroupref03_Set.mono_l k
    · intro y0 y1 y2 y3 y4
      unfold semigroupref03_Set.l0
      repeat' first
      | (with_reducible exact ih0 _ _ _ _ _)
      | (with_reducible exact LeO.refl _)
      | (with_reducible exact LeO.none _)
      | (with_reducible refine LeO.ite ?_ ?_)
      | (with_reducible refine LeO.bind ?_ (fun _ => ?_))
      | exact ih0 _ _ _ _ _
      | exact LeO.none _
      | refine LeO.ite ?_ ?_
      | refine LeO.bind ?_ (fun _ => ?_)
theorem semigroupref03_Set.mono : ∀ a0 a1 k, LeO (semigroupref03_Set.f k a0 a1) (semigroupref03_Set.f (k + 1) a0 a1) := by
  intro a0 a1 k
  have ih0 := semigroupref03_Set.mono_l k
  unfold semigroupref03_Set.f
  repeat' first
      | (with_reducible exact ih0 _ _ _ _ _)
      | (with_reducible exact LeO.refl _)
      | (with_reducible exact LeO.none _)
      | (with_reducible refine LeO.ite ?_ ?_)
      | (with_reducible refine LeO.bind ?_ (fun _ => ?_))
      | exact ih0 _ _ _ _ _
      | exact LeO.none _
      | refine LeO.ite ?_ ?_
      | refine LeO.bind ?_ (fun _ => ?_)
set_option maxHeartbeats 8000000 in
set_option maxRecDepth 100000 in
theorem semigroupref03_Set.calls (k : Nat) (A0 : Option Addr) (c0 : Nat) (l0 : List Int) (a1 : Int) (r : List Bool) (w : World) (hr0 : Kd.C (Kd.int .i64) w A0 l0.length l0) (hc0 : l0.length ≤ c0) (h : semigroupref03_Set.f k l0 a1 = some r) :
    Calls Try.prog 54 #[.slice A0 l0.length c0, .int .i64 a1] w fun e w' => ∃ v0_ : Value, e = .returned (v0_) ∧ Kd.R Kd.bool 4 w' w.heap.size (fun _ => True) v0_ r ∧ Below w.heap.size w w' := by
  have HR0 := Aside0.mk hr0
  have HC0 := Aside0.mk hc0
  (try clear hr0); (try clear hc0)
  have HB := Aside0.mk (Below.refl w.heap.size w)
  have H : (if 0 ≤ a1 then (if (a1 : Int).toNat ≤ 281474976710656 then (semigroupref03_Set.l0 k a1 (List.replicate (a1 : Int).toNat false) l0 (l0.length : Int) 0) else (none)) else (none)) = some r := h
  clear h
  by_cases c3 : 0 ≤ a1
  · rw [if_pos c3] at H
    have c3b0 := eq_true c3
    have c3b1 : decide (0 ≤ a1) = true := decide_eq_true c3
    clear c3
    by_cases c4 : (a1 : Int).toNat ≤ 281474976710656
    · rw [if_pos c4] at H
      have c4b0 := eq_true c4
      have c4b1 : decide ((a1 : Int).toNat ≤ 281474976710656) = true := decide_eq_true c4
      clear c4
      obtain ⟨y373, hy373⟩ : ∃ y_ : List Bool, y_ = (List.replicate (a1 : Int).toNat false) := ⟨_, rfl⟩
      replace H : (semigroupref03_Set.l0 k a1 y373 l0 (l0.length : Int) 0) = some r := by first | (rw [hy373]; with_reducible exact H) | (have H2_ := (Option.bind_some _ _).symm.trans H; rw [hy373]; with_reducible exact H2_) | (have H2_ := (Option.bind_some _ _).symm.trans H; with_reducible exact H2_) | with_reducible exact H | (rw [hy373]; exact H) | exact H
      have Ny373 := Aside0.mk hy373
      clear hy373
      have H' := Aside0.mk H
      clear H
      go_enter Try.func54, Try.ntmps54
      go_wp2_with (first | ((with_reducible refine gate_dst (N := 9) rfl ?_); refine Kd.R_make Kd.bool _ 4 rfl (N := 9) rfl 54 _ _ rfl a1 rfl rfl Try.underlying54 (.bool false) 1 info4 rfl (by decide) (by omega) false (ok := fun _ => True) (okp := fun _ => True) rfl (fun _ hk => hk) trivial (of_decide_eq_true (by first | (with_reducible assumption) | assumption)) (Nat.le_trans (Nat.mul_le_mul_right _ (of_decide_eq_true (by first | (with_reducible assumption) | assumption) : a1.toNat ≤ 281474976710656)) (by omega)) (Below.refl _ _) (Nat.le_refl _) ?_; intro v374 w5 ho6 hb hg_ hnew_; (try clear hg_); (try clear hnew_); (first | rw [← Ny373.out] at ho6 | (simp only [Int.reduceToNat] at ho6; rw [← Ny373.out] at ho6)); have n0_ := Aside0.mk (Kd.R_lower ho6 (below_size (by repeat (first | (with_reducible first | exact HB.out | apply below_alloc | apply pw_below_drewN | apply below_drew1) | exact HB.out)))); have n1_ := Aside0.mk (below_step (by repeat (first | (with_reducible first | exact HB.out | apply below_alloc | apply pw_below_drewN | apply below_drew1) | exact HB.out)) hb); clear HB; have HO375 := n0_; have HB := n1_; clear n0_ n1_; (try clear hb); (try clear ho6)))
      go_loopg [12] k (fun kq v12 w' => ∃ (x5_1 : List Bool) (x12_1 : Int), v12 = .int .i64 x12_1 ∧ Aside0 (semigroupref03_Set.l0 kq a1 x5_1 l0 (l0.length : Int) x12_1 = some r) ∧ Aside0 (kq ≤ k) ∧ Aside0 (Kd.R Kd.bool 4 w' w.heap.size (fun _ => True) v374 x5_1) ∧ Aside0 (Below w.heap.size w w'))
      case atStart => exact ⟨(y373), (0), (by first | rfl | (simp; done) | (simp [*]; done)), H', ⟨Nat.le_refl _⟩, ⟨by (with_reducible repeat (first | apply Kd.R_alloc | apply Kd.R_drewN | apply Kd.R_drew)); exact HO375.out⟩, ⟨by repeat (first | (with_reducible first | exact HB.out | apply below_alloc | apply pw_below_drewN | apply below_drew1) | exact HB.out)⟩⟩
      case round =>
        clear H'
        try clear p2
        try clear c3
        try clear c3b0
        try clear c3b1
        try clear c4
        try clear c4b0
        try clear c4b1
        try clear c5
        obtain ⟨x5_1, x12_1, rfl, HA, HK1, HO_5, HB⟩ := hrel
        cases gk with
        | zero => exact absurd HA.out (by simp [semigroupref03_Set.l0])
        | succ k1 =>
          have H := HA.out
          clear HA
          simp only [semigroupref03_Set.l0] at H
          by_cases c7 : x12_1 < (l0.length : Int)
          · rw [if_pos c7] at H
            have c7b0 : decide (x12_1 < (l0.length : Int)) = true := decide_eq_true c7
            clear c7
            by_cases c8 : 0 ≤ x12_1
            · rw [if_pos c8] at H
              have c8b0 : decide (0 ≤ x12_1) = true := decide_eq_true c8
              clear c8
              by_cases c9 : x12_1 < (l0.length : Int)
              · rw [if_pos c9] at H
                have c9b0 : decide (x12_1 < (l0.length : Int)) = true := decide_eq_true c9
                clear c9
                by_cases c10 : (rd l0 x12_1) ≥ 0
                · rw [if_pos c10] at H
                  have c10b0 : decide (0 ≤ (rd l0 x12_1)) = true := decide_eq_true c10
                  clear c10
                  by_cases c11 : (rd l0 x12_1) < a1
                  · rw [if_pos c11] at H
                    have c11b0 : decide ((rd l0 x12_1) < a1) = true := decide_eq_true c11
                    clear c11
                    by_cases c12 : 0 ≤ (rd l0 x12_1)
                    · rw [if_pos c12] at H
                      have c12b0 : decide (0 ≤ (rd l0 x12_1)) = true := decide_eq_true c12
                      clear c12
                      by_cases c13 : (rd l0 x12_1) < (x5_1.length : Int)
                      · rw [if_pos c13] at H
                        have c13b0 : decide ((rd l0 x12_1) < (x5_1.length : Int)) = true := decide_eq_true c13
                        clear c13
                        obtain ⟨y377, hy377⟩ : ∃ y_ : List Bool, y_ = (x5_1.set ((rd l0 x12_1) : Int).toNat true) := ⟨_, rfl⟩
                        replace H : (semigroupref03_Set.l0 k1 a1 y377 l0 (l0.length : Int) (wrap64 (x12_1 + 1))) = some r := by first | (rw [hy377]; with_reducible exact H) | (have H2_ := (Option.bind_some _ _).symm.trans H; rw [hy377]; with_reducible exact H2_) | (have H2_ := (Option.bind_some _ _).symm.trans H; with_reducible exact H2_) | with_reducible exact H | (rw [hy377]; exact H) | exact H
                        have Ny377 := Aside0.mk hy377
                        clear hy377
                        have H' := Aside0.mk H
                        clear H
                        have p376 : 0 ≤ (x12_1 : Int) := of_decide_eq_true (by first | (with_reducible assumption) | assumption)
                        have q376 : x12_1 < (l0.length : Int) := of_decide_eq_true (by first | (with_reducible assumption) | assumption)
                        obtain ⟨ad376, e376, hx376_0⟩ := Kd.at_int HR0.out x12_1 p376 q376
                        cases e376
                        replace hx376_0 := (HB.out.cell (World.block_lt_of_cell? w _ hx376_0)).trans hx376_0
                        replace p376 := eq_true p376
                        replace q376 := eq_true q376
                        have p14 : 0 ≤ ((rd l0 x12_1) : Int) := of_decide_eq_true (by first | (with_reducible assumption) | assumption)
                        have q14 : ((rd l0 x12_1) : Int) < ((x5_1.length : Int) : Int) := of_decide_eq_true (by first | (with_reducible assumption) | assumption)
                        obtain ⟨go14, co14, eo14, gb14, gl14, cl14, HG14⟩ := Kd.R_form HO_5.out (by omega)
                        (first | cases eo14 | (injection eo14 with ea_ en_ ec_; (first | subst ea_ | (injection ea_ with ea_; subst ea_)); subst ec_; clear en_))
                        have GB14 := Aside0.mk gb14
                        have GG14 := Aside0.mk HG14
                        (try clear gb14); (try clear gl14); (try clear HG14)
                        obtain ⟨hx14_0, hf14_0⟩ := Kd.R_celln false HO_5.out ((rd l0 x12_1) : Int) p14 q14
                        replace p14 := eq_true p14
                        replace q14 := eq_true q14
                        have HP15 := Kd.R_putg HO_5.out ((rd l0 x12_1) : Int) true
                        go_wp2_with (first | ((with_reducible refine gate_store (t := 4) (p := 25) rfl ?_); refine store_event (t := 4) (p := 25) (v := ?vo_w16) (w1 := (wr.setCell ⟨go14, ((rd l0 x12_1) : Int).toNat, none⟩ (.bool true))) ?hg ?ho ?hn ?hr ?_; (case ho => rfl); (case hg => rfl); (case hn => rfl); (case hr => first | (go_simp; done) | (go_simp; rfl)); intro w16 hw; have hg : wr.grownBy w16 (some go14) := (by rw [hw]; exact HP15.2); have hp_ : Kd.R Kd.bool 4 w16 w.heap.size (fun _ => True) (.slice (some ⟨go14, 0, none⟩) x5_1.length co14) y377 := (by rw [hw, Ny377.out]; exact HP15.1); clear HP15; have n0_ := Aside0.mk (hp_); have n1_ := Aside0.mk ((by rw [hw]; exact below_set (HB.out) GB14.out : Below w.heap.size w w16)); clear HO_5; clear HB; have HO_5 := n0_; have HB := n1_; clear n0_ n1_; (try clear hg); (try clear hw); (try clear hp_)))
                        go_roundg k1
                        case measure => have := HK1.out; omega
                        case rel => exact ⟨(y377), (wrap64 (x12_1 + 1)), (by first | rfl | (simp; done) | (simp [*]; done)), H', ⟨by have := HK1.out; omega⟩, ⟨by (with_reducible repeat (first | apply Kd.R_alloc | apply Kd.R_drewN | apply Kd.R_drew)); exact HO_5.out⟩, ⟨by repeat (first | (with_reducible first | exact HB.out | apply below_alloc | apply pw_below_drewN | apply below_drew1) | exact HB.out)⟩⟩
                      · rw [if_neg c13] at H
                        exact absurd H (by simp)
                    · rw [if_neg c12] at H
                      exact absurd H (by simp)
                  · rw [if_neg c11] at H
                    have c11b0 : decide ((rd l0 x12_1) < a1) = false := decide_eq_false c11
                    clear c11
                    have H' := Aside0.mk H
                    clear H
                    have p376 : 0 ≤ (x12_1 : Int) := of_decide_eq_true (by first | (with_reducible assumption) | assumption)
                    have q376 : x12_1 < (l0.length : Int) := of_decide_eq_true (by first | (with_reducible assumption) | assumption)
                    obtain ⟨ad376, e376, hx376_0⟩ := Kd.at_int HR0.out x12_1 p376 q376
                    cases e376
                    replace hx376_0 := (HB.out.cell (World.block_lt_of_cell? w _ hx376_0)).trans hx376_0
                    replace p376 := eq_true p376
                    replace q376 := eq_true q376
                    go_wp2
                    go_roundg k1
                    case measure => have := HK1.out; omega
                    case rel => exact ⟨(x5_1), (wrap64 (x12_1 + 1)), (by first | rfl | (simp; done) | (simp [*]; done)), H', ⟨by have := HK1.out; omega⟩, ⟨by (with_reducible repeat (first | apply Kd.R_alloc | apply Kd.R_drewN | apply Kd.R_drew)); exact HO_5.out⟩, ⟨by repeat (first | (with_reducible first | exact HB.out | apply below_alloc | apply pw_below_drewN | apply below_drew1) | exact HB.out)⟩⟩
                · rw [if_neg c10] at H
                  have c10b0 : decide (0 ≤ (rd l0 x12_1)) = false := decide_eq_false c10
                  clear c10
                  have H' := Aside0.mk H
                  clear H
                  have p376 : 0 ≤ (x12_1 : Int) := of_decide_eq_true (by first | (with_reducible assumption) | assumption)
                  have q376 : x12_1 < (l0.length : Int) := of_decide_eq_true (by first | (with_reducible assumption) | assumption)
                  obtain ⟨ad376, e376, hx376_0⟩ := Kd.at_int HR0.out x12_1 p376 q376
                  cases e376
                  replace hx376_0 := (HB.out.cell (World.block_lt_of_cell? w _ hx376_0)).trans hx376_0
                  replace p376 := eq_true p376
                  replace q376 := eq_true q376
                  go_wp2
                  go_roundg k1
                  case measure => have := HK1.out; omega
                  case rel => exact ⟨(x5_1), (wrap64 (x12_1 + 1)), (by first | rfl | (simp; done) | (simp [*]; done)), H', ⟨by have := HK1.out; omega⟩, ⟨by (with_reducible repeat (first | apply Kd.R_alloc | apply Kd.R_drewN | apply Kd.R_drew)); exact HO_5.out⟩, ⟨by repeat (first | (with_reducible first | exact HB.out | apply below_alloc | apply pw_below_drewN | apply below_drew1) | exact HB.out)⟩⟩
              · rw [if_neg c9] at H
                exact absurd H (by simp)
            · rw [if_neg c8] at H
              exact absurd H (by simp)
          · rw [if_neg c7] at H
            have c7b0 : decide (x12_1 < (l0.length : Int)) = false := decide_eq_false c7
            clear c7
            obtain rfl := Option.some.inj H
            go_wp2
            go_ret
            exact ⟨_, by first | rfl | (simp [errW_none, errW_some] <;> rfl) | (simp [*, errW_none, errW_some] <;> rfl), by (with_reducible repeat (first | apply Kd.R_alloc | apply Kd.R_drewN | apply Kd.R_drew)); exact HO_5.out, by repeat (first | (with_reducible first | exact HB.out | apply below_alloc | apply pw_below_drewN | apply below_drew1) | exact HB.out)⟩
    · rw [if_neg c4] at H
      exact absurd H (by simp)
  · rw [if_neg c3] at H
    exact absurd H (by simp)

end Go.Proofs.Ytlhckcldeojfmaa.PAll
