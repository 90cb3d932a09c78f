-- printed for this claim by printall.sh out of the translation; Lean checks it
import Derived.Test.YtlhckcldeojfmaaPAllx0
import Derived.Test.YtlhckcldeojfmaaPAllx5
import Derived.Test.YtlhckcldeojfmaaPAllx6
import Derived.Test.YtlhckcldeojfmaaPAllx13
namespace Go.Proofs.Ytlhckcldeojfmaa.PAll
open Go.RowKit Go.Proofs.YtlhckcldeojfmaaW.PrintWords Go.Proofs.YtlhckcldeojfmaaW.PrintLast Go.Proofs.YtlhckcldeojfmaaW.PrintMore
attribute [local go_sem] max2_int min2_int max_two min_two max_three min_three max_four min_four   -- for this text's walks alone
set_option linter.unusedVariables false
set_option linter.unusedSimpArgs false

/-! ### semigroupref14_Value: function 43 -/
mutual
def semigroupref14_Value.j0 : Nat → List (List Int) → List Int → ByteArray → Bool → Option (Int)
  | 0, _, _, _, _ => none
  | k + 1, x0, x1, x2, x29 => if x29 = true then (some (-1)) else (if x2.toList = ([] : List UInt8) then ((semigroupref14_Identity.f k x0).bind fun t418 => (some t418)) else (if 0 < (x2.size : Int) then (if 0 ≤ (((bt x2 0) - 97) % 256) then (if (((bt x2 0) - 97) % 256) < (x1.length : Int) then (semigroupref14_Value.l0 k x0 x1 x2 (rd x1 (((bt x2 0) - 97) % 256)) 1) else (none)) else (none)) else (none)))
def semigroupref14_Value.l0 : Nat → List (List Int) → List Int → ByteArray → Int → Int → Option (Int)
  | 0, _, _, _, _, _ => none
  | k + 1, x0, x1, x2, x7, x8 => if x8 < (x2.size : Int) then (if 0 ≤ x7 then (if x7 < (x0.length : Int) then (if 0 ≤ x8 then (if 0 ≤ (((bt x2 x8) - 97) % 256) then (if (((bt x2 x8) - 97) % 256) < (x1.length : Int) then (if 0 ≤ (rd x1 (((bt x2 x8) - 97) % 256)) then (if (rd x1 (((bt x2 x8) - 97) % 256)) < ((rd_L1 x0 x7).length : Int) then (semigroupref14_Value.l0 k x0 x1 x2 (rd (rd_L1 x0 x7) (rd x1 (((bt x2 x8) - 97) % 256))) (wrap64 (x8 + 1))) else (none)) else (none)) else (none)) else (none)) else (none)) else (none)) else (none)) else (some x7)
end
def semigroupref14_Value.f (k : Nat) (l0 : List (List Int)) (l1 : List Int) (a2 : ByteArray) : Option (Int) := if (l1.length : Int) < 1 then (semigroupref14_Value.j0 k l0 l1 a2 true) else (if (l1.length : Int) > 6 then (semigroupref14_Value.j0 k l0 l1 a2 true) else ((semigroupref14_In.f k l0 l1).bind fun t416 => (if t416 = true then ((semigroupref01_Valid.f k a2 (l1.length : Int)).bind fun t417 => (semigroupref14_Value.j0 k l0 l1 a2 (!t417))) else (semigroupref14_Value.j0 k l0 l1 a2 true))))
theorem semigroupref14_Value.mono_l : ∀ k, (∀ y0 y1 y2 y3, LeO (semigroupref14_Value.j0 k y0 y1 y2 y3) (semigroupref14_Value.j0 (k + 1) y0 y1 y2 y3)) ∧ (∀ y0 y1 y2 y3 y4, LeO (semigroupref14_Value.l0 k y0 y1 y2 y3 y4) (semigroupref14_Value.l0 (k + 1) y0 y1 y2 y3 y4))
  | 0 => ⟨fun _ _ _ _ r h => by simp [semigroupref14_Value.j0] at h, fun _ _ _ _ _ r h => by simp [semigroupref14_Value.l0] at h⟩
  | k + 1 => by
    obtain ⟨ih0, ih1⟩ := semigroupref14_Value.mono_l k
    refine ⟨?_, ?_⟩
    · intro y0 y1 y2 y3
      unfold semigroupref14_Value.j0
      repeat' first
      | (with_reducible exact ih0 _ _ _ _)
      | (with_reducible exact ih1 _ _ _ _ _)
      | (with_reducible exact semigroupref01_Valid.mono _ _ _)
      | (with_reducible exact semigroupref14_Identity.mono _ _)
      | (with_reducible exact semigroupref14_In.mono _ _ _)
      | (with_reducible exact LeO.refl _)
      | (with_reducible exact LeO.none _)
      | (with_reducible refine LeO.ite ?_ ?_)
      | (with_reducible refine LeO.bind ?_ (fun _ => ?_))
      | exact ih0 _ _ _ _
      | exact ih1 _ _ _ _ _
      | exact semigroupref01_Valid.mono _ _ _
      | exact semigroupref14_Identity.mono _ _
      | exact semigroupref14_In.mono _ _ _
      | exact LeO.none _
      | refine LeO.ite ?_ ?_
      | refine LeO.bind ?_ (fun _ => ?_)
    · intro y0 y1 y2 y3 y4
      unfold semigroupref14_Value.l0
      repeat' first
      | (with_reducible exact ih0 _ _ _ _)
      | (with_reducible exact ih1 _ _ _ _ _)
      | (with_reducible exact semigroupref01_Valid.mono _ _ _)
      | (with_reducible exact semigroupref14_Identity.mono _ _)
      | (with_reducible exact semigroupref14_In.mono _ _ _)
      | (with_reducible exact LeO.refl _)
      | (with_reducible exact LeO.none _)
      | (with_reducible refine LeO.ite ?_ ?_)
      | (with_reducible refine LeO.bind ?_ (fun _ => ?_))
      | exact ih0 _ _ _ _
      | exact ih1 _ _ _ _ _
      | exact semigroupref01_Valid.mono _ _ _
      | exact semigroupref14_Identity.mono _ _
      | exact semigroupref14_In.mono _ _ _
      | exact LeO.none _
      | refine LeO.ite ?_ ?_
      | refine LeO.bind ?_ (fun _ => ?_)
theorem semigroupref14_Value.mono : ∀ a0 a1 a2 k, LeO (semigroupref14_Value.f k a0 a1 a2) (semigroupref14_Value.f (k + 1) a0 a1 a2) := by
  intro a0 a1 a2 k
  obtain ⟨ih0, ih1⟩ := semigroupref14_Value.mono_l k
  unfold semigroupref14_Value.f
  repeat' first
      | (with_reducible exact ih0 _ _ _ _)
      | (with_reducible exact ih1 _ _ _ _ _)
      | (with_reducible exact semigroupref01_Valid.mono _ _ _)
      | (with_reducible exact semigroupref14_Identity.mono _ _)
      | (with_reducible exact semigroupref14_In.mono _ _ _)
      | (with_reducible exact LeO.refl _)
      | (with_reducible exact LeO.none _)
      | (with_reducible refine LeO.ite ?_ ?_)
      | (with_reducible refine LeO.bind ?_ (fun _ => ?_))
      | exact ih0 _ _ _ _
      | exact ih1 _ _ _ _ _
      | exact semigroupref01_Valid.mono _ _ _
      | exact semigroupref14_Identity.mono _ _
      | exact semigroupref14_In.mono _ _ _
      | exact LeO.none _
      | refine LeO.ite ?_ ?_
      | refine LeO.bind ?_ (fun _ => ?_)
set_option maxHeartbeats 8000000 in
set_option maxRecDepth 100000 in
theorem semigroupref14_Value.calls (k : Nat) (A0 : Option Addr) (c0 : Nat) (l0 : List (List Int)) (A1 : Option Addr) (c1 : Nat) (l1 : List Int) (a2 : ByteArray) (r : Int) (w : World) (hr0 : Kd.C (Kd.slice 3 (Kd.int .i64)) w A0 l0.length l0) (hc0 : l0.length ≤ c0) (hr1 : Kd.C (Kd.int .i64) w A1 l1.length l1) (hc1 : l1.length ≤ c1) (h : semigroupref14_Value.f k l0 l1 a2 = some r) :
    Calls Try.prog 43 #[.slice A0 l0.length c0, .slice A1 l1.length c1, .string a2] w fun e w' => e = .returned (.int .i64 r) ∧ Drawn0 w w' := by
  have HR0 := Aside0.mk hr0
  have HC0 := Aside0.mk hc0
  (try clear hr0); (try clear hc0)
  have HR1 := Aside0.mk hr1
  have HC1 := Aside0.mk hc1
  (try clear hr1); (try clear hc1)
  have H : (if (l1.length : Int) < 1 then (semigroupref14_Value.j0 k l0 l1 a2 true) else (if (l1.length : Int) > 6 then (semigroupref14_Value.j0 k l0 l1 a2 true) else ((semigroupref14_In.f k l0 l1).bind fun t416 => (if t416 = true then ((semigroupref01_Valid.f k a2 (l1.length : Int)).bind fun t417 => (semigroupref14_Value.j0 k l0 l1 a2 (!t417))) else (semigroupref14_Value.j0 k l0 l1 a2 true))))) = some r := h
  clear h
  have HC4 := Aside0.mk H
  clear H
  go_enter Try.func43, Try.ntmps43
  go_upto_region 1 with (fail)
  repeat (go_quiet (fail); go_upto_region 1 with (fail))
  go_cut [29] (fun v29 wc => ∃ (kq : Nat) (x29_3 : Bool), v29 = .bool x29_3 ∧ Aside0 (semigroupref14_Value.j0 kq l0 l1 a2 x29_3 = some r) ∧ Aside0 (kq ≤ k) ∧ Drawn0 w wc)
  case first =>
    have H := HC4.out
    clear HC4
    by_cases c5 : (l1.length : Int) < 1
    · rw [if_pos c5] at H
      have c5b0 : decide ((l1.length : Int) < 1) = true := decide_eq_true c5
      have c5b1 : decide (l1.length < 1) = true := decide_eq_true (by omega)
      clear c5
      (first | rw [c5b0] | (simp only [i64_w, i32_w]; rw [c5b0]) | skip)
      have H' := Aside0.mk H
      clear H
      go_wp2
      repeat (go_quiet (fail); try go_wp2)
      go_meet
      case rel => exact ⟨_, (true), (by first | rfl | (simp; done) | (simp [*]; done)), H', ⟨by first | omega | exact Nat.le_refl _⟩, by repeat (first | exact Drawn0.refl _ | apply Drawn0.step)⟩
    · rw [if_neg c5] at H
      have c5b0 : decide ((l1.length : Int) < 1) = false := decide_eq_false c5
      have c5b1 : decide (l1.length < 1) = false := decide_eq_false (by omega)
      clear c5
      (first | rw [c5b0] | (simp only [i64_w, i32_w]; rw [c5b0]) | skip)
      by_cases c6 : (l1.length : Int) > 6
      · rw [if_pos c6] at H
        have c6b0 : decide (6 < (l1.length : Int)) = true := decide_eq_true c6
        have c6b1 : decide (6 < l1.length) = true := decide_eq_true (by omega)
        clear c6
        have H' := Aside0.mk H
        clear H
        go_wp2
        repeat (go_quiet (fail); try go_wp2)
        go_meet
        case rel => exact ⟨_, (true), (by first | rfl | (simp; done) | (simp [*]; done)), H', ⟨by first | omega | exact Nat.le_refl _⟩, by repeat (first | exact Drawn0.refl _ | apply Drawn0.step)⟩
      · rw [if_neg c6] at H
        have c6b0 : decide (6 < (l1.length : Int)) = false := decide_eq_false c6
        have c6b1 : decide (6 < l1.length) = false := decide_eq_false (by omega)
        clear c6
        replace H := Option.bind_eq_some_iff.mp H
        obtain ⟨t416, A70, H⟩ := H
        replace H : (if t416 = true then ((semigroupref01_Valid.f k a2 (l1.length : Int)).bind fun t417 => (semigroupref14_Value.j0 k l0 l1 a2 (!t417))) else (semigroupref14_Value.j0 k l0 l1 a2 true)) = some r := H
        have A7 := Aside0.mk A70
        clear A70
        by_cases c8 : t416 = true
        · subst c8
          have H1 : ((semigroupref01_Valid.f k a2 (l1.length : Int)).bind fun t417 => (semigroupref14_Value.j0 k l0 l1 a2 (!t417))) = some r := by rw [if_pos rfl] at H; exact H
          clear H
          have H := H1
          clear H1
          replace H := Option.bind_eq_some_iff.mp H
          obtain ⟨t417, A90, H⟩ := H
          replace H : (semigroupref14_Value.j0 k l0 l1 a2 (!t417)) = some r := H
          have A9 := Aside0.mk A90
          clear A90
          have H' := Aside0.mk H
          clear H
          go_wp2_with (first | (go_at_call 32; (with_reducible refine (semigroupref14_In.calls k _ _ l0 _ _ l1 true _ ?side1 ?side2 ?side3 ?side4 A7.out).mono ?_); (case side1 => repeat (first | exact HR0.out | (with_reducible refine Kd.C_alloc ?_ _) | (with_reducible refine Kd.C_drewN ?_ _) | (with_reducible refine Kd.C_drew ?_))); (case side2 => exact HC0.out); (case side3 => repeat (first | exact HR1.out | (with_reducible refine Kd.C_alloc ?_ _) | (with_reducible refine Kd.C_drewN ?_ _) | (with_reducible refine Kd.C_drew ?_))); (case side4 => exact HC1.out); rintro e w' ⟨rfl, ⟨nd, rfl⟩⟩; (try first | exact ⟨rfl, _, World.drewN_drewN _ _ _⟩ | exact ⟨rfl, _, Eq.trans (World.drewN_drewN _ _ _) (congrArg (World.drewN _) (Nat.add_assoc _ _ _))⟩)) | (go_at_call 44; (with_reducible refine (semigroupref01_Valid.calls k a2 (l1.length : Int) t417 _ A9.out).mono ?_); rintro e w' ⟨rfl, ⟨nd, rfl⟩⟩; (try first | exact ⟨rfl, _, World.drewN_drewN _ _ _⟩ | exact ⟨rfl, _, Eq.trans (World.drewN_drewN _ _ _) (congrArg (World.drewN _) (Nat.add_assoc _ _ _))⟩)))
          repeat (go_quiet (first | (go_at_call 32; (with_reducible refine (semigroupref14_In.calls k _ _ l0 _ _ l1 true _ ?side1 ?side2 ?side3 ?side4 A7.out).mono ?_); (case side1 => repeat (first | exact HR0.out | (with_reducible refine Kd.C_alloc ?_ _) | (with_reducible refine Kd.C_drewN ?_ _) | (with_reducible refine Kd.C_drew ?_))); (case side2 => exact HC0.out); (case side3 => repeat (first | exact HR1.out | (with_reducible refine Kd.C_alloc ?_ _) | (with_reducible refine Kd.C_drewN ?_ _) | (with_reducible refine Kd.C_drew ?_))); (case side4 => exact HC1.out); rintro e w' ⟨rfl, ⟨nd, rfl⟩⟩; (try first | exact ⟨rfl, _, World.drewN_drewN _ _ _⟩ | exact ⟨rfl, _, Eq.trans (World.drewN_drewN _ _ _) (congrArg (World.drewN _) (Nat.add_assoc _ _ _))⟩)) | (go_at_call 44; (with_reducible refine (semigroupref01_Valid.calls k a2 (l1.length : Int) t417 _ A9.out).mono ?_); rintro e w' ⟨rfl, ⟨nd, rfl⟩⟩; (try first | exact ⟨rfl, _, World.drewN_drewN _ _ _⟩ | exact ⟨rfl, _, Eq.trans (World.drewN_drewN _ _ _) (congrArg (World.drewN _) (Nat.add_assoc _ _ _))⟩))); try go_wp2_with (first | (go_at_call 32; (with_reducible refine (semigroupref14_In.calls k _ _ l0 _ _ l1 true _ ?side1 ?side2 ?side3 ?side4 A7.out).mono ?_); (case side1 => repeat (first | exact HR0.out | (with_reducible refine Kd.C_alloc ?_ _) | (with_reducible refine Kd.C_drewN ?_ _) | (with_reducible refine Kd.C_drew ?_))); (case side2 => exact HC0.out); (case side3 => repeat (first | exact HR1.out | (with_reducible refine Kd.C_alloc ?_ _) | (with_reducible refine Kd.C_drewN ?_ _) | (with_reducible refine Kd.C_drew ?_))); (case side4 => exact HC1.out); rintro e w' ⟨rfl, ⟨nd, rfl⟩⟩; (try first | exact ⟨rfl, _, World.drewN_drewN _ _ _⟩ | exact ⟨rfl, _, Eq.trans (World.drewN_drewN _ _ _) (congrArg (World.drewN _) (Nat.add_assoc _ _ _))⟩)) | (go_at_call 44; (with_reducible refine (semigroupref01_Valid.calls k a2 (l1.length : Int) t417 _ A9.out).mono ?_); rintro e w' ⟨rfl, ⟨nd, rfl⟩⟩; (try first | exact ⟨rfl, _, World.drewN_drewN _ _ _⟩ | exact ⟨rfl, _, Eq.trans (World.drewN_drewN _ _ _) (congrArg (World.drewN _) (Nat.add_assoc _ _ _))⟩))))
          go_meet
          case rel => exact ⟨_, (!t417), (by first | rfl | (simp; done) | (simp [*]; done)), H', ⟨by first | omega | exact Nat.le_refl _⟩, by repeat (first | exact Drawn0.refl _ | apply Drawn0.step)⟩
        · replace c8 := Bool.eq_false_iff.mpr c8
          subst c8
          have H1 : (semigroupref14_Value.j0 k l0 l1 a2 true) = some r := by rw [if_neg (show ¬ (false = true) by decide)] at H; exact H
          clear H
          have H := H1
          clear H1
          have H' := Aside0.mk H
          clear H
          go_wp2_with (first | (go_at_call 32; (with_reducible refine (semigroupref14_In.calls k _ _ l0 _ _ l1 false _ ?side1 ?side2 ?side3 ?side4 A7.out).mono ?_); (case side1 => repeat (first | exact HR0.out | (with_reducible refine Kd.C_alloc ?_ _) | (with_reducible refine Kd.C_drewN ?_ _) | (with_reducible refine Kd.C_drew ?_))); (case side2 => exact HC0.out); (case side3 => repeat (first | exact HR1.out | (with_reducible refine Kd.C_alloc ?_ _) | (with_reducible refine Kd.C_drewN ?_ _) | (with_reducible refine Kd.C_drew ?_))); (case side4 => exact HC1.out); rintro e w' ⟨rfl, ⟨nd, rfl⟩⟩; (try first | exact ⟨rfl, _, World.drewN_drewN _ _ _⟩ | exact ⟨rfl, _, Eq.trans (World.drewN_drewN _ _ _) (congrArg (World.drewN _) (Nat.add_assoc _ _ _))⟩)))
          repeat (go_quiet (first | (go_at_call 32; (with_reducible refine (semigroupref14_In.calls k _ _ l0 _ _ l1 false _ ?side1 ?side2 ?side3 ?side4 A7.out).mono ?_); (case side1 => repeat (first | exact HR0.out | (with_reducible refine Kd.C_alloc ?_ _) | (with_reducible refine Kd.C_drewN ?_ _) | (with_reducible refine Kd.C_drew ?_))); (case side2 => exact HC0.out); (case side3 => repeat (first | exact HR1.out | (with_reducible refine Kd.C_alloc ?_ _) | (with_reducible refine Kd.C_drewN ?_ _) | (with_reducible refine Kd.C_drew ?_))); (case side4 => exact HC1.out); rintro e w' ⟨rfl, ⟨nd, rfl⟩⟩; (try first | exact ⟨rfl, _, World.drewN_drewN _ _ _⟩ | exact ⟨rfl, _, Eq.trans (World.drewN_drewN _ _ _) (congrArg (World.drewN _) (Nat.add_assoc _ _ _))⟩))); try go_wp2_with (first | (go_at_call 32; (with_reducible refine (semigroupref14_In.calls k _ _ l0 _ _ l1 false _ ?side1 ?side2 ?side3 ?side4 A7.out).mono ?_); (case side1 => repeat (first | exact HR0.out | (with_reducible refine Kd.C_alloc ?_ _) | (with_reducible refine Kd.C_drewN ?_ _) | (with_reducible refine Kd.C_drew ?_))); (case side2 => exact HC0.out); (case side3 => repeat (first | exact HR1.out | (with_reducible refine Kd.C_alloc ?_ _) | (with_reducible refine Kd.C_drewN ?_ _) | (with_reducible refine Kd.C_drew ?_))); (case side4 => exact HC1.out); rintro e w' ⟨rfl, ⟨nd, rfl⟩⟩; (try first | exact ⟨rfl, _, World.drewN_drewN _ _ _⟩ | exact ⟨rfl, _, Eq.trans (World.drewN_drewN _ _ _) (congrArg (World.drewN _) (Nat.add_assoc _ _ _))⟩))))
          go_meet
          case rel => exact ⟨_, (true), (by first | rfl | (simp; done) | (simp [*]; done)), H', ⟨by first | omega | exact Nat.le_refl _⟩, by repeat (first | exact Drawn0.refl _ | apply Drawn0.step)⟩
  case rest =>
    clear HC4
    try clear c1
    try clear p2
    try clear c4
    try clear c5
    try clear c5b0
    try clear c5b1
    try clear c6
    try clear c6b0
    try clear c6b1
    try clear c8
    obtain ⟨kq, x29_3, rfl, HA, HJ3, ⟨mc3, rfl⟩⟩ := hcut
    cases kq with
    | zero => exact absurd HA.out (by simp [semigroupref14_Value.j0])
    | succ kj3 =>
      have H := HA.out
      clear HA
      simp only [semigroupref14_Value.j0] at H
      by_cases c10 : x29_3 = true
      · subst c10
        have H1 : (some (-1)) = some r := by rw [if_pos rfl] at H; exact H
        clear H
        have H := H1
        clear H1
        obtain rfl := Option.some.inj H
        go_wp2
        repeat (go_quiet (fail); try go_wp2)
        go_ret
        exact ⟨by first | rfl | (simp; done) | (simp [*]; done), by repeat (first | exact Drawn0.refl _ | apply Drawn0.step)⟩
      · replace c10 := Bool.eq_false_iff.mpr c10
        subst c10
        have H1 : (if a2.toList = ([] : List UInt8) then ((semigroupref14_Identity.f kj3 l0).bind fun t418 => (some t418)) else (if 0 < (a2.size : Int) then (if 0 ≤ (((bt a2 0) - 97) % 256) then (if (((bt a2 0) - 97) % 256) < (l1.length : Int) then (semigroupref14_Value.l0 kj3 l0 l1 a2 (rd l1 (((bt a2 0) - 97) % 256)) 1) else (none)) else (none)) else (none))) = some r := by rw [if_neg (show ¬ (false = true) by decide)] at H; exact H
        clear H
        have H := H1
        clear H1
        by_cases c11 : a2.toList = ([] : List UInt8)
        · rw [if_pos c11] at H
          have c11b0 : (a2.toList == ([] : List UInt8)) = true := beq_iff_eq.mpr c11
          have c11b1 : (a2.toList != ([] : List UInt8)) = false := bne_eq_false_iff_eq.mpr c11
          clear c11
          replace H := Option.bind_eq_some_iff.mp H
          obtain ⟨t418, A120, H⟩ := H
          replace H : (some t418) = some r := H
          have A12 := Aside0.mk A120
          clear A120
          obtain rfl := Option.some.inj H
          go_wp2_with (first | (go_at_call 25; (with_reducible refine (semigroupref14_Identity.calls kj3 _ _ l0 t418 _ ?side1 ?side2 A12.out).mono ?_); (case side1 => repeat (first | exact HR0.out | (with_reducible refine Kd.C_alloc ?_ _) | (with_reducible refine Kd.C_drewN ?_ _) | (with_reducible refine Kd.C_drew ?_))); (case side2 => exact HC0.out); rintro e w' ⟨rfl, ⟨nd, rfl⟩⟩; (try first | exact ⟨rfl, _, World.drewN_drewN _ _ _⟩ | exact ⟨rfl, _, Eq.trans (World.drewN_drewN _ _ _) (congrArg (World.drewN _) (Nat.add_assoc _ _ _))⟩)))
          repeat (go_quiet (first | (go_at_call 25; (with_reducible refine (semigroupref14_Identity.calls kj3 _ _ l0 t418 _ ?side1 ?side2 A12.out).mono ?_); (case side1 => repeat (first | exact HR0.out | (with_reducible refine Kd.C_alloc ?_ _) | (with_reducible refine Kd.C_drewN ?_ _) | (with_reducible refine Kd.C_drew ?_))); (case side2 => exact HC0.out); rintro e w' ⟨rfl, ⟨nd, rfl⟩⟩; (try first | exact ⟨rfl, _, World.drewN_drewN _ _ _⟩ | exact ⟨rfl, _, Eq.trans (World.drewN_drewN _ _ _) (congrArg (World.drewN _) (Nat.add_assoc _ _ _))⟩))); try go_wp2_with (first | (go_at_call 25; (with_reducible refine (semigroupref14_Identity.calls kj3 _ _ l0 t418 _ ?side1 ?side2 A12.out).mono ?_); (case side1 => repeat (first | exact HR0.out | (with_reducible refine Kd.C_alloc ?_ _) | (with_reducible refine Kd.C_drewN ?_ _) | (with_reducible refine Kd.C_drew ?_))); (case side2 => exact HC0.out); rintro e w' ⟨rfl, ⟨nd, rfl⟩⟩; (try first | exact ⟨rfl, _, World.drewN_drewN _ _ _⟩ | exact ⟨rfl, _, Eq.trans (World.drewN_drewN _ _ _) (congrArg (World.drewN _) (Nat.add_assoc _ _ _))⟩))))
          go_ret
          exact ⟨by first | rfl | (simp; done) | (simp [*]; done), by repeat (first | exact Drawn0.refl _ | apply Drawn0.step)⟩
        · rw [if_neg c11] at H
          have c11b0 : (a2.toList == ([] : List UInt8)) = false := beq_eq_false_iff_ne.mpr c11
          have c11b1 : (a2.toList != ([] : List UInt8)) = true := bne_iff_ne.mpr c11
          by_cases c13 : 0 < (a2.size : Int)
          · rw [if_pos c13] at H
            have c13b0 : decide (0 < (a2.size : Int)) = true := decide_eq_true c13
            have c13b1 : decide (0 < a2.size) = true := decide_eq_true (by omega)
            clear c13
            obtain ⟨ji15, hji15⟩ : ∃ j_ : Int, (((bt a2 0) - 97) % 256) = j_ := ⟨_, rfl⟩
            replace H : (if 0 ≤ (ji15) then (if (ji15) < (l1.length : Int) then (semigroupref14_Value.l0 kj3 l0 l1 a2 (rd l1 (ji15)) 1) else (none)) else (none)) = some r := by first | (rw [hji15] at H; exact H) | (simp only [hji15] at H ⊢; exact H)
            by_cases c16 : 0 ≤ (ji15)
            · rw [if_pos c16] at H
              have c16b0 : decide (0 ≤ (ji15)) = true := decide_eq_true c16
              clear c16
              by_cases c17 : (ji15) < (l1.length : Int)
              · rw [if_pos c17] at H
                have c17b0 : decide ((ji15) < (l1.length : Int)) = true := decide_eq_true c17
                clear c17
                have H' := Aside0.mk H
                clear H
                have p14 : 0 ≤ (0 : Int) := (by omega)
                have q14 : 0 < a2.size := (by have : (0 : Int) < (a2.size : Int) := of_decide_eq_true (by first | (with_reducible assumption) | assumption); omega)
                have hx14 : ∀ h : 0 < a2.size, ((a2[0]'h).toNat : Int) = bt a2 0 := bt_at a2 0
                clear p14
                have qi14 : (0 < (a2.size : Int)) = True := eq_true (of_decide_eq_true (by first | (with_reducible assumption) | assumption))
                replace q14 := eq_true q14
                have p419 : 0 ≤ ((ji15) : Int) := of_decide_eq_true (by first | (with_reducible assumption) | assumption)
                have q419 : (ji15) < (l1.length : Int) := of_decide_eq_true (by first | (with_reducible assumption) | assumption)
                obtain ⟨ad419, e419, hx419_0⟩ := Kd.at_int HR1.out (ji15) p419 q419
                cases e419
                replace p419 := eq_true p419
                replace q419 := eq_true q419
                go_wp2
                repeat (go_quiet (fail); try go_wp2)
                go_loopg [7, 8] kj3 (fun kq v7 v8 w' => ∃ (x7_2 : Int) (x8_2 : Int), v7 = .int .i64 x7_2 ∧ v8 = .int .i64 x8_2 ∧ Aside0 (semigroupref14_Value.l0 kq l0 l1 a2 x7_2 x8_2 = some r) ∧ Aside0 (kq ≤ kj3) ∧ Drawn0 w w')
                case atStart => exact ⟨(rd l1 (ji15)), (1), (by first | rfl | (simp; done) | (simp only [← hji15] <;> (first | rfl | simp)) | (simp [*]; done)), (by first | rfl | (simp; done) | (simp [*]; done)), H', ⟨Nat.le_refl _⟩, by repeat (first | exact Drawn0.refl _ | apply Drawn0.step)⟩
                case round =>
                  (try clear hji15); (try clear hji15w)
                  clear H'
                  try clear c1
                  try clear p1
                  try clear q1
                  try clear hx1
                  try clear qi1
                  try clear p2
                  try clear c3
                  try clear c4
                  try clear p4
                  try clear q4
                  try clear hx4
                  try clear c5
                  try clear c5b0
                  try clear c5b1
                  try clear c6
                  try clear c6b0
                  try clear c6b1
                  try clear c8
                  try clear c10
                  try clear c11
                  try clear c11b0
                  try clear c11b1
                  try clear c13
                  try clear c13b0
                  try clear c13b1
                  try clear p14
                  try clear q14
                  try clear hx14
                  try clear qi14
                  try clear c16
                  try clear c16b0
                  try clear c17
                  try clear c17b0
                  try clear hx419_0
                  try clear p14
                  try clear p2
                  try clear p419
                  try clear q14
                  try clear q419
                  obtain ⟨x7_2, x8_2, rfl, rfl, HA, HK2, ⟨m2, rfl⟩⟩ := hrel
                  cases gk with
                  | zero => exact absurd HA.out (by simp [semigroupref14_Value.l0])
                  | succ k2 =>
                    have H := HA.out
                    clear HA
                    simp only [semigroupref14_Value.l0] at H
                    by_cases c18 : x8_2 < (a2.size : Int)
                    · rw [if_pos c18] at H
                      have c18b0 : decide (x8_2 < (a2.size : Int)) = true := decide_eq_true c18
                      clear c18
                      by_cases c19 : 0 ≤ x7_2
                      · rw [if_pos c19] at H
                        have c19b0 : decide (0 ≤ x7_2) = true := decide_eq_true c19
                        clear c19
                        by_cases c20 : x7_2 < (l0.length : Int)
                        · rw [if_pos c20] at H
                          have c20b0 : decide (x7_2 < (l0.length : Int)) = true := decide_eq_true c20
                          clear c20
                          by_cases c21 : 0 ≤ x8_2
                          · rw [if_pos c21] at H
                            have c21b0 : decide (0 ≤ x8_2) = true := decide_eq_true c21
                            clear c21
                            obtain ⟨ji23, hji23⟩ : ∃ j_ : Int, (((bt a2 x8_2) - 97) % 256) = j_ := ⟨_, rfl⟩
                            replace H : (if 0 ≤ (ji23) then (if (ji23) < (l1.length : Int) then (if 0 ≤ (rd l1 (ji23)) then (if (rd l1 (ji23)) < ((rd_L1 l0 x7_2).length : Int) then (semigroupref14_Value.l0 k2 l0 l1 a2 (rd (rd_L1 l0 x7_2) (rd l1 (ji23))) (wrap64 (x8_2 + 1))) else (none)) else (none)) else (none)) else (none)) = some r := by first | (rw [hji23] at H; exact H) | (simp only [hji23] at H ⊢; exact H)
                            by_cases c24 : 0 ≤ (ji23)
                            · rw [if_pos c24] at H
                              have c24b0 : decide (0 ≤ (ji23)) = true := decide_eq_true c24
                              clear c24
                              by_cases c25 : (ji23) < (l1.length : Int)
                              · rw [if_pos c25] at H
                                have c25b0 : decide ((ji23) < (l1.length : Int)) = true := decide_eq_true c25
                                clear c25
                                by_cases c26 : 0 ≤ (rd l1 (ji23))
                                · rw [if_pos c26] at H
                                  have c26b0 : decide (0 ≤ (rd l1 (ji23))) = true := decide_eq_true c26
                                  clear c26
                                  by_cases c27 : (rd l1 (ji23)) < ((rd_L1 l0 x7_2).length : Int)
                                  · rw [if_pos c27] at H
                                    have c27b0 : decide ((rd l1 (ji23)) < ((rd_L1 l0 x7_2).length : Int)) = true := decide_eq_true c27
                                    clear c27
                                    have H' := Aside0.mk H
                                    clear H
                                    have p420 : 0 ≤ (x7_2 : Int) := of_decide_eq_true (by first | (with_reducible assumption) | assumption)
                                    have q420 : x7_2 < (l0.length : Int) := of_decide_eq_true (by first | (with_reducible assumption) | assumption)
                                    obtain ⟨ad420, A420_0, c420_0, e420, hx420_0, hl420_0, hi420_0⟩ := at_L1 HR0.out x7_2 p420 q420
                                    cases e420
                                    have HR420_0 := Aside0.mk hi420_0
                                    have HC420_0 := Aside0.mk hl420_0
                                    (try clear hi420_0); (try clear hl420_0)
                                    replace p420 := eq_true p420
                                    replace q420 := eq_true q420
                                    have p22 : 0 ≤ (x8_2 : Int) := of_decide_eq_true (by first | (with_reducible assumption) | assumption)
                                    have q22 : x8_2 < (a2.size : Int) := of_decide_eq_true (by first | (with_reducible assumption) | assumption)
                                    have hx22 := bt_at a2 x8_2
                                    replace p22 := eq_true p22
                                    replace q22 := eq_true q22
                                    have p421 : 0 ≤ ((ji23) : Int) := of_decide_eq_true (by first | (with_reducible assumption) | assumption)
                                    have q421 : (ji23) < (l1.length : Int) := of_decide_eq_true (by first | (with_reducible assumption) | assumption)
                                    obtain ⟨ad421, e421, hx421_0⟩ := Kd.at_int HR1.out (ji23) p421 q421
                                    obtain rfl : ad419 = ad421 := (by injection e421)
                                    replace p421 := eq_true p421
                                    replace q421 := eq_true q421
                                    have p422 : 0 ≤ ((rd l1 (ji23)) : Int) := of_decide_eq_true (by first | (with_reducible assumption) | assumption)
                                    have q422 : (rd l1 (ji23)) < ((rd_L1 l0 x7_2).length : Int) := of_decide_eq_true (by first | (with_reducible assumption) | assumption)
                                    obtain ⟨ad422, e422, hx422_0⟩ := Kd.at_int HR420_0.out (rd l1 (ji23)) p422 q422
                                    cases e422
                                    replace p422 := eq_true p422
                                    replace q422 := eq_true q422
                                    go_wp2
                                    repeat (go_quiet (fail); try go_wp2)
                                    go_roundg k2
                                    case measure => have := HJ3.out; have := HK2.out; omega
                                    case rel => exact ⟨(rd (rd_L1 l0 x7_2) (rd l1 (ji23))), (wrap64 (x8_2 + 1)), (by first | rfl | (simp; done) | (simp only [← hji23] <;> (first | rfl | simp)) | (simp [*]; done)), (by first | rfl | (simp; done) | (simp [*]; done)), H', ⟨by have := HJ3.out; have := HK2.out; omega⟩, by repeat (first | exact Drawn0.refl _ | apply Drawn0.step)⟩
                                  · rw [if_neg c27] at H
                                    exact absurd H (by simp)
                                · rw [if_neg c26] at H
                                  exact absurd H (by simp)
                              · rw [if_neg c25] at H
                                exact absurd H (by simp)
                            · rw [if_neg c24] at H
                              exact absurd H (by simp)
                          · rw [if_neg c21] at H
                            exact absurd H (by simp)
                        · rw [if_neg c20] at H
                          exact absurd H (by simp)
                      · rw [if_neg c19] at H
                        exact absurd H (by simp)
                    · rw [if_neg c18] at H
                      have c18b0 : decide (x8_2 < (a2.size : Int)) = false := decide_eq_false c18
                      clear c18
                      obtain rfl := Option.some.inj H
                      go_wp2
                      repeat (go_quiet (fail); try go_wp2)
                      go_ret
                      exact ⟨by first | rfl | (simp; done) | (simp only [← hji15] <;> (first | rfl | simp)) | (simp [*]; done), by repeat (first | exact Drawn0.refl _ | apply Drawn0.step)⟩
              · rw [if_neg c17] at H
                exact absurd H (by simp)
            · rw [if_neg c16] at H
              exact absurd H (by simp)
          · rw [if_neg c13] at H
            exact absurd H (by simp)

end Go.Proofs.Ytlhckcldeojfmaa.PAll
