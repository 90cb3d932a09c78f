-- printed for this claim by printall.sh out of the translation; Lean checks it
import Derived.Test.YtlhckcldeojfmaaPAllx0
import Derived.Test.YtlhckcldeojfmaaPAllx1
import Derived.Test.YtlhckcldeojfmaaPAllx2
import Derived.Test.YtlhckcldeojfmaaPAllx9
namespace Go.Proofs.Ytlhckcldeojfmaa.PAll
open Go.RowKit Go.Proofs.YtlhckcldeojfmaaW.PrintWords Go.Proofs.YtlhckcldeojfmaaW.PrintLast Go.Proofs.YtlhckcldeojfmaaW.PrintMore
attribute [local go_sem] max2_int min2_int max_two min_two max_three min_three max_four min_four   -- for this text's walks alone
set_option linter.unusedVariables false
set_option linter.unusedSimpArgs false

/-! ### word_Valid: function 71 -/
mutual
def word_Valid.j0 : Nat → ByteArray → Int → Bool → Option (Bool)
  | 0, _, _, _ => none
  | k + 1, x0, x1, x16 => if x16 = true then (some false) else (word_Valid.l0 k x0 x1 0)
def word_Valid.l0 : Nat → ByteArray → Int → Int → Option (Bool)
  | 0, _, _, _ => none
  | k + 1, x0, x1, x5 => if x5 < (x0.size : Int) then (if 0 ≤ x5 then (if (bt x0 x5) < 97 then (some false) else (if (((bt x0 x5) - 97) % 256) ≥ x1 then (some false) else (word_Valid.l0 k x0 x1 (wrap64 (x5 + 1))))) else (none)) else (some true)
end
def word_Valid.f (k : Nat) (a0 : ByteArray) (a1 : Int) : Option (Bool) := if a1 < 1 then (word_Valid.j0 k a0 a1 true) else (if a1 > 6 then (word_Valid.j0 k a0 a1 true) else (word_Valid.j0 k a0 a1 (decide ((a0.size : Int) > 2048))))
theorem word_Valid.mono_l : ∀ k, (∀ y0 y1 y2, LeO (word_Valid.j0 k y0 y1 y2) (word_Valid.j0 (k + 1) y0 y1 y2)) ∧ (∀ y0 y1 y2, LeO (word_Valid.l0 k y0 y1 y2) (word_Valid.l0 (k + 1) y0 y1 y2))
  | 0 => ⟨fun _ _ _ r h => by simp [word_Valid.j0] at h, fun _ _ _ r h => by simp [word_Valid.l0] at h⟩
  | k + 1 => by
    obtain ⟨ih0, ih1⟩ := word_Valid.mono_l k
    refine ⟨?_, ?_⟩
    · intro y0 y1 y2
      unfold word_Valid.j0
      repeat' first
      | (with_reducible exact ih0 _ _ _)
      | (with_reducible exact ih1 _ _ _)
      | (with_reducible exact LeO.refl _)
      | (with_reducible exact LeO.none _)
      | (with_reducible refine LeO.ite ?_ ?_)
      | (with_reducible refine LeO.bind ?_ (fun _ => ?_))
      | exact ih0 _ _ _
      | exact ih1 _ _ _
      | exact LeO.none _
      | refine LeO.ite ?_ ?_
      | refine LeO.bind ?_ (fun _ => ?_)
    · intro y0 y1 y2
      unfold word_Valid.l0
      repeat' first
      | (with_reducible exact ih0 _ _ _)
      | (with_reducible exact ih1 _ _ _)
      | (with_reducible exact LeO.refl _)
      | (with_reducible exact LeO.none _)
      | (with_reducible refine LeO.ite ?_ ?_)
      | (with_reducible refine LeO.bind ?_ (fun _ => ?_))
      | exact ih0 _ _ _
      | exact ih1 _ _ _
      | exact LeO.none _
      | refine LeO.ite ?_ ?_
      | refine LeO.bind ?_ (fun _ => ?_)
theorem word_Valid.mono : ∀ a0 a1 k, LeO (word_Valid.f k a0 a1) (word_Valid.f (k + 1) a0 a1) := by
  intro a0 a1 k
  obtain ⟨ih0, ih1⟩ := word_Valid.mono_l k
  unfold word_Valid.f
  repeat' first
      | (with_reducible exact ih0 _ _ _)
      | (with_reducible exact ih1 _ _ _)
      | (with_reducible exact LeO.refl _)
      | (with_reducible exact LeO.none _)
      | (with_reducible refine LeO.ite ?_ ?_)
      | (with_reducible refine LeO.bind ?_ (fun _ => ?_))
      | exact ih0 _ _ _
      | exact ih1 _ _ _
      | exact LeO.none _
      | refine LeO.ite ?_ ?_
      | refine LeO.bind ?_ (fun _ => ?_)
set_option maxHeartbeats 8000000 in
set_option maxRecDepth 100000 in
theorem word_Valid.calls (k : Nat) (a0 : ByteArray) (a1 : Int) (r : Bool) (w : World) (h : word_Valid.f k a0 a1 = some r) :
    Calls Try.prog 71 #[.string a0, .int .i64 a1] w fun e w' => e = .returned (.bool r) ∧ Drawn0 w w' := by
  have H : (if a1 < 1 then (word_Valid.j0 k a0 a1 true) else (if a1 > 6 then (word_Valid.j0 k a0 a1 true) else (word_Valid.j0 k a0 a1 (decide ((a0.size : Int) > 2048))))) = some r := h
  clear h
  have HC3 := Aside0.mk H
  clear H
  go_enter Try.func71, Try.ntmps71
  go_upto_region 1 with (fail)
  go_cut [16] (fun v16 wc => ∃ (kq : Nat) (x16_2 : Bool), v16 = .bool x16_2 ∧ Aside0 (word_Valid.j0 kq a0 a1 x16_2 = some r) ∧ Aside0 (kq ≤ k) ∧ Drawn0 w wc)
  case first =>
    have H := HC3.out
    clear HC3
    by_cases c4 : a1 < 1
    · rw [if_pos c4] at H
      have c4b0 : decide (a1 < 1) = true := decide_eq_true c4
      clear c4
      (first | rw [c4b0] | (simp only [i64_w, i32_w]; rw [c4b0]) | skip)
      have H' := Aside0.mk H
      clear H
      go_wp2
      go_meet
      case rel => exact ⟨_, (true), (by first | rfl | (simp; done) | (simp [*]; done)), H', ⟨by first | omega | exact Nat.le_refl _⟩, by repeat (first | exact Drawn0.refl _ | apply Drawn0.step)⟩
    · rw [if_neg c4] at H
      have c4b0 : decide (a1 < 1) = false := decide_eq_false c4
      clear c4
      (first | rw [c4b0] | (simp only [i64_w, i32_w]; rw [c4b0]) | skip)
      by_cases c5 : a1 > 6
      · rw [if_pos c5] at H
        have c5b0 : decide (6 < a1) = true := decide_eq_true c5
        clear c5
        have H' := Aside0.mk H
        clear H
        go_wp2
        go_meet
        case rel => exact ⟨_, (true), (by first | rfl | (simp; done) | (simp [*]; done)), H', ⟨by first | omega | exact Nat.le_refl _⟩, by repeat (first | exact Drawn0.refl _ | apply Drawn0.step)⟩
      · rw [if_neg c5] at H
        have c5b0 : decide (6 < a1) = false := decide_eq_false c5
        clear c5
        have H' := Aside0.mk H
        clear H
        go_wp2
        go_meet
        case rel => exact ⟨_, (decide ((a0.size : Int) > 2048)), (by first | rfl | (simp; done) | (simp [*]; done)), H', ⟨by first | omega | exact Nat.le_refl _⟩, by repeat (first | exact Drawn0.refl _ | apply Drawn0.step)⟩
  case rest =>
    clear HC3
    try clear p2
    try clear c4
    try clear c4b0
    try clear c5
    try clear c5b0
    obtain ⟨kq, x16_2, rfl, HA, HJ2, ⟨mc2, rfl⟩⟩ := hcut
    cases kq with
    | zero => exact absurd HA.out (by simp [word_Valid.j0])
    | succ kj2 =>
      have H := HA.out
      clear HA
      simp only [word_Valid.j0] at H
      by_cases c6 : x16_2 = true
      · subst c6
        have H1 : (some false) = some r := by rw [if_pos rfl] at H; exact H
        clear H
        have H := H1
        clear H1
        obtain rfl := Option.some.inj H
        go_wp2
        go_ret
        exact ⟨by first | rfl | (simp; done) | (simp [*]; done), by repeat (first | exact Drawn0.refl _ | apply Drawn0.step)⟩
      · replace c6 := Bool.eq_false_iff.mpr c6
        subst c6
        have H1 : (word_Valid.l0 kj2 a0 a1 0) = some r := by rw [if_neg (show ¬ (false = true) by decide)] at H; exact H
        clear H
        have H := H1
        clear H1
        have H' := Aside0.mk H
        clear H
        go_wp2
        go_loopg [5] kj2 (fun kq v5 w' => ∃ (x5_2 : Int), v5 = .int .i64 x5_2 ∧ Aside0 (word_Valid.l0 kq a0 a1 x5_2 = some r) ∧ Aside0 (kq ≤ kj2) ∧ Drawn0 w w')
        case atStart => exact ⟨(0), (by first | rfl | (simp; done) | (simp [*]; done)), H', ⟨Nat.le_refl _⟩, by repeat (first | exact Drawn0.refl _ | apply Drawn0.step)⟩
        case round =>
          clear H'
          try clear c2
          try clear p2
          try clear c4
          try clear c4b0
          try clear c5
          try clear c5b0
          try clear c6
          try clear p2
          obtain ⟨x5_2, rfl, HA, HK2, ⟨m2, rfl⟩⟩ := hrel
          cases gk with
          | zero => exact absurd HA.out (by simp [word_Valid.l0])
          | succ k2 =>
            have H := HA.out
            clear HA
            simp only [word_Valid.l0] at H
            by_cases c7 : x5_2 < (a0.size : Int)
            · rw [if_pos c7] at H
              have c7b0 : decide (x5_2 < (a0.size : Int)) = true := decide_eq_true c7
              clear c7
              by_cases c8 : 0 ≤ x5_2
              · rw [if_pos c8] at H
                have c8b0 : decide (0 ≤ x5_2) = true := decide_eq_true c8
                clear c8
                by_cases c10 : (bt a0 x5_2) < 97
                · rw [if_pos c10] at H
                  have c10b0 : decide ((bt a0 x5_2) < 97) = true := decide_eq_true c10
                  clear c10
                  obtain rfl := Option.some.inj H
                  have p9 : 0 ≤ (x5_2 : Int) := of_decide_eq_true (by first | (with_reducible assumption) | assumption)
                  have q9 : x5_2 < (a0.size : Int) := of_decide_eq_true (by first | (with_reducible assumption) | assumption)
                  have hx9 := bt_at a0 x5_2
                  replace p9 := eq_true p9
                  replace q9 := eq_true q9
                  go_wp2
                  go_ret
                  exact ⟨by first | rfl | (simp; done) | (simp [*]; done), by repeat (first | exact Drawn0.refl _ | apply Drawn0.step)⟩
                · rw [if_neg c10] at H
                  have c10b0 : decide ((bt a0 x5_2) < 97) = false := decide_eq_false c10
                  clear c10
                  by_cases c12 : (((bt a0 x5_2) - 97) % 256) ≥ a1
                  · rw [if_pos c12] at H
                    have c12b0 : decide (a1 ≤ (((bt a0 x5_2) - 97) % 256)) = true := decide_eq_true c12
                    clear c12
                    obtain rfl := Option.some.inj H
                    have p9 : 0 ≤ (x5_2 : Int) := of_decide_eq_true (by first | (with_reducible assumption) | assumption)
                    have q9 : x5_2 < (a0.size : Int) := of_decide_eq_true (by first | (with_reducible assumption) | assumption)
                    have hx9 := bt_at a0 x5_2
                    replace p9 := eq_true p9
                    replace q9 := eq_true q9
                    have p11 : 0 ≤ (x5_2 : Int) := of_decide_eq_true (by first | (with_reducible assumption) | assumption)
                    have q11 : x5_2 < (a0.size : Int) := of_decide_eq_true (by first | (with_reducible assumption) | assumption)
                    have hx11 := bt_at a0 x5_2
                    replace p11 := eq_true p11
                    replace q11 := eq_true q11
                    go_wp2
                    go_ret
                    exact ⟨by first | rfl | (simp; done) | (simp [*]; done), by repeat (first | exact Drawn0.refl _ | apply Drawn0.step)⟩
                  · rw [if_neg c12] at H
                    have c12b0 : decide (a1 ≤ (((bt a0 x5_2) - 97) % 256)) = false := decide_eq_false c12
                    clear c12
                    have H' := Aside0.mk H
                    clear H
                    have p9 : 0 ≤ (x5_2 : Int) := of_decide_eq_true (by first | (with_reducible assumption) | assumption)
                    have q9 : x5_2 < (a0.size : Int) := of_decide_eq_true (by first | (with_reducible assumption) | assumption)
                    have hx9 := bt_at a0 x5_2
                    replace p9 := eq_true p9
                    replace q9 := eq_true q9
                    have p11 : 0 ≤ (x5_2 : Int) := of_decide_eq_true (by first | (with_reducible assumption) | assumption)
                    have q11 : x5_2 < (a0.size : Int) := of_decide_eq_true (by first | (with_reducible assumption) | assumption)
                    have hx11 := bt_at a0 x5_2
                    replace p11 := eq_true p11
                    replace q11 := eq_true q11
                    go_wp2
                    go_roundg k2
                    case measure => have := HJ2.out; have := HK2.out; omega
                    case rel => exact ⟨(wrap64 (x5_2 + 1)), (by first | rfl | (simp; done) | (simp [*]; done)), H', ⟨by have := HJ2.out; have := HK2.out; omega⟩, by repeat (first | exact Drawn0.refl _ | apply Drawn0.step)⟩
              · rw [if_neg c8] at H
                exact absurd H (by simp)
            · rw [if_neg c7] at H
              have c7b0 : decide (x5_2 < (a0.size : Int)) = false := decide_eq_false c7
              clear c7
              obtain rfl := Option.some.inj H
              go_wp2
              go_ret
              exact ⟨by first | rfl | (simp; done) | (simp [*]; done), by repeat (first | exact Drawn0.refl _ | apply Drawn0.step)⟩

/-! ### mult_Value: function 42 -/
mutual
def mult_Value.j0 : Nat → List (List Int) → List Int → ByteArray → Bool → Option (Int)
  | 0, _, _, _, _ => none
  | k + 1, x0, x1, x2, x34 => if x34 = true then (some (-1)) else (if x2.toList = ([] : List UInt8) then ((mult_identity.f k x0).bind fun t410 => (some t410)) else (if 0 < (x2.size : Int) then (if 0 ≤ (((bt x2 0) - 97) % 256) then (if (((bt x2 0) - 97) % 256) < (x1.length : Int) then (mult_Value.l0 k x0 x1 x2 (rd x1 (((bt x2 0) - 97) % 256)) 1) else (none)) else (none)) else (none)))
def mult_Value.l0 : Nat → List (List Int) → List Int → ByteArray → Int → Int → Option (Int)
  | 0, _, _, _, _, _ => none
  | k + 1, x0, x1, x2, x7, x8 => if x8 < (x2.size : Int) then (if 0 ≤ x7 then (if x7 < (x0.length : Int) then (if 0 ≤ x8 then (if 0 ≤ (((bt x2 x8) - 97) % 256) then (if (((bt x2 x8) - 97) % 256) < (x1.length : Int) then (if 0 ≤ (rd x1 (((bt x2 x8) - 97) % 256)) then (if (rd x1 (((bt x2 x8) - 97) % 256)) < ((rd_L1 x0 x7).length : Int) then (mult_Value.l0 k x0 x1 x2 (rd (rd_L1 x0 x7) (rd x1 (((bt x2 x8) - 97) % 256))) (wrap64 (x8 + 1))) else (none)) else (none)) else (none)) else (none)) else (none)) else (none)) else (none)) else (some x7)
end
def mult_Value.f (k : Nat) (l0 : List (List Int)) (l1 : List Int) (a2 : ByteArray) : Option (Int) := (mult_Validate.f k l0).bind fun t407 => (if t407 = 0 then (if (l1.length : Int) < 1 then (mult_Value.j0 k l0 l1 a2 true) else (if (l1.length : Int) > 6 then (mult_Value.j0 k l0 l1 a2 true) else ((mult_elements.f k l0 l1).bind fun t408 => (if t408 = true then ((word_Valid.f k a2 (l1.length : Int)).bind fun t409 => (mult_Value.j0 k l0 l1 a2 (!t409))) else (mult_Value.j0 k l0 l1 a2 true))))) else (mult_Value.j0 k l0 l1 a2 true))
theorem mult_Value.mono_l : ∀ k, (∀ y0 y1 y2 y3, LeO (mult_Value.j0 k y0 y1 y2 y3) (mult_Value.j0 (k + 1) y0 y1 y2 y3)) ∧ (∀ y0 y1 y2 y3 y4, LeO (mult_Value.l0 k y0 y1 y2 y3 y4) (mult_Value.l0 (k + 1) y0 y1 y2 y3 y4))
  | 0 => ⟨fun _ _ _ _ r h => by simp [mult_Value.j0] at h, fun _ _ _ _ _ r h => by simp [mult_Value.l0] at h⟩
  | k + 1 => by
    obtain ⟨ih0, ih1⟩ := mult_Value.mono_l k
    refine ⟨?_, ?_⟩
    · intro y0 y1 y2 y3
      unfold mult_Value.j0
      repeat' first
      | (with_reducible exact ih0 _ _ _ _)
      | (with_reducible exact ih1 _ _ _ _ _)
      | (with_reducible exact mult_Validate.mono _ _)
      | (with_reducible exact mult_elements.mono _ _ _)
      | (with_reducible exact mult_identity.mono _ _)
      | (with_reducible exact word_Valid.mono _ _ _)
      | (with_reducible exact LeO.refl _)
      | (with_reducible exact LeO.none _)
      | (with_reducible refine LeO.ite ?_ ?_)
      | (with_reducible refine LeO.bind ?_ (fun _ => ?_))
      | exact ih0 _ _ _ _
      | exact ih1 _ _ _ _ _
      | exact mult_Validate.mono _ _
      | exact mult_elements.mono _ _ _
      | exact mult_identity.mono _ _
      | exact word_Valid.mono _ _ _
      | exact LeO.none _
      | refine LeO.ite ?_ ?_
      | refine LeO.bind ?_ (fun _ => ?_)
    · intro y0 y1 y2 y3 y4
      unfold mult_Value.l0
      repeat' first
      | (with_reducible exact ih0 _ _ _ _)
      | (with_reducible exact ih1 _ _ _ _ _)
      | (with_reducible exact mult_Validate.mono _ _)
      | (with_reducible exact mult_elements.mono _ _ _)
      | (with_reducible exact mult_identity.mono _ _)
      | (with_reducible exact word_Valid.mono _ _ _)
      | (with_reducible exact LeO.refl _)
      | (with_reducible exact LeO.none _)
      | (with_reducible refine LeO.ite ?_ ?_)
      | (with_reducible refine LeO.bind ?_ (fun _ => ?_))
      | exact ih0 _ _ _ _
      | exact ih1 _ _ _ _ _
      | exact mult_Validate.mono _ _
      | exact mult_elements.mono _ _ _
      | exact mult_identity.mono _ _
      | exact word_Valid.mono _ _ _
      | exact LeO.none _
      | refine LeO.ite ?_ ?_
      | refine LeO.bind ?_ (fun _ => ?_)
theorem mult_Value.mono : ∀ a0 a1 a2 k, LeO (mult_Value.f k a0 a1 a2) (mult_Value.f (k + 1) a0 a1 a2) := by
  intro a0 a1 a2 k
  obtain ⟨ih0, ih1⟩ := mult_Value.mono_l k
  unfold mult_Value.f
  repeat' first
      | (with_reducible exact ih0 _ _ _ _)
      | (with_reducible exact ih1 _ _ _ _ _)
      | (with_reducible exact mult_Validate.mono _ _)
      | (with_reducible exact mult_elements.mono _ _ _)
      | (with_reducible exact mult_identity.mono _ _)
      | (with_reducible exact word_Valid.mono _ _ _)
      | (with_reducible exact LeO.refl _)
      | (with_reducible exact LeO.none _)
      | (with_reducible refine LeO.ite ?_ ?_)
      | (with_reducible refine LeO.bind ?_ (fun _ => ?_))
      | exact ih0 _ _ _ _
      | exact ih1 _ _ _ _ _
      | exact mult_Validate.mono _ _
      | exact mult_elements.mono _ _ _
      | exact mult_identity.mono _ _
      | exact word_Valid.mono _ _ _
      | exact LeO.none _
      | refine LeO.ite ?_ ?_
      | refine LeO.bind ?_ (fun _ => ?_)
set_option maxHeartbeats 8000000 in
set_option maxRecDepth 100000 in
theorem mult_Value.calls (k : Nat) (A0 : Option Addr) (c0 : Nat) (l0 : List (List Int)) (A1 : Option Addr) (c1 : Nat) (l1 : List Int) (a2 : ByteArray) (r : Int) (w : World) (hr0 : Kd.C (Kd.slice 3 (Kd.int .i64)) w A0 l0.length l0) (hc0 : l0.length ≤ c0) (hr1 : Kd.C (Kd.int .i64) w A1 l1.length l1) (hc1 : l1.length ≤ c1) (h : mult_Value.f k l0 l1 a2 = some r) :
    Calls Try.prog 42 #[.slice A0 l0.length c0, .slice A1 l1.length c1, .string a2] w fun e w' => e = .returned (.int .i64 r) ∧ Drawn0 w w' := by
  have HR0 := Aside0.mk hr0
  have HC0 := Aside0.mk hc0
  (try clear hr0); (try clear hc0)
  have HR1 := Aside0.mk hr1
  have HC1 := Aside0.mk hc1
  (try clear hr1); (try clear hc1)
  have H : ((mult_Validate.f k l0).bind fun t407 => (if t407 = 0 then (if (l1.length : Int) < 1 then (mult_Value.j0 k l0 l1 a2 true) else (if (l1.length : Int) > 6 then (mult_Value.j0 k l0 l1 a2 true) else ((mult_elements.f k l0 l1).bind fun t408 => (if t408 = true then ((word_Valid.f k a2 (l1.length : Int)).bind fun t409 => (mult_Value.j0 k l0 l1 a2 (!t409))) else (mult_Value.j0 k l0 l1 a2 true))))) else (mult_Value.j0 k l0 l1 a2 true))) = some r := h
  clear h
  have HC4 := Aside0.mk H
  clear H
  go_enter Try.func42, Try.ntmps42
  go_upto_region 1 with (fail)
  repeat (go_quiet (fail); go_upto_region 1 with (fail))
  go_cut [34] (fun v34 wc => ∃ (kq : Nat) (x34_3 : Bool), v34 = .bool x34_3 ∧ Aside0 (mult_Value.j0 kq l0 l1 a2 x34_3 = some r) ∧ Aside0 (kq ≤ k) ∧ Drawn0 w wc)
  case first =>
    have H := HC4.out
    clear HC4
    replace H := Option.bind_eq_some_iff.mp H
    obtain ⟨t407, A50, H⟩ := H
    replace H : (if t407 = 0 then (if (l1.length : Int) < 1 then (mult_Value.j0 k l0 l1 a2 true) else (if (l1.length : Int) > 6 then (mult_Value.j0 k l0 l1 a2 true) else ((mult_elements.f k l0 l1).bind fun t408 => (if t408 = true then ((word_Valid.f k a2 (l1.length : Int)).bind fun t409 => (mult_Value.j0 k l0 l1 a2 (!t409))) else (mult_Value.j0 k l0 l1 a2 true))))) else (mult_Value.j0 k l0 l1 a2 true)) = some r := H
    have A5 := Aside0.mk A50
    clear A50
    by_cases c6 : t407 = 0
    · rw [if_pos c6] at H
      have c6b0 : (t407 == 0) = true := beq_iff_eq.mpr c6
      have c6b1 : (t407 != 0) = false := bne_eq_false_iff_eq.mpr c6
      clear c6
      (first | rw [c6b0] | (simp only [i64_w, i32_w]; rw [c6b0]) | skip)
      by_cases c7 : (l1.length : Int) < 1
      · rw [if_pos c7] at H
        have c7b0 : decide ((l1.length : Int) < 1) = true := decide_eq_true c7
        have c7b1 : decide (l1.length < 1) = true := decide_eq_true (by omega)
        clear c7
        have H' := Aside0.mk H
        clear H
        go_wp2_with (first | (go_at_call 19; (with_reducible refine (mult_Validate.calls k _ _ l0 t407 _ ?side1 ?side2 A5.out).mono ?_); (case side1 => repeat (first | exact HR0.out | (with_reducible refine Kd.C_alloc ?_ _) | (with_reducible refine Kd.C_drewN ?_ _) | (with_reducible refine Kd.C_drew ?_))); (case side2 => exact HC0.out); rintro e w' ⟨rfl, ⟨nd, rfl⟩⟩; (try first | exact ⟨rfl, _, World.drewN_drewN _ _ _⟩ | exact ⟨rfl, _, Eq.trans (World.drewN_drewN _ _ _) (congrArg (World.drewN _) (Nat.add_assoc _ _ _))⟩)))
        repeat (go_quiet (first | (go_at_call 19; (with_reducible refine (mult_Validate.calls k _ _ l0 t407 _ ?side1 ?side2 A5.out).mono ?_); (case side1 => repeat (first | exact HR0.out | (with_reducible refine Kd.C_alloc ?_ _) | (with_reducible refine Kd.C_drewN ?_ _) | (with_reducible refine Kd.C_drew ?_))); (case side2 => exact HC0.out); rintro e w' ⟨rfl, ⟨nd, rfl⟩⟩; (try first | exact ⟨rfl, _, World.drewN_drewN _ _ _⟩ | exact ⟨rfl, _, Eq.trans (World.drewN_drewN _ _ _) (congrArg (World.drewN _) (Nat.add_assoc _ _ _))⟩))); try go_wp2_with (first | (go_at_call 19; (with_reducible refine (mult_Validate.calls k _ _ l0 t407 _ ?side1 ?side2 A5.out).mono ?_); (case side1 => repeat (first | exact HR0.out | (with_reducible refine Kd.C_alloc ?_ _) | (with_reducible refine Kd.C_drewN ?_ _) | (with_reducible refine Kd.C_drew ?_))); (case side2 => exact HC0.out); rintro e w' ⟨rfl, ⟨nd, rfl⟩⟩; (try first | exact ⟨rfl, _, World.drewN_drewN _ _ _⟩ | exact ⟨rfl, _, Eq.trans (World.drewN_drewN _ _ _) (congrArg (World.drewN _) (Nat.add_assoc _ _ _))⟩))))
        go_meet
        case rel => exact ⟨_, (true), (by first | rfl | (simp; done) | (simp [*]; done)), H', ⟨by first | omega | exact Nat.le_refl _⟩, by repeat (first | exact Drawn0.refl _ | apply Drawn0.step)⟩
      · rw [if_neg c7] at H
        have c7b0 : decide ((l1.length : Int) < 1) = false := decide_eq_false c7
        have c7b1 : decide (l1.length < 1) = false := decide_eq_false (by omega)
        clear c7
        by_cases c8 : (l1.length : Int) > 6
        · rw [if_pos c8] at H
          have c8b0 : decide (6 < (l1.length : Int)) = true := decide_eq_true c8
          have c8b1 : decide (6 < l1.length) = true := decide_eq_true (by omega)
          clear c8
          have H' := Aside0.mk H
          clear H
          go_wp2_with (first | (go_at_call 19; (with_reducible refine (mult_Validate.calls k _ _ l0 t407 _ ?side1 ?side2 A5.out).mono ?_); (case side1 => repeat (first | exact HR0.out | (with_reducible refine Kd.C_alloc ?_ _) | (with_reducible refine Kd.C_drewN ?_ _) | (with_reducible refine Kd.C_drew ?_))); (case side2 => exact HC0.out); rintro e w' ⟨rfl, ⟨nd, rfl⟩⟩; (try first | exact ⟨rfl, _, World.drewN_drewN _ _ _⟩ | exact ⟨rfl, _, Eq.trans (World.drewN_drewN _ _ _) (congrArg (World.drewN _) (Nat.add_assoc _ _ _))⟩)))
          repeat (go_quiet (first | (go_at_call 19; (with_reducible refine (mult_Validate.calls k _ _ l0 t407 _ ?side1 ?side2 A5.out).mono ?_); (case side1 => repeat (first | exact HR0.out | (with_reducible refine Kd.C_alloc ?_ _) | (with_reducible refine Kd.C_drewN ?_ _) | (with_reducible refine Kd.C_drew ?_))); (case side2 => exact HC0.out); rintro e w' ⟨rfl, ⟨nd, rfl⟩⟩; (try first | exact ⟨rfl, _, World.drewN_drewN _ _ _⟩ | exact ⟨rfl, _, Eq.trans (World.drewN_drewN _ _ _) (congrArg (World.drewN _) (Nat.add_assoc _ _ _))⟩))); try go_wp2_with (first | (go_at_call 19; (with_reducible refine (mult_Validate.calls k _ _ l0 t407 _ ?side1 ?side2 A5.out).mono ?_); (case side1 => repeat (first | exact HR0.out | (with_reducible refine Kd.C_alloc ?_ _) | (with_reducible refine Kd.C_drewN ?_ _) | (with_reducible refine Kd.C_drew ?_))); (case side2 => exact HC0.out); rintro e w' ⟨rfl, ⟨nd, rfl⟩⟩; (try first | exact ⟨rfl, _, World.drewN_drewN _ _ _⟩ | exact ⟨rfl, _, Eq.trans (World.drewN_drewN _ _ _) (congrArg (World.drewN _) (Nat.add_assoc _ _ _))⟩))))
          go_meet
          case rel => exact ⟨_, (true), (by first | rfl | (simp; done) | (simp [*]; done)), H', ⟨by first | omega | exact Nat.le_refl _⟩, by repeat (first | exact Drawn0.refl _ | apply Drawn0.step)⟩
        · rw [if_neg c8] at H
          have c8b0 : decide (6 < (l1.length : Int)) = false := decide_eq_false c8
          have c8b1 : decide (6 < l1.length) = false := decide_eq_false (by omega)
          clear c8
          replace H := Option.bind_eq_some_iff.mp H
          obtain ⟨t408, A90, H⟩ := H
          replace H : (if t408 = true then ((word_Valid.f k a2 (l1.length : Int)).bind fun t409 => (mult_Value.j0 k l0 l1 a2 (!t409))) else (mult_Value.j0 k l0 l1 a2 true)) = some r := H
          have A9 := Aside0.mk A90
          clear A90
          by_cases c10 : t408 = true
          · subst c10
            have H1 : ((word_Valid.f k a2 (l1.length : Int)).bind fun t409 => (mult_Value.j0 k l0 l1 a2 (!t409))) = some r := by rw [if_pos rfl] at H; exact H
            clear H
            have H := H1
            clear H1
            replace H := Option.bind_eq_some_iff.mp H
            obtain ⟨t409, A110, H⟩ := H
            replace H : (mult_Value.j0 k l0 l1 a2 (!t409)) = some r := H
            have A11 := Aside0.mk A110
            clear A110
            have H' := Aside0.mk H
            clear H
            go_wp2_with (first | (go_at_call 19; (with_reducible refine (mult_Validate.calls k _ _ l0 t407 _ ?side1 ?side2 A5.out).mono ?_); (case side1 => repeat (first | exact HR0.out | (with_reducible refine Kd.C_alloc ?_ _) | (with_reducible refine Kd.C_drewN ?_ _) | (with_reducible refine Kd.C_drew ?_))); (case side2 => exact HC0.out); rintro e w' ⟨rfl, ⟨nd, rfl⟩⟩; (try first | exact ⟨rfl, _, World.drewN_drewN _ _ _⟩ | exact ⟨rfl, _, Eq.trans (World.drewN_drewN _ _ _) (congrArg (World.drewN _) (Nat.add_assoc _ _ _))⟩)) | (go_at_call 69; (with_reducible refine (mult_elements.calls k _ _ l0 _ _ l1 true _ ?side1 ?side2 ?side3 ?side4 A9.out).mono ?_); (case side1 => repeat (first | exact HR0.out | (with_reducible refine Kd.C_alloc ?_ _) | (with_reducible refine Kd.C_drewN ?_ _) | (with_reducible refine Kd.C_drew ?_))); (case side2 => exact HC0.out); (case side3 => repeat (first | exact HR1.out | (with_reducible refine Kd.C_alloc ?_ _) | (with_reducible refine Kd.C_drewN ?_ _) | (with_reducible refine Kd.C_drew ?_))); (case side4 => exact HC1.out); rintro e w' ⟨rfl, ⟨nd, rfl⟩⟩; (try first | exact ⟨rfl, _, World.drewN_drewN _ _ _⟩ | exact ⟨rfl, _, Eq.trans (World.drewN_drewN _ _ _) (congrArg (World.drewN _) (Nat.add_assoc _ _ _))⟩)) | (go_at_call 71; (with_reducible refine (word_Valid.calls k a2 (l1.length : Int) t409 _ A11.out).mono ?_); rintro e w' ⟨rfl, ⟨nd, rfl⟩⟩; (try first | exact ⟨rfl, _, World.drewN_drewN _ _ _⟩ | exact ⟨rfl, _, Eq.trans (World.drewN_drewN _ _ _) (congrArg (World.drewN _) (Nat.add_assoc _ _ _))⟩)))
            repeat (go_quiet (first | (go_at_call 19; (with_reducible refine (mult_Validate.calls k _ _ l0 t407 _ ?side1 ?side2 A5.out).mono ?_); (case side1 => repeat (first | exact HR0.out | (with_reducible refine Kd.C_alloc ?_ _) | (with_reducible refine Kd.C_drewN ?_ _) | (with_reducible refine Kd.C_drew ?_))); (case side2 => exact HC0.out); rintro e w' ⟨rfl, ⟨nd, rfl⟩⟩; (try first | exact ⟨rfl, _, World.drewN_drewN _ _ _⟩ | exact ⟨rfl, _, Eq.trans (World.drewN_drewN _ _ _) (congrArg (World.drewN _) (Nat.add_assoc _ _ _))⟩)) | (go_at_call 69; (with_reducible refine (mult_elements.calls k _ _ l0 _ _ l1 true _ ?side1 ?side2 ?side3 ?side4 A9.out).mono ?_); (case side1 => repeat (first | exact HR0.out | (with_reducible refine Kd.C_alloc ?_ _) | (with_reducible refine Kd.C_drewN ?_ _) | (with_reducible refine Kd.C_drew ?_))); (case side2 => exact HC0.out); (case side3 => repeat (first | exact HR1.out | (with_reducible refine Kd.C_alloc ?_ _) | (with_reducible refine Kd.C_drewN ?_ _) | (with_reducible refine Kd.C_drew ?_))); (case side4 => exact HC1.out); rintro e w' ⟨rfl, ⟨nd, rfl⟩⟩; (try first | exact ⟨rfl, _, World.drewN_drewN _ _ _⟩ | exact ⟨rfl, _, Eq.trans (World.drewN_drewN _ _ _) (congrArg (World.drewN _) (Nat.add_assoc _ _ _))⟩)) | (go_at_call 71; (with_reducible refine (word_Valid.calls k a2 (l1.length : Int) t409 _ A11.out).mono ?_); rintro e w' ⟨rfl, ⟨nd, rfl⟩⟩; (try first | exact ⟨rfl, _, World.drewN_drewN _ _ _⟩ | exact ⟨rfl, _, Eq.trans (World.drewN_drewN _ _ _) (congrArg (World.drewN _) (Nat.add_assoc _ _ _))⟩))); try go_wp2_with (first | (go_at_call 19; (with_reducible refine (mult_Validate.calls k _ _ l0 t407 _ ?side1 ?side2 A5.out).mono ?_); (case side1 => repeat (first | exact HR0.out | (with_reducible refine Kd.C_alloc ?_ _) | (with_reducible refine Kd.C_drewN ?_ _) | (with_reducible refine Kd.C_drew ?_))); (case side2 => exact HC0.out); rintro e w' ⟨rfl, ⟨nd, rfl⟩⟩; (try first | exact ⟨rfl, _, World.drewN_drewN _ _ _⟩ | exact ⟨rfl, _, Eq.trans (World.drewN_drewN _ _ _) (congrArg (World.drewN _) (Nat.add_assoc _ _ _))⟩)) | (go_at_call 69; (with_reducible refine (mult_elements.calls k _ _ l0 _ _ l1 true _ ?side1 ?side2 ?side3 ?side4 A9.out).mono ?_); (case side1 => repeat (first | exact HR0.out | (with_reducible refine Kd.C_alloc ?_ _) | (with_reducible refine Kd.C_drewN ?_ _) | (with_reducible refine Kd.C_drew ?_))); (case side2 => exact HC0.out); (case side3 => repeat (first | exact HR1.out | (with_reducible refine Kd.C_alloc ?_ _) | (with_reducible refine Kd.C_drewN ?_ _) | (with_reducible refine Kd.C_drew ?_))); (case side4 => exact HC1.out); rintro e w' ⟨rfl, ⟨nd, rfl⟩⟩; (try first | exact ⟨rfl, _, World.drewN_drewN _ _ _⟩ | exact ⟨rfl, _, Eq.trans (World.drewN_drewN _ _ _) (congrArg (World.drewN _) (Nat.add_assoc _ _ _))⟩)) | (go_at_call 71; (with_reducible refine (word_Valid.calls k a2 (l1.length : Int) t409 _ A11.out).mono ?_); rintro e w' ⟨rfl, ⟨nd, rfl⟩⟩; (try first | exact ⟨rfl, _, World.drewN_drewN _ _ _⟩ | exact ⟨rfl, _, Eq.trans (World.drewN_drewN _ _ _) (congrArg (World.drewN _) (Nat.add_assoc _ _ _))⟩))))
            go_meet
            case rel => exact ⟨_, (!t409), (by first | rfl | (simp; done) | (simp [*]; done)), H', ⟨by first | omega | exact Nat.le_refl _⟩, by repeat (first | exact Drawn0.refl _ | apply Drawn0.step)⟩
          · replace c10 := Bool.eq_false_iff.mpr c10
            subst c10
            have H1 : (mult_Value.j0 k l0 l1 a2 true) = some r := by rw [if_neg (show ¬ (false = true) by decide)] at H; exact H
            clear H
            have H := H1
            clear H1
            have H' := Aside0.mk H
            clear H
            go_wp2_with (first | (go_at_call 19; (with_reducible refine (mult_Validate.calls k _ _ l0 t407 _ ?side1 ?side2 A5.out).mono ?_); (case side1 => repeat (first | exact HR0.out | (with_reducible refine Kd.C_alloc ?_ _) | (with_reducible refine Kd.C_drewN ?_ _) | (with_reducible refine Kd.C_drew ?_))); (case side2 => exact HC0.out); rintro e w' ⟨rfl, ⟨nd, rfl⟩⟩; (try first | exact ⟨rfl, _, World.drewN_drewN _ _ _⟩ | exact ⟨rfl, _, Eq.trans (World.drewN_drewN _ _ _) (congrArg (World.drewN _) (Nat.add_assoc _ _ _))⟩)) | (go_at_call 69; (with_reducible refine (mult_elements.calls k _ _ l0 _ _ l1 false _ ?side1 ?side2 ?side3 ?side4 A9.out).mono ?_); (case side1 => repeat (first | exact HR0.out | (with_reducible refine Kd.C_alloc ?_ _) | (with_reducible refine Kd.C_drewN ?_ _) | (with_reducible refine Kd.C_drew ?_))); (case side2 => exact HC0.out); (case side3 => repeat (first | exact HR1.out | (with_reducible refine Kd.C_alloc ?_ _) | (with_reducible refine Kd.C_drewN ?_ _) | (with_reducible refine Kd.C_drew ?_))); (case side4 => exact HC1.out); rintro e w' ⟨rfl, ⟨nd, rfl⟩⟩; (try first | exact ⟨rfl, _, World.drewN_drewN _ _ _⟩ | exact ⟨rfl, _, Eq.trans (World.drewN_drewN _ _ _) (congrArg (World.drewN _) (Nat.add_assoc _ _ _))⟩)))
            repeat (go_quiet (first | (go_at_call 19; (with_reducible refine (mult_Validate.calls k _ _ l0 t407 _ ?side1 ?side2 A5.out).mono ?_); (case side1 => repeat (first | exact HR0.out | (with_reducible refine Kd.C_alloc ?_ _) | (with_reducible refine Kd.C_drewN ?_ _) | (with_reducible refine Kd.C_drew ?_))); (case side2 => exact HC0.out); rintro e w' ⟨rfl, ⟨nd, rfl⟩⟩; (try first | exact ⟨rfl, _, World.drewN_drewN _ _ _⟩ | exact ⟨rfl, _, Eq.trans (World.drewN_drewN _ _ _) (congrArg (World.drewN _) (Nat.add_assoc _ _ _))⟩)) | (go_at_call 69; (with_reducible refine (mult_elements.calls k _ _ l0 _ _ l1 false _ ?side1 ?side2 ?side3 ?side4 A9.out).mono ?_); (case side1 => repeat (first | exact HR0.out | (with_reducible refine Kd.C_alloc ?_ _) | (with_reducible refine Kd.C_drewN ?_ _) | (with_reducible refine Kd.C_drew ?_))); (case side2 => exact HC0.out); (case side3 => repeat (first | exact HR1.out | (with_reducible refine Kd.C_alloc ?_ _) | (with_reducible refine Kd.C_drewN ?_ _) | (with_reducible refine Kd.C_drew ?_))); (case side4 => exact HC1.out); rintro e w' ⟨rfl, ⟨nd, rfl⟩⟩; (try first | exact ⟨rfl, _, World.drewN_drewN _ _ _⟩ | exact ⟨rfl, _, Eq.trans (World.drewN_drewN _ _ _) (congrArg (World.drewN _) (Nat.add_assoc _ _ _))⟩))); try go_wp2_with (first | (go_at_call 19; (with_reducible refine (mult_Validate.calls k _ _ l0 t407 _ ?side1 ?side2 A5.out).mono ?_); (case side1 => repeat (first | exact HR0.out | (with_reducible refine Kd.C_alloc ?_ _) | (with_reducible refine Kd.C_drewN ?_ _) | (with_reducible refine Kd.C_drew ?_))); (case side2 => exact HC0.out); rintro e w' ⟨rfl, ⟨nd, rfl⟩⟩; (try first | exact ⟨rfl, _, World.drewN_drewN _ _ _⟩ | exact ⟨rfl, _, Eq.trans (World.drewN_drewN _ _ _) (congrArg (World.drewN _) (Nat.add_assoc _ _ _))⟩)) | (go_at_call 69; (with_reducible refine (mult_elements.calls k _ _ l0 _ _ l1 false _ ?side1 ?side2 ?side3 ?side4 A9.out).mono ?_); (case side1 => repeat (first | exact HR0.out | (with_reducible refine Kd.C_alloc ?_ _) | (with_reducible refine Kd.C_drewN ?_ _) | (with_reducible refine Kd.C_drew ?_))); (case side2 => exact HC0.out); (case side3 => repeat (first | exact HR1.out | (with_reducible refine Kd.C_alloc ?_ _) | (with_reducible refine Kd.C_drewN ?_ _) | (with_reducible refine Kd.C_drew ?_))); (case side4 => exact HC1.out); rintro e w' ⟨rfl, ⟨nd, rfl⟩⟩; (try first | exact ⟨rfl, _, World.drewN_drewN _ _ _⟩ | exact ⟨rfl, _, Eq.trans (World.drewN_drewN _ _ _) (congrArg (World.drewN _) (Nat.add_assoc _ _ _))⟩))))
            go_meet
            case rel => exact ⟨_, (true), (by first | rfl | (simp; done) | (simp [*]; done)), H', ⟨by first | omega | exact Nat.le_refl _⟩, by repeat (first | exact Drawn0.refl _ | apply Drawn0.step)⟩
    · rw [if_neg c6] at H
      have c6b0 : (t407 == 0) = false := beq_eq_false_iff_ne.mpr c6
      have c6b1 : (t407 != 0) = true := bne_iff_ne.mpr c6
      (first | rw [c6b0] | (simp only [i64_w, i32_w]; rw [c6b0]) | skip)
      have H' := Aside0.mk H
      clear H
      go_wp2_with (first | (go_at_call 19; (with_reducible refine (mult_Validate.calls k _ _ l0 t407 _ ?side1 ?side2 A5.out).mono ?_); (case side1 => repeat (first | exact HR0.out | (with_reducible refine Kd.C_alloc ?_ _) | (with_reducible refine Kd.C_drewN ?_ _) | (with_reducible refine Kd.C_drew ?_))); (case side2 => exact HC0.out); rintro e w' ⟨rfl, ⟨nd, rfl⟩⟩; (try first | exact ⟨rfl, _, World.drewN_drewN _ _ _⟩ | exact ⟨rfl, _, Eq.trans (World.drewN_drewN _ _ _) (congrArg (World.drewN _) (Nat.add_assoc _ _ _))⟩)))
      repeat (go_quiet (first | (go_at_call 19; (with_reducible refine (mult_Validate.calls k _ _ l0 t407 _ ?side1 ?side2 A5.out).mono ?_); (case side1 => repeat (first | exact HR0.out | (with_reducible refine Kd.C_alloc ?_ _) | (with_reducible refine Kd.C_drewN ?_ _) | (with_reducible refine Kd.C_drew ?_))); (case side2 => exact HC0.out); rintro e w' ⟨rfl, ⟨nd, rfl⟩⟩; (try first | exact ⟨rfl, _, World.drewN_drewN _ _ _⟩ | exact ⟨rfl, _, Eq.trans (World.drewN_drewN _ _ _) (congrArg (World.drewN _) (Nat.add_assoc _ _ _))⟩))); try go_wp2_with (first | (go_at_call 19; (with_reducible refine (mult_Validate.calls k _ _ l0 t407 _ ?side1 ?side2 A5.out).mono ?_); (case side1 => repeat (first | exact HR0.out | (with_reducible refine Kd.C_alloc ?_ _) | (with_reducible refine Kd.C_drewN ?_ _) | (with_reducible refine Kd.C_drew ?_))); (case side2 => exact HC0.out); rintro e w' ⟨rfl, ⟨nd, rfl⟩⟩; (try first | exact ⟨rfl, _, World.drewN_drewN _ _ _⟩ | exact ⟨rfl, _, Eq.trans (World.drewN_drewN _ _ _) (congrArg (World.drewN _) (Nat.add_assoc _ _ _))⟩))))
      go_meet
      case rel => exact ⟨_, (true), (by first | rfl | (simp; done) | (simp [*]; done)), H', ⟨by first | omega | exact Nat.le_refl _⟩, by repeat (first | exact Drawn0.refl _ | apply Drawn0.step)⟩
  case rest =>
    clear HC4
    try clear c1
    try clear p2
    try clear c4
    try clear c6
    try clear c6b0
    try clear c6b1
    try clear c7
    try clear c7b0
    try clear c7b1
    try clear c8
    try clear c8b0
    try clear c8b1
    try clear c10
    obtain ⟨kq, x34_3, rfl, HA, HJ3, ⟨mc3, rfl⟩⟩ := hcut
    cases kq with
    | zero => exact absurd HA.out (by simp [mult_Value.j0])
    | succ kj3 =>
      have H := HA.out
      clear HA
      simp only [mult_Value.j0] at H
      by_cases c12 : x34_3 = true
      · subst c12
        have H1 : (some (-1)) = some r := by rw [if_pos rfl] at H; exact H
        clear H
        have H := H1
        clear H1
        obtain rfl := Option.some.inj H
        go_wp2
        repeat (go_quiet (fail); try go_wp2)
        go_ret
        exact ⟨by first | rfl | (simp; done) | (simp [*]; done), by repeat (first | exact Drawn0.refl _ | apply Drawn0.step)⟩
      · replace c12 := Bool.eq_false_iff.mpr c12
        subst c12
        have H1 : (if a2.toList = ([] : List UInt8) then ((mult_identity.f kj3 l0).bind fun t410 => (some t410)) else (if 0 < (a2.size : Int) then (if 0 ≤ (((bt a2 0) - 97) % 256) then (if (((bt a2 0) - 97) % 256) < (l1.length : Int) then (mult_Value.l0 kj3 l0 l1 a2 (rd l1 (((bt a2 0) - 97) % 256)) 1) else (none)) else (none)) else (none))) = some r := by rw [if_neg (show ¬ (false = true) by decide)] at H; exact H
        clear H
        have H := H1
        clear H1
        by_cases c13 : a2.toList = ([] : List UInt8)
        · rw [if_pos c13] at H
          have c13b0 : (a2.toList == ([] : List UInt8)) = true := beq_iff_eq.mpr c13
          have c13b1 : (a2.toList != ([] : List UInt8)) = false := bne_eq_false_iff_eq.mpr c13
          clear c13
          replace H := Option.bind_eq_some_iff.mp H
          obtain ⟨t410, A140, H⟩ := H
          replace H : (some t410) = some r := H
          have A14 := Aside0.mk A140
          clear A140
          obtain rfl := Option.some.inj H
          go_wp2_with (first | (go_at_call 64; (with_reducible refine (mult_identity.calls kj3 _ _ l0 t410 _ ?side1 ?side2 A14.out).mono ?_); (case side1 => repeat (first | exact HR0.out | (with_reducible refine Kd.C_alloc ?_ _) | (with_reducible refine Kd.C_drewN ?_ _) | (with_reducible refine Kd.C_drew ?_))); (case side2 => exact HC0.out); rintro e w' ⟨rfl, ⟨nd, rfl⟩⟩; (try first | exact ⟨rfl, _, World.drewN_drewN _ _ _⟩ | exact ⟨rfl, _, Eq.trans (World.drewN_drewN _ _ _) (congrArg (World.drewN _) (Nat.add_assoc _ _ _))⟩)))
          repeat (go_quiet (first | (go_at_call 64; (with_reducible refine (mult_identity.calls kj3 _ _ l0 t410 _ ?side1 ?side2 A14.out).mono ?_); (case side1 => repeat (first | exact HR0.out | (with_reducible refine Kd.C_alloc ?_ _) | (with_reducible refine Kd.C_drewN ?_ _) | (with_reducible refine Kd.C_drew ?_))); (case side2 => exact HC0.out); rintro e w' ⟨rfl, ⟨nd, rfl⟩⟩; (try first | exact ⟨rfl, _, World.drewN_drewN _ _ _⟩ | exact ⟨rfl, _, Eq.trans (World.drewN_drewN _ _ _) (congrArg (World.drewN _) (Nat.add_assoc _ _ _))⟩))); try go_wp2_with (first | (go_at_call 64; (with_reducible refine (mult_identity.calls kj3 _ _ l0 t410 _ ?side1 ?side2 A14.out).mono ?_); (case side1 => repeat (first | exact HR0.out | (with_reducible refine Kd.C_alloc ?_ _) | (with_reducible refine Kd.C_drewN ?_ _) | (with_reducible refine Kd.C_drew ?_))); (case side2 => exact HC0.out); rintro e w' ⟨rfl, ⟨nd, rfl⟩⟩; (try first | exact ⟨rfl, _, World.drewN_drewN _ _ _⟩ | exact ⟨rfl, _, Eq.trans (World.drewN_drewN _ _ _) (congrArg (World.drewN _) (Nat.add_assoc _ _ _))⟩))))
          go_ret
          exact ⟨by first | rfl | (simp; done) | (simp [*]; done), by repeat (first | exact Drawn0.refl _ | apply Drawn0.step)⟩
        · rw [if_neg c13] at H
          have c13b0 : (a2.toList == ([] : List UInt8)) = false := beq_eq_false_iff_ne.mpr c13
          have c13b1 : (a2.toList != ([] : List UInt8)) = true := bne_iff_ne.mpr c13
          by_cases c15 : 0 < (a2.size : Int)
          · rw [if_pos c15] at H
            have c15b0 : decide (0 < (a2.size : Int)) = true := decide_eq_true c15
            have c15b1 : decide (0 < a2.size) = true := decide_eq_true (by omega)
            clear c15
            obtain ⟨ji17, hji17⟩ : ∃ j_ : Int, (((bt a2 0) - 97) % 256) = j_ := ⟨_, rfl⟩
            replace H : (if 0 ≤ (ji17) then (if (ji17) < (l1.length : Int) then (mult_Value.l0 kj3 l0 l1 a2 (rd l1 (ji17)) 1) else (none)) else (none)) = some r := by first | (rw [hji17] at H; exact H) | (simp only [hji17] at H ⊢; exact H)
            by_cases c18 : 0 ≤ (ji17)
            · rw [if_pos c18] at H
              have c18b0 : decide (0 ≤ (ji17)) = true := decide_eq_true c18
              clear c18
              by_cases c19 : (ji17) < (l1.length : Int)
              · rw [if_pos c19] at H
                have c19b0 : decide ((ji17) < (l1.length : Int)) = true := decide_eq_true c19
                clear c19
                have H' := Aside0.mk H
                clear H
                have p16 : 0 ≤ (0 : Int) := (by omega)
                have q16 : 0 < a2.size := (by have : (0 : Int) < (a2.size : Int) := of_decide_eq_true (by first | (with_reducible assumption) | assumption); omega)
                have hx16 : ∀ h : 0 < a2.size, ((a2[0]'h).toNat : Int) = bt a2 0 := bt_at a2 0
                clear p16
                have qi16 : (0 < (a2.size : Int)) = True := eq_true (of_decide_eq_true (by first | (with_reducible assumption) | assumption))
                replace q16 := eq_true q16
                have p411 : 0 ≤ ((ji17) : Int) := of_decide_eq_true (by first | (with_reducible assumption) | assumption)
                have q411 : (ji17) < (l1.length : Int) := of_decide_eq_true (by first | (with_reducible assumption) | assumption)
                obtain ⟨ad411, e411, hx411_0⟩ := Kd.at_int HR1.out (ji17) p411 q411
                cases e411
                replace p411 := eq_true p411
                replace q411 := eq_true q411
                go_wp2
                repeat (go_quiet (fail); try go_wp2)
                go_loopg [7, 8] kj3 (fun kq v7 v8 w' => ∃ (x7_2 : Int) (x8_2 : Int), v7 = .int .i64 x7_2 ∧ v8 = .int .i64 x8_2 ∧ Aside0 (mult_Value.l0 kq l0 l1 a2 x7_2 x8_2 = some r) ∧ Aside0 (kq ≤ kj3) ∧ Drawn0 w w')
                case atStart => exact ⟨(rd l1 (ji17)), (1), (by first | rfl | (simp; done) | (simp only [← hji17] <;> (first | rfl | simp)) | (simp [*]; done)), (by first | rfl | (simp; done) | (simp [*]; done)), H', ⟨Nat.le_refl _⟩, by repeat (first | exact Drawn0.refl _ | apply Drawn0.step)⟩
                case round =>
                  (try clear hji17); (try clear hji17w)
                  clear H'
                  try clear c1
                  try clear p1
                  try clear q1
                  try clear hx1
                  try clear qi1
                  try clear p2
                  try clear c3
                  try clear c4
                  try clear p4
                  try clear q4
                  try clear hx4
                  try clear c6
                  try clear c6b0
                  try clear c6b1
                  try clear c7
                  try clear c7b0
                  try clear c7b1
                  try clear c8
                  try clear c8b0
                  try clear c8b1
                  try clear c10
                  try clear c12
                  try clear c13
                  try clear c13b0
                  try clear c13b1
                  try clear c15
                  try clear c15b0
                  try clear c15b1
                  try clear p16
                  try clear q16
                  try clear hx16
                  try clear qi16
                  try clear c18
                  try clear c18b0
                  try clear c19
                  try clear c19b0
                  try clear hx411_0
                  try clear p16
                  try clear p2
                  try clear p411
                  try clear q16
                  try clear q411
                  obtain ⟨x7_2, x8_2, rfl, rfl, HA, HK2, ⟨m2, rfl⟩⟩ := hrel
                  cases gk with
                  | zero => exact absurd HA.out (by simp [mult_Value.l0])
                  | succ k2 =>
                    have H := HA.out
                    clear HA
                    simp only [mult_Value.l0] at H
                    by_cases c20 : x8_2 < (a2.size : Int)
                    · rw [if_pos c20] at H
                      have c20b0 : decide (x8_2 < (a2.size : Int)) = true := decide_eq_true c20
                      clear c20
                      by_cases c21 : 0 ≤ x7_2
                      · rw [if_pos c21] at H
                        have c21b0 : decide (0 ≤ x7_2) = true := decide_eq_true c21
                        clear c21
                        by_cases c22 : x7_2 < (l0.length : Int)
                        · rw [if_pos c22] at H
                          have c22b0 : decide (x7_2 < (l0.length : Int)) = true := decide_eq_true c22
                          clear c22
                          by_cases c23 : 0 ≤ x8_2
                          · rw [if_pos c23] at H
                            have c23b0 : decide (0 ≤ x8_2) = true := decide_eq_true c23
                            clear c23
                            obtain ⟨ji25, hji25⟩ : ∃ j_ : Int, (((bt a2 x8_2) - 97) % 256) = j_ := ⟨_, rfl⟩
                            replace H : (if 0 ≤ (ji25) then (if (ji25) < (l1.length : Int) then (if 0 ≤ (rd l1 (ji25)) then (if (rd l1 (ji25)) < ((rd_L1 l0 x7_2).length : Int) then (mult_Value.l0 k2 l0 l1 a2 (rd (rd_L1 l0 x7_2) (rd l1 (ji25))) (wrap64 (x8_2 + 1))) else (none)) else (none)) else (none)) else (none)) = some r := by first | (rw [hji25] at H; exact H) | (simp only [hji25] at H ⊢; exact H)
                            by_cases c26 : 0 ≤ (ji25)
                            · rw [if_pos c26] at H
                              have c26b0 : decide (0 ≤ (ji25)) = true := decide_eq_true c26
                              clear c26
                              by_cases c27 : (ji25) < (l1.length : Int)
                              · rw [if_pos c27] at H
                                have c27b0 : decide ((ji25) < (l1.length : Int)) = true := decide_eq_true c27
                                clear c27
                                by_cases c28 : 0 ≤ (rd l1 (ji25))
                                · rw [if_pos c28] at H
                                  have c28b0 : decide (0 ≤ (rd l1 (ji25))) = true := decide_eq_true c28
                                  clear c28
                                  by_cases c29 : (rd l1 (ji25)) < ((rd_L1 l0 x7_2).length : Int)
                                  · rw [if_pos c29] at H
                                    have c29b0 : decide ((rd l1 (ji25)) < ((rd_L1 l0 x7_2).length : Int)) = true := decide_eq_true c29
                                    clear c29
                                    have H' := Aside0.mk H
                                    clear H
                                    have p412 : 0 ≤ (x7_2 : Int) := of_decide_eq_true (by first | (with_reducible assumption) | assumption)
                                    have q412 : x7_2 < (l0.length : Int) := of_decide_eq_true (by first | (with_reducible assumption) | assumption)
                                    obtain ⟨ad412, A412_0, c412_0, e412, hx412_0, hl412_0, hi412_0⟩ := at_L1 HR0.out x7_2 p412 q412
                                    cases e412
                                    have HR412_0 := Aside0.mk hi412_0
                                    have HC412_0 := Aside0.mk hl412_0
                                    (try clear hi412_0); (try clear hl412_0)
                                    replace p412 := eq_true p412
                                    replace q412 := eq_true q412
                                    have p24 : 0 ≤ (x8_2 : Int) := of_decide_eq_true (by first | (with_reducible assumption) | assumption)
                                    have q24 : x8_2 < (a2.size : Int) := of_decide_eq_true (by first | (with_reducible assumption) | assumption)
                                    have hx24 := bt_at a2 x8_2
                                    replace p24 := eq_true p24
                                    replace q24 := eq_true q24
                                    have p413 : 0 ≤ ((ji25) : Int) := of_decide_eq_true (by first | (with_reducible assumption) | assumption)
                                    have q413 : (ji25) < (l1.length : Int) := of_decide_eq_true (by first | (with_reducible assumption) | assumption)
                                    obtain ⟨ad413, e413, hx413_0⟩ := Kd.at_int HR1.out (ji25) p413 q413
                                    obtain rfl : ad411 = ad413 := (by injection e413)
                                    replace p413 := eq_true p413
                                    replace q413 := eq_true q413
                                    have p414 : 0 ≤ ((rd l1 (ji25)) : Int) := of_decide_eq_true (by first | (with_reducible assumption) | assumption)
                                    have q414 : (rd l1 (ji25)) < ((rd_L1 l0 x7_2).length : Int) := of_decide_eq_true (by first | (with_reducible assumption) | assumption)
                                    obtain ⟨ad414, e414, hx414_0⟩ := Kd.at_int HR412_0.out (rd l1 (ji25)) p414 q414
                                    cases e414
                                    replace p414 := eq_true p414
                                    replace q414 := eq_true q414
                                    go_wp2
                                    repeat (go_quiet (fail); try go_wp2)
                                    go_roundg k2
                                    case measure => have := HJ3.out; have := HK2.out; omega
                                    case rel => exact ⟨(rd (rd_L1 l0 x7_2) (rd l1 (ji25))), (wrap64 (x8_2 + 1)), (by first | rfl | (simp; done) | (simp only [← hji25] <;> (first | rfl | simp)) | (simp [*]; done)), (by first | rfl | (simp; done) | (simp [*]; done)), H', ⟨by have := HJ3.out; have := HK2.out; omega⟩, by repeat (first | exact Drawn0.refl _ | apply Drawn0.step)⟩
                                  · rw [if_neg c29] at H
                                    exact absurd H (by simp)
                                · rw [if_neg c28] at H
                                  exact absurd H (by simp)
                              · rw [if_neg c27] at H
                                exact absurd H (by simp)
                            · rw [if_neg c26] at H
                              exact absurd H (by simp)
                          · rw [if_neg c23] at H
                            exact absurd H (by simp)
                        · rw [if_neg c22] at H
                          exact absurd H (by simp)
                      · rw [if_neg c21] at H
                        exact absurd H (by simp)
                    · rw [if_neg c20] at H
                      have c20b0 : decide (x8_2 < (a2.size : Int)) = false := decide_eq_false c20
                      clear c20
                      obtain rfl := Option.some.inj H
                      go_wp2
                      repeat (go_quiet (fail); try go_wp2)
                      go_ret
                      exact ⟨by first | rfl | (simp; done) | (simp only [← hji17] <;> (first | rfl | simp)) | (simp [*]; done), by repeat (first | exact Drawn0.refl _ | apply Drawn0.step)⟩
              · rw [if_neg c19] at H
                exact absurd H (by simp)
            · rw [if_neg c18] at H
              exact absurd H (by simp)
          · rw [if_neg c15] at H
            exact absurd H (by simp)

/-! ### semigroupref01_MayLetters: function 72 -/
def semigroupref01_MayLetters.f (a0 : Int) : Option (Bool) := if a0 ≥ 1 then (some (decide (a0 ≤ 6))) else (some false)
set_option maxHeartbeats 8000000 in
set_option maxRecDepth 100000 in
theorem semigroupref01_MayLetters.calls (a0 : Int) (r : Bool) (w : World) (h : semigroupref01_MayLetters.f a0 = some r) :
    Calls Try.prog 72 #[.int .i64 a0] w fun e w' => e = .returned (.bool r) ∧ Drawn0 w w' := by
  have H : (if a0 ≥ 1 then (some (decide (a0 ≤ 6))) else (some false)) = some r := h
  clear h
  by_cases c2 : a0 ≥ 1
  · rw [if_pos c2] at H
    have c2b0 : decide (1 ≤ a0) = true := decide_eq_true c2
    clear c2
    obtain rfl := Option.some.inj H
    go_enter Try.func72, Try.ntmps72
    go_wp2
    go_ret
    exact ⟨by first | rfl | (simp; done) | (simp [*]; done), by repeat (first | exact Drawn0.refl _ | apply Drawn0.step)⟩
  · rw [if_neg c2] at H
    have c2b0 : decide (1 ≤ a0) = false := decide_eq_false c2
    clear c2
    obtain rfl := Option.some.inj H
    go_enter Try.func72, Try.ntmps72
    go_wp2
    go_ret
    exact ⟨by first | rfl | (simp; done) | (simp [*]; done), by repeat (first | exact Drawn0.refl _ | apply Drawn0.step)⟩

/-! ### semigroupref01_Valid: function 44 -/
mutual
def semigroupref01_Valid.j0 : Nat → ByteArray → Int → Bool → Option (Bool)
  | 0, _, _, _ => none
  | k + 1, x0, x1, x13 => if x13 = true then (some false) else (semigroupref01_Valid.l0 k x0 x1 0)
def semigroupref01_Valid.l0 : Nat → ByteArray → Int → Int → Option (Bool)
  | 0, _, _, _ => none
  | k + 1, x0, x1, x5 => if x5 < (x0.size : Int) then (if 0 ≤ x5 then (if (bt x0 x5) < 97 then (some false) else (if (((bt x0 x5) - 97) % 256) ≥ x1 then (some false) else (semigroupref01_Valid.l0 k x0 x1 (wrap64 (x5 + 1))))) else (none)) else (some true)
end
def semigroupref01_Valid.f (k : Nat) (a0 : ByteArray) (a1 : Int) : Option (Bool) := (semigroupref01_MayLetters.f a1).bind fun t415 => (if t415 = true then (semigroupref01_Valid.j0 k a0 a1 (decide ((a0.size : Int) > 2048))) else (semigroupref01_Valid.j0 k a0 a1 true))
theorem semigroupref01_Valid.mono_l : ∀ k, (∀ y0 y1 y2, LeO (semigroupref01_Valid.j0 k y0 y1 y2) (semigroupref01_Valid.j0 (k + 1) y0 y1 y2)) ∧ (∀ y0 y1 y2, LeO (semigroupref01_Valid.l0 k y0 y1 y2) (semigroupref01_Valid.l0 (k + 1) y0 y1 y2))
  | 0 => ⟨fun _ _ _ r h => by simp [semigroupref01_Valid.j0] at h, fun _ _ _ r h => by simp [semigroupref01_Valid.l0] at h⟩
  | k + 1 => by
    obtain ⟨ih0, ih1⟩ := semigroupref01_Valid.mono_l k
    refine ⟨?_, ?_⟩
    · intro y0 y1 y2
      unfold semigroupref01_Valid.j0
      repeat' first
      | (with_reducible exact ih0 _ _ _)
      | (with_reducible exact ih1 _ _ _)
      | (with_reducible exact LeO.refl _)
      | (with_reducible exact LeO.none _)
      | (with_reducible refine LeO.ite ?_ ?_)
      | (with_reducible refine LeO.bind ?_ (fun _ => ?_))
      | exact ih0 _ _ _
      | exact ih1 _ _ _
      | exact LeO.none _
      | refine LeO.ite ?_ ?_
      | refine LeO.bind ?_ (fun _ => ?_)
    · intro y0 y1 y2
      unfold semigroupref01_Valid.l0
      repeat' first
      | (with_reducible exact ih0 _ _ _)
      | (with_reducible exact ih1 _ _ _)
      | (with_reducible exact LeO.refl _)
      | (with_reducible exact LeO.none _)
      | (with_reducible refine LeO.ite ?_ ?_)
      | (with_reducible refine LeO.bind ?_ (fun _ => ?_))
      | exact ih0 _ _ _
      | exact ih1 _ _ _
      | exact LeO.none _
      | refine LeO.ite ?_ ?_
      | refine LeO.bind ?_ (fun _ => ?_)
theorem semigroupref01_Valid.mono : ∀ a0 a1 k, LeO (semigroupref01_Valid.f k a0 a1) (semigroupref01_Valid.f (k + 1) a0 a1) := by
  intro a0 a1 k
  obtain ⟨ih0, ih1⟩ := semigroupref01_Valid.mono_l k
  unfold semigroupref01_Valid.f
  repeat' first
      | (with_reducible exact ih0 _ _ _)
      | (with_reducible exact ih1 _ _ _)
      | (with_reducible exact LeO.refl _)
      | (with_reducible exact LeO.none _)
      | (with_reducible refine LeO.ite ?_ ?_)
      | (with_reducible refine LeO.bind ?_ (fun _ => ?_))
      | exact ih0 _ _ _
      | exact ih1 _ _ _
      | exact LeO.none _
      | refine LeO.ite ?_ ?_
      | refine LeO.bind ?_ (fun _ => ?_)
set_option maxHeartbeats 8000000 in
set_option maxRecDepth 100000 in
theorem semigroupref01_Valid.calls (k : Nat) (a0 : ByteArray) (a1 : Int) (r : Bool) (w : World) (h : semigroupref01_Valid.f k a0 a1 = some r) :
    Calls Try.prog 44 #[.string a0, .int .i64 a1] w fun e w' => e = .returned (.bool r) ∧ Drawn0 w w' := by
  have H : ((semigroupref01_MayLetters.f a1).bind fun t415 => (if t415 = true then (semigroupref01_Valid.j0 k a0 a1 (decide ((a0.size : Int) > 2048))) else (semigroupref01_Valid.j0 k a0 a1 true))) = some r := h
  clear h
  have HC3 := Aside0.mk H
  clear H
  go_enter Try.func44, Try.ntmps44
  go_upto_region 1 with (fail)
  go_cut [13] (fun v13 wc => ∃ (kq : Nat) (x13_2 : Bool), v13 = .bool x13_2 ∧ Aside0 (semigroupref01_Valid.j0 kq a0 a1 x13_2 = some r) ∧ Aside0 (kq ≤ k) ∧ Drawn0 w wc)
  case first =>
    have H := HC3.out
    clear HC3
    replace H := Option.bind_eq_some_iff.mp H
    obtain ⟨t415, A40, H⟩ := H
    replace H : (if t415 = true then (semigroupref01_Valid.j0 k a0 a1 (decide ((a0.size : Int) > 2048))) else (semigroupref01_Valid.j0 k a0 a1 true)) = some r := H
    have A4 := Aside0.mk A40
    clear A40
    by_cases c5 : t415 = true
    · subst c5
      have H1 : (semigroupref01_Valid.j0 k a0 a1 (decide ((a0.size : Int) > 2048))) = some r := by rw [if_pos rfl] at H; exact H
      clear H
      have H := H1
      clear H1
      have H' := Aside0.mk H
      clear H
      go_wp2_with (first | ((with_reducible refine gate_callee (f := 72) rfl ?_); refine goesL_ (some 7) rfl rfl Try.func72 (by kernel_rfl) rfl #[.int .i64 a1] rfl (by (try simp only [List.map_toArray, List.map_cons, List.map_nil]); first | done | rfl | (simp only [List.length_drop, List.length_take]; rfl)) ?_; (with_reducible refine (semigroupref01_MayLetters.calls a1 true _ A4.out).mono ?_); rintro e w' ⟨rfl, ⟨nd, rfl⟩⟩; refine ⟨_, rfl, ?_⟩))
      go_meet
      case rel => exact ⟨_, (decide ((a0.size : Int) > 2048)), (by first | rfl | (simp; done) | (simp [*]; done)), H', ⟨by first | omega | exact Nat.le_refl _⟩, by repeat (first | exact Drawn0.refl _ | apply Drawn0.step)⟩
    · replace c5 := Bool.eq_false_iff.mpr c5
      subst c5
      have H1 : (semigroupref01_Valid.j0 k a0 a1 true) = some r := by rw [if_neg (show ¬ (false = true) by decide)] at H; exact H
      clear H
      have H := H1
      clear H1
      have H' := Aside0.mk H
      clear H
      go_wp2_with (first | ((with_reducible refine gate_callee (f := 72) rfl ?_); refine goesL_ (some 7) rfl rfl Try.func72 (by kernel_rfl) rfl #[.int .i64 a1] rfl (by (try simp only [List.map_toArray, List.map_cons, List.map_nil]); first | done | rfl | (simp only [List.length_drop, List.length_take]; rfl)) ?_; (with_reducible refine (semigroupref01_MayLetters.calls a1 false _ A4.out).mono ?_); rintro e w' ⟨rfl, ⟨nd, rfl⟩⟩; refine ⟨_, rfl, ?_⟩))
      go_meet
      case rel => exact ⟨_, (true), (by first | rfl | (simp; done) | (simp [*]; done)), H', ⟨by first | omega | exact Nat.le_refl _⟩, by repeat (first | exact Drawn0.refl _ | apply Drawn0.step)⟩
  case rest =>
    clear HC3
    try clear p2
    try clear c4
    try clear c5
    obtain ⟨kq, x13_2, rfl, HA, HJ2, ⟨mc2, rfl⟩⟩ := hcut
    cases kq with
    | zero => exact absurd HA.out (by simp [semigroupref01_Valid.j0])
    | succ kj2 =>
      have H := HA.out
      clear HA
      simp only [semigroupref01_Valid.j0] at H
      by_cases c6 : x13_2 = true
      · subst c6
        have H1 : (some false) = some r := by rw [if_pos rfl] at H; exact H
        clear H
        have H := H1
        clear H1
        obtain rfl := Option.some.inj H
        go_wp2
        go_ret
        exact ⟨by first | rfl | (simp; done) | (simp [*]; done), by repeat (first | exact Drawn0.refl _ | apply Drawn0.step)⟩
      · replace c6 := Bool.eq_false_iff.mpr c6
        subst c6
        have H1 : (semigroupref01_Valid.l0 kj2 a0 a1 0) = some r := by rw [if_neg (show ¬ (false = true) by decide)] at H; exact H
        clear H
        have H := H1
        clear H1
        have H' := Aside0.mk H
        clear H
        go_wp2
        go_loopg [5] kj2 (fun kq v5 w' => ∃ (x5_2 : Int), v5 = .int .i64 x5_2 ∧ Aside0 (semigroupref01_Valid.l0 kq a0 a1 x5_2 = some r) ∧ Aside0 (kq ≤ kj2) ∧ Drawn0 w w')
        case atStart => exact ⟨(0), (by first | rfl | (simp; done) | (simp [*]; done)), H', ⟨Nat.le_refl _⟩, by repeat (first | exact Drawn0.refl _ | apply Drawn0.step)⟩
        case round =>
          clear H'
          try clear c2
          try clear p2
          try clear c4
          try clear c5
          try clear c6
          try clear p2
          obtain ⟨x5_2, rfl, HA, HK2, ⟨m2, rfl⟩⟩ := hrel
          cases gk with
          | zero => exact absurd HA.out (by simp [semigroupref01_Valid.l0])
          | succ k2 =>
            have H := HA.out
            clear HA
            simp only [semigroupref01_Valid.l0] at H
            by_cases c7 : x5_2 < (a0.size : Int)
            · rw [if_pos c7] at H
              have c7b0 : decide (x5_2 < (a0.size : Int)) = true := decide_eq_true c7
              clear c7
              by_cases c8 : 0 ≤ x5_2
              · rw [if_pos c8] at H
                have c8b0 : decide (0 ≤ x5_2) = true := decide_eq_true c8
                clear c8
                by_cases c10 : (bt a0 x5_2) < 97
                · rw [if_pos c10] at H
                  have c10b0 : decide ((bt a0 x5_2) < 97) = true := decide_eq_true c10
                  clear c10
                  obtain rfl := Option.some.inj H
                  have p9 : 0 ≤ (x5_2 : Int) := of_decide_eq_true (by first | (with_reducible assumption) | assumption)
                  have q9 : x5_2 < (a0.size : Int) := of_decide_eq_true (by first | (with_reducible assumption) | assumption)
                  have hx9 := bt_at a0 x5_2
                  replace p9 := eq_true p9
                  replace q9 := eq_true q9
                  go_wp2
                  go_ret
                  exact ⟨by first | rfl | (simp; done) | (simp [*]; done), by repeat (first | exact Drawn0.refl _ | apply Drawn0.step)⟩
                · rw [if_neg c10] at H
                  have c10b0 : decide ((bt a0 x5_2) < 97) = false := decide_eq_false c10
                  clear c10
                  by_cases c12 : (((bt a0 x5_2) - 97) % 256) ≥ a1
                  · rw [if_pos c12] at H
                    have c12b0 : decide (a1 ≤ (((bt a0 x5_2) - 97) % 256)) = true := decide_eq_true c12
                    clear c12
                    obtain rfl := Option.some.inj H
                    have p9 : 0 ≤ (x5_2 : Int) := of_decide_eq_true (by first | (with_reducible assumption) | assumption)
                    have q9 : x5_2 < (a0.size : Int) := of_decide_eq_true (by first | (with_reducible assumption) | assumption)
                    have hx9 := bt_at a0 x5_2
                    replace p9 := eq_true p9
                    replace q9 := eq_true q9
                    have p11 : 0 ≤ (x5_2 : Int) := of_decide_eq_true (by first | (with_reducible assumption) | assumption)
                    have q11 : x5_2 < (a0.size : Int) := of_decide_eq_true (by first | (with_reducible assumption) | assumption)
                    have hx11 := bt_at a0 x5_2
                    replace p11 := eq_true p11
                    replace q11 := eq_true q11
                    go_wp2
                    go_ret
                    exact ⟨by first | rfl | (simp; done) | (simp [*]; done), by repeat (first | exact Drawn0.refl _ | apply Drawn0.step)⟩
                  · rw [if_neg c12] at H
                    have c12b0 : decide (a1 ≤ (((bt a0 x5_2) - 97) % 256)) = false := decide_eq_false c12
                    clear c12
                    have H' := Aside0.mk H
                    clear H
                    have p9 : 0 ≤ (x5_2 : Int) := of_decide_eq_true (by first | (with_reducible assumption) | assumption)
                    have q9 : x5_2 < (a0.size : Int) := of_decide_eq_true (by first | (with_reducible assumption) | assumption)
                    have hx9 := bt_at a0 x5_2
                    replace p9 := eq_true p9
                    replace q9 := eq_true q9
                    have p11 : 0 ≤ (x5_2 : Int) := of_decide_eq_true (by first | (with_reducible assumption) | assumption)
                    have q11 : x5_2 < (a0.size : Int) := of_decide_eq_true (by first | (with_reducible assumption) | assumption)
                    have hx11 := bt_at a0 x5_2
                    replace p11 := eq_true p11
                    replace q11 := eq_true q11
                    go_wp2
                    go_roundg k2
                    case measure => have := HJ2.out; have := HK2.out; omega
                    case rel => exact ⟨(wrap64 (x5_2 + 1)), (by first | rfl | (simp; done) | (simp [*]; done)), H', ⟨by have := HJ2.out; have := HK2.out; omega⟩, by repeat (first | exact Drawn0.refl _ | apply Drawn0.step)⟩
              · rw [if_neg c8] at H
                exact absurd H (by simp)
            · rw [if_neg c7] at H
              have c7b0 : decide (x5_2 < (a0.size : Int)) = false := decide_eq_false c7
              clear c7
              obtain rfl := Option.some.inj H
              go_wp2
              go_ret
              exact ⟨by first | rfl | (simp; done) | (simp [*]; done), by repeat (first | exact Drawn0.refl _ | apply Drawn0.step)⟩

end Go.Proofs.Ytlhckcldeojfmaa.PAll
