-- printed for this claim by printall.sh out of the translation; Lean checks it
import Derived.Test.YtlhckcldeojfmaaPAllx0
namespace Go.Proofs.Ytlhckcldeojfmaa.PAll
open Go.RowKit Go.Proofs.YtlhckcldeojfmaaW.PrintWords Go.Proofs.YtlhckcldeojfmaaW.PrintLast Go.Proofs.YtlhckcldeojfmaaW.PrintMore
attribute [local go_sem] max2_int min2_int max_two min_two max_three min_three max_four min_four   -- for this text's walks alone
set_option linter.unusedVariables false
set_option linter.unusedSimpArgs false

/-! ### mult_shape: function 62 -/
mutual
def mult_shape.l0 : Nat → List (List Int) → List (List Int) → Int → Int → Option (Int)
  | 0, _, _, _, _ => none
  | k + 1, x0, x15, x16, x17 => if x17 < x16 then (if 0 ≤ x17 then (if x17 < (x15.length : Int) then (if ((rd_L1 x15 x17).length : Int) = (x0.length : Int) then (mult_shape.l1 k x0 x15 x16 x17 (rd_L1 x15 x17) ((rd_L1 x15 x17).length : Int) 0) else (some 4)) else (none)) else (none)) else (some 0)
def mult_shape.l1 : Nat → List (List Int) → List (List Int) → Int → Int → List Int → Int → Int → Option (Int)
  | 0, _, _, _, _, _, _, _ => none
  | k + 1, x0, x15, x16, x17, x26, x27, x28 => if x28 < x27 then (if 0 ≤ x28 then (if x28 < (x26.length : Int) then (if (rd x26 x28) < 0 then (some 4) else (if (rd x26 x28) ≥ (x0.length : Int) then (some 4) else (mult_shape.l1 k x0 x15 x16 x17 x26 x27 (wrap64 (x28 + 1))))) else (none)) else (none)) else (mult_shape.l0 k x0 x15 x16 (wrap64 (x17 + 1)))
end
def mult_shape.f (k : Nat) (l0 : List (List Int)) : Option (Int) := if (l0.length : Int) > 400 then (some 3) else (if (l0.length : Int) = 0 then (some 4) else (mult_shape.l0 k l0 l0 (l0.length : Int) 0))
theorem mult_shape.mono_l : ∀ k, (∀ y0 y1 y2 y3, LeO (mult_shape.l0 k y0 y1 y2 y3) (mult_shape.l0 (k + 1) y0 y1 y2 y3)) ∧ (∀ y0 y1 y2 y3 y4 y5 y6, LeO (mult_shape.l1 k y0 y1 y2 y3 y4 y5 y6) (mult_shape.l1 (k + 1) y0 y1 y2 y3 y4 y5 y6))
  | 0 => ⟨fun _ _ _ _ r h => by simp [mult_shape.l0] at h, fun _ _ _ _ _ _ _ r h => by simp [mult_shape.l1] at h⟩
  | k + 1 => by
    obtain ⟨ih0, ih1⟩ := mult_shape.mono_l k
    refine ⟨?_, ?_⟩
    · intro y0 y1 y2 y3
      unfold mult_shape.l0
      repeat' first
      | (with_reducible exact ih0 _ _ _ _)
      | (with_reducible exact ih1 _ _ _ _ _ _ _)
      | (with_reducible exact LeO.refl _)
      | (with_reducible exact LeO.none _)
      | (with_reducible refine LeO.ite ?_ ?_)
      | (with_reducible refine LeO.bind ?_ (fun _ => ?_))
      | exact ih0 _ _ _ _
      | exact ih1 _ _ _ _ _ _ _
      | exact LeO.none _
      | refine LeO.ite ?_ ?_
      | refine LeO.bind ?_ (fun _ => ?_)
    · intro y0 y1 y2 y3 y4 y5 y6
      unfold mult_shape.l1
      repeat' first
      | (with_reducible exact ih0 _ _ _ _)
      | (with_reducible exact ih1 _ _ _ _ _ _ _)
      | (with_reducible exact LeO.refl _)
      | (with_reducible exact LeO.none _)
      | (with_reducible refine LeO.ite ?_ ?_)
      | (with_reducible refine LeO.bind ?_ (fun _ => ?_))
      | exact ih0 _ _ _ _
      | exact ih1 _ _ _ _ _ _ _
      | exact LeO.none _
      | refine LeO.ite ?_ ?_
      | refine LeO.bind ?_ (fun _ => ?_)
theorem mult_shape.mono : ∀ a0 k, LeO (mult_shape.f k a0) (mult_shape.f (k + 1) a0) := by
  intro a0 k
  obtain ⟨ih0, ih1⟩ := mult_shape.mono_l k
  unfold mult_shape.f
  repeat' first
      | (with_reducible exact ih0 _ _ _ _)
      | (with_reducible exact ih1 _ _ _ _ _ _ _)
      | (with_reducible exact LeO.refl _)
      | (with_reducible exact LeO.none _)
      | (with_reducible refine LeO.ite ?_ ?_)
      | (with_reducible refine LeO.bind ?_ (fun _ => ?_))
      | exact ih0 _ _ _ _
      | exact ih1 _ _ _ _ _ _ _
      | exact LeO.none _
      | refine LeO.ite ?_ ?_
      | refine LeO.bind ?_ (fun _ => ?_)
set_option maxHeartbeats 8000000 in
set_option maxRecDepth 100000 in
theorem mult_shape.calls (k : Nat) (A0 : Option Addr) (c0 : Nat) (l0 : List (List Int)) (r : Int) (w : World) (hr0 : Kd.C (Kd.slice 3 (Kd.int .i64)) w A0 l0.length l0) (hc0 : l0.length ≤ c0) (h : mult_shape.f k l0 = some r) :
    Calls Try.prog 62 #[.slice A0 l0.length c0] w fun e w' => e = .returned (.int .i64 r) ∧ Drawn0 w w' := by
  have HR0 := Aside0.mk hr0
  have HC0 := Aside0.mk hc0
  (try clear hr0); (try clear hc0)
  have H : (if (l0.length : Int) > 400 then (some 3) else (if (l0.length : Int) = 0 then (some 4) else (mult_shape.l0 k l0 l0 (l0.length : Int) 0))) = some r := h
  clear h
  by_cases c2 : (l0.length : Int) > 400
  · rw [if_pos c2] at H
    have c2b0 : decide (400 < (l0.length : Int)) = true := decide_eq_true c2
    have c2b1 : decide (400 < l0.length) = true := decide_eq_true (by omega)
    clear c2
    obtain rfl := Option.some.inj H
    go_enter Try.func62, Try.ntmps62
    go_wp2
    go_ret
    exact ⟨by first | rfl | (simp; done) | (simp [*]; done), by repeat (first | exact Drawn0.refl _ | apply Drawn0.step)⟩
  · rw [if_neg c2] at H
    have c2b0 : decide (400 < (l0.length : Int)) = false := decide_eq_false c2
    have c2b1 : decide (400 < l0.length) = false := decide_eq_false (by omega)
    clear c2
    by_cases c3 : (l0.length : Int) = 0
    · rw [if_pos c3] at H
      have c3b0 : ((l0.length : Int) == 0) = true := beq_iff_eq.mpr c3
      have c3b1 : ((l0.length : Int) != 0) = false := bne_eq_false_iff_eq.mpr c3
      clear c3
      obtain rfl := Option.some.inj H
      go_enter Try.func62, Try.ntmps62
      go_wp2
      go_ret
      exact ⟨by first | rfl | (simp; done) | (simp [*]; done), by repeat (first | exact Drawn0.refl _ | apply Drawn0.step)⟩
    · rw [if_neg c3] at H
      have c3b0 : ((l0.length : Int) == 0) = false := beq_eq_false_iff_ne.mpr c3
      have c3b1 : ((l0.length : Int) != 0) = true := bne_iff_ne.mpr c3
      have c3b2 : ¬ (l0 = []) := fun h_ => c3 (by rw [h_]; rfl)
      have H' := Aside0.mk H
      clear H
      go_enter Try.func62, Try.ntmps62
      go_wp2
      go_loopg [17] k (fun kq v17 w' => ∃ (x17_1 : Int), v17 = .int .i64 x17_1 ∧ Aside0 (mult_shape.l0 kq l0 l0 (l0.length : Int) x17_1 = some r) ∧ Aside0 (kq ≤ k) ∧ Drawn0 w w')
      case atStart => exact ⟨(0), (by first | rfl | (simp; done) | (simp [*]; done)), H', ⟨Nat.le_refl _⟩, by repeat (first | exact Drawn0.refl _ | apply Drawn0.step)⟩
      case round =>
        clear H'
        try clear c2
        try clear c2b0
        try clear c2b1
        try clear p2
        try clear c3
        try clear c3b0
        try clear c3b1
        try clear c3b2
        obtain ⟨x17_1, rfl, HA, HK1, ⟨m1, rfl⟩⟩ := hrel
        cases gk with
        | zero => exact absurd HA.out (by simp [mult_shape.l0])
        | succ k1 =>
          have H := HA.out
          clear HA
          simp only [mult_shape.l0] at H
          by_cases c4 : x17_1 < (l0.length : Int)
          · rw [if_pos c4] at H
            have c4b0 : decide (x17_1 < (l0.length : Int)) = true := decide_eq_true c4
            clear c4
            by_cases c5 : 0 ≤ x17_1
            · rw [if_pos c5] at H
              have c5b0 : decide (0 ≤ x17_1) = true := decide_eq_true c5
              clear c5
              by_cases c6 : x17_1 < (l0.length : Int)
              · rw [if_pos c6] at H
                have c6b0 : decide (x17_1 < (l0.length : Int)) = true := decide_eq_true c6
                clear c6
                by_cases c7 : ((rd_L1 l0 x17_1).length : Int) = (l0.length : Int)
                · rw [if_pos c7] at H
                  have c7b0 : (((rd_L1 l0 x17_1).length : Int) == (l0.length : Int)) = true := beq_iff_eq.mpr c7
                  have c7b1 : (((rd_L1 l0 x17_1).length : Int) != (l0.length : Int)) = false := bne_eq_false_iff_eq.mpr c7
                  have c7b2 : ((rd_L1 l0 x17_1).length == l0.length) = true := by first | simpa using c7 | (simp at c7 ⊢; omega)
                  clear c7
                  have H' := Aside0.mk H
                  clear H
                  have p101 : 0 ≤ (x17_1 : Int) := of_decide_eq_true (by first | (with_reducible assumption) | assumption)
                  have q101 : x17_1 < (l0.length : Int) := of_decide_eq_true (by first | (with_reducible assumption) | assumption)
                  obtain ⟨ad101, A101_0, c101_0, e101, hx101_0, hl101_0, hi101_0⟩ := at_L1 HR0.out x17_1 p101 q101
                  cases e101
                  have HR101_0 := Aside0.mk hi101_0
                  have HC101_0 := Aside0.mk hl101_0
                  (try clear hi101_0); (try clear hl101_0)
                  replace p101 := eq_true p101
                  replace q101 := eq_true q101
                  go_wp2
                  go_loopg [28] k1 (fun kq v28 w' => ∃ (x28_2 : Int), v28 = .int .i64 x28_2 ∧ Aside0 (mult_shape.l1 kq l0 l0 (l0.length : Int) x17_1 (rd_L1 l0 x17_1) ((rd_L1 l0 x17_1).length : Int) x28_2 = some r) ∧ Aside0 (kq ≤ k1) ∧ Drawn0 w w')
                  case atStart => exact ⟨(0), (by first | rfl | (simp; done) | (simp [*]; done)), H', ⟨Nat.le_refl _⟩, by repeat (first | exact Drawn0.refl _ | apply Drawn0.step)⟩
                  case round =>
                    clear H'
                    try clear c1
                    try clear p1
                    try clear q1
                    try clear hx1
                    try clear c2
                    try clear c2b0
                    try clear c2b1
                    try clear p2
                    try clear c3
                    try clear c3b0
                    try clear c3b1
                    try clear c3b2
                    try clear c4
                    try clear c4b0
                    try clear c5
                    try clear c5b0
                    try clear c6
                    try clear c6b0
                    try clear c7
                    try clear c7b0
                    try clear c7b1
                    try clear c7b2
                    try clear hx101_0
                    try clear p101
                    try clear p2
                    try clear q101
                    obtain ⟨x28_2, rfl, HA, HK2, ⟨m2, rfl⟩⟩ := hrel
                    cases gk with
                    | zero => exact absurd HA.out (by simp [mult_shape.l1])
                    | succ k2 =>
                      have H := HA.out
                      clear HA
                      simp only [mult_shape.l1] at H
                      by_cases c8 : x28_2 < ((rd_L1 l0 x17_1).length : Int)
                      · rw [if_pos c8] at H
                        have c8b0 : decide (x28_2 < ((rd_L1 l0 x17_1).length : Int)) = true := decide_eq_true c8
                        clear c8
                        by_cases c9 : 0 ≤ x28_2
                        · rw [if_pos c9] at H
                          have c9b0 : decide (0 ≤ x28_2) = true := decide_eq_true c9
                          clear c9
                          by_cases c10 : x28_2 < ((rd_L1 l0 x17_1).length : Int)
                          · rw [if_pos c10] at H
                            have c10b0 : decide (x28_2 < ((rd_L1 l0 x17_1).length : Int)) = true := decide_eq_true c10
                            clear c10
                            by_cases c11 : (rd (rd_L1 l0 x17_1) x28_2) < 0
                            · rw [if_pos c11] at H
                              have c11b0 : decide ((rd (rd_L1 l0 x17_1) x28_2) < 0) = true := decide_eq_true c11
                              clear c11
                              obtain rfl := Option.some.inj H
                              have p102 : 0 ≤ (x28_2 : Int) := of_decide_eq_true (by first | (with_reducible assumption) | assumption)
                              have q102 : x28_2 < ((rd_L1 l0 x17_1).length : Int) := of_decide_eq_true (by first | (with_reducible assumption) | assumption)
                              obtain ⟨ad102, e102, hx102_0⟩ := Kd.at_int HR101_0.out x28_2 p102 q102
                              cases e102
                              replace p102 := eq_true p102
                              replace q102 := eq_true q102
                              go_wp2
                              go_ret
                              exact ⟨by first | rfl | (simp; done) | (simp [*]; done), by repeat (first | exact Drawn0.refl _ | apply Drawn0.step)⟩
                            · rw [if_neg c11] at H
                              have c11b0 : decide ((rd (rd_L1 l0 x17_1) x28_2) < 0) = false := decide_eq_false c11
                              clear c11
                              by_cases c12 : (rd (rd_L1 l0 x17_1) x28_2) ≥ (l0.length : Int)
                              · rw [if_pos c12] at H
                                have c12b0 : decide ((l0.length : Int) ≤ (rd (rd_L1 l0 x17_1) x28_2)) = true := decide_eq_true c12
                                clear c12
                                obtain rfl := Option.some.inj H
                                have p102 : 0 ≤ (x28_2 : Int) := of_decide_eq_true (by first | (with_reducible assumption) | assumption)
                                have q102 : x28_2 < ((rd_L1 l0 x17_1).length : Int) := of_decide_eq_true (by first | (with_reducible assumption) | assumption)
                                obtain ⟨ad102, e102, hx102_0⟩ := Kd.at_int HR101_0.out x28_2 p102 q102
                                cases e102
                                replace p102 := eq_true p102
                                replace q102 := eq_true q102
                                go_wp2
                                go_ret
                                exact ⟨by first | rfl | (simp; done) | (simp [*]; done), by repeat (first | exact Drawn0.refl _ | apply Drawn0.step)⟩
                              · rw [if_neg c12] at H
                                have c12b0 : decide ((l0.length : Int) ≤ (rd (rd_L1 l0 x17_1) x28_2)) = false := decide_eq_false c12
                                clear c12
                                have H' := Aside0.mk H
                                clear H
                                have p102 : 0 ≤ (x28_2 : Int) := of_decide_eq_true (by first | (with_reducible assumption) | assumption)
                                have q102 : x28_2 < ((rd_L1 l0 x17_1).length : Int) := of_decide_eq_true (by first | (with_reducible assumption) | assumption)
                                obtain ⟨ad102, e102, hx102_0⟩ := Kd.at_int HR101_0.out x28_2 p102 q102
                                cases e102
                                replace p102 := eq_true p102
                                replace q102 := eq_true q102
                                go_wp2
                                go_roundg k2
                                case measure => have := HK1.out; have := HK2.out; omega
                                case rel => exact ⟨(wrap64 (x28_2 + 1)), (by first | rfl | (simp; done) | (simp [*]; done)), H', ⟨by have := HK1.out; have := HK2.out; omega⟩, by repeat (first | exact Drawn0.refl _ | apply Drawn0.step)⟩
                          · rw [if_neg c10] at H
                            exact absurd H (by simp)
                        · rw [if_neg c9] at H
                          exact absurd H (by simp)
                      · rw [if_neg c8] at H
                        have c8b0 : decide (x28_2 < ((rd_L1 l0 x17_1).length : Int)) = false := decide_eq_false c8
                        clear c8
                        have H' := Aside0.mk H
                        clear H
                        go_wp2
                        go_roundg k2
                        case measure => have := HK1.out; have := HK2.out; omega
                        case rel => exact ⟨(wrap64 (x17_1 + 1)), (by first | rfl | (simp; done) | (simp [*]; done)), H', ⟨by have := HK1.out; have := HK2.out; omega⟩, by repeat (first | exact Drawn0.refl _ | apply Drawn0.step)⟩
                · rw [if_neg c7] at H
                  have c7b0 : (((rd_L1 l0 x17_1).length : Int) == (l0.length : Int)) = false := beq_eq_false_iff_ne.mpr c7
                  have c7b1 : (((rd_L1 l0 x17_1).length : Int) != (l0.length : Int)) = true := bne_iff_ne.mpr c7
                  have c7b2 : ((rd_L1 l0 x17_1).length == l0.length) = false := by first | simpa using c7 | (simp at c7 ⊢; omega)
                  obtain rfl := Option.some.inj H
                  have p101 : 0 ≤ (x17_1 : Int) := of_decide_eq_true (by first | (with_reducible assumption) | assumption)
                  have q101 : x17_1 < (l0.length : Int) := of_decide_eq_true (by first | (with_reducible assumption) | assumption)
                  obtain ⟨ad101, A101_0, c101_0, e101, hx101_0, hl101_0, hi101_0⟩ := at_L1 HR0.out x17_1 p101 q101
                  cases e101
                  have HR101_0 := Aside0.mk hi101_0
                  have HC101_0 := Aside0.mk hl101_0
                  (try clear hi101_0); (try clear hl101_0)
                  replace p101 := eq_true p101
                  replace q101 := eq_true q101
                  go_wp2
                  go_ret
                  exact ⟨by first | rfl | (simp; done) | (simp [*]; done), by repeat (first | exact Drawn0.refl _ | apply Drawn0.step)⟩
              · rw [if_neg c6] at H
                exact absurd H (by simp)
            · rw [if_neg c5] at H
              exact absurd H (by simp)
          · rw [if_neg c4] at H
            have c4b0 : decide (x17_1 < (l0.length : Int)) = false := decide_eq_false c4
            clear c4
            obtain rfl := Option.some.inj H
            go_wp2
            go_ret
            exact ⟨by first | rfl | (simp; done) | (simp [*]; done), by repeat (first | exact Drawn0.refl _ | apply Drawn0.step)⟩

/-! ### mult_failing: function 63 -/
mutual
def mult_failing.l0 : Nat → List (List Int) → Int → Int → Option (Int × Int × Int × Bool)
  | 0, _, _, _ => none
  | k + 1, x0, x10, x11 => if x11 < x10 then (mult_failing.l1 k x0 x11 x10 x11 (x0.length : Int) 0) else (some (0, 0, 0, false))
def mult_failing.l1 : Nat → List (List Int) → Int → Int → Int → Int → Int → Option (Int × Int × Int × Bool)
  | 0, _, _, _, _, _, _ => none
  | k + 1, x0, x6, x10, x11, x15, x16 => if x16 < x15 then (mult_failing.l2 k x0 x6 x16 x10 x11 x15 x16 (x0.length : Int) 0) else (mult_failing.l0 k x0 x10 (wrap64 (x11 + 1)))
def mult_failing.l2 : Nat → List (List Int) → Int → Int → Int → Int → Int → Int → Int → Int → Option (Int × Int × Int × Bool)
  | 0, _, _, _, _, _, _, _, _, _ => none
  | k + 1, x0, x6, x7, x10, x11, x15, x16, x20, x21 => if x21 < x20 then (if 0 ≤ x6 then (if x6 < (x0.length : Int) then (if 0 ≤ x7 then (if x7 < ((rd_L1 x0 x6).length : Int) then (if 0 ≤ (rd (rd_L1 x0 x6) x7) then (if (rd (rd_L1 x0 x6) x7) < (x0.length : Int) then (if 0 ≤ x21 then (if x21 < ((rd_L1 x0 (rd (rd_L1 x0 x6) x7)).length : Int) then (if x7 < (x0.length : Int) then (if x21 < ((rd_L1 x0 x7).length : Int) then (if 0 ≤ (rd (rd_L1 x0 x7) x21) then (if (rd (rd_L1 x0 x7) x21) < ((rd_L1 x0 x6).length : Int) then (if (rd (rd_L1 x0 (rd (rd_L1 x0 x6) x7)) x21) = (rd (rd_L1 x0 x6) (rd (rd_L1 x0 x7) x21)) then (mult_failing.l2 k x0 x6 x7 x10 x11 x15 x16 x20 (wrap64 (x21 + 1))) else (some (x6, x7, x21, true))) else (none)) else (none)) else (none)) else (none)) else (none)) else (none)) else (none)) else (none)) else (none)) else (none)) else (none)) else (none)) else (mult_failing.l1 k x0 x6 x10 x11 x15 (wrap64 (x16 + 1)))
end
def mult_failing.f (k : Nat) (l0 : List (List Int)) : Option (Int × Int × Int × Bool) := mult_failing.l0 k l0 (l0.length : Int) 0
theorem mult_failing.mono_l : ∀ k, (∀ y0 y1 y2, LeO (mult_failing.l0 k y0 y1 y2) (mult_failing.l0 (k + 1) y0 y1 y2)) ∧ (∀ y0 y1 y2 y3 y4 y5, LeO (mult_failing.l1 k y0 y1 y2 y3 y4 y5) (mult_failing.l1 (k + 1) y0 y1 y2 y3 y4 y5)) ∧ (∀ y0 y1 y2 y3 y4 y5 y6 y7 y8, LeO (mult_failing.l2 k y0 y1 y2 y3 y4 y5 y6 y7 y8) (mult_failing.l2 (k + 1) y0 y1 y2 y3 y4 y5 y6 y7 y8))
  | 0 => ⟨fun _ _ _ r h => by simp [mult_failing.l0] at h, fun _ _ _ _ _ _ r h => by simp [mult_failing.l1] at h, fun _ _ _ _ _ _ _ _ _ r h => by simp [mult_failing.l2] at h⟩
  | k + 1 => by
    obtain ⟨ih0, ih1, ih2⟩ := mult_failing.mono_l k
    refine ⟨?_, ?_, ?_⟩
    · intro y0 y1 y2
      unfold mult_failing.l0
      repeat' first
      | (with_reducible exact ih0 _ _ _)
      | (with_reducible exact ih1 _ _ _ _ _ _)
      | (with_reducible exact ih2 _ _ _ _ _ _ _ _ _)
      | (with_reducible exact LeO.refl _)
      | (with_reducible exact LeO.none _)
      | (with_reducible refine LeO.ite ?_ ?_)
      | (with_reducible refine LeO.bind ?_ (fun _ => ?_))
      | exact ih0 _ _ _
      | exact ih1 _ _ _ _ _ _
      | exact ih2 _ _ _ _ _ _ _ _ _
      | exact LeO.none _
      | refine LeO.ite ?_ ?_
      | refine LeO.bind ?_ (fun _ => ?_)
    · intro y0 y1 y2 y3 y4 y5
      unfold mult_failing.l1
      repeat' first
      | (with_reducible exact ih0 _ _ _)
      | (with_reducible exact ih1 _ _ _ _ _ _)
      | (with_reducible exact ih2 _ _ _ _ _ _ _ _ _)
      | (with_reducible exact LeO.refl _)
      | (with_reducible exact LeO.none _)
      | (with_reducible refine LeO.ite ?_ ?_)
      | (with_reducible refine LeO.bind ?_ (fun _ => ?_))
      | exact ih0 _ _ _
      | exact ih1 _ _ _ _ _ _
      | exact ih2 _ _ _ _ _ _ _ _ _
      | exact LeO.none _
      | refine LeO.ite ?_ ?_
      | refine LeO.bind ?_ (fun _ => ?_)
    · intro y0 y1 y2 y3 y4 y5 y6 y7 y8
      unfold mult_failing.l2
      repeat' first
      | (with_reducible exact ih0 _ _ _)
      | (with_reducible exact ih1 _ _ _ _ _ _)
      | (with_reducible exact ih2 _ _ _ _ _ _ _ _ _)
      | (with_reducible exact LeO.refl _)
      | (with_reducible exact LeO.none _)
      | (with_reducible refine LeO.ite ?_ ?_)
      | (with_reducible refine LeO.bind ?_ (fun _ => ?_))
      | exact ih0 _ _ _
      | exact ih1 _ _ _ _ _ _
      | exact ih2 _ _ _ _ _ _ _ _ _
      | exact LeO.none _
      | refine LeO.ite ?_ ?_
      | refine LeO.bind ?_ (fun _ => ?_)
theorem mult_failing.mono : ∀ a0 k, LeO (mult_failing.f k a0) (mult_failing.f (k + 1) a0) := by
  intro a0 k
  obtain ⟨ih0, ih1, ih2⟩ := mult_failing.mono_l k
  unfold mult_failing.f
  repeat' first
      | (with_reducible exact ih0 _ _ _)
      | (with_reducible exact ih1 _ _ _ _ _ _)
      | (with_reducible exact ih2 _ _ _ _ _ _ _ _ _)
      | (with_reducible exact LeO.refl _)
      | (with_reducible exact LeO.none _)
      | (with_reducible refine LeO.ite ?_ ?_)
      | (with_reducible refine LeO.bind ?_ (fun _ => ?_))
      | exact ih0 _ _ _
      | exact ih1 _ _ _ _ _ _
      | exact ih2 _ _ _ _ _ _ _ _ _
      | exact LeO.none _
      | refine LeO.ite ?_ ?_
      | refine LeO.bind ?_ (fun _ => ?_)
set_option maxHeartbeats 8000000 in
set_option maxRecDepth 100000 in
theorem mult_failing.calls (k : Nat) (A0 : Option Addr) (c0 : Nat) (l0 : List (List Int)) (r1 : Int) (r2 : Int) (r3 : Int) (r4 : Bool) (w : World) (hr0 : Kd.C (Kd.slice 3 (Kd.int .i64)) w A0 l0.length l0) (hc0 : l0.length ≤ c0) (h : mult_failing.f k l0 = some (r1, r2, r3, r4)) :
    Calls Try.prog 63 #[.slice A0 l0.length c0] w fun e w' => e = .returned (.tuple #[.int .i64 r1, .int .i64 r2, .int .i64 r3, .bool r4]) ∧ Drawn0 w w' := by
  have HR0 := Aside0.mk hr0
  have HC0 := Aside0.mk hc0
  (try clear hr0); (try clear hc0)
  have H : (mult_failing.l0 k l0 (l0.length : Int) 0) = some (r1, r2, r3, r4) := h
  clear h
  have H' := Aside0.mk H
  clear H
  go_enter Try.func63, Try.ntmps63
  go_wp2
  repeat (go_quiet (fail); try go_wp2)
  go_loopg [11] k (fun kq v11 w' => ∃ (x11_1 : Int), v11 = .int .i64 x11_1 ∧ Aside0 (mult_failing.l0 kq l0 (l0.length : Int) x11_1 = some (r1, r2, r3, r4)) ∧ Aside0 (kq ≤ k) ∧ Drawn0 w w')
  case atStart => exact ⟨(0), (by first | rfl | (simp; done) | (simp [*]; done)), H', ⟨Nat.le_refl _⟩, by repeat (first | exact Drawn0.refl _ | apply Drawn0.step)⟩
  case round =>
    clear H'
    obtain ⟨x11_1, rfl, HA, HK1, ⟨m1, rfl⟩⟩ := hrel
    cases gk with
    | zero => exact absurd HA.out (by simp [mult_failing.l0])
    | succ k1 =>
      have H := HA.out
      clear HA
      simp only [mult_failing.l0] at H
      by_cases c2 : x11_1 < (l0.length : Int)
      · rw [if_pos c2] at H
        have c2b0 : decide (x11_1 < (l0.length : Int)) = true := decide_eq_true c2
        clear c2
        have H' := Aside0.mk H
        clear H
        go_wp2
        repeat (go_quiet (fail); try go_wp2)
        go_loopg [16] k1 (fun kq v16 w' => ∃ (x16_2 : Int), v16 = .int .i64 x16_2 ∧ Aside0 (mult_failing.l1 kq l0 x11_1 (l0.length : Int) x11_1 (l0.length : Int) x16_2 = some (r1, r2, r3, r4)) ∧ Aside0 (kq ≤ k1) ∧ Drawn0 w w')
        case atStart => exact ⟨(0), (by first | rfl | (simp; done) | (simp [*]; done)), H', ⟨Nat.le_refl _⟩, by repeat (first | exact Drawn0.refl _ | apply Drawn0.step)⟩
        case round =>
          clear H'
          try clear c2
          try clear c2b0
          try clear p2
          obtain ⟨x16_2, rfl, HA, HK2, ⟨m2, rfl⟩⟩ := hrel
          cases gk with
          | zero => exact absurd HA.out (by simp [mult_failing.l1])
          | succ k2 =>
            have H := HA.out
            clear HA
            simp only [mult_failing.l1] at H
            by_cases c3 : x16_2 < (l0.length : Int)
            · rw [if_pos c3] at H
              have c3b0 : decide (x16_2 < (l0.length : Int)) = true := decide_eq_true c3
              clear c3
              have H' := Aside0.mk H
              clear H
              go_wp2
              repeat (go_quiet (fail); try go_wp2)
              go_loopg [21] k2 (fun kq v21 w' => ∃ (x21_3 : Int), v21 = .int .i64 x21_3 ∧ Aside0 (mult_failing.l2 kq l0 x11_1 x16_2 (l0.length : Int) x11_1 (l0.length : Int) x16_2 (l0.length : Int) x21_3 = some (r1, r2, r3, r4)) ∧ Aside0 (kq ≤ k2) ∧ Drawn0 w w')
              case atStart => exact ⟨(0), (by first | rfl | (simp; done) | (simp [*]; done)), H', ⟨Nat.le_refl _⟩, by repeat (first | exact Drawn0.refl _ | apply Drawn0.step)⟩
              case round =>
                clear H'
                try clear c2
                try clear c2b0
                try clear p2
                try clear c3
                try clear c3b0
                try clear p2
                obtain ⟨x21_3, rfl, HA, HK3, ⟨m3, rfl⟩⟩ := hrel
                cases gk with
                | zero => exact absurd HA.out (by simp [mult_failing.l2])
                | succ k3 =>
                  have H := HA.out
                  clear HA
                  simp only [mult_failing.l2] at H
                  by_cases c4 : x21_3 < (l0.length : Int)
                  · rw [if_pos c4] at H
                    have c4b0 : decide (x21_3 < (l0.length : Int)) = true := decide_eq_true c4
                    clear c4
                    by_cases c5 : 0 ≤ x11_1
                    · rw [if_pos c5] at H
                      have c5b0 : decide (0 ≤ x11_1) = true := decide_eq_true c5
                      clear c5
                      by_cases c6 : x11_1 < (l0.length : Int)
                      · rw [if_pos c6] at H
                        have c6b0 : decide (x11_1 < (l0.length : Int)) = true := decide_eq_true c6
                        clear c6
                        by_cases c7 : 0 ≤ x16_2
                        · rw [if_pos c7] at H
                          have c7b0 : decide (0 ≤ x16_2) = true := decide_eq_true c7
                          clear c7
                          by_cases c8 : x16_2 < ((rd_L1 l0 x11_1).length : Int)
                          · rw [if_pos c8] at H
                            have c8b0 : decide (x16_2 < ((rd_L1 l0 x11_1).length : Int)) = true := decide_eq_true c8
                            clear c8
                            by_cases c9 : 0 ≤ (rd (rd_L1 l0 x11_1) x16_2)
                            · rw [if_pos c9] at H
                              have c9b0 : decide (0 ≤ (rd (rd_L1 l0 x11_1) x16_2)) = true := decide_eq_true c9
                              clear c9
                              by_cases c10 : (rd (rd_L1 l0 x11_1) x16_2) < (l0.length : Int)
                              · rw [if_pos c10] at H
                                have c10b0 : decide ((rd (rd_L1 l0 x11_1) x16_2) < (l0.length : Int)) = true := decide_eq_true c10
                                clear c10
                                by_cases c11 : 0 ≤ x21_3
                                · rw [if_pos c11] at H
                                  have c11b0 : decide (0 ≤ x21_3) = true := decide_eq_true c11
                                  clear c11
                                  by_cases c12 : x21_3 < ((rd_L1 l0 (rd (rd_L1 l0 x11_1) x16_2)).length : Int)
                                  · rw [if_pos c12] at H
                                    have c12b0 : decide (x21_3 < ((rd_L1 l0 (rd (rd_L1 l0 x11_1) x16_2)).length : Int)) = true := decide_eq_true c12
                                    clear c12
                                    by_cases c13 : x16_2 < (l0.length : Int)
                                    · rw [if_pos c13] at H
                                      have c13b0 : decide (x16_2 < (l0.length : Int)) = true := decide_eq_true c13
                                      clear c13
                                      by_cases c14 : x21_3 < ((rd_L1 l0 x16_2).length : Int)
                                      · rw [if_pos c14] at H
                                        have c14b0 : decide (x21_3 < ((rd_L1 l0 x16_2).length : Int)) = true := decide_eq_true c14
                                        clear c14
                                        by_cases c15 : 0 ≤ (rd (rd_L1 l0 x16_2) x21_3)
                                        · rw [if_pos c15] at H
                                          have c15b0 : decide (0 ≤ (rd (rd_L1 l0 x16_2) x21_3)) = true := decide_eq_true c15
                                          clear c15
                                          by_cases c16 : (rd (rd_L1 l0 x16_2) x21_3) < ((rd_L1 l0 x11_1).length : Int)
                                          · rw [if_pos c16] at H
                                            have c16b0 : decide ((rd (rd_L1 l0 x16_2) x21_3) < ((rd_L1 l0 x11_1).length : Int)) = true := decide_eq_true c16
                                            clear c16
                                            by_cases c17 : (rd (rd_L1 l0 (rd (rd_L1 l0 x11_1) x16_2)) x21_3) = (rd (rd_L1 l0 x11_1) (rd (rd_L1 l0 x16_2) x21_3))
                                            · rw [if_pos c17] at H
                                              have c17b0 : ((rd (rd_L1 l0 (rd (rd_L1 l0 x11_1) x16_2)) x21_3) == (rd (rd_L1 l0 x11_1) (rd (rd_L1 l0 x16_2) x21_3))) = true := beq_iff_eq.mpr c17
                                              have c17b1 : ((rd (rd_L1 l0 (rd (rd_L1 l0 x11_1) x16_2)) x21_3) != (rd (rd_L1 l0 x11_1) (rd (rd_L1 l0 x16_2) x21_3))) = false := bne_eq_false_iff_eq.mpr c17
                                              clear c17
                                              have H' := Aside0.mk H
                                              clear H
                                              have p103 : 0 ≤ (x11_1 : Int) := of_decide_eq_true (by first | (with_reducible assumption) | assumption)
                                              have q103 : x11_1 < (l0.length : Int) := of_decide_eq_true (by first | (with_reducible assumption) | assumption)
                                              obtain ⟨ad103, A103_0, c103_0, e103, hx103_0, hl103_0, hi103_0⟩ := at_L1 HR0.out x11_1 p103 q103
                                              cases e103
                                              have HR103_0 := Aside0.mk hi103_0
                                              have HC103_0 := Aside0.mk hl103_0
                                              (try clear hi103_0); (try clear hl103_0)
                                              replace p103 := eq_true p103
                                              replace q103 := eq_true q103
                                              have p104 : 0 ≤ (x16_2 : Int) := of_decide_eq_true (by first | (with_reducible assumption) | assumption)
                                              have q104 : x16_2 < ((rd_L1 l0 x11_1).length : Int) := of_decide_eq_true (by first | (with_reducible assumption) | assumption)
                                              obtain ⟨ad104, e104, hx104_0⟩ := Kd.at_int HR103_0.out x16_2 p104 q104
                                              cases e104
                                              replace p104 := eq_true p104
                                              replace q104 := eq_true q104
                                              have p105 : 0 ≤ ((rd (rd_L1 l0 x11_1) x16_2) : Int) := of_decide_eq_true (by first | (with_reducible assumption) | assumption)
                                              have q105 : (rd (rd_L1 l0 x11_1) x16_2) < (l0.length : Int) := of_decide_eq_true (by first | (with_reducible assumption) | assumption)
                                              obtain ⟨ad105, A105_0, c105_0, e105, hx105_0, hl105_0, hi105_0⟩ := at_L1 HR0.out (rd (rd_L1 l0 x11_1) x16_2) p105 q105
                                              obtain rfl : ad103 = ad105 := (by injection e105)
                                              have HR105_0 := Aside0.mk hi105_0
                                              have HC105_0 := Aside0.mk hl105_0
                                              (try clear hi105_0); (try clear hl105_0)
                                              replace p105 := eq_true p105
                                              replace q105 := eq_true q105
                                              have p106 : 0 ≤ (x21_3 : Int) := of_decide_eq_true (by first | (with_reducible assumption) | assumption)
                                              have q106 : x21_3 < ((rd_L1 l0 (rd (rd_L1 l0 x11_1) x16_2)).length : Int) := of_decide_eq_true (by first | (with_reducible assumption) | assumption)
                                              obtain ⟨ad106, e106, hx106_0⟩ := Kd.at_int HR105_0.out x21_3 p106 q106
                                              cases e106
                                              replace p106 := eq_true p106
                                              replace q106 := eq_true q106
                                              have p107 : 0 ≤ (x11_1 : Int) := of_decide_eq_true (by first | (with_reducible assumption) | assumption)
                                              have q107 : x11_1 < (l0.length : Int) := of_decide_eq_true (by first | (with_reducible assumption) | assumption)
                                              obtain ⟨ad107, A107_0, c107_0, e107, hx107_0, hl107_0, hi107_0⟩ := at_L1 HR0.out x11_1 p107 q107
                                              obtain rfl : ad103 = ad107 := (by injection e107)
                                              have HR107_0 := Aside0.mk hi107_0
                                              have HC107_0 := Aside0.mk hl107_0
                                              (try clear hi107_0); (try clear hl107_0)
                                              replace p107 := eq_true p107
                                              replace q107 := eq_true q107
                                              have ea_ := Option.some.inj (hx103_0.symm.trans hx107_0)
                                              injection ea_ with ea_ en_ ec_
                                              subst ea_
                                              subst ec_
                                              clear en_
                                              have p108 : 0 ≤ (x16_2 : Int) := of_decide_eq_true (by first | (with_reducible assumption) | assumption)
                                              have q108 : x16_2 < (l0.length : Int) := of_decide_eq_true (by first | (with_reducible assumption) | assumption)
                                              obtain ⟨ad108, A108_0, c108_0, e108, hx108_0, hl108_0, hi108_0⟩ := at_L1 HR0.out x16_2 p108 q108
                                              obtain rfl : ad103 = ad108 := (by injection e108)
                                              have HR108_0 := Aside0.mk hi108_0
                                              have HC108_0 := Aside0.mk hl108_0
                                              (try clear hi108_0); (try clear hl108_0)
                                              replace p108 := eq_true p108
                                              replace q108 := eq_true q108
                                              have p109 : 0 ≤ (x21_3 : Int) := of_decide_eq_true (by first | (with_reducible assumption) | assumption)
                                              have q109 : x21_3 < ((rd_L1 l0 x16_2).length : Int) := of_decide_eq_true (by first | (with_reducible assumption) | assumption)
                                              obtain ⟨ad109, e109, hx109_0⟩ := Kd.at_int HR108_0.out x21_3 p109 q109
                                              cases e109
                                              replace p109 := eq_true p109
                                              replace q109 := eq_true q109
                                              have p110 : 0 ≤ ((rd (rd_L1 l0 x16_2) x21_3) : Int) := of_decide_eq_true (by first | (with_reducible assumption) | assumption)
                                              have q110 : (rd (rd_L1 l0 x16_2) x21_3) < ((rd_L1 l0 x11_1).length : Int) := of_decide_eq_true (by first | (with_reducible assumption) | assumption)
                                              obtain ⟨ad110, e110, hx110_0⟩ := Kd.at_int HR107_0.out (rd (rd_L1 l0 x16_2) x21_3) p110 q110
                                              cases e110
                                              replace p110 := eq_true p110
                                              replace q110 := eq_true q110
                                              go_wp2
                                              repeat (go_quiet (fail); try go_wp2)
                                              go_roundg k3
                                              case measure => have := HK1.out; have := HK2.out; have := HK3.out; omega
                                              case rel => exact ⟨(wrap64 (x21_3 + 1)), (by first | rfl | (simp; done) | (simp [*]; done)), H', ⟨by have := HK1.out; have := HK2.out; have := HK3.out; omega⟩, by repeat (first | exact Drawn0.refl _ | apply Drawn0.step)⟩
                                            · rw [if_neg c17] at H
                                              have c17b0 : ((rd (rd_L1 l0 (rd (rd_L1 l0 x11_1) x16_2)) x21_3) == (rd (rd_L1 l0 x11_1) (rd (rd_L1 l0 x16_2) x21_3))) = false := beq_eq_false_iff_ne.mpr c17
                                              have c17b1 : ((rd (rd_L1 l0 (rd (rd_L1 l0 x11_1) x16_2)) x21_3) != (rd (rd_L1 l0 x11_1) (rd (rd_L1 l0 x16_2) x21_3))) = true := bne_iff_ne.mpr c17
                                              simp only [Option.some.injEq, Prod.mk.injEq] at H
                                              obtain ⟨rfl, rfl, rfl, rfl⟩ := H
                                              have p103 : 0 ≤ (x11_1 : Int) := of_decide_eq_true (by first | (with_reducible assumption) | assumption)
                                              have q103 : x11_1 < (l0.length : Int) := of_decide_eq_true (by first | (with_reducible assumption) | assumption)
                                              obtain ⟨ad103, A103_0, c103_0, e103, hx103_0, hl103_0, hi103_0⟩ := at_L1 HR0.out x11_1 p103 q103
                                              cases e103
                                              have HR103_0 := Aside0.mk hi103_0
                                              have HC103_0 := Aside0.mk hl103_0
                                              (try clear hi103_0); (try clear hl103_0)
                                              replace p103 := eq_true p103
                                              replace q103 := eq_true q103
                                              have p104 : 0 ≤ (x16_2 : Int) := of_decide_eq_true (by first | (with_reducible assumption) | assumption)
                                              have q104 : x16_2 < ((rd_L1 l0 x11_1).length : Int) := of_decide_eq_true (by first | (with_reducible assumption) | assumption)
                                              obtain ⟨ad104, e104, hx104_0⟩ := Kd.at_int HR103_0.out x16_2 p104 q104
                                              cases e104
                                              replace p104 := eq_true p104
                                              replace q104 := eq_true q104
                                              have p105 : 0 ≤ ((rd (rd_L1 l0 x11_1) x16_2) : Int) := of_decide_eq_true (by first | (with_reducible assumption) | assumption)
                                              have q105 : (rd (rd_L1 l0 x11_1) x16_2) < (l0.length : Int) := of_decide_eq_true (by first | (with_reducible assumption) | assumption)
                                              obtain ⟨ad105, A105_0, c105_0, e105, hx105_0, hl105_0, hi105_0⟩ := at_L1 HR0.out (rd (rd_L1 l0 x11_1) x16_2) p105 q105
                                              obtain rfl : ad103 = ad105 := (by injection e105)
                                              have HR105_0 := Aside0.mk hi105_0
                                              have HC105_0 := Aside0.mk hl105_0
                                              (try clear hi105_0); (try clear hl105_0)
                                              replace p105 := eq_true p105
                                              replace q105 := eq_true q105
                                              have p106 : 0 ≤ (x21_3 : Int) := of_decide_eq_true (by first | (with_reducible assumption) | assumption)
                                              have q106 : x21_3 < ((rd_L1 l0 (rd (rd_L1 l0 x11_1) x16_2)).length : Int) := of_decide_eq_true (by first | (with_reducible assumption) | assumption)
                                              obtain ⟨ad106, e106, hx106_0⟩ := Kd.at_int HR105_0.out x21_3 p106 q106
                                              cases e106
                                              replace p106 := eq_true p106
                                              replace q106 := eq_true q106
                                              have p107 : 0 ≤ (x11_1 : Int) := of_decide_eq_true (by first | (with_reducible assumption) | assumption)
                                              have q107 : x11_1 < (l0.length : Int) := of_decide_eq_true (by first | (with_reducible assumption) | assumption)
                                              obtain ⟨ad107, A107_0, c107_0, e107, hx107_0, hl107_0, hi107_0⟩ := at_L1 HR0.out x11_1 p107 q107
                                              obtain rfl : ad103 = ad107 := (by injection e107)
                                              have HR107_0 := Aside0.mk hi107_0
                                              have HC107_0 := Aside0.mk hl107_0
                                              (try clear hi107_0); (try clear hl107_0)
                                              replace p107 := eq_true p107
                                              replace q107 := eq_true q107
                                              have ea_ := Option.some.inj (hx103_0.symm.trans hx107_0)
                                              injection ea_ with ea_ en_ ec_
                                              subst ea_
                                              subst ec_
                                              clear en_
                                              have p108 : 0 ≤ (x16_2 : Int) := of_decide_eq_true (by first | (with_reducible assumption) | assumption)
                                              have q108 : x16_2 < (l0.length : Int) := of_decide_eq_true (by first | (with_reducible assumption) | assumption)
                                              obtain ⟨ad108, A108_0, c108_0, e108, hx108_0, hl108_0, hi108_0⟩ := at_L1 HR0.out x16_2 p108 q108
                                              obtain rfl : ad103 = ad108 := (by injection e108)
                                              have HR108_0 := Aside0.mk hi108_0
                                              have HC108_0 := Aside0.mk hl108_0
                                              (try clear hi108_0); (try clear hl108_0)
                                              replace p108 := eq_true p108
                                              replace q108 := eq_true q108
                                              have p109 : 0 ≤ (x21_3 : Int) := of_decide_eq_true (by first | (with_reducible assumption) | assumption)
                                              have q109 : x21_3 < ((rd_L1 l0 x16_2).length : Int) := of_decide_eq_true (by first | (with_reducible assumption) | assumption)
                                              obtain ⟨ad109, e109, hx109_0⟩ := Kd.at_int HR108_0.out x21_3 p109 q109
                                              cases e109
                                              replace p109 := eq_true p109
                                              replace q109 := eq_true q109
                                              have p110 : 0 ≤ ((rd (rd_L1 l0 x16_2) x21_3) : Int) := of_decide_eq_true (by first | (with_reducible assumption) | assumption)
                                              have q110 : (rd (rd_L1 l0 x16_2) x21_3) < ((rd_L1 l0 x11_1).length : Int) := of_decide_eq_true (by first | (with_reducible assumption) | assumption)
                                              obtain ⟨ad110, e110, hx110_0⟩ := Kd.at_int HR107_0.out (rd (rd_L1 l0 x16_2) x21_3) p110 q110
                                              cases e110
                                              replace p110 := eq_true p110
                                              replace q110 := eq_true q110
                                              go_wp2
                                              repeat (go_quiet (fail); try go_wp2)
                                              refine bodyPost_ret (results_list (rs := [.tmp 2, .tmp 3, .tmp 4, .tmp 5]) rfl (by simp) (.tmp (.tmp (.tmp (.tmp .nil))))) rfl ?_
                                              exact ⟨by first | rfl | (simp; done) | (simp [*]; done), by repeat (first | exact Drawn0.refl _ | apply Drawn0.step)⟩
                                          · rw [if_neg c16] at H
                                            exact absurd H (by simp)
                                        · rw [if_neg c15] at H
                                          exact absurd H (by simp)
                                      · rw [if_neg c14] at H
                                        exact absurd H (by simp)
                                    · rw [if_neg c13] at H
                                      exact absurd H (by simp)
                                  · rw [if_neg c12] at H
                                    exact absurd H (by simp)
                                · rw [if_neg c11] at H
                                  exact absurd H (by simp)
                              · rw [if_neg c10] at H
                                exact absurd H (by simp)
                            · rw [if_neg c9] at H
                              exact absurd H (by simp)
                          · rw [if_neg c8] at H
                            exact absurd H (by simp)
                        · rw [if_neg c7] at H
                          exact absurd H (by simp)
                      · rw [if_neg c6] at H
                        exact absurd H (by simp)
                    · rw [if_neg c5] at H
                      exact absurd H (by simp)
                  · rw [if_neg c4] at H
                    have c4b0 : decide (x21_3 < (l0.length : Int)) = false := decide_eq_false c4
                    clear c4
                    have H' := Aside0.mk H
                    clear H
                    go_wp2
                    repeat (go_quiet (fail); try go_wp2)
                    go_roundg k3
                    case measure => have := HK1.out; have := HK2.out; have := HK3.out; omega
                    case rel => exact ⟨(wrap64 (x16_2 + 1)), (by first | rfl | (simp; done) | (simp [*]; done)), H', ⟨by have := HK1.out; have := HK2.out; have := HK3.out; omega⟩, by repeat (first | exact Drawn0.refl _ | apply Drawn0.step)⟩
            · rw [if_neg c3] at H
              have c3b0 : decide (x16_2 < (l0.length : Int)) = false := decide_eq_false c3
              clear c3
              have H' := Aside0.mk H
              clear H
              go_wp2
              repeat (go_quiet (fail); try go_wp2)
              go_roundg k2
              case measure => have := HK1.out; have := HK2.out; omega
              case rel => exact ⟨(wrap64 (x11_1 + 1)), (by first | rfl | (simp; done) | (simp [*]; done)), H', ⟨by have := HK1.out; have := HK2.out; omega⟩, by repeat (first | exact Drawn0.refl _ | apply Drawn0.step)⟩
      · rw [if_neg c2] at H
        have c2b0 : decide (x11_1 < (l0.length : Int)) = false := decide_eq_false c2
        clear c2
        simp only [Option.some.injEq, Prod.mk.injEq] at H
        obtain ⟨rfl, rfl, rfl, rfl⟩ := H
        go_wp2
        repeat (go_quiet (fail); try go_wp2)
        refine bodyPost_ret (results_list (rs := [.tmp 2, .tmp 3, .tmp 4, .tmp 5]) rfl (by simp) (.tmp (.tmp (.tmp (.tmp .nil))))) rfl ?_
        exact ⟨by first | rfl | (simp; done) | (simp [*]; done), by repeat (first | exact Drawn0.refl _ | apply Drawn0.step)⟩

/-! ### mult_Validate: function 19 -/
def mult_Validate.f (k : Nat) (l0 : List (List Int)) : Option (Int) := (mult_shape.f k l0).bind fun t111 => (if t111 = 0 then ((mult_failing.f k l0).bind fun bt112 => (if bt112.2.2.2 = true then (some 5) else (some 0))) else (some t111))
theorem mult_Validate.mono : ∀ a0 k, LeO (mult_Validate.f k a0) (mult_Validate.f (k + 1) a0) := by
  intro a0 k
  unfold mult_Validate.f
  repeat' first
      | (with_reducible exact mult_failing.mono _ _)
      | (with_reducible exact mult_shape.mono _ _)
      | (with_reducible exact LeO.refl _)
      | (with_reducible exact LeO.none _)
      | (with_reducible refine LeO.ite ?_ ?_)
      | (with_reducible refine LeO.bind ?_ (fun _ => ?_))
      | exact mult_failing.mono _ _
      | exact mult_shape.mono _ _
      | exact LeO.none _
      | refine LeO.ite ?_ ?_
      | refine LeO.bind ?_ (fun _ => ?_)
set_option maxHeartbeats 8000000 in
set_option maxRecDepth 100000 in
theorem mult_Validate.calls (k : Nat) (A0 : Option Addr) (c0 : Nat) (l0 : List (List Int)) (r : Int) (w : World) (hr0 : Kd.C (Kd.slice 3 (Kd.int .i64)) w A0 l0.length l0) (hc0 : l0.length ≤ c0) (h : mult_Validate.f k l0 = some r) :
    Calls Try.prog 19 #[.slice A0 l0.length c0] w fun e w' => e = .returned (.int .i64 r) ∧ Drawn0 w w' := by
  have HR0 := Aside0.mk hr0
  have HC0 := Aside0.mk hc0
  (try clear hr0); (try clear hc0)
  have H : ((mult_shape.f k l0).bind fun t111 => (if t111 = 0 then ((mult_failing.f k l0).bind fun bt112 => (if bt112.2.2.2 = true then (some 5) else (some 0))) else (some t111))) = some r := h
  clear h
  replace H := Option.bind_eq_some_iff.mp H
  obtain ⟨t111, A20, H⟩ := H
  replace H : (if t111 = 0 then ((mult_failing.f k l0).bind fun bt112 => (if bt112.2.2.2 = true then (some 5) else (some 0))) else (some t111)) = some r := H
  have A2 := Aside0.mk A20
  clear A20
  by_cases c3 : t111 = 0
  · rw [if_pos c3] at H
    have c3b0 : (t111 == 0) = true := beq_iff_eq.mpr c3
    have c3b1 : (t111 != 0) = false := bne_eq_false_iff_eq.mpr c3
    clear c3
    replace H := Option.bind_eq_some_iff.mp H
    obtain ⟨⟨t112, t113, t114, t115⟩, A40, H⟩ := H
    replace H : (if t115 = true then (some 5) else (some 0)) = some r := H
    have A4 := Aside0.mk A40
    clear A40
    by_cases c5 : t115 = true
    · subst c5
      have H1 : (some 5) = some r := by rw [if_pos rfl] at H; exact H
      clear H
      have H := H1
      clear H1
      obtain rfl := Option.some.inj H
      go_enter Try.func19, Try.ntmps19
      go_wp2_with (first | ((with_reducible refine gate_callee (f := 62) rfl ?_); refine goesL_ (some 9) rfl rfl Try.func62 (by kernel_rfl) rfl #[.slice A0 l0.length c0] rfl (by (try simp only [List.map_toArray, List.map_cons, List.map_nil]); first | done | rfl | (simp only [List.length_drop, List.length_take]; rfl)) ?_; (with_reducible refine (mult_shape.calls k _ _ l0 t111 _ ?side1 ?side2 A2.out).mono ?_); (case side1 => repeat (first | exact HR0.out | (with_reducible refine Kd.C_alloc ?_ _) | (with_reducible refine Kd.C_drewN ?_ _) | (with_reducible refine Kd.C_drew ?_))); (case side2 => exact HC0.out); rintro e w' ⟨rfl, ⟨nd, rfl⟩⟩; refine ⟨_, rfl, ?_⟩) | ((with_reducible refine gate_callee (f := 63) rfl ?_); refine goesL_ (some 15) rfl rfl Try.func63 (by kernel_rfl) rfl #[.slice A0 l0.length c0] rfl (by (try simp only [List.map_toArray, List.map_cons, List.map_nil]); first | done | rfl | (simp only [List.length_drop, List.length_take]; rfl)) ?_; (with_reducible refine (mult_failing.calls k _ _ l0 t112 t113 t114 true _ ?side1 ?side2 A4.out).mono ?_); (case side1 => repeat (first | exact HR0.out | (with_reducible refine Kd.C_alloc ?_ _) | (with_reducible refine Kd.C_drewN ?_ _) | (with_reducible refine Kd.C_drew ?_))); (case side2 => exact HC0.out); rintro e w' ⟨rfl, ⟨nd, rfl⟩⟩; refine ⟨_, rfl, ?_⟩))
      go_ret
      exact ⟨by first | rfl | (simp; done) | (simp [*]; done), by repeat (first | exact Drawn0.refl _ | apply Drawn0.step)⟩
    · replace c5 := Bool.eq_false_iff.mpr c5
      subst c5
      have H1 : (some 0) = some r := by rw [if_neg (show ¬ (false = true) by decide)] at H; exact H
      clear H
      have H := H1
      clear H1
      obtain rfl := Option.some.inj H
      go_enter Try.func19, Try.ntmps19
      go_wp2_with (first | ((with_reducible refine gate_callee (f := 62) rfl ?_); refine goesL_ (some 9) rfl rfl Try.func62 (by kernel_rfl) rfl #[.slice A0 l0.length c0] rfl (by (try simp only [List.map_toArray, List.map_cons, List.map_nil]); first | done | rfl | (simp only [List.length_drop, List.length_take]; rfl)) ?_; (with_reducible refine (mult_shape.calls k _ _ l0 t111 _ ?side1 ?side2 A2.out).mono ?_); (case side1 => repeat (first | exact HR0.out | (with_reducible refine Kd.C_alloc ?_ _) | (with_reducible refine Kd.C_drewN ?_ _) | (with_reducible refine Kd.C_drew ?_))); (case side2 => exact HC0.out); rintro e w' ⟨rfl, ⟨nd, rfl⟩⟩; refine ⟨_, rfl, ?_⟩) | ((with_reducible refine gate_callee (f := 63) rfl ?_); refine goesL_ (some 15) rfl rfl Try.func63 (by kernel_rfl) rfl #[.slice A0 l0.length c0] rfl (by (try simp only [List.map_toArray, List.map_cons, List.map_nil]); first | done | rfl | (simp only [List.length_drop, List.length_take]; rfl)) ?_; (with_reducible refine (mult_failing.calls k _ _ l0 t112 t113 t114 false _ ?side1 ?side2 A4.out).mono ?_); (case side1 => repeat (first | exact HR0.out | (with_reducible refine Kd.C_alloc ?_ _) | (with_reducible refine Kd.C_drewN ?_ _) | (with_reducible refine Kd.C_drew ?_))); (case side2 => exact HC0.out); rintro e w' ⟨rfl, ⟨nd, rfl⟩⟩; refine ⟨_, rfl, ?_⟩))
      go_ret
      exact ⟨by first | rfl | (simp; done) | (simp [*]; done), by repeat (first | exact Drawn0.refl _ | apply Drawn0.step)⟩
  · rw [if_neg c3] at H
    have c3b0 : (t111 == 0) = false := beq_eq_false_iff_ne.mpr c3
    have c3b1 : (t111 != 0) = true := bne_iff_ne.mpr c3
    obtain rfl := Option.some.inj H
    go_enter Try.func19, Try.ntmps19
    go_wp2_with (first | ((with_reducible refine gate_callee (f := 62) rfl ?_); refine goesL_ (some 9) rfl rfl Try.func62 (by kernel_rfl) rfl #[.slice A0 l0.length c0] rfl (by (try simp only [List.map_toArray, List.map_cons, List.map_nil]); first | done | rfl | (simp only [List.length_drop, List.length_take]; rfl)) ?_; (with_reducible refine (mult_shape.calls k _ _ l0 t111 _ ?side1 ?side2 A2.out).mono ?_); (case side1 => repeat (first | exact HR0.out | (with_reducible refine Kd.C_alloc ?_ _) | (with_reducible refine Kd.C_drewN ?_ _) | (with_reducible refine Kd.C_drew ?_))); (case side2 => exact HC0.out); rintro e w' ⟨rfl, ⟨nd, rfl⟩⟩; refine ⟨_, rfl, ?_⟩))
    go_ret
    exact ⟨by first | rfl | (simp; done) | (simp [*]; done), by repeat (first | exact Drawn0.refl _ | apply Drawn0.step)⟩

end Go.Proofs.Ytlhckcldeojfmaa.PAll
