-- printed for this claim out of the translation; Lean checks it
import Derived.Test.YtlhckcldeojfmaaKMultNeedsPAllx0
import Derived.Test.YtlhckcldeojfmaaKMultNeedsHandGen
namespace Go.Proofs.Ytlhckcldeojfmaa.PAll
open Go.RowKit Go.Proofs.YtlhckcldeojfmaaW.PrintWords Go.Proofs.YtlhckcldeojfmaaW.PrintLast Go.Proofs.YtlhckcldeojfmaaW.PrintMore
attribute [local go_sem] max2_int min2_int max_two min_two max_three min_three max_four min_four   -- for this text's walks alone
set_option linter.unusedVariables false
set_option linter.unusedSimpArgs false
/-! ### mult_shape: function 62 -/
mutual
def mult_shape.l0 : Nat → List (List Int) → List (List Int) → Int → Int → Option (Int)
 | 0, _, _, _, _ => none
 | k + 1, x0, x15, x16, x17 => if x17 < x16 then (if 0 ≤ x17 then (if x17 < (x15.length : Int) then (if ((rd_L1 x15 x17).length : Int) = (x0.length : Int) then (mult_shape.l1 k x0 x15 x16 x17 (rd_L1 x15 x17) ((rd_L1 x15 x17).length : Int) 0) else (some 4)) else (none)) else (none)) else (some 0)
def mult_shape.l1 : Nat → List (List Int) → List (List Int) → Int → Int → List Int → Int → Int → Option (Int)
 | 0, _, _, _, _, _, _, _ => none
 | k + 1, x0, x15, x16, x17, x26, x27, x28 => if x28 < x27 then (if 0 ≤ x28 then (if x28 < (x26.length : Int) then (if (rd x26 x28) < 0 then (some 4) else (if (rd x26 x28) ≥ (x0.length : Int) then (some 4) else (mult_shape.l1 k x0 x15 x16 x17 x26 x27 (wrap64 (x28 + 1))))) else (none)) else (none)) else (mult_shape.l0 k x0 x15 x16 (wrap64 (x17 + 1)))
end
def mult_shape.f (k : Nat) (l0 : List (List Int)) : Option (Int) := if (l0.length : Int) > 400 then (some 3) else (if (l0.length : Int) = 0 then (some 4) else (mult_shape.l0 k l0 l0 (l0.length : Int) 0))
theorem mult_shape.mono_l : ∀ k, (∀ y0 y1 y2 y3, LeO (mult_shape.l0 k y0 y1 y2 y3) (mult_shape.l0 (k + 1) y0 y1 y2 y3)) ∧ (∀ y0 y1 y2 y3 y4 y5 y6, LeO (mult_shape.l1 k y0 y1 y2 y3 y4 y5 y6) (mult_shape.l1 (k + 1) y0 y1 y2 y3 y4 y5 y6))
 | 0 => ⟨fun _ _ _ _ r h => by simp [mult_shape.l0] at h, fun _ _ _ _ _ _ _ r h => by simp [mult_shape.l1] at h⟩
 | k + 1 => by
  obtain ⟨ih0, ih1⟩ := mult_shape.mono_l k
  refine ⟨?_, ?_⟩
  ·intro y0 y1 y2 y3
   unfold mult_shape.l0
   repeat' first
   | (with_reducible exact ih0 _ _ _ _)
   | (with_reducible exact ih1 _ _ _ _ _ _ _)
   | (with_reducible exact LeO.refl _)
   | (with_reducible exact LeO.none _)
   | (with_reducible refine LeO.ite ?_ ?_)
   | (with_reducible refine LeO.bind ?_ (fun _ => ?_))
   | exact ih0 _ _ _ _
   | exact ih1 _ _ _ _ _ _ _
   | exact LeO.none _
   | refine LeO.ite ?_ ?_
   | refine LeO.bind ?_ (fun _ => ?_)
  ·intro y0 y1 y2 y3 y4 y5 y6
   unfold mult_shape.l1
   repeat' first
   | (with_reducible exact ih0 _ _ _ _)
   | (with_reducible exact ih1 _ _ _ _ _ _ _)
   | (with_reducible exact LeO.refl _)
   | (with_reducible exact LeO.none _)
   | (with_reducible refine LeO.ite ?_ ?_)
   | (with_reducible refine LeO.bind ?_ (fun _ => ?_))
   | exact ih0 _ _ _ _
   | exact ih1 _ _ _ _ _ _ _
   | exact LeO.none _
   | refine LeO.ite ?_ ?_
   | refine LeO.bind ?_ (fun _ => ?_)
theorem mult_shape.mono : ∀ a0 k, LeO (mult_shape.f k a0) (mult_shape.f (k + 1) a0) := by
 intro a0 k
 obtain ⟨ih0, ih1⟩ := mult_shape.mono_l k
 unfold mult_shape.f
 repeat' first
   | (with_reducible exact ih0 _ _ _ _)
   | (with_reducible exact ih1 _ _ _ _ _ _ _)
   | (with_reducible exact LeO.refl _)
   | (with_reducible exact LeO.none _)
   | (with_reducible refine LeO.ite ?_ ?_)
   | (with_reducible refine LeO.bind ?_ (fun _ => ?_))
   | exact ih0 _ _ _ _
   | exact ih1 _ _ _ _ _ _ _
   | exact LeO.none _
   | refine LeO.ite ?_ ?_
   | refine LeO.bind ?_ (fun _ => ?_)
set_option maxHeartbeats 8000000 in
set_option maxRecDepth 100000 in
theorem mult_shape.calls (k : Nat) (A0 : Option Addr) (c0 : Nat) (l0 : List (List Int)) (r : Int) (w : World) (hr0 : Kd.C (Kd.slice 3 (Kd.int .i64)) w A0 l0.length l0) (hc0 : l0.length ≤ c0) (h : mult_shape.f k l0 = some r) :
  Calls Try.prog 62 #[.slice A0 l0.length c0] w fun e w' => e = .returned (.int .i64 r) ∧ Drawn0 w w' := by
 have HR0 := Aside0.mk hr0
 have HC0 := Aside0.mk hc0
 (try clear hr0); (try clear hc0)
 have H : (if (l0.length : Int) > 400 then (some 3) else (if (l0.length : Int) = 0 then (some 4) else (mult_shape.l0 k l0 l0 (l0.length : Int) 0))) = some r := h
 clear h
 by_cases c2 : (l0.length : Int) > 400
 ·rw [if_pos c2] at H
  have c2b0 : decide (400 < (l0.length : Int)) = true := decide_eq_true c2
  have c2b1 : decide (400 < l0.length) = true := decide_eq_true (by omega)
  clear c2
  obtain rfl := Option.some.inj H
  go_enter Try.func62, Try.ntmps62
  go_wp2
  go_ret
  exact ⟨by first | rfl | (simp; done) | (simp [*]; done), by repeat (first | exact Drawn0.refl _ | apply Drawn0.step)⟩
 ·rw [if_neg c2] at H
  have c2b0 : decide (400 < (l0.length : Int)) = false := decide_eq_false c2
  have c2b1 : decide (400 < l0.length) = false := decide_eq_false (by omega)
  clear c2
  by_cases c3 : (l0.length : Int) = 0
  ·rw [if_pos c3] at H
   have c3b0 : ((l0.length : Int) == 0) = true := beq_iff_eq.mpr c3
   have c3b1 : ((l0.length : Int) != 0) = false := bne_eq_false_iff_eq.mpr c3
   clear c3
   obtain rfl := Option.some.inj H
   go_enter Try.func62, Try.ntmps62
   go_wp2
   go_ret
   exact ⟨by first | rfl | (simp; done) | (simp [*]; done), by repeat (first | exact Drawn0.refl _ | apply Drawn0.step)⟩
  ·rw [if_neg c3] at H
   have c3b0 : ((l0.length : Int) == 0) = false := beq_eq_false_iff_ne.mpr c3
   have c3b1 : ((l0.length : Int) != 0) = true := bne_iff_ne.mpr c3
   have c3b2 : ¬ (l0 = []) := fun h_ => c3 (by rw [h_]; rfl)
   have H' := Aside0.mk H
   clear H
   go_enter Try.func62, Try.ntmps62
   go_wp2
   go_loopg [17] k (fun kq v17 w' => ∃ (x17_1 : Int), v17 = .int .i64 x17_1 ∧ Aside0 (mult_shape.l0 kq l0 l0 (l0.length : Int) x17_1 = some r) ∧ Aside0 (kq ≤ k) ∧ Drawn0 w w')
   case atStart => exact ⟨(0), (by first | rfl | (simp; done) | (simp [*]; done)), H', ⟨Nat.le_refl _⟩, by repeat (first | exact Drawn0.refl _ | apply Drawn0.step)⟩
   case round =>
    clear H'
    try clear c2
    try clear c2b0
    try clear c2b1
    try clear p2
    try clear c3
    try clear c3b0
    try clear c3b1
    try clear c3b2
    obtain ⟨x17_1, rfl, HA, HK1, ⟨m1, rfl⟩⟩ := hrel
    cases gk with
    | zero => exact absurd HA.out (by simp [mult_shape.l0])
    | succ k1 =>
     have H := HA.out
     clear HA
     simp only [mult_shape.l0] at H
     by_cases c4 : x17_1 < (l0.length : Int)
     ·rw [if_pos c4] at H
      have c4b0 : decide (x17_1 < (l0.length : Int)) = true := decide_eq_true c4
      clear c4
      by_cases c5 : 0 ≤ x17_1
      ·rw [if_pos c5] at H
       have c5b0 : decide (0 ≤ x17_1) = true := decide_eq_true c5
       clear c5
       by_cases c6 : x17_1 < (l0.length : Int)
       ·rw [if_pos c6] at H
        have c6b0 : decide (x17_1 < (l0.length : Int)) = true := decide_eq_true c6
        clear c6
        by_cases c7 : ((rd_L1 l0 x17_1).length : Int) = (l0.length : Int)
        ·rw [if_pos c7] at H
         have c7b0 : (((rd_L1 l0 x17_1).length : Int) == (l0.length : Int)) = true := beq_iff_eq.mpr c7
         have c7b1 : (((rd_L1 l0 x17_1).length : Int) != (l0.length : Int)) = false := bne_eq_false_iff_eq.mpr c7
         have c7b2 : ((rd_L1 l0 x17_1).length == l0.length) = true := by first | simpa using c7 | (simp at c7 ⊢; omega)
         clear c7
         have H' := Aside0.mk H
         clear H
         have p101 : 0 ≤ (x17_1 : Int) := of_decide_eq_true (by first | (with_reducible assumption) | assumption)
         have q101 : x17_1 < (l0.length : Int) := of_decide_eq_true (by first | (with_reducible assumption) | assumption)
         obtain ⟨ad101, A101_0, c101_0, e101, hx101_0, hl101_0, hi101_0⟩ := at_L1 HR0.out x17_1 p101 q101
         cases e101
         have HR101_0 := Aside0.mk hi101_0
         have HC101_0 := Aside0.mk hl101_0
         (try clear hi101_0); (try clear hl101_0)
         replace p101 := eq_true p101
         replace q101 := eq_true q101
         go_wp2
         go_loopg [28] k1 (fun kq v28 w' => ∃ (x28_2 : Int), v28 = .int .i64 x28_2 ∧ Aside0 (mult_shape.l1 kq l0 l0 (l0.length : Int) x17_1 (rd_L1 l0 x17_1) ((rd_L1 l0 x17_1).length : Int) x28_2 = some r) ∧ Aside0 (kq ≤ k1) ∧ Drawn0 w w')
         case atStart => exact ⟨(0), (by first | rfl | (simp; done) | (simp [*]; done)), H', ⟨Nat.le_refl _⟩, by repeat (first | exact Drawn0.refl _ | apply Drawn0.step)⟩
         case round =>
          clear H'
          try clear c1
          try clear p1
          try clear q1
          try clear hx1
          try clear c2
          try clear c2b0
          try clear c2b1
          try clear p2
          try clear c3
          try clear c3b0
          try clear c3b1
          try clear c3b2
          try clear c4
          try clear c4b0
          try clear c5
          try clear c5b0
          try clear c6
          try clear c6b0
          try clear c7
          try clear c7b0
          try clear c7b1
          try clear c7b2
          try clear hx101_0
          try clear p101
          try clear p2
          try clear q101
          obtain ⟨x28_2, rfl, HA, HK2, ⟨m2, rfl⟩⟩ := hrel
          cases gk with
          | zero => exact absurd HA.out (by simp [mult_shape.l1])
          | succ k2 =>
           have H := HA.out
           clear HA
           simp only [mult_shape.l1] at H
           by_cases c8 : x28_2 < ((rd_L1 l0 x17_1).length : Int)
           ·rw [if_pos c8] at H
            have c8b0 : decide (x28_2 < ((rd_L1 l0 x17_1).length : Int)) = true := decide_eq_true c8
            clear c8
            by_cases c9 : 0 ≤ x28_2
            ·rw [if_pos c9] at H
             have c9b0 : decide (0 ≤ x28_2) = true := decide_eq_true c9
             clear c9
             by_cases c10 : x28_2 < ((rd_L1 l0 x17_1).length : Int)
             ·rw [if_pos c10] at H
              have c10b0 : decide (x28_2 < ((rd_L1 l0 x17_1).length : Int)) = true := decide_eq_true c10
              clear c10
              by_cases c11 : (rd (rd_L1 l0 x17_1) x28_2) < 0
              ·rw [if_pos c11] at H
               have c11b0 : decide ((rd (rd_L1 l0 x17_1) x28_2) < 0) = true := decide_eq_true c11
               clear c11
               obtain rfl := Option.some.inj H
               have p102 : 0 ≤ (x28_2 : Int) := of_decide_eq_true (by first | (with_reducible assumption) | assumption)
               have q102 : x28_2 < ((rd_L1 l0 x17_1).length : Int) := of_decide_eq_true (by first | (with_reducible assumption) | assumption)
               obtain ⟨ad102, e102, hx102_0⟩ := Kd.at_int HR101_0.out x28_2 p102 q102
               cases e102
               replace p102 := eq_true p102
               replace q102 := eq_true q102
               go_wp2
               go_ret
               exact ⟨by first | rfl | (simp; done) | (simp [*]; done), by repeat (first | exact Drawn0.refl _ | apply Drawn0.step)⟩
              ·rw [if_neg c11] at H
               have c11b0 : decide ((rd (rd_L1 l0 x17_1) x28_2) < 0) = false := decide_eq_false c11
               clear c11
               by_cases c12 : (rd (rd_L1 l0 x17_1) x28_2) ≥ (l0.length : Int)
               ·rw [if_pos c12] at H
                have c12b0 : decide ((l0.length : Int) ≤ (rd (rd_L1 l0 x17_1) x28_2)) = true := decide_eq_true c12
                clear c12
                obtain rfl := Option.some.inj H
                have p102 : 0 ≤ (x28_2 : Int) := of_decide_eq_true (by first | (with_reducible assumption) | assumption)
                have q102 : x28_2 < ((rd_L1 l0 x17_1).length : Int) := of_decide_eq_true (by first | (with_reducible assumption) | assumption)
                obtain ⟨ad102, e102, hx102_0⟩ := Kd.at_int HR101_0.out x28_2 p102 q102
                cases e102
                replace p102 := eq_true p102
                replace q102 := eq_true q102
                go_wp2
                go_ret
                exact ⟨by first | rfl | (simp; done) | (simp [*]; done), by repeat (first | exact Drawn0.refl _ | apply Drawn0.step)⟩
               ·rw [if_neg c12] at H
                have c12b0 : decide ((l0.length : Int) ≤ (rd (rd_L1 l0 x17_1) x28_2)) = false := decide_eq_false c12
                clear c12
                have H' := Aside0.mk H
                clear H
                have p102 : 0 ≤ (x28_2 : Int) := of_decide_eq_true (by first | (with_reducible assumption) | assumption)
                have q102 : x28_2 < ((rd_L1 l0 x17_1).length : Int) := of_decide_eq_true (by first | (with_reducible assumption) | assumption)
                obtain ⟨ad102, e102, hx102_0⟩ := Kd.at_int HR101_0.out x28_2 p102 q102
                cases e102
                replace p102 := eq_true p102
                replace q102 := eq_true q102
                go_wp2
                go_roundg k2
                case measure => have := HK1.out; have := HK2.out; omega
                case rel => exact ⟨(wrap64 (x28_2 + 1)), (by first | rfl | (simp; done) | (simp [*]; done)), H', ⟨by have := HK1.out; have := HK2.out; omega⟩, by repeat (first | exact Drawn0.refl _ | apply Drawn0.step)⟩
             ·rw [if_neg c10] at H
              exact absurd H (by simp)
            ·rw [if_neg c9] at H
             exact absurd H (by simp)
           ·rw [if_neg c8] at H
            have c8b0 : decide (x28_2 < ((rd_L1 l0 x17_1).length : Int)) = false := decide_eq_false c8
            clear c8
            have H' := Aside0.mk H
            clear H
            go_wp2
            go_roundg k2
            case measure => have := HK1.out; have := HK2.out; omega
            case rel => exact ⟨(wrap64 (x17_1 + 1)), (by first | rfl | (simp; done) | (simp [*]; done)), H', ⟨by have := HK1.out; have := HK2.out; omega⟩, by repeat (first | exact Drawn0.refl _ | apply Drawn0.step)⟩
        ·rw [if_neg c7] at H
         have c7b0 : (((rd_L1 l0 x17_1).length : Int) == (l0.length : Int)) = false := beq_eq_false_iff_ne.mpr c7
         have c7b1 : (((rd_L1 l0 x17_1).length : Int) != (l0.length : Int)) = true := bne_iff_ne.mpr c7
         have c7b2 : ((rd_L1 l0 x17_1).length == l0.length) = false := by first | simpa using c7 | (simp at c7 ⊢; omega)
         obtain rfl := Option.some.inj H
         have p101 : 0 ≤ (x17_1 : Int) := of_decide_eq_true (by first | (with_reducible assumption) | assumption)
         have q101 : x17_1 < (l0.length : Int) := of_decide_eq_true (by first | (with_reducible assumption) | assumption)
         obtain ⟨ad101, A101_0, c101_0, e101, hx101_0, hl101_0, hi101_0⟩ := at_L1 HR0.out x17_1 p101 q101
         cases e101
         have HR101_0 := Aside0.mk hi101_0
         have HC101_0 := Aside0.mk hl101_0
         (try clear hi101_0); (try clear hl101_0)
         replace p101 := eq_true p101
         replace q101 := eq_true q101
         go_wp2
         go_ret
         exact ⟨by first | rfl | (simp; done) | (simp [*]; done), by repeat (first | exact Drawn0.refl _ | apply Drawn0.step)⟩
       ·rw [if_neg c6] at H
        exact absurd H (by simp)
      ·rw [if_neg c5] at H
       exact absurd H (by simp)
     ·rw [if_neg c4] at H
      have c4b0 : decide (x17_1 < (l0.length : Int)) = false := decide_eq_false c4
      clear c4
      obtain rfl := Option.some.inj H
      go_wp2
      go_ret
      exact ⟨by first | rfl | (simp; done) | (simp [*]; done), by repeat (first | exact Drawn0.refl _ | apply Drawn0.step)⟩

/-! ### mult_failing: function 63 -/
mutual
def mult_failing.l0 : Nat → List (List Int) → Int → Int → Option (Int × Int × Int × Bool)
 | 0, _, _, _ => none
 | k + 1, x0, x10, x11 => if x11 < x10 then (mult_failing.l1 k x0 x11 x10 x11 (x0.length : Int) 0) else (some (0, 0, 0, false))
def mult_failing.l1 : Nat → List (List Int) → Int → Int → Int → Int → Int → Option (Int × Int × Int × Bool)
 | 0, _, _, _, _, _, _ => none
 | k + 1, x0, x6, x10, x11, x15, x16 => if x16 < x15 then (mult_failing.l2 k x0 x6 x16 x10 x11 x15 x16 (x0.length : Int) 0) else (mult_failing.l0 k x0 x10 (wrap64 (x11 + 1)))
def mult_failing.l2 : Nat → List (List Int) → Int → Int → Int → Int → Int → Int → Int → Int → Option (Int × Int × Int × Bool)
 | 0, _, _, _, _, _, _, _, _, _ => none
 | k + 1, x0, x6, x7, x10, x11, x15, x16, x20, x21 => if x21 < x20 then (if 0 ≤ x6 then (if x6 < (x0.length : Int) then (if 0 ≤ x7 then (if x7 < ((rd_L1 x0 x6).length : Int) then (if 0 ≤ (rd (rd_L1 x0 x6) x7) then (if (rd (rd_L1 x0 x6) x7) < (x0.length : Int) then (if 0 ≤ x21 then (if x21 < ((rd_L1 x0 (rd (rd_L1 x0 x6) x7)).length : Int) then (if x7 < (x0.length : Int) then (if x21 < ((rd_L1 x0 x7).length : Int) then (if 0 ≤ (rd (rd_L1 x0 x7) x21) then (if (rd (rd_L1 x0 x7) x21) < ((rd_L1 x0 x6).length : Int) then (if (rd (rd_L1 x0 (rd (rd_L1 x0 x6) x7)) x21) = (rd (rd_L1 x0 x6) (rd (rd_L1 x0 x7) x21)) then (mult_failing.l2 k x0 x6 x7 x10 x11 x15 x16 x20 (wrap64 (x21 + 1))) else (some (x6, x7, x21, true))) else (none)) else (none)) else (none)) else (none)) else (none)) else (none)) else (none)) else (none)) else (none)) else (none)) else (none)) else (none)) else (mult_failing.l1 k x0 x6 x10 x11 x15 (wrap64 (x16 + 1)))
end
def mult_failing.f (k : Nat) (l0 : List (List Int)) : Option (Int × Int × Int × Bool) := mult_failing.l0 k l0 (l0.length : Int) 0
theorem mult_failing.mono_l : ∀ k, (∀ y0 y1 y2, LeO (mult_failing.l0 k y0 y1 y2) (mult_failing.l0 (k + 1) y0 y1 y2)) ∧ (∀ y0 y1 y2 y3 y4 y5, LeO (mult_failing.l1 k y0 y1 y2 y3 y4 y5) (mult_failing.l1 (k + 1) y0 y1 y2 y3 y4 y5)) ∧ (∀ y0 y1 y2 y3 y4 y5 y6 y7 y8, LeO (mult_failing.l2 k y0 y1 y2 y3 y4 y5 y6 y7 y8) (mult_failing.l2 (k + 1) y0 y1 y2 y3 y4 y5 y6 y7 y8))
 | 0 => ⟨fun _ _ _ r h => by simp [mult_failing.l0] at h, fun _ _ _ _ _ _ r h => by simp [mult_failing.l1] at h, fun _ _ _ _ _ _ _ _ _ r h => by simp [mult_failing.l2] at h⟩
 | k + 1 => by
  obtain ⟨ih0, ih1, ih2⟩ := mult_failing.mono_l k
  refine ⟨?_, ?_, ?_⟩
  ·intro y0 y1 y2
   unfold mult_failing.l0
   repeat' first
   | (with_reducible exact ih0 _ _ _)
   | (with_reducible exact ih1 _ _ _ _ _ _)
   | (with_reducible exact ih2 _ _ _ _ _ _ _ _ _)
   | (with_reducible exact LeO.refl _)
   | (with_reducible exact LeO.none _)
   | (with_reducible refine LeO.ite ?_ ?_)
   | (with_reducible refine LeO.bind ?_ (fun _ => ?_))
   | exact ih0 _ _ _
   | exact ih1 _ _ _ _ _ _
   | exact ih2 _ _ _ _ _ _ _ _ _
   | exact LeO.none _
   | refine LeO.ite ?_ ?_
   | refine LeO.bind ?_ (fun _ => ?_)
  ·intro y0 y1 y2 y3 y4 y5
   unfold mult_failing.l1
   repeat' first
   | (with_reducible exact ih0 _ _ _)
   | (with_reducible exact ih1 _ _ _ _ _ _)
   | (with_reducible exact ih2 _ _ _ _ _ _ _ _ _)
   | (with_reducible exact LeO.refl _)
   | (with_reducible exact LeO.none _)
   | (with_reducible refine LeO.ite ?_ ?_)
   | (with_reducible refine LeO.bind ?_ (fun _ => ?_))
   | exact ih0 _ _ _
   | exact ih1 _ _ _ _ _ _
   | exact ih2 _ _ _ _ _ _ _ _ _
   | exact LeO.none _
   | refine LeO.ite ?_ ?_
   | refine LeO.bind ?_ (fun _ => ?_)
  ·intro y0 y1 y2 y3 y4 y5 y6 y7 y8
   unfold mult_failing.l2
   repeat' first
   | (with_reducible exact ih0 _ _ _)
   | (with_reducible exact ih1 _ _ _ _ _ _)
   | (with_reducible exact ih2 _ _ _ _ _ _ _ _ _)
   | (with_reducible exact LeO.refl _)
   | (with_reducible exact LeO.none _)
   | (with_reducible refine LeO.ite ?_ ?_)
   | (with_reducible refine LeO.bind ?_ (fun _ => ?_))
   | exact ih0 _ _ _
   | exact ih1 _ _ _ _ _ _
   | exact ih2 _ _ _ _ _ _ _ _ _
   | exact LeO.none _
   | refine LeO.ite ?_ ?_
   | refine LeO.bind ?_ (fun _ => ?_)
theorem mult_failing.mono : ∀ a0 k, LeO (mult_failing.f k a0) (mult_failing.f (k + 1) a0) := by
 intro a0 k
 obtain ⟨ih0, ih1, ih2⟩ := mult_failing.mono_l k
 unfold mult_failing.f
 repeat' first
   | (with_reducible exact ih0 _ _ _)
   | (with_reducible exact ih1 _ _ _ _ _ _)
   | (with_reducible exact ih2 _ _ _ _ _ _ _ _ _)
   | (with_reducible exact LeO.refl _)
   | (with_reducible exact LeO.none _)
   | (with_reducible refine LeO.ite ?_ ?_)
   | (with_reducible refine LeO.bind ?_ (fun _ => ?_))
   | exact ih0 _ _ _
   | exact ih1 _ _ _ _ _ _
   | exact ih2 _ _ _ _ _ _ _ _ _
   | exact LeO.none _
   | refine LeO.ite ?_ ?_
   | refine LeO.bind ?_ (fun _ => ?_)
set_option maxHeartbeats 8000000 in
set_option maxRecDepth 100000 in
theorem mult_failing.calls (k : Nat) (A0 : Option Addr) (c0 : Nat) (l0 : List (List Int)) (r1 : Int) (r2 : Int) (r3 : Int) (r4 : Bool) (w : World) (hr0 : Kd.C (Kd.slice 3 (Kd.int .i64)) w A0 l0.length l0) (hc0 : l0.length ≤ c0) (h : mult_failing.f k l0 = some (r1, r2, r3, r4)) :
  Calls Try.prog 63 #[.slice A0 l0.length c0] w fun e w' => e = .returned (.tuple #[.int .i64 r1, .int .i64 r2, .int .i64 r3, .bool r4]) ∧ Drawn0 w w' := by
 have HR0 := Aside0.mk hr0
 have HC0 := Aside0.mk hc0
 (try clear hr0); (try clear hc0)
 have H : (mult_failing.l0 k l0 (l0.length : Int) 0) = some (r1, r2, r3, r4) := h
 clear h
 have H' := Aside0.mk H
 clear H
 go_enter Try.func63, Try.ntmps63
 go_wp2
 repeat (go_quiet (fail); try go_wp2)
 go_loopg [11] k (fun kq v11 w' => ∃ (x11_1 : Int), v11 = .int .i64 x11_1 ∧ Aside0 (mult_failing.l0 kq l0 (l0.length : Int) x11_1 = some (r1, r2, r3, r4)) ∧ Aside0 (kq ≤ k) ∧ Drawn0 w w')
 case atStart => exact ⟨(0), (by first | rfl | (simp; done) | (simp [*]; done)), H', ⟨Nat.le_refl _⟩, by repeat (first | exact Drawn0.refl _ | apply Drawn0.step)⟩
 case round =>
  clear H'
  obtain ⟨x11_1, rfl, HA, HK1, ⟨m1, rfl⟩⟩ := hrel
  cases gk with
  | zero => exact absurd HA.out (by simp [mult_failing.l0])
  | succ k1 =>
   have H := HA.out
   clear HA
   simp only [mult_failing.l0] at H
   by_cases c2 : x11_1 < (l0.length : Int)
   ·rw [if_pos c2] at H
    have c2b0 : decide (x11_1 < (l0.length : Int)) = true := decide_eq_true c2
    clear c2
    have H' := Aside0.mk H
    clear H
    go_wp2
    repeat (go_quiet (fail); try go_wp2)
    go_loopg [16] k1 (fun kq v16 w' => ∃ (x16_2 : Int), v16 = .int .i64 x16_2 ∧ Aside0 (mult_failing.l1 kq l0 x11_1 (l0.length : Int) x11_1 (l0.length : Int) x16_2 = some (r1, r2, r3, r4)) ∧ Aside0 (kq ≤ k1) ∧ Drawn0 w w')
    case atStart => exact ⟨(0), (by first | rfl | (simp; done) | (simp [*]; done)), H', ⟨Nat.le_refl _⟩, by repeat (first | exact Drawn0.refl _ | apply Drawn0.step)⟩
    case round =>
     clear H'
     try clear c2
     try clear c2b0
     try clear p2
     obtain ⟨x16_2, rfl, HA, HK2, ⟨m2, rfl⟩⟩ := hrel
     cases gk with
     | zero => exact absurd HA.out (by simp [mult_failing.l1])
     | succ k2 =>
      have H := HA.out
      clear HA
      simp only [mult_failing.l1] at H
      by_cases c3 : x16_2 < (l0.length : Int)
      ·rw [if_pos c3] at H
       have c3b0 : decide (x16_2 < (l0.length : Int)) = true := decide_eq_true c3
       clear c3
       have H' := Aside0.mk H
       clear H
       go_wp2
       repeat (go_quiet (fail); try go_wp2)
       go_loopg [21] k2 (fun kq v21 w' => ∃ (x21_3 : Int), v21 = .int .i64 x21_3 ∧ Aside0 (mult_failing.l2 kq l0 x11_1 x16_2 (l0.length : Int) x11_1 (l0.length : Int) x16_2 (l0.length : Int) x21_3 = some (r1, r2, r3, r4)) ∧ Aside0 (kq ≤ k2) ∧ Drawn0 w w')
       case atStart => exact ⟨(0), (by first | rfl | (simp; done) | (simp [*]; done)), H', ⟨Nat.le_refl _⟩, by repeat (first | exact Drawn0.refl _ | apply Drawn0.step)⟩
       case round =>
        clear H'
        try clear c2
        try clear c2b0
        try clear p2
        try clear c3
        try clear c3b0
        try clear p2
        obtain ⟨x21_3, rfl, HA, HK3, ⟨m3, rfl⟩⟩ := hrel
        cases gk with
        | zero => exact absurd HA.out (by simp [mult_failing.l2])
        | succ k3 =>
         have H := HA.out
         clear HA
         simp only [mult_failing.l2] at H
         by_cases c4 : x21_3 < (l0.length : Int)
         ·rw [if_pos c4] at H
          have c4b0 : decide (x21_3 < (l0.length : Int)) = true := decide_eq_true c4
          clear c4
          by_cases c5 : 0 ≤ x11_1
          ·rw [if_pos c5] at H
           have c5b0 : decide (0 ≤ x11_1) = true := decide_eq_true c5
           clear c5
           by_cases c6 : x11_1 < (l0.length : Int)
           ·rw [if_pos c6] at H
            have c6b0 : decide (x11_1 < (l0.length : Int)) = true := decide_eq_true c6
            clear c6
            by_cases c7 : 0 ≤ x16_2
            ·rw [if_pos c7] at H
             have c7b0 : decide (0 ≤ x16_2) = true := decide_eq_true c7
             clear c7
             by_cases c8 : x16_2 < ((rd_L1 l0 x11_1).length : Int)
             ·rw [if_pos c8] at H
              have c8b0 : decide (x16_2 < ((rd_L1 l0 x11_1).length : Int)) = true := decide_eq_true c8
              clear c8
              by_cases c9 : 0 ≤ (rd (rd_L1 l0 x11_1) x16_2)
              ·rw [if_pos c9] at H
               have c9b0 : decide (0 ≤ (rd (rd_L1 l0 x11_1) x16_2)) = true := decide_eq_true c9
               clear c9
               by_cases c10 : (rd (rd_L1 l0 x11_1) x16_2) < (l0.length : Int)
               ·rw [if_pos c10] at H
                have c10b0 : decide ((rd (rd_L1 l0 x11_1) x16_2) < (l0.length : Int)) = true := decide_eq_true c10
                clear c10
                by_cases c11 : 0 ≤ x21_3
                ·rw [if_pos c11] at H
                 have c11b0 : decide (0 ≤ x21_3) = true := decide_eq_true c11
                 clear c11
                 by_cases c12 : x21_3 < ((rd_L1 l0 (rd (rd_L1 l0 x11_1) x16_2)).length : Int)
                 ·rw [if_pos c12] at H
                  have c12b0 : decide (x21_3 < ((rd_L1 l0 (rd (rd_L1 l0 x11_1) x16_2)).length : Int)) = true := decide_eq_true c12
                  clear c12
                  by_cases c13 : x16_2 < (l0.length : Int)
                  ·rw [if_pos c13] at H
                   have c13b0 : decide (x16_2 < (l0.length : Int)) = true := decide_eq_true c13
                   clear c13
                   by_cases c14 : x21_3 < ((rd_L1 l0 x16_2).length : Int)
                   ·rw [if_pos c14] at H
                    have c14b0 : decide (x21_3 < ((rd_L1 l0 x16_2).length : Int)) = true := decide_eq_true c14
                    clear c14
                    by_cases c15 : 0 ≤ (rd (rd_L1 l0 x16_2) x21_3)
                    ·rw [if_pos c15] at H
                     have c15b0 : decide (0 ≤ (rd (rd_L1 l0 x16_2) x21_3)) = true := decide_eq_true c15
                     clear c15
                     by_cases c16 : (rd (rd_L1 l0 x16_2) x21_3) < ((rd_L1 l0 x11_1).length : Int)
                     ·rw [if_pos c16] at H
                      have c16b0 : decide ((rd (rd_L1 l0 x16_2) x21_3) < ((rd_L1 l0 x11_1).length : Int)) = true := decide_eq_true c16
                      clear c16
                      by_cases c17 : (rd (rd_L1 l0 (rd (rd_L1 l0 x11_1) x16_2)) x21_3) = (rd (rd_L1 l0 x11_1) (rd (rd_L1 l0 x16_2) x21_3))
                      ·rw [if_pos c17] at H
                       have c17b0 : ((rd (rd_L1 l0 (rd (rd_L1 l0 x11_1) x16_2)) x21_3) == (rd (rd_L1 l0 x11_1) (rd (rd_L1 l0 x16_2) x21_3))) = true := beq_iff_eq.mpr c17
                       have c17b1 : ((rd (rd_L1 l0 (rd (rd_L1 l0 x11_1) x16_2)) x21_3) != (rd (rd_L1 l0 x11_1) (rd (rd_L1 l0 x16_2) x21_3))) = false := bne_eq_false_iff_eq.mpr c17
                       clear c17
                       have H' := Aside0.mk H
                       clear H
                       have p103 : 0 ≤ (x11_1 : Int) := of_decide_eq_true (by first | (with_reducible assumption) | assumption)
                       have q103 : x11_1 < (l0.length : Int) := of_decide_eq_true (by first | (with_reducible assumption) | assumption)
                       obtain ⟨ad103, A103_0, c103_0, e103, hx103_0, hl103_0, hi103_0⟩ := at_L1 HR0.out x11_1 p103 q103
                       cases e103
                       have HR103_0 := Aside0.mk hi103_0
                       have HC103_0 := Aside0.mk hl103_0
                       (try clear hi103_0); (try clear hl103_0)
                       replace p103 := eq_true p103
                       replace q103 := eq_true q103
                       have p104 : 0 ≤ (x16_2 : Int) := of_decide_eq_true (by first | (with_reducible assumption) | assumption)
                       have q104 : x16_2 < ((rd_L1 l0 x11_1).length : Int) := of_decide_eq_true (by first | (with_reducible assumption) | assumption)
                       obtain ⟨ad104, e104, hx104_0⟩ := Kd.at_int HR103_0.out x16_2 p104 q104
                       cases e104
                       replace p104 := eq_true p104
                       replace q104 := eq_true q104
                       have p105 : 0 ≤ ((rd (rd_L1 l0 x11_1) x16_2) : Int) := of_decide_eq_true (by first | (with_reducible assumption) | assumption)
                       have q105 : (rd (rd_L1 l0 x11_1) x16_2) < (l0.length : Int) := of_decide_eq_true (by first | (with_reducible assumption) | assumption)
                       obtain ⟨ad105, A105_0, c105_0, e105, hx105_0, hl105_0, hi105_0⟩ := at_L1 HR0.out (rd (rd_L1 l0 x11_1) x16_2) p105 q105
                       obtain rfl : ad103 = ad105 := (by injection e105)
                       have HR105_0 := Aside0.mk hi105_0
                       have HC105_0 := Aside0.mk hl105_0
                       (try clear hi105_0); (try clear hl105_0)
                       replace p105 := eq_true p105
                       replace q105 := eq_true q105
                       have p106 : 0 ≤ (x21_3 : Int) := of_decide_eq_true (by first | (with_reducible assumption) | assumption)
                       have q106 : x21_3 < ((rd_L1 l0 (rd (rd_L1 l0 x11_1) x16_2)).length : Int) := of_decide_eq_true (by first | (with_reducible assumption) | assumption)
                       obtain ⟨ad106, e106, hx106_0⟩ := Kd.at_int HR105_0.out x21_3 p106 q106
                       cases e106
                       replace p106 := eq_true p106
                       replace q106 := eq_true q106
                       have p107 : 0 ≤ (x11_1 : Int) := of_decide_eq_true (by first | (with_reducible assumption) | assumption)
                       have q107 : x11_1 < (l0.length : Int) := of_decide_eq_true (by first | (with_reducible assumption) | assumption)
                       obtain ⟨ad107, A107_0, c107_0, e107, hx107_0, hl107_0, hi107_0⟩ := at_L1 HR0.out x11_1 p107 q107
                       obtain rfl : ad103 = ad107 := (by injection e107)
                       have HR107_0 := Aside0.mk hi107_0
                       have HC107_0 := Aside0.mk hl107_0
                       (try clear hi107_0); (try clear hl107_0)
                       replace p107 := eq_true p107
                       replace q107 := eq_true q107
                       have ea_ := Option.some.inj (hx103_0.symm.trans hx107_0)
                       injection ea_ with ea_ en_ ec_
                       subst ea_
                       subst ec_
                       clear en_
                       have p108 : 0 ≤ (x16_2 : Int) := of_decide_eq_true (by first | (with_reducible assumption) | assumption)
                       have q108 : x16_2 < (l0.length : Int) := of_decide_eq_true (by first | (with_reducible assumption) | assumption)
                       obtain ⟨ad108, A108_0, c108_0, e108, hx108_0, hl108_0, hi108_0⟩ := at_L1 HR0.out x16_2 p108 q108
                       obtain rfl : ad103 = ad108 := (by injection e108)
                       have HR108_0 := Aside0.mk hi108_0
                       have HC108_0 := Aside0.mk hl108_0
                       (try clear hi108_0); (try clear hl108_0)
                       replace p108 := eq_true p108
                       replace q108 := eq_true q108
                       have p109 : 0 ≤ (x21_3 : Int) := of_decide_eq_true (by first | (with_reducible assumption) | assumption)
                       have q109 : x21_3 < ((rd_L1 l0 x16_2).length : Int) := of_decide_eq_true (by first | (with_reducible assumption) | assumption)
                       obtain ⟨ad109, e109, hx109_0⟩ := Kd.at_int HR108_0.out x21_3 p109 q109
                       cases e109
                       replace p109 := eq_true p109
                       replace q109 := eq_true q109
                       have p110 : 0 ≤ ((rd (rd_L1 l0 x16_2) x21_3) : Int) := of_decide_eq_true (by first | (with_reducible assumption) | assumption)
                       have q110 : (rd (rd_L1 l0 x16_2) x21_3) < ((rd_L1 l0 x11_1).length : Int) := of_decide_eq_true (by first | (with_reducible assumption) | assumption)
                       obtain ⟨ad110, e110, hx110_0⟩ := Kd.at_int HR107_0.out (rd (rd_L1 l0 x16_2) x21_3) p110 q110
                       cases e110
                       replace p110 := eq_true p110
                       replace q110 := eq_true q110
                       go_wp2
                       repeat (go_quiet (fail); try go_wp2)
                       go_roundg k3
                       case measure => have := HK1.out; have := HK2.out; have := HK3.out; omega
                       case rel => exact ⟨(wrap64 (x21_3 + 1)), (by first | rfl | (simp; done) | (simp [*]; done)), H', ⟨by have := HK1.out; have := HK2.out; have := HK3.out; omega⟩, by repeat (first | exact Drawn0.refl _ | apply Drawn0.step)⟩
                      ·rw [if_neg c17] at H
                       have c17b0 : ((rd (rd_L1 l0 (rd (rd_L1 l0 x11_1) x16_2)) x21_3) == (rd (rd_L1 l0 x11_1) (rd (rd_L1 l0 x16_2) x21_3))) = false := beq_eq_false_iff_ne.mpr c17
                       have c17b1 : ((rd (rd_L1 l0 (rd (rd_L1 l0 x11_1) x16_2)) x21_3) != (rd (rd_L1 l0 x11_1) (rd (rd_L1 l0 x16_2) x21_3))) = true := bne_iff_ne.mpr c17
                       simp only [Option.some.injEq, Prod.mk.injEq] at H
                       obtain ⟨rfl, rfl, rfl, rfl⟩ := H
                       have p103 : 0 ≤ (x11_1 : Int) := of_decide_eq_true (by first | (with_reducible assumption) | assumption)
                       have q103 : x11_1 < (l0.length : Int) := of_decide_eq_true (by first | (with_reducible assumption) | assumption)
                       obtain ⟨ad103, A103_0, c103_0, e103, hx103_0, hl103_0, hi103_0⟩ := at_L1 HR0.out x11_1 p103 q103
                       cases e103
                       have HR103_0 := Aside0.mk hi103_0
                       have HC103_0 := Aside0.mk hl103_0
                       (try clear hi103_0); (try clear hl103_0)
                       replace p103 := eq_true p103
                       replace q103 := eq_true q103
                       have p104 : 0 ≤ (x16_2 : Int) := of_decide_eq_true (by first | (with_reducible assumption) | assumption)
                       have q104 : x16_2 < ((rd_L1 l0 x11_1).length : Int) := of_decide_eq_true (by first | (with_reducible assumption) | assumption)
                       obtain ⟨ad104, e104, hx104_0⟩ := Kd.at_int HR103_0.out x16_2 p104 q104
                       cases e104
                       replace p104 := eq_true p104
                       replace q104 := eq_true q104
                       have p105 : 0 ≤ ((rd (rd_L1 l0 x11_1) x16_2) : Int) := of_decide_eq_true (by first | (with_reducible assumption) | assumption)
                       have q105 : (rd (rd_L1 l0 x11_1) x16_2) < (l0.length : Int) := of_decide_eq_true (by first | (with_reducible assumption) | assumption)
                       obtain ⟨ad105, A105_0, c105_0, e105, hx105_0, hl105_0, hi105_0⟩ := at_L1 HR0.out (rd (rd_L1 l0 x11_1) x16_2) p105 q105
                       obtain rfl : ad103 = ad105 := (by injection e105)
                       have HR105_0 := Aside0.mk hi105_0
                       have HC105_0 := Aside0.mk hl105_0
                       (try clear hi105_0); (try clear hl105_0)
                       replace p105 := eq_true p105
                       replace q105 := eq_true q105
                       have p106 : 0 ≤ (x21_3 : Int) := of_decide_eq_true (by first | (with_reducible assumption) | assumption)
                       have q106 : x21_3 < ((rd_L1 l0 (rd (rd_L1 l0 x11_1) x16_2)).length : Int) := of_decide_eq_true (by first | (with_reducible assumption) | assumption)
                       obtain ⟨ad106, e106, hx106_0⟩ := Kd.at_int HR105_0.out x21_3 p106 q106
                       cases e106
                       replace p106 := eq_true p106
                       replace q106 := eq_true q106
                       have p107 : 0 ≤ (x11_1 : Int) := of_decide_eq_true (by first | (with_reducible assumption) | assumption)
                       have q107 : x11_1 < (l0.length : Int) := of_decide_eq_true (by first | (with_reducible assumption) | assumption)
                       obtain ⟨ad107, A107_0, c107_0, e107, hx107_0, hl107_0, hi107_0⟩ := at_L1 HR0.out x11_1 p107 q107
                       obtain rfl : ad103 = ad107 := (by injection e107)
                       have HR107_0 := Aside0.mk hi107_0
                       have HC107_0 := Aside0.mk hl107_0
                       (try clear hi107_0); (try clear hl107_0)
                       replace p107 := eq_true p107
                       replace q107 := eq_true q107
                       have ea_ := Option.some.inj (hx103_0.symm.trans hx107_0)
                       injection ea_ with ea_ en_ ec_
                       subst ea_
                       subst ec_
                       clear en_
                       have p108 : 0 ≤ (x16_2 : Int) := of_decide_eq_true (by first | (with_reducible assumption) | assumption)
                       have q108 : x16_2 < (l0.length : Int) := of_decide_eq_true (by first | (with_reducible assumption) | assumption)
                       obtain ⟨ad108, A108_0, c108_0, e108, hx108_0, hl108_0, hi108_0⟩ := at_L1 HR0.out x16_2 p108 q108
                       obtain rfl : ad103 = ad108 := (by injection e108)
                       have HR108_0 := Aside0.mk hi108_0
                       have HC108_0 := Aside0.mk hl108_0
                       (try clear hi108_0); (try clear hl108_0)
                       replace p108 := eq_true p108
                       replace q108 := eq_true q108
                       have p109 : 0 ≤ (x21_3 : Int) := of_decide_eq_true (by first | (with_reducible assumption) | assumption)
                       have q109 : x21_3 < ((rd_L1 l0 x16_2).length : Int) := of_decide_eq_true (by first | (with_reducible assumption) | assumption)
                       obtain ⟨ad109, e109, hx109_0⟩ := Kd.at_int HR108_0.out x21_3 p109 q109
                       cases e109
                       replace p109 := eq_true p109
                       replace q109 := eq_true q109
                       have p110 : 0 ≤ ((rd (rd_L1 l0 x16_2) x21_3) : Int) := of_decide_eq_true (by first | (with_reducible assumption) | assumption)
                       have q110 : (rd (rd_L1 l0 x16_2) x21_3) < ((rd_L1 l0 x11_1).length : Int) := of_decide_eq_true (by first | (with_reducible assumption) | assumption)
                       obtain ⟨ad110, e110, hx110_0⟩ := Kd.at_int HR107_0.out (rd (rd_L1 l0 x16_2) x21_3) p110 q110
                       cases e110
                       replace p110 := eq_true p110
                       replace q110 := eq_true q110
                       go_wp2
                       repeat (go_quiet (fail); try go_wp2)
                       refine bodyPost_ret (results_list (rs := [.tmp 2, .tmp 3, .tmp 4, .tmp 5]) rfl (by simp) (.tmp (.tmp (.tmp (.tmp .nil))))) rfl ?_
                       exact ⟨by first | rfl | (simp; done) | (simp [*]; done), by repeat (first | exact Drawn0.refl _ | apply Drawn0.step)⟩
                     ·rw [if_neg c16] at H
                      exact absurd H (by simp)
                    ·rw [if_neg c15] at H
                     exact absurd H (by simp)
                   ·rw [if_neg c14] at H
                    exact absurd H (by simp)
                  ·rw [if_neg c13] at H
                   exact absurd H (by simp)
                 ·rw [if_neg c12] at H
                  exact absurd H (by simp)
                ·rw [if_neg c11] at H
                 exact absurd H (by simp)
               ·rw [if_neg c10] at H
                exact absurd H (by simp)
              ·rw [if_neg c9] at H
               exact absurd H (by simp)
             ·rw [if_neg c8] at H
              exact absurd H (by simp)
            ·rw [if_neg c7] at H
             exact absurd H (by simp)
           ·rw [if_neg c6] at H
            exact absurd H (by simp)
          ·rw [if_neg c5] at H
           exact absurd H (by simp)
         ·rw [if_neg c4] at H
          have c4b0 : decide (x21_3 < (l0.length : Int)) = false := decide_eq_false c4
          clear c4
          have H' := Aside0.mk H
          clear H
          go_wp2
          repeat (go_quiet (fail); try go_wp2)
          go_roundg k3
          case measure => have := HK1.out; have := HK2.out; have := HK3.out; omega
          case rel => exact ⟨(wrap64 (x16_2 + 1)), (by first | rfl | (simp; done) | (simp [*]; done)), H', ⟨by have := HK1.out; have := HK2.out; have := HK3.out; omega⟩, by repeat (first | exact Drawn0.refl _ | apply Drawn0.step)⟩
      ·rw [if_neg c3] at H
       have c3b0 : decide (x16_2 < (l0.length : Int)) = false := decide_eq_false c3
       clear c3
       have H' := Aside0.mk H
       clear H
       go_wp2
       repeat (go_quiet (fail); try go_wp2)
       go_roundg k2
       case measure => have := HK1.out; have := HK2.out; omega
       case rel => exact ⟨(wrap64 (x11_1 + 1)), (by first | rfl | (simp; done) | (simp [*]; done)), H', ⟨by have := HK1.out; have := HK2.out; omega⟩, by repeat (first | exact Drawn0.refl _ | apply Drawn0.step)⟩
   ·rw [if_neg c2] at H
    have c2b0 : decide (x11_1 < (l0.length : Int)) = false := decide_eq_false c2
    clear c2
    simp only [Option.some.injEq, Prod.mk.injEq] at H
    obtain ⟨rfl, rfl, rfl, rfl⟩ := H
    go_wp2
    repeat (go_quiet (fail); try go_wp2)
    refine bodyPost_ret (results_list (rs := [.tmp 2, .tmp 3, .tmp 4, .tmp 5]) rfl (by simp) (.tmp (.tmp (.tmp (.tmp .nil))))) rfl ?_
    exact ⟨by first | rfl | (simp; done) | (simp [*]; done), by repeat (first | exact Drawn0.refl _ | apply Drawn0.step)⟩

/-! ### mult_Validate: function 19 -/
def mult_Validate.f (k : Nat) (l0 : List (List Int)) : Option (Int) := (mult_shape.f k l0).bind fun t111 => (if t111 = 0 then ((mult_failing.f k l0).bind fun bt112 => (if bt112.2.2.2 = true then (some 5) else (some 0))) else (some t111))
theorem mult_Validate.mono : ∀ a0 k, LeO (mult_Validate.f k a0) (mult_Validate.f (k + 1) a0) := by
 intro a0 k
 unfold mult_Validate.f
 repeat' first
   | (with_reducible exact mult_failing.mono _ _)
   | (with_reducible exact mult_shape.mono _ _)
   | (with_reducible exact LeO.refl _)
   | (with_reducible exact LeO.none _)
   | (with_reducible refine LeO.ite ?_ ?_)
   | (with_reducible refine LeO.bind ?_ (fun _ => ?_))
   | exact mult_failing.mono _ _
   | exact mult_shape.mono _ _
   | exact LeO.none _
   | refine LeO.ite ?_ ?_
   | refine LeO.bind ?_ (fun _ => ?_)
set_option maxHeartbeats 8000000 in
set_option maxRecDepth 100000 in
theorem mult_Validate.calls (k : Nat) (A0 : Option Addr) (c0 : Nat) (l0 : List (List Int)) (r : Int) (w : World) (hr0 : Kd.C (Kd.slice 3 (Kd.int .i64)) w A0 l0.length l0) (hc0 : l0.length ≤ c0) (h : mult_Validate.f k l0 = some r) :
  Calls Try.prog 19 #[.slice A0 l0.length c0] w fun e w' => e = .returned (.int .i64 r) ∧ Drawn0 w w' := by
 have HR0 := Aside0.mk hr0
 have HC0 := Aside0.mk hc0
 (try clear hr0); (try clear hc0)
 have H : ((mult_shape.f k l0).bind fun t111 => (if t111 = 0 then ((mult_failing.f k l0).bind fun bt112 => (if bt112.2.2.2 = true then (some 5) else (some 0))) else (some t111))) = some r := h
 clear h
 replace H := Option.bind_eq_some_iff.mp H
 obtain ⟨t111, A20, H⟩ := H
 replace H : (if t111 = 0 then ((mult_failing.f k l0).bind fun bt112 => (if bt112.2.2.2 = true then (some 5) else (some 0))) else (some t111)) = some r := H
 have A2 := Aside0.mk A20
 clear A20
 by_cases c3 : t111 = 0
 ·rw [if_pos c3] at H
  have c3b0 : (t111 == 0) = true := beq_iff_eq.mpr c3
  have c3b1 : (t111 != 0) = false := bne_eq_false_iff_eq.mpr c3
  clear c3
  replace H := Option.bind_eq_some_iff.mp H
  obtain ⟨⟨t112, t113, t114, t115⟩, A40, H⟩ := H
  replace H : (if t115 = true then (some 5) else (some 0)) = some r := H
  have A4 := Aside0.mk A40
  clear A40
  by_cases c5 : t115 = true
  ·subst c5
   have H1 : (some 5) = some r := by rw [if_pos rfl] at H; exact H
   clear H
   have H := H1
   clear H1
   obtain rfl := Option.some.inj H
   go_enter Try.func19, Try.ntmps19
   go_wp2_with (first | ((with_reducible refine gate_callee (f := 62) rfl ?_); refine goesL_ (some 9) rfl rfl Try.func62 (by kernel_rfl) rfl #[.slice A0 l0.length c0] rfl (by (try simp only [List.map_toArray, List.map_cons, List.map_nil]); first | done | rfl | (simp only [List.length_drop, List.length_take]; rfl)) ?_; (with_reducible refine (mult_shape.calls k _ _ l0 t111 _ ?side1 ?side2 A2.out).mono ?_); (case side1 => repeat (first | exact HR0.out | (with_reducible refine Kd.C_alloc ?_ _) | (with_reducible refine Kd.C_drewN ?_ _) | (with_reducible refine Kd.C_drew ?_))); (case side2 => exact HC0.out); rintro e w' ⟨rfl, ⟨nd, rfl⟩⟩; refine ⟨_, rfl, ?_⟩) | ((with_reducible refine gate_callee (f := 63) rfl ?_); refine goesL_ (some 15) rfl rfl Try.func63 (by kernel_rfl) rfl #[.slice A0 l0.length c0] rfl (by (try simp only [List.map_toArray, List.map_cons, List.map_nil]); first | done | rfl | (simp only [List.length_drop, List.length_take]; rfl)) ?_; (with_reducible refine (mult_failing.calls k _ _ l0 t112 t113 t114 true _ ?side1 ?side2 A4.out).mono ?_); (case side1 => repeat (first | exact HR0.out | (with_reducible refine Kd.C_alloc ?_ _) | (with_reducible refine Kd.C_drewN ?_ _) | (with_reducible refine Kd.C_drew ?_))); (case side2 => exact HC0.out); rintro e w' ⟨rfl, ⟨nd, rfl⟩⟩; refine ⟨_, rfl, ?_⟩))
   go_ret
   exact ⟨by first | rfl | (simp; done) | (simp [*]; done), by repeat (first | exact Drawn0.refl _ | apply Drawn0.step)⟩
  ·replace c5 := Bool.eq_false_iff.mpr c5
   subst c5
   have H1 : (some 0) = some r := by rw [if_neg (show ¬ (false = true) by decide)] at H; exact H
   clear H
   have H := H1
   clear H1
   obtain rfl := Option.some.inj H
   go_enter Try.func19, Try.ntmps19
   go_wp2_with (first | ((with_reducible refine gate_callee (f := 62) rfl ?_); refine goesL_ (some 9) rfl rfl Try.func62 (by kernel_rfl) rfl #[.slice A0 l0.length c0] rfl (by (try simp only [List.map_toArray, List.map_cons, List.map_nil]); first | done | rfl | (simp only [List.length_drop, List.length_take]; rfl)) ?_; (with_reducible refine (mult_shape.calls k _ _ l0 t111 _ ?side1 ?side2 A2.out).mono ?_); (case side1 => repeat (first | exact HR0.out | (with_reducible refine Kd.C_alloc ?_ _) | (with_reducible refine Kd.C_drewN ?_ _) | (with_reducible refine Kd.C_drew ?_))); (case side2 => exact HC0.out); rintro e w' ⟨rfl, ⟨nd, rfl⟩⟩; refine ⟨_, rfl, ?_⟩) | ((with_reducible refine gate_callee (f := 63) rfl ?_); refine goesL_ (some 15) rfl rfl Try.func63 (by kernel_rfl) rfl #[.slice A0 l0.length c0] rfl (by (try simp only [List.map_toArray, List.map_cons, List.map_nil]); first | done | rfl | (simp only [List.length_drop, List.length_take]; rfl)) ?_; (with_reducible refine (mult_failing.calls k _ _ l0 t112 t113 t114 false _ ?side1 ?side2 A4.out).mono ?_); (case side1 => repeat (first | exact HR0.out | (with_reducible refine Kd.C_alloc ?_ _) | (with_reducible refine Kd.C_drewN ?_ _) | (with_reducible refine Kd.C_drew ?_))); (case side2 => exact HC0.out); rintro e w' ⟨rfl, ⟨nd, rfl⟩⟩; refine ⟨_, rfl, ?_⟩))
   go_ret
   exact ⟨by first | rfl | (simp; done) | (simp [*]; done), by repeat (first | exact Drawn0.refl _ | apply Drawn0.step)⟩
 ·rw [if_neg c3] at H
  have c3b0 : (t111 == 0) = false := beq_eq_false_iff_ne.mpr c3
  have c3b1 : (t111 != 0) = true := bne_iff_ne.mpr c3
  obtain rfl := Option.some.inj H
  go_enter Try.func19, Try.ntmps19
  go_wp2_with (first | ((with_reducible refine gate_callee (f := 62) rfl ?_); refine goesL_ (some 9) rfl rfl Try.func62 (by kernel_rfl) rfl #[.slice A0 l0.length c0] rfl (by (try simp only [List.map_toArray, List.map_cons, List.map_nil]); first | done | rfl | (simp only [List.length_drop, List.length_take]; rfl)) ?_; (with_reducible refine (mult_shape.calls k _ _ l0 t111 _ ?side1 ?side2 A2.out).mono ?_); (case side1 => repeat (first | exact HR0.out | (with_reducible refine Kd.C_alloc ?_ _) | (with_reducible refine Kd.C_drewN ?_ _) | (with_reducible refine Kd.C_drew ?_))); (case side2 => exact HC0.out); rintro e w' ⟨rfl, ⟨nd, rfl⟩⟩; refine ⟨_, rfl, ?_⟩))
  go_ret
  exact ⟨by first | rfl | (simp; done) | (simp [*]; done), by repeat (first | exact Drawn0.refl _ | apply Drawn0.step)⟩

/-! ### mult_identity: function 64 -/
mutual
def mult_identity.l0 : Nat → List (List Int) → Int → Int → Option (Int)
 | 0, _, _, _ => none
 | k + 1, x0, x7, x8 => if x8 < x7 then (mult_identity.l1 k x0 x8 true x7 x8 (x0.length : Int) 0) else (some (-1))
def mult_identity.l1 : Nat → List (List Int) → Int → Bool → Int → Int → Int → Int → Option (Int)
 | 0, _, _, _, _, _, _, _ => none
 | k + 1, x0, x3, x4, x7, x8, x12, x13 => if x13 < x12 then (if x4 = true then (if 0 ≤ x3 then (if x3 < (x0.length : Int) then (if 0 ≤ x13 then (if x13 < ((rd_L1 x0 x3).length : Int) then (if (rd (rd_L1 x0 x3) x13) = x13 then (if x13 < (x0.length : Int) then (if x3 < ((rd_L1 x0 x13).length : Int) then (mult_identity.l1 k x0 x3 ((rd (rd_L1 x0 x13) x3) == x13) x7 x8 x12 (wrap64 (x13 + 1))) else (none)) else (none)) else (mult_identity.l1 k x0 x3 false x7 x8 x12 (wrap64 (x13 + 1)))) else (none)) else (none)) else (none)) else (none)) else (mult_identity.l1 k x0 x3 false x7 x8 x12 (wrap64 (x13 + 1)))) else (if x4 = true then (some x3) else (mult_identity.l0 k x0 x7 (wrap64 (x8 + 1))))
end
def mult_identity.f (k : Nat) (l0 : List (List Int)) : Option (Int) := mult_identity.l0 k l0 (l0.length : Int) 0
theorem mult_identity.mono_l : ∀ k, (∀ y0 y1 y2, LeO (mult_identity.l0 k y0 y1 y2) (mult_identity.l0 (k + 1) y0 y1 y2)) ∧ (∀ y0 y1 y2 y3 y4 y5 y6, LeO (mult_identity.l1 k y0 y1 y2 y3 y4 y5 y6) (mult_identity.l1 (k + 1) y0 y1 y2 y3 y4 y5 y6))
 | 0 => ⟨fun _ _ _ r h => by simp [mult_identity.l0] at h, fun _ _ _ _ _ _ _ r h => by simp [mult_identity.l1] at h⟩
 | k + 1 => by
  obtain ⟨ih0, ih1⟩ := mult_identity.mono_l k
  refine ⟨?_, ?_⟩
  ·intro y0 y1 y2
   unfold mult_identity.l0
   repeat' first
   | (with_reducible exact ih0 _ _ _)
   | (with_reducible exact ih1 _ _ _ _ _ _ _)
   | (with_reducible exact LeO.refl _)
   | (with_reducible exact LeO.none _)
   | (with_reducible refine LeO.ite ?_ ?_)
   | (with_reducible refine LeO.bind ?_ (fun _ => ?_))
   | exact ih0 _ _ _
   | exact ih1 _ _ _ _ _ _ _
   | exact LeO.none _
   | refine LeO.ite ?_ ?_
   | refine LeO.bind ?_ (fun _ => ?_)
  ·intro y0 y1 y2 y3 y4 y5 y6
   unfold mult_identity.l1
   repeat' first
   | (with_reducible exact ih0 _ _ _)
   | (with_reducible exact ih1 _ _ _ _ _ _ _)
   | (with_reducible exact LeO.refl _)
   | (with_reducible exact LeO.none _)
   | (with_reducible refine LeO.ite ?_ ?_)
   | (with_reducible refine LeO.bind ?_ (fun _ => ?_))
   | exact ih0 _ _ _
   | exact ih1 _ _ _ _ _ _ _
   | exact LeO.none _
   | refine LeO.ite ?_ ?_
   | refine LeO.bind ?_ (fun _ => ?_)
theorem mult_identity.mono : ∀ a0 k, LeO (mult_identity.f k a0) (mult_identity.f (k + 1) a0) := by
 intro a0 k
 obtain ⟨ih0, ih1⟩ := mult_identity.mono_l k
 unfold mult_identity.f
 repeat' first
   | (with_reducible exact ih0 _ _ _)
   | (with_reducible exact ih1 _ _ _ _ _ _ _)
   | (with_reducible exact LeO.refl _)
   | (with_reducible exact LeO.none _)
   | (with_reducible refine LeO.ite ?_ ?_)
   | (with_reducible refine LeO.bind ?_ (fun _ => ?_))
   | exact ih0 _ _ _
   | exact ih1 _ _ _ _ _ _ _
   | exact LeO.none _
   | refine LeO.ite ?_ ?_
   | refine LeO.bind ?_ (fun _ => ?_)
set_option maxHeartbeats 8000000 in
set_option maxRecDepth 100000 in
theorem mult_identity.calls (k : Nat) (A0 : Option Addr) (c0 : Nat) (l0 : List (List Int)) (r : Int) (w : World) (hr0 : Kd.C (Kd.slice 3 (Kd.int .i64)) w A0 l0.length l0) (hc0 : l0.length ≤ c0) (h : mult_identity.f k l0 = some r) :
  Calls Try.prog 64 #[.slice A0 l0.length c0] w fun e w' => e = .returned (.int .i64 r) ∧ Drawn0 w w' := by
 have HR0 := Aside0.mk hr0
 have HC0 := Aside0.mk hc0
 (try clear hr0); (try clear hc0)
 have H : (mult_identity.l0 k l0 (l0.length : Int) 0) = some r := h
 clear h
 have H' := Aside0.mk H
 clear H
 go_enter Try.func64, Try.ntmps64
 go_wp2
 go_loopg [8] k (fun kq v8 w' => ∃ (x8_1 : Int), v8 = .int .i64 x8_1 ∧ Aside0 (mult_identity.l0 kq l0 (l0.length : Int) x8_1 = some r) ∧ Aside0 (kq ≤ k) ∧ Drawn0 w w')
 case atStart => exact ⟨(0), (by first | rfl | (simp; done) | (simp [*]; done)), H', ⟨Nat.le_refl _⟩, by repeat (first | exact Drawn0.refl _ | apply Drawn0.step)⟩
 case round =>
  clear H'
  obtain ⟨x8_1, rfl, HA, HK1, ⟨m1, rfl⟩⟩ := hrel
  cases gk with
  | zero => exact absurd HA.out (by simp [mult_identity.l0])
  | succ k1 =>
   have H := HA.out
   clear HA
   simp only [mult_identity.l0] at H
   by_cases c2 : x8_1 < (l0.length : Int)
   ·rw [if_pos c2] at H
    have c2b0 : decide (x8_1 < (l0.length : Int)) = true := decide_eq_true c2
    clear c2
    have H' := Aside0.mk H
    clear H
    go_wp2
    go_loopg [4, 13] k1 (fun kq v4 v13 w' => ∃ (x4_2 : Bool) (x13_2 : Int), v4 = .bool x4_2 ∧ v13 = .int .i64 x13_2 ∧ Aside0 (mult_identity.l1 kq l0 x8_1 x4_2 (l0.length : Int) x8_1 (l0.length : Int) x13_2 = some r) ∧ Aside0 (kq ≤ k1) ∧ Drawn0 w w')
    case atStart => exact ⟨(true), (0), (by first | rfl | (simp; done) | (simp [*]; done)), (by first | rfl | (simp; done) | (simp [*]; done)), H', ⟨Nat.le_refl _⟩, by repeat (first | exact Drawn0.refl _ | apply Drawn0.step)⟩
    case round =>
     clear H'
     try clear c2
     try clear c2b0
     try clear p2
     obtain ⟨x4_2, x13_2, rfl, rfl, HA, HK2, ⟨m2, rfl⟩⟩ := hrel
     cases gk with
     | zero => exact absurd HA.out (by simp [mult_identity.l1])
     | succ k2 =>
      have H := HA.out
      clear HA
      simp only [mult_identity.l1] at H
      by_cases c3 : x13_2 < (l0.length : Int)
      ·rw [if_pos c3] at H
       have c3b0 : decide (x13_2 < (l0.length : Int)) = true := decide_eq_true c3
       clear c3
       by_cases c4 : x4_2 = true
       ·subst c4
        have H1 : (if 0 ≤ x8_1 then (if x8_1 < (l0.length : Int) then (if 0 ≤ x13_2 then (if x13_2 < ((rd_L1 l0 x8_1).length : Int) then (if (rd (rd_L1 l0 x8_1) x13_2) = x13_2 then (if x13_2 < (l0.length : Int) then (if x8_1 < ((rd_L1 l0 x13_2).length : Int) then (mult_identity.l1 k2 l0 x8_1 ((rd (rd_L1 l0 x13_2) x8_1) == x13_2) (l0.length : Int) x8_1 (l0.length : Int) (wrap64 (x13_2 + 1))) else (none)) else (none)) else (mult_identity.l1 k2 l0 x8_1 false (l0.length : Int) x8_1 (l0.length : Int) (wrap64 (x13_2 + 1)))) else (none)) else (none)) else (none)) else (none)) = some r := by rw [if_pos rfl] at H; exact H
        clear H
        have H := H1
        clear H1
        by_cases c5 : 0 ≤ x8_1
        ·rw [if_pos c5] at H
         have c5b0 : decide (0 ≤ x8_1) = true := decide_eq_true c5
         clear c5
         by_cases c6 : x8_1 < (l0.length : Int)
         ·rw [if_pos c6] at H
          have c6b0 : decide (x8_1 < (l0.length : Int)) = true := decide_eq_true c6
          clear c6
          by_cases c7 : 0 ≤ x13_2
          ·rw [if_pos c7] at H
           have c7b0 : decide (0 ≤ x13_2) = true := decide_eq_true c7
           clear c7
           by_cases c8 : x13_2 < ((rd_L1 l0 x8_1).length : Int)
           ·rw [if_pos c8] at H
            have c8b0 : decide (x13_2 < ((rd_L1 l0 x8_1).length : Int)) = true := decide_eq_true c8
            clear c8
            by_cases c9 : (rd (rd_L1 l0 x8_1) x13_2) = x13_2
            ·rw [if_pos c9] at H
             have c9b0 : ((rd (rd_L1 l0 x8_1) x13_2) == x13_2) = true := beq_iff_eq.mpr c9
             have c9b1 : ((rd (rd_L1 l0 x8_1) x13_2) != x13_2) = false := bne_eq_false_iff_eq.mpr c9
             clear c9
             by_cases c10 : x13_2 < (l0.length : Int)
             ·rw [if_pos c10] at H
              have c10b0 : decide (x13_2 < (l0.length : Int)) = true := decide_eq_true c10
              clear c10
              by_cases c11 : x8_1 < ((rd_L1 l0 x13_2).length : Int)
              ·rw [if_pos c11] at H
               have c11b0 : decide (x8_1 < ((rd_L1 l0 x13_2).length : Int)) = true := decide_eq_true c11
               clear c11
               have H' := Aside0.mk H
               clear H
               have p116 : 0 ≤ (x8_1 : Int) := of_decide_eq_true (by first | (with_reducible assumption) | assumption)
               have q116 : x8_1 < (l0.length : Int) := of_decide_eq_true (by first | (with_reducible assumption) | assumption)
               obtain ⟨ad116, A116_0, c116_0, e116, hx116_0, hl116_0, hi116_0⟩ := at_L1 HR0.out x8_1 p116 q116
               cases e116
               have HR116_0 := Aside0.mk hi116_0
               have HC116_0 := Aside0.mk hl116_0
               (try clear hi116_0); (try clear hl116_0)
               replace p116 := eq_true p116
               replace q116 := eq_true q116
               have p117 : 0 ≤ (x13_2 : Int) := of_decide_eq_true (by first | (with_reducible assumption) | assumption)
               have q117 : x13_2 < ((rd_L1 l0 x8_1).length : Int) := of_decide_eq_true (by first | (with_reducible assumption) | assumption)
               obtain ⟨ad117, e117, hx117_0⟩ := Kd.at_int HR116_0.out x13_2 p117 q117
               cases e117
               replace p117 := eq_true p117
               replace q117 := eq_true q117
               have p118 : 0 ≤ (x13_2 : Int) := of_decide_eq_true (by first | (with_reducible assumption) | assumption)
               have q118 : x13_2 < (l0.length : Int) := of_decide_eq_true (by first | (with_reducible assumption) | assumption)
               obtain ⟨ad118, A118_0, c118_0, e118, hx118_0, hl118_0, hi118_0⟩ := at_L1 HR0.out x13_2 p118 q118
               obtain rfl : ad116 = ad118 := (by injection e118)
               have HR118_0 := Aside0.mk hi118_0
               have HC118_0 := Aside0.mk hl118_0
               (try clear hi118_0); (try clear hl118_0)
               replace p118 := eq_true p118
               replace q118 := eq_true q118
               have p119 : 0 ≤ (x8_1 : Int) := of_decide_eq_true (by first | (with_reducible assumption) | assumption)
               have q119 : x8_1 < ((rd_L1 l0 x13_2).length : Int) := of_decide_eq_true (by first | (with_reducible assumption) | assumption)
               obtain ⟨ad119, e119, hx119_0⟩ := Kd.at_int HR118_0.out x8_1 p119 q119
               cases e119
               replace p119 := eq_true p119
               replace q119 := eq_true q119
               go_wp2
               go_roundg k2
               case measure => have := HK1.out; have := HK2.out; omega
               case rel => exact ⟨(((rd (rd_L1 l0 x13_2) x8_1) == x13_2)), (wrap64 (x13_2 + 1)), (by first | rfl | (simp; done) | (simp [*]; done)), (by first | rfl | (simp; done) | (simp [*]; done)), H', ⟨by have := HK1.out; have := HK2.out; omega⟩, by repeat (first | exact Drawn0.refl _ | apply Drawn0.step)⟩
              ·rw [if_neg c11] at H
               exact absurd H (by simp)
             ·rw [if_neg c10] at H
              exact absurd H (by simp)
            ·rw [if_neg c9] at H
             have c9b0 : ((rd (rd_L1 l0 x8_1) x13_2) == x13_2) = false := beq_eq_false_iff_ne.mpr c9
             have c9b1 : ((rd (rd_L1 l0 x8_1) x13_2) != x13_2) = true := bne_iff_ne.mpr c9
             have H' := Aside0.mk H
             clear H
             have p116 : 0 ≤ (x8_1 : Int) := of_decide_eq_true (by first | (with_reducible assumption) | assumption)
             have q116 : x8_1 < (l0.length : Int) := of_decide_eq_true (by first | (with_reducible assumption) | assumption)
             obtain ⟨ad116, A116_0, c116_0, e116, hx116_0, hl116_0, hi116_0⟩ := at_L1 HR0.out x8_1 p116 q116
             cases e116
             have HR116_0 := Aside0.mk hi116_0
             have HC116_0 := Aside0.mk hl116_0
             (try clear hi116_0); (try clear hl116_0)
             replace p116 := eq_true p116
             replace q116 := eq_true q116
             have p117 : 0 ≤ (x13_2 : Int) := of_decide_eq_true (by first | (with_reducible assumption) | assumption)
             have q117 : x13_2 < ((rd_L1 l0 x8_1).length : Int) := of_decide_eq_true (by first | (with_reducible assumption) | assumption)
             obtain ⟨ad117, e117, hx117_0⟩ := Kd.at_int HR116_0.out x13_2 p117 q117
             cases e117
             replace p117 := eq_true p117
             replace q117 := eq_true q117
             go_wp2
             go_roundg k2
             case measure => have := HK1.out; have := HK2.out; omega
             case rel => exact ⟨(false), (wrap64 (x13_2 + 1)), (by first | rfl | (simp; done) | (simp [*]; done)), (by first | rfl | (simp; done) | (simp [*]; done)), H', ⟨by have := HK1.out; have := HK2.out; omega⟩, by repeat (first | exact Drawn0.refl _ | apply Drawn0.step)⟩
           ·rw [if_neg c8] at H
            exact absurd H (by simp)
          ·rw [if_neg c7] at H
           exact absurd H (by simp)
         ·rw [if_neg c6] at H
          exact absurd H (by simp)
        ·rw [if_neg c5] at H
         exact absurd H (by simp)
       ·replace c4 := Bool.eq_false_iff.mpr c4
        subst c4
        have H1 : (mult_identity.l1 k2 l0 x8_1 false (l0.length : Int) x8_1 (l0.length : Int) (wrap64 (x13_2 + 1))) = some r := by rw [if_neg (show ¬ (false = true) by decide)] at H; exact H
        clear H
        have H := H1
        clear H1
        have H' := Aside0.mk H
        clear H
        go_wp2
        go_roundg k2
        case measure => have := HK1.out; have := HK2.out; omega
        case rel => exact ⟨(false), (wrap64 (x13_2 + 1)), (by first | rfl | (simp; done) | (simp [*]; done)), (by first | rfl | (simp; done) | (simp [*]; done)), H', ⟨by have := HK1.out; have := HK2.out; omega⟩, by repeat (first | exact Drawn0.refl _ | apply Drawn0.step)⟩
      ·rw [if_neg c3] at H
       have c3b0 : decide (x13_2 < (l0.length : Int)) = false := decide_eq_false c3
       clear c3
       by_cases c12 : x4_2 = true
       ·subst c12
        have H1 : (some x8_1) = some r := by rw [if_pos rfl] at H; exact H
        clear H
        have H := H1
        clear H1
        obtain rfl := Option.some.inj H
        go_wp2
        go_ret
        exact ⟨by first | rfl | (simp; done) | (simp [*]; done), by repeat (first | exact Drawn0.refl _ | apply Drawn0.step)⟩
       ·replace c12 := Bool.eq_false_iff.mpr c12
        subst c12
        have H1 : (mult_identity.l0 k2 l0 (l0.length : Int) (wrap64 (x8_1 + 1))) = some r := by rw [if_neg (show ¬ (false = true) by decide)] at H; exact H
        clear H
        have H := H1
        clear H1
        have H' := Aside0.mk H
        clear H
        go_wp2
        go_roundg k2
        case measure => have := HK1.out; have := HK2.out; omega
        case rel => exact ⟨(wrap64 (x8_1 + 1)), (by first | rfl | (simp; done) | (simp [*]; done)), H', ⟨by have := HK1.out; have := HK2.out; omega⟩, by repeat (first | exact Drawn0.refl _ | apply Drawn0.step)⟩
   ·rw [if_neg c2] at H
    have c2b0 : decide (x8_1 < (l0.length : Int)) = false := decide_eq_false c2
    clear c2
    obtain rfl := Option.some.inj H
    go_wp2
    go_ret
    exact ⟨by first | rfl | (simp; done) | (simp [*]; done), by repeat (first | exact Drawn0.refl _ | apply Drawn0.step)⟩

/-! ### mult_Identity: function 20 -/
def mult_Identity.f (k : Nat) (l0 : List (List Int)) : Option (Int) := (mult_Validate.f k l0).bind fun t120 => (if t120 = 0 then ((mult_identity.f k l0).bind fun t121 => (some t121)) else (some (-1)))
theorem mult_Identity.mono : ∀ a0 k, LeO (mult_Identity.f k a0) (mult_Identity.f (k + 1) a0) := by
 intro a0 k
 unfold mult_Identity.f
 repeat' first
   | (with_reducible exact mult_Validate.mono _ _)
   | (with_reducible exact mult_identity.mono _ _)
   | (with_reducible exact LeO.refl _)
   | (with_reducible exact LeO.none _)
   | (with_reducible refine LeO.ite ?_ ?_)
   | (with_reducible refine LeO.bind ?_ (fun _ => ?_))
   | exact mult_Validate.mono _ _
   | exact mult_identity.mono _ _
   | exact LeO.none _
   | refine LeO.ite ?_ ?_
   | refine LeO.bind ?_ (fun _ => ?_)
set_option maxHeartbeats 8000000 in
set_option maxRecDepth 100000 in
theorem mult_Identity.calls (k : Nat) (A0 : Option Addr) (c0 : Nat) (l0 : List (List Int)) (r : Int) (w : World) (hr0 : Kd.C (Kd.slice 3 (Kd.int .i64)) w A0 l0.length l0) (hc0 : l0.length ≤ c0) (h : mult_Identity.f k l0 = some r) :
  Calls Try.prog 20 #[.slice A0 l0.length c0] w fun e w' => e = .returned (.int .i64 r) ∧ Drawn0 w w' := by
 have HR0 := Aside0.mk hr0
 have HC0 := Aside0.mk hc0
 (try clear hr0); (try clear hc0)
 have H : ((mult_Validate.f k l0).bind fun t120 => (if t120 = 0 then ((mult_identity.f k l0).bind fun t121 => (some t121)) else (some (-1)))) = some r := h
 clear h
 replace H := Option.bind_eq_some_iff.mp H
 obtain ⟨t120, A20, H⟩ := H
 replace H : (if t120 = 0 then ((mult_identity.f k l0).bind fun t121 => (some t121)) else (some (-1))) = some r := H
 have A2 := Aside0.mk A20
 clear A20
 by_cases c3 : t120 = 0
 ·rw [if_pos c3] at H
  have c3b0 : (t120 == 0) = true := beq_iff_eq.mpr c3
  have c3b1 : (t120 != 0) = false := bne_eq_false_iff_eq.mpr c3
  clear c3
  replace H := Option.bind_eq_some_iff.mp H
  obtain ⟨t121, A40, H⟩ := H
  replace H : (some t121) = some r := H
  have A4 := Aside0.mk A40
  clear A40
  obtain rfl := Option.some.inj H
  go_enter Try.func20, Try.ntmps20
  go_wp2_with (first | ((with_reducible refine gate_callee (f := 19) rfl ?_); refine goesL_ (some 4) rfl rfl Try.func19 (by kernel_rfl) rfl #[.slice A0 l0.length c0] rfl (by (try simp only [List.map_toArray, List.map_cons, List.map_nil]); first | done | rfl | (simp only [List.length_drop, List.length_take]; rfl)) ?_; (with_reducible refine (mult_Validate.calls k _ _ l0 t120 _ ?side1 ?side2 A2.out).mono ?_); (case side1 => repeat (first | exact HR0.out | (with_reducible refine Kd.C_alloc ?_ _) | (with_reducible refine Kd.C_drewN ?_ _) | (with_reducible refine Kd.C_drew ?_))); (case side2 => exact HC0.out); rintro e w' ⟨rfl, ⟨nd, rfl⟩⟩; refine ⟨_, rfl, ?_⟩) | ((with_reducible refine gate_callee (f := 64) rfl ?_); refine goesL_ (some 7) rfl rfl Try.func64 (by kernel_rfl) rfl #[.slice A0 l0.length c0] rfl (by (try simp only [List.map_toArray, List.map_cons, List.map_nil]); first | done | rfl | (simp only [List.length_drop, List.length_take]; rfl)) ?_; (with_reducible refine (mult_identity.calls k _ _ l0 t121 _ ?side1 ?side2 A4.out).mono ?_); (case side1 => repeat (first | exact HR0.out | (with_reducible refine Kd.C_alloc ?_ _) | (with_reducible refine Kd.C_drewN ?_ _) | (with_reducible refine Kd.C_drew ?_))); (case side2 => exact HC0.out); rintro e w' ⟨rfl, ⟨nd, rfl⟩⟩; refine ⟨_, rfl, ?_⟩))
  go_ret
  exact ⟨by first | rfl | (simp; done) | (simp [*]; done), by repeat (first | exact Drawn0.refl _ | apply Drawn0.step)⟩
 ·rw [if_neg c3] at H
  have c3b0 : (t120 == 0) = false := beq_eq_false_iff_ne.mpr c3
  have c3b1 : (t120 != 0) = true := bne_iff_ne.mpr c3
  obtain rfl := Option.some.inj H
  go_enter Try.func20, Try.ntmps20
  go_wp2_with (first | ((with_reducible refine gate_callee (f := 19) rfl ?_); refine goesL_ (some 4) rfl rfl Try.func19 (by kernel_rfl) rfl #[.slice A0 l0.length c0] rfl (by (try simp only [List.map_toArray, List.map_cons, List.map_nil]); first | done | rfl | (simp only [List.length_drop, List.length_take]; rfl)) ?_; (with_reducible refine (mult_Validate.calls k _ _ l0 t120 _ ?side1 ?side2 A2.out).mono ?_); (case side1 => repeat (first | exact HR0.out | (with_reducible refine Kd.C_alloc ?_ _) | (with_reducible refine Kd.C_drewN ?_ _) | (with_reducible refine Kd.C_drew ?_))); (case side2 => exact HC0.out); rintro e w' ⟨rfl, ⟨nd, rfl⟩⟩; refine ⟨_, rfl, ?_⟩))
  go_ret
  exact ⟨by first | rfl | (simp; done) | (simp [*]; done), by repeat (first | exact Drawn0.refl _ | apply Drawn0.step)⟩

/-! ### mult_Zero: function 21 -/
mutual
def mult_Zero.l0 : Nat → List (List Int) → Int → Int → Option (Int)
 | 0, _, _, _ => none
 | k + 1, x0, x10, x11 => if x11 < x10 then (mult_Zero.l1 k x0 x11 true x10 x11 (x0.length : Int) 0) else (some (-1))
def mult_Zero.l1 : Nat → List (List Int) → Int → Bool → Int → Int → Int → Int → Option (Int)
 | 0, _, _, _, _, _, _, _ => none
 | k + 1, x0, x3, x4, x10, x11, x15, x16 => if x16 < x15 then (if x4 = true then (if 0 ≤ x3 then (if x3 < (x0.length : Int) then (if 0 ≤ x16 then (if x16 < ((rd_L1 x0 x3).length : Int) then (if (rd (rd_L1 x0 x3) x16) = x3 then (if x16 < (x0.length : Int) then (if x3 < ((rd_L1 x0 x16).length : Int) then (mult_Zero.l1 k x0 x3 ((rd (rd_L1 x0 x16) x3) == x3) x10 x11 x15 (wrap64 (x16 + 1))) else (none)) else (none)) else (mult_Zero.l1 k x0 x3 false x10 x11 x15 (wrap64 (x16 + 1)))) else (none)) else (none)) else (none)) else (none)) else (mult_Zero.l1 k x0 x3 false x10 x11 x15 (wrap64 (x16 + 1)))) else (if x4 = true then (some x3) else (mult_Zero.l0 k x0 x10 (wrap64 (x11 + 1))))
end
def mult_Zero.f (k : Nat) (l0 : List (List Int)) : Option (Int) := (mult_Validate.f k l0).bind fun t122 => (if t122 = 0 then (mult_Zero.l0 k l0 (l0.length : Int) 0) else (some (-1)))
theorem mult_Zero.mono_l : ∀ k, (∀ y0 y1 y2, LeO (mult_Zero.l0 k y0 y1 y2) (mult_Zero.l0 (k + 1) y0 y1 y2)) ∧ (∀ y0 y1 y2 y3 y4 y5 y6, LeO (mult_Zero.l1 k y0 y1 y2 y3 y4 y5 y6) (mult_Zero.l1 (k + 1) y0 y1 y2 y3 y4 y5 y6))
 | 0 => ⟨fun _ _ _ r h => by simp [mult_Zero.l0] at h, fun _ _ _ _ _ _ _ r h => by simp [mult_Zero.l1] at h⟩
 | k + 1 => by
  obtain ⟨ih0, ih1⟩ := mult_Zero.mono_l k
  refine ⟨?_, ?_⟩
  ·intro y0 y1 y2
   unfold mult_Zero.l0
   repeat' first
   | (with_reducible exact ih0 _ _ _)
   | (with_reducible exact ih1 _ _ _ _ _ _ _)
   | (with_reducible exact mult_Validate.mono _ _)
   | (with_reducible exact LeO.refl _)
   | (with_reducible exact LeO.none _)
   | (with_reducible refine LeO.ite ?_ ?_)
   | (with_reducible refine LeO.bind ?_ (fun _ => ?_))
   | exact ih0 _ _ _
   | exact ih1 _ _ _ _ _ _ _
   | exact mult_Validate.mono _ _
   | exact LeO.none _
   | refine LeO.ite ?_ ?_
   | refine LeO.bind ?_ (fun _ => ?_)
  ·intro y0 y1 y2 y3 y4 y5 y6
   unfold mult_Zero.l1
   repeat' first
   | (with_reducible exact ih0 _ _ _)
   | (with_reducible exact ih1 _ _ _ _ _ _ _)
   | (with_reducible exact mult_Validate.mono _ _)
   | (with_reducible exact LeO.refl _)
   | (with_reducible exact LeO.none _)
   | (with_reducible refine LeO.ite ?_ ?_)
   | (with_reducible refine LeO.bind ?_ (fun _ => ?_))
   | exact ih0 _ _ _
   | exact ih1 _ _ _ _ _ _ _
   | exact mult_Validate.mono _ _
   | exact LeO.none _
   | refine LeO.ite ?_ ?_
   | refine LeO.bind ?_ (fun _ => ?_)
theorem mult_Zero.mono : ∀ a0 k, LeO (mult_Zero.f k a0) (mult_Zero.f (k + 1) a0) := by
 intro a0 k
 obtain ⟨ih0, ih1⟩ := mult_Zero.mono_l k
 unfold mult_Zero.f
 repeat' first
   | (with_reducible exact ih0 _ _ _)
   | (with_reducible exact ih1 _ _ _ _ _ _ _)
   | (with_reducible exact mult_Validate.mono _ _)
   | (with_reducible exact LeO.refl _)
   | (with_reducible exact LeO.none _)
   | (with_reducible refine LeO.ite ?_ ?_)
   | (with_reducible refine LeO.bind ?_ (fun _ => ?_))
   | exact ih0 _ _ _
   | exact ih1 _ _ _ _ _ _ _
   | exact mult_Validate.mono _ _
   | exact LeO.none _
   | refine LeO.ite ?_ ?_
   | refine LeO.bind ?_ (fun _ => ?_)
set_option maxHeartbeats 8000000 in
set_option maxRecDepth 100000 in
theorem mult_Zero.calls (k : Nat) (A0 : Option Addr) (c0 : Nat) (l0 : List (List Int)) (r : Int) (w : World) (hr0 : Kd.C (Kd.slice 3 (Kd.int .i64)) w A0 l0.length l0) (hc0 : l0.length ≤ c0) (h : mult_Zero.f k l0 = some r) :
  Calls Try.prog 21 #[.slice A0 l0.length c0] w fun e w' => e = .returned (.int .i64 r) ∧ Drawn0 w w' := by
 have HR0 := Aside0.mk hr0
 have HC0 := Aside0.mk hc0
 (try clear hr0); (try clear hc0)
 have H : ((mult_Validate.f k l0).bind fun t122 => (if t122 = 0 then (mult_Zero.l0 k l0 (l0.length : Int) 0) else (some (-1)))) = some r := h
 clear h
 replace H := Option.bind_eq_some_iff.mp H
 obtain ⟨t122, A20, H⟩ := H
 replace H : (if t122 = 0 then (mult_Zero.l0 k l0 (l0.length : Int) 0) else (some (-1))) = some r := H
 have A2 := Aside0.mk A20
 clear A20
 by_cases c3 : t122 = 0
 ·rw [if_pos c3] at H
  have c3b0 : (t122 == 0) = true := beq_iff_eq.mpr c3
  have c3b1 : (t122 != 0) = false := bne_eq_false_iff_eq.mpr c3
  clear c3
  have H' := Aside0.mk H
  clear H
  go_enter Try.func21, Try.ntmps21
  go_wp2_with (first | ((with_reducible refine gate_callee (f := 19) rfl ?_); refine goesL_ (some 7) rfl rfl Try.func19 (by kernel_rfl) rfl #[.slice A0 l0.length c0] rfl (by (try simp only [List.map_toArray, List.map_cons, List.map_nil]); first | done | rfl | (simp only [List.length_drop, List.length_take]; rfl)) ?_; (with_reducible refine (mult_Validate.calls k _ _ l0 t122 _ ?side1 ?side2 A2.out).mono ?_); (case side1 => repeat (first | exact HR0.out | (with_reducible refine Kd.C_alloc ?_ _) | (with_reducible refine Kd.C_drewN ?_ _) | (with_reducible refine Kd.C_drew ?_))); (case side2 => exact HC0.out); rintro e w' ⟨rfl, ⟨nd, rfl⟩⟩; refine ⟨_, rfl, ?_⟩))
  go_loopg [11] k (fun kq v11 w' => ∃ (x11_1 : Int), v11 = .int .i64 x11_1 ∧ Aside0 (mult_Zero.l0 kq l0 (l0.length : Int) x11_1 = some r) ∧ Aside0 (kq ≤ k) ∧ Drawn0 w w')
  case atStart => exact ⟨(0), (by first | rfl | (simp; done) | (simp [*]; done)), H', ⟨Nat.le_refl _⟩, by repeat (first | exact Drawn0.refl _ | apply Drawn0.step)⟩
  case round =>
   clear H'
   try clear c1
   try clear c2
   try clear p2
   try clear c3
   try clear c3b0
   try clear c3b1
   obtain ⟨x11_1, rfl, HA, HK1, ⟨m1, rfl⟩⟩ := hrel
   cases gk with
   | zero => exact absurd HA.out (by simp [mult_Zero.l0])
   | succ k1 =>
    have H := HA.out
    clear HA
    simp only [mult_Zero.l0] at H
    by_cases c4 : x11_1 < (l0.length : Int)
    ·rw [if_pos c4] at H
     have c4b0 : decide (x11_1 < (l0.length : Int)) = true := decide_eq_true c4
     clear c4
     have H' := Aside0.mk H
     clear H
     go_wp2
     go_loopg [4, 16] k1 (fun kq v4 v16 w' => ∃ (x4_2 : Bool) (x16_2 : Int), v4 = .bool x4_2 ∧ v16 = .int .i64 x16_2 ∧ Aside0 (mult_Zero.l1 kq l0 x11_1 x4_2 (l0.length : Int) x11_1 (l0.length : Int) x16_2 = some r) ∧ Aside0 (kq ≤ k1) ∧ Drawn0 w w')
     case atStart => exact ⟨(true), (0), (by first | rfl | (simp; done) | (simp [*]; done)), (by first | rfl | (simp; done) | (simp [*]; done)), H', ⟨Nat.le_refl _⟩, by repeat (first | exact Drawn0.refl _ | apply Drawn0.step)⟩
     case round =>
      clear H'
      try clear c1
      try clear c2
      try clear p2
      try clear c3
      try clear c3b0
      try clear c3b1
      try clear c4
      try clear c4b0
      try clear p2
      obtain ⟨x4_2, x16_2, rfl, rfl, HA, HK2, ⟨m2, rfl⟩⟩ := hrel
      cases gk with
      | zero => exact absurd HA.out (by simp [mult_Zero.l1])
      | succ k2 =>
       have H := HA.out
       clear HA
       simp only [mult_Zero.l1] at H
       by_cases c5 : x16_2 < (l0.length : Int)
       ·rw [if_pos c5] at H
        have c5b0 : decide (x16_2 < (l0.length : Int)) = true := decide_eq_true c5
        clear c5
        by_cases c6 : x4_2 = true
        ·subst c6
         have H1 : (if 0 ≤ x11_1 then (if x11_1 < (l0.length : Int) then (if 0 ≤ x16_2 then (if x16_2 < ((rd_L1 l0 x11_1).length : Int) then (if (rd (rd_L1 l0 x11_1) x16_2) = x11_1 then (if x16_2 < (l0.length : Int) then (if x11_1 < ((rd_L1 l0 x16_2).length : Int) then (mult_Zero.l1 k2 l0 x11_1 ((rd (rd_L1 l0 x16_2) x11_1) == x11_1) (l0.length : Int) x11_1 (l0.length : Int) (wrap64 (x16_2 + 1))) else (none)) else (none)) else (mult_Zero.l1 k2 l0 x11_1 false (l0.length : Int) x11_1 (l0.length : Int) (wrap64 (x16_2 + 1)))) else (none)) else (none)) else (none)) else (none)) = some r := by rw [if_pos rfl] at H; exact H
         clear H
         have H := H1
         clear H1
         by_cases c7 : 0 ≤ x11_1
         ·rw [if_pos c7] at H
          have c7b0 : decide (0 ≤ x11_1) = true := decide_eq_true c7
          clear c7
          by_cases c8 : x11_1 < (l0.length : Int)
          ·rw [if_pos c8] at H
           have c8b0 : decide (x11_1 < (l0.length : Int)) = true := decide_eq_true c8
           clear c8
           by_cases c9 : 0 ≤ x16_2
           ·rw [if_pos c9] at H
            have c9b0 : decide (0 ≤ x16_2) = true := decide_eq_true c9
            clear c9
            by_cases c10 : x16_2 < ((rd_L1 l0 x11_1).length : Int)
            ·rw [if_pos c10] at H
             have c10b0 : decide (x16_2 < ((rd_L1 l0 x11_1).length : Int)) = true := decide_eq_true c10
             clear c10
             by_cases c11 : (rd (rd_L1 l0 x11_1) x16_2) = x11_1
             ·rw [if_pos c11] at H
              have c11b0 : ((rd (rd_L1 l0 x11_1) x16_2) == x11_1) = true := beq_iff_eq.mpr c11
              have c11b1 : ((rd (rd_L1 l0 x11_1) x16_2) != x11_1) = false := bne_eq_false_iff_eq.mpr c11
              clear c11
              by_cases c12 : x16_2 < (l0.length : Int)
              ·rw [if_pos c12] at H
               have c12b0 : decide (x16_2 < (l0.length : Int)) = true := decide_eq_true c12
               clear c12
               by_cases c13 : x11_1 < ((rd_L1 l0 x16_2).length : Int)
               ·rw [if_pos c13] at H
                have c13b0 : decide (x11_1 < ((rd_L1 l0 x16_2).length : Int)) = true := decide_eq_true c13
                clear c13
                have H' := Aside0.mk H
                clear H
                have p123 : 0 ≤ (x11_1 : Int) := of_decide_eq_true (by first | (with_reducible assumption) | assumption)
                have q123 : x11_1 < (l0.length : Int) := of_decide_eq_true (by first | (with_reducible assumption) | assumption)
                obtain ⟨ad123, A123_0, c123_0, e123, hx123_0, hl123_0, hi123_0⟩ := at_L1 HR0.out x11_1 p123 q123
                cases e123
                have HR123_0 := Aside0.mk hi123_0
                have HC123_0 := Aside0.mk hl123_0
                (try clear hi123_0); (try clear hl123_0)
                replace p123 := eq_true p123
                replace q123 := eq_true q123
                have p124 : 0 ≤ (x16_2 : Int) := of_decide_eq_true (by first | (with_reducible assumption) | assumption)
                have q124 : x16_2 < ((rd_L1 l0 x11_1).length : Int) := of_decide_eq_true (by first | (with_reducible assumption) | assumption)
                obtain ⟨ad124, e124, hx124_0⟩ := Kd.at_int HR123_0.out x16_2 p124 q124
                cases e124
                replace p124 := eq_true p124
                replace q124 := eq_true q124
                have p125 : 0 ≤ (x16_2 : Int) := of_decide_eq_true (by first | (with_reducible assumption) | assumption)
                have q125 : x16_2 < (l0.length : Int) := of_decide_eq_true (by first | (with_reducible assumption) | assumption)
                obtain ⟨ad125, A125_0, c125_0, e125, hx125_0, hl125_0, hi125_0⟩ := at_L1 HR0.out x16_2 p125 q125
                obtain rfl : ad123 = ad125 := (by injection e125)
                have HR125_0 := Aside0.mk hi125_0
                have HC125_0 := Aside0.mk hl125_0
                (try clear hi125_0); (try clear hl125_0)
                replace p125 := eq_true p125
                replace q125 := eq_true q125
                have p126 : 0 ≤ (x11_1 : Int) := of_decide_eq_true (by first | (with_reducible assumption) | assumption)
                have q126 : x11_1 < ((rd_L1 l0 x16_2).length : Int) := of_decide_eq_true (by first | (with_reducible assumption) | assumption)
                obtain ⟨ad126, e126, hx126_0⟩ := Kd.at_int HR125_0.out x11_1 p126 q126
                cases e126
                replace p126 := eq_true p126
                replace q126 := eq_true q126
                go_wp2
                go_roundg k2
                case measure => have := HK1.out; have := HK2.out; omega
                case rel => exact ⟨(((rd (rd_L1 l0 x16_2) x11_1) == x11_1)), (wrap64 (x16_2 + 1)), (by first | rfl | (simp; done) | (simp [*]; done)), (by first | rfl | (simp; done) | (simp [*]; done)), H', ⟨by have := HK1.out; have := HK2.out; omega⟩, by repeat (first | exact Drawn0.refl _ | apply Drawn0.step)⟩
               ·rw [if_neg c13] at H
                exact absurd H (by simp)
              ·rw [if_neg c12] at H
               exact absurd H (by simp)
             ·rw [if_neg c11] at H
              have c11b0 : ((rd (rd_L1 l0 x11_1) x16_2) == x11_1) = false := beq_eq_false_iff_ne.mpr c11
              have c11b1 : ((rd (rd_L1 l0 x11_1) x16_2) != x11_1) = true := bne_iff_ne.mpr c11
              have H' := Aside0.mk H
              clear H
              have p123 : 0 ≤ (x11_1 : Int) := of_decide_eq_true (by first | (with_reducible assumption) | assumption)
              have q123 : x11_1 < (l0.length : Int) := of_decide_eq_true (by first | (with_reducible assumption) | assumption)
              obtain ⟨ad123, A123_0, c123_0, e123, hx123_0, hl123_0, hi123_0⟩ := at_L1 HR0.out x11_1 p123 q123
              cases e123
              have HR123_0 := Aside0.mk hi123_0
              have HC123_0 := Aside0.mk hl123_0
              (try clear hi123_0); (try clear hl123_0)
              replace p123 := eq_true p123
              replace q123 := eq_true q123
              have p124 : 0 ≤ (x16_2 : Int) := of_decide_eq_true (by first | (with_reducible assumption) | assumption)
              have q124 : x16_2 < ((rd_L1 l0 x11_1).length : Int) := of_decide_eq_true (by first | (with_reducible assumption) | assumption)
              obtain ⟨ad124, e124, hx124_0⟩ := Kd.at_int HR123_0.out x16_2 p124 q124
              cases e124
              replace p124 := eq_true p124
              replace q124 := eq_true q124
              go_wp2
              go_roundg k2
              case measure => have := HK1.out; have := HK2.out; omega
              case rel => exact ⟨(false), (wrap64 (x16_2 + 1)), (by first | rfl | (simp; done) | (simp [*]; done)), (by first | rfl | (simp; done) | (simp [*]; done)), H', ⟨by have := HK1.out; have := HK2.out; omega⟩, by repeat (first | exact Drawn0.refl _ | apply Drawn0.step)⟩
            ·rw [if_neg c10] at H
             exact absurd H (by simp)
           ·rw [if_neg c9] at H
            exact absurd H (by simp)
          ·rw [if_neg c8] at H
           exact absurd H (by simp)
         ·rw [if_neg c7] at H
          exact absurd H (by simp)
        ·replace c6 := Bool.eq_false_iff.mpr c6
         subst c6
         have H1 : (mult_Zero.l1 k2 l0 x11_1 false (l0.length : Int) x11_1 (l0.length : Int) (wrap64 (x16_2 + 1))) = some r := by rw [if_neg (show ¬ (false = true) by decide)] at H; exact H
         clear H
         have H := H1
         clear H1
         have H' := Aside0.mk H
         clear H
         go_wp2
         go_roundg k2
         case measure => have := HK1.out; have := HK2.out; omega
         case rel => exact ⟨(false), (wrap64 (x16_2 + 1)), (by first | rfl | (simp; done) | (simp [*]; done)), (by first | rfl | (simp; done) | (simp [*]; done)), H', ⟨by have := HK1.out; have := HK2.out; omega⟩, by repeat (first | exact Drawn0.refl _ | apply Drawn0.step)⟩
       ·rw [if_neg c5] at H
        have c5b0 : decide (x16_2 < (l0.length : Int)) = false := decide_eq_false c5
        clear c5
        by_cases c14 : x4_2 = true
        ·subst c14
         have H1 : (some x11_1) = some r := by rw [if_pos rfl] at H; exact H
         clear H
         have H := H1
         clear H1
         obtain rfl := Option.some.inj H
         go_wp2
         go_ret
         exact ⟨by first | rfl | (simp; done) | (simp [*]; done), by repeat (first | exact Drawn0.refl _ | apply Drawn0.step)⟩
        ·replace c14 := Bool.eq_false_iff.mpr c14
         subst c14
         have H1 : (mult_Zero.l0 k2 l0 (l0.length : Int) (wrap64 (x11_1 + 1))) = some r := by rw [if_neg (show ¬ (false = true) by decide)] at H; exact H
         clear H
         have H := H1
         clear H1
         have H' := Aside0.mk H
         clear H
         go_wp2
         go_roundg k2
         case measure => have := HK1.out; have := HK2.out; omega
         case rel => exact ⟨(wrap64 (x11_1 + 1)), (by first | rfl | (simp; done) | (simp [*]; done)), H', ⟨by have := HK1.out; have := HK2.out; omega⟩, by repeat (first | exact Drawn0.refl _ | apply Drawn0.step)⟩
    ·rw [if_neg c4] at H
     have c4b0 : decide (x11_1 < (l0.length : Int)) = false := decide_eq_false c4
     clear c4
     obtain rfl := Option.some.inj H
     go_wp2
     go_ret
     exact ⟨by first | rfl | (simp; done) | (simp [*]; done), by repeat (first | exact Drawn0.refl _ | apply Drawn0.step)⟩
 ·rw [if_neg c3] at H
  have c3b0 : (t122 == 0) = false := beq_eq_false_iff_ne.mpr c3
  have c3b1 : (t122 != 0) = true := bne_iff_ne.mpr c3
  obtain rfl := Option.some.inj H
  go_enter Try.func21, Try.ntmps21
  go_wp2_with (first | ((with_reducible refine gate_callee (f := 19) rfl ?_); refine goesL_ (some 7) rfl rfl Try.func19 (by kernel_rfl) rfl #[.slice A0 l0.length c0] rfl (by (try simp only [List.map_toArray, List.map_cons, List.map_nil]); first | done | rfl | (simp only [List.length_drop, List.length_take]; rfl)) ?_; (with_reducible refine (mult_Validate.calls k _ _ l0 t122 _ ?side1 ?side2 A2.out).mono ?_); (case side1 => repeat (first | exact HR0.out | (with_reducible refine Kd.C_alloc ?_ _) | (with_reducible refine Kd.C_drewN ?_ _) | (with_reducible refine Kd.C_drew ?_))); (case side2 => exact HC0.out); rintro e w' ⟨rfl, ⟨nd, rfl⟩⟩; refine ⟨_, rfl, ?_⟩))
  go_ret
  exact ⟨by first | rfl | (simp; done) | (simp [*]; done), by repeat (first | exact Drawn0.refl _ | apply Drawn0.step)⟩

/-! ### mult_power: function 66 -/
def mult_power.l0 : Nat → List (List Int) → Int → Int → Int → Option (Int)
 | 0, _, _, _, _ => none
 | k + 1, x0, x1, x2, x7 => if x2 > 0 then (if (Int.tmod x2 2) = 1 then (if x7 < 0 then (if 0 ≤ x1 then (if x1 < (x0.length : Int) then (if x1 < ((rd_L1 x0 x1).length : Int) then (mult_power.l0 k x0 (rd (rd_L1 x0 x1) x1) (wrap64 (Int.tdiv x2 2)) x1) else (none)) else (none)) else (none)) else (if 0 ≤ x7 then (if x7 < (x0.length : Int) then (if 0 ≤ x1 then (if x1 < ((rd_L1 x0 x7).length : Int) then (if x1 < (x0.length : Int) then (if x1 < ((rd_L1 x0 x1).length : Int) then (mult_power.l0 k x0 (rd (rd_L1 x0 x1) x1) (wrap64 (Int.tdiv x2 2)) (rd (rd_L1 x0 x7) x1)) else (none)) else (none)) else (none)) else (none)) else (none)) else (none))) else (if 0 ≤ x1 then (if x1 < (x0.length : Int) then (if x1 < ((rd_L1 x0 x1).length : Int) then (mult_power.l0 k x0 (rd (rd_L1 x0 x1) x1) (wrap64 (Int.tdiv x2 2)) x7) else (none)) else (none)) else (none))) else (some x7)
def mult_power.f (k : Nat) (l0 : List (List Int)) (a1 : Int) (a2 : Int) : Option (Int) := mult_power.l0 k l0 a1 a2 (-1)
theorem mult_power.mono_l : ∀ k, (∀ y0 y1 y2 y3, LeO (mult_power.l0 k y0 y1 y2 y3) (mult_power.l0 (k + 1) y0 y1 y2 y3))
 | 0 => fun _ _ _ _ r h => by simp [mult_power.l0] at h
 | k + 1 => by
  have ih0 := mult_power.mono_l k
  ·intro y0 y1 y2 y3
   unfold mult_power.l0
   repeat' first
   | (with_reducible exact ih0 _ _ _ _)
   | (with_reducible exact LeO.refl _)
   | (with_reducible exact LeO.none _)
   | (with_reducible refine LeO.ite ?_ ?_)
   | (with_reducible refine LeO.bind ?_ (fun _ => ?_))
   | exact ih0 _ _ _ _
   | exact LeO.none _
   | refine LeO.ite ?_ ?_
   | refine LeO.bind ?_ (fun _ => ?_)
theorem mult_power.mono : ∀ a0 a1 a2 k, LeO (mult_power.f k a0 a1 a2) (mult_power.f (k + 1) a0 a1 a2) := by
 intro a0 a1 a2 k
 have ih0 := mult_power.mono_l k
 unfold mult_power.f
 repeat' first
   | (with_reducible exact ih0 _ _ _ _)
   | (with_reducible exact LeO.refl _)
   | (with_reducible exact LeO.none _)
   | (with_reducible refine LeO.ite ?_ ?_)
   | (with_reducible refine LeO.bind ?_ (fun _ => ?_))
   | exact ih0 _ _ _ _
   | exact LeO.none _
   | refine LeO.ite ?_ ?_
   | refine LeO.bind ?_ (fun _ => ?_)
set_option maxHeartbeats 8000000 in
set_option maxRecDepth 100000 in
theorem mult_power.calls (k : Nat) (A0 : Option Addr) (c0 : Nat) (l0 : List (List Int)) (a1 : Int) (a2 : Int) (r : Int) (w : World) (hr0 : Kd.C (Kd.slice 3 (Kd.int .i64)) w A0 l0.length l0) (hc0 : l0.length ≤ c0) (h : mult_power.f k l0 a1 a2 = some r) :
  Calls Try.prog 66 #[.slice A0 l0.length c0, .int .i64 a1, .int .i64 a2] w fun e w' => e = .returned (.int .i64 r) ∧ Drawn0 w w' := by
 have HR0 := Aside0.mk hr0
 have HC0 := Aside0.mk hc0
 (try clear hr0); (try clear hc0)
 have H : (mult_power.l0 k l0 a1 a2 (-1)) = some r := h
 clear h
 have H' := Aside0.mk H
 clear H
 go_enter Try.func66, Try.ntmps66
 go_wp2
 go_loopg [1, 2, 7] k (fun kq v1 v2 v7 w' => ∃ (x1_1 : Int) (x2_1 : Int) (x7_1 : Int), v1 = .int .i64 x1_1 ∧ v2 = .int .i64 x2_1 ∧ v7 = .int .i64 x7_1 ∧ Aside0 (mult_power.l0 kq l0 x1_1 x2_1 x7_1 = some r) ∧ Aside0 (kq ≤ k) ∧ Drawn0 w w')
 case atStart => exact ⟨(a1), (a2), ((-1)), (by first | rfl | (simp; done) | (simp [*]; done)), (by first | rfl | (simp; done) | (simp [*]; done)), (by first | rfl | (simp; done) | (simp [*]; done)), H', ⟨Nat.le_refl _⟩, by repeat (first | exact Drawn0.refl _ | apply Drawn0.step)⟩
 case round =>
  clear H'
  try clear p2
  obtain ⟨x1_1, x2_1, x7_1, rfl, rfl, rfl, HA, HK1, ⟨m1, rfl⟩⟩ := hrel
  cases gk with
  | zero => exact absurd HA.out (by simp [mult_power.l0])
  | succ k1 =>
   have H := HA.out
   clear HA
   simp only [mult_power.l0] at H
   by_cases c4 : x2_1 > 0
   ·rw [if_pos c4] at H
    have c4b0 : decide (0 < x2_1) = true := decide_eq_true c4
    clear c4
    by_cases c5 : (Int.tmod x2_1 2) = 1
    ·rw [if_pos c5] at H
     have c5b0 : ((Int.tmod x2_1 2) == 1) = true := beq_iff_eq.mpr c5
     have c5b1 : ((Int.tmod x2_1 2) != 1) = false := bne_eq_false_iff_eq.mpr c5
     clear c5
     by_cases c6 : x7_1 < 0
     ·rw [if_pos c6] at H
      have c6b0 : decide (x7_1 < 0) = true := decide_eq_true c6
      clear c6
      by_cases c7 : 0 ≤ x1_1
      ·rw [if_pos c7] at H
       have c7b0 : decide (0 ≤ x1_1) = true := decide_eq_true c7
       clear c7
       by_cases c8 : x1_1 < (l0.length : Int)
       ·rw [if_pos c8] at H
        have c8b0 : decide (x1_1 < (l0.length : Int)) = true := decide_eq_true c8
        clear c8
        by_cases c9 : x1_1 < ((rd_L1 l0 x1_1).length : Int)
        ·rw [if_pos c9] at H
         have c9b0 : decide (x1_1 < ((rd_L1 l0 x1_1).length : Int)) = true := decide_eq_true c9
         clear c9
         have H' := Aside0.mk H
         clear H
         have p127 : 0 ≤ (x1_1 : Int) := of_decide_eq_true (by first | (with_reducible assumption) | assumption)
         have q127 : x1_1 < (l0.length : Int) := of_decide_eq_true (by first | (with_reducible assumption) | assumption)
         obtain ⟨ad127, A127_0, c127_0, e127, hx127_0, hl127_0, hi127_0⟩ := at_L1 HR0.out x1_1 p127 q127
         cases e127
         have HR127_0 := Aside0.mk hi127_0
         have HC127_0 := Aside0.mk hl127_0
         (try clear hi127_0); (try clear hl127_0)
         replace p127 := eq_true p127
         replace q127 := eq_true q127
         have p128 : 0 ≤ (x1_1 : Int) := of_decide_eq_true (by first | (with_reducible assumption) | assumption)
         have q128 : x1_1 < ((rd_L1 l0 x1_1).length : Int) := of_decide_eq_true (by first | (with_reducible assumption) | assumption)
         obtain ⟨ad128, e128, hx128_0⟩ := Kd.at_int HR127_0.out x1_1 p128 q128
         cases e128
         replace p128 := eq_true p128
         replace q128 := eq_true q128
         go_wp2
         go_roundg k1
         case measure => have := HK1.out; omega
         case rel => exact ⟨(rd (rd_L1 l0 x1_1) x1_1), (wrap64 (Int.tdiv x2_1 2)), (x1_1), (by first | rfl | (simp; done) | (simp [*]; done)), (by first | rfl | (simp; done) | (simp [*]; done)), (by first | rfl | (simp; done) | (simp [*]; done)), H', ⟨by have := HK1.out; omega⟩, by repeat (first | exact Drawn0.refl _ | apply Drawn0.step)⟩
        ·rw [if_neg c9] at H
         exact absurd H (by simp)
       ·rw [if_neg c8] at H
        exact absurd H (by simp)
      ·rw [if_neg c7] at H
       exact absurd H (by simp)
     ·rw [if_neg c6] at H
      have c6b0 : decide (x7_1 < 0) = false := decide_eq_false c6
      clear c6
      by_cases c10 : 0 ≤ x7_1
      ·rw [if_pos c10] at H
       have c10b0 : decide (0 ≤ x7_1) = true := decide_eq_true c10
       clear c10
       by_cases c11 : x7_1 < (l0.length : Int)
       ·rw [if_pos c11] at H
        have c11b0 : decide (x7_1 < (l0.length : Int)) = true := decide_eq_true c11
        clear c11
        by_cases c12 : 0 ≤ x1_1
        ·rw [if_pos c12] at H
         have c12b0 : decide (0 ≤ x1_1) = true := decide_eq_true c12
         clear c12
         by_cases c13 : x1_1 < ((rd_L1 l0 x7_1).length : Int)
         ·rw [if_pos c13] at H
          have c13b0 : decide (x1_1 < ((rd_L1 l0 x7_1).length : Int)) = true := decide_eq_true c13
          clear c13
          by_cases c14 : x1_1 < (l0.length : Int)
          ·rw [if_pos c14] at H
           have c14b0 : decide (x1_1 < (l0.length : Int)) = true := decide_eq_true c14
           clear c14
           by_cases c15 : x1_1 < ((rd_L1 l0 x1_1).length : Int)
           ·rw [if_pos c15] at H
            have c15b0 : decide (x1_1 < ((rd_L1 l0 x1_1).length : Int)) = true := decide_eq_true c15
            clear c15
            have H' := Aside0.mk H
            clear H
            have p129 : 0 ≤ (x7_1 : Int) := of_decide_eq_true (by first | (with_reducible assumption) | assumption)
            have q129 : x7_1 < (l0.length : Int) := of_decide_eq_true (by first | (with_reducible assumption) | assumption)
            obtain ⟨ad129, A129_0, c129_0, e129, hx129_0, hl129_0, hi129_0⟩ := at_L1 HR0.out x7_1 p129 q129
            cases e129
            have HR129_0 := Aside0.mk hi129_0
            have HC129_0 := Aside0.mk hl129_0
            (try clear hi129_0); (try clear hl129_0)
            replace p129 := eq_true p129
            replace q129 := eq_true q129
            have p130 : 0 ≤ (x1_1 : Int) := of_decide_eq_true (by first | (with_reducible assumption) | assumption)
            have q130 : x1_1 < ((rd_L1 l0 x7_1).length : Int) := of_decide_eq_true (by first | (with_reducible assumption) | assumption)
            obtain ⟨ad130, e130, hx130_0⟩ := Kd.at_int HR129_0.out x1_1 p130 q130
            cases e130
            replace p130 := eq_true p130
            replace q130 := eq_true q130
            have p131 : 0 ≤ (x1_1 : Int) := of_decide_eq_true (by first | (with_reducible assumption) | assumption)
            have q131 : x1_1 < (l0.length : Int) := of_decide_eq_true (by first | (with_reducible assumption) | assumption)
            obtain ⟨ad131, A131_0, c131_0, e131, hx131_0, hl131_0, hi131_0⟩ := at_L1 HR0.out x1_1 p131 q131
            obtain rfl : ad129 = ad131 := (by injection e131)
            have HR131_0 := Aside0.mk hi131_0
            have HC131_0 := Aside0.mk hl131_0
            (try clear hi131_0); (try clear hl131_0)
            replace p131 := eq_true p131
            replace q131 := eq_true q131
            have p132 : 0 ≤ (x1_1 : Int) := of_decide_eq_true (by first | (with_reducible assumption) | assumption)
            have q132 : x1_1 < ((rd_L1 l0 x1_1).length : Int) := of_decide_eq_true (by first | (with_reducible assumption) | assumption)
            obtain ⟨ad132, e132, hx132_0⟩ := Kd.at_int HR131_0.out x1_1 p132 q132
            cases e132
            replace p132 := eq_true p132
            replace q132 := eq_true q132
            go_wp2
            go_roundg k1
            case measure => have := HK1.out; omega
            case rel => exact ⟨(rd (rd_L1 l0 x1_1) x1_1), (wrap64 (Int.tdiv x2_1 2)), (rd (rd_L1 l0 x7_1) x1_1), (by first | rfl | (simp; done) | (simp [*]; done)), (by first | rfl | (simp; done) | (simp [*]; done)), (by first | rfl | (simp; done) | (simp [*]; done)), H', ⟨by have := HK1.out; omega⟩, by repeat (first | exact Drawn0.refl _ | apply Drawn0.step)⟩
           ·rw [if_neg c15] at H
            exact absurd H (by simp)
          ·rw [if_neg c14] at H
           exact absurd H (by simp)
         ·rw [if_neg c13] at H
          exact absurd H (by simp)
        ·rw [if_neg c12] at H
         exact absurd H (by simp)
       ·rw [if_neg c11] at H
        exact absurd H (by simp)
      ·rw [if_neg c10] at H
       exact absurd H (by simp)
    ·rw [if_neg c5] at H
     have c5b0 : ((Int.tmod x2_1 2) == 1) = false := beq_eq_false_iff_ne.mpr c5
     have c5b1 : ((Int.tmod x2_1 2) != 1) = true := bne_iff_ne.mpr c5
     by_cases c16 : 0 ≤ x1_1
     ·rw [if_pos c16] at H
      have c16b0 : decide (0 ≤ x1_1) = true := decide_eq_true c16
      clear c16
      by_cases c17 : x1_1 < (l0.length : Int)
      ·rw [if_pos c17] at H
       have c17b0 : decide (x1_1 < (l0.length : Int)) = true := decide_eq_true c17
       clear c17
       by_cases c18 : x1_1 < ((rd_L1 l0 x1_1).length : Int)
       ·rw [if_pos c18] at H
        have c18b0 : decide (x1_1 < ((rd_L1 l0 x1_1).length : Int)) = true := decide_eq_true c18
        clear c18
        have H' := Aside0.mk H
        clear H
        have p133 : 0 ≤ (x1_1 : Int) := of_decide_eq_true (by first | (with_reducible assumption) | assumption)
        have q133 : x1_1 < (l0.length : Int) := of_decide_eq_true (by first | (with_reducible assumption) | assumption)
        obtain ⟨ad133, A133_0, c133_0, e133, hx133_0, hl133_0, hi133_0⟩ := at_L1 HR0.out x1_1 p133 q133
        cases e133
        have HR133_0 := Aside0.mk hi133_0
        have HC133_0 := Aside0.mk hl133_0
        (try clear hi133_0); (try clear hl133_0)
        replace p133 := eq_true p133
        replace q133 := eq_true q133
        have p134 : 0 ≤ (x1_1 : Int) := of_decide_eq_true (by first | (with_reducible assumption) | assumption)
        have q134 : x1_1 < ((rd_L1 l0 x1_1).length : Int) := of_decide_eq_true (by first | (with_reducible assumption) | assumption)
        obtain ⟨ad134, e134, hx134_0⟩ := Kd.at_int HR133_0.out x1_1 p134 q134
        cases e134
        replace p134 := eq_true p134
        replace q134 := eq_true q134
        go_wp2
        go_roundg k1
        case measure => have := HK1.out; omega
        case rel => exact ⟨(rd (rd_L1 l0 x1_1) x1_1), (wrap64 (Int.tdiv x2_1 2)), (x7_1), (by first | rfl | (simp; done) | (simp [*]; done)), (by first | rfl | (simp; done) | (simp [*]; done)), (by first | rfl | (simp; done) | (simp [*]; done)), H', ⟨by have := HK1.out; omega⟩, by repeat (first | exact Drawn0.refl _ | apply Drawn0.step)⟩
       ·rw [if_neg c18] at H
        exact absurd H (by simp)
      ·rw [if_neg c17] at H
       exact absurd H (by simp)
     ·rw [if_neg c16] at H
      exact absurd H (by simp)
   ·rw [if_neg c4] at H
    have c4b0 : decide (0 < x2_1) = false := decide_eq_false c4
    clear c4
    obtain rfl := Option.some.inj H
    go_wp2
    go_ret
    exact ⟨by first | rfl | (simp; done) | (simp [*]; done), by repeat (first | exact Drawn0.refl _ | apply Drawn0.step)⟩

/-! ### mult_indexPeriod: function 67 -/
def mult_indexPeriod.l0 : Nat → List (List Int) → Int → List Int → Int → Int → Option (Int × Int)
 | 0, _, _, _, _, _ => none
 | k + 1, x0, x1, x6, x7, x8 => if 0 ≤ x7 then (if x7 < (x6.length : Int) then (if (rd x6 x7) = 0 then (if x7 < (x0.length : Int) then (if 0 ≤ x1 then (if x1 < ((rd_L1 x0 x7).length : Int) then (mult_indexPeriod.l0 k x0 x1 (x6.set (x7 : Int).toNat x8) (rd (rd_L1 x0 x7) x1) (wrap64 (x8 + 1))) else (none)) else (none)) else (none)) else (some (rd x6 x7, wrap64 (x8 - (rd x6 x7))))) else (none)) else (none)
def mult_indexPeriod.f (k : Nat) (l0 : List (List Int)) (a1 : Int) : Option (Int × Int) := if 0 ≤ (l0.length : Int) then (if ((l0.length : Int) : Int).toNat ≤ 35184372088832 then (mult_indexPeriod.l0 k l0 a1 (List.replicate ((l0.length : Int) : Int).toNat 0) a1 1) else (none)) else (none)
theorem mult_indexPeriod.mono_l : ∀ k, (∀ y0 y1 y2 y3 y4, LeO (mult_indexPeriod.l0 k y0 y1 y2 y3 y4) (mult_indexPeriod.l0 (k + 1) y0 y1 y2 y3 y4))
 | 0 => fun _ _ _ _ _ r h => by simp [mult_indexPeriod.l0] at h
 | k + 1 => by
  have ih0 := mult_indexPeriod.mono_l k
  ·intro y0 y1 y2 y3 y4
   unfold mult_indexPeriod.l0
   repeat' first
   | (with_reducible exact ih0 _ _ _ _ _)
   | (with_reducible exact LeO.refl _)
   | (with_reducible exact LeO.none _)
   | (with_reducible refine LeO.ite ?_ ?_)
   | (with_reducible refine LeO.bind ?_ (fun _ => ?_))
   | exact ih0 _ _ _ _ _
   | exact LeO.none _
   | refine LeO.ite ?_ ?_
   | refine LeO.bind ?_ (fun _ => ?_)
theorem mult_indexPeriod.mono : ∀ a0 a1 k, LeO (mult_indexPeriod.f k a0 a1) (mult_indexPeriod.f (k + 1) a0 a1) := by
 intro a0 a1 k
 have ih0 := mult_indexPeriod.mono_l k
 unfold mult_indexPeriod.f
 repeat' first
   | (with_reducible exact ih0 _ _ _ _ _)
   | (with_reducible exact LeO.refl _)
   | (with_reducible exact LeO.none _)
   | (with_reducible refine LeO.ite ?_ ?_)
   | (with_reducible refine LeO.bind ?_ (fun _ => ?_))
   | exact ih0 _ _ _ _ _
   | exact LeO.none _
   | refine LeO.ite ?_ ?_
   | refine LeO.bind ?_ (fun _ => ?_)
set_option maxHeartbeats 8000000 in
set_option maxRecDepth 100000 in
theorem mult_indexPeriod.calls (k : Nat) (A0 : Option Addr) (c0 : Nat) (l0 : List (List Int)) (a1 : Int) (r1 : Int) (r2 : Int) (w : World) (hr0 : Kd.C (Kd.slice 3 (Kd.int .i64)) w A0 l0.length l0) (hc0 : l0.length ≤ c0) (h : mult_indexPeriod.f k l0 a1 = some (r1, r2)) :
  Calls Try.prog 67 #[.slice A0 l0.length c0, .int .i64 a1] w fun e w' => e = .returned (.tuple #[.int .i64 r1, .int .i64 r2]) ∧ Below w.heap.size w w' := by
 have HR0 := Aside0.mk hr0
 have HC0 := Aside0.mk hc0
 (try clear hr0); (try clear hc0)
 have HB := Aside0.mk (Below.refl w.heap.size w)
 have H : (if 0 ≤ (l0.length : Int) then (if ((l0.length : Int) : Int).toNat ≤ 35184372088832 then (mult_indexPeriod.l0 k l0 a1 (List.replicate ((l0.length : Int) : Int).toNat 0) a1 1) else (none)) else (none)) = some (r1, r2) := h
 clear h
 by_cases c3 : 0 ≤ (l0.length : Int)
 ·rw [if_pos c3] at H
  have c3b0 := eq_true c3
  have c3b1 : decide (0 ≤ (l0.length : Int)) = true := decide_eq_true c3
  clear c3
  by_cases c4 : ((l0.length : Int) : Int).toNat ≤ 35184372088832
  ·rw [if_pos c4] at H
   have c4b0 := eq_true c4
   have c4b1 : decide (((l0.length : Int) : Int).toNat ≤ 35184372088832) = true := decide_eq_true c4
   clear c4
   obtain ⟨y135, hy135⟩ : ∃ y_ : List Int, y_ = (List.replicate ((l0.length : Int) : Int).toNat 0) := ⟨_, rfl⟩
   replace H : (mult_indexPeriod.l0 k l0 a1 y135 a1 1) = some (r1, r2) := by first | (rw [hy135]; with_reducible exact H) | (have H2_ := (Option.bind_some _ _).symm.trans H; rw [hy135]; with_reducible exact H2_) | (have H2_ := (Option.bind_some _ _).symm.trans H; with_reducible exact H2_) | with_reducible exact H | (rw [hy135]; exact H) | exact H
   have Ny135 := Aside0.mk hy135
   clear hy135
   have H' := Aside0.mk H
   clear H
   go_enter Try.func67, Try.ntmps67
   go_wp2_with (first | ((with_reducible refine gate_dst (N := 11) rfl ?_); refine Kd.R_make (Kd.int .i64) _ 3 rfl (N := 11) rfl 30 _ _ rfl (l0.length : Int) rfl rfl Try.underlying30 (.int .i64 0) 8 info3 rfl (by decide) (by omega) 0 (ok := fun _ => True) (okp := fun _ => True) rfl (fun _ hk => hk) trivial (of_decide_eq_true (by first | (with_reducible assumption) | assumption)) (Nat.le_trans (Nat.mul_le_mul_right _ (of_decide_eq_true (by first | (with_reducible assumption) | assumption) : (l0.length : Int).toNat ≤ 35184372088832)) (by omega)) (Below.refl _ _) (Nat.le_refl _) ?_; intro v136 w5 ho6 hb hg_ hnew_; (try clear hg_); (try clear hnew_); (first | rw [← Ny135.out] at ho6 | (simp only [Int.reduceToNat] at ho6; rw [← Ny135.out] at ho6)); have n0_ := Aside0.mk (Kd.R_lower ho6 (below_size (by repeat (first | (with_reducible first | exact HB.out | apply below_alloc | apply pw_below_drewN | apply below_drew1) | exact HB.out)))); have n1_ := Aside0.mk (below_step (by repeat (first | (with_reducible first | exact HB.out | apply below_alloc | apply pw_below_drewN | apply below_drew1) | exact HB.out)) hb); clear HB; have HO137 := n0_; have HB := n1_; clear n0_ n1_; (try clear hb); (try clear ho6)))
   repeat (go_quiet (first | ((with_reducible refine gate_dst (N := 11) rfl ?_); refine Kd.R_make (Kd.int .i64) _ 3 rfl (N := 11) rfl 30 _ _ rfl (l0.length : Int) rfl rfl Try.underlying30 (.int .i64 0) 8 info3 rfl (by decide) (by omega) 0 (ok := fun _ => True) (okp := fun _ => True) rfl (fun _ hk => hk) trivial (of_decide_eq_true (by first | (with_reducible assumption) | assumption)) (Nat.le_trans (Nat.mul_le_mul_right _ (of_decide_eq_true (by first | (with_reducible assumption) | assumption) : (l0.length : Int).toNat ≤ 35184372088832)) (by omega)) (Below.refl _ _) (Nat.le_refl _) ?_; intro v136 w5 ho6 hb hg_ hnew_; (try clear hg_); (try clear hnew_); (first | rw [← Ny135.out] at ho6 | (simp only [Int.reduceToNat] at ho6; rw [← Ny135.out] at ho6)); have n0_ := Aside0.mk (Kd.R_lower ho6 (below_size (by repeat (first | (with_reducible first | exact HB.out | apply below_alloc | apply pw_below_drewN | apply below_drew1) | exact HB.out)))); have n1_ := Aside0.mk (below_step (by repeat (first | (with_reducible first | exact HB.out | apply below_alloc | apply pw_below_drewN | apply below_drew1) | exact HB.out)) hb); clear HB; have HO137 := n0_; have HB := n1_; clear n0_ n1_; (try clear hb); (try clear ho6))); try go_wp2_with (first | ((with_reducible refine gate_dst (N := 11) rfl ?_); refine Kd.R_make (Kd.int .i64) _ 3 rfl (N := 11) rfl 30 _ _ rfl (l0.length : Int) rfl rfl Try.underlying30 (.int .i64 0) 8 info3 rfl (by decide) (by omega) 0 (ok := fun _ => True) (okp := fun _ => True) rfl (fun _ hk => hk) trivial (of_decide_eq_true (by first | (with_reducible assumption) | assumption)) (Nat.le_trans (Nat.mul_le_mul_right _ (of_decide_eq_true (by first | (with_reducible assumption) | assumption) : (l0.length : Int).toNat ≤ 35184372088832)) (by omega)) (Below.refl _ _) (Nat.le_refl _) ?_; intro v136 w5 ho6 hb hg_ hnew_; (try clear hg_); (try clear hnew_); (first | rw [← Ny135.out] at ho6 | (simp only [Int.reduceToNat] at ho6; rw [← Ny135.out] at ho6)); have n0_ := Aside0.mk (Kd.R_lower ho6 (below_size (by repeat (first | (with_reducible first | exact HB.out | apply below_alloc | apply pw_below_drewN | apply below_drew1) | exact HB.out)))); have n1_ := Aside0.mk (below_step (by repeat (first | (with_reducible first | exact HB.out | apply below_alloc | apply pw_below_drewN | apply below_drew1) | exact HB.out)) hb); clear HB; have HO137 := n0_; have HB := n1_; clear n0_ n1_; (try clear hb); (try clear ho6))))
   go_loopg [7, 8] k (fun kq v7 v8 w' => ∃ (x6_1 : List Int) (x7_1 : Int) (x8_1 : Int), v7 = .int .i64 x7_1 ∧ v8 = .int .i64 x8_1 ∧ Aside0 (mult_indexPeriod.l0 kq l0 a1 x6_1 x7_1 x8_1 = some (r1, r2)) ∧ Aside0 (kq ≤ k) ∧ Aside0 (Kd.R (Kd.int .i64) 3 w' w.heap.size (fun _ => True) v136 x6_1) ∧ Aside0 (Below w.heap.size w w'))
   case atStart => exact ⟨(y135), (a1), (1), (by first | rfl | (simp; done) | (simp [*]; done)), (by first | rfl | (simp; done) | (simp [*]; done)), H', ⟨Nat.le_refl _⟩, ⟨by (with_reducible repeat (first | apply Kd.R_alloc | apply Kd.R_drewN | apply Kd.R_drew)); exact HO137.out⟩, ⟨by repeat (first | (with_reducible first | exact HB.out | apply below_alloc | apply pw_below_drewN | apply below_drew1) | exact HB.out)⟩⟩
   case round =>
    clear H'
    try clear p2
    try clear c3
    try clear c3b0
    try clear c3b1
    try clear c4
    try clear c4b0
    try clear c4b1
    try clear c6
    obtain ⟨x6_1, x7_1, x8_1, rfl, rfl, HA, HK1, HO_6, HB⟩ := hrel
    cases gk with
    | zero => exact absurd HA.out (by simp [mult_indexPeriod.l0])
    | succ k1 =>
     have H := HA.out
     clear HA
     simp only [mult_indexPeriod.l0] at H
     by_cases c7 : 0 ≤ x7_1
     ·rw [if_pos c7] at H
      have c7b0 : decide (0 ≤ x7_1) = true := decide_eq_true c7
      clear c7
      by_cases c8 : x7_1 < (x6_1.length : Int)
      ·rw [if_pos c8] at H
       have c8b0 : decide (x7_1 < (x6_1.length : Int)) = true := decide_eq_true c8
       clear c8
       by_cases c9 : (rd x6_1 x7_1) = 0
       ·rw [if_pos c9] at H
        have c9b0 : ((rd x6_1 x7_1) == 0) = true := beq_iff_eq.mpr c9
        have c9b1 : ((rd x6_1 x7_1) != 0) = false := bne_eq_false_iff_eq.mpr c9
        clear c9
        obtain ⟨y139, hy139⟩ : ∃ y_ : List Int, y_ = (x6_1.set (x7_1 : Int).toNat x8_1) := ⟨_, rfl⟩
        replace H : (if x7_1 < (l0.length : Int) then (if 0 ≤ a1 then (if a1 < ((rd_L1 l0 x7_1).length : Int) then (mult_indexPeriod.l0 k1 l0 a1 y139 (rd (rd_L1 l0 x7_1) a1) (wrap64 (x8_1 + 1))) else (none)) else (none)) else (none)) = some (r1, r2) := by first | (rw [hy139]; with_reducible exact H) | (have H2_ := (Option.bind_some _ _).symm.trans H; rw [hy139]; with_reducible exact H2_) | (have H2_ := (Option.bind_some _ _).symm.trans H; with_reducible exact H2_) | with_reducible exact H | (rw [hy139]; exact H) | exact H
        have Ny139 := Aside0.mk hy139
        clear hy139
        by_cases c11 : x7_1 < (l0.length : Int)
        ·rw [if_pos c11] at H
         have c11b0 : decide (x7_1 < (l0.length : Int)) = true := decide_eq_true c11
         clear c11
         by_cases c12 : 0 ≤ a1
         ·rw [if_pos c12] at H
          have c12b0 : decide (0 ≤ a1) = true := decide_eq_true c12
          clear c12
          by_cases c13 : a1 < ((rd_L1 l0 x7_1).length : Int)
          ·rw [if_pos c13] at H
           have c13b0 : decide (a1 < ((rd_L1 l0 x7_1).length : Int)) = true := decide_eq_true c13
           clear c13
           have H' := Aside0.mk H
           clear H
           obtain ⟨Ao14, co14, eo14⟩ := Kd.R_slice HO_6.out
           subst eo14
           have p138 : 0 ≤ (x7_1 : Int) := of_decide_eq_true (by first | (with_reducible assumption) | assumption)
           have q138 : x7_1 < (x6_1.length : Int) := of_decide_eq_true (by first | (with_reducible assumption) | assumption)
           obtain ⟨ad138, e138, hx138_0⟩ := Kd.at_int (Kd.R_reads' HO_6.out).2.2 x7_1 p138 q138
           cases e138
           replace p138 := eq_true p138
           replace q138 := eq_true q138
           have p10 : 0 ≤ (x7_1 : Int) := of_decide_eq_true (by first | (with_reducible assumption) | assumption)
           have q10 : (x7_1 : Int) < ((x6_1.length : Int) : Int) := of_decide_eq_true (by first | (with_reducible assumption) | assumption)
           obtain ⟨go10, co10, eo10, gb10, gl10, cl10, HG10⟩ := Kd.R_form HO_6.out (by omega)
           (first | cases eo10 | (injection eo10 with ea_ en_ ec_; (first | subst ea_ | (injection ea_ with ea_; subst ea_)); subst ec_; clear en_))
           have GB10 := Aside0.mk gb10
           have GG10 := Aside0.mk HG10
           (try clear gb10); (try clear gl10); (try clear HG10)
           (first | simp only [add_plain] at hx138_0 | skip)
           obtain ⟨hx10_0, hf10_0⟩ := Kd.R_celln 0 HO_6.out (x7_1 : Int) p10 q10
           replace p10 := eq_true p10
           replace q10 := eq_true q10
           have HP15 := Kd.R_putg HO_6.out (x7_1 : Int) x8_1
           go_wp2_with (first | ((with_reducible refine gate_store (t := 3) (p := 21) rfl ?_); (try (rw [drewN_self wr]; generalize hq_ : World.drewN wr _ = wr; have n0_ := Aside0.mk (Kd.R_at hq_ HO_6.out); have n1_ := Aside0.mk (below_at hq_ HB.out); clear hq_ HO_6 HB; have HO_6 := n0_; have HB := n1_; clear n0_ n1_; (try (have HP15 := Kd.R_putg HO_6.out (x7_1 : Int) x8_1)))); refine store_event (t := 3) (p := 21) (v := ?vo_w16) (w1 := (wr.setCell ⟨go10, (x7_1 : Int).toNat, none⟩ (.int .i64 x8_1))) ?hg ?ho ?hn ?hr ?_; (case ho => rfl); (case hg => rfl); (case hn => rfl); (case hr => first | (go_simp; done) | (go_simp; rfl)); intro w16 hw; have hg : wr.grownBy w16 (some go10) := (by rw [hw]; exact HP15.2); have hp_ : Kd.R (Kd.int .i64) 3 w16 w.heap.size (fun _ => True) (.slice (some ⟨go10, 0, none⟩) x6_1.length co14) y139 := (by rw [hw, Ny139.out]; exact HP15.1); clear HP15; have n0_ := Aside0.mk (hp_); have n1_ := Aside0.mk ((by rw [hw]; exact below_set (HB.out) GB10.out : Below w.heap.size w w16)); clear HO_6; clear HB; have HO_6 := n0_; have HB := n1_; clear n0_ n1_; (try clear hg); (try clear hw); (try clear hp_); have p140 : 0 ≤ (x7_1 : Int) := of_decide_eq_true (by first | (with_reducible assumption) | assumption); have q140 : x7_1 < (l0.length : Int) := of_decide_eq_true (by first | (with_reducible assumption) | assumption); obtain ⟨ad140, A140_0, c140_0, e140, hx140_0, hl140_0, hi140_0⟩ := at_L1 HR0.out x7_1 p140 q140; cases e140; replace hx140_0 := (HB.out.cell (World.block_lt_of_cell? w _ hx140_0)).trans hx140_0; have HR140_0 := Aside0.mk hi140_0; have HC140_0 := Aside0.mk hl140_0; (try clear hi140_0); (try clear hl140_0); replace p140 := eq_true p140; replace q140 := eq_true q140; have p141 : 0 ≤ (a1 : Int) := of_decide_eq_true (by first | (with_reducible assumption) | assumption); have q141 : a1 < ((rd_L1 l0 x7_1).length : Int) := of_decide_eq_true (by first | (with_reducible assumption) | assumption); obtain ⟨ad141, e141, hx141_0⟩ := Kd.at_int HR140_0.out a1 p141 q141; cases e141; replace hx141_0 := (HB.out.cell (World.block_lt_of_cell? w _ hx141_0)).trans hx141_0; replace p141 := eq_true p141; replace q141 := eq_true q141))
           repeat (go_quiet (first | ((with_reducible refine gate_store (t := 3) (p := 21) rfl ?_); (try (rw [drewN_self wr]; generalize hq_ : World.drewN wr _ = wr; have n0_ := Aside0.mk (Kd.R_at hq_ HO_6.out); have n1_ := Aside0.mk (below_at hq_ HB.out); clear hq_ HO_6 HB; have HO_6 := n0_; have HB := n1_; clear n0_ n1_; (try (have HP15 := Kd.R_putg HO_6.out (x7_1 : Int) x8_1)))); refine store_event (t := 3) (p := 21) (v := ?vo_w16) (w1 := (wr.setCell ⟨go10, (x7_1 : Int).toNat, none⟩ (.int .i64 x8_1))) ?hg ?ho ?hn ?hr ?_; (case ho => rfl); (case hg => rfl); (case hn => rfl); (case hr => first | (go_simp; done) | (go_simp; rfl)); intro w16 hw; have hg : wr.grownBy w16 (some go10) := (by rw [hw]; exact HP15.2); have hp_ : Kd.R (Kd.int .i64) 3 w16 w.heap.size (fun _ => True) (.slice (some ⟨go10, 0, none⟩) x6_1.length co14) y139 := (by rw [hw, Ny139.out]; exact HP15.1); clear HP15; have n0_ := Aside0.mk (hp_); have n1_ := Aside0.mk ((by rw [hw]; exact below_set (HB.out) GB10.out : Below w.heap.size w w16)); clear HO_6; clear HB; have HO_6 := n0_; have HB := n1_; clear n0_ n1_; (try clear hg); (try clear hw); (try clear hp_); have p140 : 0 ≤ (x7_1 : Int) := of_decide_eq_true (by first | (with_reducible assumption) | assumption); have q140 : x7_1 < (l0.length : Int) := of_decide_eq_true (by first | (with_reducible assumption) | assumption); obtain ⟨ad140, A140_0, c140_0, e140, hx140_0, hl140_0, hi140_0⟩ := at_L1 HR0.out x7_1 p140 q140; cases e140; replace hx140_0 := (HB.out.cell (World.block_lt_of_cell? w _ hx140_0)).trans hx140_0; have HR140_0 := Aside0.mk hi140_0; have HC140_0 := Aside0.mk hl140_0; (try clear hi140_0); (try clear hl140_0); replace p140 := eq_true p140; replace q140 := eq_true q140; have p141 : 0 ≤ (a1 : Int) := of_decide_eq_true (by first | (with_reducible assumption) | assumption); have q141 : a1 < ((rd_L1 l0 x7_1).length : Int) := of_decide_eq_true (by first | (with_reducible assumption) | assumption); obtain ⟨ad141, e141, hx141_0⟩ := Kd.at_int HR140_0.out a1 p141 q141; cases e141; replace hx141_0 := (HB.out.cell (World.block_lt_of_cell? w _ hx141_0)).trans hx141_0; replace p141 := eq_true p141; replace q141 := eq_true q141)); try go_wp2_with (first | ((with_reducible refine gate_store (t := 3) (p := 21) rfl ?_); (try (rw [drewN_self wr]; generalize hq_ : World.drewN wr _ = wr; have n0_ := Aside0.mk (Kd.R_at hq_ HO_6.out); have n1_ := Aside0.mk (below_at hq_ HB.out); clear hq_ HO_6 HB; have HO_6 := n0_; have HB := n1_; clear n0_ n1_; (try (have HP15 := Kd.R_putg HO_6.out (x7_1 : Int) x8_1)))); refine store_event (t := 3) (p := 21) (v := ?vo_w16) (w1 := (wr.setCell ⟨go10, (x7_1 : Int).toNat, none⟩ (.int .i64 x8_1))) ?hg ?ho ?hn ?hr ?_; (case ho => rfl); (case hg => rfl); (case hn => rfl); (case hr => first | (go_simp; done) | (go_simp; rfl)); intro w16 hw; have hg : wr.grownBy w16 (some go10) := (by rw [hw]; exact HP15.2); have hp_ : Kd.R (Kd.int .i64) 3 w16 w.heap.size (fun _ => True) (.slice (some ⟨go10, 0, none⟩) x6_1.length co14) y139 := (by rw [hw, Ny139.out]; exact HP15.1); clear HP15; have n0_ := Aside0.mk (hp_); have n1_ := Aside0.mk ((by rw [hw]; exact below_set (HB.out) GB10.out : Below w.heap.size w w16)); clear HO_6; clear HB; have HO_6 := n0_; have HB := n1_; clear n0_ n1_; (try clear hg); (try clear hw); (try clear hp_); have p140 : 0 ≤ (x7_1 : Int) := of_decide_eq_true (by first | (with_reducible assumption) | assumption); have q140 : x7_1 < (l0.length : Int) := of_decide_eq_true (by first | (with_reducible assumption) | assumption); obtain ⟨ad140, A140_0, c140_0, e140, hx140_0, hl140_0, hi140_0⟩ := at_L1 HR0.out x7_1 p140 q140; cases e140; replace hx140_0 := (HB.out.cell (World.block_lt_of_cell? w _ hx140_0)).trans hx140_0; have HR140_0 := Aside0.mk hi140_0; have HC140_0 := Aside0.mk hl140_0; (try clear hi140_0); (try clear hl140_0); replace p140 := eq_true p140; replace q140 := eq_true q140; have p141 : 0 ≤ (a1 : Int) := of_decide_eq_true (by first | (with_reducible assumption) | assumption); have q141 : a1 < ((rd_L1 l0 x7_1).length : Int) := of_decide_eq_true (by first | (with_reducible assumption) | assumption); obtain ⟨ad141, e141, hx141_0⟩ := Kd.at_int HR140_0.out a1 p141 q141; cases e141; replace hx141_0 := (HB.out.cell (World.block_lt_of_cell? w _ hx141_0)).trans hx141_0; replace p141 := eq_true p141; replace q141 := eq_true q141)))
           go_roundg k1
           case measure => have := HK1.out; omega
           case rel => exact ⟨(y139), (rd (rd_L1 l0 x7_1) a1), (wrap64 (x8_1 + 1)), (by first | rfl | (simp; done) | (simp [*]; done)), (by first | rfl | (simp; done) | (simp [*]; done)), H', ⟨by have := HK1.out; omega⟩, ⟨by (with_reducible repeat (first | apply Kd.R_alloc | apply Kd.R_drewN | apply Kd.R_drew)); exact HO_6.out⟩, ⟨by repeat (first | (with_reducible first | exact HB.out | apply below_alloc | apply pw_below_drewN | apply below_drew1) | exact HB.out)⟩⟩
          ·rw [if_neg c13] at H
           exact absurd H (by simp)
         ·rw [if_neg c12] at H
          exact absurd H (by simp)
        ·rw [if_neg c11] at H
         exact absurd H (by simp)
       ·rw [if_neg c9] at H
        have c9b0 : ((rd x6_1 x7_1) == 0) = false := beq_eq_false_iff_ne.mpr c9
        have c9b1 : ((rd x6_1 x7_1) != 0) = true := bne_iff_ne.mpr c9
        simp only [Option.some.injEq, Prod.mk.injEq] at H
        obtain ⟨rfl, rfl⟩ := H
        obtain ⟨Ao17, co17, eo17⟩ := Kd.R_slice HO_6.out
        subst eo17
        have p138 : 0 ≤ (x7_1 : Int) := of_decide_eq_true (by first | (with_reducible assumption) | assumption)
        have q138 : x7_1 < (x6_1.length : Int) := of_decide_eq_true (by first | (with_reducible assumption) | assumption)
        obtain ⟨ad138, e138, hx138_0⟩ := Kd.at_int (Kd.R_reads' HO_6.out).2.2 x7_1 p138 q138
        cases e138
        replace p138 := eq_true p138
        replace q138 := eq_true q138
        have p142 : 0 ≤ (x7_1 : Int) := of_decide_eq_true (by first | (with_reducible assumption) | assumption)
        have q142 : x7_1 < (x6_1.length : Int) := of_decide_eq_true (by first | (with_reducible assumption) | assumption)
        obtain ⟨ad142, e142, hx142_0⟩ := Kd.at_int (Kd.R_reads' HO_6.out).2.2 x7_1 p142 q142
        obtain rfl : ad138 = ad142 := (by injection e142)
        replace p142 := eq_true p142
        replace q142 := eq_true q142
        have p143 : 0 ≤ (x7_1 : Int) := of_decide_eq_true (by first | (with_reducible assumption) | assumption)
        have q143 : x7_1 < (x6_1.length : Int) := of_decide_eq_true (by first | (with_reducible assumption) | assumption)
        obtain ⟨ad143, e143, hx143_0⟩ := Kd.at_int (Kd.R_reads' HO_6.out).2.2 x7_1 p143 q143
        obtain rfl : ad138 = ad143 := (by injection e143)
        replace p143 := eq_true p143
        replace q143 := eq_true q143
        go_wp2
        repeat (go_quiet (fail); try go_wp2)
        go_ret2
        exact ⟨by first | rfl | (simp [errW_none, errW_some] <;> rfl) | (simp [*, errW_none, errW_some] <;> rfl), by repeat (first | (with_reducible first | exact HB.out | apply below_alloc | apply pw_below_drewN | apply below_drew1) | exact HB.out)⟩
      ·rw [if_neg c8] at H
       exact absurd H (by simp)
     ·rw [if_neg c7] at H
      exact absurd H (by simp)
  ·rw [if_neg c4] at H
   exact absurd H (by simp)
 ·rw [if_neg c3] at H
  exact absurd H (by simp)

/-! ### mult_Omega: function 30 -/
def mult_Omega.j0 : Nat → List (List Int) → Int → Bool → Option (Int)
 | 0, _, _, _ => none
 | k + 1, x0, x1, x19 => if x19 = true then (some (-1)) else ((mult_indexPeriod.f k x0 x1).bind fun bt145 => (if bt145.2 = 0 then (none) else ((mult_power.f k x0 x1 (wrap64 ((wrap64 (Int.tdiv (wrap64 ((wrap64 (bt145.1 + bt145.2)) - 1)) bt145.2)) * bt145.2))).bind fun t147 => (some t147))))
def mult_Omega.f (k : Nat) (l0 : List (List Int)) (a1 : Int) : Option (Int) := (mult_Validate.f k l0).bind fun t144 => (if t144 = 0 then (if a1 < 0 then (mult_Omega.j0 k l0 a1 true) else (mult_Omega.j0 k l0 a1 (decide (a1 ≥ (l0.length : Int))))) else (mult_Omega.j0 k l0 a1 true))
theorem mult_Omega.mono_l : ∀ k, (∀ y0 y1 y2, LeO (mult_Omega.j0 k y0 y1 y2) (mult_Omega.j0 (k + 1) y0 y1 y2))
 | 0 => fun _ _ _ r h => by simp [mult_Omega.j0] at h
 | k + 1 => by
  have ih0 := mult_Omega.mono_l k
  ·intro y0 y1 y2
   unfold mult_Omega.j0
   repeat' first
   | (with_reducible exact ih0 _ _ _)
   | (with_reducible exact mult_Validate.mono _ _)
   | (with_reducible exact mult_indexPeriod.mono _ _ _)
   | (with_reducible exact mult_power.mono _ _ _ _)
   | (with_reducible exact LeO.refl _)
   | (with_reducible exact LeO.none _)
   | (with_reducible refine LeO.ite ?_ ?_)
   | (with_reducible refine LeO.bind ?_ (fun _ => ?_))
   | exact ih0 _ _ _
   | exact mult_Validate.mono _ _
   | exact mult_indexPeriod.mono _ _ _
   | exact mult_power.mono _ _ _ _
   | exact LeO.none _
   | refine LeO.ite ?_ ?_
   | refine LeO.bind ?_ (fun _ => ?_)
theorem mult_Omega.mono : ∀ a0 a1 k, LeO (mult_Omega.f k a0 a1) (mult_Omega.f (k + 1) a0 a1) := by
 intro a0 a1 k
 have ih0 := mult_Omega.mono_l k
 unfold mult_Omega.f
 repeat' first
   | (with_reducible exact ih0 _ _ _)
   | (with_reducible exact mult_Validate.mono _ _)
   | (with_reducible exact mult_indexPeriod.mono _ _ _)
   | (with_reducible exact mult_power.mono _ _ _ _)
   | (with_reducible exact LeO.refl _)
   | (with_reducible exact LeO.none _)
   | (with_reducible refine LeO.ite ?_ ?_)
   | (with_reducible refine LeO.bind ?_ (fun _ => ?_))
   | exact ih0 _ _ _
   | exact mult_Validate.mono _ _
   | exact mult_indexPeriod.mono _ _ _
   | exact mult_power.mono _ _ _ _
   | exact LeO.none _
   | refine LeO.ite ?_ ?_
   | refine LeO.bind ?_ (fun _ => ?_)
set_option maxHeartbeats 8000000 in
set_option maxRecDepth 100000 in
theorem mult_Omega.calls (k : Nat) (A0 : Option Addr) (c0 : Nat) (l0 : List (List Int)) (a1 : Int) (r : Int) (w : World) (hr0 : Kd.C (Kd.slice 3 (Kd.int .i64)) w A0 l0.length l0) (hc0 : l0.length ≤ c0) (h : mult_Omega.f k l0 a1 = some r) :
  Calls Try.prog 30 #[.slice A0 l0.length c0, .int .i64 a1] w fun e w' => e = .returned (.int .i64 r) ∧ Below w.heap.size w w' := by
 have HR0 := Aside0.mk hr0
 have HC0 := Aside0.mk hc0
 (try clear hr0); (try clear hc0)
 have HB := Aside0.mk (Below.refl w.heap.size w)
 have H : ((mult_Validate.f k l0).bind fun t144 => (if t144 = 0 then (if a1 < 0 then (mult_Omega.j0 k l0 a1 true) else (mult_Omega.j0 k l0 a1 (decide (a1 ≥ (l0.length : Int))))) else (mult_Omega.j0 k l0 a1 true))) = some r := h
 clear h
 have HC3 := Aside0.mk H
 clear H
 go_enter Try.func30, Try.ntmps30
 go_upto_region 1 with (fail)
 go_cut [19] (fun v19 wc => ∃ (kq : Nat) (x19_2 : Bool), v19 = .bool x19_2 ∧ Aside0 (mult_Omega.j0 kq l0 a1 x19_2 = some r) ∧ Aside0 (kq ≤ k) ∧ Aside0 (Below w.heap.size w wc))
 case first =>
  have H := HC3.out
  clear HC3
  replace H := Option.bind_eq_some_iff.mp H
  obtain ⟨t144, A40, H⟩ := H
  replace H : (if t144 = 0 then (if a1 < 0 then (mult_Omega.j0 k l0 a1 true) else (mult_Omega.j0 k l0 a1 (decide (a1 ≥ (l0.length : Int))))) else (mult_Omega.j0 k l0 a1 true)) = some r := H
  have A4 := Aside0.mk A40
  clear A40
  by_cases c5 : t144 = 0
  ·rw [if_pos c5] at H
   have c5b0 : (t144 == 0) = true := beq_iff_eq.mpr c5
   have c5b1 : (t144 != 0) = false := bne_eq_false_iff_eq.mpr c5
   clear c5
   (first | rw [c5b0] | (simp only [i64_w, i32_w]; rw [c5b0]) | skip)
   by_cases c6 : a1 < 0
   ·rw [if_pos c6] at H
    have c6b0 : decide (a1 < 0) = true := decide_eq_true c6
    clear c6
    have H' := Aside0.mk H
    clear H
    go_wp2_with (first | ((with_reducible refine gate_callee (f := 19) rfl ?_); refine goesL_ (some 8) rfl rfl Try.func19 (by kernel_rfl) rfl #[.slice A0 l0.length c0] rfl (by (try simp only [List.map_toArray, List.map_cons, List.map_nil]); first | done | rfl | (simp only [List.length_drop, List.length_take]; rfl)) ?_; (with_reducible refine (mult_Validate.calls k _ _ l0 t144 _ ?side1 ?side2 A4.out).mono ?_); (case side1 => repeat (first | exact (Kd.C_below HR0.out HB.out) | (with_reducible refine Kd.C_alloc ?_ _) | (with_reducible refine Kd.C_drewN ?_ _) | (with_reducible refine Kd.C_drew ?_))); (case side2 => exact HC0.out); rintro e w' ⟨rfl, ⟨nd, rfl⟩⟩; refine ⟨_, rfl, ?_⟩))
    go_meet
    case rel => exact ⟨_, (true), (by first | rfl | (simp; done) | (simp [*]; done)), H', ⟨by first | omega | exact Nat.le_refl _⟩, ⟨by repeat (first | (with_reducible first | exact HB.out | apply below_alloc | apply pw_below_drewN | apply below_drew1) | exact HB.out)⟩⟩
   ·rw [if_neg c6] at H
    have c6b0 : decide (a1 < 0) = false := decide_eq_false c6
    clear c6
    have H' := Aside0.mk H
    clear H
    go_wp2_with (first | ((with_reducible refine gate_callee (f := 19) rfl ?_); refine goesL_ (some 8) rfl rfl Try.func19 (by kernel_rfl) rfl #[.slice A0 l0.length c0] rfl (by (try simp only [List.map_toArray, List.map_cons, List.map_nil]); first | done | rfl | (simp only [List.length_drop, List.length_take]; rfl)) ?_; (with_reducible refine (mult_Validate.calls k _ _ l0 t144 _ ?side1 ?side2 A4.out).mono ?_); (case side1 => repeat (first | exact (Kd.C_below HR0.out HB.out) | (with_reducible refine Kd.C_alloc ?_ _) | (with_reducible refine Kd.C_drewN ?_ _) | (with_reducible refine Kd.C_drew ?_))); (case side2 => exact HC0.out); rintro e w' ⟨rfl, ⟨nd, rfl⟩⟩; refine ⟨_, rfl, ?_⟩))
    go_meet
    case rel => exact ⟨_, (decide (a1 ≥ (l0.length : Int))), (by first | rfl | (simp; done) | (simp [*]; done)), H', ⟨by first | omega | exact Nat.le_refl _⟩, ⟨by repeat (first | (with_reducible first | exact HB.out | apply below_alloc | apply pw_below_drewN | apply below_drew1) | exact HB.out)⟩⟩
  ·rw [if_neg c5] at H
   have c5b0 : (t144 == 0) = false := beq_eq_false_iff_ne.mpr c5
   have c5b1 : (t144 != 0) = true := bne_iff_ne.mpr c5
   (first | rw [c5b0] | (simp only [i64_w, i32_w]; rw [c5b0]) | skip)
   have H' := Aside0.mk H
   clear H
   go_wp2_with (first | ((with_reducible refine gate_callee (f := 19) rfl ?_); refine goesL_ (some 8) rfl rfl Try.func19 (by kernel_rfl) rfl #[.slice A0 l0.length c0] rfl (by (try simp only [List.map_toArray, List.map_cons, List.map_nil]); first | done | rfl | (simp only [List.length_drop, List.length_take]; rfl)) ?_; (with_reducible refine (mult_Validate.calls k _ _ l0 t144 _ ?side1 ?side2 A4.out).mono ?_); (case side1 => repeat (first | exact (Kd.C_below HR0.out HB.out) | (with_reducible refine Kd.C_alloc ?_ _) | (with_reducible refine Kd.C_drewN ?_ _) | (with_reducible refine Kd.C_drew ?_))); (case side2 => exact HC0.out); rintro e w' ⟨rfl, ⟨nd, rfl⟩⟩; refine ⟨_, rfl, ?_⟩))
   go_meet
   case rel => exact ⟨_, (true), (by first | rfl | (simp; done) | (simp [*]; done)), H', ⟨by first | omega | exact Nat.le_refl _⟩, ⟨by repeat (first | (with_reducible first | exact HB.out | apply below_alloc | apply pw_below_drewN | apply below_drew1) | exact HB.out)⟩⟩
 case rest =>
  clear HC3
  try clear c1
  try clear p2
  try clear c3
  try clear c5
  try clear c5b0
  try clear c5b1
  try clear c6
  try clear c6b0
  obtain ⟨kq, x19_2, rfl, HA, HJ2, HB⟩ := hcut
  cases kq with
  | zero => exact absurd HA.out (by simp [mult_Omega.j0])
  | succ kj2 =>
   have H := HA.out
   clear HA
   simp only [mult_Omega.j0] at H
   by_cases c7 : x19_2 = true
   ·subst c7
    have H1 : (some (-1)) = some r := by rw [if_pos rfl] at H; exact H
    clear H
    have H := H1
    clear H1
    obtain rfl := Option.some.inj H
    go_wp2
    go_ret
    exact ⟨by first | rfl | (simp [errW_none, errW_some] <;> rfl) | (simp [*, errW_none, errW_some] <;> rfl), by repeat (first | (with_reducible first | exact HB.out | apply below_alloc | apply pw_below_drewN | apply below_drew1) | exact HB.out)⟩
   ·replace c7 := Bool.eq_false_iff.mpr c7
    subst c7
    have H1 : ((mult_indexPeriod.f kj2 l0 a1).bind fun bt145 => (if bt145.2 = 0 then (none) else ((mult_power.f kj2 l0 a1 (wrap64 ((wrap64 (Int.tdiv (wrap64 ((wrap64 (bt145.1 + bt145.2)) - 1)) bt145.2)) * bt145.2))).bind fun t147 => (some t147)))) = some r := by rw [if_neg (show ¬ (false = true) by decide)] at H; exact H
    clear H
    have H := H1
    clear H1
    replace H := Option.bind_eq_some_iff.mp H
    obtain ⟨⟨t145, t146⟩, A80, H⟩ := H
    replace H : (if t146 = 0 then (none) else ((mult_power.f kj2 l0 a1 (wrap64 ((wrap64 (Int.tdiv (wrap64 ((wrap64 (t145 + t146)) - 1)) t146)) * t146))).bind fun t147 => (some t147))) = some r := H
    have A8 := Aside0.mk A80
    clear A80
    by_cases c9 : t146 = 0
    ·rw [if_pos c9] at H
     exact absurd H (by simp)
    ·rw [if_neg c9] at H
     have c9b0 : (t146 == 0) = false := beq_eq_false_iff_ne.mpr c9
     have c9b1 : (t146 != 0) = true := bne_iff_ne.mpr c9
     replace H := Option.bind_eq_some_iff.mp H
     obtain ⟨t147, A100, H⟩ := H
     replace H : (some t147) = some r := H
     have A10 := Aside0.mk A100
     clear A100
     obtain rfl := Option.some.inj H
     go_wp2_with (first | ((with_reducible refine gate_callee (f := 67) rfl ?_); refine goesL_ (some 23) rfl rfl Try.func67 (by kernel_rfl) rfl #[.slice A0 l0.length c0, .int .i64 a1] rfl (by (try simp only [List.map_toArray, List.map_cons, List.map_nil]); first | done | rfl | (simp only [List.length_drop, List.length_take]; rfl)) ?_; (with_reducible refine (mult_indexPeriod.calls kj2 _ _ l0 a1 t145 t146 _ ?side1 ?side2 A8.out).mono ?_); (case side1 => repeat (first | exact (Kd.C_below HR0.out HB.out) | (with_reducible refine Kd.C_alloc ?_ _) | (with_reducible refine Kd.C_drewN ?_ _) | (with_reducible refine Kd.C_drew ?_))); (case side2 => exact HC0.out); rintro e w11 ⟨rfl, hb⟩; refine ⟨_, rfl, ?_⟩; have n0_ := Aside0.mk (below_step (by repeat (first | (with_reducible first | exact HB.out | apply below_alloc | apply pw_below_drewN | apply below_drew1) | exact HB.out)) hb); clear HB; have HB := n0_; clear n0_; (try clear hb); (try clear hb2); (try clear hk); (try clear hi)) | ((with_reducible refine gate_callee (f := 66) rfl ?_); refine goesL_ (some 36) rfl rfl Try.func66 (by kernel_rfl) rfl #[.slice A0 l0.length c0, .int .i64 a1, .int .i64 (wrap64 ((wrap64 (Int.tdiv (wrap64 ((wrap64 (t145 + t146)) - 1)) t146)) * t146))] rfl (by (try simp only [List.map_toArray, List.map_cons, List.map_nil]); first | done | rfl | (simp only [List.length_drop, List.length_take]; rfl)) ?_; (with_reducible refine (mult_power.calls kj2 _ _ l0 a1 (wrap64 ((wrap64 (Int.tdiv (wrap64 ((wrap64 (t145 + t146)) - 1)) t146)) * t146)) t147 _ ?side1 ?side2 A10.out).mono ?_); (case side1 => repeat (first | exact (Kd.C_below HR0.out HB.out) | (with_reducible refine Kd.C_alloc ?_ _) | (with_reducible refine Kd.C_drewN ?_ _) | (with_reducible refine Kd.C_drew ?_))); (case side2 => exact HC0.out); rintro e w' ⟨rfl, ⟨nd, rfl⟩⟩; refine ⟨_, rfl, ?_⟩))
     go_ret
     exact ⟨by first | rfl | (simp [errW_none, errW_some] <;> rfl) | (simp [*, errW_none, errW_some] <;> rfl), by repeat (first | (with_reducible first | exact HB.out | apply below_alloc | apply pw_below_drewN | apply below_drew1) | exact HB.out)⟩

/-! ### semigrouplaw14_awake: function 16 -/
def semigrouplaw14_awake.f (k : Nat)  : Option (Bool) := (some (([(([0, 1] : List Int)), (([1, 0] : List Int))] : List (List Int)) : List (List Int))).bind fun y154 => ((mult_Validate.f k y154).bind fun t157 => (if t157 = 0 then ((mult_Identity.f k y154).bind fun t158 => (if t158 = 0 then ((mult_Omega.f k y154 1).bind fun t159 => (if t159 = 0 then ((mult_Zero.f k y154).bind fun t160 => (some (t160 == (-1)))) else (some false))) else (some false))) else (some false)))
theorem semigrouplaw14_awake.mono : ∀ k, LeO (semigrouplaw14_awake.f k ) (semigrouplaw14_awake.f (k + 1) ) := by
 intro  k
 unfold semigrouplaw14_awake.f
 repeat' first
   | (with_reducible exact mult_Identity.mono _ _)
   | (with_reducible exact mult_Omega.mono _ _ _)
   | (with_reducible exact mult_Validate.mono _ _)
   | (with_reducible exact mult_Zero.mono _ _)
   | (with_reducible exact LeO.refl _)
   | (with_reducible exact LeO.none _)
   | (with_reducible refine LeO.ite ?_ ?_)
   | (with_reducible refine LeO.bind ?_ (fun _ => ?_))
   | exact mult_Identity.mono _ _
   | exact mult_Omega.mono _ _ _
   | exact mult_Validate.mono _ _
   | exact mult_Zero.mono _ _
   | exact LeO.none _
   | refine LeO.ite ?_ ?_
   | refine LeO.bind ?_ (fun _ => ?_)
set_option maxHeartbeats 8000000 in
set_option maxRecDepth 100000 in
theorem semigrouplaw14_awake.calls (k : Nat)  (r : Bool) (w : World) (h : semigrouplaw14_awake.f k  = some r) :
  Calls Try.prog 16 #[] w fun e w' => e = .returned (.bool r) ∧ Below w.heap.size w w' := by
 have HB := Aside0.mk (Below.refl w.heap.size w)
 have H : ((some (([(([0, 1] : List Int)), (([1, 0] : List Int))] : List (List Int)) : List (List Int))).bind fun y154 => ((mult_Validate.f k y154).bind fun t157 => (if t157 = 0 then ((mult_Identity.f k y154).bind fun t158 => (if t158 = 0 then ((mult_Omega.f k y154 1).bind fun t159 => (if t159 = 0 then ((mult_Zero.f k y154).bind fun t160 => (some (t160 == (-1)))) else (some false))) else (some false))) else (some false)))) = some r := h
 clear h
 obtain ⟨y148, hy148⟩ : ∃ y_ : List Int, y_ = (([0, 1] : List Int)) := ⟨_, rfl⟩
 replace H : ((some (([y148, (([1, 0] : List Int))] : List (List Int)) : List (List Int))).bind fun y154 => ((mult_Validate.f k y154).bind fun t157 => (if t157 = 0 then ((mult_Identity.f k y154).bind fun t158 => (if t158 = 0 then ((mult_Omega.f k y154 1).bind fun t159 => (if t159 = 0 then ((mult_Zero.f k y154).bind fun t160 => (some (t160 == (-1)))) else (some false))) else (some false))) else (some false)))) = some r := by first | (rw [hy148]; with_reducible exact H) | (have H2_ := (Option.bind_some _ _).symm.trans H; rw [hy148]; with_reducible exact H2_) | (have H2_ := (Option.bind_some _ _).symm.trans H; with_reducible exact H2_) | with_reducible exact H | (rw [hy148]; exact H) | exact H
 have Ny148 := Aside0.mk hy148
 clear hy148
 obtain ⟨y151, hy151⟩ : ∃ y_ : List Int, y_ = (([1, 0] : List Int)) := ⟨_, rfl⟩
 replace H : ((some (([y148, y151] : List (List Int)) : List (List Int))).bind fun y154 => ((mult_Validate.f k y154).bind fun t157 => (if t157 = 0 then ((mult_Identity.f k y154).bind fun t158 => (if t158 = 0 then ((mult_Omega.f k y154 1).bind fun t159 => (if t159 = 0 then ((mult_Zero.f k y154).bind fun t160 => (some (t160 == (-1)))) else (some false))) else (some false))) else (some false)))) = some r := by first | (rw [hy151]; with_reducible exact H) | (have H2_ := (Option.bind_some _ _).symm.trans H; rw [hy151]; with_reducible exact H2_) | (have H2_ := (Option.bind_some _ _).symm.trans H; with_reducible exact H2_) | with_reducible exact H | (rw [hy151]; exact H) | exact H
 have Ny151 := Aside0.mk hy151
 clear hy151
 obtain ⟨y154, hy154⟩ : ∃ y_ : List (List Int), y_ = (([y148, y151] : List (List Int))) := ⟨_, rfl⟩
 replace H : ((mult_Validate.f k y154).bind fun t157 => (if t157 = 0 then ((mult_Identity.f k y154).bind fun t158 => (if t158 = 0 then ((mult_Omega.f k y154 1).bind fun t159 => (if t159 = 0 then ((mult_Zero.f k y154).bind fun t160 => (some (t160 == (-1)))) else (some false))) else (some false))) else (some false))) = some r := by first | (rw [hy154]; with_reducible exact H) | (have H2_ := (Option.bind_some _ _).symm.trans H; rw [hy154]; with_reducible exact H2_) | (have H2_ := (Option.bind_some _ _).symm.trans H; with_reducible exact H2_) | with_reducible exact H | (rw [hy154]; exact H) | exact H
 have Ny154 := Aside0.mk hy154
 clear hy154
 replace H := Option.bind_eq_some_iff.mp H
 obtain ⟨t157, A10, H⟩ := H
 replace H : (if t157 = 0 then ((mult_Identity.f k y154).bind fun t158 => (if t158 = 0 then ((mult_Omega.f k y154 1).bind fun t159 => (if t159 = 0 then ((mult_Zero.f k y154).bind fun t160 => (some (t160 == (-1)))) else (some false))) else (some false))) else (some false)) = some r := H
 have A1 := Aside0.mk A10
 clear A10
 by_cases c2 : t157 = 0
 ·rw [if_pos c2] at H
  have c2b0 : (t157 == 0) = true := beq_iff_eq.mpr c2
  have c2b1 : (t157 != 0) = false := bne_eq_false_iff_eq.mpr c2
  clear c2
  replace H := Option.bind_eq_some_iff.mp H
  obtain ⟨t158, A30, H⟩ := H
  replace H : (if t158 = 0 then ((mult_Omega.f k y154 1).bind fun t159 => (if t159 = 0 then ((mult_Zero.f k y154).bind fun t160 => (some (t160 == (-1)))) else (some false))) else (some false)) = some r := H
  have A3 := Aside0.mk A30
  clear A30
  by_cases c4 : t158 = 0
  ·rw [if_pos c4] at H
   have c4b0 : (t158 == 0) = true := beq_iff_eq.mpr c4
   have c4b1 : (t158 != 0) = false := bne_eq_false_iff_eq.mpr c4
   clear c4
   replace H := Option.bind_eq_some_iff.mp H
   obtain ⟨t159, A50, H⟩ := H
   replace H : (if t159 = 0 then ((mult_Zero.f k y154).bind fun t160 => (some (t160 == (-1)))) else (some false)) = some r := H
   have A5 := Aside0.mk A50
   clear A50
   by_cases c6 : t159 = 0
   ·rw [if_pos c6] at H
    have c6b0 : (t159 == 0) = true := beq_iff_eq.mpr c6
    have c6b1 : (t159 != 0) = false := bne_eq_false_iff_eq.mpr c6
    clear c6
    replace H := Option.bind_eq_some_iff.mp H
    obtain ⟨t160, A70, H⟩ := H
    replace H : (some (t160 == (-1))) = some r := H
    have A7 := Aside0.mk A70
    clear A70
    obtain rfl := Option.some.inj H
    go_enter Try.func16, Try.ntmps16
    go_wp2_with (first | ((with_reducible refine gate_dst (N := 2) rfl ?_); refine Kd.R_lit (Kd.int .i64) _ 3 ?hg (N := 2) ?hd (xs := ([0, 1] : List Int)) (inner := [.int .i64 0, .int .i64 1]) (ok := fun _ => True) (okp := fun _ => True) ?hr ?hp (fun _ hk => hk) trivial (Below.refl _ _) (Nat.le_refl _) (by simp) ?_; (case hd => rfl); (case hg => rfl); (case hr => first | (go_simp; done) | (go_simp; rfl)); (case hp => exact (Reps.one (show Kd.M (Kd.int .i64) _ _ _ 0 [.int .i64 0] from rfl) (Reps.one (show Kd.M (Kd.int .i64) _ _ _ 1 [.int .i64 1] from rfl) (Reps.none _ _)))); intro v149 w8 ho9 hb hg_ hnew_; (try clear hg_); (try clear hnew_); (first | rw [← Ny148.out] at ho9 | (simp only [Int.reduceToNat] at ho9; rw [← Ny148.out] at ho9)); have n0_ := Aside0.mk (Kd.R_lower ho9 (below_size (by repeat (first | (with_reducible first | exact HB.out | apply below_alloc | apply pw_below_drewN | apply below_drew1) | exact HB.out)))); have n1_ := Aside0.mk (below_step (by repeat (first | (with_reducible first | exact HB.out | apply below_alloc | apply pw_below_drewN | apply below_drew1) | exact HB.out)) hb); clear HB; have HO150 := n0_; have HB := n1_; clear n0_ n1_; (try clear hb); (try clear ho9)) | ((with_reducible refine gate_dst (N := 3) rfl ?_); refine Kd.R_lit (Kd.int .i64) _ 3 ?hg (N := 3) ?hd (xs := ([1, 0] : List Int)) (inner := [.int .i64 1, .int .i64 0]) (ok := fun _ => True) (okp := fun _ => True) ?hr ?hp (fun _ hk => hk) trivial (Below.refl _ _) (Nat.le_refl _) (by simp) ?_; (case hd => rfl); (case hg => rfl); (case hr => first | (go_simp; done) | (go_simp; rfl)); (case hp => exact (Reps.one (show Kd.M (Kd.int .i64) _ _ _ 1 [.int .i64 1] from rfl) (Reps.one (show Kd.M (Kd.int .i64) _ _ _ 0 [.int .i64 0] from rfl) (Reps.none _ _)))); intro v152 w10 ho11 hb hg_ hnew_; (try clear hg_); (try clear hnew_); (first | rw [← Ny151.out] at ho11 | (simp only [Int.reduceToNat] at ho11; rw [← Ny151.out] at ho11)); have n0_ := Aside0.mk (Kd.R_elder' (by (with_reducible repeat (first | apply Kd.R_alloc | apply Kd.R_drewN | apply Kd.R_drew)); exact HO150.out) (by first | exact Kd.N_base ho11 | exact Kd.S_base ho11 | exact Kd.R_base ho11) hb); have n1_ := Aside0.mk (Kd.R_lower (Kd.R_new' ho11 (Kd.R_lt (by (with_reducible repeat (first | apply Kd.R_alloc | apply Kd.R_drewN | apply Kd.R_drew)); exact HO150.out))) (below_size (by repeat (first | (with_reducible first | exact HB.out | apply below_alloc | apply pw_below_drewN | apply below_drew1) | exact HB.out)))); have n2_ := Aside0.mk (below_step (by repeat (first | (with_reducible first | exact HB.out | apply below_alloc | apply pw_below_drewN | apply below_drew1) | exact HB.out)) hb); clear HO150; clear HB; have HO150 := n0_; have HO153 := n1_; have HB := n2_; clear n0_ n1_ n2_; (try clear hb); (try clear ho11); obtain ⟨Ao12, co12, eo12⟩ := Kd.R_slice HO150.out; subst eo12; obtain ⟨Ao13, co13, eo13⟩ := Kd.R_slice HO153.out; subst eo13) | ((with_reducible refine gate_dst (N := 4) rfl ?_); refine Kd.N_lit (Kd.slice 3 (Kd.int .i64)) _ 30 ?hg (N' := 4) ?hd (xs := ([y148, y151] : List (List Int))) (inner := [.slice Ao12 y148.length co12, .slice Ao13 y151.length co13]) (ok := (fun _ => True)) (okp := (fun _ => True)) ?hr ?hp (fun _ hk => hk) ((show ∀ k_, w10.heap.size ≤ k_ → (fun _ => True) k_ from fun k_ hk => trivial) _ (Nat.le_refl _)) (Below.refl _ _) (Nat.le_refl _) (by simp) ?_; (case hd => rfl); (case hg => rfl); (case hr => first | (go_simp; done) | (go_simp; rfl)); (case hp => exact (Reps.one (show Kd.FK (Kd.slice 3 (Kd.int .i64)) _ _ y148 [.slice Ao12 y148.length co12] from (Kd.FK_slice_mk (Kd.R_reads' (Kd.R_mono (ok' := (fun _ => True)) (HO150.out) (fun k_ hk => trivial))).2.1 (Kd.R_F (Kd.R_mono (ok' := (fun _ => True)) (HO150.out) (fun k_ hk => trivial))))) (Reps.one (show Kd.FK (Kd.slice 3 (Kd.int .i64)) _ _ y151 [.slice Ao13 y151.length co13] from (Kd.FK_slice_mk (Kd.R_reads' (Kd.R_mono (ok' := (fun _ => True)) (HO153.out) (fun k_ hk => trivial))).2.1 (Kd.R_F (Kd.R_mono (ok' := (fun _ => True)) (HO153.out) (fun k_ hk => trivial))))) (Reps.none _ _)))); intro v155 w14 ho15 hb hg_ hnew_; (try clear hg_); (try clear hnew_); (first | rw [← Ny154.out] at ho15 | (simp only [Int.reduceToNat] at ho15; rw [← Ny154.out] at ho15)); have n0_ := Aside0.mk (Kd.N_lower ho15 (below_size (by repeat (first | (with_reducible first | exact HB.out | apply below_alloc | apply pw_below_drewN | apply below_drew1) | exact HB.out)))); have n1_ := Aside0.mk (below_step (by repeat (first | (with_reducible first | exact HB.out | apply below_alloc | apply pw_below_drewN | apply below_drew1) | exact HB.out)) hb); clear HB; clear HO150; clear HO153; have HO156 := n0_; have HB := n1_; clear n0_ n1_; (try clear hb); (try clear ho15); obtain ⟨Ao16, co16, eo16⟩ := Kd.N_slice HO156.out; subst eo16) | ((with_reducible refine gate_callee (f := 19) rfl ?_); refine goesL_ (some 6) rfl rfl Try.func19 (by kernel_rfl) rfl #[.slice Ao16 y154.length co16] rfl (by (try simp only [List.map_toArray, List.map_cons, List.map_nil]); first | done | rfl | (simp only [List.length_drop, List.length_take]; rfl)) ?_; (with_reducible refine (mult_Validate.calls k _ _ y154 t157 _ ?side1 ?side2 A1.out).mono ?_); (case side1 => repeat (first | exact (Kd.N_reads' HO156.out).2.2 | (with_reducible refine Kd.C_alloc ?_ _) | (with_reducible refine Kd.C_drewN ?_ _) | (with_reducible refine Kd.C_drew ?_))); (case side2 => exact (Kd.N_reads' HO156.out).2.1); rintro e w' ⟨rfl, ⟨nd, rfl⟩⟩; refine ⟨_, rfl, ?_⟩) | (go_at_call 20; (with_reducible refine (mult_Identity.calls k _ _ y154 t158 _ ?side1 ?side2 A3.out).mono ?_); (case side1 => repeat (first | exact (Kd.N_reads' HO156.out).2.2 | (with_reducible refine Kd.C_alloc ?_ _) | (with_reducible refine Kd.C_drewN ?_ _) | (with_reducible refine Kd.C_drew ?_))); (case side2 => exact (Kd.N_reads' HO156.out).2.1); rintro e w' ⟨rfl, ⟨nd, rfl⟩⟩) | (go_at_call 30; (with_reducible refine (mult_Omega.calls k _ _ y154 1 t159 _ ?side1 ?side2 A5.out).mono ?_); (case side1 => repeat (first | exact (Kd.N_reads' HO156.out).2.2 | (with_reducible refine Kd.C_alloc ?_ _) | (with_reducible refine Kd.C_drewN ?_ _) | (with_reducible refine Kd.C_drew ?_))); (case side2 => exact (Kd.N_reads' HO156.out).2.1); rintro e w17 ⟨rfl, hb⟩; have n0_ := Aside0.mk (Kd.N_below (by (with_reducible repeat (first | apply Kd.N_alloc | apply Kd.N_drewN | apply Kd.N_drew)); exact HO156.out) hb); have n1_ := Aside0.mk (below_step (by repeat (first | (with_reducible first | exact HB.out | apply below_alloc | apply pw_below_drewN | apply below_drew1) | exact HB.out)) hb); clear HO156; clear HB; have HO156 := n0_; have HB := n1_; clear n0_ n1_; (try clear hb); (try clear hb2); (try clear hk); (try clear hi)) | (go_at_call 21; (with_reducible refine (mult_Zero.calls k _ _ y154 t160 _ ?side1 ?side2 A7.out).mono ?_); (case side1 => repeat (first | exact (Kd.N_reads' HO156.out).2.2 | (with_reducible refine Kd.C_alloc ?_ _) | (with_reducible refine Kd.C_drewN ?_ _) | (with_reducible refine Kd.C_drew ?_))); (case side2 => exact (Kd.N_reads' HO156.out).2.1); rintro e w' ⟨rfl, ⟨nd, rfl⟩⟩))
    go_ret
    exact ⟨by first | rfl | (simp [errW_none, errW_some] <;> rfl) | (simp [*, errW_none, errW_some] <;> rfl), by repeat (first | (with_reducible first | exact HB.out | apply below_alloc | apply pw_below_drewN | apply below_drew1) | exact HB.out)⟩
   ·rw [if_neg c6] at H
    have c6b0 : (t159 == 0) = false := beq_eq_false_iff_ne.mpr c6
    have c6b1 : (t159 != 0) = true := bne_iff_ne.mpr c6
    obtain rfl := Option.some.inj H
    go_enter Try.func16, Try.ntmps16
    go_wp2_with (first | ((with_reducible refine gate_dst (N := 2) rfl ?_); refine Kd.R_lit (Kd.int .i64) _ 3 ?hg (N := 2) ?hd (xs := ([0, 1] : List Int)) (inner := [.int .i64 0, .int .i64 1]) (ok := fun _ => True) (okp := fun _ => True) ?hr ?hp (fun _ hk => hk) trivial (Below.refl _ _) (Nat.le_refl _) (by simp) ?_; (case hd => rfl); (case hg => rfl); (case hr => first | (go_simp; done) | (go_simp; rfl)); (case hp => exact (Reps.one (show Kd.M (Kd.int .i64) _ _ _ 0 [.int .i64 0] from rfl) (Reps.one (show Kd.M (Kd.int .i64) _ _ _ 1 [.int .i64 1] from rfl) (Reps.none _ _)))); intro v149 w18 ho19 hb hg_ hnew_; (try clear hg_); (try clear hnew_); (first | rw [← Ny148.out] at ho19 | (simp only [Int.reduceToNat] at ho19; rw [← Ny148.out] at ho19)); have n0_ := Aside0.mk (Kd.R_lower ho19 (below_size (by repeat (first | (with_reducible first | exact HB.out | apply below_alloc | apply pw_below_drewN | apply below_drew1) | exact HB.out)))); have n1_ := Aside0.mk (below_step (by repeat (first | (with_reducible first | exact HB.out | apply below_alloc | apply pw_below_drewN | apply below_drew1) | exact HB.out)) hb); clear HB; have HO150 := n0_; have HB := n1_; clear n0_ n1_; (try clear hb); (try clear ho19)) | ((with_reducible refine gate_dst (N := 3) rfl ?_); refine Kd.R_lit (Kd.int .i64) _ 3 ?hg (N := 3) ?hd (xs := ([1, 0] : List Int)) (inner := [.int .i64 1, .int .i64 0]) (ok := fun _ => True) (okp := fun _ => True) ?hr ?hp (fun _ hk => hk) trivial (Below.refl _ _) (Nat.le_refl _) (by simp) ?_; (case hd => rfl); (case hg => rfl); (case hr => first | (go_simp; done) | (go_simp; rfl)); (case hp => exact (Reps.one (show Kd.M (Kd.int .i64) _ _ _ 1 [.int .i64 1] from rfl) (Reps.one (show Kd.M (Kd.int .i64) _ _ _ 0 [.int .i64 0] from rfl) (Reps.none _ _)))); intro v152 w20 ho21 hb hg_ hnew_; (try clear hg_); (try clear hnew_); (first | rw [← Ny151.out] at ho21 | (simp only [Int.reduceToNat] at ho21; rw [← Ny151.out] at ho21)); have n0_ := Aside0.mk (Kd.R_elder' (by (with_reducible repeat (first | apply Kd.R_alloc | apply Kd.R_drewN | apply Kd.R_drew)); exact HO150.out) (by first | exact Kd.N_base ho21 | exact Kd.S_base ho21 | exact Kd.R_base ho21) hb); have n1_ := Aside0.mk (Kd.R_lower (Kd.R_new' ho21 (Kd.R_lt (by (with_reducible repeat (first | apply Kd.R_alloc | apply Kd.R_drewN | apply Kd.R_drew)); exact HO150.out))) (below_size (by repeat (first | (with_reducible first | exact HB.out | apply below_alloc | apply pw_below_drewN | apply below_drew1) | exact HB.out)))); have n2_ := Aside0.mk (below_step (by repeat (first | (with_reducible first | exact HB.out | apply below_alloc | apply pw_below_drewN | apply below_drew1) | exact HB.out)) hb); clear HO150; clear HB; have HO150 := n0_; have HO153 := n1_; have HB := n2_; clear n0_ n1_ n2_; (try clear hb); (try clear ho21); obtain ⟨Ao22, co22, eo22⟩ := Kd.R_slice HO150.out; subst eo22; obtain ⟨Ao23, co23, eo23⟩ := Kd.R_slice HO153.out; subst eo23) | ((with_reducible refine gate_dst (N := 4) rfl ?_); refine Kd.N_lit (Kd.slice 3 (Kd.int .i64)) _ 30 ?hg (N' := 4) ?hd (xs := ([y148, y151] : List (List Int))) (inner := [.slice Ao22 y148.length co22, .slice Ao23 y151.length co23]) (ok := (fun _ => True)) (okp := (fun _ => True)) ?hr ?hp (fun _ hk => hk) ((show ∀ k_, w20.heap.size ≤ k_ → (fun _ => True) k_ from fun k_ hk => trivial) _ (Nat.le_refl _)) (Below.refl _ _) (Nat.le_refl _) (by simp) ?_; (case hd => rfl); (case hg => rfl); (case hr => first | (go_simp; done) | (go_simp; rfl)); (case hp => exact (Reps.one (show Kd.FK (Kd.slice 3 (Kd.int .i64)) _ _ y148 [.slice Ao22 y148.length co22] from (Kd.FK_slice_mk (Kd.R_reads' (Kd.R_mono (ok' := (fun _ => True)) (HO150.out) (fun k_ hk => trivial))).2.1 (Kd.R_F (Kd.R_mono (ok' := (fun _ => True)) (HO150.out) (fun k_ hk => trivial))))) (Reps.one (show Kd.FK (Kd.slice 3 (Kd.int .i64)) _ _ y151 [.slice Ao23 y151.length co23] from (Kd.FK_slice_mk (Kd.R_reads' (Kd.R_mono (ok' := (fun _ => True)) (HO153.out) (fun k_ hk => trivial))).2.1 (Kd.R_F (Kd.R_mono (ok' := (fun _ => True)) (HO153.out) (fun k_ hk => trivial))))) (Reps.none _ _)))); intro v155 w24 ho25 hb hg_ hnew_; (try clear hg_); (try clear hnew_); (first | rw [← Ny154.out] at ho25 | (simp only [Int.reduceToNat] at ho25; rw [← Ny154.out] at ho25)); have n0_ := Aside0.mk (Kd.N_lower ho25 (below_size (by repeat (first | (with_reducible first | exact HB.out | apply below_alloc | apply pw_below_drewN | apply below_drew1) | exact HB.out)))); have n1_ := Aside0.mk (below_step (by repeat (first | (with_reducible first | exact HB.out | apply below_alloc | apply pw_below_drewN | apply below_drew1) | exact HB.out)) hb); clear HB; clear HO150; clear HO153; have HO156 := n0_; have HB := n1_; clear n0_ n1_; (try clear hb); (try clear ho25); obtain ⟨Ao26, co26, eo26⟩ := Kd.N_slice HO156.out; subst eo26) | ((with_reducible refine gate_callee (f := 19) rfl ?_); refine goesL_ (some 6) rfl rfl Try.func19 (by kernel_rfl) rfl #[.slice Ao26 y154.length co26] rfl (by (try simp only [List.map_toArray, List.map_cons, List.map_nil]); first | done | rfl | (simp only [List.length_drop, List.length_take]; rfl)) ?_; (with_reducible refine (mult_Validate.calls k _ _ y154 t157 _ ?side1 ?side2 A1.out).mono ?_); (case side1 => repeat (first | exact (Kd.N_reads' HO156.out).2.2 | (with_reducible refine Kd.C_alloc ?_ _) | (with_reducible refine Kd.C_drewN ?_ _) | (with_reducible refine Kd.C_drew ?_))); (case side2 => exact (Kd.N_reads' HO156.out).2.1); rintro e w' ⟨rfl, ⟨nd, rfl⟩⟩; refine ⟨_, rfl, ?_⟩) | (go_at_call 20; (with_reducible refine (mult_Identity.calls k _ _ y154 t158 _ ?side1 ?side2 A3.out).mono ?_); (case side1 => repeat (first | exact (Kd.N_reads' HO156.out).2.2 | (with_reducible refine Kd.C_alloc ?_ _) | (with_reducible refine Kd.C_drewN ?_ _) | (with_reducible refine Kd.C_drew ?_))); (case side2 => exact (Kd.N_reads' HO156.out).2.1); rintro e w' ⟨rfl, ⟨nd, rfl⟩⟩) | (go_at_call 30; (with_reducible refine (mult_Omega.calls k _ _ y154 1 t159 _ ?side1 ?side2 A5.out).mono ?_); (case side1 => repeat (first | exact (Kd.N_reads' HO156.out).2.2 | (with_reducible refine Kd.C_alloc ?_ _) | (with_reducible refine Kd.C_drewN ?_ _) | (with_reducible refine Kd.C_drew ?_))); (case side2 => exact (Kd.N_reads' HO156.out).2.1); rintro e w27 ⟨rfl, hb⟩; have n0_ := Aside0.mk (Kd.N_below (by (with_reducible repeat (first | apply Kd.N_alloc | apply Kd.N_drewN | apply Kd.N_drew)); exact HO156.out) hb); have n1_ := Aside0.mk (below_step (by repeat (first | (with_reducible first | exact HB.out | apply below_alloc | apply pw_below_drewN | apply below_drew1) | exact HB.out)) hb); clear HO156; clear HB; have HO156 := n0_; have HB := n1_; clear n0_ n1_; (try clear hb); (try clear hb2); (try clear hk); (try clear hi)))
    go_ret
    exact ⟨by first | rfl | (simp [errW_none, errW_some] <;> rfl) | (simp [*, errW_none, errW_some] <;> rfl), by repeat (first | (with_reducible first | exact HB.out | apply below_alloc | apply pw_below_drewN | apply below_drew1) | exact HB.out)⟩
  ·rw [if_neg c4] at H
   have c4b0 : (t158 == 0) = false := beq_eq_false_iff_ne.mpr c4
   have c4b1 : (t158 != 0) = true := bne_iff_ne.mpr c4
   obtain rfl := Option.some.inj H
   go_enter Try.func16, Try.ntmps16
   go_wp2_with (first | ((with_reducible refine gate_dst (N := 2) rfl ?_); refine Kd.R_lit (Kd.int .i64) _ 3 ?hg (N := 2) ?hd (xs := ([0, 1] : List Int)) (inner := [.int .i64 0, .int .i64 1]) (ok := fun _ => True) (okp := fun _ => True) ?hr ?hp (fun _ hk => hk) trivial (Below.refl _ _) (Nat.le_refl _) (by simp) ?_; (case hd => rfl); (case hg => rfl); (case hr => first | (go_simp; done) | (go_simp; rfl)); (case hp => exact (Reps.one (show Kd.M (Kd.int .i64) _ _ _ 0 [.int .i64 0] from rfl) (Reps.one (show Kd.M (Kd.int .i64) _ _ _ 1 [.int .i64 1] from rfl) (Reps.none _ _)))); intro v149 w28 ho29 hb hg_ hnew_; (try clear hg_); (try clear hnew_); (first | rw [← Ny148.out] at ho29 | (simp only [Int.reduceToNat] at ho29; rw [← Ny148.out] at ho29)); have n0_ := Aside0.mk (Kd.R_lower ho29 (below_size (by repeat (first | (with_reducible first | exact HB.out | apply below_alloc | apply pw_below_drewN | apply below_drew1) | exact HB.out)))); have n1_ := Aside0.mk (below_step (by repeat (first | (with_reducible first | exact HB.out | apply below_alloc | apply pw_below_drewN | apply below_drew1) | exact HB.out)) hb); clear HB; have HO150 := n0_; have HB := n1_; clear n0_ n1_; (try clear hb); (try clear ho29)) | ((with_reducible refine gate_dst (N := 3) rfl ?_); refine Kd.R_lit (Kd.int .i64) _ 3 ?hg (N := 3) ?hd (xs := ([1, 0] : List Int)) (inner := [.int .i64 1, .int .i64 0]) (ok := fun _ => True) (okp := fun _ => True) ?hr ?hp (fun _ hk => hk) trivial (Below.refl _ _) (Nat.le_refl _) (by simp) ?_; (case hd => rfl); (case hg => rfl); (case hr => first | (go_simp; done) | (go_simp; rfl)); (case hp => exact (Reps.one (show Kd.M (Kd.int .i64) _ _ _ 1 [.int .i64 1] from rfl) (Reps.one (show Kd.M (Kd.int .i64) _ _ _ 0 [.int .i64 0] from rfl) (Reps.none _ _)))); intro v152 w30 ho31 hb hg_ hnew_; (try clear hg_); (try clear hnew_); (first | rw [← Ny151.out] at ho31 | (simp only [Int.reduceToNat] at ho31; rw [← Ny151.out] at ho31)); have n0_ := Aside0.mk (Kd.R_elder' (by (with_reducible repeat (first | apply Kd.R_alloc | apply Kd.R_drewN | apply Kd.R_drew)); exact HO150.out) (by first | exact Kd.N_base ho31 | exact Kd.S_base ho31 | exact Kd.R_base ho31) hb); have n1_ := Aside0.mk (Kd.R_lower (Kd.R_new' ho31 (Kd.R_lt (by (with_reducible repeat (first | apply Kd.R_alloc | apply Kd.R_drewN | apply Kd.R_drew)); exact HO150.out))) (below_size (by repeat (first | (with_reducible first | exact HB.out | apply below_alloc | apply pw_below_drewN | apply below_drew1) | exact HB.out)))); have n2_ := Aside0.mk (below_step (by repeat (first | (with_reducible first | exact HB.out | apply below_alloc | apply pw_below_drewN | apply below_drew1) | exact HB.out)) hb); clear HO150; clear HB; have HO150 := n0_; have HO153 := n1_; have HB := n2_; clear n0_ n1_ n2_; (try clear hb); (try clear ho31); obtain ⟨Ao32, co32, eo32⟩ := Kd.R_slice HO150.out; subst eo32; obtain ⟨Ao33, co33, eo33⟩ := Kd.R_slice HO153.out; subst eo33) | ((with_reducible refine gate_dst (N := 4) rfl ?_); refine Kd.N_lit (Kd.slice 3 (Kd.int .i64)) _ 30 ?hg (N' := 4) ?hd (xs := ([y148, y151] : List (List Int))) (inner := [.slice Ao32 y148.length co32, .slice Ao33 y151.length co33]) (ok := (fun _ => True)) (okp := (fun _ => True)) ?hr ?hp (fun _ hk => hk) ((show ∀ k_, w30.heap.size ≤ k_ → (fun _ => True) k_ from fun k_ hk => trivial) _ (Nat.le_refl _)) (Below.refl _ _) (Nat.le_refl _) (by simp) ?_; (case hd => rfl); (case hg => rfl); (case hr => first | (go_simp; done) | (go_simp; rfl)); (case hp => exact (Reps.one (show Kd.FK (Kd.slice 3 (Kd.int .i64)) _ _ y148 [.slice Ao32 y148.length co32] from (Kd.FK_slice_mk (Kd.R_reads' (Kd.R_mono (ok' := (fun _ => True)) (HO150.out) (fun k_ hk => trivial))).2.1 (Kd.R_F (Kd.R_mono (ok' := (fun _ => True)) (HO150.out) (fun k_ hk => trivial))))) (Reps.one (show Kd.FK (Kd.slice 3 (Kd.int .i64)) _ _ y151 [.slice Ao33 y151.length co33] from (Kd.FK_slice_mk (Kd.R_reads' (Kd.R_mono (ok' := (fun _ => True)) (HO153.out) (fun k_ hk => trivial))).2.1 (Kd.R_F (Kd.R_mono (ok' := (fun _ => True)) (HO153.out) (fun k_ hk => trivial))))) (Reps.none _ _)))); intro v155 w34 ho35 hb hg_ hnew_; (try clear hg_); (try clear hnew_); (first | rw [← Ny154.out] at ho35 | (simp only [Int.reduceToNat] at ho35; rw [← Ny154.out] at ho35)); have n0_ := Aside0.mk (Kd.N_lower ho35 (below_size (by repeat (first | (with_reducible first | exact HB.out | apply below_alloc | apply pw_below_drewN | apply below_drew1) | exact HB.out)))); have n1_ := Aside0.mk (below_step (by repeat (first | (with_reducible first | exact HB.out | apply below_alloc | apply pw_below_drewN | apply below_drew1) | exact HB.out)) hb); clear HB; clear HO150; clear HO153; have HO156 := n0_; have HB := n1_; clear n0_ n1_; (try clear hb); (try clear ho35); obtain ⟨Ao36, co36, eo36⟩ := Kd.N_slice HO156.out; subst eo36) | ((with_reducible refine gate_callee (f := 19) rfl ?_); refine goesL_ (some 6) rfl rfl Try.func19 (by kernel_rfl) rfl #[.slice Ao36 y154.length co36] rfl (by (try simp only [List.map_toArray, List.map_cons, List.map_nil]); first | done | rfl | (simp only [List.length_drop, List.length_take]; rfl)) ?_; (with_reducible refine (mult_Validate.calls k _ _ y154 t157 _ ?side1 ?side2 A1.out).mono ?_); (case side1 => repeat (first | exact (Kd.N_reads' HO156.out).2.2 | (with_reducible refine Kd.C_alloc ?_ _) | (with_reducible refine Kd.C_drewN ?_ _) | (with_reducible refine Kd.C_drew ?_))); (case side2 => exact (Kd.N_reads' HO156.out).2.1); rintro e w' ⟨rfl, ⟨nd, rfl⟩⟩; refine ⟨_, rfl, ?_⟩) | (go_at_call 20; (with_reducible refine (mult_Identity.calls k _ _ y154 t158 _ ?side1 ?side2 A3.out).mono ?_); (case side1 => repeat (first | exact (Kd.N_reads' HO156.out).2.2 | (with_reducible refine Kd.C_alloc ?_ _) | (with_reducible refine Kd.C_drewN ?_ _) | (with_reducible refine Kd.C_drew ?_))); (case side2 => exact (Kd.N_reads' HO156.out).2.1); rintro e w' ⟨rfl, ⟨nd, rfl⟩⟩))
   go_ret
   exact ⟨by first | rfl | (simp [errW_none, errW_some] <;> rfl) | (simp [*, errW_none, errW_some] <;> rfl), by repeat (first | (with_reducible first | exact HB.out | apply below_alloc | apply pw_below_drewN | apply below_drew1) | exact HB.out)⟩
 ·rw [if_neg c2] at H
  have c2b0 : (t157 == 0) = false := beq_eq_false_iff_ne.mpr c2
  have c2b1 : (t157 != 0) = true := bne_iff_ne.mpr c2
  obtain rfl := Option.some.inj H
  go_enter Try.func16, Try.ntmps16
  go_wp2_with (first | ((with_reducible refine gate_dst (N := 2) rfl ?_); refine Kd.R_lit (Kd.int .i64) _ 3 ?hg (N := 2) ?hd (xs := ([0, 1] : List Int)) (inner := [.int .i64 0, .int .i64 1]) (ok := fun _ => True) (okp := fun _ => True) ?hr ?hp (fun _ hk => hk) trivial (Below.refl _ _) (Nat.le_refl _) (by simp) ?_; (case hd => rfl); (case hg => rfl); (case hr => first | (go_simp; done) | (go_simp; rfl)); (case hp => exact (Reps.one (show Kd.M (Kd.int .i64) _ _ _ 0 [.int .i64 0] from rfl) (Reps.one (show Kd.M (Kd.int .i64) _ _ _ 1 [.int .i64 1] from rfl) (Reps.none _ _)))); intro v149 w37 ho38 hb hg_ hnew_; (try clear hg_); (try clear hnew_); (first | rw [← Ny148.out] at ho38 | (simp only [Int.reduceToNat] at ho38; rw [← Ny148.out] at ho38)); have n0_ := Aside0.mk (Kd.R_lower ho38 (below_size (by repeat (first | (with_reducible first | exact HB.out | apply below_alloc | apply pw_below_drewN | apply below_drew1) | exact HB.out)))); have n1_ := Aside0.mk (below_step (by repeat (first | (with_reducible first | exact HB.out | apply below_alloc | apply pw_below_drewN | apply below_drew1) | exact HB.out)) hb); clear HB; have HO150 := n0_; have HB := n1_; clear n0_ n1_; (try clear hb); (try clear ho38)) | ((with_reducible refine gate_dst (N := 3) rfl ?_); refine Kd.R_lit (Kd.int .i64) _ 3 ?hg (N := 3) ?hd (xs := ([1, 0] : List Int)) (inner := [.int .i64 1, .int .i64 0]) (ok := fun _ => True) (okp := fun _ => True) ?hr ?hp (fun _ hk => hk) trivial (Below.refl _ _) (Nat.le_refl _) (by simp) ?_; (case hd => rfl); (case hg => rfl); (case hr => first | (go_simp; done) | (go_simp; rfl)); (case hp => exact (Reps.one (show Kd.M (Kd.int .i64) _ _ _ 1 [.int .i64 1] from rfl) (Reps.one (show Kd.M (Kd.int .i64) _ _ _ 0 [.int .i64 0] from rfl) (Reps.none _ _)))); intro v152 w39 ho40 hb hg_ hnew_; (try clear hg_); (try clear hnew_); (first | rw [← Ny151.out] at ho40 | (simp only [Int.reduceToNat] at ho40; rw [← Ny151.out] at ho40)); have n0_ := Aside0.mk (Kd.R_elder' (by (with_reducible repeat (first | apply Kd.R_alloc | apply Kd.R_drewN | apply Kd.R_drew)); exact HO150.out) (by first | exact Kd.N_base ho40 | exact Kd.S_base ho40 | exact Kd.R_base ho40) hb); have n1_ := Aside0.mk (Kd.R_lower (Kd.R_new' ho40 (Kd.R_lt (by (with_reducible repeat (first | apply Kd.R_alloc | apply Kd.R_drewN | apply Kd.R_drew)); exact HO150.out))) (below_size (by repeat (first | (with_reducible first | exact HB.out | apply below_alloc | apply pw_below_drewN | apply below_drew1) | exact HB.out)))); have n2_ := Aside0.mk (below_step (by repeat (first | (with_reducible first | exact HB.out | apply below_alloc | apply pw_below_drewN | apply below_drew1) | exact HB.out)) hb); clear HO150; clear HB; have HO150 := n0_; have HO153 := n1_; have HB := n2_; clear n0_ n1_ n2_; (try clear hb); (try clear ho40); obtain ⟨Ao41, co41, eo41⟩ := Kd.R_slice HO150.out; subst eo41; obtain ⟨Ao42, co42, eo42⟩ := Kd.R_slice HO153.out; subst eo42) | ((with_reducible refine gate_dst (N := 4) rfl ?_); refine Kd.N_lit (Kd.slice 3 (Kd.int .i64)) _ 30 ?hg (N' := 4) ?hd (xs := ([y148, y151] : List (List Int))) (inner := [.slice Ao41 y148.length co41, .slice Ao42 y151.length co42]) (ok := (fun _ => True)) (okp := (fun _ => True)) ?hr ?hp (fun _ hk => hk) ((show ∀ k_, w39.heap.size ≤ k_ → (fun _ => True) k_ from fun k_ hk => trivial) _ (Nat.le_refl _)) (Below.refl _ _) (Nat.le_refl _) (by simp) ?_; (case hd => rfl); (case hg => rfl); (case hr => first | (go_simp; done) | (go_simp; rfl)); (case hp => exact (Reps.one (show Kd.FK (Kd.slice 3 (Kd.int .i64)) _ _ y148 [.slice Ao41 y148.length co41] from (Kd.FK_slice_mk (Kd.R_reads' (Kd.R_mono (ok' := (fun _ => True)) (HO150.out) (fun k_ hk => trivial))).2.1 (Kd.R_F (Kd.R_mono (ok' := (fun _ => True)) (HO150.out) (fun k_ hk => trivial))))) (Reps.one (show Kd.FK (Kd.slice 3 (Kd.int .i64)) _ _ y151 [.slice Ao42 y151.length co42] from (Kd.FK_slice_mk (Kd.R_reads' (Kd.R_mono (ok' := (fun _ => True)) (HO153.out) (fun k_ hk => trivial))).2.1 (Kd.R_F (Kd.R_mono (ok' := (fun _ => True)) (HO153.out) (fun k_ hk => trivial))))) (Reps.none _ _)))); intro v155 w43 ho44 hb hg_ hnew_; (try clear hg_); (try clear hnew_); (first | rw [← Ny154.out] at ho44 | (simp only [Int.reduceToNat] at ho44; rw [← Ny154.out] at ho44)); have n0_ := Aside0.mk (Kd.N_lower ho44 (below_size (by repeat (first | (with_reducible first | exact HB.out | apply below_alloc | apply pw_below_drewN | apply below_drew1) | exact HB.out)))); have n1_ := Aside0.mk (below_step (by repeat (first | (with_reducible first | exact HB.out | apply below_alloc | apply pw_below_drewN | apply below_drew1) | exact HB.out)) hb); clear HB; clear HO150; clear HO153; have HO156 := n0_; have HB := n1_; clear n0_ n1_; (try clear hb); (try clear ho44); obtain ⟨Ao45, co45, eo45⟩ := Kd.N_slice HO156.out; subst eo45) | ((with_reducible refine gate_callee (f := 19) rfl ?_); refine goesL_ (some 6) rfl rfl Try.func19 (by kernel_rfl) rfl #[.slice Ao45 y154.length co45] rfl (by (try simp only [List.map_toArray, List.map_cons, List.map_nil]); first | done | rfl | (simp only [List.length_drop, List.length_take]; rfl)) ?_; (with_reducible refine (mult_Validate.calls k _ _ y154 t157 _ ?side1 ?side2 A1.out).mono ?_); (case side1 => repeat (first | exact (Kd.N_reads' HO156.out).2.2 | (with_reducible refine Kd.C_alloc ?_ _) | (with_reducible refine Kd.C_drewN ?_ _) | (with_reducible refine Kd.C_drew ?_))); (case side2 => exact (Kd.N_reads' HO156.out).2.1); rintro e w' ⟨rfl, ⟨nd, rfl⟩⟩; refine ⟨_, rfl, ?_⟩))
  go_ret
  exact ⟨by first | rfl | (simp [errW_none, errW_some] <;> rfl) | (simp [*, errW_none, errW_some] <;> rfl), by repeat (first | (with_reducible first | exact HB.out | apply below_alloc | apply pw_below_drewN | apply below_drew1) | exact HB.out)⟩

/-! ### semigroupref14_Shape: function 23 -/
mutual
def semigroupref14_Shape.l0 : Nat → List (List Int) → List (List Int) → Int → Int → Option (Int)
 | 0, _, _, _, _ => none
 | k + 1, x0, x13, x14, x15 => if x15 < x14 then (if 0 ≤ x15 then (if x15 < (x13.length : Int) then (if ((rd_L1 x13 x15).length : Int) = (x0.length : Int) then (semigroupref14_Shape.l1 k x0 x13 x14 x15 (rd_L1 x13 x15) ((rd_L1 x13 x15).length : Int) 0) else (some 4)) else (none)) else (none)) else (some 0)
def semigroupref14_Shape.l1 : Nat → List (List Int) → List (List Int) → Int → Int → List Int → Int → Int → Option (Int)
 | 0, _, _, _, _, _, _, _ => none
 | k + 1, x0, x13, x14, x15, x24, x25, x26 => if x26 < x25 then (if 0 ≤ x26 then (if x26 < (x24.length : Int) then (if (rd x24 x26) < 0 then (some 4) else (if (rd x24 x26) ≥ (x0.length : Int) then (some 4) else (semigroupref14_Shape.l1 k x0 x13 x14 x15 x24 x25 (wrap64 (x26 + 1))))) else (none)) else (none)) else (semigroupref14_Shape.l0 k x0 x13 x14 (wrap64 (x15 + 1)))
end
def semigroupref14_Shape.f (k : Nat) (l0 : List (List Int)) : Option (Int) := if (l0.length : Int) > 400 then (some 3) else (if (l0.length : Int) = 0 then (some 4) else (semigroupref14_Shape.l0 k l0 l0 (l0.length : Int) 0))
theorem semigroupref14_Shape.mono_l : ∀ k, (∀ y0 y1 y2 y3, LeO (semigroupref14_Shape.l0 k y0 y1 y2 y3) (semigroupref14_Shape.l0 (k + 1) y0 y1 y2 y3)) ∧ (∀ y0 y1 y2 y3 y4 y5 y6, LeO (semigroupref14_Shape.l1 k y0 y1 y2 y3 y4 y5 y6) (semigroupref14_Shape.l1 (k + 1) y0 y1 y2 y3 y4 y5 y6))
 | 0 => ⟨fun _ _ _ _ r h => by simp [semigroupref14_Shape.l0] at h, fun _ _ _ _ _ _ _ r h => by simp [semigroupref14_Shape.l1] at h⟩
 | k + 1 => by
  obtain ⟨ih0, ih1⟩ := semigroupref14_Shape.mono_l k
  refine ⟨?_, ?_⟩
  ·intro y0 y1 y2 y3
   unfold semigroupref14_Shape.l0
   repeat' first
   | (with_reducible exact ih0 _ _ _ _)
   | (with_reducible exact ih1 _ _ _ _ _ _ _)
   | (with_reducible exact LeO.refl _)
   | (with_reducible exact LeO.none _)
   | (with_reducible refine LeO.ite ?_ ?_)
   | (with_reducible refine LeO.bind ?_ (fun _ => ?_))
   | exact ih0 _ _ _ _
   | exact ih1 _ _ _ _ _ _ _
   | exact LeO.none _
   | refine LeO.ite ?_ ?_
   | refine LeO.bind ?_ (fun _ => ?_)
  ·intro y0 y1 y2 y3 y4 y5 y6
   unfold semigroupref14_Shape.l1
   repeat' first
   | (with_reducible exact ih0 _ _ _ _)
   | (with_reducible exact ih1 _ _ _ _ _ _ _)
   | (with_reducible exact LeO.refl _)
   | (with_reducible exact LeO.none _)
   | (with_reducible refine LeO.ite ?_ ?_)
   | (with_reducible refine LeO.bind ?_ (fun _ => ?_))
   | exact ih0 _ _ _ _
   | exact ih1 _ _ _ _ _ _ _
   | exact LeO.none _
   | refine LeO.ite ?_ ?_
   | refine LeO.bind ?_ (fun _ => ?_)
theorem semigroupref14_Shape.mono : ∀ a0 k, LeO (semigroupref14_Shape.f k a0) (semigroupref14_Shape.f (k + 1) a0) := by
 intro a0 k
 obtain ⟨ih0, ih1⟩ := semigroupref14_Shape.mono_l k
 unfold semigroupref14_Shape.f
 repeat' first
   | (with_reducible exact ih0 _ _ _ _)
   | (with_reducible exact ih1 _ _ _ _ _ _ _)
   | (with_reducible exact LeO.refl _)
   | (with_reducible exact LeO.none _)
   | (with_reducible refine LeO.ite ?_ ?_)
   | (with_reducible refine LeO.bind ?_ (fun _ => ?_))
   | exact ih0 _ _ _ _
   | exact ih1 _ _ _ _ _ _ _
   | exact LeO.none _
   | refine LeO.ite ?_ ?_
   | refine LeO.bind ?_ (fun _ => ?_)
set_option maxHeartbeats 8000000 in
set_option maxRecDepth 100000 in
theorem semigroupref14_Shape.calls (k : Nat) (A0 : Option Addr) (c0 : Nat) (l0 : List (List Int)) (r : Int) (w : World) (hr0 : Kd.C (Kd.slice 3 (Kd.int .i64)) w A0 l0.length l0) (hc0 : l0.length ≤ c0) (h : semigroupref14_Shape.f k l0 = some r) :
  Calls Try.prog 23 #[.slice A0 l0.length c0] w fun e w' => e = .returned (.int .i64 r) ∧ Drawn0 w w' := by
 have HR0 := Aside0.mk hr0
 have HC0 := Aside0.mk hc0
 (try clear hr0); (try clear hc0)
 have H : (if (l0.length : Int) > 400 then (some 3) else (if (l0.length : Int) = 0 then (some 4) else (semigroupref14_Shape.l0 k l0 l0 (l0.length : Int) 0))) = some r := h
 clear h
 by_cases c2 : (l0.length : Int) > 400
 ·rw [if_pos c2] at H
  have c2b0 : decide (400 < (l0.length : Int)) = true := decide_eq_true c2
  have c2b1 : decide (400 < l0.length) = true := decide_eq_true (by omega)
  clear c2
  obtain rfl := Option.some.inj H
  go_enter Try.func23, Try.ntmps23
  go_wp2
  go_ret
  exact ⟨by first | rfl | (simp; done) | (simp [*]; done), by repeat (first | exact Drawn0.refl _ | apply Drawn0.step)⟩
 ·rw [if_neg c2] at H
  have c2b0 : decide (400 < (l0.length : Int)) = false := decide_eq_false c2
  have c2b1 : decide (400 < l0.length) = false := decide_eq_false (by omega)
  clear c2
  by_cases c3 : (l0.length : Int) = 0
  ·rw [if_pos c3] at H
   have c3b0 : ((l0.length : Int) == 0) = true := beq_iff_eq.mpr c3
   have c3b1 : ((l0.length : Int) != 0) = false := bne_eq_false_iff_eq.mpr c3
   clear c3
   obtain rfl := Option.some.inj H
   go_enter Try.func23, Try.ntmps23
   go_wp2
   go_ret
   exact ⟨by first | rfl | (simp; done) | (simp [*]; done), by repeat (first | exact Drawn0.refl _ | apply Drawn0.step)⟩
  ·rw [if_neg c3] at H
   have c3b0 : ((l0.length : Int) == 0) = false := beq_eq_false_iff_ne.mpr c3
   have c3b1 : ((l0.length : Int) != 0) = true := bne_iff_ne.mpr c3
   have c3b2 : ¬ (l0 = []) := fun h_ => c3 (by rw [h_]; rfl)
   have H' := Aside0.mk H
   clear H
   go_enter Try.func23, Try.ntmps23
   go_wp2
   go_loopg [15] k (fun kq v15 w' => ∃ (x15_1 : Int), v15 = .int .i64 x15_1 ∧ Aside0 (semigroupref14_Shape.l0 kq l0 l0 (l0.length : Int) x15_1 = some r) ∧ Aside0 (kq ≤ k) ∧ Drawn0 w w')
   case atStart => exact ⟨(0), (by first | rfl | (simp; done) | (simp [*]; done)), H', ⟨Nat.le_refl _⟩, by repeat (first | exact Drawn0.refl _ | apply Drawn0.step)⟩
   case round =>
    clear H'
    try clear c2
    try clear c2b0
    try clear c2b1
    try clear p2
    try clear c3
    try clear c3b0
    try clear c3b1
    try clear c3b2
    obtain ⟨x15_1, rfl, HA, HK1, ⟨m1, rfl⟩⟩ := hrel
    cases gk with
    | zero => exact absurd HA.out (by simp [semigroupref14_Shape.l0])
    | succ k1 =>
     have H := HA.out
     clear HA
     simp only [semigroupref14_Shape.l0] at H
     by_cases c4 : x15_1 < (l0.length : Int)
     ·rw [if_pos c4] at H
      have c4b0 : decide (x15_1 < (l0.length : Int)) = true := decide_eq_true c4
      clear c4
      by_cases c5 : 0 ≤ x15_1
      ·rw [if_pos c5] at H
       have c5b0 : decide (0 ≤ x15_1) = true := decide_eq_true c5
       clear c5
       by_cases c6 : x15_1 < (l0.length : Int)
       ·rw [if_pos c6] at H
        have c6b0 : decide (x15_1 < (l0.length : Int)) = true := decide_eq_true c6
        clear c6
        by_cases c7 : ((rd_L1 l0 x15_1).length : Int) = (l0.length : Int)
        ·rw [if_pos c7] at H
         have c7b0 : (((rd_L1 l0 x15_1).length : Int) == (l0.length : Int)) = true := beq_iff_eq.mpr c7
         have c7b1 : (((rd_L1 l0 x15_1).length : Int) != (l0.length : Int)) = false := bne_eq_false_iff_eq.mpr c7
         have c7b2 : ((rd_L1 l0 x15_1).length == l0.length) = true := by first | simpa using c7 | (simp at c7 ⊢; omega)
         clear c7
         have H' := Aside0.mk H
         clear H
         have p166 : 0 ≤ (x15_1 : Int) := of_decide_eq_true (by first | (with_reducible assumption) | assumption)
         have q166 : x15_1 < (l0.length : Int) := of_decide_eq_true (by first | (with_reducible assumption) | assumption)
         obtain ⟨ad166, A166_0, c166_0, e166, hx166_0, hl166_0, hi166_0⟩ := at_L1 HR0.out x15_1 p166 q166
         cases e166
         have HR166_0 := Aside0.mk hi166_0
         have HC166_0 := Aside0.mk hl166_0
         (try clear hi166_0); (try clear hl166_0)
         replace p166 := eq_true p166
         replace q166 := eq_true q166
         go_wp2
         go_loopg [26] k1 (fun kq v26 w' => ∃ (x26_2 : Int), v26 = .int .i64 x26_2 ∧ Aside0 (semigroupref14_Shape.l1 kq l0 l0 (l0.length : Int) x15_1 (rd_L1 l0 x15_1) ((rd_L1 l0 x15_1).length : Int) x26_2 = some r) ∧ Aside0 (kq ≤ k1) ∧ Drawn0 w w')
         case atStart => exact ⟨(0), (by first | rfl | (simp; done) | (simp [*]; done)), H', ⟨Nat.le_refl _⟩, by repeat (first | exact Drawn0.refl _ | apply Drawn0.step)⟩
         case round =>
          clear H'
          try clear c1
          try clear p1
          try clear q1
          try clear hx1
          try clear c2
          try clear c2b0
          try clear c2b1
          try clear p2
          try clear c3
          try clear c3b0
          try clear c3b1
          try clear c3b2
          try clear c4
          try clear c4b0
          try clear c5
          try clear c5b0
          try clear c6
          try clear c6b0
          try clear c7
          try clear c7b0
          try clear c7b1
          try clear c7b2
          try clear hx166_0
          try clear p166
          try clear p2
          try clear q166
          obtain ⟨x26_2, rfl, HA, HK2, ⟨m2, rfl⟩⟩ := hrel
          cases gk with
          | zero => exact absurd HA.out (by simp [semigroupref14_Shape.l1])
          | succ k2 =>
           have H := HA.out
           clear HA
           simp only [semigroupref14_Shape.l1] at H
           by_cases c8 : x26_2 < ((rd_L1 l0 x15_1).length : Int)
           ·rw [if_pos c8] at H
            have c8b0 : decide (x26_2 < ((rd_L1 l0 x15_1).length : Int)) = true := decide_eq_true c8
            clear c8
            by_cases c9 : 0 ≤ x26_2
            ·rw [if_pos c9] at H
             have c9b0 : decide (0 ≤ x26_2) = true := decide_eq_true c9
             clear c9
             by_cases c10 : x26_2 < ((rd_L1 l0 x15_1).length : Int)
             ·rw [if_pos c10] at H
              have c10b0 : decide (x26_2 < ((rd_L1 l0 x15_1).length : Int)) = true := decide_eq_true c10
              clear c10
              by_cases c11 : (rd (rd_L1 l0 x15_1) x26_2) < 0
              ·rw [if_pos c11] at H
               have c11b0 : decide ((rd (rd_L1 l0 x15_1) x26_2) < 0) = true := decide_eq_true c11
               clear c11
               obtain rfl := Option.some.inj H
               have p167 : 0 ≤ (x26_2 : Int) := of_decide_eq_true (by first | (with_reducible assumption) | assumption)
               have q167 : x26_2 < ((rd_L1 l0 x15_1).length : Int) := of_decide_eq_true (by first | (with_reducible assumption) | assumption)
               obtain ⟨ad167, e167, hx167_0⟩ := Kd.at_int HR166_0.out x26_2 p167 q167
               cases e167
               replace p167 := eq_true p167
               replace q167 := eq_true q167
               go_wp2
               go_ret
               exact ⟨by first | rfl | (simp; done) | (simp [*]; done), by repeat (first | exact Drawn0.refl _ | apply Drawn0.step)⟩
              ·rw [if_neg c11] at H
               have c11b0 : decide ((rd (rd_L1 l0 x15_1) x26_2) < 0) = false := decide_eq_false c11
               clear c11
               by_cases c12 : (rd (rd_L1 l0 x15_1) x26_2) ≥ (l0.length : Int)
               ·rw [if_pos c12] at H
                have c12b0 : decide ((l0.length : Int) ≤ (rd (rd_L1 l0 x15_1) x26_2)) = true := decide_eq_true c12
                clear c12
                obtain rfl := Option.some.inj H
                have p167 : 0 ≤ (x26_2 : Int) := of_decide_eq_true (by first | (with_reducible assumption) | assumption)
                have q167 : x26_2 < ((rd_L1 l0 x15_1).length : Int) := of_decide_eq_true (by first | (with_reducible assumption) | assumption)
                obtain ⟨ad167, e167, hx167_0⟩ := Kd.at_int HR166_0.out x26_2 p167 q167
                cases e167
                replace p167 := eq_true p167
                replace q167 := eq_true q167
                go_wp2
                go_ret
                exact ⟨by first | rfl | (simp; done) | (simp [*]; done), by repeat (first | exact Drawn0.refl _ | apply Drawn0.step)⟩
               ·rw [if_neg c12] at H
                have c12b0 : decide ((l0.length : Int) ≤ (rd (rd_L1 l0 x15_1) x26_2)) = false := decide_eq_false c12
                clear c12
                have H' := Aside0.mk H
                clear H
                have p167 : 0 ≤ (x26_2 : Int) := of_decide_eq_true (by first | (with_reducible assumption) | assumption)
                have q167 : x26_2 < ((rd_L1 l0 x15_1).length : Int) := of_decide_eq_true (by first | (with_reducible assumption) | assumption)
                obtain ⟨ad167, e167, hx167_0⟩ := Kd.at_int HR166_0.out x26_2 p167 q167
                cases e167
                replace p167 := eq_true p167
                replace q167 := eq_true q167
                go_wp2
                go_roundg k2
                case measure => have := HK1.out; have := HK2.out; omega
                case rel => exact ⟨(wrap64 (x26_2 + 1)), (by first | rfl | (simp; done) | (simp [*]; done)), H', ⟨by have := HK1.out; have := HK2.out; omega⟩, by repeat (first | exact Drawn0.refl _ | apply Drawn0.step)⟩
             ·rw [if_neg c10] at H
              exact absurd H (by simp)
            ·rw [if_neg c9] at H
             exact absurd H (by simp)
           ·rw [if_neg c8] at H
            have c8b0 : decide (x26_2 < ((rd_L1 l0 x15_1).length : Int)) = false := decide_eq_false c8
            clear c8
            have H' := Aside0.mk H
            clear H
            go_wp2
            go_roundg k2
            case measure => have := HK1.out; have := HK2.out; omega
            case rel => exact ⟨(wrap64 (x15_1 + 1)), (by first | rfl | (simp; done) | (simp [*]; done)), H', ⟨by have := HK1.out; have := HK2.out; omega⟩, by repeat (first | exact Drawn0.refl _ | apply Drawn0.step)⟩
        ·rw [if_neg c7] at H
         have c7b0 : (((rd_L1 l0 x15_1).length : Int) == (l0.length : Int)) = false := beq_eq_false_iff_ne.mpr c7
         have c7b1 : (((rd_L1 l0 x15_1).length : Int) != (l0.length : Int)) = true := bne_iff_ne.mpr c7
         have c7b2 : ((rd_L1 l0 x15_1).length == l0.length) = false := by first | simpa using c7 | (simp at c7 ⊢; omega)
         obtain rfl := Option.some.inj H
         have p166 : 0 ≤ (x15_1 : Int) := of_decide_eq_true (by first | (with_reducible assumption) | assumption)
         have q166 : x15_1 < (l0.length : Int) := of_decide_eq_true (by first | (with_reducible assumption) | assumption)
         obtain ⟨ad166, A166_0, c166_0, e166, hx166_0, hl166_0, hi166_0⟩ := at_L1 HR0.out x15_1 p166 q166
         cases e166
         have HR166_0 := Aside0.mk hi166_0
         have HC166_0 := Aside0.mk hl166_0
         (try clear hi166_0); (try clear hl166_0)
         replace p166 := eq_true p166
         replace q166 := eq_true q166
         go_wp2
         go_ret
         exact ⟨by first | rfl | (simp; done) | (simp [*]; done), by repeat (first | exact Drawn0.refl _ | apply Drawn0.step)⟩
       ·rw [if_neg c6] at H
        exact absurd H (by simp)
      ·rw [if_neg c5] at H
       exact absurd H (by simp)
     ·rw [if_neg c4] at H
      have c4b0 : decide (x15_1 < (l0.length : Int)) = false := decide_eq_false c4
      clear c4
      obtain rfl := Option.some.inj H
      go_wp2
      go_ret
      exact ⟨by first | rfl | (simp; done) | (simp [*]; done), by repeat (first | exact Drawn0.refl _ | apply Drawn0.step)⟩

/-! ### semigroupref14_Associative: function 18 -/
mutual
def semigroupref14_Associative.l0 : Nat → List (List Int) → Int → Int → Option (Int × Int × Int × Int)
 | 0, _, _, _ => none
 | k + 1, x0, x16, x17 => if x17 < x16 then (semigroupref14_Associative.l1 k x0 x17 x16 x17 (x0.length : Int) 0) else (some (0, 0, 0, 0))
def semigroupref14_Associative.l1 : Nat → List (List Int) → Int → Int → Int → Int → Int → Option (Int × Int × Int × Int)
 | 0, _, _, _, _, _, _ => none
 | k + 1, x0, x7, x16, x17, x21, x22 => if x22 < x21 then (semigroupref14_Associative.l2 k x0 x7 x22 x16 x17 x21 x22 (x0.length : Int) 0) else (semigroupref14_Associative.l0 k x0 x16 (wrap64 (x17 + 1)))
def semigroupref14_Associative.l2 : Nat → List (List Int) → Int → Int → Int → Int → Int → Int → Int → Int → Option (Int × Int × Int × Int)
 | 0, _, _, _, _, _, _, _, _, _ => none
 | k + 1, x0, x7, x8, x16, x17, x21, x22, x26, x27 => if x27 < x26 then (if 0 ≤ x7 then (if x7 < (x0.length : Int) then (if 0 ≤ x8 then (if x8 < ((rd_L1 x0 x7).length : Int) then (if 0 ≤ (rd (rd_L1 x0 x7) x8) then (if (rd (rd_L1 x0 x7) x8) < (x0.length : Int) then (if 0 ≤ x27 then (if x27 < ((rd_L1 x0 (rd (rd_L1 x0 x7) x8)).length : Int) then (if x8 < (x0.length : Int) then (if x27 < ((rd_L1 x0 x8).length : Int) then (if 0 ≤ (rd (rd_L1 x0 x8) x27) then (if (rd (rd_L1 x0 x8) x27) < ((rd_L1 x0 x7).length : Int) then (if (rd (rd_L1 x0 (rd (rd_L1 x0 x7) x8)) x27) = (rd (rd_L1 x0 x7) (rd (rd_L1 x0 x8) x27)) then (semigroupref14_Associative.l2 k x0 x7 x8 x16 x17 x21 x22 x26 (wrap64 (x27 + 1))) else (some (x7, x8, x27, 5))) else (none)) else (none)) else (none)) else (none)) else (none)) else (none)) else (none)) else (none)) else (none)) else (none)) else (none)) else (none)) else (semigroupref14_Associative.l1 k x0 x7 x16 x17 x21 (wrap64 (x22 + 1)))
end
def semigroupref14_Associative.f (k : Nat) (l0 : List (List Int)) : Option (Int × Int × Int × Int) := (semigroupref14_Shape.f k l0).bind fun t168 => (if t168 = 0 then (semigroupref14_Associative.l0 k l0 (l0.length : Int) 0) else (some (0, 0, 0, t168)))
theorem semigroupref14_Associative.mono_l : ∀ k, (∀ y0 y1 y2, LeO (semigroupref14_Associative.l0 k y0 y1 y2) (semigroupref14_Associative.l0 (k + 1) y0 y1 y2)) ∧ (∀ y0 y1 y2 y3 y4 y5, LeO (semigroupref14_Associative.l1 k y0 y1 y2 y3 y4 y5) (semigroupref14_Associative.l1 (k + 1) y0 y1 y2 y3 y4 y5)) ∧ (∀ y0 y1 y2 y3 y4 y5 y6 y7 y8, LeO (semigroupref14_Associative.l2 k y0 y1 y2 y3 y4 y5 y6 y7 y8) (semigroupref14_Associative.l2 (k + 1) y0 y1 y2 y3 y4 y5 y6 y7 y8))
 | 0 => ⟨fun _ _ _ r h => by simp [semigroupref14_Associative.l0] at h, fun _ _ _ _ _ _ r h => by simp [semigroupref14_Associative.l1] at h, fun _ _ _ _ _ _ _ _ _ r h => by simp [semigroupref14_Associative.l2] at h⟩
 | k + 1 => by
  obtain ⟨ih0, ih1, ih2⟩ := semigroupref14_Associative.mono_l k
  refine ⟨?_, ?_, ?_⟩
  ·intro y0 y1 y2
   unfold semigroupref14_Associative.l0
   repeat' first
   | (with_reducible exact ih0 _ _ _)
   | (with_reducible exact ih1 _ _ _ _ _ _)
   | (with_reducible exact ih2 _ _ _ _ _ _ _ _ _)
   | (with_reducible exact semigroupref14_Shape.mono _ _)
   | (with_reducible exact LeO.refl _)
   | (with_reducible exact LeO.none _)
   | (with_reducible refine LeO.ite ?_ ?_)
   | (with_reducible refine LeO.bind ?_ (fun _ => ?_))
   | exact ih0 _ _ _
   | exact ih1 _ _ _ _ _ _
   | exact ih2 _ _ _ _ _ _ _ _ _
   | exact semigroupref14_Shape.mono _ _
   | exact LeO.none _
   | refine LeO.ite ?_ ?_
   | refine LeO.bind ?_ (fun _ => ?_)
  ·intro y0 y1 y2 y3 y4 y5
   unfold semigroupref14_Associative.l1
   repeat' first
   | (with_reducible exact ih0 _ _ _)
   | (with_reducible exact ih1 _ _ _ _ _ _)
   | (with_reducible exact ih2 _ _ _ _ _ _ _ _ _)
   | (with_reducible exact semigroupref14_Shape.mono _ _)
   | (with_reducible exact LeO.refl _)
   | (with_reducible exact LeO.none _)
   | (with_reducible refine LeO.ite ?_ ?_)
   | (with_reducible refine LeO.bind ?_ (fun _ => ?_))
   | exact ih0 _ _ _
   | exact ih1 _ _ _ _ _ _
   | exact ih2 _ _ _ _ _ _ _ _ _
   | exact semigroupref14_Shape.mono _ _
   | exact LeO.none _
   | refine LeO.ite ?_ ?_
   | refine LeO.bind ?_ (fun _ => ?_)
  ·intro y0 y1 y2 y3 y4 y5 y6 y7 y8
   unfold semigroupref14_Associative.l2
   repeat' first
   | (with_reducible exact ih0 _ _ _)
   | (with_reducible exact ih1 _ _ _ _ _ _)
   | (with_reducible exact ih2 _ _ _ _ _ _ _ _ _)
   | (with_reducible exact semigroupref14_Shape.mono _ _)
   | (with_reducible exact LeO.refl _)
   | (with_reducible exact LeO.none _)
   | (with_reducible refine LeO.ite ?_ ?_)
   | (with_reducible refine LeO.bind ?_ (fun _ => ?_))
   | exact ih0 _ _ _
   | exact ih1 _ _ _ _ _ _
   | exact ih2 _ _ _ _ _ _ _ _ _
   | exact semigroupref14_Shape.mono _ _
   | exact LeO.none _
   | refine LeO.ite ?_ ?_
   | refine LeO.bind ?_ (fun _ => ?_)
theorem semigroupref14_Associative.mono : ∀ a0 k, LeO (semigroupref14_Associative.f k a0) (semigroupref14_Associative.f (k + 1) a0) := by
 intro a0 k
 obtain ⟨ih0, ih1, ih2⟩ := semigroupref14_Associative.mono_l k
 unfold semigroupref14_Associative.f
 repeat' first
   | (with_reducible exact ih0 _ _ _)
   | (with_reducible exact ih1 _ _ _ _ _ _)
   | (with_reducible exact ih2 _ _ _ _ _ _ _ _ _)
   | (with_reducible exact semigroupref14_Shape.mono _ _)
   | (with_reducible exact LeO.refl _)
   | (with_reducible exact LeO.none _)
   | (with_reducible refine LeO.ite ?_ ?_)
   | (with_reducible refine LeO.bind ?_ (fun _ => ?_))
   | exact ih0 _ _ _
   | exact ih1 _ _ _ _ _ _
   | exact ih2 _ _ _ _ _ _ _ _ _
   | exact semigroupref14_Shape.mono _ _
   | exact LeO.none _
   | refine LeO.ite ?_ ?_
   | refine LeO.bind ?_ (fun _ => ?_)
set_option maxHeartbeats 8000000 in
set_option maxRecDepth 100000 in
theorem semigroupref14_Associative.calls (k : Nat) (A0 : Option Addr) (c0 : Nat) (l0 : List (List Int)) (r1 : Int) (r2 : Int) (r3 : Int) (r4 : Int) (w : World) (hr0 : Kd.C (Kd.slice 3 (Kd.int .i64)) w A0 l0.length l0) (hc0 : l0.length ≤ c0) (h : semigroupref14_Associative.f k l0 = some (r1, r2, r3, r4)) :
  Calls Try.prog 18 #[.slice A0 l0.length c0] w fun e w' => e = .returned (.tuple #[.int .i64 r1, .int .i64 r2, .int .i64 r3, .int .i64 r4]) ∧ Drawn0 w w' := by
 have HR0 := Aside0.mk hr0
 have HC0 := Aside0.mk hc0
 (try clear hr0); (try clear hc0)
 have H : ((semigroupref14_Shape.f k l0).bind fun t168 => (if t168 = 0 then (semigroupref14_Associative.l0 k l0 (l0.length : Int) 0) else (some (0, 0, 0, t168)))) = some (r1, r2, r3, r4) := h
 clear h
 replace H := Option.bind_eq_some_iff.mp H
 obtain ⟨t168, A20, H⟩ := H
 replace H : (if t168 = 0 then (semigroupref14_Associative.l0 k l0 (l0.length : Int) 0) else (some (0, 0, 0, t168))) = some (r1, r2, r3, r4) := H
 have A2 := Aside0.mk A20
 clear A20
 by_cases c3 : t168 = 0
 ·rw [if_pos c3] at H
  have c3b0 : (t168 == 0) = true := beq_iff_eq.mpr c3
  have c3b1 : (t168 != 0) = false := bne_eq_false_iff_eq.mpr c3
  clear c3
  have H' := Aside0.mk H
  clear H
  go_enter Try.func18, Try.ntmps18
  go_wp2_with (first | (go_at_call 23; (with_reducible refine (semigroupref14_Shape.calls k _ _ l0 t168 _ ?side1 ?side2 A2.out).mono ?_); (case side1 => repeat (first | exact HR0.out | (with_reducible refine Kd.C_alloc ?_ _) | (with_reducible refine Kd.C_drewN ?_ _) | (with_reducible refine Kd.C_drew ?_))); (case side2 => exact HC0.out); rintro e w' ⟨rfl, ⟨nd, rfl⟩⟩; (try first | exact ⟨rfl, _, World.drewN_drewN _ _ _⟩ | exact ⟨rfl, _, Eq.trans (World.drewN_drewN _ _ _) (congrArg (World.drewN _) (Nat.add_assoc _ _ _))⟩)))
  repeat (go_quiet (first | (go_at_call 23; (with_reducible refine (semigroupref14_Shape.calls k _ _ l0 t168 _ ?side1 ?side2 A2.out).mono ?_); (case side1 => repeat (first | exact HR0.out | (with_reducible refine Kd.C_alloc ?_ _) | (with_reducible refine Kd.C_drewN ?_ _) | (with_reducible refine Kd.C_drew ?_))); (case side2 => exact HC0.out); rintro e w' ⟨rfl, ⟨nd, rfl⟩⟩; (try first | exact ⟨rfl, _, World.drewN_drewN _ _ _⟩ | exact ⟨rfl, _, Eq.trans (World.drewN_drewN _ _ _) (congrArg (World.drewN _) (Nat.add_assoc _ _ _))⟩))); try go_wp2_with (first | (go_at_call 23; (with_reducible refine (semigroupref14_Shape.calls k _ _ l0 t168 _ ?side1 ?side2 A2.out).mono ?_); (case side1 => repeat (first | exact HR0.out | (with_reducible refine Kd.C_alloc ?_ _) | (with_reducible refine Kd.C_drewN ?_ _) | (with_reducible refine Kd.C_drew ?_))); (case side2 => exact HC0.out); rintro e w' ⟨rfl, ⟨nd, rfl⟩⟩; (try first | exact ⟨rfl, _, World.drewN_drewN _ _ _⟩ | exact ⟨rfl, _, Eq.trans (World.drewN_drewN _ _ _) (congrArg (World.drewN _) (Nat.add_assoc _ _ _))⟩))))
  go_loopg [17] k (fun kq v17 w' => ∃ (x17_1 : Int), v17 = .int .i64 x17_1 ∧ Aside0 (semigroupref14_Associative.l0 kq l0 (l0.length : Int) x17_1 = some (r1, r2, r3, r4)) ∧ Aside0 (kq ≤ k) ∧ Drawn0 w w')
  case atStart => exact ⟨(0), (by first | rfl | (simp; done) | (simp [*]; done)), H', ⟨Nat.le_refl _⟩, by repeat (first | exact Drawn0.refl _ | apply Drawn0.step)⟩
  case round =>
   clear H'
   try clear c1
   try clear p2
   try clear c3
   try clear c3b0
   try clear c3b1
   obtain ⟨x17_1, rfl, HA, HK1, ⟨m1, rfl⟩⟩ := hrel
   cases gk with
   | zero => exact absurd HA.out (by simp [semigroupref14_Associative.l0])
   | succ k1 =>
    have H := HA.out
    clear HA
    simp only [semigroupref14_Associative.l0] at H
    by_cases c4 : x17_1 < (l0.length : Int)
    ·rw [if_pos c4] at H
     have c4b0 : decide (x17_1 < (l0.length : Int)) = true := decide_eq_true c4
     clear c4
     have H' := Aside0.mk H
     clear H
     go_wp2
     repeat (go_quiet (fail); try go_wp2)
     go_loopg [22] k1 (fun kq v22 w' => ∃ (x22_2 : Int), v22 = .int .i64 x22_2 ∧ Aside0 (semigroupref14_Associative.l1 kq l0 x17_1 (l0.length : Int) x17_1 (l0.length : Int) x22_2 = some (r1, r2, r3, r4)) ∧ Aside0 (kq ≤ k1) ∧ Drawn0 w w')
     case atStart => exact ⟨(0), (by first | rfl | (simp; done) | (simp [*]; done)), H', ⟨Nat.le_refl _⟩, by repeat (first | exact Drawn0.refl _ | apply Drawn0.step)⟩
     case round =>
      clear H'
      try clear c1
      try clear p2
      try clear c3
      try clear c3b0
      try clear c3b1
      try clear c4
      try clear c4b0
      try clear p2
      obtain ⟨x22_2, rfl, HA, HK2, ⟨m2, rfl⟩⟩ := hrel
      cases gk with
      | zero => exact absurd HA.out (by simp [semigroupref14_Associative.l1])
      | succ k2 =>
       have H := HA.out
       clear HA
       simp only [semigroupref14_Associative.l1] at H
       by_cases c5 : x22_2 < (l0.length : Int)
       ·rw [if_pos c5] at H
        have c5b0 : decide (x22_2 < (l0.length : Int)) = true := decide_eq_true c5
        clear c5
        have H' := Aside0.mk H
        clear H
        go_wp2
        repeat (go_quiet (fail); try go_wp2)
        go_loopg [27] k2 (fun kq v27 w' => ∃ (x27_3 : Int), v27 = .int .i64 x27_3 ∧ Aside0 (semigroupref14_Associative.l2 kq l0 x17_1 x22_2 (l0.length : Int) x17_1 (l0.length : Int) x22_2 (l0.length : Int) x27_3 = some (r1, r2, r3, r4)) ∧ Aside0 (kq ≤ k2) ∧ Drawn0 w w')
        case atStart => exact ⟨(0), (by first | rfl | (simp; done) | (simp [*]; done)), H', ⟨Nat.le_refl _⟩, by repeat (first | exact Drawn0.refl _ | apply Drawn0.step)⟩
        case round =>
         clear H'
         try clear c1
         try clear p2
         try clear c3
         try clear c3b0
         try clear c3b1
         try clear c4
         try clear c4b0
         try clear c5
         try clear c5b0
         try clear p2
         obtain ⟨x27_3, rfl, HA, HK3, ⟨m3, rfl⟩⟩ := hrel
         cases gk with
         | zero => exact absurd HA.out (by simp [semigroupref14_Associative.l2])
         | succ k3 =>
          have H := HA.out
          clear HA
          simp only [semigroupref14_Associative.l2] at H
          by_cases c6 : x27_3 < (l0.length : Int)
          ·rw [if_pos c6] at H
           have c6b0 : decide (x27_3 < (l0.length : Int)) = true := decide_eq_true c6
           clear c6
           by_cases c7 : 0 ≤ x17_1
           ·rw [if_pos c7] at H
            have c7b0 : decide (0 ≤ x17_1) = true := decide_eq_true c7
            clear c7
            by_cases c8 : x17_1 < (l0.length : Int)
            ·rw [if_pos c8] at H
             have c8b0 : decide (x17_1 < (l0.length : Int)) = true := decide_eq_true c8
             clear c8
             by_cases c9 : 0 ≤ x22_2
             ·rw [if_pos c9] at H
              have c9b0 : decide (0 ≤ x22_2) = true := decide_eq_true c9
              clear c9
              by_cases c10 : x22_2 < ((rd_L1 l0 x17_1).length : Int)
              ·rw [if_pos c10] at H
               have c10b0 : decide (x22_2 < ((rd_L1 l0 x17_1).length : Int)) = true := decide_eq_true c10
               clear c10
               by_cases c11 : 0 ≤ (rd (rd_L1 l0 x17_1) x22_2)
               ·rw [if_pos c11] at H
                have c11b0 : decide (0 ≤ (rd (rd_L1 l0 x17_1) x22_2)) = true := decide_eq_true c11
                clear c11
                by_cases c12 : (rd (rd_L1 l0 x17_1) x22_2) < (l0.length : Int)
                ·rw [if_pos c12] at H
                 have c12b0 : decide ((rd (rd_L1 l0 x17_1) x22_2) < (l0.length : Int)) = true := decide_eq_true c12
                 clear c12
                 by_cases c13 : 0 ≤ x27_3
                 ·rw [if_pos c13] at H
                  have c13b0 : decide (0 ≤ x27_3) = true := decide_eq_true c13
                  clear c13
                  by_cases c14 : x27_3 < ((rd_L1 l0 (rd (rd_L1 l0 x17_1) x22_2)).length : Int)
                  ·rw [if_pos c14] at H
                   have c14b0 : decide (x27_3 < ((rd_L1 l0 (rd (rd_L1 l0 x17_1) x22_2)).length : Int)) = true := decide_eq_true c14
                   clear c14
                   by_cases c15 : x22_2 < (l0.length : Int)
                   ·rw [if_pos c15] at H
                    have c15b0 : decide (x22_2 < (l0.length : Int)) = true := decide_eq_true c15
                    clear c15
                    by_cases c16 : x27_3 < ((rd_L1 l0 x22_2).length : Int)
                    ·rw [if_pos c16] at H
                     have c16b0 : decide (x27_3 < ((rd_L1 l0 x22_2).length : Int)) = true := decide_eq_true c16
                     clear c16
                     by_cases c17 : 0 ≤ (rd (rd_L1 l0 x22_2) x27_3)
                     ·rw [if_pos c17] at H
                      have c17b0 : decide (0 ≤ (rd (rd_L1 l0 x22_2) x27_3)) = true := decide_eq_true c17
                      clear c17
                      by_cases c18 : (rd (rd_L1 l0 x22_2) x27_3) < ((rd_L1 l0 x17_1).length : Int)
                      ·rw [if_pos c18] at H
                       have c18b0 : decide ((rd (rd_L1 l0 x22_2) x27_3) < ((rd_L1 l0 x17_1).length : Int)) = true := decide_eq_true c18
                       clear c18
                       by_cases c19 : (rd (rd_L1 l0 (rd (rd_L1 l0 x17_1) x22_2)) x27_3) = (rd (rd_L1 l0 x17_1) (rd (rd_L1 l0 x22_2) x27_3))
                       ·rw [if_pos c19] at H
                        have c19b0 : ((rd (rd_L1 l0 (rd (rd_L1 l0 x17_1) x22_2)) x27_3) == (rd (rd_L1 l0 x17_1) (rd (rd_L1 l0 x22_2) x27_3))) = true := beq_iff_eq.mpr c19
                        have c19b1 : ((rd (rd_L1 l0 (rd (rd_L1 l0 x17_1) x22_2)) x27_3) != (rd (rd_L1 l0 x17_1) (rd (rd_L1 l0 x22_2) x27_3))) = false := bne_eq_false_iff_eq.mpr c19
                        clear c19
                        have H' := Aside0.mk H
                        clear H
                        have p169 : 0 ≤ (x17_1 : Int) := of_decide_eq_true (by first | (with_reducible assumption) | assumption)
                        have q169 : x17_1 < (l0.length : Int) := of_decide_eq_true (by first | (with_reducible assumption) | assumption)
                        obtain ⟨ad169, A169_0, c169_0, e169, hx169_0, hl169_0, hi169_0⟩ := at_L1 HR0.out x17_1 p169 q169
                        cases e169
                        have HR169_0 := Aside0.mk hi169_0
                        have HC169_0 := Aside0.mk hl169_0
                        (try clear hi169_0); (try clear hl169_0)
                        replace p169 := eq_true p169
                        replace q169 := eq_true q169
                        have p170 : 0 ≤ (x22_2 : Int) := of_decide_eq_true (by first | (with_reducible assumption) | assumption)
                        have q170 : x22_2 < ((rd_L1 l0 x17_1).length : Int) := of_decide_eq_true (by first | (with_reducible assumption) | assumption)
                        obtain ⟨ad170, e170, hx170_0⟩ := Kd.at_int HR169_0.out x22_2 p170 q170
                        cases e170
                        replace p170 := eq_true p170
                        replace q170 := eq_true q170
                        have p171 : 0 ≤ ((rd (rd_L1 l0 x17_1) x22_2) : Int) := of_decide_eq_true (by first | (with_reducible assumption) | assumption)
                        have q171 : (rd (rd_L1 l0 x17_1) x22_2) < (l0.length : Int) := of_decide_eq_true (by first | (with_reducible assumption) | assumption)
                        obtain ⟨ad171, A171_0, c171_0, e171, hx171_0, hl171_0, hi171_0⟩ := at_L1 HR0.out (rd (rd_L1 l0 x17_1) x22_2) p171 q171
                        obtain rfl : ad169 = ad171 := (by injection e171)
                        have HR171_0 := Aside0.mk hi171_0
                        have HC171_0 := Aside0.mk hl171_0
                        (try clear hi171_0); (try clear hl171_0)
                        replace p171 := eq_true p171
                        replace q171 := eq_true q171
                        have p172 : 0 ≤ (x27_3 : Int) := of_decide_eq_true (by first | (with_reducible assumption) | assumption)
                        have q172 : x27_3 < ((rd_L1 l0 (rd (rd_L1 l0 x17_1) x22_2)).length : Int) := of_decide_eq_true (by first | (with_reducible assumption) | assumption)
                        obtain ⟨ad172, e172, hx172_0⟩ := Kd.at_int HR171_0.out x27_3 p172 q172
                        cases e172
                        replace p172 := eq_true p172
                        replace q172 := eq_true q172
                        have p173 : 0 ≤ (x17_1 : Int) := of_decide_eq_true (by first | (with_reducible assumption) | assumption)
                        have q173 : x17_1 < (l0.length : Int) := of_decide_eq_true (by first | (with_reducible assumption) | assumption)
                        obtain ⟨ad173, A173_0, c173_0, e173, hx173_0, hl173_0, hi173_0⟩ := at_L1 HR0.out x17_1 p173 q173
                        obtain rfl : ad169 = ad173 := (by injection e173)
                        have HR173_0 := Aside0.mk hi173_0
                        have HC173_0 := Aside0.mk hl173_0
                        (try clear hi173_0); (try clear hl173_0)
                        replace p173 := eq_true p173
                        replace q173 := eq_true q173
                        have ea_ := Option.some.inj (hx169_0.symm.trans hx173_0)
                        injection ea_ with ea_ en_ ec_
                        subst ea_
                        subst ec_
                        clear en_
                        have p174 : 0 ≤ (x22_2 : Int) := of_decide_eq_true (by first | (with_reducible assumption) | assumption)
                        have q174 : x22_2 < (l0.length : Int) := of_decide_eq_true (by first | (with_reducible assumption) | assumption)
                        obtain ⟨ad174, A174_0, c174_0, e174, hx174_0, hl174_0, hi174_0⟩ := at_L1 HR0.out x22_2 p174 q174
                        obtain rfl : ad169 = ad174 := (by injection e174)
                        have HR174_0 := Aside0.mk hi174_0
                        have HC174_0 := Aside0.mk hl174_0
                        (try clear hi174_0); (try clear hl174_0)
                        replace p174 := eq_true p174
                        replace q174 := eq_true q174
                        have p175 : 0 ≤ (x27_3 : Int) := of_decide_eq_true (by first | (with_reducible assumption) | assumption)
                        have q175 : x27_3 < ((rd_L1 l0 x22_2).length : Int) := of_decide_eq_true (by first | (with_reducible assumption) | assumption)
                        obtain ⟨ad175, e175, hx175_0⟩ := Kd.at_int HR174_0.out x27_3 p175 q175
                        cases e175
                        replace p175 := eq_true p175
                        replace q175 := eq_true q175
                        have p176 : 0 ≤ ((rd (rd_L1 l0 x22_2) x27_3) : Int) := of_decide_eq_true (by first | (with_reducible assumption) | assumption)
                        have q176 : (rd (rd_L1 l0 x22_2) x27_3) < ((rd_L1 l0 x17_1).length : Int) := of_decide_eq_true (by first | (with_reducible assumption) | assumption)
                        obtain ⟨ad176, e176, hx176_0⟩ := Kd.at_int HR173_0.out (rd (rd_L1 l0 x22_2) x27_3) p176 q176
                        cases e176
                        replace p176 := eq_true p176
                        replace q176 := eq_true q176
                        go_wp2
                        repeat (go_quiet (fail); try go_wp2)
                        go_roundg k3
                        case measure => have := HK1.out; have := HK2.out; have := HK3.out; omega
                        case rel => exact ⟨(wrap64 (x27_3 + 1)), (by first | rfl | (simp; done) | (simp [*]; done)), H', ⟨by have := HK1.out; have := HK2.out; have := HK3.out; omega⟩, by repeat (first | exact Drawn0.refl _ | apply Drawn0.step)⟩
                       ·rw [if_neg c19] at H
                        have c19b0 : ((rd (rd_L1 l0 (rd (rd_L1 l0 x17_1) x22_2)) x27_3) == (rd (rd_L1 l0 x17_1) (rd (rd_L1 l0 x22_2) x27_3))) = false := beq_eq_false_iff_ne.mpr c19
                        have c19b1 : ((rd (rd_L1 l0 (rd (rd_L1 l0 x17_1) x22_2)) x27_3) != (rd (rd_L1 l0 x17_1) (rd (rd_L1 l0 x22_2) x27_3))) = true := bne_iff_ne.mpr c19
                        simp only [Option.some.injEq, Prod.mk.injEq] at H
                        obtain ⟨rfl, rfl, rfl, rfl⟩ := H
                        have p169 : 0 ≤ (x17_1 : Int) := of_decide_eq_true (by first | (with_reducible assumption) | assumption)
                        have q169 : x17_1 < (l0.length : Int) := of_decide_eq_true (by first | (with_reducible assumption) | assumption)
                        obtain ⟨ad169, A169_0, c169_0, e169, hx169_0, hl169_0, hi169_0⟩ := at_L1 HR0.out x17_1 p169 q169
                        cases e169
                        have HR169_0 := Aside0.mk hi169_0
                        have HC169_0 := Aside0.mk hl169_0
                        (try clear hi169_0); (try clear hl169_0)
                        replace p169 := eq_true p169
                        replace q169 := eq_true q169
                        have p170 : 0 ≤ (x22_2 : Int) := of_decide_eq_true (by first | (with_reducible assumption) | assumption)
                        have q170 : x22_2 < ((rd_L1 l0 x17_1).length : Int) := of_decide_eq_true (by first | (with_reducible assumption) | assumption)
                        obtain ⟨ad170, e170, hx170_0⟩ := Kd.at_int HR169_0.out x22_2 p170 q170
                        cases e170
                        replace p170 := eq_true p170
                        replace q170 := eq_true q170
                        have p171 : 0 ≤ ((rd (rd_L1 l0 x17_1) x22_2) : Int) := of_decide_eq_true (by first | (with_reducible assumption) | assumption)
                        have q171 : (rd (rd_L1 l0 x17_1) x22_2) < (l0.length : Int) := of_decide_eq_true (by first | (with_reducible assumption) | assumption)
                        obtain ⟨ad171, A171_0, c171_0, e171, hx171_0, hl171_0, hi171_0⟩ := at_L1 HR0.out (rd (rd_L1 l0 x17_1) x22_2) p171 q171
                        obtain rfl : ad169 = ad171 := (by injection e171)
                        have HR171_0 := Aside0.mk hi171_0
                        have HC171_0 := Aside0.mk hl171_0
                        (try clear hi171_0); (try clear hl171_0)
                        replace p171 := eq_true p171
                        replace q171 := eq_true q171
                        have p172 : 0 ≤ (x27_3 : Int) := of_decide_eq_true (by first | (with_reducible assumption) | assumption)
                        have q172 : x27_3 < ((rd_L1 l0 (rd (rd_L1 l0 x17_1) x22_2)).length : Int) := of_decide_eq_true (by first | (with_reducible assumption) | assumption)
                        obtain ⟨ad172, e172, hx172_0⟩ := Kd.at_int HR171_0.out x27_3 p172 q172
                        cases e172
                        replace p172 := eq_true p172
                        replace q172 := eq_true q172
                        have p173 : 0 ≤ (x17_1 : Int) := of_decide_eq_true (by first | (with_reducible assumption) | assumption)
                        have q173 : x17_1 < (l0.length : Int) := of_decide_eq_true (by first | (with_reducible assumption) | assumption)
                        obtain ⟨ad173, A173_0, c173_0, e173, hx173_0, hl173_0, hi173_0⟩ := at_L1 HR0.out x17_1 p173 q173
                        obtain rfl : ad169 = ad173 := (by injection e173)
                        have HR173_0 := Aside0.mk hi173_0
                        have HC173_0 := Aside0.mk hl173_0
                        (try clear hi173_0); (try clear hl173_0)
                        replace p173 := eq_true p173
                        replace q173 := eq_true q173
                        have ea_ := Option.some.inj (hx169_0.symm.trans hx173_0)
                        injection ea_ with ea_ en_ ec_
                        subst ea_
                        subst ec_
                        clear en_
                        have p174 : 0 ≤ (x22_2 : Int) := of_decide_eq_true (by first | (with_reducible assumption) | assumption)
                        have q174 : x22_2 < (l0.length : Int) := of_decide_eq_true (by first | (with_reducible assumption) | assumption)
                        obtain ⟨ad174, A174_0, c174_0, e174, hx174_0, hl174_0, hi174_0⟩ := at_L1 HR0.out x22_2 p174 q174
                        obtain rfl : ad169 = ad174 := (by injection e174)
                        have HR174_0 := Aside0.mk hi174_0
                        have HC174_0 := Aside0.mk hl174_0
                        (try clear hi174_0); (try clear hl174_0)
                        replace p174 := eq_true p174
                        replace q174 := eq_true q174
                        have p175 : 0 ≤ (x27_3 : Int) := of_decide_eq_true (by first | (with_reducible assumption) | assumption)
                        have q175 : x27_3 < ((rd_L1 l0 x22_2).length : Int) := of_decide_eq_true (by first | (with_reducible assumption) | assumption)
                        obtain ⟨ad175, e175, hx175_0⟩ := Kd.at_int HR174_0.out x27_3 p175 q175
                        cases e175
                        replace p175 := eq_true p175
                        replace q175 := eq_true q175
                        have p176 : 0 ≤ ((rd (rd_L1 l0 x22_2) x27_3) : Int) := of_decide_eq_true (by first | (with_reducible assumption) | assumption)
                        have q176 : (rd (rd_L1 l0 x22_2) x27_3) < ((rd_L1 l0 x17_1).length : Int) := of_decide_eq_true (by first | (with_reducible assumption) | assumption)
                        obtain ⟨ad176, e176, hx176_0⟩ := Kd.at_int HR173_0.out (rd (rd_L1 l0 x22_2) x27_3) p176 q176
                        cases e176
                        replace p176 := eq_true p176
                        replace q176 := eq_true q176
                        go_wp2
                        repeat (go_quiet (fail); try go_wp2)
                        refine bodyPost_ret (results_list (rs := [.tmp 2, .tmp 3, .tmp 4, .tmp 5]) rfl (by simp) (.tmp (.tmp (.tmp (.tmp .nil))))) rfl ?_
                        exact ⟨by first | rfl | (simp; done) | (simp [*]; done), by repeat (first | exact Drawn0.refl _ | apply Drawn0.step)⟩
                      ·rw [if_neg c18] at H
                       exact absurd H (by simp)
                     ·rw [if_neg c17] at H
                      exact absurd H (by simp)
                    ·rw [if_neg c16] at H
                     exact absurd H (by simp)
                   ·rw [if_neg c15] at H
                    exact absurd H (by simp)
                  ·rw [if_neg c14] at H
                   exact absurd H (by simp)
                 ·rw [if_neg c13] at H
                  exact absurd H (by simp)
                ·rw [if_neg c12] at H
                 exact absurd H (by simp)
               ·rw [if_neg c11] at H
                exact absurd H (by simp)
              ·rw [if_neg c10] at H
               exact absurd H (by simp)
             ·rw [if_neg c9] at H
              exact absurd H (by simp)
            ·rw [if_neg c8] at H
             exact absurd H (by simp)
           ·rw [if_neg c7] at H
            exact absurd H (by simp)
          ·rw [if_neg c6] at H
           have c6b0 : decide (x27_3 < (l0.length : Int)) = false := decide_eq_false c6
           clear c6
           have H' := Aside0.mk H
           clear H
           go_wp2
           repeat (go_quiet (fail); try go_wp2)
           go_roundg k3
           case measure => have := HK1.out; have := HK2.out; have := HK3.out; omega
           case rel => exact ⟨(wrap64 (x22_2 + 1)), (by first | rfl | (simp; done) | (simp [*]; done)), H', ⟨by have := HK1.out; have := HK2.out; have := HK3.out; omega⟩, by repeat (first | exact Drawn0.refl _ | apply Drawn0.step)⟩
       ·rw [if_neg c5] at H
        have c5b0 : decide (x22_2 < (l0.length : Int)) = false := decide_eq_false c5
        clear c5
        have H' := Aside0.mk H
        clear H
        go_wp2
        repeat (go_quiet (fail); try go_wp2)
        go_roundg k2
        case measure => have := HK1.out; have := HK2.out; omega
        case rel => exact ⟨(wrap64 (x17_1 + 1)), (by first | rfl | (simp; done) | (simp [*]; done)), H', ⟨by have := HK1.out; have := HK2.out; omega⟩, by repeat (first | exact Drawn0.refl _ | apply Drawn0.step)⟩
    ·rw [if_neg c4] at H
     have c4b0 : decide (x17_1 < (l0.length : Int)) = false := decide_eq_false c4
     clear c4
     simp only [Option.some.injEq, Prod.mk.injEq] at H
     obtain ⟨rfl, rfl, rfl, rfl⟩ := H
     go_wp2
     repeat (go_quiet (fail); try go_wp2)
     refine bodyPost_ret (results_list (rs := [.tmp 2, .tmp 3, .tmp 4, .tmp 5]) rfl (by simp) (.tmp (.tmp (.tmp (.tmp .nil))))) rfl ?_
     exact ⟨by first | rfl | (simp; done) | (simp [*]; done), by repeat (first | exact Drawn0.refl _ | apply Drawn0.step)⟩
 ·rw [if_neg c3] at H
  have c3b0 : (t168 == 0) = false := beq_eq_false_iff_ne.mpr c3
  have c3b1 : (t168 != 0) = true := bne_iff_ne.mpr c3
  simp only [Option.some.injEq, Prod.mk.injEq] at H
  obtain ⟨rfl, rfl, rfl, rfl⟩ := H
  go_enter Try.func18, Try.ntmps18
  go_wp2_with (first | (go_at_call 23; (with_reducible refine (semigroupref14_Shape.calls k _ _ l0 t168 _ ?side1 ?side2 A2.out).mono ?_); (case side1 => repeat (first | exact HR0.out | (with_reducible refine Kd.C_alloc ?_ _) | (with_reducible refine Kd.C_drewN ?_ _) | (with_reducible refine Kd.C_drew ?_))); (case side2 => exact HC0.out); rintro e w' ⟨rfl, ⟨nd, rfl⟩⟩; (try first | exact ⟨rfl, _, World.drewN_drewN _ _ _⟩ | exact ⟨rfl, _, Eq.trans (World.drewN_drewN _ _ _) (congrArg (World.drewN _) (Nat.add_assoc _ _ _))⟩)))
  repeat (go_quiet (first | (go_at_call 23; (with_reducible refine (semigroupref14_Shape.calls k _ _ l0 t168 _ ?side1 ?side2 A2.out).mono ?_); (case side1 => repeat (first | exact HR0.out | (with_reducible refine Kd.C_alloc ?_ _) | (with_reducible refine Kd.C_drewN ?_ _) | (with_reducible refine Kd.C_drew ?_))); (case side2 => exact HC0.out); rintro e w' ⟨rfl, ⟨nd, rfl⟩⟩; (try first | exact ⟨rfl, _, World.drewN_drewN _ _ _⟩ | exact ⟨rfl, _, Eq.trans (World.drewN_drewN _ _ _) (congrArg (World.drewN _) (Nat.add_assoc _ _ _))⟩))); try go_wp2_with (first | (go_at_call 23; (with_reducible refine (semigroupref14_Shape.calls k _ _ l0 t168 _ ?side1 ?side2 A2.out).mono ?_); (case side1 => repeat (first | exact HR0.out | (with_reducible refine Kd.C_alloc ?_ _) | (with_reducible refine Kd.C_drewN ?_ _) | (with_reducible refine Kd.C_drew ?_))); (case side2 => exact HC0.out); rintro e w' ⟨rfl, ⟨nd, rfl⟩⟩; (try first | exact ⟨rfl, _, World.drewN_drewN _ _ _⟩ | exact ⟨rfl, _, Eq.trans (World.drewN_drewN _ _ _) (congrArg (World.drewN _) (Nat.add_assoc _ _ _))⟩))))
  refine bodyPost_ret (results_list (rs := [.tmp 2, .tmp 3, .tmp 4, .tmp 5]) rfl (by simp) (.tmp (.tmp (.tmp (.tmp .nil))))) rfl ?_
  exact ⟨by first | rfl | (simp; done) | (simp [*]; done), by repeat (first | exact Drawn0.refl _ | apply Drawn0.step)⟩

/-! ### semigroupref14_Validate: function 65 -/
def semigroupref14_Validate.f (k : Nat) (l0 : List (List Int)) : Option (Int) := (semigroupref14_Associative.f k l0).bind fun bt194 => (some bt194.2.2.2)
theorem semigroupref14_Validate.mono : ∀ a0 k, LeO (semigroupref14_Validate.f k a0) (semigroupref14_Validate.f (k + 1) a0) := by
 intro a0 k
 unfold semigroupref14_Validate.f
 repeat' first
   | (with_reducible exact semigroupref14_Associative.mono _ _)
   | (with_reducible exact LeO.refl _)
   | (with_reducible exact LeO.none _)
   | (with_reducible refine LeO.ite ?_ ?_)
   | (with_reducible refine LeO.bind ?_ (fun _ => ?_))
   | exact semigroupref14_Associative.mono _ _
   | exact LeO.none _
   | refine LeO.ite ?_ ?_
   | refine LeO.bind ?_ (fun _ => ?_)
set_option maxHeartbeats 8000000 in
set_option maxRecDepth 100000 in
theorem semigroupref14_Validate.calls (k : Nat) (A0 : Option Addr) (c0 : Nat) (l0 : List (List Int)) (r : Int) (w : World) (hr0 : Kd.C (Kd.slice 3 (Kd.int .i64)) w A0 l0.length l0) (hc0 : l0.length ≤ c0) (h : semigroupref14_Validate.f k l0 = some r) :
  Calls Try.prog 65 #[.slice A0 l0.length c0] w fun e w' => e = .returned (.int .i64 r) ∧ Drawn0 w w' := by
 have HR0 := Aside0.mk hr0
 have HC0 := Aside0.mk hc0
 (try clear hr0); (try clear hc0)
 have H : ((semigroupref14_Associative.f k l0).bind fun bt194 => (some bt194.2.2.2)) = some r := h
 clear h
 replace H := Option.bind_eq_some_iff.mp H
 obtain ⟨⟨t194, t195, t196, t197⟩, A20, H⟩ := H
 replace H : (some t197) = some r := H
 have A2 := Aside0.mk A20
 clear A20
 obtain rfl := Option.some.inj H
 go_enter Try.func65, Try.ntmps65
 go_wp2_with (first | ((with_reducible refine gate_callee (f := 18) rfl ?_); refine goesL_ (some 9) rfl rfl Try.func18 (by kernel_rfl) rfl #[.slice A0 l0.length c0] rfl (by (try simp only [List.map_toArray, List.map_cons, List.map_nil]); first | done | rfl | (simp only [List.length_drop, List.length_take]; rfl)) ?_; (with_reducible refine (semigroupref14_Associative.calls k _ _ l0 t194 t195 t196 t197 _ ?side1 ?side2 A2.out).mono ?_); (case side1 => repeat (first | exact HR0.out | (with_reducible refine Kd.C_alloc ?_ _) | (with_reducible refine Kd.C_drewN ?_ _) | (with_reducible refine Kd.C_drew ?_))); (case side2 => exact HC0.out); rintro e w' ⟨rfl, ⟨nd, rfl⟩⟩; refine ⟨_, rfl, ?_⟩))
 go_ret
 exact ⟨by first | rfl | (simp; done) | (simp [*]; done), by repeat (first | exact Drawn0.refl _ | apply Drawn0.step)⟩

/-! ### semigroupref14_Valid: function 24 -/
def semigroupref14_Valid.f (k : Nat) (l0 : List (List Int)) : Option (Bool) := (semigroupref14_Validate.f k l0).bind fun t198 => (some (t198 == 0))
theorem semigroupref14_Valid.mono : ∀ a0 k, LeO (semigroupref14_Valid.f k a0) (semigroupref14_Valid.f (k + 1) a0) := by
 intro a0 k
 unfold semigroupref14_Valid.f
 repeat' first
   | (with_reducible exact semigroupref14_Validate.mono _ _)
   | (with_reducible exact LeO.refl _)
   | (with_reducible exact LeO.none _)
   | (with_reducible refine LeO.ite ?_ ?_)
   | (with_reducible refine LeO.bind ?_ (fun _ => ?_))
   | exact semigroupref14_Validate.mono _ _
   | exact LeO.none _
   | refine LeO.ite ?_ ?_
   | refine LeO.bind ?_ (fun _ => ?_)
set_option maxHeartbeats 8000000 in
set_option maxRecDepth 100000 in
theorem semigroupref14_Valid.calls (k : Nat) (A0 : Option Addr) (c0 : Nat) (l0 : List (List Int)) (r : Bool) (w : World) (hr0 : Kd.C (Kd.slice 3 (Kd.int .i64)) w A0 l0.length l0) (hc0 : l0.length ≤ c0) (h : semigroupref14_Valid.f k l0 = some r) :
  Calls Try.prog 24 #[.slice A0 l0.length c0] w fun e w' => e = .returned (.bool r) ∧ Drawn0 w w' := by
 have HR0 := Aside0.mk hr0
 have HC0 := Aside0.mk hc0
 (try clear hr0); (try clear hc0)
 have H : ((semigroupref14_Validate.f k l0).bind fun t198 => (some (t198 == 0))) = some r := h
 clear h
 replace H := Option.bind_eq_some_iff.mp H
 obtain ⟨t198, A20, H⟩ := H
 replace H : (some (t198 == 0)) = some r := H
 have A2 := Aside0.mk A20
 clear A20
 obtain rfl := Option.some.inj H
 go_enter Try.func24, Try.ntmps24
 go_wp2_with (first | ((with_reducible refine gate_callee (f := 65) rfl ?_); refine goesL_ (some 4) rfl rfl Try.func65 (by kernel_rfl) rfl #[.slice A0 l0.length c0] rfl (by (try simp only [List.map_toArray, List.map_cons, List.map_nil]); first | done | rfl | (simp only [List.length_drop, List.length_take]; rfl)) ?_; (with_reducible refine (semigroupref14_Validate.calls k _ _ l0 t198 _ ?side1 ?side2 A2.out).mono ?_); (case side1 => repeat (first | exact HR0.out | (with_reducible refine Kd.C_alloc ?_ _) | (with_reducible refine Kd.C_drewN ?_ _) | (with_reducible refine Kd.C_drew ?_))); (case side2 => exact HC0.out); rintro e w' ⟨rfl, ⟨nd, rfl⟩⟩; refine ⟨_, rfl, ?_⟩))
 go_ret
 exact ⟨by first | rfl | (simp; done) | (simp [*]; done), by repeat (first | exact Drawn0.refl _ | apply Drawn0.step)⟩

/-! ### semigroupref14_In: function 32 -/
def semigroupref14_In.l0 : Nat → List (List Int) → List Int → Int → Int → Option (Bool)
 | 0, _, _, _, _ => none
 | k + 1, x0, x7, x8, x9 => if x9 < x8 then (if 0 ≤ x9 then (if x9 < (x7.length : Int) then (if (rd x7 x9) < 0 then (some false) else (if (rd x7 x9) ≥ (x0.length : Int) then (some false) else (semigroupref14_In.l0 k x0 x7 x8 (wrap64 (x9 + 1))))) else (none)) else (none)) else (some true)
def semigroupref14_In.f (k : Nat) (l0 : List (List Int)) (l1 : List Int) : Option (Bool) := semigroupref14_In.l0 k l0 l1 (l1.length : Int) 0
theorem semigroupref14_In.mono_l : ∀ k, (∀ y0 y1 y2 y3, LeO (semigroupref14_In.l0 k y0 y1 y2 y3) (semigroupref14_In.l0 (k + 1) y0 y1 y2 y3))
 | 0 => fun _ _ _ _ r h => by simp [semigroupref14_In.l0] at h
 | k + 1 => by
  have ih0 := semigroupref14_In.mono_l k
  ·intro y0 y1 y2 y3
   unfold semigroupref14_In.l0
   repeat' first
   | (with_reducible exact ih0 _ _ _ _)
   | (with_reducible exact LeO.refl _)
   | (with_reducible exact LeO.none _)
   | (with_reducible refine LeO.ite ?_ ?_)
   | (with_reducible refine LeO.bind ?_ (fun _ => ?_))
   | exact ih0 _ _ _ _
   | exact LeO.none _
   | refine LeO.ite ?_ ?_
   | refine LeO.bind ?_ (fun _ => ?_)
theorem semigroupref14_In.mono : ∀ a0 a1 k, LeO (semigroupref14_In.f k a0 a1) (semigroupref14_In.f (k + 1) a0 a1) := by
 intro a0 a1 k
 have ih0 := semigroupref14_In.mono_l k
 unfold semigroupref14_In.f
 repeat' first
   | (with_reducible exact ih0 _ _ _ _)
   | (with_reducible exact LeO.refl _)
   | (with_reducible exact LeO.none _)
   | (with_reducible refine LeO.ite ?_ ?_)
   | (with_reducible refine LeO.bind ?_ (fun _ => ?_))
   | exact ih0 _ _ _ _
   | exact LeO.none _
   | refine LeO.ite ?_ ?_
   | refine LeO.bind ?_ (fun _ => ?_)
set_option maxHeartbeats 8000000 in
set_option maxRecDepth 100000 in
theorem semigroupref14_In.calls (k : Nat) (A0 : Option Addr) (c0 : Nat) (l0 : List (List Int)) (A1 : Option Addr) (c1 : Nat) (l1 : List Int) (r : Bool) (w : World) (hr0 : Kd.C (Kd.slice 3 (Kd.int .i64)) w A0 l0.length l0) (hc0 : l0.length ≤ c0) (hr1 : Kd.C (Kd.int .i64) w A1 l1.length l1) (hc1 : l1.length ≤ c1) (h : semigroupref14_In.f k l0 l1 = some r) :
  Calls Try.prog 32 #[.slice A0 l0.length c0, .slice A1 l1.length c1] w fun e w' => e = .returned (.bool r) ∧ Drawn0 w w' := by
 have HR0 := Aside0.mk hr0
 have HC0 := Aside0.mk hc0
 (try clear hr0); (try clear hc0)
 have HR1 := Aside0.mk hr1
 have HC1 := Aside0.mk hc1
 (try clear hr1); (try clear hc1)
 have H : (semigroupref14_In.l0 k l0 l1 (l1.length : Int) 0) = some r := h
 clear h
 have H' := Aside0.mk H
 clear H
 go_enter Try.func32, Try.ntmps32
 go_wp2
 go_loopg [9] k (fun kq v9 w' => ∃ (x9_1 : Int), v9 = .int .i64 x9_1 ∧ Aside0 (semigroupref14_In.l0 kq l0 l1 (l1.length : Int) x9_1 = some r) ∧ Aside0 (kq ≤ k) ∧ Drawn0 w w')
 case atStart => exact ⟨(0), (by first | rfl | (simp; done) | (simp [*]; done)), H', ⟨Nat.le_refl _⟩, by repeat (first | exact Drawn0.refl _ | apply Drawn0.step)⟩
 case round =>
  clear H'
  try clear c1
  try clear p2
  obtain ⟨x9_1, rfl, HA, HK1, ⟨m1, rfl⟩⟩ := hrel
  cases gk with
  | zero => exact absurd HA.out (by simp [semigroupref14_In.l0])
  | succ k1 =>
   have H := HA.out
   clear HA
   simp only [semigroupref14_In.l0] at H
   by_cases c3 : x9_1 < (l1.length : Int)
   ·rw [if_pos c3] at H
    have c3b0 : decide (x9_1 < (l1.length : Int)) = true := decide_eq_true c3
    clear c3
    by_cases c4 : 0 ≤ x9_1
    ·rw [if_pos c4] at H
     have c4b0 : decide (0 ≤ x9_1) = true := decide_eq_true c4
     clear c4
     by_cases c5 : x9_1 < (l1.length : Int)
     ·rw [if_pos c5] at H
      have c5b0 : decide (x9_1 < (l1.length : Int)) = true := decide_eq_true c5
      clear c5
      by_cases c6 : (rd l1 x9_1) < 0
      ·rw [if_pos c6] at H
       have c6b0 : decide ((rd l1 x9_1) < 0) = true := decide_eq_true c6
       clear c6
       obtain rfl := Option.some.inj H
       have p235 : 0 ≤ (x9_1 : Int) := of_decide_eq_true (by first | (with_reducible assumption) | assumption)
       have q235 : x9_1 < (l1.length : Int) := of_decide_eq_true (by first | (with_reducible assumption) | assumption)
       obtain ⟨ad235, e235, hx235_0⟩ := Kd.at_int HR1.out x9_1 p235 q235
       cases e235
       replace p235 := eq_true p235
       replace q235 := eq_true q235
       go_wp2
       go_ret
       exact ⟨by first | rfl | (simp; done) | (simp [*]; done), by repeat (first | exact Drawn0.refl _ | apply Drawn0.step)⟩
      ·rw [if_neg c6] at H
       have c6b0 : decide ((rd l1 x9_1) < 0) = false := decide_eq_false c6
       clear c6
       by_cases c7 : (rd l1 x9_1) ≥ (l0.length : Int)
       ·rw [if_pos c7] at H
        have c7b0 : decide ((l0.length : Int) ≤ (rd l1 x9_1)) = true := decide_eq_true c7
        clear c7
        obtain rfl := Option.some.inj H
        have p235 : 0 ≤ (x9_1 : Int) := of_decide_eq_true (by first | (with_reducible assumption) | assumption)
        have q235 : x9_1 < (l1.length : Int) := of_decide_eq_true (by first | (with_reducible assumption) | assumption)
        obtain ⟨ad235, e235, hx235_0⟩ := Kd.at_int HR1.out x9_1 p235 q235
        cases e235
        replace p235 := eq_true p235
        replace q235 := eq_true q235
        go_wp2
        go_ret
        exact ⟨by first | rfl | (simp; done) | (simp [*]; done), by repeat (first | exact Drawn0.refl _ | apply Drawn0.step)⟩
       ·rw [if_neg c7] at H
        have c7b0 : decide ((l0.length : Int) ≤ (rd l1 x9_1)) = false := decide_eq_false c7
        clear c7
        have H' := Aside0.mk H
        clear H
        have p235 : 0 ≤ (x9_1 : Int) := of_decide_eq_true (by first | (with_reducible assumption) | assumption)
        have q235 : x9_1 < (l1.length : Int) := of_decide_eq_true (by first | (with_reducible assumption) | assumption)
        obtain ⟨ad235, e235, hx235_0⟩ := Kd.at_int HR1.out x9_1 p235 q235
        cases e235
        replace p235 := eq_true p235
        replace q235 := eq_true q235
        go_wp2
        go_roundg k1
        case measure => have := HK1.out; omega
        case rel => exact ⟨(wrap64 (x9_1 + 1)), (by first | rfl | (simp; done) | (simp [*]; done)), H', ⟨by have := HK1.out; omega⟩, by repeat (first | exact Drawn0.refl _ | apply Drawn0.step)⟩
     ·rw [if_neg c5] at H
      exact absurd H (by simp)
    ·rw [if_neg c4] at H
     exact absurd H (by simp)
   ·rw [if_neg c3] at H
    have c3b0 : decide (x9_1 < (l1.length : Int)) = false := decide_eq_false c3
    clear c3
    obtain rfl := Option.some.inj H
    go_wp2
    go_ret
    exact ⟨by first | rfl | (simp; done) | (simp [*]; done), by repeat (first | exact Drawn0.refl _ | apply Drawn0.step)⟩

/-! ### semigrouplaw14_small: function 36 -/
def semigrouplaw14_small.f (k : Nat) (l0 : List (List Int)) (a1 : Int) : Option (Bool) := if (l0.length : Int) ≤ a1 then ((semigroupref14_Valid.f k l0).bind fun t281 => (some t281)) else (some false)
theorem semigrouplaw14_small.mono : ∀ a0 a1 k, LeO (semigrouplaw14_small.f k a0 a1) (semigrouplaw14_small.f (k + 1) a0 a1) := by
 intro a0 a1 k
 unfold semigrouplaw14_small.f
 repeat' first
   | (with_reducible exact semigroupref14_Valid.mono _ _)
   | (with_reducible exact LeO.refl _)
   | (with_reducible exact LeO.none _)
   | (with_reducible refine LeO.ite ?_ ?_)
   | (with_reducible refine LeO.bind ?_ (fun _ => ?_))
   | exact semigroupref14_Valid.mono _ _
   | exact LeO.none _
   | refine LeO.ite ?_ ?_
   | refine LeO.bind ?_ (fun _ => ?_)
set_option maxHeartbeats 8000000 in
set_option maxRecDepth 100000 in
theorem semigrouplaw14_small.calls (k : Nat) (A0 : Option Addr) (c0 : Nat) (l0 : List (List Int)) (a1 : Int) (r : Bool) (w : World) (hr0 : Kd.C (Kd.slice 3 (Kd.int .i64)) w A0 l0.length l0) (hc0 : l0.length ≤ c0) (h : semigrouplaw14_small.f k l0 a1 = some r) :
  Calls Try.prog 36 #[.slice A0 l0.length c0, .int .i64 a1] w fun e w' => e = .returned (.bool r) ∧ Drawn0 w w' := by
 have HR0 := Aside0.mk hr0
 have HC0 := Aside0.mk hc0
 (try clear hr0); (try clear hc0)
 have H : (if (l0.length : Int) ≤ a1 then ((semigroupref14_Valid.f k l0).bind fun t281 => (some t281)) else (some false)) = some r := h
 clear h
 by_cases c3 : (l0.length : Int) ≤ a1
 ·rw [if_pos c3] at H
  have c3b0 : decide ((l0.length : Int) ≤ a1) = true := decide_eq_true c3
  clear c3
  replace H := Option.bind_eq_some_iff.mp H
  obtain ⟨t281, A40, H⟩ := H
  replace H : (some t281) = some r := H
  have A4 := Aside0.mk A40
  clear A40
  obtain rfl := Option.some.inj H
  go_enter Try.func36, Try.ntmps36
  go_wp2_with (first | (go_at_call 24; (with_reducible refine (semigroupref14_Valid.calls k _ _ l0 t281 _ ?side1 ?side2 A4.out).mono ?_); (case side1 => repeat (first | exact HR0.out | (with_reducible refine Kd.C_alloc ?_ _) | (with_reducible refine Kd.C_drewN ?_ _) | (with_reducible refine Kd.C_drew ?_))); (case side2 => exact HC0.out); rintro e w' ⟨rfl, ⟨nd, rfl⟩⟩))
  go_ret
  exact ⟨by first | rfl | (simp; done) | (simp [*]; done), by repeat (first | exact Drawn0.refl _ | apply Drawn0.step)⟩
 ·rw [if_neg c3] at H
  have c3b0 : decide ((l0.length : Int) ≤ a1) = false := decide_eq_false c3
  clear c3
  obtain rfl := Option.some.inj H
  go_enter Try.func36, Try.ntmps36
  go_wp2
  go_ret
  exact ⟨by first | rfl | (simp; done) | (simp [*]; done), by repeat (first | exact Drawn0.refl _ | apply Drawn0.step)⟩

-- NOT PRINTED: function 6 (semigrouplaw14_MultExponents)

/-! ### semigroupref03_Set: function 54 -/
def semigroupref03_Set.l0 : Nat → Int → List Bool → List Int → Int → Int → Option (List Bool)
 | 0, _, _, _, _, _ => none
 | k + 1, x1, x5, x10, x11, x12 => if x12 < x11 then (if 0 ≤ x12 then (if x12 < (x10.length : Int) then (if (rd x10 x12) ≥ 0 then (if (rd x10 x12) < x1 then (if 0 ≤ (rd x10 x12) then (if (rd x10 x12) < (x5.length : Int) then (semigroupref03_Set.l0 k x1 (x5.set ((rd x10 x12) : Int).toNat true) x10 x11 (wrap64 (x12 + 1))) else (none)) else (none)) else (semigroupref03_Set.l0 k x1 x5 x10 x11 (wrap64 (x12 + 1)))) else (semigroupref03_Set.l0 k x1 x5 x10 x11 (wrap64 (x12 + 1)))) else (none)) else (none)) else (some x5)
def semigroupref03_Set.f (k : Nat) (l0 : List Int) (a1 : Int) : Option (List Bool) := if 0 ≤ a1 then (if (a1 : Int).toNat ≤ 281474976710656 then (semigroupref03_Set.l0 k a1 (List.replicate (a1 : Int).toNat false) l0 (l0.length : Int) 0) else (none)) else (none)
theorem semigroupref03_Set.mono_l : ∀ k, (∀ y0 y1 y2 y3 y4, LeO (semigroupref03_Set.l0 k y0 y1 y2 y3 y4) (semigroupref03_Set.l0 (k + 1) y0 y1 y2 y3 y4))
 | 0 => fun _ _ _ _ _ r h => by simp [semigroupref03_Set.l0] at h
 | k + 1 => by
  have ih0 := semigroupref03_Set.mono_l k
  ·intro y0 y1 y2 y3 y4
   unfold semigroupref03_Set.l0
   repeat' first
   | (with_reducible exact ih0 _ _ _ _ _)
   | (with_reducible exact LeO.refl _)
   | (with_reducible exact LeO.none _)
   | (with_reducible refine LeO.ite ?_ ?_)
   | (with_reducible refine LeO.bind ?_ (fun _ => ?_))
   | exact ih0 _ _ _ _ _
   | exact LeO.none _
   | refine LeO.ite ?_ ?_
   | refine LeO.bind ?_ (fun _ => ?_)
theorem semigroupref03_Set.mono : ∀ a0 a1 k, LeO (semigroupref03_Set.f k a0 a1) (semigroupref03_Set.f (k + 1) a0 a1) := by
 intro a0 a1 k
 have ih0 := semigroupref03_Set.mono_l k
 unfold semigroupref03_Set.f
 repeat' first
   | (with_reducible exact ih0 _ _ _ _ _)
   | (with_reducible exact LeO.refl _)
   | (with_reducible exact LeO.none _)
   | (with_reducible refine LeO.ite ?_ ?_)
   | (with_reducible refine LeO.bind ?_ (fun _ => ?_))
   | exact ih0 _ _ _ _ _
   | exact LeO.none _
   | refine LeO.ite ?_ ?_
   | refine LeO.bind ?_ (fun _ => ?_)
set_option maxHeartbeats 8000000 in
set_option maxRecDepth 100000 in
theorem semigroupref03_Set.calls (k : Nat) (A0 : Option Addr) (c0 : Nat) (l0 : List Int) (a1 : Int) (r : List Bool) (w : World) (hr0 : Kd.C (Kd.int .i64) w A0 l0.length l0) (hc0 : l0.length ≤ c0) (h : semigroupref03_Set.f k l0 a1 = some r) :
  Calls Try.prog 54 #[.slice A0 l0.length c0, .int .i64 a1] w fun e w' => ∃ v0_ : Value, e = .returned (v0_) ∧ Kd.R Kd.bool 4 w' w.heap.size (fun _ => True) v0_ r ∧ Below w.heap.size w w' := by
 have HR0 := Aside0.mk hr0
 have HC0 := Aside0.mk hc0
 (try clear hr0); (try clear hc0)
 have HB := Aside0.mk (Below.refl w.heap.size w)
 have H : (if 0 ≤ a1 then (if (a1 : Int).toNat ≤ 281474976710656 then (semigroupref03_Set.l0 k a1 (List.replicate (a1 : Int).toNat false) l0 (l0.length : Int) 0) else (none)) else (none)) = some r := h
 clear h
 by_cases c3 : 0 ≤ a1
 ·rw [if_pos c3] at H
  have c3b0 := eq_true c3
  have c3b1 : decide (0 ≤ a1) = true := decide_eq_true c3
  clear c3
  by_cases c4 : (a1 : Int).toNat ≤ 281474976710656
  ·rw [if_pos c4] at H
   have c4b0 := eq_true c4
   have c4b1 : decide ((a1 : Int).toNat ≤ 281474976710656) = true := decide_eq_true c4
   clear c4
   obtain ⟨y373, hy373⟩ : ∃ y_ : List Bool, y_ = (List.replicate (a1 : Int).toNat false) := ⟨_, rfl⟩
   replace H : (semigroupref03_Set.l0 k a1 y373 l0 (l0.length : Int) 0) = some r := by first | (rw [hy373]; with_reducible exact H) | (have H2_ := (Option.bind_some _ _).symm.trans H; rw [hy373]; with_reducible exact H2_) | (have H2_ := (Option.bind_some _ _).symm.trans H; with_reducible exact H2_) | with_reducible exact H | (rw [hy373]; exact H) | exact H
   have Ny373 := Aside0.mk hy373
   clear hy373
   have H' := Aside0.mk H
   clear H
   go_enter Try.func54, Try.ntmps54
   go_wp2_with (first | ((with_reducible refine gate_dst (N := 9) rfl ?_); refine Kd.R_make Kd.bool _ 4 rfl (N := 9) rfl 54 _ _ rfl a1 rfl rfl Try.underlying54 (.bool false) 1 info4 rfl (by decide) (by omega) false (ok := fun _ => True) (okp := fun _ => True) rfl (fun _ hk => hk) trivial (of_decide_eq_true (by first | (with_reducible assumption) | assumption)) (Nat.le_trans (Nat.mul_le_mul_right _ (of_decide_eq_true (by first | (with_reducible assumption) | assumption) : a1.toNat ≤ 281474976710656)) (by omega)) (Below.refl _ _) (Nat.le_refl _) ?_; intro v374 w5 ho6 hb hg_ hnew_; (try clear hg_); (try clear hnew_); (first | rw [← Ny373.out] at ho6 | (simp only [Int.reduceToNat] at ho6; rw [← Ny373.out] at ho6)); have n0_ := Aside0.mk (Kd.R_lower ho6 (below_size (by repeat (first | (with_reducible first | exact HB.out | apply below_alloc | apply pw_below_drewN | apply below_drew1) | exact HB.out)))); have n1_ := Aside0.mk (below_step (by repeat (first | (with_reducible first | exact HB.out | apply below_alloc | apply pw_below_drewN | apply below_drew1) | exact HB.out)) hb); clear HB; have HO375 := n0_; have HB := n1_; clear n0_ n1_; (try clear hb); (try clear ho6)))
   go_loopg [12] k (fun kq v12 w' => ∃ (x5_1 : List Bool) (x12_1 : Int), v12 = .int .i64 x12_1 ∧ Aside0 (semigroupref03_Set.l0 kq a1 x5_1 l0 (l0.length : Int) x12_1 = some r) ∧ Aside0 (kq ≤ k) ∧ Aside0 (Kd.R Kd.bool 4 w' w.heap.size (fun _ => True) v374 x5_1) ∧ Aside0 (Below w.heap.size w w'))
   case atStart => exact ⟨(y373), (0), (by first | rfl | (simp; done) | (simp [*]; done)), H', ⟨Nat.le_refl _⟩, ⟨by (with_reducible repeat (first | apply Kd.R_alloc | apply Kd.R_drewN | apply Kd.R_drew)); exact HO375.out⟩, ⟨by repeat (first | (with_reducible first | exact HB.out | apply below_alloc | apply pw_below_drewN | apply below_drew1) | exact HB.out)⟩⟩
   case round =>
    clear H'
    try clear p2
    try clear c3
    try clear c3b0
    try clear c3b1
    try clear c4
    try clear c4b0
    try clear c4b1
    try clear c5
    obtain ⟨x5_1, x12_1, rfl, HA, HK1, HO_5, HB⟩ := hrel
    cases gk with
    | zero => exact absurd HA.out (by simp [semigroupref03_Set.l0])
    | succ k1 =>
     have H := HA.out
     clear HA
     simp only [semigroupref03_Set.l0] at H
     by_cases c7 : x12_1 < (l0.length : Int)
     ·rw [if_pos c7] at H
      have c7b0 : decide (x12_1 < (l0.length : Int)) = true := decide_eq_true c7
      clear c7
      by_cases c8 : 0 ≤ x12_1
      ·rw [if_pos c8] at H
       have c8b0 : decide (0 ≤ x12_1) = true := decide_eq_true c8
       clear c8
       by_cases c9 : x12_1 < (l0.length : Int)
       ·rw [if_pos c9] at H
        have c9b0 : decide (x12_1 < (l0.length : Int)) = true := decide_eq_true c9
        clear c9
        by_cases c10 : (rd l0 x12_1) ≥ 0
        ·rw [if_pos c10] at H
         have c10b0 : decide (0 ≤ (rd l0 x12_1)) = true := decide_eq_true c10
         clear c10
         by_cases c11 : (rd l0 x12_1) < a1
         ·rw [if_pos c11] at H
          have c11b0 : decide ((rd l0 x12_1) < a1) = true := decide_eq_true c11
          clear c11
          by_cases c12 : 0 ≤ (rd l0 x12_1)
          ·rw [if_pos c12] at H
           have c12b0 : decide (0 ≤ (rd l0 x12_1)) = true := decide_eq_true c12
           clear c12
           by_cases c13 : (rd l0 x12_1) < (x5_1.length : Int)
           ·rw [if_pos c13] at H
            have c13b0 : decide ((rd l0 x12_1) < (x5_1.length : Int)) = true := decide_eq_true c13
            clear c13
            obtain ⟨y377, hy377⟩ : ∃ y_ : List Bool, y_ = (x5_1.set ((rd l0 x12_1) : Int).toNat true) := ⟨_, rfl⟩
            replace H : (semigroupref03_Set.l0 k1 a1 y377 l0 (l0.length : Int) (wrap64 (x12_1 + 1))) = some r := by first | (rw [hy377]; with_reducible exact H) | (have H2_ := (Option.bind_some _ _).symm.trans H; rw [hy377]; with_reducible exact H2_) | (have H2_ := (Option.bind_some _ _).symm.trans H; with_reducible exact H2_) | with_reducible exact H | (rw [hy377]; exact H) | exact H
            have Ny377 := Aside0.mk hy377
            clear hy377
            have H' := Aside0.mk H
            clear H
            have p376 : 0 ≤ (x12_1 : Int) := of_decide_eq_true (by first | (with_reducible assumption) | assumption)
            have q376 : x12_1 < (l0.length : Int) := of_decide_eq_true (by first | (with_reducible assumption) | assumption)
            obtain ⟨ad376, e376, hx376_0⟩ := Kd.at_int HR0.out x12_1 p376 q376
            cases e376
            replace hx376_0 := (HB.out.cell (World.block_lt_of_cell? w _ hx376_0)).trans hx376_0
            replace p376 := eq_true p376
            replace q376 := eq_true q376
            have p14 : 0 ≤ ((rd l0 x12_1) : Int) := of_decide_eq_true (by first | (with_reducible assumption) | assumption)
            have q14 : ((rd l0 x12_1) : Int) < ((x5_1.length : Int) : Int) := of_decide_eq_true (by first | (with_reducible assumption) | assumption)
            obtain ⟨go14, co14, eo14, gb14, gl14, cl14, HG14⟩ := Kd.R_form HO_5.out (by omega)
            (first | cases eo14 | (injection eo14 with ea_ en_ ec_; (first | subst ea_ | (injection ea_ with ea_; subst ea_)); subst ec_; clear en_))
            have GB14 := Aside0.mk gb14
            have GG14 := Aside0.mk HG14
            (try clear gb14); (try clear gl14); (try clear HG14)
            obtain ⟨hx14_0, hf14_0⟩ := Kd.R_celln false HO_5.out ((rd l0 x12_1) : Int) p14 q14
            replace p14 := eq_true p14
            replace q14 := eq_true q14
            have HP15 := Kd.R_putg HO_5.out ((rd l0 x12_1) : Int) true
            go_wp2_with (first | ((with_reducible refine gate_store (t := 4) (p := 25) rfl ?_); refine store_event (t := 4) (p := 25) (v := ?vo_w16) (w1 := (wr.setCell ⟨go14, ((rd l0 x12_1) : Int).toNat, none⟩ (.bool true))) ?hg ?ho ?hn ?hr ?_; (case ho => rfl); (case hg => rfl); (case hn => rfl); (case hr => first | (go_simp; done) | (go_simp; rfl)); intro w16 hw; have hg : wr.grownBy w16 (some go14) := (by rw [hw]; exact HP15.2); have hp_ : Kd.R Kd.bool 4 w16 w.heap.size (fun _ => True) (.slice (some ⟨go14, 0, none⟩) x5_1.length co14) y377 := (by rw [hw, Ny377.out]; exact HP15.1); clear HP15; have n0_ := Aside0.mk (hp_); have n1_ := Aside0.mk ((by rw [hw]; exact below_set (HB.out) GB14.out : Below w.heap.size w w16)); clear HO_5; clear HB; have HO_5 := n0_; have HB := n1_; clear n0_ n1_; (try clear hg); (try clear hw); (try clear hp_)))
            go_roundg k1
            case measure => have := HK1.out; omega
            case rel => exact ⟨(y377), (wrap64 (x12_1 + 1)), (by first | rfl | (simp; done) | (simp [*]; done)), H', ⟨by have := HK1.out; omega⟩, ⟨by (with_reducible repeat (first | apply Kd.R_alloc | apply Kd.R_drewN | apply Kd.R_drew)); exact HO_5.out⟩, ⟨by repeat (first | (with_reducible first | exact HB.out | apply below_alloc | apply pw_below_drewN | apply below_drew1) | exact HB.out)⟩⟩
           ·rw [if_neg c13] at H
            exact absurd H (by simp)
          ·rw [if_neg c12] at H
           exact absurd H (by simp)
         ·rw [if_neg c11] at H
          have c11b0 : decide ((rd l0 x12_1) < a1) = false := decide_eq_false c11
          clear c11
          have H' := Aside0.mk H
          clear H
          have p376 : 0 ≤ (x12_1 : Int) := of_decide_eq_true (by first | (with_reducible assumption) | assumption)
          have q376 : x12_1 < (l0.length : Int) := of_decide_eq_true (by first | (with_reducible assumption) | assumption)
          obtain ⟨ad376, e376, hx376_0⟩ := Kd.at_int HR0.out x12_1 p376 q376
          cases e376
          replace hx376_0 := (HB.out.cell (World.block_lt_of_cell? w _ hx376_0)).trans hx376_0
          replace p376 := eq_true p376
          replace q376 := eq_true q376
          go_wp2
          go_roundg k1
          case measure => have := HK1.out; omega
          case rel => exact ⟨(x5_1), (wrap64 (x12_1 + 1)), (by first | rfl | (simp; done) | (simp [*]; done)), H', ⟨by have := HK1.out; omega⟩, ⟨by (with_reducible repeat (first | apply Kd.R_alloc | apply Kd.R_drewN | apply Kd.R_drew)); exact HO_5.out⟩, ⟨by repeat (first | (with_reducible first | exact HB.out | apply below_alloc | apply pw_below_drewN | apply below_drew1) | exact HB.out)⟩⟩
        ·rw [if_neg c10] at H
         have c10b0 : decide (0 ≤ (rd l0 x12_1)) = false := decide_eq_false c10
         clear c10
         have H' := Aside0.mk H
         clear H
         have p376 : 0 ≤ (x12_1 : Int) := of_decide_eq_true (by first | (with_reducible assumption) | assumption)
         have q376 : x12_1 < (l0.length : Int) := of_decide_eq_true (by first | (with_reducible assumption) | assumption)
         obtain ⟨ad376, e376, hx376_0⟩ := Kd.at_int HR0.out x12_1 p376 q376
         cases e376
         replace hx376_0 := (HB.out.cell (World.block_lt_of_cell? w _ hx376_0)).trans hx376_0
         replace p376 := eq_true p376
         replace q376 := eq_true q376
         go_wp2
         go_roundg k1
         case measure => have := HK1.out; omega
         case rel => exact ⟨(x5_1), (wrap64 (x12_1 + 1)), (by first | rfl | (simp; done) | (simp [*]; done)), H', ⟨by have := HK1.out; omega⟩, ⟨by (with_reducible repeat (first | apply Kd.R_alloc | apply Kd.R_drewN | apply Kd.R_drew)); exact HO_5.out⟩, ⟨by repeat (first | (with_reducible first | exact HB.out | apply below_alloc | apply pw_below_drewN | apply below_drew1) | exact HB.out)⟩⟩
       ·rw [if_neg c9] at H
        exact absurd H (by simp)
      ·rw [if_neg c8] at H
       exact absurd H (by simp)
     ·rw [if_neg c7] at H
      have c7b0 : decide (x12_1 < (l0.length : Int)) = false := decide_eq_false c7
      clear c7
      obtain rfl := Option.some.inj H
      go_wp2
      go_ret
      exact ⟨_, by first | rfl | (simp [errW_none, errW_some] <;> rfl) | (simp [*, errW_none, errW_some] <;> rfl), by (with_reducible repeat (first | apply Kd.R_alloc | apply Kd.R_drewN | apply Kd.R_drew)); exact HO_5.out, by repeat (first | (with_reducible first | exact HB.out | apply below_alloc | apply pw_below_drewN | apply below_drew1) | exact HB.out)⟩
  ·rw [if_neg c4] at H
   exact absurd H (by simp)
 ·rw [if_neg c3] at H
  exact absurd H (by simp)

/-! ### mult_elements: function 69 -/
def mult_elements.l0 : Nat → List (List Int) → List Int → Int → Int → Option (Bool)
 | 0, _, _, _, _ => none
 | k + 1, x0, x7, x8, x9 => if x9 < x8 then (if 0 ≤ x9 then (if x9 < (x7.length : Int) then (if (rd x7 x9) < 0 then (some false) else (if (rd x7 x9) ≥ (x0.length : Int) then (some false) else (mult_elements.l0 k x0 x7 x8 (wrap64 (x9 + 1))))) else (none)) else (none)) else (some true)
def mult_elements.f (k : Nat) (l0 : List (List Int)) (l1 : List Int) : Option (Bool) := mult_elements.l0 k l0 l1 (l1.length : Int) 0
theorem mult_elements.mono_l : ∀ k, (∀ y0 y1 y2 y3, LeO (mult_elements.l0 k y0 y1 y2 y3) (mult_elements.l0 (k + 1) y0 y1 y2 y3))
 | 0 => fun _ _ _ _ r h => by simp [mult_elements.l0] at h
 | k + 1 => by
  have ih0 := mult_elements.mono_l k
  ·intro y0 y1 y2 y3
   unfold mult_elements.l0
   repeat' first
   | (with_reducible exact ih0 _ _ _ _)
   | (with_reducible exact LeO.refl _)
   | (with_reducible exact LeO.none _)
   | (with_reducible refine LeO.ite ?_ ?_)
   | (with_reducible refine LeO.bind ?_ (fun _ => ?_))
   | exact ih0 _ _ _ _
   | exact LeO.none _
   | refine LeO.ite ?_ ?_
   | refine LeO.bind ?_ (fun _ => ?_)
theorem mult_elements.mono : ∀ a0 a1 k, LeO (mult_elements.f k a0 a1) (mult_elements.f (k + 1) a0 a1) := by
 intro a0 a1 k
 have ih0 := mult_elements.mono_l k
 unfold mult_elements.f
 repeat' first
   | (with_reducible exact ih0 _ _ _ _)
   | (with_reducible exact LeO.refl _)
   | (with_reducible exact LeO.none _)
   | (with_reducible refine LeO.ite ?_ ?_)
   | (with_reducible refine LeO.bind ?_ (fun _ => ?_))
   | exact ih0 _ _ _ _
   | exact LeO.none _
   | refine LeO.ite ?_ ?_
   | refine LeO.bind ?_ (fun _ => ?_)
set_option maxHeartbeats 8000000 in
set_option maxRecDepth 100000 in
theorem mult_elements.calls (k : Nat) (A0 : Option Addr) (c0 : Nat) (l0 : List (List Int)) (A1 : Option Addr) (c1 : Nat) (l1 : List Int) (r : Bool) (w : World) (hr0 : Kd.C (Kd.slice 3 (Kd.int .i64)) w A0 l0.length l0) (hc0 : l0.length ≤ c0) (hr1 : Kd.C (Kd.int .i64) w A1 l1.length l1) (hc1 : l1.length ≤ c1) (h : mult_elements.f k l0 l1 = some r) :
  Calls Try.prog 69 #[.slice A0 l0.length c0, .slice A1 l1.length c1] w fun e w' => e = .returned (.bool r) ∧ Drawn0 w w' := by
 have HR0 := Aside0.mk hr0
 have HC0 := Aside0.mk hc0
 (try clear hr0); (try clear hc0)
 have HR1 := Aside0.mk hr1
 have HC1 := Aside0.mk hc1
 (try clear hr1); (try clear hc1)
 have H : (mult_elements.l0 k l0 l1 (l1.length : Int) 0) = some r := h
 clear h
 have H' := Aside0.mk H
 clear H
 go_enter Try.func69, Try.ntmps69
 go_wp2
 go_loopg [9] k (fun kq v9 w' => ∃ (x9_1 : Int), v9 = .int .i64 x9_1 ∧ Aside0 (mult_elements.l0 kq l0 l1 (l1.length : Int) x9_1 = some r) ∧ Aside0 (kq ≤ k) ∧ Drawn0 w w')
 case atStart => exact ⟨(0), (by first | rfl | (simp; done) | (simp [*]; done)), H', ⟨Nat.le_refl _⟩, by repeat (first | exact Drawn0.refl _ | apply Drawn0.step)⟩
 case round =>
  clear H'
  try clear c1
  try clear p2
  obtain ⟨x9_1, rfl, HA, HK1, ⟨m1, rfl⟩⟩ := hrel
  cases gk with
  | zero => exact absurd HA.out (by simp [mult_elements.l0])
  | succ k1 =>
   have H := HA.out
   clear HA
   simp only [mult_elements.l0] at H
   by_cases c3 : x9_1 < (l1.length : Int)
   ·rw [if_pos c3] at H
    have c3b0 : decide (x9_1 < (l1.length : Int)) = true := decide_eq_true c3
    clear c3
    by_cases c4 : 0 ≤ x9_1
    ·rw [if_pos c4] at H
     have c4b0 : decide (0 ≤ x9_1) = true := decide_eq_true c4
     clear c4
     by_cases c5 : x9_1 < (l1.length : Int)
     ·rw [if_pos c5] at H
      have c5b0 : decide (x9_1 < (l1.length : Int)) = true := decide_eq_true c5
      clear c5
      by_cases c6 : (rd l1 x9_1) < 0
      ·rw [if_pos c6] at H
       have c6b0 : decide ((rd l1 x9_1) < 0) = true := decide_eq_true c6
       clear c6
       obtain rfl := Option.some.inj H
       have p350 : 0 ≤ (x9_1 : Int) := of_decide_eq_true (by first | (with_reducible assumption) | assumption)
       have q350 : x9_1 < (l1.length : Int) := of_decide_eq_true (by first | (with_reducible assumption) | assumption)
       obtain ⟨ad350, e350, hx350_0⟩ := Kd.at_int HR1.out x9_1 p350 q350
       cases e350
       replace p350 := eq_true p350
       replace q350 := eq_true q350
       go_wp2
       go_ret
       exact ⟨by first | rfl | (simp; done) | (simp [*]; done), by repeat (first | exact Drawn0.refl _ | apply Drawn0.step)⟩
      ·rw [if_neg c6] at H
       have c6b0 : decide ((rd l1 x9_1) < 0) = false := decide_eq_false c6
       clear c6
       by_cases c7 : (rd l1 x9_1) ≥ (l0.length : Int)
       ·rw [if_pos c7] at H
        have c7b0 : decide ((l0.length : Int) ≤ (rd l1 x9_1)) = true := decide_eq_true c7
        clear c7
        obtain rfl := Option.some.inj H
        have p350 : 0 ≤ (x9_1 : Int) := of_decide_eq_true (by first | (with_reducible assumption) | assumption)
        have q350 : x9_1 < (l1.length : Int) := of_decide_eq_true (by first | (with_reducible assumption) | assumption)
        obtain ⟨ad350, e350, hx350_0⟩ := Kd.at_int HR1.out x9_1 p350 q350
        cases e350
        replace p350 := eq_true p350
        replace q350 := eq_true q350
        go_wp2
        go_ret
        exact ⟨by first | rfl | (simp; done) | (simp [*]; done), by repeat (first | exact Drawn0.refl _ | apply Drawn0.step)⟩
       ·rw [if_neg c7] at H
        have c7b0 : decide ((l0.length : Int) ≤ (rd l1 x9_1)) = false := decide_eq_false c7
        clear c7
        have H' := Aside0.mk H
        clear H
        have p350 : 0 ≤ (x9_1 : Int) := of_decide_eq_true (by first | (with_reducible assumption) | assumption)
        have q350 : x9_1 < (l1.length : Int) := of_decide_eq_true (by first | (with_reducible assumption) | assumption)
        obtain ⟨ad350, e350, hx350_0⟩ := Kd.at_int HR1.out x9_1 p350 q350
        cases e350
        replace p350 := eq_true p350
        replace q350 := eq_true q350
        go_wp2
        go_roundg k1
        case measure => have := HK1.out; omega
        case rel => exact ⟨(wrap64 (x9_1 + 1)), (by first | rfl | (simp; done) | (simp [*]; done)), H', ⟨by have := HK1.out; omega⟩, by repeat (first | exact Drawn0.refl _ | apply Drawn0.step)⟩
     ·rw [if_neg c5] at H
      exact absurd H (by simp)
    ·rw [if_neg c4] at H
     exact absurd H (by simp)
   ·rw [if_neg c3] at H
    have c3b0 : decide (x9_1 < (l1.length : Int)) = false := decide_eq_false c3
    clear c3
    obtain rfl := Option.some.inj H
    go_wp2
    go_ret
    exact ⟨by first | rfl | (simp; done) | (simp [*]; done), by repeat (first | exact Drawn0.refl _ | apply Drawn0.step)⟩

/-! ### mult_Generated: function 51 -/
def mult_Generated.f (k : Nat) (l0 : List (List Int)) (l1 : List Int) : Option (List Int) := (mult_Validate.f k l0).bind fun t588 => (if t588 = 0 then ((mult_elements.f k l0 l1).bind fun t589 => (if t589 = true then ((mult_generated.f l0 l1).bind fun t590 => (some t590)) else (some ([] : List Int)))) else (some ([] : List Int)))
theorem mult_Generated.mono : ∀ a0 a1 k, LeO (mult_Generated.f k a0 a1) (mult_Generated.f (k + 1) a0 a1) := by
 intro a0 a1 k
 unfold mult_Generated.f
 repeat' first
   | (with_reducible exact mult_Validate.mono _ _)
   | (with_reducible exact mult_elements.mono _ _ _)
   | (with_reducible exact LeO.refl _)
   | (with_reducible exact LeO.none _)
   | (with_reducible refine LeO.ite ?_ ?_)
   | (with_reducible refine LeO.bind ?_ (fun _ => ?_))
   | exact mult_Validate.mono _ _
   | exact mult_elements.mono _ _ _
   | exact LeO.none _
   | refine LeO.ite ?_ ?_
   | refine LeO.bind ?_ (fun _ => ?_)
set_option maxHeartbeats 8000000 in
set_option maxRecDepth 100000 in
theorem mult_Generated.calls (k : Nat) (A0 : Option Addr) (c0 : Nat) (l0 : List (List Int)) (A1 : Option Addr) (c1 : Nat) (l1 : List Int) (r : List Int) (w : World) (hr0 : Kd.C (Kd.slice 3 (Kd.int .i64)) w A0 l0.length l0) (hc0 : l0.length ≤ c0) (hr1 : Kd.C (Kd.int .i64) w A1 l1.length l1) (hc1 : l1.length ≤ c1) (h : mult_Generated.f k l0 l1 = some r) :
  Calls Try.prog 51 #[.slice A0 l0.length c0, .slice A1 l1.length c1] w fun e w' => ∃ v0_ : Value, e = .returned (v0_) ∧ Kd.R (Kd.int .i64) 3 w' w.heap.size (fun _ => True) v0_ r ∧ Below w.heap.size w w' := by
 have HR0 := Aside0.mk hr0
 have HC0 := Aside0.mk hc0
 (try clear hr0); (try clear hc0)
 have HR1 := Aside0.mk hr1
 have HC1 := Aside0.mk hc1
 (try clear hr1); (try clear hc1)
 have HB := Aside0.mk (Below.refl w.heap.size w)
 have H : ((mult_Validate.f k l0).bind fun t588 => (if t588 = 0 then ((mult_elements.f k l0 l1).bind fun t589 => (if t589 = true then ((mult_generated.f l0 l1).bind fun t590 => (some t590)) else (some ([] : List Int)))) else (some ([] : List Int)))) = some r := h
 clear h
 replace H := Option.bind_eq_some_iff.mp H
 obtain ⟨t588, A30, H⟩ := H
 replace H : (if t588 = 0 then ((mult_elements.f k l0 l1).bind fun t589 => (if t589 = true then ((mult_generated.f l0 l1).bind fun t590 => (some t590)) else (some ([] : List Int)))) else (some ([] : List Int))) = some r := H
 have A3 := Aside0.mk A30
 clear A30
 by_cases c4 : t588 = 0
 ·rw [if_pos c4] at H
  have c4b0 : (t588 == 0) = true := beq_iff_eq.mpr c4
  have c4b1 : (t588 != 0) = false := bne_eq_false_iff_eq.mpr c4
  clear c4
  replace H := Option.bind_eq_some_iff.mp H
  obtain ⟨t589, A50, H⟩ := H
  replace H : (if t589 = true then ((mult_generated.f l0 l1).bind fun t590 => (some t590)) else (some ([] : List Int))) = some r := H
  have A5 := Aside0.mk A50
  clear A50
  by_cases c6 : t589 = true
  ·subst c6
   have H1 : ((mult_generated.f l0 l1).bind fun t590 => (some t590)) = some r := by rw [if_pos rfl] at H; exact H
   clear H
   have H := H1
   clear H1
   replace H := Option.bind_eq_some_iff.mp H
   obtain ⟨t590, A70, H⟩ := H
   replace H : (some t590) = some r := H
   have A7 := Aside0.mk A70
   clear A70
   obtain rfl := Option.some.inj H
   go_enter Try.func51, Try.ntmps51
   go_wp2_with (first | ((with_reducible refine gate_callee (f := 19) rfl ?_); refine goesL_ (some 6) rfl rfl Try.func19 (by kernel_rfl) rfl #[.slice A0 l0.length c0] rfl (by (try simp only [List.map_toArray, List.map_cons, List.map_nil]); first | done | rfl | (simp only [List.length_drop, List.length_take]; rfl)) ?_; (with_reducible refine (mult_Validate.calls k _ _ l0 t588 _ ?side1 ?side2 A3.out).mono ?_); (case side1 => repeat (first | exact HR0.out | (with_reducible refine Kd.C_alloc ?_ _) | (with_reducible refine Kd.C_drewN ?_ _) | (with_reducible refine Kd.C_drew ?_))); (case side2 => exact HC0.out); rintro e w' ⟨rfl, ⟨nd, rfl⟩⟩; refine ⟨_, rfl, ?_⟩) | (go_at_call 69; (with_reducible refine (mult_elements.calls k _ _ l0 _ _ l1 true _ ?side1 ?side2 ?side3 ?side4 A5.out).mono ?_); (case side1 => repeat (first | exact HR0.out | (with_reducible refine Kd.C_alloc ?_ _) | (with_reducible refine Kd.C_drewN ?_ _) | (with_reducible refine Kd.C_drew ?_))); (case side2 => exact HC0.out); (case side3 => repeat (first | exact HR1.out | (with_reducible refine Kd.C_alloc ?_ _) | (with_reducible refine Kd.C_drewN ?_ _) | (with_reducible refine Kd.C_drew ?_))); (case side4 => exact HC1.out); rintro e w' ⟨rfl, ⟨nd, rfl⟩⟩) | ((with_reducible refine gate_callee (f := 74) rfl ?_); refine goesL_ (some 16) rfl rfl Try.func74 (by kernel_rfl) rfl #[.slice A0 l0.length c0, .slice A1 l1.length c1] rfl (by (try simp only [List.map_toArray, List.map_cons, List.map_nil]); first | done | rfl | (simp only [List.length_drop, List.length_take]; rfl)) ?_; (with_reducible refine (mult_generated.calls _ _ l0 _ _ l1 t590 _ ?side1 ?side2 ?side3 ?side4 A7.out).mono ?_); (case side1 => repeat (first | exact HR0.out | (with_reducible refine Kd.C_alloc ?_ _) | (with_reducible refine Kd.C_drewN ?_ _) | (with_reducible refine Kd.C_drew ?_))); (case side2 => exact HC0.out); (case side3 => repeat (first | exact HR1.out | (with_reducible refine Kd.C_alloc ?_ _) | (with_reducible refine Kd.C_drewN ?_ _) | (with_reducible refine Kd.C_drew ?_))); (case side4 => exact HC1.out); rintro e w8 ⟨v591, rfl, ho0, hb⟩; refine ⟨_, rfl, ?_⟩; have n0_ := Aside0.mk (Kd.R_lower ho0 (below_size (by repeat (first | (with_reducible first | exact HB.out | apply below_alloc | apply pw_below_drewN | apply below_drew1) | exact HB.out)))); have n1_ := Aside0.mk (below_step (by repeat (first | (with_reducible first | exact HB.out | apply below_alloc | apply pw_below_drewN | apply below_drew1) | exact HB.out)) hb); clear HB; have HO592 := n0_; have HB := n1_; clear n0_ n1_; (try clear hb); (try clear hb2); (try clear hk); (try clear hi); (try clear ho0)))
   go_ret
   exact ⟨_, by first | rfl | (simp [errW_none, errW_some] <;> rfl) | (simp [*, errW_none, errW_some] <;> rfl), by (with_reducible repeat (first | apply Kd.R_alloc | apply Kd.R_drewN | apply Kd.R_drew)); exact HO592.out, by repeat (first | (with_reducible first | exact HB.out | apply below_alloc | apply pw_below_drewN | apply below_drew1) | exact HB.out)⟩
  ·replace c6 := Bool.eq_false_iff.mpr c6
   subst c6
   have H1 : (some ([] : List Int)) = some r := by rw [if_neg (show ¬ (false = true) by decide)] at H; exact H
   clear H
   have H := H1
   clear H1
   obtain rfl := Option.some.inj H
   go_enter Try.func51, Try.ntmps51
   go_wp2_with (first | ((with_reducible refine gate_callee (f := 19) rfl ?_); refine goesL_ (some 6) rfl rfl Try.func19 (by kernel_rfl) rfl #[.slice A0 l0.length c0] rfl (by (try simp only [List.map_toArray, List.map_cons, List.map_nil]); first | done | rfl | (simp only [List.length_drop, List.length_take]; rfl)) ?_; (with_reducible refine (mult_Validate.calls k _ _ l0 t588 _ ?side1 ?side2 A3.out).mono ?_); (case side1 => repeat (first | exact HR0.out | (with_reducible refine Kd.C_alloc ?_ _) | (with_reducible refine Kd.C_drewN ?_ _) | (with_reducible refine Kd.C_drew ?_))); (case side2 => exact HC0.out); rintro e w' ⟨rfl, ⟨nd, rfl⟩⟩; refine ⟨_, rfl, ?_⟩) | (go_at_call 69; (with_reducible refine (mult_elements.calls k _ _ l0 _ _ l1 false _ ?side1 ?side2 ?side3 ?side4 A5.out).mono ?_); (case side1 => repeat (first | exact HR0.out | (with_reducible refine Kd.C_alloc ?_ _) | (with_reducible refine Kd.C_drewN ?_ _) | (with_reducible refine Kd.C_drew ?_))); (case side2 => exact HC0.out); (case side3 => repeat (first | exact HR1.out | (with_reducible refine Kd.C_alloc ?_ _) | (with_reducible refine Kd.C_drewN ?_ _) | (with_reducible refine Kd.C_drew ?_))); (case side4 => exact HC1.out); rintro e w' ⟨rfl, ⟨nd, rfl⟩⟩))
   go_ret
   exact ⟨_, by first | rfl | (simp [errW_none, errW_some] <;> rfl) | (simp [*, errW_none, errW_some] <;> rfl), by first | exact Kd.R_nil _ _ _ _ _ | exact Kd.N_nil _ _ _ _ _ | exact Kd.V_nil _ _ _ _ _ | exact Kd.Q_nil _ _ _ _ _ | exact Kd.S_nil _ _ _ _ _, by repeat (first | (with_reducible first | exact HB.out | apply below_alloc | apply pw_below_drewN | apply below_drew1) | exact HB.out)⟩
 ·rw [if_neg c4] at H
  have c4b0 : (t588 == 0) = false := beq_eq_false_iff_ne.mpr c4
  have c4b1 : (t588 != 0) = true := bne_iff_ne.mpr c4
  obtain rfl := Option.some.inj H
  go_enter Try.func51, Try.ntmps51
  go_wp2_with (first | ((with_reducible refine gate_callee (f := 19) rfl ?_); refine goesL_ (some 6) rfl rfl Try.func19 (by kernel_rfl) rfl #[.slice A0 l0.length c0] rfl (by (try simp only [List.map_toArray, List.map_cons, List.map_nil]); first | done | rfl | (simp only [List.length_drop, List.length_take]; rfl)) ?_; (with_reducible refine (mult_Validate.calls k _ _ l0 t588 _ ?side1 ?side2 A3.out).mono ?_); (case side1 => repeat (first | exact HR0.out | (with_reducible refine Kd.C_alloc ?_ _) | (with_reducible refine Kd.C_drewN ?_ _) | (with_reducible refine Kd.C_drew ?_))); (case side2 => exact HC0.out); rintro e w' ⟨rfl, ⟨nd, rfl⟩⟩; refine ⟨_, rfl, ?_⟩))
  go_ret
  exact ⟨_, by first | rfl | (simp [errW_none, errW_some] <;> rfl) | (simp [*, errW_none, errW_some] <;> rfl), by first | exact Kd.R_nil _ _ _ _ _ | exact Kd.N_nil _ _ _ _ _ | exact Kd.V_nil _ _ _ _ _ | exact Kd.Q_nil _ _ _ _ _ | exact Kd.S_nil _ _ _ _ _, by repeat (first | (with_reducible first | exact HB.out | apply below_alloc | apply pw_below_drewN | apply below_drew1) | exact HB.out)⟩


end Go.Proofs.Ytlhckcldeojfmaa.PAll
