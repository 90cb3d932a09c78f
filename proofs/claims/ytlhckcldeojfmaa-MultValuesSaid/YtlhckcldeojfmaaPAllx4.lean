-- printed for this claim by printall.sh out of the translation; Lean checks it
import Derived.Test.YtlhckcldeojfmaaPAllx0
import Derived.Test.YtlhckcldeojfmaaPAllx1
import Derived.Test.YtlhckcldeojfmaaPAllx3
namespace Go.Proofs.Ytlhckcldeojfmaa.PAll
open Go.RowKit Go.Proofs.YtlhckcldeojfmaaW.PrintWords Go.Proofs.YtlhckcldeojfmaaW.PrintLast Go.Proofs.YtlhckcldeojfmaaW.PrintMore
attribute [local go_sem] max2_int min2_int max_two min_two max_three min_three max_four min_four   -- for this text's walks alone
set_option linter.unusedVariables false
set_option linter.unusedSimpArgs false

/-! ### semigroupref14_Associative: function 18 -/
mutual
def semigroupref14_Associative.l0 : Nat → List (List Int) → Int → Int → Option (Int × Int × Int × Int)
  | 0, _, _, _ => none
  | k + 1, x0, x16, x17 => if x17 < x16 then (semigroupref14_Associative.l1 k x0 x17 x16 x17 (x0.length : Int) 0) else (some (0, 0, 0, 0))
def semigroupref14_Associative.l1 : Nat → List (List Int) → Int → Int → Int → Int → Int → Option (Int × Int × Int × Int)
  | 0, _, _, _, _, _, _ => none
  | k + 1, x0, x7, x16, x17, x21, x22 => if x22 < x21 then (semigroupref14_Associative.l2 k x0 x7 x22 x16 x17 x21 x22 (x0.length : Int) 0) else (semigroupref14_Associative.l0 k x0 x16 (wrap64 (x17 + 1)))
def semigroupref14_Associative.l2 : Nat → List (List Int) → Int → Int → Int → Int → Int → Int → Int → Int → Option (Int × Int × Int × Int)
  | 0, _, _, _, _, _, _, _, _, _ => none
  | k + 1, x0, x7, x8, x16, x17, x21, x22, x26, x27 => if x27 < x26 then (if 0 ≤ x7 then (if x7 < (x0.length : Int) then (if 0 ≤ x8 then (if x8 < ((rd_L1 x0 x7).length : Int) then (if 0 ≤ (rd (rd_L1 x0 x7) x8) then (if (rd (rd_L1 x0 x7) x8) < (x0.length : Int) then (if 0 ≤ x27 then (if x27 < ((rd_L1 x0 (rd (rd_L1 x0 x7) x8)).length : Int) then (if x8 < (x0.length : Int) then (if x27 < ((rd_L1 x0 x8).length : Int) then (if 0 ≤ (rd (rd_L1 x0 x8) x27) then (if (rd (rd_L1 x0 x8) x27) < ((rd_L1 x0 x7).length : Int) then (if (rd (rd_L1 x0 (rd (rd_L1 x0 x7) x8)) x27) = (rd (rd_L1 x0 x7) (rd (rd_L1 x0 x8) x27)) then (semigroupref14_Associative.l2 k x0 x7 x8 x16 x17 x21 x22 x26 (wrap64 (x27 + 1))) else (some (x7, x8, x27, 5))) else (none)) else (none)) else (none)) else (none)) else (none)) else (none)) else (none)) else (none)) else (none)) else (none)) else (none)) else (none)) else (semigroupref14_Associative.l1 k x0 x7 x16 x17 x21 (wrap64 (x22 + 1)))
end
def semigroupref14_Associative.f (k : Nat) (l0 : List (List Int)) : Option (Int × Int × Int × Int) := (semigroupref14_Shape.f k l0).bind fun t168 => (if t168 = 0 then (semigroupref14_Associative.l0 k l0 (l0.length : Int) 0) else (some (0, 0, 0, t168)))
theorem semigroupref14_Associative.mono_l : ∀ k, (∀ y0 y1 y2, LeO (semigroupref14_Associative.l0 k y0 y1 y2) (semigroupref14_Associative.l0 (k + 1) y0 y1 y2)) ∧ (∀ y0 y1 y2 y3 y4 y5, LeO (semigroupref14_Associative.l1 k y0 y1 y2 y3 y4 y5) (semigroupref14_Associative.l1 (k + 1) y0 y1 y2 y3 y4 y5)) ∧ (∀ y0 y1 y2 y3 y4 y5 y6 y7 y8, LeO (semigroupref14_Associative.l2 k y0 y1 y2 y3 y4 y5 y6 y7 y8) (semigroupref14_Associative.l2 (k + 1) y0 y1 y2 y3 y4 y5 y6 y7 y8))
  | 0 => ⟨fun _ _ _ r h => by simp [semigroupref14_Associative.l0] at h, fun _ _ _ _ _ _ r h => by simp [semigroupref14_Associative.l1] at h, fun _ _ _ _ _ _ _ _ _ r h => by simp [semigroupref14_Associative.l2] at h⟩
  | k + 1 => by
    obtain ⟨ih0, ih1, ih2⟩ := semigroupref14_Associative.mono_l k
    refine ⟨?_, ?_, ?_⟩
    · intro y0 y1 y2
      unfold semigroupref14_Associative.l0
      repeat' first
      | (with_reducible exact ih0 _ _ _)
      | (with_reducible exact ih1 _ _ _ _ _ _)
      | (with_reducible exact ih2 _ _ _ _ _ _ _ _ _)
      | (with_reducible exact semigroupref14_Shape.mono _ _)
      | (with_reducible exact LeO.refl _)
      | (with_reducible exact LeO.none _)
      | (with_reducible refine LeO.ite ?_ ?_)
      | (with_reducible refine LeO.bind ?_ (fun _ => ?_))
      | exact ih0 _ _ _
      | exact ih1 _ _ _ _ _ _
      | exact ih2 _ _ _ _ _ _ _ _ _
      | exact semigroupref14_Shape.mono _ _
      | exact LeO.none _
      | refine LeO.ite ?_ ?_
      | refine LeO.bind ?_ (fun _ => ?_)
    · intro y0 y1 y2 y3 y4 y5
      unfold semigroupref14_Associative.l1
      repeat' first
      | (with_reducible exact ih0 _ _ _)
      | (with_reducible exact ih1 _ _ _ _ _ _)
      | (with_reducible exact ih2 _ _ _ _ _ _ _ _ _)
      | (with_reducible exact semigroupref14_Shape.mono _ _)
      | (with_reducible exact LeO.refl _)
      | (with_reducible exact LeO.none _)
      | (with_reducible refine LeO.ite ?_ ?_)
      | (with_reducible refine LeO.bind ?_ (fun _ => ?_))
      | exact ih0 _ _ _
      | exact ih1 _ _ _ _ _ _
      | exact ih2 _ _ _ _ _ _ _ _ _
      | exact semigroupref14_Shape.mono _ _
      | exact LeO.none _
      | refine LeO.ite ?_ ?_
      | refine LeO.bind ?_ (fun _ => ?_)
    · intro y0 y1 y2 y3 y4 y5 y6 y7 y8
      unfold semigroupref14_Associative.l2
      repeat' first
      | (with_reducible exact ih0 _ _ _)
      | (with_reducible exact ih1 _ _ _ _ _ _)
      | (with_reducible exact ih2 _ _ _ _ _ _ _ _ _)
      | (with_reducible exact semigroupref14_Shape.mono _ _)
      | (with_reducible exact LeO.refl _)
      | (with_reducible exact LeO.none _)
      | (with_reducible refine LeO.ite ?_ ?_)
      | (with_reducible refine LeO.bind ?_ (fun _ => ?_))
      | exact ih0 _ _ _
      | exact ih1 _ _ _ _ _ _
      | exact ih2 _ _ _ _ _ _ _ _ _
      | exact semigroupref14_Shape.mono _ _
      | exact LeO.none _
      | refine LeO.ite ?_ ?_
      | refine LeO.bind ?_ (fun _ => ?_)
theorem semigroupref14_Associative.mono : ∀ a0 k, LeO (semigroupref14_Associative.f k a0) (semigroupref14_Associative.f (k + 1) a0) := by
  intro a0 k
  obtain ⟨ih0, ih1, ih2⟩ := semigroupref14_Associative.mono_l k
  unfold semigroupref14_Associative.f
  repeat' first
      | (with_reducible exact ih0 _ _ _)
      | (with_reducible exact ih1 _ _ _ _ _ _)
      | (with_reducible exact ih2 _ _ _ _ _ _ _ _ _)
      | (with_reducible exact semigroupref14_Shape.mono _ _)
      | (with_reducible exact LeO.refl _)
      | (with_reducible exact LeO.none _)
      | (with_reducible refine LeO.ite ?_ ?_)
      | (with_reducible refine LeO.bind ?_ (fun _ => ?_))
      | exact ih0 _ _ _
      | exact ih1 _ _ _ _ _ _
      | exact ih2 _ _ _ _ _ _ _ _ _
      | exact semigroupref14_Shape.mono _ _
      | exact LeO.none _
      | refine LeO.ite ?_ ?_
      | refine LeO.bind ?_ (fun _ => ?_)
set_option maxHeartbeats 8000000 in
set_option maxRecDepth 100000 in
theorem semigroupref14_Associative.calls (k : Nat) (A0 : Option Addr) (c0 : Nat) (l0 : List (List Int)) (r1 : Int) (r2 : Int) (r3 : Int) (r4 : Int) (w : World) (hr0 : Kd.C (Kd.slice 3 (Kd.int .i64)) w A0 l0.length l0) (hc0 : l0.length ≤ c0) (h : semigroupref14_Associative.f k l0 = some (r1, r2, r3, r4)) :
    Calls Try.prog 18 #[.slice A0 l0.length c0] w fun e w' => e = .returned (.tuple #[.int .i64 r1, .int .i64 r2, .int .i64 r3, .int .i64 r4]) ∧ Drawn0 w w' := by
  have HR0 := Aside0.mk hr0
  have HC0 := Aside0.mk hc0
  (try clear hr0); (try clear hc0)
  have H : ((semigroupref14_Shape.f k l0).bind fun t168 => (if t168 = 0 then (semigroupref14_Associative.l0 k l0 (l0.length : Int) 0) else (some (0, 0, 0, t168)))) = some (r1, r2, r3, r4) := h
  clear h
  replace H := Option.bind_eq_some_iff.mp H
  obtain ⟨t168, A20, H⟩ := H
  replace H : (if t168 = 0 then (semigroupref14_Associative.l0 k l0 (l0.length : Int) 0) else (some (0, 0, 0, t168))) = some (r1, r2, r3, r4) := H
  have A2 := Aside0.mk A20
  clear A20
  by_cases c3 : t168 = 0
  · rw [if_pos c3] at H
    have c3b0 : (t168 == 0) = true := beq_iff_eq.mpr c3
    have c3b1 : (t168 != 0) = false := bne_eq_false_iff_eq.mpr c3
    clear c3
    have H' := Aside0.mk H
    clear H
    go_enter Try.func18, Try.ntmps18
    go_wp2_with (first | (go_at_call 23; (with_reducible refine (semigroupref14_Shape.calls k _ _ l0 t168 _ ?side1 ?side2 A2.out).mono ?_); (case side1 => repeat (first | exact HR0.out | (with_reducible refine Kd.C_alloc ?_ _) | (with_reducible refine Kd.C_drewN ?_ _) | (with_reducible refine Kd.C_drew ?_))); (case side2 => exact HC0.out); rintro e w' ⟨rfl, ⟨nd, rfl⟩⟩; (try first | exact ⟨rfl, _, World.drewN_drewN _ _ _⟩ | exact ⟨rfl, _, Eq.trans (World.drewN_drewN _ _ _) (congrArg (World.drewN _) (Nat.add_assoc _ _ _))⟩)))
    repeat (go_quiet (first | (go_at_call 23; (with_reducible refine (semigroupref14_Shape.calls k _ _ l0 t168 _ ?side1 ?side2 A2.out).mono ?_); (case side1 => repeat (first | exact HR0.out | (with_reducible refine Kd.C_alloc ?_ _) | (with_reducible refine Kd.C_drewN ?_ _) | (with_reducible refine Kd.C_drew ?_))); (case side2 => exact HC0.out); rintro e w' ⟨rfl, ⟨nd, rfl⟩⟩; (try first | exact ⟨rfl, _, World.drewN_drewN _ _ _⟩ | exact ⟨rfl, _, Eq.trans (World.drewN_drewN _ _ _) (congrArg (World.drewN _) (Nat.add_assoc _ _ _))⟩))); try go_wp2_with (first | (go_at_call 23; (with_reducible refine (semigroupref14_Shape.calls k _ _ l0 t168 _ ?side1 ?side2 A2.out).mono ?_); (case side1 => repeat (first | exact HR0.out | (with_reducible refine Kd.C_alloc ?_ _) | (with_reducible refine Kd.C_drewN ?_ _) | (with_reducible refine Kd.C_drew ?_))); (case side2 => exact HC0.out); rintro e w' ⟨rfl, ⟨nd, rfl⟩⟩; (try first | exact ⟨rfl, _, World.drewN_drewN _ _ _⟩ | exact ⟨rfl, _, Eq.trans (World.drewN_drewN _ _ _) (congrArg (World.drewN _) (Nat.add_assoc _ _ _))⟩))))
    go_loopg [17] k (fun kq v17 w' => ∃ (x17_1 : Int), v17 = .int .i64 x17_1 ∧ Aside0 (semigroupref14_Associative.l0 kq l0 (l0.length : Int) x17_1 = some (r1, r2, r3, r4)) ∧ Aside0 (kq ≤ k) ∧ Drawn0 w w')
    case atStart => exact ⟨(0), (by first | rfl | (simp; done) | (simp [*]; done)), H', ⟨Nat.le_refl _⟩, by repeat (first | exact Drawn0.refl _ | apply Drawn0.step)⟩
    case round =>
      clear H'
      try clear c1
      try clear p2
      try clear c3
      try clear c3b0
      try clear c3b1
      obtain ⟨x17_1, rfl, HA, HK1, ⟨m1, rfl⟩⟩ := hrel
      cases gk with
      | zero => exact absurd HA.out (by simp [semigroupref14_Associative.l0])
      | succ k1 =>
        have H := HA.out
        clear HA
        simp only [semigroupref14_Associative.l0] at H
        by_cases c4 : x17_1 < (l0.length : Int)
        · rw [if_pos c4] at H
          have c4b0 : decide (x17_1 < (l0.length : Int)) = true := decide_eq_true c4
          clear c4
          have H' := Aside0.mk H
          clear H
          go_wp2
          repeat (go_quiet (fail); try go_wp2)
          go_loopg [22] k1 (fun kq v22 w' => ∃ (x22_2 : Int), v22 = .int .i64 x22_2 ∧ Aside0 (semigroupref14_Associative.l1 kq l0 x17_1 (l0.length : Int) x17_1 (l0.length : Int) x22_2 = some (r1, r2, r3, r4)) ∧ Aside0 (kq ≤ k1) ∧ Drawn0 w w')
          case atStart => exact ⟨(0), (by first | rfl | (simp; done) | (simp [*]; done)), H', ⟨Nat.le_refl _⟩, by repeat (first | exact Drawn0.refl _ | apply Drawn0.step)⟩
          case round =>
            clear H'
            try clear c1
            try clear p2
            try clear c3
            try clear c3b0
            try clear c3b1
            try clear c4
            try clear c4b0
            try clear p2
            obtain ⟨x22_2, rfl, HA, HK2, ⟨m2, rfl⟩⟩ := hrel
            cases gk with
            | zero => exact absurd HA.out (by simp [semigroupref14_Associative.l1])
            | succ k2 =>
              have H := HA.out
              clear HA
              simp only [semigroupref14_Associative.l1] at H
              by_cases c5 : x22_2 < (l0.length : Int)
              · rw [if_pos c5] at H
                have c5b0 : decide (x22_2 < (l0.length : Int)) = true := decide_eq_true c5
                clear c5
                have H' := Aside0.mk H
                clear H
                go_wp2
                repeat (go_quiet (fail); try go_wp2)
                go_loopg [27] k2 (fun kq v27 w' => ∃ (x27_3 : Int), v27 = .int .i64 x27_3 ∧ Aside0 (semigroupref14_Associative.l2 kq l0 x17_1 x22_2 (l0.length : Int) x17_1 (l0.length : Int) x22_2 (l0.length : Int) x27_3 = some (r1, r2, r3, r4)) ∧ Aside0 (kq ≤ k2) ∧ Drawn0 w w')
                case atStart => exact ⟨(0), (by first | rfl | (simp; done) | (simp [*]; done)), H', ⟨Nat.le_refl _⟩, by repeat (first | exact Drawn0.refl _ | apply Drawn0.step)⟩
                case round =>
                  clear H'
                  try clear c1
                  try clear p2
                  try clear c3
                  try clear c3b0
                  try clear c3b1
                  try clear c4
                  try clear c4b0
                  try clear c5
                  try clear c5b0
                  try clear p2
                  obtain ⟨x27_3, rfl, HA, HK3, ⟨m3, rfl⟩⟩ := hrel
                  cases gk with
                  | zero => exact absurd HA.out (by simp [semigroupref14_Associative.l2])
                  | succ k3 =>
                    have H := HA.out
                    clear HA
                    simp only [semigroupref14_Associative.l2] at H
                    by_cases c6 : x27_3 < (l0.length : Int)
                    · rw [if_pos c6] at H
                      have c6b0 : decide (x27_3 < (l0.length : Int)) = true := decide_eq_true c6
                      clear c6
                      by_cases c7 : 0 ≤ x17_1
                      · rw [if_pos c7] at H
                        have c7b0 : decide (0 ≤ x17_1) = true := decide_eq_true c7
                        clear c7
                        by_cases c8 : x17_1 < (l0.length : Int)
                        · rw [if_pos c8] at H
                          have c8b0 : decide (x17_1 < (l0.length : Int)) = true := decide_eq_true c8
                          clear c8
                          by_cases c9 : 0 ≤ x22_2
                          · rw [if_pos c9] at H
                            have c9b0 : decide (0 ≤ x22_2) = true := decide_eq_true c9
                            clear c9
                            by_cases c10 : x22_2 < ((rd_L1 l0 x17_1).length : Int)
                            · rw [if_pos c10] at H
                              have c10b0 : decide (x22_2 < ((rd_L1 l0 x17_1).length : Int)) = true := decide_eq_true c10
                              clear c10
                              by_cases c11 : 0 ≤ (rd (rd_L1 l0 x17_1) x22_2)
                              · rw [if_pos c11] at H
                                have c11b0 : decide (0 ≤ (rd (rd_L1 l0 x17_1) x22_2)) = true := decide_eq_true c11
                                clear c11
                                by_cases c12 : (rd (rd_L1 l0 x17_1) x22_2) < (l0.length : Int)
                                · rw [if_pos c12] at H
                                  have c12b0 : decide ((rd (rd_L1 l0 x17_1) x22_2) < (l0.length : Int)) = true := decide_eq_true c12
                                  clear c12
                                  by_cases c13 : 0 ≤ x27_3
                                  · rw [if_pos c13] at H
                                    have c13b0 : decide (0 ≤ x27_3) = true := decide_eq_true c13
                                    clear c13
                                    by_cases c14 : x27_3 < ((rd_L1 l0 (rd (rd_L1 l0 x17_1) x22_2)).length : Int)
                                    · rw [if_pos c14] at H
                                      have c14b0 : decide (x27_3 < ((rd_L1 l0 (rd (rd_L1 l0 x17_1) x22_2)).length : Int)) = true := decide_eq_true c14
                                      clear c14
                                      by_cases c15 : x22_2 < (l0.length : Int)
                                      · rw [if_pos c15] at H
                                        have c15b0 : decide (x22_2 < (l0.length : Int)) = true := decide_eq_true c15
                                        clear c15
                                        by_cases c16 : x27_3 < ((rd_L1 l0 x22_2).length : Int)
                                        · rw [if_pos c16] at H
                                          have c16b0 : decide (x27_3 < ((rd_L1 l0 x22_2).length : Int)) = true := decide_eq_true c16
                                          clear c16
                                          by_cases c17 : 0 ≤ (rd (rd_L1 l0 x22_2) x27_3)
                                          · rw [if_pos c17] at H
                                            have c17b0 : decide (0 ≤ (rd (rd_L1 l0 x22_2) x27_3)) = true := decide_eq_true c17
                                            clear c17
                                            by_cases c18 : (rd (rd_L1 l0 x22_2) x27_3) < ((rd_L1 l0 x17_1).length : Int)
                                            · rw [if_pos c18] at H
                                              have c18b0 : decide ((rd (rd_L1 l0 x22_2) x27_3) < ((rd_L1 l0 x17_1).length : Int)) = true := decide_eq_true c18
                                              clear c18
                                              by_cases c19 : (rd (rd_L1 l0 (rd (rd_L1 l0 x17_1) x22_2)) x27_3) = (rd (rd_L1 l0 x17_1) (rd (rd_L1 l0 x22_2) x27_3))
                                              · rw [if_pos c19] at H
                                                have c19b0 : ((rd (rd_L1 l0 (rd (rd_L1 l0 x17_1) x22_2)) x27_3) == (rd (rd_L1 l0 x17_1) (rd (rd_L1 l0 x22_2) x27_3))) = true := beq_iff_eq.mpr c19
                                                have c19b1 : ((rd (rd_L1 l0 (rd (rd_L1 l0 x17_1) x22_2)) x27_3) != (rd (rd_L1 l0 x17_1) (rd (rd_L1 l0 x22_2) x27_3))) = false := bne_eq_false_iff_eq.mpr c19
                                                clear c19
                                                have H' := Aside0.mk H
                                                clear H
                                                have p169 : 0 ≤ (x17_1 : Int) := of_decide_eq_true (by first | (with_reducible assumption) | assumption)
                                                have q169 : x17_1 < (l0.length : Int) := of_decide_eq_true (by first | (with_reducible assumption) | assumption)
                                                obtain ⟨ad169, A169_0, c169_0, e169, hx169_0, hl169_0, hi169_0⟩ := at_L1 HR0.out x17_1 p169 q169
                                                cases e169
                                                have HR169_0 := Aside0.mk hi169_0
                                                have HC169_0 := Aside0.mk hl169_0
                                                (try clear hi169_0); (try clear hl169_0)
                                                replace p169 := eq_true p169
                                                replace q169 := eq_true q169
                                                have p170 : 0 ≤ (x22_2 : Int) := of_decide_eq_true (by first | (with_reducible assumption) | assumption)
                                                have q170 : x22_2 < ((rd_L1 l0 x17_1).length : Int) := of_decide_eq_true (by first | (with_reducible assumption) | assumption)
                                                obtain ⟨ad170, e170, hx170_0⟩ := Kd.at_int HR169_0.out x22_2 p170 q170
                                                cases e170
                                                replace p170 := eq_true p170
                                                replace q170 := eq_true q170
                                                have p171 : 0 ≤ ((rd (rd_L1 l0 x17_1) x22_2) : Int) := of_decide_eq_true (by first | (with_reducible assumption) | assumption)
                                                have q171 : (rd (rd_L1 l0 x17_1) x22_2) < (l0.length : Int) := of_decide_eq_true (by first | (with_reducible assumption) | assumption)
                                                obtain ⟨ad171, A171_0, c171_0, e171, hx171_0, hl171_0, hi171_0⟩ := at_L1 HR0.out (rd (rd_L1 l0 x17_1) x22_2) p171 q171
                                                obtain rfl : ad169 = ad171 := (by injection e171)
                                                have HR171_0 := Aside0.mk hi171_0
                                                have HC171_0 := Aside0.mk hl171_0
                                                (try clear hi171_0); (try clear hl171_0)
                                                replace p171 := eq_true p171
                                                replace q171 := eq_true q171
                                                have p172 : 0 ≤ (x27_3 : Int) := of_decide_eq_true (by first | (with_reducible assumption) | assumption)
                                                have q172 : x27_3 < ((rd_L1 l0 (rd (rd_L1 l0 x17_1) x22_2)).length : Int) := of_decide_eq_true (by first | (with_reducible assumption) | assumption)
                                                obtain ⟨ad172, e172, hx172_0⟩ := Kd.at_int HR171_0.out x27_3 p172 q172
                                                cases e172
                                                replace p172 := eq_true p172
                                                replace q172 := eq_true q172
                                                have p173 : 0 ≤ (x17_1 : Int) := of_decide_eq_true (by first | (with_reducible assumption) | assumption)
                                                have q173 : x17_1 < (l0.length : Int) := of_decide_eq_true (by first | (with_reducible assumption) | assumption)
                                                obtain ⟨ad173, A173_0, c173_0, e173, hx173_0, hl173_0, hi173_0⟩ := at_L1 HR0.out x17_1 p173 q173
                                                obtain rfl : ad169 = ad173 := (by injection e173)
                                                have HR173_0 := Aside0.mk hi173_0
                                                have HC173_0 := Aside0.mk hl173_0
                                                (try clear hi173_0); (try clear hl173_0)
                                                replace p173 := eq_true p173
                                                replace q173 := eq_true q173
                                                have ea_ := Option.some.inj (hx169_0.symm.trans hx173_0)
                                                injection ea_ with ea_ en_ ec_
                                                subst ea_
                                                subst ec_
                                                clear en_
                                                have p174 : 0 ≤ (x22_2 : Int) := of_decide_eq_true (by first | (with_reducible assumption) | assumption)
                                                have q174 : x22_2 < (l0.length : Int) := of_decide_eq_true (by first | (with_reducible assumption) | assumption)
                                                obtain ⟨ad174, A174_0, c174_0, e174, hx174_0, hl174_0, hi174_0⟩ := at_L1 HR0.out x22_2 p174 q174
                                                obtain rfl : ad169 = ad174 := (by injection e174)
                                                have HR174_0 := Aside0.mk hi174_0
                                                have HC174_0 := Aside0.mk hl174_0
                                                (try clear hi174_0); (try clear hl174_0)
                                                replace p174 := eq_true p174
                                                replace q174 := eq_true q174
                                                have p175 : 0 ≤ (x27_3 : Int) := of_decide_eq_true (by first | (with_reducible assumption) | assumption)
                                                have q175 : x27_3 < ((rd_L1 l0 x22_2).length : Int) := of_decide_eq_true (by first | (with_reducible assumption) | assumption)
                                                obtain ⟨ad175, e175, hx175_0⟩ := Kd.at_int HR174_0.out x27_3 p175 q175
                                                cases e175
                                                replace p175 := eq_true p175
                                                replace q175 := eq_true q175
                                                have p176 : 0 ≤ ((rd (rd_L1 l0 x22_2) x27_3) : Int) := of_decide_eq_true (by first | (with_reducible assumption) | assumption)
                                                have q176 : (rd (rd_L1 l0 x22_2) x27_3) < ((rd_L1 l0 x17_1).length : Int) := of_decide_eq_true (by first | (with_reducible assumption) | assumption)
                                                obtain ⟨ad176, e176, hx176_0⟩ := Kd.at_int HR173_0.out (rd (rd_L1 l0 x22_2) x27_3) p176 q176
                                                cases e176
                                                replace p176 := eq_true p176
                                                replace q176 := eq_true q176
                                                go_wp2
                                                repeat (go_quiet (fail); try go_wp2)
                                                go_roundg k3
                                                case measure => have := HK1.out; have := HK2.out; have := HK3.out; omega
                                                case rel => exact ⟨(wrap64 (x27_3 + 1)), (by first | rfl | (simp; done) | (simp [*]; done)), H', ⟨by have := HK1.out; have := HK2.out; have := HK3.out; omega⟩, by repeat (first | exact Drawn0.refl _ | apply Drawn0.step)⟩
                                              · rw [if_neg c19] at H
                                                have c19b0 : ((rd (rd_L1 l0 (rd (rd_L1 l0 x17_1) x22_2)) x27_3) == (rd (rd_L1 l0 x17_1) (rd (rd_L1 l0 x22_2) x27_3))) = false := beq_eq_false_iff_ne.mpr c19
                                                have c19b1 : ((rd (rd_L1 l0 (rd (rd_L1 l0 x17_1) x22_2)) x27_3) != (rd (rd_L1 l0 x17_1) (rd (rd_L1 l0 x22_2) x27_3))) = true := bne_iff_ne.mpr c19
                                                simp only [Option.some.injEq, Prod.mk.injEq] at H
                                                obtain ⟨rfl, rfl, rfl, rfl⟩ := H
                                                have p169 : 0 ≤ (x17_1 : Int) := of_decide_eq_true (by first | (with_reducible assumption) | assumption)
                                                have q169 : x17_1 < (l0.length : Int) := of_decide_eq_true (by first | (with_reducible assumption) | assumption)
                                                obtain ⟨ad169, A169_0, c169_0, e169, hx169_0, hl169_0, hi169_0⟩ := at_L1 HR0.out x17_1 p169 q169
                                                cases e169
                                                have HR169_0 := Aside0.mk hi169_0
                                                have HC169_0 := Aside0.mk hl169_0
                                                (try clear hi169_0); (try clear hl169_0)
                                                replace p169 := eq_true p169
                                                replace q169 := eq_true q169
                                                have p170 : 0 ≤ (x22_2 : Int) := of_decide_eq_true (by first | (with_reducible assumption) | assumption)
                                                have q170 : x22_2 < ((rd_L1 l0 x17_1).length : Int) := of_decide_eq_true (by first | (with_reducible assumption) | assumption)
                                                obtain ⟨ad170, e170, hx170_0⟩ := Kd.at_int HR169_0.out x22_2 p170 q170
                                                cases e170
                                                replace p170 := eq_true p170
                                                replace q170 := eq_true q170
                                                have p171 : 0 ≤ ((rd (rd_L1 l0 x17_1) x22_2) : Int) := of_decide_eq_true (by first | (with_reducible assumption) | assumption)
                                                have q171 : (rd (rd_L1 l0 x17_1) x22_2) < (l0.length : Int) := of_decide_eq_true (by first | (with_reducible assumption) | assumption)
                                                obtain ⟨ad171, A171_0, c171_0, e171, hx171_0, hl171_0, hi171_0⟩ := at_L1 HR0.out (rd (rd_L1 l0 x17_1) x22_2) p171 q171
                                                obtain rfl : ad169 = ad171 := (by injection e171)
                                                have HR171_0 := Aside0.mk hi171_0
                                                have HC171_0 := Aside0.mk hl171_0
                                                (try clear hi171_0); (try clear hl171_0)
                                                replace p171 := eq_true p171
                                                replace q171 := eq_true q171
                                                have p172 : 0 ≤ (x27_3 : Int) := of_decide_eq_true (by first | (with_reducible assumption) | assumption)
                                                have q172 : x27_3 < ((rd_L1 l0 (rd (rd_L1 l0 x17_1) x22_2)).length : Int) := of_decide_eq_true (by first | (with_reducible assumption) | assumption)
                                                obtain ⟨ad172, e172, hx172_0⟩ := Kd.at_int HR171_0.out x27_3 p172 q172
                                                cases e172
                                                replace p172 := eq_true p172
                                                replace q172 := eq_true q172
                                                have p173 : 0 ≤ (x17_1 : Int) := of_decide_eq_true (by first | (with_reducible assumption) | assumption)
                                                have q173 : x17_1 < (l0.length : Int) := of_decide_eq_true (by first | (with_reducible assumption) | assumption)
                                                obtain ⟨ad173, A173_0, c173_0, e173, hx173_0, hl173_0, hi173_0⟩ := at_L1 HR0.out x17_1 p173 q173
                                                obtain rfl : ad169 = ad173 := (by injection e173)
                                                have HR173_0 := Aside0.mk hi173_0
                                                have HC173_0 := Aside0.mk hl173_0
                                                (try clear hi173_0); (try clear hl173_0)
                                                replace p173 := eq_true p173
                                                replace q173 := eq_true q173
                                                have ea_ := Option.some.inj (hx169_0.symm.trans hx173_0)
                                                injection ea_ with ea_ en_ ec_
                                                subst ea_
                                                subst ec_
                                                clear en_
                                                have p174 : 0 ≤ (x22_2 : Int) := of_decide_eq_true (by first | (with_reducible assumption) | assumption)
                                                have q174 : x22_2 < (l0.length : Int) := of_decide_eq_true (by first | (with_reducible assumption) | assumption)
                                                obtain ⟨ad174, A174_0, c174_0, e174, hx174_0, hl174_0, hi174_0⟩ := at_L1 HR0.out x22_2 p174 q174
                                                obtain rfl : ad169 = ad174 := (by injection e174)
                                                have HR174_0 := Aside0.mk hi174_0
                                                have HC174_0 := Aside0.mk hl174_0
                                                (try clear hi174_0); (try clear hl174_0)
                                                replace p174 := eq_true p174
                                                replace q174 := eq_true q174
                                                have p175 : 0 ≤ (x27_3 : Int) := of_decide_eq_true (by first | (with_reducible assumption) | assumption)
                                                have q175 : x27_3 < ((rd_L1 l0 x22_2).length : Int) := of_decide_eq_true (by first | (with_reducible assumption) | assumption)
                                                obtain ⟨ad175, e175, hx175_0⟩ := Kd.at_int HR174_0.out x27_3 p175 q175
                                                cases e175
                                                replace p175 := eq_true p175
                                                replace q175 := eq_true q175
                                                have p176 : 0 ≤ ((rd (rd_L1 l0 x22_2) x27_3) : Int) := of_decide_eq_true (by first | (with_reducible assumption) | assumption)
                                                have q176 : (rd (rd_L1 l0 x22_2) x27_3) < ((rd_L1 l0 x17_1).length : Int) := of_decide_eq_true (by first | (with_reducible assumption) | assumption)
                                                obtain ⟨ad176, e176, hx176_0⟩ := Kd.at_int HR173_0.out (rd (rd_L1 l0 x22_2) x27_3) p176 q176
                                                cases e176
                                                replace p176 := eq_true p176
                                                replace q176 := eq_true q176
                                                go_wp2
                                                repeat (go_quiet (fail); try go_wp2)
                                                refine bodyPost_ret (results_list (rs := [.tmp 2, .tmp 3, .tmp 4, .tmp 5]) rfl (by simp) (.tmp (.tmp (.tmp (.tmp .nil))))) rfl ?_
                                                exact ⟨by first | rfl | (simp; done) | (simp [*]; done), by repeat (first | exact Drawn0.refl _ | apply Drawn0.step)⟩
                                            · rw [if_neg c18] at H
                                              exact absurd H (by simp)
                                          · rw [if_neg c17] at H
                                            exact absurd H (by simp)
                                        · rw [if_neg c16] at H
                                          exact absurd H (by simp)
                                      · rw [if_neg c15] at H
                                        exact absurd H (by simp)
                                    · rw [if_neg c14] at H
                                      exact absurd H (by simp)
                                  · rw [if_neg c13] at H
                                    exact absurd H (by simp)
                                · rw [if_neg c12] at H
                                  exact absurd H (by simp)
                              · rw [if_neg c11] at H
                                exact absurd H (by simp)
                            · rw [if_neg c10] at H
                              exact absurd H (by simp)
                          · rw [if_neg c9] at H
                            exact absurd H (by simp)
                        · rw [if_neg c8] at H
                          exact absurd H (by simp)
                      · rw [if_neg c7] at H
                        exact absurd H (by simp)
                    · rw [if_neg c6] at H
                      have c6b0 : decide (x27_3 < (l0.length : Int)) = false := decide_eq_false c6
                      clear c6
                      have H' := Aside0.mk H
                      clear H
                      go_wp2
                      repeat (go_quiet (fail); try go_wp2)
                      go_roundg k3
                      case measure => have := HK1.out; have := HK2.out; have := HK3.out; omega
                      case rel => exact ⟨(wrap64 (x22_2 + 1)), (by first | rfl | (simp; done) | (simp [*]; done)), H', ⟨by have := HK1.out; have := HK2.out; have := HK3.out; omega⟩, by repeat (first | exact Drawn0.refl _ | apply Drawn0.step)⟩
              · rw [if_neg c5] at H
                have c5b0 : decide (x22_2 < (l0.length : Int)) = false := decide_eq_false c5
                clear c5
                have H' := Aside0.mk H
                clear H
                go_wp2
                repeat (go_quiet (fail); try go_wp2)
                go_roundg k2
                case measure => have := HK1.out; have := HK2.out; omega
                case rel => exact ⟨(wrap64 (x17_1 + 1)), (by first | rfl | (simp; done) | (simp [*]; done)), H', ⟨by have := HK1.out; have := HK2.out; omega⟩, by repeat (first | exact Drawn0.refl _ | apply Drawn0.step)⟩
        · rw [if_neg c4] at H
          have c4b0 : decide (x17_1 < (l0.length : Int)) = false := decide_eq_false c4
          clear c4
          simp only [Option.some.injEq, Prod.mk.injEq] at H
          obtain ⟨rfl, rfl, rfl, rfl⟩ := H
          go_wp2
          repeat (go_quiet (fail); try go_wp2)
          refine bodyPost_ret (results_list (rs := [.tmp 2, .tmp 3, .tmp 4, .tmp 5]) rfl (by simp) (.tmp (.tmp (.tmp (.tmp .nil))))) rfl ?_
          exact ⟨by first | rfl | (simp; done) | (simp [*]; done), by repeat (first | exact Drawn0.refl _ | apply Drawn0.step)⟩
  · rw [if_neg c3] at H
    have c3b0 : (t168 == 0) = false := beq_eq_false_iff_ne.mpr c3
    have c3b1 : (t168 != 0) = true := bne_iff_ne.mpr c3
    simp only [Option.some.injEq, Prod.mk.injEq] at H
    obtain ⟨rfl, rfl, rfl, rfl⟩ := H
    go_enter Try.func18, Try.ntmps18
    go_wp2_with (first | (go_at_call 23; (with_reducible refine (semigroupref14_Shape.calls k _ _ l0 t168 _ ?side1 ?side2 A2.out).mono ?_); (case side1 => repeat (first | exact HR0.out | (with_reducible refine Kd.C_alloc ?_ _) | (with_reducible refine Kd.C_drewN ?_ _) | (with_reducible refine Kd.C_drew ?_))); (case side2 => exact HC0.out); rintro e w' ⟨rfl, ⟨nd, rfl⟩⟩; (try first | exact ⟨rfl, _, World.drewN_drewN _ _ _⟩ | exact ⟨rfl, _, Eq.trans (World.drewN_drewN _ _ _) (congrArg (World.drewN _) (Nat.add_assoc _ _ _))⟩)))
    repeat (go_quiet (first | (go_at_call 23; (with_reducible refine (semigroupref14_Shape.calls k _ _ l0 t168 _ ?side1 ?side2 A2.out).mono ?_); (case side1 => repeat (first | exact HR0.out | (with_reducible refine Kd.C_alloc ?_ _) | (with_reducible refine Kd.C_drewN ?_ _) | (with_reducible refine Kd.C_drew ?_))); (case side2 => exact HC0.out); rintro e w' ⟨rfl, ⟨nd, rfl⟩⟩; (try first | exact ⟨rfl, _, World.drewN_drewN _ _ _⟩ | exact ⟨rfl, _, Eq.trans (World.drewN_drewN _ _ _) (congrArg (World.drewN _) (Nat.add_assoc _ _ _))⟩))); try go_wp2_with (first | (go_at_call 23; (with_reducible refine (semigroupref14_Shape.calls k _ _ l0 t168 _ ?side1 ?side2 A2.out).mono ?_); (case side1 => repeat (first | exact HR0.out | (with_reducible refine Kd.C_alloc ?_ _) | (with_reducible refine Kd.C_drewN ?_ _) | (with_reducible refine Kd.C_drew ?_))); (case side2 => exact HC0.out); rintro e w' ⟨rfl, ⟨nd, rfl⟩⟩; (try first | exact ⟨rfl, _, World.drewN_drewN _ _ _⟩ | exact ⟨rfl, _, Eq.trans (World.drewN_drewN _ _ _) (congrArg (World.drewN _) (Nat.add_assoc _ _ _))⟩))))
    refine bodyPost_ret (results_list (rs := [.tmp 2, .tmp 3, .tmp 4, .tmp 5]) rfl (by simp) (.tmp (.tmp (.tmp (.tmp .nil))))) rfl ?_
    exact ⟨by first | rfl | (simp; done) | (simp [*]; done), by repeat (first | exact Drawn0.refl _ | apply Drawn0.step)⟩

/-! ### semigrouplaw14_MultValidates: function 3 -/
def semigrouplaw14_MultValidates.j0 : Nat → List (List Int) → Bool → Option (Bool)
  | 0, _, _ => none
  | k + 1, x0, x18 => if x18 = true then ((semigrouplaw14_awake.f k).bind fun t177 => (some t177)) else ((mult_Associative.f k x0).bind fun bt178 => ((semigroupref14_Associative.f k x0).bind fun bt182 => (if bt178.1 = bt182.1 then (if bt178.2.1 = bt182.2.1 then (if bt178.2.2.1 = bt182.2.2.1 then (if bt178.2.2.2 = bt182.2.2.2 then ((mult_Validate.f k x0).bind fun t186 => (if t186 = bt182.2.2.2 then ((semigrouplaw14_awake.f k).bind fun t187 => (some t187)) else (some false))) else (some false)) else (some false)) else (some false)) else (some false))))
def semigrouplaw14_MultValidates.f (k : Nat) (l0 : List (List Int)) : Option (Bool) := if (l0.length : Int) > 40 then (semigrouplaw14_MultValidates.j0 k l0 (decide ((l0.length : Int) ≤ 400))) else (semigrouplaw14_MultValidates.j0 k l0 false)
theorem semigrouplaw14_MultValidates.mono_l : ∀ k, (∀ y0 y1, LeO (semigrouplaw14_MultValidates.j0 k y0 y1) (semigrouplaw14_MultValidates.j0 (k + 1) y0 y1))
  | 0 => fun _ _ r h => by simp [semigrouplaw14_MultValidates.j0] at h
  | k + 1 => by
    have ih0 := semigrouplaw14_MultValidates.mono_l k
    · intro y0 y1
      unfold semigrouplaw14_MultValidates.j0
      repeat' first
      | (with_reducible exact ih0 _ _)
      | (with_reducible exact mult_Associative.mono _ _)
      | (with_reducible exact mult_Validate.mono _ _)
      | (with_reducible exact semigrouplaw14_awake.mono _)
      | (with_reducible exact semigroupref14_Associative.mono _ _)
      | (with_reducible exact LeO.refl _)
      | (with_reducible exact LeO.none _)
      | (with_reducible refine LeO.ite ?_ ?_)
      | (with_reducible refine LeO.bind ?_ (fun _ => ?_))
      | exact ih0 _ _
      | exact mult_Associative.mono _ _
      | exact mult_Validate.mono _ _
      | exact semigrouplaw14_awake.mono _
      | exact semigroupref14_Associative.mono _ _
      | exact LeO.none _
      | refine LeO.ite ?_ ?_
      | refine LeO.bind ?_ (fun _ => ?_)
theorem semigrouplaw14_MultValidates.mono : ∀ a0 k, LeO (semigrouplaw14_MultValidates.f k a0) (semigrouplaw14_MultValidates.f (k + 1) a0) := by
  intro a0 k
  have ih0 := semigrouplaw14_MultValidates.mono_l k
  unfold semigrouplaw14_MultValidates.f
  repeat' first
      | (with_reducible exact ih0 _ _)
      | (with_reducible exact mult_Associative.mono _ _)
      | (with_reducible exact mult_Validate.mono _ _)
      | (with_reducible exact semigrouplaw14_awake.mono _)
      | (with_reducible exact semigroupref14_Associative.mono _ _)
      | (with_reducible exact LeO.refl _)
      | (with_reducible exact LeO.none _)
      | (with_reducible refine LeO.ite ?_ ?_)
      | (with_reducible refine LeO.bind ?_ (fun _ => ?_))
      | exact ih0 _ _
      | exact mult_Associative.mono _ _
      | exact mult_Validate.mono _ _
      | exact semigrouplaw14_awake.mono _
      | exact semigroupref14_Associative.mono _ _
      | exact LeO.none _
      | refine LeO.ite ?_ ?_
      | refine LeO.bind ?_ (fun _ => ?_)
set_option maxHeartbeats 8000000 in
set_option maxRecDepth 100000 in
theorem semigrouplaw14_MultValidates.calls (k : Nat) (A0 : Option Addr) (c0 : Nat) (l0 : List (List Int)) (r : Bool) (w : World) (hr0 : Kd.C (Kd.slice 3 (Kd.int .i64)) w A0 l0.length l0) (hc0 : l0.length ≤ c0) (h : semigrouplaw14_MultValidates.f k l0 = some r) :
    Calls Try.prog 3 #[.slice A0 l0.length c0] w fun e w' => e = .returned (.bool r) ∧ Below w.heap.size w w' := by
  have HR0 := Aside0.mk hr0
  have HC0 := Aside0.mk hc0
  (try clear hr0); (try clear hc0)
  have HB := Aside0.mk (Below.refl w.heap.size w)
  have H : (if (l0.length : Int) > 40 then (semigrouplaw14_MultValidates.j0 k l0 (decide ((l0.length : Int) ≤ 400))) else (semigrouplaw14_MultValidates.j0 k l0 false)) = some r := h
  clear h
  have HC2 := Aside0.mk H
  clear H
  go_enter Try.func3, Try.ntmps3
  go_upto_region 1 with (fail)
  go_cut [18] (fun v18 wc => ∃ (kq : Nat) (x18_1 : Bool), v18 = .bool x18_1 ∧ Aside0 (semigrouplaw14_MultValidates.j0 kq l0 x18_1 = some r) ∧ Aside0 (kq ≤ k) ∧ Aside0 (Below w.heap.size w wc))
  case first =>
    have H := HC2.out
    clear HC2
    by_cases c3 : (l0.length : Int) > 40
    · rw [if_pos c3] at H
      have c3b0 : decide (40 < (l0.length : Int)) = true := decide_eq_true c3
      have c3b1 : decide (40 < l0.length) = true := decide_eq_true (by omega)
      clear c3
      (first | rw [c3b0] | (simp only [i64_w, i32_w]; rw [c3b0]) | skip)
      have H' := Aside0.mk H
      clear H
      go_wp2
      go_meet
      case rel => exact ⟨_, (decide ((l0.length : Int) ≤ 400)), (by first | rfl | (simp; done) | (simp [*]; done)), H', ⟨by first | omega | exact Nat.le_refl _⟩, ⟨by repeat (first | (with_reducible first | exact HB.out | apply below_alloc | apply pw_below_drewN | apply below_drew1) | exact HB.out)⟩⟩
    · rw [if_neg c3] at H
      have c3b0 : decide (40 < (l0.length : Int)) = false := decide_eq_false c3
      have c3b1 : decide (40 < l0.length) = false := decide_eq_false (by omega)
      clear c3
      (first | rw [c3b0] | (simp only [i64_w, i32_w]; rw [c3b0]) | skip)
      have H' := Aside0.mk H
      clear H
      go_wp2
      go_meet
      case rel => exact ⟨_, (false), (by first | rfl | (simp; done) | (simp [*]; done)), H', ⟨by first | omega | exact Nat.le_refl _⟩, ⟨by repeat (first | (with_reducible first | exact HB.out | apply below_alloc | apply pw_below_drewN | apply below_drew1) | exact HB.out)⟩⟩
  case rest =>
    clear HC2
    try clear p2
    try clear c3
    try clear c3b0
    try clear c3b1
    obtain ⟨kq, x18_1, rfl, HA, HJ1, HB⟩ := hcut
    cases kq with
    | zero => exact absurd HA.out (by simp [semigrouplaw14_MultValidates.j0])
    | succ kj1 =>
      have H := HA.out
      clear HA
      simp only [semigrouplaw14_MultValidates.j0] at H
      by_cases c4 : x18_1 = true
      · subst c4
        have H1 : ((semigrouplaw14_awake.f kj1).bind fun t177 => (some t177)) = some r := by rw [if_pos rfl] at H; exact H
        clear H
        have H := H1
        clear H1
        replace H := Option.bind_eq_some_iff.mp H
        obtain ⟨t177, A50, H⟩ := H
        replace H : (some t177) = some r := H
        have A5 := Aside0.mk A50
        clear A50
        obtain rfl := Option.some.inj H
        go_wp2_with (first | ((with_reducible refine gate_callee (f := 16) rfl ?_); refine goesL_ (some 19) rfl rfl Try.func16 (by kernel_rfl) rfl #[] rfl (by (try simp only [List.map_toArray, List.map_cons, List.map_nil]); first | done | rfl | (simp only [List.length_drop, List.length_take]; rfl)) ?_; (with_reducible refine (semigrouplaw14_awake.calls kj1  t177 _ A5.out).mono ?_); rintro e w6 ⟨rfl, hb⟩; refine ⟨_, rfl, ?_⟩; have n0_ := Aside0.mk (below_step (by repeat (first | (with_reducible first | exact HB.out | apply below_alloc | apply pw_below_drewN | apply below_drew1) | exact HB.out)) hb); clear HB; have HB := n0_; clear n0_; (try clear hb); (try clear hb2); (try clear hk); (try clear hi)))
        go_ret
        exact ⟨by first | rfl | (simp [errW_none, errW_some] <;> rfl) | (simp [*, errW_none, errW_some] <;> rfl), by repeat (first | (with_reducible first | exact HB.out | apply below_alloc | apply pw_below_drewN | apply below_drew1) | exact HB.out)⟩
      · replace c4 := Bool.eq_false_iff.mpr c4
        subst c4
        have H1 : ((mult_Associative.f kj1 l0).bind fun bt178 => ((semigroupref14_Associative.f kj1 l0).bind fun bt182 => (if bt178.1 = bt182.1 then (if bt178.2.1 = bt182.2.1 then (if bt178.2.2.1 = bt182.2.2.1 then (if bt178.2.2.2 = bt182.2.2.2 then ((mult_Validate.f kj1 l0).bind fun t186 => (if t186 = bt182.2.2.2 then ((semigrouplaw14_awake.f kj1).bind fun t187 => (some t187)) else (some false))) else (some false)) else (some false)) else (some false)) else (some false)))) = some r := by rw [if_neg (show ¬ (false = true) by decide)] at H; exact H
        clear H
        have H := H1
        clear H1
        replace H := Option.bind_eq_some_iff.mp H
        obtain ⟨⟨t178, t179, t180, t181⟩, A70, H⟩ := H
        replace H : ((semigroupref14_Associative.f kj1 l0).bind fun bt182 => (if t178 = bt182.1 then (if t179 = bt182.2.1 then (if t180 = bt182.2.2.1 then (if t181 = bt182.2.2.2 then ((mult_Validate.f kj1 l0).bind fun t186 => (if t186 = bt182.2.2.2 then ((semigrouplaw14_awake.f kj1).bind fun t187 => (some t187)) else (some false))) else (some false)) else (some false)) else (some false)) else (some false))) = some r := H
        have A7 := Aside0.mk A70
        clear A70
        replace H := Option.bind_eq_some_iff.mp H
        obtain ⟨⟨t182, t183, t184, t185⟩, A80, H⟩ := H
        replace H : (if t178 = t182 then (if t179 = t183 then (if t180 = t184 then (if t181 = t185 then ((mult_Validate.f kj1 l0).bind fun t186 => (if t186 = t185 then ((semigrouplaw14_awake.f kj1).bind fun t187 => (some t187)) else (some false))) else (some false)) else (some false)) else (some false)) else (some false)) = some r := H
        have A8 := Aside0.mk A80
        clear A80
        by_cases c9 : t178 = t182
        · rw [if_pos c9] at H
          have c9b0 : (t178 == t182) = true := beq_iff_eq.mpr c9
          have c9b1 : (t178 != t182) = false := bne_eq_false_iff_eq.mpr c9
          clear c9
          by_cases c10 : t179 = t183
          · rw [if_pos c10] at H
            have c10b0 : (t179 == t183) = true := beq_iff_eq.mpr c10
            have c10b1 : (t179 != t183) = false := bne_eq_false_iff_eq.mpr c10
            clear c10
            by_cases c11 : t180 = t184
            · rw [if_pos c11] at H
              have c11b0 : (t180 == t184) = true := beq_iff_eq.mpr c11
              have c11b1 : (t180 != t184) = false := bne_eq_false_iff_eq.mpr c11
              clear c11
              by_cases c12 : t181 = t185
              · rw [if_pos c12] at H
                have c12b0 : (t181 == t185) = true := beq_iff_eq.mpr c12
                have c12b1 : (t181 != t185) = false := bne_eq_false_iff_eq.mpr c12
                clear c12
                replace H := Option.bind_eq_some_iff.mp H
                obtain ⟨t186, A130, H⟩ := H
                replace H : (if t186 = t185 then ((semigrouplaw14_awake.f kj1).bind fun t187 => (some t187)) else (some false)) = some r := H
                have A13 := Aside0.mk A130
                clear A130
                by_cases c14 : t186 = t185
                · rw [if_pos c14] at H
                  have c14b0 : (t186 == t185) = true := beq_iff_eq.mpr c14
                  have c14b1 : (t186 != t185) = false := bne_eq_false_iff_eq.mpr c14
                  clear c14
                  replace H := Option.bind_eq_some_iff.mp H
                  obtain ⟨t187, A150, H⟩ := H
                  replace H : (some t187) = some r := H
                  have A15 := Aside0.mk A150
                  clear A150
                  obtain rfl := Option.some.inj H
                  go_wp2_with (first | ((with_reducible refine gate_callee (f := 17) rfl ?_); refine goesL_ (some 22) rfl rfl Try.func17 (by kernel_rfl) rfl #[.slice A0 l0.length c0] rfl (by (try simp only [List.map_toArray, List.map_cons, List.map_nil]); first | done | rfl | (simp only [List.length_drop, List.length_take]; rfl)) ?_; (with_reducible refine (mult_Associative.calls kj1 _ _ l0 t178 t179 t180 t181 _ ?side1 ?side2 A7.out).mono ?_); (case side1 => repeat (first | exact (Kd.C_below HR0.out HB.out) | (with_reducible refine Kd.C_alloc ?_ _) | (with_reducible refine Kd.C_drewN ?_ _) | (with_reducible refine Kd.C_drew ?_))); (case side2 => exact HC0.out); rintro e w' ⟨rfl, ⟨nd, rfl⟩⟩; refine ⟨_, rfl, ?_⟩) | ((with_reducible refine gate_callee (f := 18) rfl ?_); refine goesL_ (some 29) rfl rfl Try.func18 (by kernel_rfl) rfl #[.slice A0 l0.length c0] rfl (by (try simp only [List.map_toArray, List.map_cons, List.map_nil]); first | done | rfl | (simp only [List.length_drop, List.length_take]; rfl)) ?_; (with_reducible refine (semigroupref14_Associative.calls kj1 _ _ l0 t182 t183 t184 t185 _ ?side1 ?side2 A8.out).mono ?_); (case side1 => repeat (first | exact (Kd.C_below HR0.out (by repeat (first | (with_reducible first | exact HB.out | apply below_alloc | apply pw_below_drewN | apply below_drew1) | exact HB.out))) | (with_reducible refine Kd.C_alloc ?_ _) | (with_reducible refine Kd.C_drewN ?_ _) | (with_reducible refine Kd.C_drew ?_))); (case side2 => exact HC0.out); rintro e w' ⟨rfl, ⟨nd, rfl⟩⟩; refine ⟨_, rfl, ?_⟩) | (go_at_call 19; (with_reducible refine (mult_Validate.calls kj1 _ _ l0 t186 _ ?side1 ?side2 A13.out).mono ?_); (case side1 => repeat (first | exact (Kd.C_below HR0.out (by repeat (first | (with_reducible first | exact HB.out | apply below_alloc | apply pw_below_drewN | apply below_drew1) | exact HB.out))) | (with_reducible refine Kd.C_alloc ?_ _) | (with_reducible refine Kd.C_drewN ?_ _) | (with_reducible refine Kd.C_drew ?_))); (case side2 => exact HC0.out); rintro e w' ⟨rfl, ⟨nd, rfl⟩⟩) | (go_at_call 16; (with_reducible refine (semigrouplaw14_awake.calls kj1  t187 _ A15.out).mono ?_); rintro e w16 ⟨rfl, hb⟩; have n0_ := Aside0.mk (below_step (by repeat (first | (with_reducible first | exact HB.out | apply below_alloc | apply pw_below_drewN | apply below_drew1) | exact HB.out)) hb); clear HB; have HB := n0_; clear n0_; (try clear hb); (try clear hb2); (try clear hk); (try clear hi)))
                  go_ret
                  exact ⟨by first | rfl | (simp [errW_none, errW_some] <;> rfl) | (simp [*, errW_none, errW_some] <;> rfl), by repeat (first | (with_reducible first | exact HB.out | apply below_alloc | apply pw_below_drewN | apply below_drew1) | exact HB.out)⟩
                · rw [if_neg c14] at H
                  have c14b0 : (t186 == t185) = false := beq_eq_false_iff_ne.mpr c14
                  have c14b1 : (t186 != t185) = true := bne_iff_ne.mpr c14
                  obtain rfl := Option.some.inj H
                  go_wp2_with (first | ((with_reducible refine gate_callee (f := 17) rfl ?_); refine goesL_ (some 22) rfl rfl Try.func17 (by kernel_rfl) rfl #[.slice A0 l0.length c0] rfl (by (try simp only [List.map_toArray, List.map_cons, List.map_nil]); first | done | rfl | (simp only [List.length_drop, List.length_take]; rfl)) ?_; (with_reducible refine (mult_Associative.calls kj1 _ _ l0 t178 t179 t180 t181 _ ?side1 ?side2 A7.out).mono ?_); (case side1 => repeat (first | exact (Kd.C_below HR0.out HB.out) | (with_reducible refine Kd.C_alloc ?_ _) | (with_reducible refine Kd.C_drewN ?_ _) | (with_reducible refine Kd.C_drew ?_))); (case side2 => exact HC0.out); rintro e w' ⟨rfl, ⟨nd, rfl⟩⟩; refine ⟨_, rfl, ?_⟩) | ((with_reducible refine gate_callee (f := 18) rfl ?_); refine goesL_ (some 29) rfl rfl Try.func18 (by kernel_rfl) rfl #[.slice A0 l0.length c0] rfl (by (try simp only [List.map_toArray, List.map_cons, List.map_nil]); first | done | rfl | (simp only [List.length_drop, List.length_take]; rfl)) ?_; (with_reducible refine (semigroupref14_Associative.calls kj1 _ _ l0 t182 t183 t184 t185 _ ?side1 ?side2 A8.out).mono ?_); (case side1 => repeat (first | exact (Kd.C_below HR0.out (by repeat (first | (with_reducible first | exact HB.out | apply below_alloc | apply pw_below_drewN | apply below_drew1) | exact HB.out))) | (with_reducible refine Kd.C_alloc ?_ _) | (with_reducible refine Kd.C_drewN ?_ _) | (with_reducible refine Kd.C_drew ?_))); (case side2 => exact HC0.out); rintro e w' ⟨rfl, ⟨nd, rfl⟩⟩; refine ⟨_, rfl, ?_⟩) | (go_at_call 19; (with_reducible refine (mult_Validate.calls kj1 _ _ l0 t186 _ ?side1 ?side2 A13.out).mono ?_); (case side1 => repeat (first | exact (Kd.C_below HR0.out (by repeat (first | (with_reducible first | exact HB.out | apply below_alloc | apply pw_below_drewN | apply below_drew1) | exact HB.out))) | (with_reducible refine Kd.C_alloc ?_ _) | (with_reducible refine Kd.C_drewN ?_ _) | (with_reducible refine Kd.C_drew ?_))); (case side2 => exact HC0.out); rintro e w' ⟨rfl, ⟨nd, rfl⟩⟩))
                  go_ret
                  exact ⟨by first | rfl | (simp [errW_none, errW_some] <;> rfl) | (simp [*, errW_none, errW_some] <;> rfl), by repeat (first | (with_reducible first | exact HB.out | apply below_alloc | apply pw_below_drewN | apply below_drew1) | exact HB.out)⟩
              · rw [if_neg c12] at H
                have c12b0 : (t181 == t185) = false := beq_eq_false_iff_ne.mpr c12
                have c12b1 : (t181 != t185) = true := bne_iff_ne.mpr c12
                obtain rfl := Option.some.inj H
                go_wp2_with (first | ((with_reducible refine gate_callee (f := 17) rfl ?_); refine goesL_ (some 22) rfl rfl Try.func17 (by kernel_rfl) rfl #[.slice A0 l0.length c0] rfl (by (try simp only [List.map_toArray, List.map_cons, List.map_nil]); first | done | rfl | (simp only [List.length_drop, List.length_take]; rfl)) ?_; (with_reducible refine (mult_Associative.calls kj1 _ _ l0 t178 t179 t180 t181 _ ?side1 ?side2 A7.out).mono ?_); (case side1 => repeat (first | exact (Kd.C_below HR0.out HB.out) | (with_reducible refine Kd.C_alloc ?_ _) | (with_reducible refine Kd.C_drewN ?_ _) | (with_reducible refine Kd.C_drew ?_))); (case side2 => exact HC0.out); rintro e w' ⟨rfl, ⟨nd, rfl⟩⟩; refine ⟨_, rfl, ?_⟩) | ((with_reducible refine gate_callee (f := 18) rfl ?_); refine goesL_ (some 29) rfl rfl Try.func18 (by kernel_rfl) rfl #[.slice A0 l0.length c0] rfl (by (try simp only [List.map_toArray, List.map_cons, List.map_nil]); first | done | rfl | (simp only [List.length_drop, List.length_take]; rfl)) ?_; (with_reducible refine (semigroupref14_Associative.calls kj1 _ _ l0 t182 t183 t184 t185 _ ?side1 ?side2 A8.out).mono ?_); (case side1 => repeat (first | exact (Kd.C_below HR0.out (by repeat (first | (with_reducible first | exact HB.out | apply below_alloc | apply pw_below_drewN | apply below_drew1) | exact HB.out))) | (with_reducible refine Kd.C_alloc ?_ _) | (with_reducible refine Kd.C_drewN ?_ _) | (with_reducible refine Kd.C_drew ?_))); (case side2 => exact HC0.out); rintro e w' ⟨rfl, ⟨nd, rfl⟩⟩; refine ⟨_, rfl, ?_⟩))
                go_ret
                exact ⟨by first | rfl | (simp [errW_none, errW_some] <;> rfl) | (simp [*, errW_none, errW_some] <;> rfl), by repeat (first | (with_reducible first | exact HB.out | apply below_alloc | apply pw_below_drewN | apply below_drew1) | exact HB.out)⟩
            · rw [if_neg c11] at H
              have c11b0 : (t180 == t184) = false := beq_eq_false_iff_ne.mpr c11
              have c11b1 : (t180 != t184) = true := bne_iff_ne.mpr c11
              obtain rfl := Option.some.inj H
              go_wp2_with (first | ((with_reducible refine gate_callee (f := 17) rfl ?_); refine goesL_ (some 22) rfl rfl Try.func17 (by kernel_rfl) rfl #[.slice A0 l0.length c0] rfl (by (try simp only [List.map_toArray, List.map_cons, List.map_nil]); first | done | rfl | (simp only [List.length_drop, List.length_take]; rfl)) ?_; (with_reducible refine (mult_Associative.calls kj1 _ _ l0 t178 t179 t180 t181 _ ?side1 ?side2 A7.out).mono ?_); (case side1 => repeat (first | exact (Kd.C_below HR0.out HB.out) | (with_reducible refine Kd.C_alloc ?_ _) | (with_reducible refine Kd.C_drewN ?_ _) | (with_reducible refine Kd.C_drew ?_))); (case side2 => exact HC0.out); rintro e w' ⟨rfl, ⟨nd, rfl⟩⟩; refine ⟨_, rfl, ?_⟩) | ((with_reducible refine gate_callee (f := 18) rfl ?_); refine goesL_ (some 29) rfl rfl Try.func18 (by kernel_rfl) rfl #[.slice A0 l0.length c0] rfl (by (try simp only [List.map_toArray, List.map_cons, List.map_nil]); first | done | rfl | (simp only [List.length_drop, List.length_take]; rfl)) ?_; (with_reducible refine (semigroupref14_Associative.calls kj1 _ _ l0 t182 t183 t184 t185 _ ?side1 ?side2 A8.out).mono ?_); (case side1 => repeat (first | exact (Kd.C_below HR0.out (by repeat (first | (with_reducible first | exact HB.out | apply below_alloc | apply pw_below_drewN | apply below_drew1) | exact HB.out))) | (with_reducible refine Kd.C_alloc ?_ _) | (with_reducible refine Kd.C_drewN ?_ _) | (with_reducible refine Kd.C_drew ?_))); (case side2 => exact HC0.out); rintro e w' ⟨rfl, ⟨nd, rfl⟩⟩; refine ⟨_, rfl, ?_⟩))
              go_ret
              exact ⟨by first | rfl | (simp [errW_none, errW_some] <;> rfl) | (simp [*, errW_none, errW_some] <;> rfl), by repeat (first | (with_reducible first | exact HB.out | apply below_alloc | apply pw_below_drewN | apply below_drew1) | exact HB.out)⟩
          · rw [if_neg c10] at H
            have c10b0 : (t179 == t183) = false := beq_eq_false_iff_ne.mpr c10
            have c10b1 : (t179 != t183) = true := bne_iff_ne.mpr c10
            obtain rfl := Option.some.inj H
            go_wp2_with (first | ((with_reducible refine gate_callee (f := 17) rfl ?_); refine goesL_ (some 22) rfl rfl Try.func17 (by kernel_rfl) rfl #[.slice A0 l0.length c0] rfl (by (try simp only [List.map_toArray, List.map_cons, List.map_nil]); first | done | rfl | (simp only [List.length_drop, List.length_take]; rfl)) ?_; (with_reducible refine (mult_Associative.calls kj1 _ _ l0 t178 t179 t180 t181 _ ?side1 ?side2 A7.out).mono ?_); (case side1 => repeat (first | exact (Kd.C_below HR0.out HB.out) | (with_reducible refine Kd.C_alloc ?_ _) | (with_reducible refine Kd.C_drewN ?_ _) | (with_reducible refine Kd.C_drew ?_))); (case side2 => exact HC0.out); rintro e w' ⟨rfl, ⟨nd, rfl⟩⟩; refine ⟨_, rfl, ?_⟩) | ((with_reducible refine gate_callee (f := 18) rfl ?_); refine goesL_ (some 29) rfl rfl Try.func18 (by kernel_rfl) rfl #[.slice A0 l0.length c0] rfl (by (try simp only [List.map_toArray, List.map_cons, List.map_nil]); first | done | rfl | (simp only [List.length_drop, List.length_take]; rfl)) ?_; (with_reducible refine (semigroupref14_Associative.calls kj1 _ _ l0 t182 t183 t184 t185 _ ?side1 ?side2 A8.out).mono ?_); (case side1 => repeat (first | exact (Kd.C_below HR0.out (by repeat (first | (with_reducible first | exact HB.out | apply below_alloc | apply pw_below_drewN | apply below_drew1) | exact HB.out))) | (with_reducible refine Kd.C_alloc ?_ _) | (with_reducible refine Kd.C_drewN ?_ _) | (with_reducible refine Kd.C_drew ?_))); (case side2 => exact HC0.out); rintro e w' ⟨rfl, ⟨nd, rfl⟩⟩; refine ⟨_, rfl, ?_⟩))
            go_ret
            exact ⟨by first | rfl | (simp [errW_none, errW_some] <;> rfl) | (simp [*, errW_none, errW_some] <;> rfl), by repeat (first | (with_reducible first | exact HB.out | apply below_alloc | apply pw_below_drewN | apply below_drew1) | exact HB.out)⟩
        · rw [if_neg c9] at H
          have c9b0 : (t178 == t182) = false := beq_eq_false_iff_ne.mpr c9
          have c9b1 : (t178 != t182) = true := bne_iff_ne.mpr c9
          obtain rfl := Option.some.inj H
          go_wp2_with (first | ((with_reducible refine gate_callee (f := 17) rfl ?_); refine goesL_ (some 22) rfl rfl Try.func17 (by kernel_rfl) rfl #[.slice A0 l0.length c0] rfl (by (try simp only [List.map_toArray, List.map_cons, List.map_nil]); first | done | rfl | (simp only [List.length_drop, List.length_take]; rfl)) ?_; (with_reducible refine (mult_Associative.calls kj1 _ _ l0 t178 t179 t180 t181 _ ?side1 ?side2 A7.out).mono ?_); (case side1 => repeat (first | exact (Kd.C_below HR0.out HB.out) | (with_reducible refine Kd.C_alloc ?_ _) | (with_reducible refine Kd.C_drewN ?_ _) | (with_reducible refine Kd.C_drew ?_))); (case side2 => exact HC0.out); rintro e w' ⟨rfl, ⟨nd, rfl⟩⟩; refine ⟨_, rfl, ?_⟩) | ((with_reducible refine gate_callee (f := 18) rfl ?_); refine goesL_ (some 29) rfl rfl Try.func18 (by kernel_rfl) rfl #[.slice A0 l0.length c0] rfl (by (try simp only [List.map_toArray, List.map_cons, List.map_nil]); first | done | rfl | (simp only [List.length_drop, List.length_take]; rfl)) ?_; (with_reducible refine (semigroupref14_Associative.calls kj1 _ _ l0 t182 t183 t184 t185 _ ?side1 ?side2 A8.out).mono ?_); (case side1 => repeat (first | exact (Kd.C_below HR0.out (by repeat (first | (with_reducible first | exact HB.out | apply below_alloc | apply pw_below_drewN | apply below_drew1) | exact HB.out))) | (with_reducible refine Kd.C_alloc ?_ _) | (with_reducible refine Kd.C_drewN ?_ _) | (with_reducible refine Kd.C_drew ?_))); (case side2 => exact HC0.out); rintro e w' ⟨rfl, ⟨nd, rfl⟩⟩; refine ⟨_, rfl, ?_⟩))
          go_ret
          exact ⟨by first | rfl | (simp [errW_none, errW_some] <;> rfl) | (simp [*, errW_none, errW_some] <;> rfl), by repeat (first | (with_reducible first | exact HB.out | apply below_alloc | apply pw_below_drewN | apply below_drew1) | exact HB.out)⟩

/-! ### mult_Idempotents: function 22 -/
def mult_Idempotents.l0 : Nat → List (List Int) → List Int → Int → Int → Option (List Int)
  | 0, _, _, _, _ => none
  | k + 1, x0, x3, x9, x10 => if x10 < x9 then (if 0 ≤ x10 then (if x10 < (x0.length : Int) then (if x10 < ((rd_L1 x0 x10).length : Int) then (if (rd (rd_L1 x0 x10) x10) = x10 then (if x3.length < 17592186044416 then (mult_Idempotents.l0 k x0 (x3 ++ [x10]) x9 (wrap64 (x10 + 1))) else (none)) else (mult_Idempotents.l0 k x0 x3 x9 (wrap64 (x10 + 1)))) else (none)) else (none)) else (none)) else (some x3)
def mult_Idempotents.f (k : Nat) (l0 : List (List Int)) : Option (List Int) := (mult_Validate.f k l0).bind fun t188 => (if t188 = 0 then (mult_Idempotents.l0 k l0 ([] : List Int) (l0.length : Int) 0) else (some ([] : List Int)))
theorem mult_Idempotents.mono_l : ∀ k, (∀ y0 y1 y2 y3, LeO (mult_Idempotents.l0 k y0 y1 y2 y3) (mult_Idempotents.l0 (k + 1) y0 y1 y2 y3))
  | 0 => fun _ _ _ _ r h => by simp [mult_Idempotents.l0] at h
  | k + 1 => by
    have ih0 := mult_Idempotents.mono_l k
    · intro y0 y1 y2 y3
      unfold mult_Idempotents.l0
      repeat' first
      | (with_reducible exact ih0 _ _ _ _)
      | (with_reducible exact mult_Validate.mono _ _)
      | (with_reducible exact LeO.refl _)
      | (with_reducible exact LeO.none _)
      | (with_reducible refine LeO.ite ?_ ?_)
      | (with_reducible refine LeO.bind ?_ (fun _ => ?_))
      | exact ih0 _ _ _ _
      | exact mult_Validate.mono _ _
      | exact LeO.none _
      | refine LeO.ite ?_ ?_
      | refine LeO.bind ?_ (fun _ => ?_)
theorem mult_Idempotents.mono : ∀ a0 k, LeO (mult_Idempotents.f k a0) (mult_Idempotents.f (k + 1) a0) := by
  intro a0 k
  have ih0 := mult_Idempotents.mono_l k
  unfold mult_Idempotents.f
  repeat' first
      | (with_reducible exact ih0 _ _ _ _)
      | (with_reducible exact mult_Validate.mono _ _)
      | (with_reducible exact LeO.refl _)
      | (with_reducible exact LeO.none _)
      | (with_reducible refine LeO.ite ?_ ?_)
      | (with_reducible refine LeO.bind ?_ (fun _ => ?_))
      | exact ih0 _ _ _ _
      | exact mult_Validate.mono _ _
      | exact LeO.none _
      | refine LeO.ite ?_ ?_
      | refine LeO.bind ?_ (fun _ => ?_)
set_option maxHeartbeats 8000000 in
set_option maxRecDepth 100000 in
theorem mult_Idempotents.calls (k : Nat) (A0 : Option Addr) (c0 : Nat) (l0 : List (List Int)) (r : List Int) (w : World) (hr0 : Kd.C (Kd.slice 3 (Kd.int .i64)) w A0 l0.length l0) (hc0 : l0.length ≤ c0) (h : mult_Idempotents.f k l0 = some r) :
    Calls Try.prog 22 #[.slice A0 l0.length c0] w fun e w' => ∃ v0_ : Value, e = .returned (v0_) ∧ Kd.R (Kd.int .i64) 3 w' w.heap.size (fun _ => True) v0_ r ∧ Below w.heap.size w w' := by
  have HR0 := Aside0.mk hr0
  have HC0 := Aside0.mk hc0
  (try clear hr0); (try clear hc0)
  have HB := Aside0.mk (Below.refl w.heap.size w)
  have H : ((mult_Validate.f k l0).bind fun t188 => (if t188 = 0 then (mult_Idempotents.l0 k l0 ([] : List Int) (l0.length : Int) 0) else (some ([] : List Int)))) = some r := h
  clear h
  replace H := Option.bind_eq_some_iff.mp H
  obtain ⟨t188, A20, H⟩ := H
  replace H : (if t188 = 0 then (mult_Idempotents.l0 k l0 ([] : List Int) (l0.length : Int) 0) else (some ([] : List Int))) = some r := H
  have A2 := Aside0.mk A20
  clear A20
  by_cases c3 : t188 = 0
  · rw [if_pos c3] at H
    have c3b0 : (t188 == 0) = true := beq_iff_eq.mpr c3
    have c3b1 : (t188 != 0) = false := bne_eq_false_iff_eq.mpr c3
    clear c3
    have H' := Aside0.mk H
    clear H
    go_enter Try.func22, Try.ntmps22
    go_wp2_with (first | ((with_reducible refine gate_callee (f := 19) rfl ?_); refine goesL_ (some 6) rfl rfl Try.func19 (by kernel_rfl) rfl #[.slice A0 l0.length c0] rfl (by (try simp only [List.map_toArray, List.map_cons, List.map_nil]); first | done | rfl | (simp only [List.length_drop, List.length_take]; rfl)) ?_; (with_reducible refine (mult_Validate.calls k _ _ l0 t188 _ ?side1 ?side2 A2.out).mono ?_); (case side1 => repeat (first | exact HR0.out | (with_reducible refine Kd.C_alloc ?_ _) | (with_reducible refine Kd.C_drewN ?_ _) | (with_reducible refine Kd.C_drew ?_))); (case side2 => exact HC0.out); rintro e w' ⟨rfl, ⟨nd, rfl⟩⟩; refine ⟨_, rfl, ?_⟩))
    go_loopg [3, 10] k (fun kq v3 v10 w' => ∃ (x3_1 : List Int) (x10_1 : Int), v10 = .int .i64 x10_1 ∧ Aside0 (mult_Idempotents.l0 kq l0 x3_1 (l0.length : Int) x10_1 = some r) ∧ Aside0 (kq ≤ k) ∧ Aside0 (Kd.R (Kd.int .i64) 3 w' w.heap.size (fun _ => True) v3 x3_1) ∧ Aside0 (Below w.heap.size w w'))
    case atStart => exact ⟨(([] : List Int)), (0), (by first | rfl | (simp; done) | (simp [*]; done)), H', ⟨Nat.le_refl _⟩, ⟨by first | exact Kd.R_nil _ _ _ _ _ | exact Kd.N_nil _ _ _ _ _ | exact Kd.V_nil _ _ _ _ _ | exact Kd.Q_nil _ _ _ _ _ | exact Kd.S_nil _ _ _ _ _⟩, ⟨by repeat (first | (with_reducible first | exact HB.out | apply below_alloc | apply pw_below_drewN | apply below_drew1) | exact HB.out)⟩⟩
    case round =>
      clear H'
      try clear c1
      try clear c2
      try clear p2
      try clear c3
      try clear c3b0
      try clear c3b1
      obtain ⟨x3_1, x10_1, rfl, HA, HK1, HO_3, HB⟩ := hrel
      cases gk with
      | zero => exact absurd HA.out (by simp [mult_Idempotents.l0])
      | succ k1 =>
        have H := HA.out
        clear HA
        simp only [mult_Idempotents.l0] at H
        by_cases c4 : x10_1 < (l0.length : Int)
        · rw [if_pos c4] at H
          have c4b0 : decide (x10_1 < (l0.length : Int)) = true := decide_eq_true c4
          clear c4
          by_cases c5 : 0 ≤ x10_1
          · rw [if_pos c5] at H
            have c5b0 : decide (0 ≤ x10_1) = true := decide_eq_true c5
            clear c5
            by_cases c6 : x10_1 < (l0.length : Int)
            · rw [if_pos c6] at H
              have c6b0 : decide (x10_1 < (l0.length : Int)) = true := decide_eq_true c6
              clear c6
              by_cases c7 : x10_1 < ((rd_L1 l0 x10_1).length : Int)
              · rw [if_pos c7] at H
                have c7b0 : decide (x10_1 < ((rd_L1 l0 x10_1).length : Int)) = true := decide_eq_true c7
                clear c7
                by_cases c8 : (rd (rd_L1 l0 x10_1) x10_1) = x10_1
                · rw [if_pos c8] at H
                  have c8b0 : ((rd (rd_L1 l0 x10_1) x10_1) == x10_1) = true := beq_iff_eq.mpr c8
                  have c8b1 : ((rd (rd_L1 l0 x10_1) x10_1) != x10_1) = false := bne_eq_false_iff_eq.mpr c8
                  clear c8
                  by_cases c9 : x3_1.length < 17592186044416
                  · rw [if_pos c9] at H
                    have LMc9 := Aside0.mk c9
                    clear c9
                    obtain ⟨y191, hy191⟩ : ∃ y_ : List Int, y_ = (x3_1 ++ [x10_1]) := ⟨_, rfl⟩
                    replace H : (mult_Idempotents.l0 k1 l0 y191 (l0.length : Int) (wrap64 (x10_1 + 1))) = some r := by first | (rw [hy191]; with_reducible exact H) | (have H2_ := (Option.bind_some _ _).symm.trans H; rw [hy191]; with_reducible exact H2_) | (have H2_ := (Option.bind_some _ _).symm.trans H; with_reducible exact H2_) | with_reducible exact H | (rw [hy191]; exact H) | exact H
                    have Ny191 := Aside0.mk hy191
                    clear hy191
                    have H' := Aside0.mk H
                    clear H
                    have p189 : 0 ≤ (x10_1 : Int) := of_decide_eq_true (by first | (with_reducible assumption) | assumption)
                    have q189 : x10_1 < (l0.length : Int) := of_decide_eq_true (by first | (with_reducible assumption) | assumption)
                    obtain ⟨ad189, A189_0, c189_0, e189, hx189_0, hl189_0, hi189_0⟩ := at_L1 HR0.out x10_1 p189 q189
                    cases e189
                    replace hx189_0 := (HB.out.cell (World.block_lt_of_cell? w _ hx189_0)).trans hx189_0
                    have HR189_0 := Aside0.mk hi189_0
                    have HC189_0 := Aside0.mk hl189_0
                    (try clear hi189_0); (try clear hl189_0)
                    replace p189 := eq_true p189
                    replace q189 := eq_true q189
                    have p190 : 0 ≤ (x10_1 : Int) := of_decide_eq_true (by first | (with_reducible assumption) | assumption)
                    have q190 : x10_1 < ((rd_L1 l0 x10_1).length : Int) := of_decide_eq_true (by first | (with_reducible assumption) | assumption)
                    obtain ⟨ad190, e190, hx190_0⟩ := Kd.at_int HR189_0.out x10_1 p190 q190
                    cases e190
                    replace hx190_0 := (HB.out.cell (World.block_lt_of_cell? w _ hx190_0)).trans hx190_0
                    replace p190 := eq_true p190
                    replace q190 := eq_true q190
                    go_wp2_with (first | ((with_reducible refine gate_builtin (b := .append) (xs := #[.tmp 22, .tmp 24]) rfl ?_); at_builtin; refine Kd.R_append (Kd.int .i64) (w0 := w) w.heap.size rfl (.tmp 22) (.tmp 24) 30 3 (.int .i64 0) 8 rfl Try.underlying30 info3 rfl (by decide) (by omega) u3 x3_1 x10_1 [.int .i64 x10_1] (fun _ => True) (fun _ => False) rfl rfl ?aP (fun _ hk => hk.elim) ?aF ?aO ?aB ?aS ?aL ?_; (case aP => exact rfl); (case aB => exact (by repeat (first | (with_reducible first | exact HB.out | apply below_alloc | apply pw_below_drewN | apply below_drew1) | exact HB.out))); (case aF => exact (fun _ _ => trivial)); (case aO => exact (by (with_reducible repeat (first | apply Kd.R_alloc | apply Kd.R_drewN | apply Kd.R_drew)); exact HO_3.out)); (case aS => exact (below_size (by repeat (first | (with_reducible first | exact HB.out | apply below_alloc | apply pw_below_drewN | apply below_drew1) | exact HB.out)))); (case aL => have := LMc9.out; omega); intro v192 w10 ho hb hg hat; rw [← Ny191.out] at ho; have n0_ := Aside0.mk (hb); have n1_ := Aside0.mk (ho); clear HB; clear HO_3; have HB := n0_; have HO193 := n1_; clear n0_ n1_; (try clear ho); (try clear hb); (try clear hg); (try clear hat)))
                    go_roundg k1
                    case measure => have := HK1.out; omega
                    case rel => exact ⟨(y191), (wrap64 (x10_1 + 1)), (by first | rfl | (simp; done) | (simp [*]; done)), H', ⟨by have := HK1.out; omega⟩, ⟨by (with_reducible repeat (first | apply Kd.R_alloc | apply Kd.R_drewN | apply Kd.R_drew)); exact HO193.out⟩, ⟨by repeat (first | (with_reducible first | exact HB.out | apply below_alloc | apply pw_below_drewN | apply below_drew1) | exact HB.out)⟩⟩
                  · rw [if_neg c9] at H
                    exact absurd H (by simp)
                · rw [if_neg c8] at H
                  have c8b0 : ((rd (rd_L1 l0 x10_1) x10_1) == x10_1) = false := beq_eq_false_iff_ne.mpr c8
                  have c8b1 : ((rd (rd_L1 l0 x10_1) x10_1) != x10_1) = true := bne_iff_ne.mpr c8
                  have H' := Aside0.mk H
                  clear H
                  have p189 : 0 ≤ (x10_1 : Int) := of_decide_eq_true (by first | (with_reducible assumption) | assumption)
                  have q189 : x10_1 < (l0.length : Int) := of_decide_eq_true (by first | (with_reducible assumption) | assumption)
                  obtain ⟨ad189, A189_0, c189_0, e189, hx189_0, hl189_0, hi189_0⟩ := at_L1 HR0.out x10_1 p189 q189
                  cases e189
                  replace hx189_0 := (HB.out.cell (World.block_lt_of_cell? w _ hx189_0)).trans hx189_0
                  have HR189_0 := Aside0.mk hi189_0
                  have HC189_0 := Aside0.mk hl189_0
                  (try clear hi189_0); (try clear hl189_0)
                  replace p189 := eq_true p189
                  replace q189 := eq_true q189
                  have p190 : 0 ≤ (x10_1 : Int) := of_decide_eq_true (by first | (with_reducible assumption) | assumption)
                  have q190 : x10_1 < ((rd_L1 l0 x10_1).length : Int) := of_decide_eq_true (by first | (with_reducible assumption) | assumption)
                  obtain ⟨ad190, e190, hx190_0⟩ := Kd.at_int HR189_0.out x10_1 p190 q190
                  cases e190
                  replace hx190_0 := (HB.out.cell (World.block_lt_of_cell? w _ hx190_0)).trans hx190_0
                  replace p190 := eq_true p190
                  replace q190 := eq_true q190
                  go_wp2
                  go_roundg k1
                  case measure => have := HK1.out; omega
                  case rel => exact ⟨(x3_1), (wrap64 (x10_1 + 1)), (by first | rfl | (simp; done) | (simp [*]; done)), H', ⟨by have := HK1.out; omega⟩, ⟨by (with_reducible repeat (first | apply Kd.R_alloc | apply Kd.R_drewN | apply Kd.R_drew)); exact HO_3.out⟩, ⟨by repeat (first | (with_reducible first | exact HB.out | apply below_alloc | apply pw_below_drewN | apply below_drew1) | exact HB.out)⟩⟩
              · rw [if_neg c7] at H
                exact absurd H (by simp)
            · rw [if_neg c6] at H
              exact absurd H (by simp)
          · rw [if_neg c5] at H
            exact absurd H (by simp)
        · rw [if_neg c4] at H
          have c4b0 : decide (x10_1 < (l0.length : Int)) = false := decide_eq_false c4
          clear c4
          obtain rfl := Option.some.inj H
          go_wp2
          go_ret
          exact ⟨_, by first | rfl | (simp [errW_none, errW_some] <;> rfl) | (simp [*, errW_none, errW_some] <;> rfl), by (with_reducible repeat (first | apply Kd.R_alloc | apply Kd.R_drewN | apply Kd.R_drew)); exact HO_3.out, by repeat (first | (with_reducible first | exact HB.out | apply below_alloc | apply pw_below_drewN | apply below_drew1) | exact HB.out)⟩
  · rw [if_neg c3] at H
    have c3b0 : (t188 == 0) = false := beq_eq_false_iff_ne.mpr c3
    have c3b1 : (t188 != 0) = true := bne_iff_ne.mpr c3
    obtain rfl := Option.some.inj H
    go_enter Try.func22, Try.ntmps22
    go_wp2_with (first | ((with_reducible refine gate_callee (f := 19) rfl ?_); refine goesL_ (some 6) rfl rfl Try.func19 (by kernel_rfl) rfl #[.slice A0 l0.length c0] rfl (by (try simp only [List.map_toArray, List.map_cons, List.map_nil]); first | done | rfl | (simp only [List.length_drop, List.length_take]; rfl)) ?_; (with_reducible refine (mult_Validate.calls k _ _ l0 t188 _ ?side1 ?side2 A2.out).mono ?_); (case side1 => repeat (first | exact HR0.out | (with_reducible refine Kd.C_alloc ?_ _) | (with_reducible refine Kd.C_drewN ?_ _) | (with_reducible refine Kd.C_drew ?_))); (case side2 => exact HC0.out); rintro e w' ⟨rfl, ⟨nd, rfl⟩⟩; refine ⟨_, rfl, ?_⟩))
    go_ret
    exact ⟨_, by first | rfl | (simp [errW_none, errW_some] <;> rfl) | (simp [*, errW_none, errW_some] <;> rfl), by first | exact Kd.R_nil _ _ _ _ _ | exact Kd.N_nil _ _ _ _ _ | exact Kd.V_nil _ _ _ _ _ | exact Kd.Q_nil _ _ _ _ _ | exact Kd.S_nil _ _ _ _ _, by repeat (first | (with_reducible first | exact HB.out | apply below_alloc | apply pw_below_drewN | apply below_drew1) | exact HB.out)⟩

/-! ### semigroupref14_Validate: function 65 -/
def semigroupref14_Validate.f (k : Nat) (l0 : List (List Int)) : Option (Int) := (semigroupref14_Associative.f k l0).bind fun bt194 => (some bt194.2.2.2)
theorem semigroupref14_Validate.mono : ∀ a0 k, LeO (semigroupref14_Validate.f k a0) (semigroupref14_Validate.f (k + 1) a0) := by
  intro a0 k
  unfold semigroupref14_Validate.f
  repeat' first
      | (with_reducible exact semigroupref14_Associative.mono _ _)
      | (with_reducible exact LeO.refl _)
      | (with_reducible exact LeO.none _)
      | (with_reducible refine LeO.ite ?_ ?_)
      | (with_reducible refine LeO.bind ?_ (fun _ => ?_))
      | exact semigroupref14_Associative.mono _ _
      | exact LeO.none _
      | refine LeO.ite ?_ ?_
      | refine LeO.bind ?_ (fun _ => ?_)
set_option maxHeartbeats 8000000 in
set_option maxRecDepth 100000 in
theorem semigroupref14_Validate.calls (k : Nat) (A0 : Option Addr) (c0 : Nat) (l0 : List (List Int)) (r : Int) (w : World) (hr0 : Kd.C (Kd.slice 3 (Kd.int .i64)) w A0 l0.length l0) (hc0 : l0.length ≤ c0) (h : semigroupref14_Validate.f k l0 = some r) :
    Calls Try.prog 65 #[.slice A0 l0.length c0] w fun e w' => e = .returned (.int .i64 r) ∧ Drawn0 w w' := by
  have HR0 := Aside0.mk hr0
  have HC0 := Aside0.mk hc0
  (try clear hr0); (try clear hc0)
  have H : ((semigroupref14_Associative.f k l0).bind fun bt194 => (some bt194.2.2.2)) = some r := h
  clear h
  replace H := Option.bind_eq_some_iff.mp H
  obtain ⟨⟨t194, t195, t196, t197⟩, A20, H⟩ := H
  replace H : (some t197) = some r := H
  have A2 := Aside0.mk A20
  clear A20
  obtain rfl := Option.some.inj H
  go_enter Try.func65, Try.ntmps65
  go_wp2_with (first | ((with_reducible refine gate_callee (f := 18) rfl ?_); refine goesL_ (some 9) rfl rfl Try.func18 (by kernel_rfl) rfl #[.slice A0 l0.length c0] rfl (by (try simp only [List.map_toArray, List.map_cons, List.map_nil]); first | done | rfl | (simp only [List.length_drop, List.length_take]; rfl)) ?_; (with_reducible refine (semigroupref14_Associative.calls k _ _ l0 t194 t195 t196 t197 _ ?side1 ?side2 A2.out).mono ?_); (case side1 => repeat (first | exact HR0.out | (with_reducible refine Kd.C_alloc ?_ _) | (with_reducible refine Kd.C_drewN ?_ _) | (with_reducible refine Kd.C_drew ?_))); (case side2 => exact HC0.out); rintro e w' ⟨rfl, ⟨nd, rfl⟩⟩; refine ⟨_, rfl, ?_⟩))
  go_ret
  exact ⟨by first | rfl | (simp; done) | (simp [*]; done), by repeat (first | exact Drawn0.refl _ | apply Drawn0.step)⟩

end Go.Proofs.Ytlhckcldeojfmaa.PAll
