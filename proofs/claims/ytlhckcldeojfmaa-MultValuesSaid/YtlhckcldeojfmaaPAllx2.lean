-- printed for this claim by printall.sh out of the translation; Lean checks it
import Derived.Test.YtlhckcldeojfmaaPAllx0
import Derived.Test.YtlhckcldeojfmaaPAllx1
namespace Go.Proofs.Ytlhckcldeojfmaa.PAll
open Go.RowKit Go.Proofs.YtlhckcldeojfmaaW.PrintWords Go.Proofs.YtlhckcldeojfmaaW.PrintLast Go.Proofs.YtlhckcldeojfmaaW.PrintMore
attribute [local go_sem] max2_int min2_int max_two min_two max_three min_three max_four min_four   -- for this text's walks alone
set_option linter.unusedVariables false
set_option linter.unusedSimpArgs false

/-! ### mult_identity: function 64 -/
mutual
def mult_identity.l0 : Nat → List (List Int) → Int → Int → Option (Int)
  | 0, _, _, _ => none
  | k + 1, x0, x7, x8 => if x8 < x7 then (mult_identity.l1 k x0 x8 true x7 x8 (x0.length : Int) 0) else (some (-1))
def mult_identity.l1 : Nat → List (List Int) → Int → Bool → Int → Int → Int → Int → Option (Int)
  | 0, _, _, _, _, _, _, _ => none
  | k + 1, x0, x3, x4, x7, x8, x12, x13 => if x13 < x12 then (if x4 = true then (if 0 ≤ x3 then (if x3 < (x0.length : Int) then (if 0 ≤ x13 then (if x13 < ((rd_L1 x0 x3).length : Int) then (if (rd (rd_L1 x0 x3) x13) = x13 then (if x13 < (x0.length : Int) then (if x3 < ((rd_L1 x0 x13).length : Int) then (mult_identity.l1 k x0 x3 ((rd (rd_L1 x0 x13) x3) == x13) x7 x8 x12 (wrap64 (x13 + 1))) else (none)) else (none)) else (mult_identity.l1 k x0 x3 false x7 x8 x12 (wrap64 (x13 + 1)))) else (none)) else (none)) else (none)) else (none)) else (mult_identity.l1 k x0 x3 false x7 x8 x12 (wrap64 (x13 + 1)))) else (if x4 = true then (some x3) else (mult_identity.l0 k x0 x7 (wrap64 (x8 + 1))))
end
def mult_identity.f (k : Nat) (l0 : List (List Int)) : Option (Int) := mult_identity.l0 k l0 (l0.length : Int) 0
theorem mult_identity.mono_l : ∀ k, (∀ y0 y1 y2, LeO (mult_identity.l0 k y0 y1 y2) (mult_identity.l0 (k + 1) y0 y1 y2)) ∧ (∀ y0 y1 y2 y3 y4 y5 y6, LeO (mult_identity.l1 k y0 y1 y2 y3 y4 y5 y6) (mult_identity.l1 (k + 1) y0 y1 y2 y3 y4 y5 y6))
  | 0 => ⟨fun _ _ _ r h => by simp [mult_identity.l0] at h, fun _ _ _ _ _ _ _ r h => by simp [mult_identity.l1] at h⟩
  | k + 1 => by
    obtain ⟨ih0, ih1⟩ := mult_identity.mono_l k
    refine ⟨?_, ?_⟩
    · intro y0 y1 y2
      unfold mult_identity.l0
      repeat' first
      | (with_reducible exact ih0 _ _ _)
      | (with_reducible exact ih1 _ _ _ _ _ _ _)
      | (with_reducible exact LeO.refl _)
      | (with_reducible exact LeO.none _)
      | (with_reducible refine LeO.ite ?_ ?_)
      | (with_reducible refine LeO.bind ?_ (fun _ => ?_))
      | exact ih0 _ _ _
      | exact ih1 _ _ _ _ _ _ _
      | exact LeO.none _
      | refine LeO.ite ?_ ?_
      | refine LeO.bind ?_ (fun _ => ?_)
    · intro y0 y1 y2 y3 y4 y5 y6
      unfold mult_identity.l1
      repeat' first
      | (with_reducible exact ih0 _ _ _)
      | (with_reducible exact ih1 _ _ _ _ _ _ _)
      | (with_reducible exact LeO.refl _)
      | (with_reducible exact LeO.none _)
      | (with_reducible refine LeO.ite ?_ ?_)
      | (with_reducible refine LeO.bind ?_ (fun _ => ?_))
      | exact ih0 _ _ _
      | exact ih1 _ _ _ _ _ _ _
      | exact LeO.none _
      | refine LeO.ite ?_ ?_
      | refine LeO.bind ?_ (fun _ => ?_)
theorem mult_identity.mono : ∀ a0 k, LeO (mult_identity.f k a0) (mult_identity.f (k + 1) a0) := by
  intro a0 k
  obtain ⟨ih0, ih1⟩ := mult_identity.mono_l k
  unfold mult_identity.f
  repeat' first
      | (with_reducible exact ih0 _ _ _)
      | (with_reducible exact ih1 _ _ _ _ _ _ _)
      | (with_reducible exact LeO.refl _)
      | (with_reducible exact LeO.none _)
      | (with_reducible refine LeO.ite ?_ ?_)
      | (with_reducible refine LeO.bind ?_ (fun _ => ?_))
      | exact ih0 _ _ _
      | exact ih1 _ _ _ _ _ _ _
      | exact LeO.none _
      | refine LeO.ite ?_ ?_
      | refine LeO.bind ?_ (fun _ => ?_)
set_option maxHeartbeats 8000000 in
set_option maxRecDepth 100000 in
theorem mult_identity.calls (k : Nat) (A0 : Option Addr) (c0 : Nat) (l0 : List (List Int)) (r : Int) (w : World) (hr0 : Kd.C (Kd.slice 3 (Kd.int .i64)) w A0 l0.length l0) (hc0 : l0.length ≤ c0) (h : mult_identity.f k l0 = some r) :
    Calls Try.prog 64 #[.slice A0 l0.length c0] w fun e w' => e = .returned (.int .i64 r) ∧ Drawn0 w w' := by
  have HR0 := Aside0.mk hr0
  have HC0 := Aside0.mk hc0
  (try clear hr0); (try clear hc0)
  have H : (mult_identity.l0 k l0 (l0.length : Int) 0) = some r := h
  clear h
  have H' := Aside0.mk H
  clear H
  go_enter Try.func64, Try.ntmps64
  go_wp2
  go_loopg [8] k (fun kq v8 w' => ∃ (x8_1 : Int), v8 = .int .i64 x8_1 ∧ Aside0 (mult_identity.l0 kq l0 (l0.length : Int) x8_1 = some r) ∧ Aside0 (kq ≤ k) ∧ Drawn0 w w')
  case atStart => exact ⟨(0), (by first | rfl | (simp; done) | (simp [*]; done)), H', ⟨Nat.le_refl _⟩, by repeat (first | exact Drawn0.refl _ | apply Drawn0.step)⟩
  case round =>
    clear H'
    obtain ⟨x8_1, rfl, HA, HK1, ⟨m1, rfl⟩⟩ := hrel
    cases gk with
    | zero => exact absurd HA.out (by simp [mult_identity.l0])
    | succ k1 =>
      have H := HA.out
      clear HA
      simp only [mult_identity.l0] at H
      by_cases c2 : x8_1 < (l0.length : Int)
      · rw [if_pos c2] at H
        have c2b0 : decide (x8_1 < (l0.length : Int)) = true := decide_eq_true c2
        clear c2
        have H' := Aside0.mk H
        clear H
        go_wp2
        go_loopg [4, 13] k1 (fun kq v4 v13 w' => ∃ (x4_2 : Bool) (x13_2 : Int), v4 = .bool x4_2 ∧ v13 = .int .i64 x13_2 ∧ Aside0 (mult_identity.l1 kq l0 x8_1 x4_2 (l0.length : Int) x8_1 (l0.length : Int) x13_2 = some r) ∧ Aside0 (kq ≤ k1) ∧ Drawn0 w w')
        case atStart => exact ⟨(true), (0), (by first | rfl | (simp; done) | (simp [*]; done)), (by first | rfl | (simp; done) | (simp [*]; done)), H', ⟨Nat.le_refl _⟩, by repeat (first | exact Drawn0.refl _ | apply Drawn0.step)⟩
        case round =>
          clear H'
          try clear c2
          try clear c2b0
          try clear p2
          obtain ⟨x4_2, x13_2, rfl, rfl, HA, HK2, ⟨m2, rfl⟩⟩ := hrel
          cases gk with
          | zero => exact absurd HA.out (by simp [mult_identity.l1])
          | succ k2 =>
            have H := HA.out
            clear HA
            simp only [mult_identity.l1] at H
            by_cases c3 : x13_2 < (l0.length : Int)
            · rw [if_pos c3] at H
              have c3b0 : decide (x13_2 < (l0.length : Int)) = true := decide_eq_true c3
              clear c3
              by_cases c4 : x4_2 = true
              · subst c4
                have H1 : (if 0 ≤ x8_1 then (if x8_1 < (l0.length : Int) then (if 0 ≤ x13_2 then (if x13_2 < ((rd_L1 l0 x8_1).length : Int) then (if (rd (rd_L1 l0 x8_1) x13_2) = x13_2 then (if x13_2 < (l0.length : Int) then (if x8_1 < ((rd_L1 l0 x13_2).length : Int) then (mult_identity.l1 k2 l0 x8_1 ((rd (rd_L1 l0 x13_2) x8_1) == x13_2) (l0.length : Int) x8_1 (l0.length : Int) (wrap64 (x13_2 + 1))) else (none)) else (none)) else (mult_identity.l1 k2 l0 x8_1 false (l0.length : Int) x8_1 (l0.length : Int) (wrap64 (x13_2 + 1)))) else (none)) else (none)) else (none)) else (none)) = some r := by rw [if_pos rfl] at H; exact H
                clear H
                have H := H1
                clear H1
                by_cases c5 : 0 ≤ x8_1
                · rw [if_pos c5] at H
                  have c5b0 : decide (0 ≤ x8_1) = true := decide_eq_true c5
                  clear c5
                  by_cases c6 : x8_1 < (l0.length : Int)
                  · rw [if_pos c6] at H
                    have c6b0 : decide (x8_1 < (l0.length : Int)) = true := decide_eq_true c6
                    clear c6
                    by_cases c7 : 0 ≤ x13_2
                    · rw [if_pos c7] at H
                      have c7b0 : decide (0 ≤ x13_2) = true := decide_eq_true c7
                      clear c7
                      by_cases c8 : x13_2 < ((rd_L1 l0 x8_1).length : Int)
                      · rw [if_pos c8] at H
                        have c8b0 : decide (x13_2 < ((rd_L1 l0 x8_1).length : Int)) = true := decide_eq_true c8
                        clear c8
                        by_cases c9 : (rd (rd_L1 l0 x8_1) x13_2) = x13_2
                        · rw [if_pos c9] at H
                          have c9b0 : ((rd (rd_L1 l0 x8_1) x13_2) == x13_2) = true := beq_iff_eq.mpr c9
                          have c9b1 : ((rd (rd_L1 l0 x8_1) x13_2) != x13_2) = false := bne_eq_false_iff_eq.mpr c9
                          clear c9
                          by_cases c10 : x13_2 < (l0.length : Int)
                          · rw [if_pos c10] at H
                            have c10b0 : decide (x13_2 < (l0.length : Int)) = true := decide_eq_true c10
                            clear c10
                            by_cases c11 : x8_1 < ((rd_L1 l0 x13_2).length : Int)
                            · rw [if_pos c11] at H
                              have c11b0 : decide (x8_1 < ((rd_L1 l0 x13_2).length : Int)) = true := decide_eq_true c11
                              clear c11
                              have H' := Aside0.mk H
                              clear H
                              have p116 : 0 ≤ (x8_1 : Int) := of_decide_eq_true (by first | (with_reducible assumption) | assumption)
                              have q116 : x8_1 < (l0.length : Int) := of_decide_eq_true (by first | (with_reducible assumption) | assumption)
                              obtain ⟨ad116, A116_0, c116_0, e116, hx116_0, hl116_0, hi116_0⟩ := at_L1 HR0.out x8_1 p116 q116
                              cases e116
                              have HR116_0 := Aside0.mk hi116_0
                              have HC116_0 := Aside0.mk hl116_0
                              (try clear hi116_0); (try clear hl116_0)
                              replace p116 := eq_true p116
                              replace q116 := eq_true q116
                              have p117 : 0 ≤ (x13_2 : Int) := of_decide_eq_true (by first | (with_reducible assumption) | assumption)
                              have q117 : x13_2 < ((rd_L1 l0 x8_1).length : Int) := of_decide_eq_true (by first | (with_reducible assumption) | assumption)
                              obtain ⟨ad117, e117, hx117_0⟩ := Kd.at_int HR116_0.out x13_2 p117 q117
                              cases e117
                              replace p117 := eq_true p117
                              replace q117 := eq_true q117
                              have p118 : 0 ≤ (x13_2 : Int) := of_decide_eq_true (by first | (with_reducible assumption) | assumption)
                              have q118 : x13_2 < (l0.length : Int) := of_decide_eq_true (by first | (with_reducible assumption) | assumption)
                              obtain ⟨ad118, A118_0, c118_0, e118, hx118_0, hl118_0, hi118_0⟩ := at_L1 HR0.out x13_2 p118 q118
                              obtain rfl : ad116 = ad118 := (by injection e118)
                              have HR118_0 := Aside0.mk hi118_0
                              have HC118_0 := Aside0.mk hl118_0
                              (try clear hi118_0); (try clear hl118_0)
                              replace p118 := eq_true p118
                              replace q118 := eq_true q118
                              have p119 : 0 ≤ (x8_1 : Int) := of_decide_eq_true (by first | (with_reducible assumption) | assumption)
                              have q119 : x8_1 < ((rd_L1 l0 x13_2).length : Int) := of_decide_eq_true (by first | (with_reducible assumption) | assumption)
                              obtain ⟨ad119, e119, hx119_0⟩ := Kd.at_int HR118_0.out x8_1 p119 q119
                              cases e119
                              replace p119 := eq_true p119
                              replace q119 := eq_true q119
                              go_wp2
                              go_roundg k2
                              case measure => have := HK1.out; have := HK2.out; omega
                              case rel => exact ⟨(((rd (rd_L1 l0 x13_2) x8_1) == x13_2)), (wrap64 (x13_2 + 1)), (by first | rfl | (simp; done) | (simp [*]; done)), (by first | rfl | (simp; done) | (simp [*]; done)), H', ⟨by have := HK1.out; have := HK2.out; omega⟩, by repeat (first | exact Drawn0.refl _ | apply Drawn0.step)⟩
                            · rw [if_neg c11] at H
                              exact absurd H (by simp)
                          · rw [if_neg c10] at H
                            exact absurd H (by simp)
                        · rw [if_neg c9] at H
                          have c9b0 : ((rd (rd_L1 l0 x8_1) x13_2) == x13_2) = false := beq_eq_false_iff_ne.mpr c9
                          have c9b1 : ((rd (rd_L1 l0 x8_1) x13_2) != x13_2) = true := bne_iff_ne.mpr c9
                          have H' := Aside0.mk H
                          clear H
                          have p116 : 0 ≤ (x8_1 : Int) := of_decide_eq_true (by first | (with_reducible assumption) | assumption)
                          have q116 : x8_1 < (l0.length : Int) := of_decide_eq_true (by first | (with_reducible assumption) | assumption)
                          obtain ⟨ad116, A116_0, c116_0, e116, hx116_0, hl116_0, hi116_0⟩ := at_L1 HR0.out x8_1 p116 q116
                          cases e116
                          have HR116_0 := Aside0.mk hi116_0
                          have HC116_0 := Aside0.mk hl116_0
                          (try clear hi116_0); (try clear hl116_0)
                          replace p116 := eq_true p116
                          replace q116 := eq_true q116
                          have p117 : 0 ≤ (x13_2 : Int) := of_decide_eq_true (by first | (with_reducible assumption) | assumption)
                          have q117 : x13_2 < ((rd_L1 l0 x8_1).length : Int) := of_decide_eq_true (by first | (with_reducible assumption) | assumption)
                          obtain ⟨ad117, e117, hx117_0⟩ := Kd.at_int HR116_0.out x13_2 p117 q117
                          cases e117
                          replace p117 := eq_true p117
                          replace q117 := eq_true q117
                          go_wp2
                          go_roundg k2
                          case measure => have := HK1.out; have := HK2.out; omega
                          case rel => exact ⟨(false), (wrap64 (x13_2 + 1)), (by first | rfl | (simp; done) | (simp [*]; done)), (by first | rfl | (simp; done) | (simp [*]; done)), H', ⟨by have := HK1.out; have := HK2.out; omega⟩, by repeat (first | exact Drawn0.refl _ | apply Drawn0.step)⟩
                      · rw [if_neg c8] at H
                        exact absurd H (by simp)
                    · rw [if_neg c7] at H
                      exact absurd H (by simp)
                  · rw [if_neg c6] at H
                    exact absurd H (by simp)
                · rw [if_neg c5] at H
                  exact absurd H (by simp)
              · replace c4 := Bool.eq_false_iff.mpr c4
                subst c4
                have H1 : (mult_identity.l1 k2 l0 x8_1 false (l0.length : Int) x8_1 (l0.length : Int) (wrap64 (x13_2 + 1))) = some r := by rw [if_neg (show ¬ (false = true) by decide)] at H; exact H
                clear H
                have H := H1
                clear H1
                have H' := Aside0.mk H
                clear H
                go_wp2
                go_roundg k2
                case measure => have := HK1.out; have := HK2.out; omega
                case rel => exact ⟨(false), (wrap64 (x13_2 + 1)), (by first | rfl | (simp; done) | (simp [*]; done)), (by first | rfl | (simp; done) | (simp [*]; done)), H', ⟨by have := HK1.out; have := HK2.out; omega⟩, by repeat (first | exact Drawn0.refl _ | apply Drawn0.step)⟩
            · rw [if_neg c3] at H
              have c3b0 : decide (x13_2 < (l0.length : Int)) = false := decide_eq_false c3
              clear c3
              by_cases c12 : x4_2 = true
              · subst c12
                have H1 : (some x8_1) = some r := by rw [if_pos rfl] at H; exact H
                clear H
                have H := H1
                clear H1
                obtain rfl := Option.some.inj H
                go_wp2
                go_ret
                exact ⟨by first | rfl | (simp; done) | (simp [*]; done), by repeat (first | exact Drawn0.refl _ | apply Drawn0.step)⟩
              · replace c12 := Bool.eq_false_iff.mpr c12
                subst c12
                have H1 : (mult_identity.l0 k2 l0 (l0.length : Int) (wrap64 (x8_1 + 1))) = some r := by rw [if_neg (show ¬ (false = true) by decide)] at H; exact H
                clear H
                have H := H1
                clear H1
                have H' := Aside0.mk H
                clear H
                go_wp2
                go_roundg k2
                case measure => have := HK1.out; have := HK2.out; omega
                case rel => exact ⟨(wrap64 (x8_1 + 1)), (by first | rfl | (simp; done) | (simp [*]; done)), H', ⟨by have := HK1.out; have := HK2.out; omega⟩, by repeat (first | exact Drawn0.refl _ | apply Drawn0.step)⟩
      · rw [if_neg c2] at H
        have c2b0 : decide (x8_1 < (l0.length : Int)) = false := decide_eq_false c2
        clear c2
        obtain rfl := Option.some.inj H
        go_wp2
        go_ret
        exact ⟨by first | rfl | (simp; done) | (simp [*]; done), by repeat (first | exact Drawn0.refl _ | apply Drawn0.step)⟩

/-! ### mult_Identity: function 20 -/
def mult_Identity.f (k : Nat) (l0 : List (List Int)) : Option (Int) := (mult_Validate.f k l0).bind fun t120 => (if t120 = 0 then ((mult_identity.f k l0).bind fun t121 => (some t121)) else (some (-1)))
theorem mult_Identity.mono : ∀ a0 k, LeO (mult_Identity.f k a0) (mult_Identity.f (k + 1) a0) := by
  intro a0 k
  unfold mult_Identity.f
  repeat' first
      | (with_reducible exact mult_Validate.mono _ _)
      | (with_reducible exact mult_identity.mono _ _)
      | (with_reducible exact LeO.refl _)
      | (with_reducible exact LeO.none _)
      | (with_reducible refine LeO.ite ?_ ?_)
      | (with_reducible refine LeO.bind ?_ (fun _ => ?_))
      | exact mult_Validate.mono _ _
      | exact mult_identity.mono _ _
      | exact LeO.none _
      | refine LeO.ite ?_ ?_
      | refine LeO.bind ?_ (fun _ => ?_)
set_option maxHeartbeats 8000000 in
set_option maxRecDepth 100000 in
theorem mult_Identity.calls (k : Nat) (A0 : Option Addr) (c0 : Nat) (l0 : List (List Int)) (r : Int) (w : World) (hr0 : Kd.C (Kd.slice 3 (Kd.int .i64)) w A0 l0.length l0) (hc0 : l0.length ≤ c0) (h : mult_Identity.f k l0 = some r) :
    Calls Try.prog 20 #[.slice A0 l0.length c0] w fun e w' => e = .returned (.int .i64 r) ∧ Drawn0 w w' := by
  have HR0 := Aside0.mk hr0
  have HC0 := Aside0.mk hc0
  (try clear hr0); (try clear hc0)
  have H : ((mult_Validate.f k l0).bind fun t120 => (if t120 = 0 then ((mult_identity.f k l0).bind fun t121 => (some t121)) else (some (-1)))) = some r := h
  clear h
  replace H := Option.bind_eq_some_iff.mp H
  obtain ⟨t120, A20, H⟩ := H
  replace H : (if t120 = 0 then ((mult_identity.f k l0).bind fun t121 => (some t121)) else (some (-1))) = some r := H
  have A2 := Aside0.mk A20
  clear A20
  by_cases c3 : t120 = 0
  · rw [if_pos c3] at H
    have c3b0 : (t120 == 0) = true := beq_iff_eq.mpr c3
    have c3b1 : (t120 != 0) = false := bne_eq_false_iff_eq.mpr c3
    clear c3
    replace H := Option.bind_eq_some_iff.mp H
    obtain ⟨t121, A40, H⟩ := H
    replace H : (some t121) = some r := H
    have A4 := Aside0.mk A40
    clear A40
    obtain rfl := Option.some.inj H
    go_enter Try.func20, Try.ntmps20
    go_wp2_with (first | ((with_reducible refine gate_callee (f := 19) rfl ?_); refine goesL_ (some 4) rfl rfl Try.func19 (by kernel_rfl) rfl #[.slice A0 l0.length c0] rfl (by (try simp only [List.map_toArray, List.map_cons, List.map_nil]); first | done | rfl | (simp only [List.length_drop, List.length_take]; rfl)) ?_; (with_reducible refine (mult_Validate.calls k _ _ l0 t120 _ ?side1 ?side2 A2.out).mono ?_); (case side1 => repeat (first | exact HR0.out | (with_reducible refine Kd.C_alloc ?_ _) | (with_reducible refine Kd.C_drewN ?_ _) | (with_reducible refine Kd.C_drew ?_))); (case side2 => exact HC0.out); rintro e w' ⟨rfl, ⟨nd, rfl⟩⟩; refine ⟨_, rfl, ?_⟩) | ((with_reducible refine gate_callee (f := 64) rfl ?_); refine goesL_ (some 7) rfl rfl Try.func64 (by kernel_rfl) rfl #[.slice A0 l0.length c0] rfl (by (try simp only [List.map_toArray, List.map_cons, List.map_nil]); first | done | rfl | (simp only [List.length_drop, List.length_take]; rfl)) ?_; (with_reducible refine (mult_identity.calls k _ _ l0 t121 _ ?side1 ?side2 A4.out).mono ?_); (case side1 => repeat (first | exact HR0.out | (with_reducible refine Kd.C_alloc ?_ _) | (with_reducible refine Kd.C_drewN ?_ _) | (with_reducible refine Kd.C_drew ?_))); (case side2 => exact HC0.out); rintro e w' ⟨rfl, ⟨nd, rfl⟩⟩; refine ⟨_, rfl, ?_⟩))
    go_ret
    exact ⟨by first | rfl | (simp; done) | (simp [*]; done), by repeat (first | exact Drawn0.refl _ | apply Drawn0.step)⟩
  · rw [if_neg c3] at H
    have c3b0 : (t120 == 0) = false := beq_eq_false_iff_ne.mpr c3
    have c3b1 : (t120 != 0) = true := bne_iff_ne.mpr c3
    obtain rfl := Option.some.inj H
    go_enter Try.func20, Try.ntmps20
    go_wp2_with (first | ((with_reducible refine gate_callee (f := 19) rfl ?_); refine goesL_ (some 4) rfl rfl Try.func19 (by kernel_rfl) rfl #[.slice A0 l0.length c0] rfl (by (try simp only [List.map_toArray, List.map_cons, List.map_nil]); first | done | rfl | (simp only [List.length_drop, List.length_take]; rfl)) ?_; (with_reducible refine (mult_Validate.calls k _ _ l0 t120 _ ?side1 ?side2 A2.out).mono ?_); (case side1 => repeat (first | exact HR0.out | (with_reducible refine Kd.C_alloc ?_ _) | (with_reducible refine Kd.C_drewN ?_ _) | (with_reducible refine Kd.C_drew ?_))); (case side2 => exact HC0.out); rintro e w' ⟨rfl, ⟨nd, rfl⟩⟩; refine ⟨_, rfl, ?_⟩))
    go_ret
    exact ⟨by first | rfl | (simp; done) | (simp [*]; done), by repeat (first | exact Drawn0.refl _ | apply Drawn0.step)⟩

/-! ### mult_Zero: function 21 -/
mutual
def mult_Zero.l0 : Nat → List (List Int) → Int → Int → Option (Int)
  | 0, _, _, _ => none
  | k + 1, x0, x10, x11 => if x11 < x10 then (mult_Zero.l1 k x0 x11 true x10 x11 (x0.length : Int) 0) else (some (-1))
def mult_Zero.l1 : Nat → List (List Int) → Int → Bool → Int → Int → Int → Int → Option (Int)
  | 0, _, _, _, _, _, _, _ => none
  | k + 1, x0, x3, x4, x10, x11, x15, x16 => if x16 < x15 then (if x4 = true then (if 0 ≤ x3 then (if x3 < (x0.length : Int) then (if 0 ≤ x16 then (if x16 < ((rd_L1 x0 x3).length : Int) then (if (rd (rd_L1 x0 x3) x16) = x3 then (if x16 < (x0.length : Int) then (if x3 < ((rd_L1 x0 x16).length : Int) then (mult_Zero.l1 k x0 x3 ((rd (rd_L1 x0 x16) x3) == x3) x10 x11 x15 (wrap64 (x16 + 1))) else (none)) else (none)) else (mult_Zero.l1 k x0 x3 false x10 x11 x15 (wrap64 (x16 + 1)))) else (none)) else (none)) else (none)) else (none)) else (mult_Zero.l1 k x0 x3 false x10 x11 x15 (wrap64 (x16 + 1)))) else (if x4 = true then (some x3) else (mult_Zero.l0 k x0 x10 (wrap64 (x11 + 1))))
end
def mult_Zero.f (k : Nat) (l0 : List (List Int)) : Option (Int) := (mult_Validate.f k l0).bind fun t122 => (if t122 = 0 then (mult_Zero.l0 k l0 (l0.length : Int) 0) else (some (-1)))
theorem mult_Zero.mono_l : ∀ k, (∀ y0 y1 y2, LeO (mult_Zero.l0 k y0 y1 y2) (mult_Zero.l0 (k + 1) y0 y1 y2)) ∧ (∀ y0 y1 y2 y3 y4 y5 y6, LeO (mult_Zero.l1 k y0 y1 y2 y3 y4 y5 y6) (mult_Zero.l1 (k + 1) y0 y1 y2 y3 y4 y5 y6))
  | 0 => ⟨fun _ _ _ r h => by simp [mult_Zero.l0] at h, fun _ _ _ _ _ _ _ r h => by simp [mult_Zero.l1] at h⟩
  | k + 1 => by
    obtain ⟨ih0, ih1⟩ := mult_Zero.mono_l k
    refine ⟨?_, ?_⟩
    · intro y0 y1 y2
      unfold mult_Zero.l0
      repeat' first
      | (with_reducible exact ih0 _ _ _)
      | (with_reducible exact ih1 _ _ _ _ _ _ _)
      | (with_reducible exact mult_Validate.mono _ _)
      | (with_reducible exact LeO.refl _)
      | (with_reducible exact LeO.none _)
      | (with_reducible refine LeO.ite ?_ ?_)
      | (with_reducible refine LeO.bind ?_ (fun _ => ?_))
      | exact ih0 _ _ _
      | exact ih1 _ _ _ _ _ _ _
      | exact mult_Validate.mono _ _
      | exact LeO.none _
      | refine LeO.ite ?_ ?_
      | refine LeO.bind ?_ (fun _ => ?_)
    · intro y0 y1 y2 y3 y4 y5 y6
      unfold mult_Zero.l1
      repeat' first
      | (with_reducible exact ih0 _ _ _)
      | (with_reducible exact ih1 _ _ _ _ _ _ _)
      | (with_reducible exact mult_Validate.mono _ _)
      | (with_reducible exact LeO.refl _)
      | (with_reducible exact LeO.none _)
      | (with_reducible refine LeO.ite ?_ ?_)
      | (with_reducible refine LeO.bind ?_ (fun _ => ?_))
      | exact ih0 _ _ _
      | exact ih1 _ _ _ _ _ _ _
      | exact mult_Validate.mono _ _
      | exact LeO.none _
      | refine LeO.ite ?_ ?_
      | refine LeO.bind ?_ (fun _ => ?_)
theorem mult_Zero.mono : ∀ a0 k, LeO (mult_Zero.f k a0) (mult_Zero.f (k + 1) a0) := by
  intro a0 k
  obtain ⟨ih0, ih1⟩ := mult_Zero.mono_l k
  unfold mult_Zero.f
  repeat' first
      | (with_reducible exact ih0 _ _ _)
      | (with_reducible exact ih1 _ _ _ _ _ _ _)
      | (with_reducible exact mult_Validate.mono _ _)
      | (with_reducible exact LeO.refl _)
      | (with_reducible exact LeO.none _)
      | (with_reducible refine LeO.ite ?_ ?_)
      | (with_reducible refine LeO.bind ?_ (fun _ => ?_))
      | exact ih0 _ _ _
      | exact ih1 _ _ _ _ _ _ _
      | exact mult_Validate.mono _ _
      | exact LeO.none _
      | refine LeO.ite ?_ ?_
      | refine LeO.bind ?_ (fun _ => ?_)
set_option maxHeartbeats 8000000 in
set_option maxRecDepth 100000 in
theorem mult_Zero.calls (k : Nat) (A0 : Option Addr) (c0 : Nat) (l0 : List (List Int)) (r : Int) (w : World) (hr0 : Kd.C (Kd.slice 3 (Kd.int .i64)) w A0 l0.length l0) (hc0 : l0.length ≤ c0) (h : mult_Zero.f k l0 = some r) :
    Calls Try.prog 21 #[.slice A0 l0.length c0] w fun e w' => e = .returned (.int .i64 r) ∧ Drawn0 w w' := by
  have HR0 := Aside0.mk hr0
  have HC0 := Aside0.mk hc0
  (try clear hr0); (try clear hc0)
  have H : ((mult_Validate.f k l0).bind fun t122 => (if t122 = 0 then (mult_Zero.l0 k l0 (l0.length : Int) 0) else (some (-1)))) = some r := h
  clear h
  replace H := Option.bind_eq_some_iff.mp H
  obtain ⟨t122, A20, H⟩ := H
  replace H : (if t122 = 0 then (mult_Zero.l0 k l0 (l0.length : Int) 0) else (some (-1))) = some r := H
  have A2 := Aside0.mk A20
  clear A20
  by_cases c3 : t122 = 0
  · rw [if_pos c3] at H
    have c3b0 : (t122 == 0) = true := beq_iff_eq.mpr c3
    have c3b1 : (t122 != 0) = false := bne_eq_false_iff_eq.mpr c3
    clear c3
    have H' := Aside0.mk H
    clear H
    go_enter Try.func21, Try.ntmps21
    go_wp2_with (first | ((with_reducible refine gate_callee (f := 19) rfl ?_); refine goesL_ (some 7) rfl rfl Try.func19 (by kernel_rfl) rfl #[.slice A0 l0.length c0] rfl (by (try simp only [List.map_toArray, List.map_cons, List.map_nil]); first | done | rfl | (simp only [List.length_drop, List.length_take]; rfl)) ?_; (with_reducible refine (mult_Validate.calls k _ _ l0 t122 _ ?side1 ?side2 A2.out).mono ?_); (case side1 => repeat (first | exact HR0.out | (with_reducible refine Kd.C_alloc ?_ _) | (with_reducible refine Kd.C_drewN ?_ _) | (with_reducible refine Kd.C_drew ?_))); (case side2 => exact HC0.out); rintro e w' ⟨rfl, ⟨nd, rfl⟩⟩; refine ⟨_, rfl, ?_⟩))
    go_loopg [11] k (fun kq v11 w' => ∃ (x11_1 : Int), v11 = .int .i64 x11_1 ∧ Aside0 (mult_Zero.l0 kq l0 (l0.length : Int) x11_1 = some r) ∧ Aside0 (kq ≤ k) ∧ Drawn0 w w')
    case atStart => exact ⟨(0), (by first | rfl | (simp; done) | (simp [*]; done)), H', ⟨Nat.le_refl _⟩, by repeat (first | exact Drawn0.refl _ | apply Drawn0.step)⟩
    case round =>
      clear H'
      try clear c1
      try clear c2
      try clear p2
      try clear c3
      try clear c3b0
      try clear c3b1
      obtain ⟨x11_1, rfl, HA, HK1, ⟨m1, rfl⟩⟩ := hrel
      cases gk with
      | zero => exact absurd HA.out (by simp [mult_Zero.l0])
      | succ k1 =>
        have H := HA.out
        clear HA
        simp only [mult_Zero.l0] at H
        by_cases c4 : x11_1 < (l0.length : Int)
        · rw [if_pos c4] at H
          have c4b0 : decide (x11_1 < (l0.length : Int)) = true := decide_eq_true c4
          clear c4
          have H' := Aside0.mk H
          clear H
          go_wp2
          go_loopg [4, 16] k1 (fun kq v4 v16 w' => ∃ (x4_2 : Bool) (x16_2 : Int), v4 = .bool x4_2 ∧ v16 = .int .i64 x16_2 ∧ Aside0 (mult_Zero.l1 kq l0 x11_1 x4_2 (l0.length : Int) x11_1 (l0.length : Int) x16_2 = some r) ∧ Aside0 (kq ≤ k1) ∧ Drawn0 w w')
          case atStart => exact ⟨(true), (0), (by first | rfl | (simp; done) | (simp [*]; done)), (by first | rfl | (simp; done) | (simp [*]; done)), H', ⟨Nat.le_refl _⟩, by repeat (first | exact Drawn0.refl _ | apply Drawn0.step)⟩
          case round =>
            clear H'
            try clear c1
            try clear c2
            try clear p2
            try clear c3
            try clear c3b0
            try clear c3b1
            try clear c4
            try clear c4b0
            try clear p2
            obtain ⟨x4_2, x16_2, rfl, rfl, HA, HK2, ⟨m2, rfl⟩⟩ := hrel
            cases gk with
            | zero => exact absurd HA.out (by simp [mult_Zero.l1])
            | succ k2 =>
              have H := HA.out
              clear HA
              simp only [mult_Zero.l1] at H
              by_cases c5 : x16_2 < (l0.length : Int)
              · rw [if_pos c5] at H
                have c5b0 : decide (x16_2 < (l0.length : Int)) = true := decide_eq_true c5
                clear c5
                by_cases c6 : x4_2 = true
                · subst c6
                  have H1 : (if 0 ≤ x11_1 then (if x11_1 < (l0.length : Int) then (if 0 ≤ x16_2 then (if x16_2 < ((rd_L1 l0 x11_1).length : Int) then (if (rd (rd_L1 l0 x11_1) x16_2) = x11_1 then (if x16_2 < (l0.length : Int) then (if x11_1 < ((rd_L1 l0 x16_2).length : Int) then (mult_Zero.l1 k2 l0 x11_1 ((rd (rd_L1 l0 x16_2) x11_1) == x11_1) (l0.length : Int) x11_1 (l0.length : Int) (wrap64 (x16_2 + 1))) else (none)) else (none)) else (mult_Zero.l1 k2 l0 x11_1 false (l0.length : Int) x11_1 (l0.length : Int) (wrap64 (x16_2 + 1)))) else (none)) else (none)) else (none)) else (none)) = some r := by rw [if_pos rfl] at H; exact H
                  clear H
                  have H := H1
                  clear H1
                  by_cases c7 : 0 ≤ x11_1
                  · rw [if_pos c7] at H
                    have c7b0 : decide (0 ≤ x11_1) = true := decide_eq_true c7
                    clear c7
                    by_cases c8 : x11_1 < (l0.length : Int)
                    · rw [if_pos c8] at H
                      have c8b0 : decide (x11_1 < (l0.length : Int)) = true := decide_eq_true c8
                      clear c8
                      by_cases c9 : 0 ≤ x16_2
                      · rw [if_pos c9] at H
                        have c9b0 : decide (0 ≤ x16_2) = true := decide_eq_true c9
                        clear c9
                        by_cases c10 : x16_2 < ((rd_L1 l0 x11_1).length : Int)
                        · rw [if_pos c10] at H
                          have c10b0 : decide (x16_2 < ((rd_L1 l0 x11_1).length : Int)) = true := decide_eq_true c10
                          clear c10
                          by_cases c11 : (rd (rd_L1 l0 x11_1) x16_2) = x11_1
                          · rw [if_pos c11] at H
                            have c11b0 : ((rd (rd_L1 l0 x11_1) x16_2) == x11_1) = true := beq_iff_eq.mpr c11
                            have c11b1 : ((rd (rd_L1 l0 x11_1) x16_2) != x11_1) = false := bne_eq_false_iff_eq.mpr c11
                            clear c11
                            by_cases c12 : x16_2 < (l0.length : Int)
                            · rw [if_pos c12] at H
                              have c12b0 : decide (x16_2 < (l0.length : Int)) = true := decide_eq_true c12
                              clear c12
                              by_cases c13 : x11_1 < ((rd_L1 l0 x16_2).length : Int)
                              · rw [if_pos c13] at H
                                have c13b0 : decide (x11_1 < ((rd_L1 l0 x16_2).length : Int)) = true := decide_eq_true c13
                                clear c13
                                have H' := Aside0.mk H
                                clear H
                                have p123 : 0 ≤ (x11_1 : Int) := of_decide_eq_true (by first | (with_reducible assumption) | assumption)
                                have q123 : x11_1 < (l0.length : Int) := of_decide_eq_true (by first | (with_reducible assumption) | assumption)
                                obtain ⟨ad123, A123_0, c123_0, e123, hx123_0, hl123_0, hi123_0⟩ := at_L1 HR0.out x11_1 p123 q123
                                cases e123
                                have HR123_0 := Aside0.mk hi123_0
                                have HC123_0 := Aside0.mk hl123_0
                                (try clear hi123_0); (try clear hl123_0)
                                replace p123 := eq_true p123
                                replace q123 := eq_true q123
                                have p124 : 0 ≤ (x16_2 : Int) := of_decide_eq_true (by first | (with_reducible assumption) | assumption)
                                have q124 : x16_2 < ((rd_L1 l0 x11_1).length : Int) := of_decide_eq_true (by first | (with_reducible assumption) | assumption)
                                obtain ⟨ad124, e124, hx124_0⟩ := Kd.at_int HR123_0.out x16_2 p124 q124
                                cases e124
                                replace p124 := eq_true p124
                                replace q124 := eq_true q124
                                have p125 : 0 ≤ (x16_2 : Int) := of_decide_eq_true (by first | (with_reducible assumption) | assumption)
                                have q125 : x16_2 < (l0.length : Int) := of_decide_eq_true (by first | (with_reducible assumption) | assumption)
                                obtain ⟨ad125, A125_0, c125_0, e125, hx125_0, hl125_0, hi125_0⟩ := at_L1 HR0.out x16_2 p125 q125
                                obtain rfl : ad123 = ad125 := (by injection e125)
                                have HR125_0 := Aside0.mk hi125_0
                                have HC125_0 := Aside0.mk hl125_0
                                (try clear hi125_0); (try clear hl125_0)
                                replace p125 := eq_true p125
                                replace q125 := eq_true q125
                                have p126 : 0 ≤ (x11_1 : Int) := of_decide_eq_true (by first | (with_reducible assumption) | assumption)
                                have q126 : x11_1 < ((rd_L1 l0 x16_2).length : Int) := of_decide_eq_true (by first | (with_reducible assumption) | assumption)
                                obtain ⟨ad126, e126, hx126_0⟩ := Kd.at_int HR125_0.out x11_1 p126 q126
                                cases e126
                                replace p126 := eq_true p126
                                replace q126 := eq_true q126
                                go_wp2
                                go_roundg k2
                                case measure => have := HK1.out; have := HK2.out; omega
                                case rel => exact ⟨(((rd (rd_L1 l0 x16_2) x11_1) == x11_1)), (wrap64 (x16_2 + 1)), (by first | rfl | (simp; done) | (simp [*]; done)), (by first | rfl | (simp; done) | (simp [*]; done)), H', ⟨by have := HK1.out; have := HK2.out; omega⟩, by repeat (first | exact Drawn0.refl _ | apply Drawn0.step)⟩
                              · rw [if_neg c13] at H
                                exact absurd H (by simp)
                            · rw [if_neg c12] at H
                              exact absurd H (by simp)
                          · rw [if_neg c11] at H
                            have c11b0 : ((rd (rd_L1 l0 x11_1) x16_2) == x11_1) = false := beq_eq_false_iff_ne.mpr c11
                            have c11b1 : ((rd (rd_L1 l0 x11_1) x16_2) != x11_1) = true := bne_iff_ne.mpr c11
                            have H' := Aside0.mk H
                            clear H
                            have p123 : 0 ≤ (x11_1 : Int) := of_decide_eq_true (by first | (with_reducible assumption) | assumption)
                            have q123 : x11_1 < (l0.length : Int) := of_decide_eq_true (by first | (with_reducible assumption) | assumption)
                            obtain ⟨ad123, A123_0, c123_0, e123, hx123_0, hl123_0, hi123_0⟩ := at_L1 HR0.out x11_1 p123 q123
                            cases e123
                            have HR123_0 := Aside0.mk hi123_0
                            have HC123_0 := Aside0.mk hl123_0
                            (try clear hi123_0); (try clear hl123_0)
                            replace p123 := eq_true p123
                            replace q123 := eq_true q123
                            have p124 : 0 ≤ (x16_2 : Int) := of_decide_eq_true (by first | (with_reducible assumption) | assumption)
                            have q124 : x16_2 < ((rd_L1 l0 x11_1).length : Int) := of_decide_eq_true (by first | (with_reducible assumption) | assumption)
                            obtain ⟨ad124, e124, hx124_0⟩ := Kd.at_int HR123_0.out x16_2 p124 q124
                            cases e124
                            replace p124 := eq_true p124
                            replace q124 := eq_true q124
                            go_wp2
                            go_roundg k2
                            case measure => have := HK1.out; have := HK2.out; omega
                            case rel => exact ⟨(false), (wrap64 (x16_2 + 1)), (by first | rfl | (simp; done) | (simp [*]; done)), (by first | rfl | (simp; done) | (simp [*]; done)), H', ⟨by have := HK1.out; have := HK2.out; omega⟩, by repeat (first | exact Drawn0.refl _ | apply Drawn0.step)⟩
                        · rw [if_neg c10] at H
                          exact absurd H (by simp)
                      · rw [if_neg c9] at H
                        exact absurd H (by simp)
                    · rw [if_neg c8] at H
                      exact absurd H (by simp)
                  · rw [if_neg c7] at H
                    exact absurd H (by simp)
                · replace c6 := Bool.eq_false_iff.mpr c6
                  subst c6
                  have H1 : (mult_Zero.l1 k2 l0 x11_1 false (l0.length : Int) x11_1 (l0.length : Int) (wrap64 (x16_2 + 1))) = some r := by rw [if_neg (show ¬ (false = true) by decide)] at H; exact H
                  clear H
                  have H := H1
                  clear H1
                  have H' := Aside0.mk H
                  clear H
                  go_wp2
                  go_roundg k2
                  case measure => have := HK1.out; have := HK2.out; omega
                  case rel => exact ⟨(false), (wrap64 (x16_2 + 1)), (by first | rfl | (simp; done) | (simp [*]; done)), (by first | rfl | (simp; done) | (simp [*]; done)), H', ⟨by have := HK1.out; have := HK2.out; omega⟩, by repeat (first | exact Drawn0.refl _ | apply Drawn0.step)⟩
              · rw [if_neg c5] at H
                have c5b0 : decide (x16_2 < (l0.length : Int)) = false := decide_eq_false c5
                clear c5
                by_cases c14 : x4_2 = true
                · subst c14
                  have H1 : (some x11_1) = some r := by rw [if_pos rfl] at H; exact H
                  clear H
                  have H := H1
                  clear H1
                  obtain rfl := Option.some.inj H
                  go_wp2
                  go_ret
                  exact ⟨by first | rfl | (simp; done) | (simp [*]; done), by repeat (first | exact Drawn0.refl _ | apply Drawn0.step)⟩
                · replace c14 := Bool.eq_false_iff.mpr c14
                  subst c14
                  have H1 : (mult_Zero.l0 k2 l0 (l0.length : Int) (wrap64 (x11_1 + 1))) = some r := by rw [if_neg (show ¬ (false = true) by decide)] at H; exact H
                  clear H
                  have H := H1
                  clear H1
                  have H' := Aside0.mk H
                  clear H
                  go_wp2
                  go_roundg k2
                  case measure => have := HK1.out; have := HK2.out; omega
                  case rel => exact ⟨(wrap64 (x11_1 + 1)), (by first | rfl | (simp; done) | (simp [*]; done)), H', ⟨by have := HK1.out; have := HK2.out; omega⟩, by repeat (first | exact Drawn0.refl _ | apply Drawn0.step)⟩
        · rw [if_neg c4] at H
          have c4b0 : decide (x11_1 < (l0.length : Int)) = false := decide_eq_false c4
          clear c4
          obtain rfl := Option.some.inj H
          go_wp2
          go_ret
          exact ⟨by first | rfl | (simp; done) | (simp [*]; done), by repeat (first | exact Drawn0.refl _ | apply Drawn0.step)⟩
  · rw [if_neg c3] at H
    have c3b0 : (t122 == 0) = false := beq_eq_false_iff_ne.mpr c3
    have c3b1 : (t122 != 0) = true := bne_iff_ne.mpr c3
    obtain rfl := Option.some.inj H
    go_enter Try.func21, Try.ntmps21
    go_wp2_with (first | ((with_reducible refine gate_callee (f := 19) rfl ?_); refine goesL_ (some 7) rfl rfl Try.func19 (by kernel_rfl) rfl #[.slice A0 l0.length c0] rfl (by (try simp only [List.map_toArray, List.map_cons, List.map_nil]); first | done | rfl | (simp only [List.length_drop, List.length_take]; rfl)) ?_; (with_reducible refine (mult_Validate.calls k _ _ l0 t122 _ ?side1 ?side2 A2.out).mono ?_); (case side1 => repeat (first | exact HR0.out | (with_reducible refine Kd.C_alloc ?_ _) | (with_reducible refine Kd.C_drewN ?_ _) | (with_reducible refine Kd.C_drew ?_))); (case side2 => exact HC0.out); rintro e w' ⟨rfl, ⟨nd, rfl⟩⟩; refine ⟨_, rfl, ?_⟩))
    go_ret
    exact ⟨by first | rfl | (simp; done) | (simp [*]; done), by repeat (first | exact Drawn0.refl _ | apply Drawn0.step)⟩

/-! ### mult_power: function 66 -/
def mult_power.l0 : Nat → List (List Int) → Int → Int → Int → Option (Int)
  | 0, _, _, _, _ => none
  | k + 1, x0, x1, x2, x7 => if x2 > 0 then (if (Int.tmod x2 2) = 1 then (if x7 < 0 then (if 0 ≤ x1 then (if x1 < (x0.length : Int) then (if x1 < ((rd_L1 x0 x1).length : Int) then (mult_power.l0 k x0 (rd (rd_L1 x0 x1) x1) (wrap64 (Int.tdiv x2 2)) x1) else (none)) else (none)) else (none)) else (if 0 ≤ x7 then (if x7 < (x0.length : Int) then (if 0 ≤ x1 then (if x1 < ((rd_L1 x0 x7).length : Int) then (if x1 < (x0.length : Int) then (if x1 < ((rd_L1 x0 x1).length : Int) then (mult_power.l0 k x0 (rd (rd_L1 x0 x1) x1) (wrap64 (Int.tdiv x2 2)) (rd (rd_L1 x0 x7) x1)) else (none)) else (none)) else (none)) else (none)) else (none)) else (none))) else (if 0 ≤ x1 then (if x1 < (x0.length : Int) then (if x1 < ((rd_L1 x0 x1).length : Int) then (mult_power.l0 k x0 (rd (rd_L1 x0 x1) x1) (wrap64 (Int.tdiv x2 2)) x7) else (none)) else (none)) else (none))) else (some x7)
def mult_power.f (k : Nat) (l0 : List (List Int)) (a1 : Int) (a2 : Int) : Option (Int) := mult_power.l0 k l0 a1 a2 (-1)
theorem mult_power.mono_l : ∀ k, (∀ y0 y1 y2 y3, LeO (mult_power.l0 k y0 y1 y2 y3) (mult_power.l0 (k + 1) y0 y1 y2 y3))
  | 0 => fun _ _ _ _ r h => by simp [mult_power.l0] at h
  | k + 1 => by
    have ih0 := mult_power.mono_l k
    · intro y0 y1 y2 y3
      unfold mult_power.l0
      repeat' first
      | (with_reducible exact ih0 _ _ _ _)
      | (with_reducible exact LeO.refl _)
      | (with_reducible exact LeO.none _)
      | (with_reducible refine LeO.ite ?_ ?_)
      | (with_reducible refine LeO.bind ?_ (fun _ => ?_))
      | exact ih0 _ _ _ _
      | exact LeO.none _
      | refine LeO.ite ?_ ?_
      | refine LeO.bind ?_ (fun _ => ?_)
theorem mult_power.mono : ∀ a0 a1 a2 k, LeO (mult_power.f k a0 a1 a2) (mult_power.f (k + 1) a0 a1 a2) := by
  intro a0 a1 a2 k
  have ih0 := mult_power.mono_l k
  unfold mult_power.f
  repeat' first
      | (with_reducible exact ih0 _ _ _ _)
      | (with_reducible exact LeO.refl _)
      | (with_reducible exact LeO.none _)
      | (with_reducible refine LeO.ite ?_ ?_)
      | (with_reducible refine LeO.bind ?_ (fun _ => ?_))
      | exact ih0 _ _ _ _
      | exact LeO.none _
      | refine LeO.ite ?_ ?_
      | refine LeO.bind ?_ (fun _ => ?_)
set_option maxHeartbeats 8000000 in
set_option maxRecDepth 100000 in
theorem mult_power.calls (k : Nat) (A0 : Option Addr) (c0 : Nat) (l0 : List (List Int)) (a1 : Int) (a2 : Int) (r : Int) (w : World) (hr0 : Kd.C (Kd.slice 3 (Kd.int .i64)) w A0 l0.length l0) (hc0 : l0.length ≤ c0) (h : mult_power.f k l0 a1 a2 = some r) :
    Calls Try.prog 66 #[.slice A0 l0.length c0, .int .i64 a1, .int .i64 a2] w fun e w' => e = .returned (.int .i64 r) ∧ Drawn0 w w' := by
  have HR0 := Aside0.mk hr0
  have HC0 := Aside0.mk hc0
  (try clear hr0); (try clear hc0)
  have H : (mult_power.l0 k l0 a1 a2 (-1)) = some r := h
  clear h
  have H' := Aside0.mk H
  clear H
  go_enter Try.func66, Try.ntmps66
  go_wp2
  go_loopg [1, 2, 7] k (fun kq v1 v2 v7 w' => ∃ (x1_1 : Int) (x2_1 : Int) (x7_1 : Int), v1 = .int .i64 x1_1 ∧ v2 = .int .i64 x2_1 ∧ v7 = .int .i64 x7_1 ∧ Aside0 (mult_power.l0 kq l0 x1_1 x2_1 x7_1 = some r) ∧ Aside0 (kq ≤ k) ∧ Drawn0 w w')
  case atStart => exact ⟨(a1), (a2), ((-1)), (by first | rfl | (simp; done) | (simp [*]; done)), (by first | rfl | (simp; done) | (simp [*]; done)), (by first | rfl | (simp; done) | (simp [*]; done)), H', ⟨Nat.le_refl _⟩, by repeat (first | exact Drawn0.refl _ | apply Drawn0.step)⟩
  case round =>
    clear H'
    try clear p2
    obtain ⟨x1_1, x2_1, x7_1, rfl, rfl, rfl, HA, HK1, ⟨m1, rfl⟩⟩ := hrel
    cases gk with
    | zero => exact absurd HA.out (by simp [mult_power.l0])
    | succ k1 =>
      have H := HA.out
      clear HA
      simp only [mult_power.l0] at H
      by_cases c4 : x2_1 > 0
      · rw [if_pos c4] at H
        have c4b0 : decide (0 < x2_1) = true := decide_eq_true c4
        clear c4
        by_cases c5 : (Int.tmod x2_1 2) = 1
        · rw [if_pos c5] at H
          have c5b0 : ((Int.tmod x2_1 2) == 1) = true := beq_iff_eq.mpr c5
          have c5b1 : ((Int.tmod x2_1 2) != 1) = false := bne_eq_false_iff_eq.mpr c5
          clear c5
          by_cases c6 : x7_1 < 0
          · rw [if_pos c6] at H
            have c6b0 : decide (x7_1 < 0) = true := decide_eq_true c6
            clear c6
            by_cases c7 : 0 ≤ x1_1
            · rw [if_pos c7] at H
              have c7b0 : decide (0 ≤ x1_1) = true := decide_eq_true c7
              clear c7
              by_cases c8 : x1_1 < (l0.length : Int)
              · rw [if_pos c8] at H
                have c8b0 : decide (x1_1 < (l0.length : Int)) = true := decide_eq_true c8
                clear c8
                by_cases c9 : x1_1 < ((rd_L1 l0 x1_1).length : Int)
                · rw [if_pos c9] at H
                  have c9b0 : decide (x1_1 < ((rd_L1 l0 x1_1).length : Int)) = true := decide_eq_true c9
                  clear c9
                  have H' := Aside0.mk H
                  clear H
                  have p127 : 0 ≤ (x1_1 : Int) := of_decide_eq_true (by first | (with_reducible assumption) | assumption)
                  have q127 : x1_1 < (l0.length : Int) := of_decide_eq_true (by first | (with_reducible assumption) | assumption)
                  obtain ⟨ad127, A127_0, c127_0, e127, hx127_0, hl127_0, hi127_0⟩ := at_L1 HR0.out x1_1 p127 q127
                  cases e127
                  have HR127_0 := Aside0.mk hi127_0
                  have HC127_0 := Aside0.mk hl127_0
                  (try clear hi127_0); (try clear hl127_0)
                  replace p127 := eq_true p127
                  replace q127 := eq_true q127
                  have p128 : 0 ≤ (x1_1 : Int) := of_decide_eq_true (by first | (with_reducible assumption) | assumption)
                  have q128 : x1_1 < ((rd_L1 l0 x1_1).length : Int) := of_decide_eq_true (by first | (with_reducible assumption) | assumption)
                  obtain ⟨ad128, e128, hx128_0⟩ := Kd.at_int HR127_0.out x1_1 p128 q128
                  cases e128
                  replace p128 := eq_true p128
                  replace q128 := eq_true q128
                  go_wp2
                  go_roundg k1
                  case measure => have := HK1.out; omega
                  case rel => exact ⟨(rd (rd_L1 l0 x1_1) x1_1), (wrap64 (Int.tdiv x2_1 2)), (x1_1), (by first | rfl | (simp; done) | (simp [*]; done)), (by first | rfl | (simp; done) | (simp [*]; done)), (by first | rfl | (simp; done) | (simp [*]; done)), H', ⟨by have := HK1.out; omega⟩, by repeat (first | exact Drawn0.refl _ | apply Drawn0.step)⟩
                · rw [if_neg c9] at H
                  exact absurd H (by simp)
              · rw [if_neg c8] at H
                exact absurd H (by simp)
            · rw [if_neg c7] at H
              exact absurd H (by simp)
          · rw [if_neg c6] at H
            have c6b0 : decide (x7_1 < 0) = false := decide_eq_false c6
            clear c6
            by_cases c10 : 0 ≤ x7_1
            · rw [if_pos c10] at H
              have c10b0 : decide (0 ≤ x7_1) = true := decide_eq_true c10
              clear c10
              by_cases c11 : x7_1 < (l0.length : Int)
              · rw [if_pos c11] at H
                have c11b0 : decide (x7_1 < (l0.length : Int)) = true := decide_eq_true c11
                clear c11
                by_cases c12 : 0 ≤ x1_1
                · rw [if_pos c12] at H
                  have c12b0 : decide (0 ≤ x1_1) = true := decide_eq_true c12
                  clear c12
                  by_cases c13 : x1_1 < ((rd_L1 l0 x7_1).length : Int)
                  · rw [if_pos c13] at H
                    have c13b0 : decide (x1_1 < ((rd_L1 l0 x7_1).length : Int)) = true := decide_eq_true c13
                    clear c13
                    by_cases c14 : x1_1 < (l0.length : Int)
                    · rw [if_pos c14] at H
                      have c14b0 : decide (x1_1 < (l0.length : Int)) = true := decide_eq_true c14
                      clear c14
                      by_cases c15 : x1_1 < ((rd_L1 l0 x1_1).length : Int)
                      · rw [if_pos c15] at H
                        have c15b0 : decide (x1_1 < ((rd_L1 l0 x1_1).length : Int)) = true := decide_eq_true c15
                        clear c15
                        have H' := Aside0.mk H
                        clear H
                        have p129 : 0 ≤ (x7_1 : Int) := of_decide_eq_true (by first | (with_reducible assumption) | assumption)
                        have q129 : x7_1 < (l0.length : Int) := of_decide_eq_true (by first | (with_reducible assumption) | assumption)
                        obtain ⟨ad129, A129_0, c129_0, e129, hx129_0, hl129_0, hi129_0⟩ := at_L1 HR0.out x7_1 p129 q129
                        cases e129
                        have HR129_0 := Aside0.mk hi129_0
                        have HC129_0 := Aside0.mk hl129_0
                        (try clear hi129_0); (try clear hl129_0)
                        replace p129 := eq_true p129
                        replace q129 := eq_true q129
                        have p130 : 0 ≤ (x1_1 : Int) := of_decide_eq_true (by first | (with_reducible assumption) | assumption)
                        have q130 : x1_1 < ((rd_L1 l0 x7_1).length : Int) := of_decide_eq_true (by first | (with_reducible assumption) | assumption)
                        obtain ⟨ad130, e130, hx130_0⟩ := Kd.at_int HR129_0.out x1_1 p130 q130
                        cases e130
                        replace p130 := eq_true p130
                        replace q130 := eq_true q130
                        have p131 : 0 ≤ (x1_1 : Int) := of_decide_eq_true (by first | (with_reducible assumption) | assumption)
                        have q131 : x1_1 < (l0.length : Int) := of_decide_eq_true (by first | (with_reducible assumption) | assumption)
                        obtain ⟨ad131, A131_0, c131_0, e131, hx131_0, hl131_0, hi131_0⟩ := at_L1 HR0.out x1_1 p131 q131
                        obtain rfl : ad129 = ad131 := (by injection e131)
                        have HR131_0 := Aside0.mk hi131_0
                        have HC131_0 := Aside0.mk hl131_0
                        (try clear hi131_0); (try clear hl131_0)
                        replace p131 := eq_true p131
                        replace q131 := eq_true q131
                        have p132 : 0 ≤ (x1_1 : Int) := of_decide_eq_true (by first | (with_reducible assumption) | assumption)
                        have q132 : x1_1 < ((rd_L1 l0 x1_1).length : Int) := of_decide_eq_true (by first | (with_reducible assumption) | assumption)
                        obtain ⟨ad132, e132, hx132_0⟩ := Kd.at_int HR131_0.out x1_1 p132 q132
                        cases e132
                        replace p132 := eq_true p132
                        replace q132 := eq_true q132
                        go_wp2
                        go_roundg k1
                        case measure => have := HK1.out; omega
                        case rel => exact ⟨(rd (rd_L1 l0 x1_1) x1_1), (wrap64 (Int.tdiv x2_1 2)), (rd (rd_L1 l0 x7_1) x1_1), (by first | rfl | (simp; done) | (simp [*]; done)), (by first | rfl | (simp; done) | (simp [*]; done)), (by first | rfl | (simp; done) | (simp [*]; done)), H', ⟨by have := HK1.out; omega⟩, by repeat (first | exact Drawn0.refl _ | apply Drawn0.step)⟩
                      · rw [if_neg c15] at H
                        exact absurd H (by simp)
                    · rw [if_neg c14] at H
                      exact absurd H (by simp)
                  · rw [if_neg c13] at H
                    exact absurd H (by simp)
                · rw [if_neg c12] at H
                  exact absurd H (by simp)
              · rw [if_neg c11] at H
                exact absurd H (by simp)
            · rw [if_neg c10] at H
              exact absurd H (by simp)
        · rw [if_neg c5] at H
          have c5b0 : ((Int.tmod x2_1 2) == 1) = false := beq_eq_false_iff_ne.mpr c5
          have c5b1 : ((Int.tmod x2_1 2) != 1) = true := bne_iff_ne.mpr c5
          by_cases c16 : 0 ≤ x1_1
          · rw [if_pos c16] at H
            have c16b0 : decide (0 ≤ x1_1) = true := decide_eq_true c16
            clear c16
            by_cases c17 : x1_1 < (l0.length : Int)
            · rw [if_pos c17] at H
              have c17b0 : decide (x1_1 < (l0.length : Int)) = true := decide_eq_true c17
              clear c17
              by_cases c18 : x1_1 < ((rd_L1 l0 x1_1).length : Int)
              · rw [if_pos c18] at H
                have c18b0 : decide (x1_1 < ((rd_L1 l0 x1_1).length : Int)) = true := decide_eq_true c18
                clear c18
                have H' := Aside0.mk H
                clear H
                have p133 : 0 ≤ (x1_1 : Int) := of_decide_eq_true (by first | (with_reducible assumption) | assumption)
                have q133 : x1_1 < (l0.length : Int) := of_decide_eq_true (by first | (with_reducible assumption) | assumption)
                obtain ⟨ad133, A133_0, c133_0, e133, hx133_0, hl133_0, hi133_0⟩ := at_L1 HR0.out x1_1 p133 q133
                cases e133
                have HR133_0 := Aside0.mk hi133_0
                have HC133_0 := Aside0.mk hl133_0
                (try clear hi133_0); (try clear hl133_0)
                replace p133 := eq_true p133
                replace q133 := eq_true q133
                have p134 : 0 ≤ (x1_1 : Int) := of_decide_eq_true (by first | (with_reducible assumption) | assumption)
                have q134 : x1_1 < ((rd_L1 l0 x1_1).length : Int) := of_decide_eq_true (by first | (with_reducible assumption) | assumption)
                obtain ⟨ad134, e134, hx134_0⟩ := Kd.at_int HR133_0.out x1_1 p134 q134
                cases e134
                replace p134 := eq_true p134
                replace q134 := eq_true q134
                go_wp2
                go_roundg k1
                case measure => have := HK1.out; omega
                case rel => exact ⟨(rd (rd_L1 l0 x1_1) x1_1), (wrap64 (Int.tdiv x2_1 2)), (x7_1), (by first | rfl | (simp; done) | (simp [*]; done)), (by first | rfl | (simp; done) | (simp [*]; done)), (by first | rfl | (simp; done) | (simp [*]; done)), H', ⟨by have := HK1.out; omega⟩, by repeat (first | exact Drawn0.refl _ | apply Drawn0.step)⟩
              · rw [if_neg c18] at H
                exact absurd H (by simp)
            · rw [if_neg c17] at H
              exact absurd H (by simp)
          · rw [if_neg c16] at H
            exact absurd H (by simp)
      · rw [if_neg c4] at H
        have c4b0 : decide (0 < x2_1) = false := decide_eq_false c4
        clear c4
        obtain rfl := Option.some.inj H
        go_wp2
        go_ret
        exact ⟨by first | rfl | (simp; done) | (simp [*]; done), by repeat (first | exact Drawn0.refl _ | apply Drawn0.step)⟩

end Go.Proofs.Ytlhckcldeojfmaa.PAll
