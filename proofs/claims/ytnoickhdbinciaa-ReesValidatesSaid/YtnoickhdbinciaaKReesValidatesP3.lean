-- printed for this claim out of the translation; Lean checks it
import Derived.Test.YtnoickhdbinciaaKReesValidatesP2
namespace Go.Proofs.Ytnoickhdbinciaa.PAll
open Go.RowKit Go.Proofs.YtnoickhdbinciaaW.PrintWords Go.Proofs.YtnoickhdbinciaaW.PrintLast Go.Proofs.YtnoickhdbinciaaW.PrintMore
attribute [local go_sem] max2_int min2_int max_two min_two max_three min_three max_four min_four   -- for this text's walks alone
set_option linter.unusedVariables false
set_option linter.unusedSimpArgs false
/-! ### semigroupref16_IsGroup: function 45 -/
mutual
def semigroupref16_IsGroup.j0 : Nat → List (List Int) → Bool → Option (Bool)
 | 0, _, _ => none
 | k + 1, x0, x11 => if x11 = true then (some false) else (semigroupref16_IsGroup.l0 k x0 (x0.length : Int) 0)
def semigroupref16_IsGroup.l0 : Nat → List (List Int) → Int → Int → Option (Bool)
 | 0, _, _, _ => none
 | k + 1, x0, x13, x14 => if x14 < x13 then ((semigroupref16_Inverse.f k x0 x14).bind fun t274 => (if t274 < 0 then (some false) else (semigroupref16_IsGroup.l0 k x0 x13 (wrap64 (x14 + 1))))) else (some true)
end
def semigroupref16_IsGroup.f (k : Nat) (l0 : List (List Int)) : Option (Bool) := (semigroupref14_Valid.f k l0).bind fun t272 => (if t272 = true then ((semigroupref14_Identity.f k l0).bind fun t273 => (semigroupref16_IsGroup.j0 k l0 (decide (t273 < 0)))) else (semigroupref16_IsGroup.j0 k l0 true))
theorem semigroupref16_IsGroup.mono_l : ∀ k, (∀ y0 y1, LeO (semigroupref16_IsGroup.j0 k y0 y1) (semigroupref16_IsGroup.j0 (k + 1) y0 y1)) ∧ (∀ y0 y1 y2, LeO (semigroupref16_IsGroup.l0 k y0 y1 y2) (semigroupref16_IsGroup.l0 (k + 1) y0 y1 y2))
 | 0 => ⟨fun _ _ r h => by simp [semigroupref16_IsGroup.j0] at h, fun _ _ _ r h => by simp [semigroupref16_IsGroup.l0] at h⟩
 | k + 1 => by
  obtain ⟨ih0, ih1⟩ := semigroupref16_IsGroup.mono_l k
  refine ⟨?_, ?_⟩
  ·intro y0 y1
   unfold semigroupref16_IsGroup.j0
   repeat' first
   | (with_reducible exact ih0 _ _)
   | (with_reducible exact ih1 _ _ _)
   | (with_reducible exact semigroupref14_Identity.mono _ _)
   | (with_reducible exact semigroupref14_Valid.mono _ _)
   | (with_reducible exact semigroupref16_Inverse.mono _ _ _)
   | (with_reducible exact LeO.refl _)
   | (with_reducible exact LeO.none _)
   | (with_reducible refine LeO.ite ?_ ?_)
   | (with_reducible refine LeO.bind ?_ (fun _ => ?_))
   | exact ih0 _ _
   | exact ih1 _ _ _
   | exact semigroupref14_Identity.mono _ _
   | exact semigroupref14_Valid.mono _ _
   | exact semigroupref16_Inverse.mono _ _ _
   | exact LeO.none _
   | refine LeO.ite ?_ ?_
   | refine LeO.bind ?_ (fun _ => ?_)
  ·intro y0 y1 y2
   unfold semigroupref16_IsGroup.l0
   repeat' first
   | (with_reducible exact ih0 _ _)
   | (with_reducible exact ih1 _ _ _)
   | (with_reducible exact semigroupref14_Identity.mono _ _)
   | (with_reducible exact semigroupref14_Valid.mono _ _)
   | (with_reducible exact semigroupref16_Inverse.mono _ _ _)
   | (with_reducible exact LeO.refl _)
   | (with_reducible exact LeO.none _)
   | (with_reducible refine LeO.ite ?_ ?_)
   | (with_reducible refine LeO.bind ?_ (fun _ => ?_))
   | exact ih0 _ _
   | exact ih1 _ _ _
   | exact semigroupref14_Identity.mono _ _
   | exact semigroupref14_Valid.mono _ _
   | exact semigroupref16_Inverse.mono _ _ _
   | exact LeO.none _
   | refine LeO.ite ?_ ?_
   | refine LeO.bind ?_ (fun _ => ?_)
theorem semigroupref16_IsGroup.mono : ∀ a0 k, LeO (semigroupref16_IsGroup.f k a0) (semigroupref16_IsGroup.f (k + 1) a0) := by
 intro a0 k
 obtain ⟨ih0, ih1⟩ := semigroupref16_IsGroup.mono_l k
 unfold semigroupref16_IsGroup.f
 repeat' first
   | (with_reducible exact ih0 _ _)
   | (with_reducible exact ih1 _ _ _)
   | (with_reducible exact semigroupref14_Identity.mono _ _)
   | (with_reducible exact semigroupref14_Valid.mono _ _)
   | (with_reducible exact semigroupref16_Inverse.mono _ _ _)
   | (with_reducible exact LeO.refl _)
   | (with_reducible exact LeO.none _)
   | (with_reducible refine LeO.ite ?_ ?_)
   | (with_reducible refine LeO.bind ?_ (fun _ => ?_))
   | exact ih0 _ _
   | exact ih1 _ _ _
   | exact semigroupref14_Identity.mono _ _
   | exact semigroupref14_Valid.mono _ _
   | exact semigroupref16_Inverse.mono _ _ _
   | exact LeO.none _
   | refine LeO.ite ?_ ?_
   | refine LeO.bind ?_ (fun _ => ?_)
set_option maxHeartbeats 8000000 in
set_option maxRecDepth 100000 in
theorem semigroupref16_IsGroup.calls (k : Nat) (A0 : Option Addr) (c0 : Nat) (l0 : List (List Int)) (r : Bool) (w : World) (hr0 : Kd.C (Kd.slice 3 (Kd.int .i64)) w A0 l0.length l0) (hc0 : l0.length ≤ c0) (h : semigroupref16_IsGroup.f k l0 = some r) :
  Calls Try.prog 45 #[.slice A0 l0.length c0] w fun e w' => e = .returned (.bool r) ∧ Drawn0 w w' := by
 have HR0 := Aside0.mk hr0
 have HC0 := Aside0.mk hc0
 (try clear hr0); (try clear hc0)
 have H : ((semigroupref14_Valid.f k l0).bind fun t272 => (if t272 = true then ((semigroupref14_Identity.f k l0).bind fun t273 => (semigroupref16_IsGroup.j0 k l0 (decide (t273 < 0)))) else (semigroupref16_IsGroup.j0 k l0 true))) = some r := h
 clear h
 have HC2 := Aside0.mk H
 clear H
 go_enter Try.func45, Try.ntmps45
 go_upto_region 1 with (fail)
 go_cut [11] (fun v11 wc => ∃ (kq : Nat) (x11_1 : Bool), v11 = .bool x11_1 ∧ Aside0 (semigroupref16_IsGroup.j0 kq l0 x11_1 = some r) ∧ Aside0 (kq ≤ k) ∧ Drawn0 w wc)
 case first =>
  have H := HC2.out
  clear HC2
  replace H := Option.bind_eq_some_iff.mp H
  obtain ⟨t272, A30, H⟩ := H
  replace H : (if t272 = true then ((semigroupref14_Identity.f k l0).bind fun t273 => (semigroupref16_IsGroup.j0 k l0 (decide (t273 < 0)))) else (semigroupref16_IsGroup.j0 k l0 true)) = some r := H
  have A3 := Aside0.mk A30
  clear A30
  by_cases c4 : t272 = true
  ·subst c4
   have H1 : ((semigroupref14_Identity.f k l0).bind fun t273 => (semigroupref16_IsGroup.j0 k l0 (decide (t273 < 0)))) = some r := by rw [if_pos rfl] at H; exact H
   clear H
   have H := H1
   clear H1
   replace H := Option.bind_eq_some_iff.mp H
   obtain ⟨t273, A50, H⟩ := H
   replace H : (semigroupref16_IsGroup.j0 k l0 (decide (t273 < 0))) = some r := H
   have A5 := Aside0.mk A50
   clear A50
   have H' := Aside0.mk H
   clear H
   go_wp2_with (first | ((with_reducible refine gate_callee (f := 58) rfl ?_); refine goesL_ (some 5) rfl rfl Try.func58 (by kernel_rfl) rfl #[.slice A0 l0.length c0] rfl q_ml ?_; (with_reducible refine (semigroupref14_Valid.calls k _ _ l0 true _ ?side1 ?side2 A3.out).mono ?_); (case side1 => q_cc HR0.out); (case side2 => exact HC0.out); rintro e w' ⟨rfl, ⟨nd, rfl⟩⟩; refine ⟨_, rfl, ?_⟩) | (go_at_call 63; (with_reducible refine (semigroupref14_Identity.calls k _ _ l0 t273 _ ?side1 ?side2 A5.out).mono ?_); (case side1 => q_cc HR0.out); (case side2 => exact HC0.out); rintro e w' ⟨rfl, ⟨nd, rfl⟩⟩))
   go_meet
   case rel => exact ⟨_, (decide (t273 < 0)), q_rs, H', ⟨by first | omega | exact Nat.le_refl _⟩, by repeat (first | exact Drawn0.refl _ | apply Drawn0.step)⟩
  ·replace c4 := Bool.eq_false_iff.mpr c4
   subst c4
   have H1 : (semigroupref16_IsGroup.j0 k l0 true) = some r := by rw [if_neg (show ¬ (false = true) by decide)] at H; exact H
   clear H
   have H := H1
   clear H1
   have H' := Aside0.mk H
   clear H
   go_wp2_with (first | ((with_reducible refine gate_callee (f := 58) rfl ?_); refine goesL_ (some 5) rfl rfl Try.func58 (by kernel_rfl) rfl #[.slice A0 l0.length c0] rfl q_ml ?_; (with_reducible refine (semigroupref14_Valid.calls k _ _ l0 false _ ?side1 ?side2 A3.out).mono ?_); (case side1 => q_cc HR0.out); (case side2 => exact HC0.out); rintro e w' ⟨rfl, ⟨nd, rfl⟩⟩; refine ⟨_, rfl, ?_⟩))
   go_meet
   case rel => exact ⟨_, (true), q_rs, H', ⟨by first | omega | exact Nat.le_refl _⟩, by repeat (first | exact Drawn0.refl _ | apply Drawn0.step)⟩
 case rest =>
  clear HC2
  q_x p2 c4 c5
  obtain ⟨kq, x11_1, rfl, HA, HJ1, ⟨mc1, rfl⟩⟩ := hcut
  cases kq with
  | zero => exact absurd HA.out (by simp [semigroupref16_IsGroup.j0])
  | succ kj1 =>
   have H := HA.out
   clear HA
   simp only [semigroupref16_IsGroup.j0] at H
   by_cases c6 : x11_1 = true
   ·subst c6
    have H1 : (some false) = some r := by rw [if_pos rfl] at H; exact H
    clear H
    have H := H1
    clear H1
    obtain rfl := Option.some.inj H
    go_wp2
    go_ret
    exact ⟨by first | rfl | (simp; done) | (simp [*]; done), by repeat (first | exact Drawn0.refl _ | apply Drawn0.step)⟩
   ·replace c6 := Bool.eq_false_iff.mpr c6
    subst c6
    have H1 : (semigroupref16_IsGroup.l0 kj1 l0 (l0.length : Int) 0) = some r := by rw [if_neg (show ¬ (false = true) by decide)] at H; exact H
    clear H
    have H := H1
    clear H1
    have H' := Aside0.mk H
    clear H
    go_wp2
    go_loopg [14] kj1 (fun kq v14 w' => ∃ (x14_2 : Int), v14 = .int .i64 x14_2 ∧ Aside0 (semigroupref16_IsGroup.l0 kq l0 (l0.length : Int) x14_2 = some r) ∧ Aside0 (kq ≤ kj1) ∧ Drawn0 w w')
    case atStart => exact ⟨(0), q_rs, H', ⟨Nat.le_refl _⟩, by repeat (first | exact Drawn0.refl _ | apply Drawn0.step)⟩
    case round =>
     clear H'
     q_x c1 p2 c4 c5 c6 p2
     obtain ⟨x14_2, rfl, HA, HK2, ⟨m2, rfl⟩⟩ := hrel
     cases gk with
     | zero => exact absurd HA.out (by simp [semigroupref16_IsGroup.l0])
     | succ k2 =>
      have H := HA.out
      clear HA
      simp only [semigroupref16_IsGroup.l0] at H
      by_cases c7 : x14_2 < (l0.length : Int)
      ·rw [if_pos c7] at H
       have c7b0 : decide (x14_2 < (l0.length : Int)) = true := decide_eq_true c7
       clear c7
       replace H := Option.bind_eq_some_iff.mp H
       obtain ⟨t274, A80, H⟩ := H
       replace H : (if t274 < 0 then (some false) else (semigroupref16_IsGroup.l0 k2 l0 (l0.length : Int) (wrap64 (x14_2 + 1)))) = some r := H
       have A8 := Aside0.mk A80
       clear A80
       by_cases c9 : t274 < 0
       ·rw [if_pos c9] at H
        have c9b0 : decide (t274 < 0) = true := decide_eq_true c9
        clear c9
        obtain rfl := Option.some.inj H
        go_wp2_with (first | ((with_reducible refine gate_callee (f := 64) rfl ?_); refine goesL_ (some 19) rfl rfl Try.func64 (by kernel_rfl) rfl #[.slice A0 l0.length c0, .int .i64 x14_2] rfl q_ml ?_; (with_reducible refine (semigroupref16_Inverse.calls k2 _ _ l0 x14_2 t274 _ ?side1 ?side2 A8.out).mono ?_); (case side1 => q_cc HR0.out); (case side2 => exact HC0.out); rintro e w' ⟨rfl, ⟨nd, rfl⟩⟩; refine ⟨_, rfl, ?_⟩))
        go_ret
        exact ⟨by first | rfl | (simp; done) | (simp [*]; done), by repeat (first | exact Drawn0.refl _ | apply Drawn0.step)⟩
       ·rw [if_neg c9] at H
        have c9b0 : decide (t274 < 0) = false := decide_eq_false c9
        clear c9
        have H' := Aside0.mk H
        clear H
        go_wp2_with (first | ((with_reducible refine gate_callee (f := 64) rfl ?_); refine goesL_ (some 19) rfl rfl Try.func64 (by kernel_rfl) rfl #[.slice A0 l0.length c0, .int .i64 x14_2] rfl q_ml ?_; (with_reducible refine (semigroupref16_Inverse.calls k2 _ _ l0 x14_2 t274 _ ?side1 ?side2 A8.out).mono ?_); (case side1 => q_cc HR0.out); (case side2 => exact HC0.out); rintro e w' ⟨rfl, ⟨nd, rfl⟩⟩; refine ⟨_, rfl, ?_⟩))
        go_roundg k2
        case measure => have := HJ1.out; have := HK2.out; omega
        case rel => exact ⟨(wrap64 (x14_2 + 1)), q_rs, H', ⟨by have := HJ1.out; have := HK2.out; omega⟩, by repeat (first | exact Drawn0.refl _ | apply Drawn0.step)⟩
      ·rw [if_neg c7] at H
       have c7b0 : decide (x14_2 < (l0.length : Int)) = false := decide_eq_false c7
       clear c7
       obtain rfl := Option.some.inj H
       go_wp2
       go_ret
       exact ⟨by first | rfl | (simp; done) | (simp [*]; done), by repeat (first | exact Drawn0.refl _ | apply Drawn0.step)⟩

/-! ### semigroupref17_Validate: function 15 -/
mutual
def semigroupref17_Validate.j0 : Nat → Bool → List (List Int) → Int → Int → List (List Int) → Bool → Option (Int)
 | 0, _, _, _, _, _, _ => none
 | k + 1, x29, x276000, x276001, x276002, x276003, x276004 => if x29 = true then (some 4) else (semigroupref17_Validate.l0 k x276003 (x276003.length : Int) 0 x276000 x276001 x276002 x276003 x276004)
def semigroupref17_Validate.l0 : Nat → List (List Int) → Int → Int → List (List Int) → Int → Int → List (List Int) → Bool → Option (Int)
 | 0, _, _, _, _, _, _, _, _ => none
 | k + 1, x31, x32, x33, x276000, x276001, x276002, x276003, x276004 => if x33 < x32 then (if 0 ≤ x33 then (if x33 < (x31.length : Int) then (if ((rd_L1 x31 x33).length : Int) = x276001 then (semigroupref17_Validate.l1 k x31 x32 x33 (rd_L1 x31 x33) ((rd_L1 x31 x33).length : Int) 0 x276000 x276001 x276002 x276003 x276004) else (some 4)) else (none)) else (none)) else (if x276004 = true then (if (x276000.length : Int) = 0 then (none) else (if x276001 > (wrap64 ((400 - 1) / (x276000.length : Int))) then (some 3) else (if x276002 = 0 then (none) else (if (wrap64 (x276001 * (x276000.length : Int))) > (wrap64 ((400 - 1) / x276002)) then (some 3) else (some 0))))) else (if (x276000.length : Int) = 0 then (none) else (if x276001 > (wrap64 ((400 : Int) / (x276000.length : Int))) then (some 3) else (if x276002 = 0 then (none) else (if (wrap64 (x276001 * (x276000.length : Int))) > (wrap64 ((400 : Int) / x276002)) then (some 3) else (some 0))))))
def semigroupref17_Validate.l1 : Nat → List (List Int) → Int → Int → List Int → Int → Int → List (List Int) → Int → Int → List (List Int) → Bool → Option (Int)
 | 0, _, _, _, _, _, _, _, _, _, _, _ => none
 | k + 1, x31, x32, x33, x42, x43, x44, x276000, x276001, x276002, x276003, x276004 => if x44 < x43 then (if 0 ≤ x44 then (if x44 < (x42.length : Int) then (if (rd x42 x44) < (-1) then (some 4) else (if (rd x42 x44) ≥ (x276000.length : Int) then (some 4) else (if (rd x42 x44) < 0 then (if x276004 = true then (semigroupref17_Validate.l1 k x31 x32 x33 x42 x43 (wrap64 (x44 + 1)) x276000 x276001 x276002 x276003 x276004) else (some 4)) else (semigroupref17_Validate.l1 k x31 x32 x33 x42 x43 (wrap64 (x44 + 1)) x276000 x276001 x276002 x276003 x276004)))) else (none)) else (none)) else (semigroupref17_Validate.l0 k x31 x32 (wrap64 (x33 + 1)) x276000 x276001 x276002 x276003 x276004)
end
def semigroupref17_Validate.f (k : Nat) (l0_0 : List (List Int)) (a0_1 : Int) (a0_2 : Int) (l0_3 : List (List Int)) (a0_4 : Bool) : Option (Int) := (semigroupref16_IsGroup.f k l0_0).bind fun t276 => (if t276 = true then (if a0_1 < 1 then (semigroupref17_Validate.j0 k true l0_0 a0_1 a0_2 l0_3 a0_4) else (if a0_2 < 1 then (semigroupref17_Validate.j0 k true l0_0 a0_1 a0_2 l0_3 a0_4) else (semigroupref17_Validate.j0 k ((l0_3.length : Int) != a0_2) l0_0 a0_1 a0_2 l0_3 a0_4))) else (semigroupref17_Validate.j0 k true l0_0 a0_1 a0_2 l0_3 a0_4))
theorem semigroupref17_Validate.mono_l : ∀ k, (∀ y0 y1 y2 y3 y4 y5, LeO (semigroupref17_Validate.j0 k y0 y1 y2 y3 y4 y5) (semigroupref17_Validate.j0 (k + 1) y0 y1 y2 y3 y4 y5)) ∧ (∀ y0 y1 y2 y3 y4 y5 y6 y7, LeO (semigroupref17_Validate.l0 k y0 y1 y2 y3 y4 y5 y6 y7) (semigroupref17_Validate.l0 (k + 1) y0 y1 y2 y3 y4 y5 y6 y7)) ∧ (∀ y0 y1 y2 y3 y4 y5 y6 y7 y8 y9 y10, LeO (semigroupref17_Validate.l1 k y0 y1 y2 y3 y4 y5 y6 y7 y8 y9 y10) (semigroupref17_Validate.l1 (k + 1) y0 y1 y2 y3 y4 y5 y6 y7 y8 y9 y10))
 | 0 => ⟨fun _ _ _ _ _ _ r h => by simp [semigroupref17_Validate.j0] at h, fun _ _ _ _ _ _ _ _ r h => by simp [semigroupref17_Validate.l0] at h, fun _ _ _ _ _ _ _ _ _ _ _ r h => by simp [semigroupref17_Validate.l1] at h⟩
 | k + 1 => by
  obtain ⟨ih0, ih1, ih2⟩ := semigroupref17_Validate.mono_l k
  refine ⟨?_, ?_, ?_⟩
  ·intro y0 y1 y2 y3 y4 y5
   unfold semigroupref17_Validate.j0
   repeat' first
   | (with_reducible exact ih0 _ _ _ _ _ _)
   | (with_reducible exact ih1 _ _ _ _ _ _ _ _)
   | (with_reducible exact ih2 _ _ _ _ _ _ _ _ _ _ _)
   | (with_reducible exact semigroupref16_IsGroup.mono _ _)
   | (with_reducible exact LeO.refl _)
   | (with_reducible exact LeO.none _)
   | (with_reducible refine LeO.ite ?_ ?_)
   | (with_reducible refine LeO.bind ?_ (fun _ => ?_))
   | exact ih0 _ _ _ _ _ _
   | exact ih1 _ _ _ _ _ _ _ _
   | exact ih2 _ _ _ _ _ _ _ _ _ _ _
   | exact semigroupref16_IsGroup.mono _ _
   | exact LeO.none _
   | refine LeO.ite ?_ ?_
   | refine LeO.bind ?_ (fun _ => ?_)
  ·intro y0 y1 y2 y3 y4 y5 y6 y7
   unfold semigroupref17_Validate.l0
   repeat' first
   | (with_reducible exact ih0 _ _ _ _ _ _)
   | (with_reducible exact ih1 _ _ _ _ _ _ _ _)
   | (with_reducible exact ih2 _ _ _ _ _ _ _ _ _ _ _)
   | (with_reducible exact semigroupref16_IsGroup.mono _ _)
   | (with_reducible exact LeO.refl _)
   | (with_reducible exact LeO.none _)
   | (with_reducible refine LeO.ite ?_ ?_)
   | (with_reducible refine LeO.bind ?_ (fun _ => ?_))
   | exact ih0 _ _ _ _ _ _
   | exact ih1 _ _ _ _ _ _ _ _
   | exact ih2 _ _ _ _ _ _ _ _ _ _ _
   | exact semigroupref16_IsGroup.mono _ _
   | exact LeO.none _
   | refine LeO.ite ?_ ?_
   | refine LeO.bind ?_ (fun _ => ?_)
  ·intro y0 y1 y2 y3 y4 y5 y6 y7 y8 y9 y10
   unfold semigroupref17_Validate.l1
   repeat' first
   | (with_reducible exact ih0 _ _ _ _ _ _)
   | (with_reducible exact ih1 _ _ _ _ _ _ _ _)
   | (with_reducible exact ih2 _ _ _ _ _ _ _ _ _ _ _)
   | (with_reducible exact semigroupref16_IsGroup.mono _ _)
   | (with_reducible exact LeO.refl _)
   | (with_reducible exact LeO.none _)
   | (with_reducible refine LeO.ite ?_ ?_)
   | (with_reducible refine LeO.bind ?_ (fun _ => ?_))
   | exact ih0 _ _ _ _ _ _
   | exact ih1 _ _ _ _ _ _ _ _
   | exact ih2 _ _ _ _ _ _ _ _ _ _ _
   | exact semigroupref16_IsGroup.mono _ _
   | exact LeO.none _
   | refine LeO.ite ?_ ?_
   | refine LeO.bind ?_ (fun _ => ?_)
theorem semigroupref17_Validate.mono : ∀ a0 a1 a2 a3 a4 k, LeO (semigroupref17_Validate.f k a0 a1 a2 a3 a4) (semigroupref17_Validate.f (k + 1) a0 a1 a2 a3 a4) := by
 intro a0 a1 a2 a3 a4 k
 obtain ⟨ih0, ih1, ih2⟩ := semigroupref17_Validate.mono_l k
 unfold semigroupref17_Validate.f
 repeat' first
   | (with_reducible exact ih0 _ _ _ _ _ _)
   | (with_reducible exact ih1 _ _ _ _ _ _ _ _)
   | (with_reducible exact ih2 _ _ _ _ _ _ _ _ _ _ _)
   | (with_reducible exact semigroupref16_IsGroup.mono _ _)
   | (with_reducible exact LeO.refl _)
   | (with_reducible exact LeO.none _)
   | (with_reducible refine LeO.ite ?_ ?_)
   | (with_reducible refine LeO.bind ?_ (fun _ => ?_))
   | exact ih0 _ _ _ _ _ _
   | exact ih1 _ _ _ _ _ _ _ _
   | exact ih2 _ _ _ _ _ _ _ _ _ _ _
   | exact semigroupref16_IsGroup.mono _ _
   | exact LeO.none _
   | refine LeO.ite ?_ ?_
   | refine LeO.bind ?_ (fun _ => ?_)
set_option maxHeartbeats 8000000 in
set_option maxRecDepth 100000 in
theorem semigroupref17_Validate.calls (k : Nat) (A0_0 : Option Addr) (c0_0 : Nat) (l0_0 : List (List Int)) (a0_1 : Int) (a0_2 : Int) (A0_3 : Option Addr) (c0_3 : Nat) (l0_3 : List (List Int)) (a0_4 : Bool) (r : Int) (w : World) (hr0_0 : Kd.C (Kd.slice 3 (Kd.int .i64)) w A0_0 l0_0.length l0_0) (hc0_0 : l0_0.length ≤ c0_0) (hr0_3 : Kd.C (Kd.slice 3 (Kd.int .i64)) w A0_3 l0_3.length l0_3) (hc0_3 : l0_3.length ≤ c0_3) (h : semigroupref17_Validate.f k l0_0 a0_1 a0_2 l0_3 a0_4 = some r) :
  Calls Try.prog 15 #[.agg #[.slice A0_0 l0_0.length c0_0, .int .i64 a0_1, .int .i64 a0_2, .slice A0_3 l0_3.length c0_3, .bool a0_4]] w fun e w' => e = .returned (.int .i64 r) ∧ Below w.heap.size w w' := by
 have hu24 := Try.underlying24
 have HR0_0 := Aside0.mk hr0_0
 have HC0_0 := Aside0.mk hc0_0
 (try clear hr0_0); (try clear hc0_0)
 have HR0_3 := Aside0.mk hr0_3
 have HC0_3 := Aside0.mk hc0_3
 (try clear hr0_3); (try clear hc0_3)
 have HB := Aside0.mk (Below.refl w.heap.size w)
 have H : ((semigroupref16_IsGroup.f k l0_0).bind fun t276 => (if t276 = true then (if a0_1 < 1 then (semigroupref17_Validate.j0 k true l0_0 a0_1 a0_2 l0_3 a0_4) else (if a0_2 < 1 then (semigroupref17_Validate.j0 k true l0_0 a0_1 a0_2 l0_3 a0_4) else (semigroupref17_Validate.j0 k ((l0_3.length : Int) != a0_2) l0_0 a0_1 a0_2 l0_3 a0_4))) else (semigroupref17_Validate.j0 k true l0_0 a0_1 a0_2 l0_3 a0_4))) = some r := h
 clear h
 have HC2 := Aside0.mk H
 clear H
 go_enter Try.func15, Try.ntmps15
 go_upto_region 1 with (first | ((with_reducible refine gate_dst (N := 1) rfl ?_); (try (refine gate_guard (by rfl) ?_; dsimp only)); refine box_event ?hg (N := 1) ?hd (cs := #[.slice A0_0 l0_0.length c0_0, .int .i64 a0_1, .int .i64 a0_2, .slice A0_3 l0_3.length c0_3, .bool a0_4]) (t := 24) ?hr ?_; (case hd => rfl); (case hg => rfl); q_hr; intro gb275 hg w3 hbox hb; have n0_ := Aside0.mk (below_step q_hb hb); have n1_ := Aside0.mk (hbox); have n2_ := Aside0.mk ((by rw [hg]; exact q_bs : w.heap.size ≤ gb275)); have n3_ := Aside0.mk ((by rw [hg]; exact q_bs : w.heap.size ≤ gb275)); clear HB; have HB := n0_; have BK275 := n1_; have GW275 := n2_; have GE275 := n3_; clear n0_ n1_ n2_ n3_; (q_x hb hbox); (try clear hg)))
 repeat (go_quiet (first | ((with_reducible refine gate_dst (N := 1) rfl ?_); (try (refine gate_guard (by rfl) ?_; dsimp only)); refine box_event ?hg (N := 1) ?hd (cs := #[.slice A0_0 l0_0.length c0_0, .int .i64 a0_1, .int .i64 a0_2, .slice A0_3 l0_3.length c0_3, .bool a0_4]) (t := 24) ?hr ?_; (case hd => rfl); (case hg => rfl); q_hr; intro gb275 hg w3 hbox hb; have n0_ := Aside0.mk (below_step q_hb hb); have n1_ := Aside0.mk (hbox); have n2_ := Aside0.mk ((by rw [hg]; exact q_bs : w.heap.size ≤ gb275)); have n3_ := Aside0.mk ((by rw [hg]; exact q_bs : w.heap.size ≤ gb275)); clear HB; have HB := n0_; have BK275 := n1_; have GW275 := n2_; have GE275 := n3_; clear n0_ n1_ n2_ n3_; (q_x hb hbox); (try clear hg))); go_upto_region 1 with (first | ((with_reducible refine gate_dst (N := 1) rfl ?_); (try (refine gate_guard (by rfl) ?_; dsimp only)); refine box_event ?hg (N := 1) ?hd (cs := #[.slice A0_0 l0_0.length c0_0, .int .i64 a0_1, .int .i64 a0_2, .slice A0_3 l0_3.length c0_3, .bool a0_4]) (t := 24) ?hr ?_; (case hd => rfl); (case hg => rfl); q_hr; intro gb275 hg w3 hbox hb; have n0_ := Aside0.mk (below_step q_hb hb); have n1_ := Aside0.mk (hbox); have n2_ := Aside0.mk ((by rw [hg]; exact q_bs : w.heap.size ≤ gb275)); have n3_ := Aside0.mk ((by rw [hg]; exact q_bs : w.heap.size ≤ gb275)); clear HB; have HB := n0_; have BK275 := n1_; have GW275 := n2_; have GE275 := n3_; clear n0_ n1_ n2_ n3_; (q_x hb hbox); (try clear hg))))
 (try simp only [Act.put, List.setIfInBounds_toArray, List.set_cons_zero, List.set_cons_succ])
 go_cut [29] (fun v29 wc => ∃ (kq : Nat) (x29_1 : Bool), v29 = .bool x29_1 ∧ Aside0 (semigroupref17_Validate.j0 kq x29_1 l0_0 a0_1 a0_2 l0_3 a0_4 = some r) ∧ Aside0 (kq ≤ k) ∧ Aside0 (wc.heap[gb275]? = some (.cells #[(.slice A0_0 l0_0.length c0_0), .int .i64 a0_1, .int .i64 a0_2, (.slice A0_3 l0_3.length c0_3), .bool a0_4] 24 (0, 0))) ∧ Aside0 (Below w.heap.size w wc))
 case first =>
  have H := HC2.out
  clear HC2
  replace H := Option.bind_eq_some_iff.mp H
  obtain ⟨t276, A40, H⟩ := H
  replace H : (if t276 = true then (if a0_1 < 1 then (semigroupref17_Validate.j0 k true l0_0 a0_1 a0_2 l0_3 a0_4) else (if a0_2 < 1 then (semigroupref17_Validate.j0 k true l0_0 a0_1 a0_2 l0_3 a0_4) else (semigroupref17_Validate.j0 k ((l0_3.length : Int) != a0_2) l0_0 a0_1 a0_2 l0_3 a0_4))) else (semigroupref17_Validate.j0 k true l0_0 a0_1 a0_2 l0_3 a0_4)) = some r := H
  have A4 := Aside0.mk A40
  clear A40
  by_cases c5 : t276 = true
  ·subst c5
   have H1 : (if a0_1 < 1 then (semigroupref17_Validate.j0 k true l0_0 a0_1 a0_2 l0_3 a0_4) else (if a0_2 < 1 then (semigroupref17_Validate.j0 k true l0_0 a0_1 a0_2 l0_3 a0_4) else (semigroupref17_Validate.j0 k ((l0_3.length : Int) != a0_2) l0_0 a0_1 a0_2 l0_3 a0_4))) = some r := by rw [if_pos rfl] at H; exact H
   clear H
   have H := H1
   clear H1
   by_cases c6 : a0_1 < 1
   ·rw [if_pos c6] at H
    have c6b0 : decide (a0_1 < 1) = true := decide_eq_true c6
    clear c6
    (first | rw [c6b0] | (simp only [i64_w, i32_w]; rw [c6b0]) | skip)
    have H' := Aside0.mk H
    clear H
    have hcz7_0 : w3.cell? ⟨gb275, 0, none⟩ = some (.slice A0_0 l0_0.length c0_0) := (blk_cell BK275.out 0).trans rfl
    have hcz7_1 : w3.cell? ⟨gb275, 1, none⟩ = some (.int .i64 a0_1) := (blk_cell BK275.out 1).trans rfl
    have hcz7_2 : w3.cell? ⟨gb275, 2, none⟩ = some (.int .i64 a0_2) := (blk_cell BK275.out 2).trans rfl
    have hcz7_3 : w3.cell? ⟨gb275, 3, none⟩ = some (.slice A0_3 l0_3.length c0_3) := (blk_cell BK275.out 3).trans rfl
    have hcz7_4 : w3.cell? ⟨gb275, 4, none⟩ = some (.bool a0_4) := (blk_cell BK275.out 4).trans rfl
    have hfz7_0 := blk_frozen BK275.out 0
    have hfz7_1 := blk_frozen BK275.out 1
    have hfz7_2 := blk_frozen BK275.out 2
    have hfz7_3 := blk_frozen BK275.out 3
    have hfz7_4 := blk_frozen BK275.out 4
    go_wp2_with (first | (go_at_call 45; (with_reducible refine (semigroupref16_IsGroup.calls k _ _ l0_0 true _ ?side1 ?side2 A4.out).mono ?_); (case side1 => q_cc (Kd.C_below HR0_0.out HB.out)); (case side2 => exact HC0_0.out); rintro e w' ⟨rfl, ⟨nd, rfl⟩⟩; (try first | exact ⟨rfl, _, World.drewN_drewN _ _ _⟩ | exact ⟨rfl, _, Eq.trans (World.drewN_drewN _ _ _) (congrArg (World.drewN _) (Nat.add_assoc _ _ _))⟩)))
    repeat (go_quiet (first | (go_at_call 45; (with_reducible refine (semigroupref16_IsGroup.calls k _ _ l0_0 true _ ?side1 ?side2 A4.out).mono ?_); (case side1 => q_cc (Kd.C_below HR0_0.out HB.out)); (case side2 => exact HC0_0.out); rintro e w' ⟨rfl, ⟨nd, rfl⟩⟩; (try first | exact ⟨rfl, _, World.drewN_drewN _ _ _⟩ | exact ⟨rfl, _, Eq.trans (World.drewN_drewN _ _ _) (congrArg (World.drewN _) (Nat.add_assoc _ _ _))⟩))); try go_wp2_with (first | (go_at_call 45; (with_reducible refine (semigroupref16_IsGroup.calls k _ _ l0_0 true _ ?side1 ?side2 A4.out).mono ?_); (case side1 => q_cc (Kd.C_below HR0_0.out HB.out)); (case side2 => exact HC0_0.out); rintro e w' ⟨rfl, ⟨nd, rfl⟩⟩; (try first | exact ⟨rfl, _, World.drewN_drewN _ _ _⟩ | exact ⟨rfl, _, Eq.trans (World.drewN_drewN _ _ _) (congrArg (World.drewN _) (Nat.add_assoc _ _ _))⟩))))
    go_meet
    case rel => exact ⟨_, (true), q_rs, H', ⟨by first | omega | exact Nat.le_refl _⟩, ⟨by q_bk; exact BK275.out⟩, ⟨by repeat (first | (with_reducible first | exact HB.out | apply below_alloc | apply pw_below_drewN | apply below_drew1 | refine below_set ?_ GE275.out) | exact HB.out)⟩⟩
   ·rw [if_neg c6] at H
    have c6b0 : decide (a0_1 < 1) = false := decide_eq_false c6
    clear c6
    (first | rw [c6b0] | (simp only [i64_w, i32_w]; rw [c6b0]) | skip)
    by_cases c8 : a0_2 < 1
    ·rw [if_pos c8] at H
     have c8b0 : decide (a0_2 < 1) = true := decide_eq_true c8
     clear c8
     have H' := Aside0.mk H
     clear H
     have hcz9_0 : w3.cell? ⟨gb275, 0, none⟩ = some (.slice A0_0 l0_0.length c0_0) := (blk_cell BK275.out 0).trans rfl
     have hcz9_1 : w3.cell? ⟨gb275, 1, none⟩ = some (.int .i64 a0_1) := (blk_cell BK275.out 1).trans rfl
     have hcz9_2 : w3.cell? ⟨gb275, 2, none⟩ = some (.int .i64 a0_2) := (blk_cell BK275.out 2).trans rfl
     have hcz9_3 : w3.cell? ⟨gb275, 3, none⟩ = some (.slice A0_3 l0_3.length c0_3) := (blk_cell BK275.out 3).trans rfl
     have hcz9_4 : w3.cell? ⟨gb275, 4, none⟩ = some (.bool a0_4) := (blk_cell BK275.out 4).trans rfl
     have hfz9_0 := blk_frozen BK275.out 0
     have hfz9_1 := blk_frozen BK275.out 1
     have hfz9_2 := blk_frozen BK275.out 2
     have hfz9_3 := blk_frozen BK275.out 3
     have hfz9_4 := blk_frozen BK275.out 4
     go_wp2_with (first | (go_at_call 45; (with_reducible refine (semigroupref16_IsGroup.calls k _ _ l0_0 true _ ?side1 ?side2 A4.out).mono ?_); (case side1 => q_cc (Kd.C_below HR0_0.out HB.out)); (case side2 => exact HC0_0.out); rintro e w' ⟨rfl, ⟨nd, rfl⟩⟩; (try first | exact ⟨rfl, _, World.drewN_drewN _ _ _⟩ | exact ⟨rfl, _, Eq.trans (World.drewN_drewN _ _ _) (congrArg (World.drewN _) (Nat.add_assoc _ _ _))⟩)))
     repeat (go_quiet (first | (go_at_call 45; (with_reducible refine (semigroupref16_IsGroup.calls k _ _ l0_0 true _ ?side1 ?side2 A4.out).mono ?_); (case side1 => q_cc (Kd.C_below HR0_0.out HB.out)); (case side2 => exact HC0_0.out); rintro e w' ⟨rfl, ⟨nd, rfl⟩⟩; (try first | exact ⟨rfl, _, World.drewN_drewN _ _ _⟩ | exact ⟨rfl, _, Eq.trans (World.drewN_drewN _ _ _) (congrArg (World.drewN _) (Nat.add_assoc _ _ _))⟩))); try go_wp2_with (first | (go_at_call 45; (with_reducible refine (semigroupref16_IsGroup.calls k _ _ l0_0 true _ ?side1 ?side2 A4.out).mono ?_); (case side1 => q_cc (Kd.C_below HR0_0.out HB.out)); (case side2 => exact HC0_0.out); rintro e w' ⟨rfl, ⟨nd, rfl⟩⟩; (try first | exact ⟨rfl, _, World.drewN_drewN _ _ _⟩ | exact ⟨rfl, _, Eq.trans (World.drewN_drewN _ _ _) (congrArg (World.drewN _) (Nat.add_assoc _ _ _))⟩))))
     go_meet
     case rel => exact ⟨_, (true), q_rs, H', ⟨by first | omega | exact Nat.le_refl _⟩, ⟨by q_bk; exact BK275.out⟩, ⟨by repeat (first | (with_reducible first | exact HB.out | apply below_alloc | apply pw_below_drewN | apply below_drew1 | refine below_set ?_ GE275.out) | exact HB.out)⟩⟩
    ·rw [if_neg c8] at H
     have c8b0 : decide (a0_2 < 1) = false := decide_eq_false c8
     clear c8
     have H' := Aside0.mk H
     clear H
     have hcz10_0 : w3.cell? ⟨gb275, 0, none⟩ = some (.slice A0_0 l0_0.length c0_0) := (blk_cell BK275.out 0).trans rfl
     have hcz10_1 : w3.cell? ⟨gb275, 1, none⟩ = some (.int .i64 a0_1) := (blk_cell BK275.out 1).trans rfl
     have hcz10_2 : w3.cell? ⟨gb275, 2, none⟩ = some (.int .i64 a0_2) := (blk_cell BK275.out 2).trans rfl
     have hcz10_3 : w3.cell? ⟨gb275, 3, none⟩ = some (.slice A0_3 l0_3.length c0_3) := (blk_cell BK275.out 3).trans rfl
     have hcz10_4 : w3.cell? ⟨gb275, 4, none⟩ = some (.bool a0_4) := (blk_cell BK275.out 4).trans rfl
     have hfz10_0 := blk_frozen BK275.out 0
     have hfz10_1 := blk_frozen BK275.out 1
     have hfz10_2 := blk_frozen BK275.out 2
     have hfz10_3 := blk_frozen BK275.out 3
     have hfz10_4 := blk_frozen BK275.out 4
     go_wp2_with (first | (go_at_call 45; (with_reducible refine (semigroupref16_IsGroup.calls k _ _ l0_0 true _ ?side1 ?side2 A4.out).mono ?_); (case side1 => q_cc (Kd.C_below HR0_0.out HB.out)); (case side2 => exact HC0_0.out); rintro e w' ⟨rfl, ⟨nd, rfl⟩⟩; (try first | exact ⟨rfl, _, World.drewN_drewN _ _ _⟩ | exact ⟨rfl, _, Eq.trans (World.drewN_drewN _ _ _) (congrArg (World.drewN _) (Nat.add_assoc _ _ _))⟩)))
     repeat (go_quiet (first | (go_at_call 45; (with_reducible refine (semigroupref16_IsGroup.calls k _ _ l0_0 true _ ?side1 ?side2 A4.out).mono ?_); (case side1 => q_cc (Kd.C_below HR0_0.out HB.out)); (case side2 => exact HC0_0.out); rintro e w' ⟨rfl, ⟨nd, rfl⟩⟩; (try first | exact ⟨rfl, _, World.drewN_drewN _ _ _⟩ | exact ⟨rfl, _, Eq.trans (World.drewN_drewN _ _ _) (congrArg (World.drewN _) (Nat.add_assoc _ _ _))⟩))); try go_wp2_with (first | (go_at_call 45; (with_reducible refine (semigroupref16_IsGroup.calls k _ _ l0_0 true _ ?side1 ?side2 A4.out).mono ?_); (case side1 => q_cc (Kd.C_below HR0_0.out HB.out)); (case side2 => exact HC0_0.out); rintro e w' ⟨rfl, ⟨nd, rfl⟩⟩; (try first | exact ⟨rfl, _, World.drewN_drewN _ _ _⟩ | exact ⟨rfl, _, Eq.trans (World.drewN_drewN _ _ _) (congrArg (World.drewN _) (Nat.add_assoc _ _ _))⟩))))
     go_meet
     case rel => exact ⟨_, (((l0_3.length : Int) != a0_2)), q_rs, H', ⟨by first | omega | exact Nat.le_refl _⟩, ⟨by q_bk; exact BK275.out⟩, ⟨by repeat (first | (with_reducible first | exact HB.out | apply below_alloc | apply pw_below_drewN | apply below_drew1 | refine below_set ?_ GE275.out) | exact HB.out)⟩⟩
  ·replace c5 := Bool.eq_false_iff.mpr c5
   subst c5
   have H1 : (semigroupref17_Validate.j0 k true l0_0 a0_1 a0_2 l0_3 a0_4) = some r := by rw [if_neg (show ¬ (false = true) by decide)] at H; exact H
   clear H
   have H := H1
   clear H1
   have H' := Aside0.mk H
   clear H
   have hcz11_0 : w3.cell? ⟨gb275, 0, none⟩ = some (.slice A0_0 l0_0.length c0_0) := (blk_cell BK275.out 0).trans rfl
   have hcz11_1 : w3.cell? ⟨gb275, 1, none⟩ = some (.int .i64 a0_1) := (blk_cell BK275.out 1).trans rfl
   have hcz11_2 : w3.cell? ⟨gb275, 2, none⟩ = some (.int .i64 a0_2) := (blk_cell BK275.out 2).trans rfl
   have hcz11_3 : w3.cell? ⟨gb275, 3, none⟩ = some (.slice A0_3 l0_3.length c0_3) := (blk_cell BK275.out 3).trans rfl
   have hcz11_4 : w3.cell? ⟨gb275, 4, none⟩ = some (.bool a0_4) := (blk_cell BK275.out 4).trans rfl
   have hfz11_0 := blk_frozen BK275.out 0
   have hfz11_1 := blk_frozen BK275.out 1
   have hfz11_2 := blk_frozen BK275.out 2
   have hfz11_3 := blk_frozen BK275.out 3
   have hfz11_4 := blk_frozen BK275.out 4
   go_wp2_with (first | (go_at_call 45; (with_reducible refine (semigroupref16_IsGroup.calls k _ _ l0_0 false _ ?side1 ?side2 A4.out).mono ?_); (case side1 => q_cc (Kd.C_below HR0_0.out HB.out)); (case side2 => exact HC0_0.out); rintro e w' ⟨rfl, ⟨nd, rfl⟩⟩; (try first | exact ⟨rfl, _, World.drewN_drewN _ _ _⟩ | exact ⟨rfl, _, Eq.trans (World.drewN_drewN _ _ _) (congrArg (World.drewN _) (Nat.add_assoc _ _ _))⟩)))
   repeat (go_quiet (first | (go_at_call 45; (with_reducible refine (semigroupref16_IsGroup.calls k _ _ l0_0 false _ ?side1 ?side2 A4.out).mono ?_); (case side1 => q_cc (Kd.C_below HR0_0.out HB.out)); (case side2 => exact HC0_0.out); rintro e w' ⟨rfl, ⟨nd, rfl⟩⟩; (try first | exact ⟨rfl, _, World.drewN_drewN _ _ _⟩ | exact ⟨rfl, _, Eq.trans (World.drewN_drewN _ _ _) (congrArg (World.drewN _) (Nat.add_assoc _ _ _))⟩))); try go_wp2_with (first | (go_at_call 45; (with_reducible refine (semigroupref16_IsGroup.calls k _ _ l0_0 false _ ?side1 ?side2 A4.out).mono ?_); (case side1 => q_cc (Kd.C_below HR0_0.out HB.out)); (case side2 => exact HC0_0.out); rintro e w' ⟨rfl, ⟨nd, rfl⟩⟩; (try first | exact ⟨rfl, _, World.drewN_drewN _ _ _⟩ | exact ⟨rfl, _, Eq.trans (World.drewN_drewN _ _ _) (congrArg (World.drewN _) (Nat.add_assoc _ _ _))⟩))))
   go_meet
   case rel => exact ⟨_, (true), q_rs, H', ⟨by first | omega | exact Nat.le_refl _⟩, ⟨by q_bk; exact BK275.out⟩, ⟨by repeat (first | (with_reducible first | exact HB.out | apply below_alloc | apply pw_below_drewN | apply below_drew1 | refine below_set ?_ GE275.out) | exact HB.out)⟩⟩
 case rest =>
  clear HC2
  q_x c1 p2 c5 c6 c6b0 c8 c8b0 hcz10_0 hcz10_1 hcz10_2 hcz10_3 hcz10_4 hcz11_0 hcz11_1 hcz11_2 hcz11_3 hcz11_4 hcz7_0 hcz7_1 hcz7_2 hcz7_3 hcz7_4 hcz9_0 hcz9_1 hcz9_2 hcz9_3 hcz9_4 hfz10_0 hfz10_1 hfz10_2 hfz10_3 hfz10_4 hfz11_0 hfz11_1 hfz11_2 hfz11_3 hfz11_4 hfz7_0 hfz7_1 hfz7_2 hfz7_3 hfz7_4 hfz9_0 hfz9_1 hfz9_2 hfz9_3 hfz9_4
  obtain ⟨kq, x29_1, rfl, HA, HJ1, BK275, HB⟩ := hcut
  cases kq with
  | zero => exact absurd HA.out (by simp [semigroupref17_Validate.j0])
  | succ kj1 =>
   have H := HA.out
   clear HA
   simp only [semigroupref17_Validate.j0] at H
   by_cases c12 : x29_1 = true
   ·subst c12
    have H1 : (some 4) = some r := by rw [if_pos rfl] at H; exact H
    clear H
    have H := H1
    clear H1
    obtain rfl := Option.some.inj H
    go_wp2
    repeat (go_quiet (fail); try go_wp2)
    go_ret
    exact ⟨by first | rfl | q_em | q_en, by repeat (first | (with_reducible first | exact HB.out | apply below_alloc | apply pw_below_drewN | apply below_drew1 | refine below_set ?_ GE275.out) | exact HB.out)⟩
   ·replace c12 := Bool.eq_false_iff.mpr c12
    subst c12
    have H1 : (semigroupref17_Validate.l0 kj1 l0_3 (l0_3.length : Int) 0 l0_0 a0_1 a0_2 l0_3 a0_4) = some r := by rw [if_neg (show ¬ (false = true) by decide)] at H; exact H
    clear H
    have H := H1
    clear H1
    have H' := Aside0.mk H
    clear H
    have hcz13_0 : wc.cell? ⟨gb275, 0, none⟩ = some (.slice A0_0 l0_0.length c0_0) := (blk_cell BK275.out 0).trans rfl
    have hcz13_1 : wc.cell? ⟨gb275, 1, none⟩ = some (.int .i64 a0_1) := (blk_cell BK275.out 1).trans rfl
    have hcz13_2 : wc.cell? ⟨gb275, 2, none⟩ = some (.int .i64 a0_2) := (blk_cell BK275.out 2).trans rfl
    have hcz13_3 : wc.cell? ⟨gb275, 3, none⟩ = some (.slice A0_3 l0_3.length c0_3) := (blk_cell BK275.out 3).trans rfl
    have hcz13_4 : wc.cell? ⟨gb275, 4, none⟩ = some (.bool a0_4) := (blk_cell BK275.out 4).trans rfl
    have hfz13_0 := blk_frozen BK275.out 0
    have hfz13_1 := blk_frozen BK275.out 1
    have hfz13_2 := blk_frozen BK275.out 2
    have hfz13_3 := blk_frozen BK275.out 3
    have hfz13_4 := blk_frozen BK275.out 4
    go_wp2
    repeat (go_quiet (fail); try go_wp2)
    go_loopg [33] kj1 (fun kq v33 w' => ∃ (x33_2 : Int), v33 = .int .i64 x33_2 ∧ Aside0 (semigroupref17_Validate.l0 kq l0_3 (l0_3.length : Int) x33_2 l0_0 a0_1 a0_2 l0_3 a0_4 = some r) ∧ Aside0 (kq ≤ kj1) ∧ Aside0 (w'.heap[gb275]? = some (.cells #[(.slice A0_0 l0_0.length c0_0), .int .i64 a0_1, .int .i64 a0_2, (.slice A0_3 l0_3.length c0_3), .bool a0_4] 24 (0, 0))) ∧ Aside0 (Below w.heap.size w w'))
    case atStart => exact ⟨(0), q_rs, H', ⟨Nat.le_refl _⟩, ⟨by q_bk; exact BK275.out⟩, ⟨by repeat (first | (with_reducible first | exact HB.out | apply below_alloc | apply pw_below_drewN | apply below_drew1 | refine below_set ?_ GE275.out) | exact HB.out)⟩⟩
    case round =>
     clear H'
     q_x c1 p2 c5 c6 c6b0 c8 c8b0 c12 hcz10_0 hcz10_1 hcz10_2 hcz10_3 hcz10_4 hcz11_0 hcz11_1 hcz11_2 hcz11_3 hcz11_4 hcz13_0 hcz13_1 hcz13_2 hcz13_3 hcz13_4 hcz7_0 hcz7_1 hcz7_2 hcz7_3 hcz7_4 hcz9_0 hcz9_1 hcz9_2 hcz9_3 hcz9_4 hfz10_0 hfz10_1 hfz10_2 hfz10_3 hfz10_4 hfz11_0 hfz11_1 hfz11_2 hfz11_3 hfz11_4 hfz13_0 hfz13_1 hfz13_2 hfz13_3 hfz13_4 hfz7_0 hfz7_1 hfz7_2 hfz7_3 hfz7_4 hfz9_0 hfz9_1 hfz9_2 hfz9_3 hfz9_4 p2
     obtain ⟨x33_2, rfl, HA, HK2, BK275, HB⟩ := hrel
     cases gk with
     | zero => exact absurd HA.out (by simp [semigroupref17_Validate.l0])
     | succ k2 =>
      have H := HA.out
      clear HA
      simp only [semigroupref17_Validate.l0] at H
      by_cases c14 : x33_2 < (l0_3.length : Int)
      ·rw [if_pos c14] at H
       have c14b0 : decide (x33_2 < (l0_3.length : Int)) = true := decide_eq_true c14
       clear c14
       by_cases c15 : 0 ≤ x33_2
       ·rw [if_pos c15] at H
        have c15b0 : decide (0 ≤ x33_2) = true := decide_eq_true c15
        clear c15
        by_cases c16 : x33_2 < (l0_3.length : Int)
        ·rw [if_pos c16] at H
         have c16b0 : decide (x33_2 < (l0_3.length : Int)) = true := decide_eq_true c16
         clear c16
         by_cases c17 : ((rd_L1 l0_3 x33_2).length : Int) = a0_1
         ·rw [if_pos c17] at H
          have c17b0 : (((rd_L1 l0_3 x33_2).length : Int) == a0_1) = true := beq_iff_eq.mpr c17
          have c17b1 : (((rd_L1 l0_3 x33_2).length : Int) != a0_1) = false := bne_eq_false_iff_eq.mpr c17
          clear c17
          have H' := Aside0.mk H
          clear H
          have p277 : 0 ≤ (x33_2 : Int) := of_decide_eq_true q_as
          have q277 : x33_2 < (l0_3.length : Int) := of_decide_eq_true q_as
          obtain ⟨ad277, A277_0, c277_0, e277, hx277_0, hl277_0, hi277_0⟩ := at_L1 HR0_3.out x33_2 p277 q277
          cases e277
          replace hx277_0 := (HB.out.cell (World.block_lt_of_cell? w _ hx277_0)).trans hx277_0
          have HR277_0 := Aside0.mk hi277_0
          have HC277_0 := Aside0.mk hl277_0
          (try clear hi277_0); (try clear hl277_0)
          q_t p277 q277
          have hcz18_0 : wr.cell? ⟨gb275, 0, none⟩ = some (.slice A0_0 l0_0.length c0_0) := (blk_cell BK275.out 0).trans rfl
          have hcz18_1 : wr.cell? ⟨gb275, 1, none⟩ = some (.int .i64 a0_1) := (blk_cell BK275.out 1).trans rfl
          have hcz18_2 : wr.cell? ⟨gb275, 2, none⟩ = some (.int .i64 a0_2) := (blk_cell BK275.out 2).trans rfl
          have hcz18_3 : wr.cell? ⟨gb275, 3, none⟩ = some (.slice (some ad277) l0_3.length c0_3) := (blk_cell BK275.out 3).trans rfl
          have hcz18_4 : wr.cell? ⟨gb275, 4, none⟩ = some (.bool a0_4) := (blk_cell BK275.out 4).trans rfl
          have hfz18_0 := blk_frozen BK275.out 0
          have hfz18_1 := blk_frozen BK275.out 1
          have hfz18_2 := blk_frozen BK275.out 2
          have hfz18_3 := blk_frozen BK275.out 3
          have hfz18_4 := blk_frozen BK275.out 4
          go_wp2
          repeat (go_quiet (fail); try go_wp2)
          go_loopg [44] k2 (fun kq v44 w' => ∃ (x44_3 : Int), v44 = .int .i64 x44_3 ∧ Aside0 (semigroupref17_Validate.l1 kq l0_3 (l0_3.length : Int) x33_2 (rd_L1 l0_3 x33_2) ((rd_L1 l0_3 x33_2).length : Int) x44_3 l0_0 a0_1 a0_2 l0_3 a0_4 = some r) ∧ Aside0 (kq ≤ k2) ∧ Aside0 (w'.heap[gb275]? = some (.cells #[(.slice A0_0 l0_0.length c0_0), .int .i64 a0_1, .int .i64 a0_2, (.slice (some ad277) l0_3.length c0_3), .bool a0_4] 24 (0, 0))) ∧ Aside0 (Below w.heap.size w w'))
          case atStart => exact ⟨(0), q_rs, H', ⟨Nat.le_refl _⟩, ⟨by q_bk; exact BK275.out⟩, ⟨by repeat (first | (with_reducible first | exact HB.out | apply below_alloc | apply pw_below_drewN | apply below_drew1 | refine below_set ?_ GE275.out) | exact HB.out)⟩⟩
          case round =>
           clear H'
           q_x c1 c2 p2 q2 hx2 c5 c6 c6b0 c8 c8b0 c12 c14 c14b0 c15 c15b0 c16 c16b0 c17 c17b0 c17b1 hcz10_0 hcz10_1 hcz10_2 hcz10_3 hcz10_4 hcz11_0 hcz11_1 hcz11_2 hcz11_3 hcz11_4 hcz13_0 hcz13_1 hcz13_2 hcz13_3 hcz13_4 hcz18_0 hcz18_1 hcz18_2 hcz18_3 hcz18_4 hcz7_0 hcz7_1 hcz7_2 hcz7_3 hcz7_4 hcz9_0 hcz9_1 hcz9_2 hcz9_3 hcz9_4 hfz10_0 hfz10_1 hfz10_2 hfz10_3 hfz10_4 hfz11_0 hfz11_1 hfz11_2 hfz11_3 hfz11_4 hfz13_0 hfz13_1 hfz13_2 hfz13_3 hfz13_4 hfz18_0 hfz18_1 hfz18_2 hfz18_3 hfz18_4 hfz7_0 hfz7_1 hfz7_2 hfz7_3 hfz7_4 hfz9_0 hfz9_1 hfz9_2 hfz9_3 hfz9_4 hx277_0 p2 p277 q277
           obtain ⟨x44_3, rfl, HA, HK3, BK275, HB⟩ := hrel
           cases gk with
           | zero => exact absurd HA.out (by simp [semigroupref17_Validate.l1])
           | succ k3 =>
            have H := HA.out
            clear HA
            simp only [semigroupref17_Validate.l1] at H
            by_cases c19 : x44_3 < ((rd_L1 l0_3 x33_2).length : Int)
            ·rw [if_pos c19] at H
             have c19b0 : decide (x44_3 < ((rd_L1 l0_3 x33_2).length : Int)) = true := decide_eq_true c19
             clear c19
             by_cases c20 : 0 ≤ x44_3
             ·rw [if_pos c20] at H
              have c20b0 : decide (0 ≤ x44_3) = true := decide_eq_true c20
              clear c20
              by_cases c21 : x44_3 < ((rd_L1 l0_3 x33_2).length : Int)
              ·rw [if_pos c21] at H
               have c21b0 : decide (x44_3 < ((rd_L1 l0_3 x33_2).length : Int)) = true := decide_eq_true c21
               clear c21
               by_cases c22 : (rd (rd_L1 l0_3 x33_2) x44_3) < (-1)
               ·rw [if_pos c22] at H
                have c22b0 : decide ((rd (rd_L1 l0_3 x33_2) x44_3) < (-1)) = true := decide_eq_true c22
                clear c22
                obtain rfl := Option.some.inj H
                have p278 : 0 ≤ (x44_3 : Int) := of_decide_eq_true q_as
                have q278 : x44_3 < ((rd_L1 l0_3 x33_2).length : Int) := of_decide_eq_true q_as
                obtain ⟨ad278, e278, hx278_0⟩ := Kd.at_int HR277_0.out x44_3 p278 q278
                cases e278
                replace hx278_0 := (HB.out.cell (World.block_lt_of_cell? w _ hx278_0)).trans hx278_0
                q_t p278 q278
                go_wp2
                repeat (go_quiet (fail); try go_wp2)
                go_ret
                exact ⟨by first | rfl | q_em | q_en, by repeat (first | (with_reducible first | exact HB.out | apply below_alloc | apply pw_below_drewN | apply below_drew1 | refine below_set ?_ GE275.out) | exact HB.out)⟩
               ·rw [if_neg c22] at H
                have c22b0 : decide ((rd (rd_L1 l0_3 x33_2) x44_3) < (-1)) = false := decide_eq_false c22
                clear c22
                by_cases c23 : (rd (rd_L1 l0_3 x33_2) x44_3) ≥ (l0_0.length : Int)
                ·rw [if_pos c23] at H
                 have c23b0 : decide ((l0_0.length : Int) ≤ (rd (rd_L1 l0_3 x33_2) x44_3)) = true := decide_eq_true c23
                 clear c23
                 obtain rfl := Option.some.inj H
                 have p278 : 0 ≤ (x44_3 : Int) := of_decide_eq_true q_as
                 have q278 : x44_3 < ((rd_L1 l0_3 x33_2).length : Int) := of_decide_eq_true q_as
                 obtain ⟨ad278, e278, hx278_0⟩ := Kd.at_int HR277_0.out x44_3 p278 q278
                 cases e278
                 replace hx278_0 := (HB.out.cell (World.block_lt_of_cell? w _ hx278_0)).trans hx278_0
                 q_t p278 q278
                 have hcz24_0 : wr.cell? ⟨gb275, 0, none⟩ = some (.slice A0_0 l0_0.length c0_0) := (blk_cell BK275.out 0).trans rfl
                 have hcz24_1 : wr.cell? ⟨gb275, 1, none⟩ = some (.int .i64 a0_1) := (blk_cell BK275.out 1).trans rfl
                 have hcz24_2 : wr.cell? ⟨gb275, 2, none⟩ = some (.int .i64 a0_2) := (blk_cell BK275.out 2).trans rfl
                 have hcz24_3 : wr.cell? ⟨gb275, 3, none⟩ = some (.slice (some ad277) l0_3.length c0_3) := (blk_cell BK275.out 3).trans rfl
                 have hcz24_4 : wr.cell? ⟨gb275, 4, none⟩ = some (.bool a0_4) := (blk_cell BK275.out 4).trans rfl
                 have hfz24_0 := blk_frozen BK275.out 0
                 have hfz24_1 := blk_frozen BK275.out 1
                 have hfz24_2 := blk_frozen BK275.out 2
                 have hfz24_3 := blk_frozen BK275.out 3
                 have hfz24_4 := blk_frozen BK275.out 4
                 go_wp2
                 repeat (go_quiet (fail); try go_wp2)
                 go_ret
                 exact ⟨by first | rfl | q_em | q_en, by repeat (first | (with_reducible first | exact HB.out | apply below_alloc | apply pw_below_drewN | apply below_drew1 | refine below_set ?_ GE275.out) | exact HB.out)⟩
                ·rw [if_neg c23] at H
                 have c23b0 : decide ((l0_0.length : Int) ≤ (rd (rd_L1 l0_3 x33_2) x44_3)) = false := decide_eq_false c23
                 clear c23
                 by_cases c25 : (rd (rd_L1 l0_3 x33_2) x44_3) < 0
                 ·rw [if_pos c25] at H
                  have c25b0 : decide ((rd (rd_L1 l0_3 x33_2) x44_3) < 0) = true := decide_eq_true c25
                  clear c25
                  by_cases c26 : a0_4 = true
                  ·subst c26
                   have H1 : (semigroupref17_Validate.l1 k3 l0_3 (l0_3.length : Int) x33_2 (rd_L1 l0_3 x33_2) ((rd_L1 l0_3 x33_2).length : Int) (wrap64 (x44_3 + 1)) l0_0 a0_1 a0_2 l0_3 true) = some r := by rw [if_pos rfl] at H; exact H
                   clear H
                   have H := H1
                   clear H1
                   have H' := Aside0.mk H
                   clear H
                   have p278 : 0 ≤ (x44_3 : Int) := of_decide_eq_true q_as
                   have q278 : x44_3 < ((rd_L1 l0_3 x33_2).length : Int) := of_decide_eq_true q_as
                   obtain ⟨ad278, e278, hx278_0⟩ := Kd.at_int HR277_0.out x44_3 p278 q278
                   cases e278
                   replace hx278_0 := (HB.out.cell (World.block_lt_of_cell? w _ hx278_0)).trans hx278_0
                   q_t p278 q278
                   have hcz27_0 : wr.cell? ⟨gb275, 0, none⟩ = some (.slice A0_0 l0_0.length c0_0) := (blk_cell BK275.out 0).trans rfl
                   have hcz27_1 : wr.cell? ⟨gb275, 1, none⟩ = some (.int .i64 a0_1) := (blk_cell BK275.out 1).trans rfl
                   have hcz27_2 : wr.cell? ⟨gb275, 2, none⟩ = some (.int .i64 a0_2) := (blk_cell BK275.out 2).trans rfl
                   have hcz27_3 : wr.cell? ⟨gb275, 3, none⟩ = some (.slice (some ad277) l0_3.length c0_3) := (blk_cell BK275.out 3).trans rfl
                   have hcz27_4 : wr.cell? ⟨gb275, 4, none⟩ = some (.bool true) := (blk_cell BK275.out 4).trans rfl
                   have hfz27_0 := blk_frozen BK275.out 0
                   have hfz27_1 := blk_frozen BK275.out 1
                   have hfz27_2 := blk_frozen BK275.out 2
                   have hfz27_3 := blk_frozen BK275.out 3
                   have hfz27_4 := blk_frozen BK275.out 4
                   go_wp2
                   repeat (go_quiet (fail); try go_wp2)
                   go_roundg k3
                   case measure => have := HJ1.out; have := HK2.out; have := HK3.out; omega
                   case rel => exact ⟨(wrap64 (x44_3 + 1)), q_rs, H', ⟨by have := HJ1.out; have := HK2.out; have := HK3.out; omega⟩, ⟨by q_bk; exact BK275.out⟩, ⟨by repeat (first | (with_reducible first | exact HB.out | apply below_alloc | apply pw_below_drewN | apply below_drew1 | refine below_set ?_ GE275.out) | exact HB.out)⟩⟩
                  ·replace c26 := Bool.eq_false_iff.mpr c26
                   subst c26
                   have H1 : (some 4) = some r := by rw [if_neg (show ¬ (false = true) by decide)] at H; exact H
                   clear H
                   have H := H1
                   clear H1
                   obtain rfl := Option.some.inj H
                   have p278 : 0 ≤ (x44_3 : Int) := of_decide_eq_true q_as
                   have q278 : x44_3 < ((rd_L1 l0_3 x33_2).length : Int) := of_decide_eq_true q_as
                   obtain ⟨ad278, e278, hx278_0⟩ := Kd.at_int HR277_0.out x44_3 p278 q278
                   cases e278
                   replace hx278_0 := (HB.out.cell (World.block_lt_of_cell? w _ hx278_0)).trans hx278_0
                   q_t p278 q278
                   have hcz28_0 : wr.cell? ⟨gb275, 0, none⟩ = some (.slice A0_0 l0_0.length c0_0) := (blk_cell BK275.out 0).trans rfl
                   have hcz28_1 : wr.cell? ⟨gb275, 1, none⟩ = some (.int .i64 a0_1) := (blk_cell BK275.out 1).trans rfl
                   have hcz28_2 : wr.cell? ⟨gb275, 2, none⟩ = some (.int .i64 a0_2) := (blk_cell BK275.out 2).trans rfl
                   have hcz28_3 : wr.cell? ⟨gb275, 3, none⟩ = some (.slice (some ad277) l0_3.length c0_3) := (blk_cell BK275.out 3).trans rfl
                   have hcz28_4 : wr.cell? ⟨gb275, 4, none⟩ = some (.bool false) := (blk_cell BK275.out 4).trans rfl
                   have hfz28_0 := blk_frozen BK275.out 0
                   have hfz28_1 := blk_frozen BK275.out 1
                   have hfz28_2 := blk_frozen BK275.out 2
                   have hfz28_3 := blk_frozen BK275.out 3
                   have hfz28_4 := blk_frozen BK275.out 4
                   go_wp2
                   repeat (go_quiet (fail); try go_wp2)
                   go_ret
                   exact ⟨by first | rfl | q_em | q_en, by repeat (first | (with_reducible first | exact HB.out | apply below_alloc | apply pw_below_drewN | apply below_drew1 | refine below_set ?_ GE275.out) | exact HB.out)⟩
                 ·rw [if_neg c25] at H
                  have c25b0 : decide ((rd (rd_L1 l0_3 x33_2) x44_3) < 0) = false := decide_eq_false c25
                  clear c25
                  have H' := Aside0.mk H
                  clear H
                  have p278 : 0 ≤ (x44_3 : Int) := of_decide_eq_true q_as
                  have q278 : x44_3 < ((rd_L1 l0_3 x33_2).length : Int) := of_decide_eq_true q_as
                  obtain ⟨ad278, e278, hx278_0⟩ := Kd.at_int HR277_0.out x44_3 p278 q278
                  cases e278
                  replace hx278_0 := (HB.out.cell (World.block_lt_of_cell? w _ hx278_0)).trans hx278_0
                  q_t p278 q278
                  have hcz29_0 : wr.cell? ⟨gb275, 0, none⟩ = some (.slice A0_0 l0_0.length c0_0) := (blk_cell BK275.out 0).trans rfl
                  have hcz29_1 : wr.cell? ⟨gb275, 1, none⟩ = some (.int .i64 a0_1) := (blk_cell BK275.out 1).trans rfl
                  have hcz29_2 : wr.cell? ⟨gb275, 2, none⟩ = some (.int .i64 a0_2) := (blk_cell BK275.out 2).trans rfl
                  have hcz29_3 : wr.cell? ⟨gb275, 3, none⟩ = some (.slice (some ad277) l0_3.length c0_3) := (blk_cell BK275.out 3).trans rfl
                  have hcz29_4 : wr.cell? ⟨gb275, 4, none⟩ = some (.bool a0_4) := (blk_cell BK275.out 4).trans rfl
                  have hfz29_0 := blk_frozen BK275.out 0
                  have hfz29_1 := blk_frozen BK275.out 1
                  have hfz29_2 := blk_frozen BK275.out 2
                  have hfz29_3 := blk_frozen BK275.out 3
                  have hfz29_4 := blk_frozen BK275.out 4
                  go_wp2
                  repeat (go_quiet (fail); try go_wp2)
                  go_roundg k3
                  case measure => have := HJ1.out; have := HK2.out; have := HK3.out; omega
                  case rel => exact ⟨(wrap64 (x44_3 + 1)), q_rs, H', ⟨by have := HJ1.out; have := HK2.out; have := HK3.out; omega⟩, ⟨by q_bk; exact BK275.out⟩, ⟨by repeat (first | (with_reducible first | exact HB.out | apply below_alloc | apply pw_below_drewN | apply below_drew1 | refine below_set ?_ GE275.out) | exact HB.out)⟩⟩
              ·rw [if_neg c21] at H
               exact absurd H (by simp)
             ·rw [if_neg c20] at H
              exact absurd H (by simp)
            ·rw [if_neg c19] at H
             have c19b0 : decide (x44_3 < ((rd_L1 l0_3 x33_2).length : Int)) = false := decide_eq_false c19
             clear c19
             have H' := Aside0.mk H
             clear H
             go_wp2
             repeat (go_quiet (fail); try go_wp2)
             go_roundg k3
             case measure => have := HJ1.out; have := HK2.out; have := HK3.out; omega
             case rel => exact ⟨(wrap64 (x33_2 + 1)), q_rs, H', ⟨by have := HJ1.out; have := HK2.out; have := HK3.out; omega⟩, ⟨by q_bk; exact BK275.out⟩, ⟨by repeat (first | (with_reducible first | exact HB.out | apply below_alloc | apply pw_below_drewN | apply below_drew1 | refine below_set ?_ GE275.out) | exact HB.out)⟩⟩
         ·rw [if_neg c17] at H
          have c17b0 : (((rd_L1 l0_3 x33_2).length : Int) == a0_1) = false := beq_eq_false_iff_ne.mpr c17
          have c17b1 : (((rd_L1 l0_3 x33_2).length : Int) != a0_1) = true := bne_iff_ne.mpr c17
          obtain rfl := Option.some.inj H
          have p277 : 0 ≤ (x33_2 : Int) := of_decide_eq_true q_as
          have q277 : x33_2 < (l0_3.length : Int) := of_decide_eq_true q_as
          obtain ⟨ad277, A277_0, c277_0, e277, hx277_0, hl277_0, hi277_0⟩ := at_L1 HR0_3.out x33_2 p277 q277
          cases e277
          replace hx277_0 := (HB.out.cell (World.block_lt_of_cell? w _ hx277_0)).trans hx277_0
          have HR277_0 := Aside0.mk hi277_0
          have HC277_0 := Aside0.mk hl277_0
          (try clear hi277_0); (try clear hl277_0)
          q_t p277 q277
          have hcz30_0 : wr.cell? ⟨gb275, 0, none⟩ = some (.slice A0_0 l0_0.length c0_0) := (blk_cell BK275.out 0).trans rfl
          have hcz30_1 : wr.cell? ⟨gb275, 1, none⟩ = some (.int .i64 a0_1) := (blk_cell BK275.out 1).trans rfl
          have hcz30_2 : wr.cell? ⟨gb275, 2, none⟩ = some (.int .i64 a0_2) := (blk_cell BK275.out 2).trans rfl
          have hcz30_3 : wr.cell? ⟨gb275, 3, none⟩ = some (.slice (some ad277) l0_3.length c0_3) := (blk_cell BK275.out 3).trans rfl
          have hcz30_4 : wr.cell? ⟨gb275, 4, none⟩ = some (.bool a0_4) := (blk_cell BK275.out 4).trans rfl
          have hfz30_0 := blk_frozen BK275.out 0
          have hfz30_1 := blk_frozen BK275.out 1
          have hfz30_2 := blk_frozen BK275.out 2
          have hfz30_3 := blk_frozen BK275.out 3
          have hfz30_4 := blk_frozen BK275.out 4
          go_wp2
          repeat (go_quiet (fail); try go_wp2)
          go_ret
          exact ⟨by first | rfl | q_em | q_en, by repeat (first | (with_reducible first | exact HB.out | apply below_alloc | apply pw_below_drewN | apply below_drew1 | refine below_set ?_ GE275.out) | exact HB.out)⟩
        ·rw [if_neg c16] at H
         exact absurd H (by simp)
       ·rw [if_neg c15] at H
        exact absurd H (by simp)
      ·rw [if_neg c14] at H
       have c14b0 : decide (x33_2 < (l0_3.length : Int)) = false := decide_eq_false c14
       clear c14
       by_cases c31 : a0_4 = true
       ·subst c31
        have H1 : (if (l0_0.length : Int) = 0 then (none) else (if a0_1 > (wrap64 ((400 - 1) / (l0_0.length : Int))) then (some 3) else (if a0_2 = 0 then (none) else (if (wrap64 (a0_1 * (l0_0.length : Int))) > (wrap64 ((400 - 1) / a0_2)) then (some 3) else (some 0))))) = some r := by rw [if_pos rfl] at H; exact H
        clear H
        have H := H1
        clear H1
        by_cases c32 : (l0_0.length : Int) = 0
        ·rw [if_pos c32] at H
         exact absurd H (by simp)
        ·rw [if_neg c32] at H
         have c32b0 : ((l0_0.length : Int) == 0) = false := beq_eq_false_iff_ne.mpr c32
         have c32b1 : ((l0_0.length : Int) != 0) = true := bne_iff_ne.mpr c32
         have c32b2 : ¬ (l0_0 = []) := fun h_ => c32 (by rw [h_]; rfl)
         by_cases c33 : a0_1 > (wrap64 ((400 - 1) / (l0_0.length : Int)))
         ·rw [if_pos c33] at H
          have c33b0 : decide ((wrap64 ((400 - 1) / (l0_0.length : Int))) < a0_1) = true := decide_eq_true c33
          (try (obtain ⟨jqc33b0_0, hjqc33b0_0⟩ : ∃ j_ : Int, IntKind.i64.wrap (Int.tdiv 399 (l0_0.length : Int)) = j_ := ⟨_, rfl⟩))
          (try (have c33b0n := c33b0; simp only [show (400 - 1 : Int) = 399 from rfl, ← Int.tdiv_eq_ediv_of_nonneg (show (0 : Int) ≤ 399 by decide), ← Int.tdiv_eq_ediv_of_nonneg (show (0 : Int) ≤ 400 by decide), ← i64_w, hjqc33b0_0] at c33b0n; clear c33b0))
          clear c33
          obtain rfl := Option.some.inj H
          have hcz34_0 : wr.cell? ⟨gb275, 0, none⟩ = some (.slice A0_0 l0_0.length c0_0) := (blk_cell BK275.out 0).trans rfl
          have hcz34_1 : wr.cell? ⟨gb275, 1, none⟩ = some (.int .i64 a0_1) := (blk_cell BK275.out 1).trans rfl
          have hcz34_2 : wr.cell? ⟨gb275, 2, none⟩ = some (.int .i64 a0_2) := (blk_cell BK275.out 2).trans rfl
          have hcz34_3 : wr.cell? ⟨gb275, 3, none⟩ = some (.slice A0_3 l0_3.length c0_3) := (blk_cell BK275.out 3).trans rfl
          have hcz34_4 : wr.cell? ⟨gb275, 4, none⟩ = some (.bool true) := (blk_cell BK275.out 4).trans rfl
          have hfz34_0 := blk_frozen BK275.out 0
          have hfz34_1 := blk_frozen BK275.out 1
          have hfz34_2 := blk_frozen BK275.out 2
          have hfz34_3 := blk_frozen BK275.out 3
          have hfz34_4 := blk_frozen BK275.out 4
          go_wp2
          repeat (go_quiet (fail); try go_wp2)
          go_ret
          exact ⟨by first | rfl | q_em | q_en, by repeat (first | (with_reducible first | exact HB.out | apply below_alloc | apply pw_below_drewN | apply below_drew1 | refine below_set ?_ GE275.out) | exact HB.out)⟩
         ·rw [if_neg c33] at H
          have c33b0 : decide ((wrap64 ((400 - 1) / (l0_0.length : Int))) < a0_1) = false := decide_eq_false c33
          (try (obtain ⟨jqc33b0_0, hjqc33b0_0⟩ : ∃ j_ : Int, IntKind.i64.wrap (Int.tdiv 399 (l0_0.length : Int)) = j_ := ⟨_, rfl⟩))
          (try (have c33b0n := c33b0; simp only [show (400 - 1 : Int) = 399 from rfl, ← Int.tdiv_eq_ediv_of_nonneg (show (0 : Int) ≤ 399 by decide), ← Int.tdiv_eq_ediv_of_nonneg (show (0 : Int) ≤ 400 by decide), ← i64_w, hjqc33b0_0] at c33b0n; clear c33b0))
          clear c33
          by_cases c35 : a0_2 = 0
          ·rw [if_pos c35] at H
           exact absurd H (by simp)
          ·rw [if_neg c35] at H
           have c35b0 : (a0_2 == 0) = false := beq_eq_false_iff_ne.mpr c35
           have c35b1 : (a0_2 != 0) = true := bne_iff_ne.mpr c35
           by_cases c36 : (wrap64 (a0_1 * (l0_0.length : Int))) > (wrap64 ((400 - 1) / a0_2))
           ·rw [if_pos c36] at H
            have c36b0 : decide ((wrap64 ((400 - 1) / a0_2)) < (wrap64 (a0_1 * (l0_0.length : Int)))) = true := decide_eq_true c36
            (try (obtain ⟨jqc36b0_0, hjqc36b0_0⟩ : ∃ j_ : Int, IntKind.i64.wrap (Int.tdiv 399 a0_2) = j_ := ⟨_, rfl⟩))
            (try (obtain ⟨jqc36b0_1, hjqc36b0_1⟩ : ∃ j_ : Int, IntKind.i64.wrap (a0_1 * (l0_0.length : Int)) = j_ := ⟨_, rfl⟩))
            (try (have c36b0n := c36b0; simp only [show (400 - 1 : Int) = 399 from rfl, ← Int.tdiv_eq_ediv_of_nonneg (show (0 : Int) ≤ 399 by decide), ← Int.tdiv_eq_ediv_of_nonneg (show (0 : Int) ≤ 400 by decide), ← i64_w, hjqc36b0_0, hjqc36b0_1] at c36b0n; clear c36b0))
            clear c36
            obtain rfl := Option.some.inj H
            have hcz37_0 : wr.cell? ⟨gb275, 0, none⟩ = some (.slice A0_0 l0_0.length c0_0) := (blk_cell BK275.out 0).trans rfl
            have hcz37_1 : wr.cell? ⟨gb275, 1, none⟩ = some (.int .i64 a0_1) := (blk_cell BK275.out 1).trans rfl
            have hcz37_2 : wr.cell? ⟨gb275, 2, none⟩ = some (.int .i64 a0_2) := (blk_cell BK275.out 2).trans rfl
            have hcz37_3 : wr.cell? ⟨gb275, 3, none⟩ = some (.slice A0_3 l0_3.length c0_3) := (blk_cell BK275.out 3).trans rfl
            have hcz37_4 : wr.cell? ⟨gb275, 4, none⟩ = some (.bool true) := (blk_cell BK275.out 4).trans rfl
            have hfz37_0 := blk_frozen BK275.out 0
            have hfz37_1 := blk_frozen BK275.out 1
            have hfz37_2 := blk_frozen BK275.out 2
            have hfz37_3 := blk_frozen BK275.out 3
            have hfz37_4 := blk_frozen BK275.out 4
            go_wp2
            repeat (go_quiet (fail); try go_wp2)
            go_ret
            exact ⟨by first | rfl | q_em | q_en, by repeat (first | (with_reducible first | exact HB.out | apply below_alloc | apply pw_below_drewN | apply below_drew1 | refine below_set ?_ GE275.out) | exact HB.out)⟩
           ·rw [if_neg c36] at H
            have c36b0 : decide ((wrap64 ((400 - 1) / a0_2)) < (wrap64 (a0_1 * (l0_0.length : Int)))) = false := decide_eq_false c36
            (try (obtain ⟨jqc36b0_0, hjqc36b0_0⟩ : ∃ j_ : Int, IntKind.i64.wrap (Int.tdiv 399 a0_2) = j_ := ⟨_, rfl⟩))
            (try (obtain ⟨jqc36b0_1, hjqc36b0_1⟩ : ∃ j_ : Int, IntKind.i64.wrap (a0_1 * (l0_0.length : Int)) = j_ := ⟨_, rfl⟩))
            (try (have c36b0n := c36b0; simp only [show (400 - 1 : Int) = 399 from rfl, ← Int.tdiv_eq_ediv_of_nonneg (show (0 : Int) ≤ 399 by decide), ← Int.tdiv_eq_ediv_of_nonneg (show (0 : Int) ≤ 400 by decide), ← i64_w, hjqc36b0_0, hjqc36b0_1] at c36b0n; clear c36b0))
            clear c36
            obtain rfl := Option.some.inj H
            have hcz38_0 : wr.cell? ⟨gb275, 0, none⟩ = some (.slice A0_0 l0_0.length c0_0) := (blk_cell BK275.out 0).trans rfl
            have hcz38_1 : wr.cell? ⟨gb275, 1, none⟩ = some (.int .i64 a0_1) := (blk_cell BK275.out 1).trans rfl
            have hcz38_2 : wr.cell? ⟨gb275, 2, none⟩ = some (.int .i64 a0_2) := (blk_cell BK275.out 2).trans rfl
            have hcz38_3 : wr.cell? ⟨gb275, 3, none⟩ = some (.slice A0_3 l0_3.length c0_3) := (blk_cell BK275.out 3).trans rfl
            have hcz38_4 : wr.cell? ⟨gb275, 4, none⟩ = some (.bool true) := (blk_cell BK275.out 4).trans rfl
            have hfz38_0 := blk_frozen BK275.out 0
            have hfz38_1 := blk_frozen BK275.out 1
            have hfz38_2 := blk_frozen BK275.out 2
            have hfz38_3 := blk_frozen BK275.out 3
            have hfz38_4 := blk_frozen BK275.out 4
            go_wp2
            repeat (go_quiet (fail); try go_wp2)
            go_ret
            exact ⟨by first | rfl | q_em | q_en, by repeat (first | (with_reducible first | exact HB.out | apply below_alloc | apply pw_below_drewN | apply below_drew1 | refine below_set ?_ GE275.out) | exact HB.out)⟩
       ·replace c31 := Bool.eq_false_iff.mpr c31
        subst c31
        have H1 : (if (l0_0.length : Int) = 0 then (none) else (if a0_1 > (wrap64 ((400 : Int) / (l0_0.length : Int))) then (some 3) else (if a0_2 = 0 then (none) else (if (wrap64 (a0_1 * (l0_0.length : Int))) > (wrap64 ((400 : Int) / a0_2)) then (some 3) else (some 0))))) = some r := by rw [if_neg (show ¬ (false = true) by decide)] at H; exact H
        clear H
        have H := H1
        clear H1
        by_cases c39 : (l0_0.length : Int) = 0
        ·rw [if_pos c39] at H
         exact absurd H (by simp)
        ·rw [if_neg c39] at H
         have c39b0 : ((l0_0.length : Int) == 0) = false := beq_eq_false_iff_ne.mpr c39
         have c39b1 : ((l0_0.length : Int) != 0) = true := bne_iff_ne.mpr c39
         have c39b2 : ¬ (l0_0 = []) := fun h_ => c39 (by rw [h_]; rfl)
         by_cases c40 : a0_1 > (wrap64 ((400 : Int) / (l0_0.length : Int)))
         ·rw [if_pos c40] at H
          have c40b0 : decide ((wrap64 ((400 : Int) / (l0_0.length : Int))) < a0_1) = true := decide_eq_true c40
          (try (obtain ⟨jqc40b0_0, hjqc40b0_0⟩ : ∃ j_ : Int, IntKind.i64.wrap (Int.tdiv 400 (l0_0.length : Int)) = j_ := ⟨_, rfl⟩))
          (try (have c40b0n := c40b0; simp only [show (400 - 1 : Int) = 399 from rfl, ← Int.tdiv_eq_ediv_of_nonneg (show (0 : Int) ≤ 399 by decide), ← Int.tdiv_eq_ediv_of_nonneg (show (0 : Int) ≤ 400 by decide), ← i64_w, hjqc40b0_0] at c40b0n; clear c40b0))
          clear c40
          obtain rfl := Option.some.inj H
          have hcz41_0 : wr.cell? ⟨gb275, 0, none⟩ = some (.slice A0_0 l0_0.length c0_0) := (blk_cell BK275.out 0).trans rfl
          have hcz41_1 : wr.cell? ⟨gb275, 1, none⟩ = some (.int .i64 a0_1) := (blk_cell BK275.out 1).trans rfl
          have hcz41_2 : wr.cell? ⟨gb275, 2, none⟩ = some (.int .i64 a0_2) := (blk_cell BK275.out 2).trans rfl
          have hcz41_3 : wr.cell? ⟨gb275, 3, none⟩ = some (.slice A0_3 l0_3.length c0_3) := (blk_cell BK275.out 3).trans rfl
          have hcz41_4 : wr.cell? ⟨gb275, 4, none⟩ = some (.bool false) := (blk_cell BK275.out 4).trans rfl
          have hfz41_0 := blk_frozen BK275.out 0
          have hfz41_1 := blk_frozen BK275.out 1
          have hfz41_2 := blk_frozen BK275.out 2
          have hfz41_3 := blk_frozen BK275.out 3
          have hfz41_4 := blk_frozen BK275.out 4
          go_wp2
          repeat (go_quiet (fail); try go_wp2)
          go_ret
          exact ⟨by first | rfl | q_em | q_en, by repeat (first | (with_reducible first | exact HB.out | apply below_alloc | apply pw_below_drewN | apply below_drew1 | refine below_set ?_ GE275.out) | exact HB.out)⟩
         ·rw [if_neg c40] at H
          have c40b0 : decide ((wrap64 ((400 : Int) / (l0_0.length : Int))) < a0_1) = false := decide_eq_false c40
          (try (obtain ⟨jqc40b0_0, hjqc40b0_0⟩ : ∃ j_ : Int, IntKind.i64.wrap (Int.tdiv 400 (l0_0.length : Int)) = j_ := ⟨_, rfl⟩))
          (try (have c40b0n := c40b0; simp only [show (400 - 1 : Int) = 399 from rfl, ← Int.tdiv_eq_ediv_of_nonneg (show (0 : Int) ≤ 399 by decide), ← Int.tdiv_eq_ediv_of_nonneg (show (0 : Int) ≤ 400 by decide), ← i64_w, hjqc40b0_0] at c40b0n; clear c40b0))
          clear c40
          by_cases c42 : a0_2 = 0
          ·rw [if_pos c42] at H
           exact absurd H (by simp)
          ·rw [if_neg c42] at H
           have c42b0 : (a0_2 == 0) = false := beq_eq_false_iff_ne.mpr c42
           have c42b1 : (a0_2 != 0) = true := bne_iff_ne.mpr c42
           by_cases c43 : (wrap64 (a0_1 * (l0_0.length : Int))) > (wrap64 ((400 : Int) / a0_2))
           ·rw [if_pos c43] at H
            have c43b0 : decide ((wrap64 ((400 : Int) / a0_2)) < (wrap64 (a0_1 * (l0_0.length : Int)))) = true := decide_eq_true c43
            (try (obtain ⟨jqc43b0_0, hjqc43b0_0⟩ : ∃ j_ : Int, IntKind.i64.wrap (Int.tdiv 400 a0_2) = j_ := ⟨_, rfl⟩))
            (try (obtain ⟨jqc43b0_1, hjqc43b0_1⟩ : ∃ j_ : Int, IntKind.i64.wrap (a0_1 * (l0_0.length : Int)) = j_ := ⟨_, rfl⟩))
            (try (have c43b0n := c43b0; simp only [show (400 - 1 : Int) = 399 from rfl, ← Int.tdiv_eq_ediv_of_nonneg (show (0 : Int) ≤ 399 by decide), ← Int.tdiv_eq_ediv_of_nonneg (show (0 : Int) ≤ 400 by decide), ← i64_w, hjqc43b0_0, hjqc43b0_1] at c43b0n; clear c43b0))
            clear c43
            obtain rfl := Option.some.inj H
            have hcz44_0 : wr.cell? ⟨gb275, 0, none⟩ = some (.slice A0_0 l0_0.length c0_0) := (blk_cell BK275.out 0).trans rfl
            have hcz44_1 : wr.cell? ⟨gb275, 1, none⟩ = some (.int .i64 a0_1) := (blk_cell BK275.out 1).trans rfl
            have hcz44_2 : wr.cell? ⟨gb275, 2, none⟩ = some (.int .i64 a0_2) := (blk_cell BK275.out 2).trans rfl
            have hcz44_3 : wr.cell? ⟨gb275, 3, none⟩ = some (.slice A0_3 l0_3.length c0_3) := (blk_cell BK275.out 3).trans rfl
            have hcz44_4 : wr.cell? ⟨gb275, 4, none⟩ = some (.bool false) := (blk_cell BK275.out 4).trans rfl
            have hfz44_0 := blk_frozen BK275.out 0
            have hfz44_1 := blk_frozen BK275.out 1
            have hfz44_2 := blk_frozen BK275.out 2
            have hfz44_3 := blk_frozen BK275.out 3
            have hfz44_4 := blk_frozen BK275.out 4
            go_wp2
            repeat (go_quiet (fail); try go_wp2)
            go_ret
            exact ⟨by first | rfl | q_em | q_en, by repeat (first | (with_reducible first | exact HB.out | apply below_alloc | apply pw_below_drewN | apply below_drew1 | refine below_set ?_ GE275.out) | exact HB.out)⟩
           ·rw [if_neg c43] at H
            have c43b0 : decide ((wrap64 ((400 : Int) / a0_2)) < (wrap64 (a0_1 * (l0_0.length : Int)))) = false := decide_eq_false c43
            (try (obtain ⟨jqc43b0_0, hjqc43b0_0⟩ : ∃ j_ : Int, IntKind.i64.wrap (Int.tdiv 400 a0_2) = j_ := ⟨_, rfl⟩))
            (try (obtain ⟨jqc43b0_1, hjqc43b0_1⟩ : ∃ j_ : Int, IntKind.i64.wrap (a0_1 * (l0_0.length : Int)) = j_ := ⟨_, rfl⟩))
            (try (have c43b0n := c43b0; simp only [show (400 - 1 : Int) = 399 from rfl, ← Int.tdiv_eq_ediv_of_nonneg (show (0 : Int) ≤ 399 by decide), ← Int.tdiv_eq_ediv_of_nonneg (show (0 : Int) ≤ 400 by decide), ← i64_w, hjqc43b0_0, hjqc43b0_1] at c43b0n; clear c43b0))
            clear c43
            obtain rfl := Option.some.inj H
            have hcz45_0 : wr.cell? ⟨gb275, 0, none⟩ = some (.slice A0_0 l0_0.length c0_0) := (blk_cell BK275.out 0).trans rfl
            have hcz45_1 : wr.cell? ⟨gb275, 1, none⟩ = some (.int .i64 a0_1) := (blk_cell BK275.out 1).trans rfl
            have hcz45_2 : wr.cell? ⟨gb275, 2, none⟩ = some (.int .i64 a0_2) := (blk_cell BK275.out 2).trans rfl
            have hcz45_3 : wr.cell? ⟨gb275, 3, none⟩ = some (.slice A0_3 l0_3.length c0_3) := (blk_cell BK275.out 3).trans rfl
            have hcz45_4 : wr.cell? ⟨gb275, 4, none⟩ = some (.bool false) := (blk_cell BK275.out 4).trans rfl
            have hfz45_0 := blk_frozen BK275.out 0
            have hfz45_1 := blk_frozen BK275.out 1
            have hfz45_2 := blk_frozen BK275.out 2
            have hfz45_3 := blk_frozen BK275.out 3
            have hfz45_4 := blk_frozen BK275.out 4
            go_wp2
            repeat (go_quiet (fail); try go_wp2)
            go_ret
            exact ⟨by first | rfl | q_em | q_en, by repeat (first | (with_reducible first | exact HB.out | apply below_alloc | apply pw_below_drewN | apply below_drew1 | refine below_set ?_ GE275.out) | exact HB.out)⟩

/-! ### semigroupref17_base: function 46 -/
def semigroupref17_base.f (l0_0 : List (List Int)) (a0_1 : Int) (a0_2 : Int) (l0_3 : List (List Int)) (a0_4 : Bool) : Option (Int) := if a0_4 = true then (some 1) else (some 0)
set_option maxHeartbeats 8000000 in
set_option maxRecDepth 100000 in
theorem semigroupref17_base.calls (A0_0 : Option Addr) (c0_0 : Nat) (l0_0 : List (List Int)) (a0_1 : Int) (a0_2 : Int) (A0_3 : Option Addr) (c0_3 : Nat) (l0_3 : List (List Int)) (a0_4 : Bool) (r : Int) (w : World) (hr0_0 : Kd.C (Kd.slice 3 (Kd.int .i64)) w A0_0 l0_0.length l0_0) (hc0_0 : l0_0.length ≤ c0_0) (hr0_3 : Kd.C (Kd.slice 3 (Kd.int .i64)) w A0_3 l0_3.length l0_3) (hc0_3 : l0_3.length ≤ c0_3) (h : semigroupref17_base.f l0_0 a0_1 a0_2 l0_3 a0_4 = some r) :
  Calls Try.prog 46 #[.agg #[.slice A0_0 l0_0.length c0_0, .int .i64 a0_1, .int .i64 a0_2, .slice A0_3 l0_3.length c0_3, .bool a0_4]] w fun e w' => e = .returned (.int .i64 r) ∧ Below w.heap.size w w' := by
 have hu24 := Try.underlying24
 have HR0_0 := Aside0.mk hr0_0
 have HC0_0 := Aside0.mk hc0_0
 (try clear hr0_0); (try clear hc0_0)
 have HR0_3 := Aside0.mk hr0_3
 have HC0_3 := Aside0.mk hc0_3
 (try clear hr0_3); (try clear hc0_3)
 have HB := Aside0.mk (Below.refl w.heap.size w)
 have H : (if a0_4 = true then (some 1) else (some 0)) = some r := h
 clear h
 by_cases c2 : a0_4 = true
 ·subst c2
  have H1 : (some 1) = some r := by rw [if_pos rfl] at H; exact H
  clear H
  have H := H1
  clear H1
  obtain rfl := Option.some.inj H
  go_enter Try.func46, Try.ntmps46
  go_wp2_with (first | ((with_reducible refine gate_dst (N := 1) rfl ?_); refine box_event ?hg (N := 1) ?hd (cs := #[.slice A0_0 l0_0.length c0_0, .int .i64 a0_1, .int .i64 a0_2, .slice A0_3 l0_3.length c0_3, .bool true]) (t := 24) ?hr ?_; (case hd => rfl); (case hg => rfl); q_hr; intro gb279 hg w3 hbox hb; have n0_ := Aside0.mk (below_step q_hb hb); have n1_ := Aside0.mk (hbox); have n2_ := Aside0.mk ((by rw [hg]; exact q_bs : w.heap.size ≤ gb279)); have n3_ := Aside0.mk ((by rw [hg]; exact q_bs : w.heap.size ≤ gb279)); clear HB; have HB := n0_; have BK279 := n1_; have GW279 := n2_; have GE279 := n3_; clear n0_ n1_ n2_ n3_; (q_x hb hbox hg); have hcz4_0 : w3.cell? ⟨gb279, 0, none⟩ = some (.slice A0_0 l0_0.length c0_0) := (blk_cell BK279.out 0).trans rfl; have hcz4_1 : w3.cell? ⟨gb279, 1, none⟩ = some (.int .i64 a0_1) := (blk_cell BK279.out 1).trans rfl; have hcz4_2 : w3.cell? ⟨gb279, 2, none⟩ = some (.int .i64 a0_2) := (blk_cell BK279.out 2).trans rfl; have hcz4_3 : w3.cell? ⟨gb279, 3, none⟩ = some (.slice A0_3 l0_3.length c0_3) := (blk_cell BK279.out 3).trans rfl; have hcz4_4 : w3.cell? ⟨gb279, 4, none⟩ = some (.bool true) := (blk_cell BK279.out 4).trans rfl; have hfz4_0 := blk_frozen BK279.out 0; have hfz4_1 := blk_frozen BK279.out 1; have hfz4_2 := blk_frozen BK279.out 2; have hfz4_3 := blk_frozen BK279.out 3; have hfz4_4 := blk_frozen BK279.out 4))
  go_ret
  exact ⟨by first | rfl | q_em | q_en, by repeat (first | (with_reducible first | exact HB.out | apply below_alloc | apply pw_below_drewN | apply below_drew1 | refine below_set ?_ GE279.out) | exact HB.out)⟩
 ·replace c2 := Bool.eq_false_iff.mpr c2
  subst c2
  have H1 : (some 0) = some r := by rw [if_neg (show ¬ (false = true) by decide)] at H; exact H
  clear H
  have H := H1
  clear H1
  obtain rfl := Option.some.inj H
  go_enter Try.func46, Try.ntmps46
  go_wp2_with (first | ((with_reducible refine gate_dst (N := 1) rfl ?_); refine box_event ?hg (N := 1) ?hd (cs := #[.slice A0_0 l0_0.length c0_0, .int .i64 a0_1, .int .i64 a0_2, .slice A0_3 l0_3.length c0_3, .bool false]) (t := 24) ?hr ?_; (case hd => rfl); (case hg => rfl); q_hr; intro gb279 hg w5 hbox hb; have n0_ := Aside0.mk (below_step q_hb hb); have n1_ := Aside0.mk (hbox); have n2_ := Aside0.mk ((by rw [hg]; exact q_bs : w.heap.size ≤ gb279)); have n3_ := Aside0.mk ((by rw [hg]; exact q_bs : w.heap.size ≤ gb279)); clear HB; have HB := n0_; have BK279 := n1_; have GW279 := n2_; have GE279 := n3_; clear n0_ n1_ n2_ n3_; (q_x hb hbox hg); have hcz6_0 : w5.cell? ⟨gb279, 0, none⟩ = some (.slice A0_0 l0_0.length c0_0) := (blk_cell BK279.out 0).trans rfl; have hcz6_1 : w5.cell? ⟨gb279, 1, none⟩ = some (.int .i64 a0_1) := (blk_cell BK279.out 1).trans rfl; have hcz6_2 : w5.cell? ⟨gb279, 2, none⟩ = some (.int .i64 a0_2) := (blk_cell BK279.out 2).trans rfl; have hcz6_3 : w5.cell? ⟨gb279, 3, none⟩ = some (.slice A0_3 l0_3.length c0_3) := (blk_cell BK279.out 3).trans rfl; have hcz6_4 : w5.cell? ⟨gb279, 4, none⟩ = some (.bool false) := (blk_cell BK279.out 4).trans rfl; have hfz6_0 := blk_frozen BK279.out 0; have hfz6_1 := blk_frozen BK279.out 1; have hfz6_2 := blk_frozen BK279.out 2; have hfz6_3 := blk_frozen BK279.out 3; have hfz6_4 := blk_frozen BK279.out 4))
  go_ret
  exact ⟨by first | rfl | q_em | q_en, by repeat (first | (with_reducible first | exact HB.out | apply below_alloc | apply pw_below_drewN | apply below_drew1 | refine below_set ?_ GE279.out) | exact HB.out)⟩

/-! ### semigroupref17_Size: function 16 -/
def semigroupref17_Size.f (l0_0 : List (List Int)) (a0_1 : Int) (a0_2 : Int) (l0_3 : List (List Int)) (a0_4 : Bool) : Option (Int) := (semigroupref17_base.f l0_0 a0_1 a0_2 l0_3 a0_4).bind fun t281 => (some (wrap64 ((wrap64 ((wrap64 (a0_1 * (l0_0.length : Int))) * a0_2)) + t281)))
def semigroupref17_Size.T1 : Bool × List (List Nat × List Nat) := (true, [([], []), ([0], [0]), ([], []), ([2], [2]), ([3], [3]), ([1, 4], [1, 4]), ([], []), ([6], [6]), ([5, 7], [5, 7]), ([], []), ([9], [9]), ([8, 10], [8, 10]), ([11, 10, 0, 1, 2, 3, 4, 5, 6, 7, 8, 9, 10, 11], [11])])
def semigroupref17_Size.B1 : List Nat := [0, 1, 0, 4, 12, 31, 0, 64, 255, 0, 512, 2047, 4095]
theorem semigroupref17_Size.tab1 : rtab .any (opsOf Try.f16 1) = semigroupref17_Size.T1 := by kernel_rfl
theorem semigroupref17_Size.bits1 : waitsOk semigroupref17_Size.T1.2 semigroupref17_Size.B1 = true := by kernel_rfl
set_option maxHeartbeats 8000000 in
set_option maxRecDepth 100000 in
theorem semigroupref17_Size.calls (A0_0 : Option Addr) (c0_0 : Nat) (l0_0 : List (List Int)) (a0_1 : Int) (a0_2 : Int) (A0_3 : Option Addr) (c0_3 : Nat) (l0_3 : List (List Int)) (a0_4 : Bool) (r : Int) (w : World) (hr0_0 : Kd.C (Kd.slice 3 (Kd.int .i64)) w A0_0 l0_0.length l0_0) (hc0_0 : l0_0.length ≤ c0_0) (hr0_3 : Kd.C (Kd.slice 3 (Kd.int .i64)) w A0_3 l0_3.length l0_3) (hc0_3 : l0_3.length ≤ c0_3) (h : semigroupref17_Size.f l0_0 a0_1 a0_2 l0_3 a0_4 = some r) :
  Calls Try.prog 16 #[.agg #[.slice A0_0 l0_0.length c0_0, .int .i64 a0_1, .int .i64 a0_2, .slice A0_3 l0_3.length c0_3, .bool a0_4]] w fun e w' => e = .returned (.int .i64 r) ∧ Below w.heap.size w w' := by
 have hu24 := Try.underlying24
 have HR0_0 := Aside0.mk hr0_0
 have HC0_0 := Aside0.mk hc0_0
 (try clear hr0_0); (try clear hc0_0)
 have HR0_3 := Aside0.mk hr0_3
 have HC0_3 := Aside0.mk hc0_3
 (try clear hr0_3); (try clear hc0_3)
 have HB := Aside0.mk (Below.refl w.heap.size w)
 have H : ((semigroupref17_base.f l0_0 a0_1 a0_2 l0_3 a0_4).bind fun t281 => (some (wrap64 ((wrap64 ((wrap64 (a0_1 * (l0_0.length : Int))) * a0_2)) + t281)))) = some r := h
 clear h
 replace H := Option.bind_eq_some_iff.mp H
 obtain ⟨t281, A20, H⟩ := H
 replace H : (some (wrap64 ((wrap64 ((wrap64 (a0_1 * (l0_0.length : Int))) * a0_2)) + t281))) = some r := H
 have A2 := Aside0.mk A20
 clear A20
 obtain rfl := Option.some.inj H
 go_enter Try.func16, Try.ntmps16
 try go_wp2_with (first | ((with_reducible refine gate_dst (N := 1) rfl ?_); refine box_event ?hg (N := 1) ?hd (cs := #[.slice A0_0 l0_0.length c0_0, .int .i64 a0_1, .int .i64 a0_2, .slice A0_3 l0_3.length c0_3, .bool a0_4]) (t := 24) ?hr ?_; (case hd => rfl); (case hg => rfl); q_hr; intro gb280 hg w3 hbox hb; have n0_ := Aside0.mk (below_step q_hb hb); have n1_ := Aside0.mk (hbox); have n2_ := Aside0.mk ((by rw [hg]; exact q_bs : w.heap.size ≤ gb280)); have n3_ := Aside0.mk ((by rw [hg]; exact q_bs : w.heap.size ≤ gb280)); clear HB; have HB := n0_; have BK280 := n1_; have GW280 := n2_; have GE280 := n3_; clear n0_ n1_ n2_ n3_; (q_x hb hbox); (try clear hg)))
 have n0_ := Aside0.mk (blk_drew BK280.out)
 have n1_ := Aside0.mk (below_drew1 HB.out)
 clear HB BK280
 have BK280 := n0_
 have HB := n1_
 clear n0_ n1_
 refine start_ (n := 13) (S := fun w' => w'.cell? ⟨gb280, 0, none⟩ = some (.slice A0_0 l0_0.length c0_0) ∧ w'.cell? ⟨gb280, 1, none⟩ = some (.int .i64 a0_1) ∧ w'.cell? ⟨gb280, 2, none⟩ = some (.int .i64 a0_2) ∧ w'.cell? ⟨gb280, 3, none⟩ = some (.slice A0_3 l0_3.length c0_3) ∧ w'.cell? ⟨gb280, 4, none⟩ = some (.bool a0_4)) (ds := []) #[false, false, false, false, false, false, false, false, false, false, false, false, false] (by kernel_rfl) rfl rfl ⟨(blk_cell BK280.out 0).trans rfl, (blk_cell BK280.out 1).trans rfl, (blk_cell BK280.out 2).trans rfl, (blk_cell BK280.out 3).trans rfl, (blk_cell BK280.out 4).trans rfl⟩ (fun hHeld => ?_); refine with_tabW semigroupref17_Size.tab1 semigroupref17_Size.bits1 (fun HT_ HW_ => ?_)
 generalize w3.drew = w4 at BK280 HB hHeld ⊢
 refine pure_ (i := 0) (N := some 3) (v := ?_) (a' := ?_) #[true, false, false, false, false, false, false, false, false, false, false, false, false] rfl rfl q_ho q_id (Or.inl ⟨by rfl, ?_⟩) ?_ ?_
 rotate_left
 ·intro w'
  go_simp
  with_reducible rfl
 rotate_left
 ·q_si
  rfl
 refine pure_ (i := 2) (N := some 5) (v := ?_) (a' := ?_) #[true, false, true, false, false, false, false, false, false, false, false, false, false] rfl rfl q_ho q_id (Or.inl ⟨by rfl, ?_⟩) ?_ ?_
 rotate_left
 ·intro w'
  go_simp
  with_reducible rfl
 rotate_left
 ·q_si
  rfl
 refine pure_ (i := 6) (N := some 9) (v := ?_) (a' := ?_) #[true, false, true, false, false, false, true, false, false, false, false, false, false] rfl rfl q_ho q_id (Or.inl ⟨by rfl, ?_⟩) ?_ ?_
 rotate_left
 ·intro w'
  go_simp
  with_reducible rfl
 rotate_left
 ·q_si
  rfl
 refine take_ (i := 1) (N := some 4) (v := ?_) (a' := ?_) #[true, true, true, false, false, false, true, false, false, false, false, false, false] rfl rfl q_to q_id (Or.inl ⟨by rfl, ?_⟩) hHeld ?_ ?_
 rotate_left
 ·rintro w' ⟨s0, s1, s2, s3, s4⟩
  go_simp
  with_reducible rfl
 rotate_left
 ·q_si
  rfl
 refine take_ (i := 3) (N := some 6) (v := ?_) (a' := ?_) #[true, true, true, true, false, false, true, false, false, false, false, false, false] rfl rfl q_to q_id (Or.inl ⟨by rfl, ?_⟩) hHeld ?_ ?_
 rotate_left
 ·rintro w' ⟨s0, s1, s2, s3, s4⟩
  go_simp
  with_reducible rfl
 rotate_left
 ·q_si
  rfl
 refine pure_ (i := 4) (N := some 7) (v := ?_) (a' := ?_) #[true, true, true, true, true, false, true, false, false, false, false, false, false] rfl rfl q_ho q_id (Or.inl ⟨by rfl, ?_⟩) ?_ ?_
 rotate_left
 ·intro w'
  go_simp
  with_reducible rfl
 rotate_left
 ·q_si
  rfl
 refine pure_ (i := 5) (N := some 8) (v := ?_) (a' := ?_) #[true, true, true, true, true, true, true, false, false, false, false, false, false] rfl rfl q_ho q_id (Or.inl ⟨by rfl, ?_⟩) ?_ ?_
 rotate_left
 ·intro w'
  go_simp
  with_reducible rfl
 rotate_left
 ·q_si
  rfl
 refine take_ (i := 7) (N := some 10) (v := ?_) (a' := ?_) #[true, true, true, true, true, true, true, true, false, false, false, false, false] rfl rfl q_to q_id (Or.inl ⟨by rfl, ?_⟩) hHeld ?_ ?_
 rotate_left
 ·rintro w' ⟨s0, s1, s2, s3, s4⟩
  go_simp
  with_reducible rfl
 rotate_left
 ·q_si
  rfl
 refine pure_ (i := 8) (N := some 11) (v := ?_) (a' := ?_) #[true, true, true, true, true, true, true, true, true, false, false, false, false] rfl rfl q_ho q_id (Or.inl ⟨by rfl, ?_⟩) ?_ ?_
 rotate_left
 ·intro w'
  go_simp
  with_reducible rfl
 rotate_left
 ·q_si
  rfl
 refine take_ (i := 9) (N := some 12) (v := ?_) (a' := ?_) #[true, true, true, true, true, true, true, true, true, true, false, false, false] rfl rfl q_to q_id (Or.inl ⟨by rfl, ?_⟩) hHeld ?_ ?_
 rotate_left
 ·rintro w' ⟨s0, s1, s2, s3, s4⟩
  go_simp
  with_reducible rfl
 rotate_left
 ·q_si
  rfl
 refine one_ (i := 10) (N := some 13) #[true, true, true, true, true, true, true, true, true, true, true, false, false] rfl rfl (one_of HT_.out (by kernel_rfl)) (by decide) (fun K hK => ?_)
 refine goes_ Try.func46 (by kernel_rfl) rfl #[.agg #[.slice A0_0 l0_0.length c0_0, .int .i64 a0_1, .int .i64 a0_2, .slice A0_3 l0_3.length c0_3, .bool a0_4]] (by rfl) rfl rfl q_ml ?_
 with_reducible refine (semigroupref17_base.calls _ _ l0_0 a0_1 a0_2 _ _ l0_3 a0_4 t281 _ ?side1 ?side2 ?side3 ?side4 A2.out).mono ?_
 (case side1 => q_cc (Kd.C_below HR0_0.out HB.out))
 (case side2 => exact HC0_0.out)
 (case side3 => q_cc (Kd.C_below HR0_3.out HB.out))
 (case side4 => exact HC0_3.out)
 rintro e w5 ⟨rfl, hb⟩
 refine ⟨_, rfl, ?_⟩
 have n0_ := Aside0.mk (blk_below (g := gb280) (o := .cells #[.slice A0_0 l0_0.length c0_0, .int .i64 a0_1, .int .i64 a0_2, .slice A0_3 l0_3.length c0_3, .bool a0_4] 24 (0, 0)) (by q_bk; exact BK280.out) hb)
 have n1_ := Aside0.mk (below_step (q_hs GE280.out) hb)
 clear HB BK280
 have BK280 := n0_
 have HB := n1_
 clear n0_ n1_
 (try clear hb)
 (try clear hb2)
 (try clear hk)
 (try clear hi)
 refine hK.out _ _ ⟨(blk_cell BK280.out 0).trans rfl, (blk_cell BK280.out 1).trans rfl, (blk_cell BK280.out 2).trans rfl, (blk_cell BK280.out 3).trans rfl, (blk_cell BK280.out 4).trans rfl⟩ (fun hHeld => ?_)
 clear hK K
 refine norm_ (a' := ?_) ?_ ?_
 rotate_left
 ·show Act.put _ (some 13) _ = _
  simp only [Act.put, List.setIfInBounds_toArray, List.set_cons_zero, List.set_cons_succ, i64_w, i32_w]
  rfl
 refine pure_ (i := 11) (N := some 14) (v := ?_) (a' := ?_) #[true, true, true, true, true, true, true, true, true, true, true, true, false] rfl rfl q_ho q_id (Or.inl ⟨by rfl, ?_⟩) ?_ ?_
 rotate_left
 ·intro w'
  go_simp
  with_reducible rfl
 rotate_left
 ·q_si
  rfl
 refine pure_ (i := 12) (N := some 2) (v := ?_) (a' := ?_) #[true, true, true, true, true, true, true, true, true, true, true, true, true] rfl rfl q_ho q_id (Or.inl ⟨by rfl, ?_⟩) ?_ ?_
 rotate_left
 ·intro w'
  go_simp
  with_reducible rfl
 rotate_left
 ·q_si
  rfl
 refine done_ (done_of HT_.out (by kernel_rfl)) ?_
 try go_wp2
 go_ret
 exact ⟨by first | rfl | q_em | q_en, by repeat (first | (with_reducible first | exact HB.out | apply below_alloc | apply pw_below_drewN | apply below_drew1 | refine below_set ?_ GE280.out) | exact HB.out)⟩

/-! ### rees_Size: function 22 -/
def rees_Size.f (k : Nat) (l0_0 : List (List Int)) (a0_1 : Int) (a0_2 : Int) (l0_3 : List (List Int)) (a0_4 : Bool) : Option (Int) := (rees_Validate.f k l0_0 a0_1 a0_2 l0_3 a0_4).bind fun t329 => (if t329 = 0 then ((rees_size.f l0_0 a0_1 a0_2 l0_3 a0_4).bind fun t330 => (some t330)) else (some 0))
theorem rees_Size.mono : ∀ a0 a1 a2 a3 a4 k, LeO (rees_Size.f k a0 a1 a2 a3 a4) (rees_Size.f (k + 1) a0 a1 a2 a3 a4) := by
 intro a0 a1 a2 a3 a4 k
 unfold rees_Size.f
 repeat' first
   | (with_reducible exact rees_Validate.mono _ _ _ _ _ _)
   | (with_reducible exact LeO.refl _)
   | (with_reducible exact LeO.none _)
   | (with_reducible refine LeO.ite ?_ ?_)
   | (with_reducible refine LeO.bind ?_ (fun _ => ?_))
   | exact rees_Validate.mono _ _ _ _ _ _
   | exact LeO.none _
   | refine LeO.ite ?_ ?_
   | refine LeO.bind ?_ (fun _ => ?_)
set_option maxHeartbeats 8000000 in
set_option maxRecDepth 100000 in
theorem rees_Size.calls (k : Nat) (A0_0 : Option Addr) (c0_0 : Nat) (l0_0 : List (List Int)) (a0_1 : Int) (a0_2 : Int) (A0_3 : Option Addr) (c0_3 : Nat) (l0_3 : List (List Int)) (a0_4 : Bool) (r : Int) (w : World) (hr0_0 : Kd.C (Kd.slice 3 (Kd.int .i64)) w A0_0 l0_0.length l0_0) (hc0_0 : l0_0.length ≤ c0_0) (hr0_3 : Kd.C (Kd.slice 3 (Kd.int .i64)) w A0_3 l0_3.length l0_3) (hc0_3 : l0_3.length ≤ c0_3) (h : rees_Size.f k l0_0 a0_1 a0_2 l0_3 a0_4 = some r) :
  Calls Try.prog 22 #[.agg #[.slice A0_0 l0_0.length c0_0, .int .i64 a0_1, .int .i64 a0_2, .slice A0_3 l0_3.length c0_3, .bool a0_4]] w fun e w' => e = .returned (.int .i64 r) ∧ Below w.heap.size w w' := by
 have hu24 := Try.underlying24
 have HR0_0 := Aside0.mk hr0_0
 have HC0_0 := Aside0.mk hc0_0
 (try clear hr0_0); (try clear hc0_0)
 have HR0_3 := Aside0.mk hr0_3
 have HC0_3 := Aside0.mk hc0_3
 (try clear hr0_3); (try clear hc0_3)
 have HB := Aside0.mk (Below.refl w.heap.size w)
 have H : ((rees_Validate.f k l0_0 a0_1 a0_2 l0_3 a0_4).bind fun t329 => (if t329 = 0 then ((rees_size.f l0_0 a0_1 a0_2 l0_3 a0_4).bind fun t330 => (some t330)) else (some 0))) = some r := h
 clear h
 replace H := Option.bind_eq_some_iff.mp H
 obtain ⟨t329, A20, H⟩ := H
 replace H : (if t329 = 0 then ((rees_size.f l0_0 a0_1 a0_2 l0_3 a0_4).bind fun t330 => (some t330)) else (some 0)) = some r := H
 have A2 := Aside0.mk A20
 clear A20
 by_cases c3 : t329 = 0
 ·rw [if_pos c3] at H
  have c3b0 : (t329 == 0) = true := beq_iff_eq.mpr c3
  have c3b1 : (t329 != 0) = false := bne_eq_false_iff_eq.mpr c3
  clear c3
  replace H := Option.bind_eq_some_iff.mp H
  obtain ⟨t330, A40, H⟩ := H
  replace H : (some t330) = some r := H
  have A4 := Aside0.mk A40
  clear A40
  obtain rfl := Option.some.inj H
  go_enter Try.func22, Try.ntmps22
  go_wp2_with (first | ((with_reducible refine gate_dst (N := 1) rfl ?_); refine box_event ?hg (N := 1) ?hd (cs := #[.slice A0_0 l0_0.length c0_0, .int .i64 a0_1, .int .i64 a0_2, .slice A0_3 l0_3.length c0_3, .bool a0_4]) (t := 24) ?hr ?_; (case hd => rfl); (case hg => rfl); q_hr; intro gb328 hg w5 hbox hb; have n0_ := Aside0.mk (below_step q_hb hb); have n1_ := Aside0.mk (hbox); have n2_ := Aside0.mk ((by rw [hg]; exact q_bs : w.heap.size ≤ gb328)); have n3_ := Aside0.mk ((by rw [hg]; exact q_bs : w.heap.size ≤ gb328)); clear HB; have HB := n0_; have BK328 := n1_; have GW328 := n2_; have GE328 := n3_; clear n0_ n1_ n2_ n3_; (q_x hb hbox hg); have hcz6_0 : w5.cell? ⟨gb328, 0, none⟩ = some (.slice A0_0 l0_0.length c0_0) := (blk_cell BK328.out 0).trans rfl; have hcz6_1 : w5.cell? ⟨gb328, 1, none⟩ = some (.int .i64 a0_1) := (blk_cell BK328.out 1).trans rfl; have hcz6_2 : w5.cell? ⟨gb328, 2, none⟩ = some (.int .i64 a0_2) := (blk_cell BK328.out 2).trans rfl; have hcz6_3 : w5.cell? ⟨gb328, 3, none⟩ = some (.slice A0_3 l0_3.length c0_3) := (blk_cell BK328.out 3).trans rfl; have hcz6_4 : w5.cell? ⟨gb328, 4, none⟩ = some (.bool a0_4) := (blk_cell BK328.out 4).trans rfl; have hfz6_0 := blk_frozen BK328.out 0; have hfz6_1 := blk_frozen BK328.out 1; have hfz6_2 := blk_frozen BK328.out 2; have hfz6_3 := blk_frozen BK328.out 3; have hfz6_4 := blk_frozen BK328.out 4) | ((with_reducible refine gate_callee (f := 21) rfl ?_); refine goesL_ (some 4) rfl rfl Try.func21 (by kernel_rfl) rfl #[.agg #[.slice A0_0 l0_0.length c0_0, .int .i64 a0_1, .int .i64 a0_2, .slice A0_3 l0_3.length c0_3, .bool a0_4]] rfl q_ml ?_; (with_reducible refine (rees_Validate.calls k _ _ l0_0 a0_1 a0_2 _ _ l0_3 a0_4 t329 _ ?side1 ?side2 ?side3 ?side4 A2.out).mono ?_); (case side1 => q_cc (Kd.C_below HR0_0.out HB.out)); (case side2 => exact HC0_0.out); (case side3 => q_cc (Kd.C_below HR0_3.out HB.out)); (case side4 => exact HC0_3.out); rintro e w7 ⟨rfl, hb⟩; refine ⟨_, rfl, ?_⟩; have n0_ := Aside0.mk (blk_below (g := gb328) (o := .cells #[.slice A0_0 l0_0.length c0_0, .int .i64 a0_1, .int .i64 a0_2, .slice A0_3 l0_3.length c0_3, .bool a0_4] 24 (0, 0)) (by q_bk; exact BK328.out) hb); have n1_ := Aside0.mk (below_step (q_hs GE328.out) hb); clear BK328; clear HB; have BK328 := n0_; have HB := n1_; clear n0_ n1_; (q_x hb hb2 hk hi); have hcz8_0 : w7.cell? ⟨gb328, 0, none⟩ = some (.slice A0_0 l0_0.length c0_0) := (blk_cell BK328.out 0).trans rfl; have hcz8_1 : w7.cell? ⟨gb328, 1, none⟩ = some (.int .i64 a0_1) := (blk_cell BK328.out 1).trans rfl; have hcz8_2 : w7.cell? ⟨gb328, 2, none⟩ = some (.int .i64 a0_2) := (blk_cell BK328.out 2).trans rfl; have hcz8_3 : w7.cell? ⟨gb328, 3, none⟩ = some (.slice A0_3 l0_3.length c0_3) := (blk_cell BK328.out 3).trans rfl; have hcz8_4 : w7.cell? ⟨gb328, 4, none⟩ = some (.bool a0_4) := (blk_cell BK328.out 4).trans rfl; have hfz8_0 := blk_frozen BK328.out 0; have hfz8_1 := blk_frozen BK328.out 1; have hfz8_2 := blk_frozen BK328.out 2; have hfz8_3 := blk_frozen BK328.out 3; have hfz8_4 := blk_frozen BK328.out 4) | ((with_reducible refine gate_callee (f := 47) rfl ?_); refine goesL_ (some 7) rfl rfl Try.func47 (by kernel_rfl) rfl #[.agg #[.slice A0_0 l0_0.length c0_0, .int .i64 a0_1, .int .i64 a0_2, .slice A0_3 l0_3.length c0_3, .bool a0_4]] rfl q_ml ?_; (with_reducible refine (rees_size.calls _ _ l0_0 a0_1 a0_2 _ _ l0_3 a0_4 t330 _ ?side1 ?side2 ?side3 ?side4 A4.out).mono ?_); (case side1 => q_cc (Kd.C_below HR0_0.out HB.out)); (case side2 => exact HC0_0.out); (case side3 => q_cc (Kd.C_below HR0_3.out HB.out)); (case side4 => exact HC0_3.out); rintro e w9 ⟨rfl, hb⟩; refine ⟨_, rfl, ?_⟩; have n0_ := Aside0.mk (blk_below (g := gb328) (o := .cells #[.slice A0_0 l0_0.length c0_0, .int .i64 a0_1, .int .i64 a0_2, .slice A0_3 l0_3.length c0_3, .bool a0_4] 24 (0, 0)) (by q_bk; exact BK328.out) hb); have n1_ := Aside0.mk (below_step (q_hs GE328.out) hb); clear BK328; clear HB; have BK328 := n0_; have HB := n1_; clear n0_ n1_; (q_x hb hb2 hk); (try clear hi)))
  go_ret
  exact ⟨by first | rfl | q_em | q_en, by repeat (first | (with_reducible first | exact HB.out | apply below_alloc | apply pw_below_drewN | apply below_drew1 | refine below_set ?_ GE328.out) | exact HB.out)⟩
 ·rw [if_neg c3] at H
  have c3b0 : (t329 == 0) = false := beq_eq_false_iff_ne.mpr c3
  have c3b1 : (t329 != 0) = true := bne_iff_ne.mpr c3
  obtain rfl := Option.some.inj H
  go_enter Try.func22, Try.ntmps22
  go_wp2_with (first | ((with_reducible refine gate_dst (N := 1) rfl ?_); refine box_event ?hg (N := 1) ?hd (cs := #[.slice A0_0 l0_0.length c0_0, .int .i64 a0_1, .int .i64 a0_2, .slice A0_3 l0_3.length c0_3, .bool a0_4]) (t := 24) ?hr ?_; (case hd => rfl); (case hg => rfl); q_hr; intro gb328 hg w10 hbox hb; have n0_ := Aside0.mk (below_step q_hb hb); have n1_ := Aside0.mk (hbox); have n2_ := Aside0.mk ((by rw [hg]; exact q_bs : w.heap.size ≤ gb328)); have n3_ := Aside0.mk ((by rw [hg]; exact q_bs : w.heap.size ≤ gb328)); clear HB; have HB := n0_; have BK328 := n1_; have GW328 := n2_; have GE328 := n3_; clear n0_ n1_ n2_ n3_; (q_x hb hbox hg); have hcz11_0 : w10.cell? ⟨gb328, 0, none⟩ = some (.slice A0_0 l0_0.length c0_0) := (blk_cell BK328.out 0).trans rfl; have hcz11_1 : w10.cell? ⟨gb328, 1, none⟩ = some (.int .i64 a0_1) := (blk_cell BK328.out 1).trans rfl; have hcz11_2 : w10.cell? ⟨gb328, 2, none⟩ = some (.int .i64 a0_2) := (blk_cell BK328.out 2).trans rfl; have hcz11_3 : w10.cell? ⟨gb328, 3, none⟩ = some (.slice A0_3 l0_3.length c0_3) := (blk_cell BK328.out 3).trans rfl; have hcz11_4 : w10.cell? ⟨gb328, 4, none⟩ = some (.bool a0_4) := (blk_cell BK328.out 4).trans rfl; have hfz11_0 := blk_frozen BK328.out 0; have hfz11_1 := blk_frozen BK328.out 1; have hfz11_2 := blk_frozen BK328.out 2; have hfz11_3 := blk_frozen BK328.out 3; have hfz11_4 := blk_frozen BK328.out 4) | ((with_reducible refine gate_callee (f := 21) rfl ?_); refine goesL_ (some 4) rfl rfl Try.func21 (by kernel_rfl) rfl #[.agg #[.slice A0_0 l0_0.length c0_0, .int .i64 a0_1, .int .i64 a0_2, .slice A0_3 l0_3.length c0_3, .bool a0_4]] rfl q_ml ?_; (with_reducible refine (rees_Validate.calls k _ _ l0_0 a0_1 a0_2 _ _ l0_3 a0_4 t329 _ ?side1 ?side2 ?side3 ?side4 A2.out).mono ?_); (case side1 => q_cc (Kd.C_below HR0_0.out HB.out)); (case side2 => exact HC0_0.out); (case side3 => q_cc (Kd.C_below HR0_3.out HB.out)); (case side4 => exact HC0_3.out); rintro e w12 ⟨rfl, hb⟩; refine ⟨_, rfl, ?_⟩; have n0_ := Aside0.mk (blk_below (g := gb328) (o := .cells #[.slice A0_0 l0_0.length c0_0, .int .i64 a0_1, .int .i64 a0_2, .slice A0_3 l0_3.length c0_3, .bool a0_4] 24 (0, 0)) (by q_bk; exact BK328.out) hb); have n1_ := Aside0.mk (below_step (q_hs GE328.out) hb); clear BK328; clear HB; have BK328 := n0_; have HB := n1_; clear n0_ n1_; (q_x hb hb2 hk); (try clear hi)))
  go_ret
  exact ⟨by first | rfl | q_em | q_en, by repeat (first | (with_reducible first | exact HB.out | apply below_alloc | apply pw_below_drewN | apply below_drew1 | refine below_set ?_ GE328.out) | exact HB.out)⟩

/-! ### semigroupref03_Members: function 52 -/
def semigroupref03_Members.l0 : Nat → List Int → List Bool → Int → Int → Option (List Int)
 | 0, _, _, _, _ => none
 | k + 1, x3, x6, x7, x8 => if x8 < x7 then (if 0 ≤ x8 then (if x8 < (x6.length : Int) then (if rdOf false x6 x8 = true then (if x3.length < 17592186044416 then (semigroupref03_Members.l0 k (x3 ++ [x8]) x6 x7 (wrap64 (x8 + 1))) else (none)) else (semigroupref03_Members.l0 k x3 x6 x7 (wrap64 (x8 + 1)))) else (none)) else (none)) else (some x3)
def semigroupref03_Members.f (k : Nat) (l0 : List Bool) : Option (List Int) := semigroupref03_Members.l0 k ([] : List Int) l0 (l0.length : Int) 0
theorem semigroupref03_Members.mono_l : ∀ k, (∀ y0 y1 y2 y3, LeO (semigroupref03_Members.l0 k y0 y1 y2 y3) (semigroupref03_Members.l0 (k + 1) y0 y1 y2 y3))
 | 0 => fun _ _ _ _ r h => by simp [semigroupref03_Members.l0] at h
 | k + 1 => by
  have ih0 := semigroupref03_Members.mono_l k
  ·intro y0 y1 y2 y3
   unfold semigroupref03_Members.l0
   repeat' first
   | (with_reducible exact ih0 _ _ _ _)
   | (with_reducible exact LeO.refl _)
   | (with_reducible exact LeO.none _)
   | (with_reducible refine LeO.ite ?_ ?_)
   | (with_reducible refine LeO.bind ?_ (fun _ => ?_))
   | exact ih0 _ _ _ _
   | exact LeO.none _
   | refine LeO.ite ?_ ?_
   | refine LeO.bind ?_ (fun _ => ?_)
theorem semigroupref03_Members.mono : ∀ a0 k, LeO (semigroupref03_Members.f k a0) (semigroupref03_Members.f (k + 1) a0) := by
 intro a0 k
 have ih0 := semigroupref03_Members.mono_l k
 unfold semigroupref03_Members.f
 repeat' first
   | (with_reducible exact ih0 _ _ _ _)
   | (with_reducible exact LeO.refl _)
   | (with_reducible exact LeO.none _)
   | (with_reducible refine LeO.ite ?_ ?_)
   | (with_reducible refine LeO.bind ?_ (fun _ => ?_))
   | exact ih0 _ _ _ _
   | exact LeO.none _
   | refine LeO.ite ?_ ?_
   | refine LeO.bind ?_ (fun _ => ?_)
set_option maxHeartbeats 8000000 in
set_option maxRecDepth 100000 in
theorem semigroupref03_Members.calls (k : Nat) (A0 : Option Addr) (c0 : Nat) (l0 : List Bool) (r : List Int) (w : World) (hr0 : Kd.C Kd.bool w A0 l0.length l0) (hc0 : l0.length ≤ c0) (h : semigroupref03_Members.f k l0 = some r) :
  Calls Try.prog 52 #[.slice A0 l0.length c0] w fun e w' => ∃ v0_ : Value, e = .returned (v0_) ∧ Kd.R (Kd.int .i64) 3 w' w.heap.size (fun _ => True) v0_ r ∧ Below w.heap.size w w' := by
 have HR0 := Aside0.mk hr0
 have HC0 := Aside0.mk hc0
 (try clear hr0); (try clear hc0)
 have HB := Aside0.mk (Below.refl w.heap.size w)
 have H : (semigroupref03_Members.l0 k ([] : List Int) l0 (l0.length : Int) 0) = some r := h
 clear h
 have H' := Aside0.mk H
 clear H
 go_enter Try.func52, Try.ntmps52
 go_wp2
 go_loopg [3, 8] k (fun kq v3 v8 w' => ∃ (x3_1 : List Int) (x8_1 : Int), v8 = .int .i64 x8_1 ∧ Aside0 (semigroupref03_Members.l0 kq x3_1 l0 (l0.length : Int) x8_1 = some r) ∧ Aside0 (kq ≤ k) ∧ Aside0 (Kd.R (Kd.int .i64) 3 w' w.heap.size (fun _ => True) v3 x3_1) ∧ Aside0 (Below w.heap.size w w'))
 case atStart => exact ⟨(([] : List Int)), (0), q_rs, H', ⟨Nat.le_refl _⟩, ⟨by first | exact Kd.R_nil _ _ _ _ _ | exact Kd.N_nil _ _ _ _ _ | exact Kd.V_nil _ _ _ _ _ | exact Kd.Q_nil _ _ _ _ _ | exact Kd.S_nil _ _ _ _ _⟩, ⟨by repeat (first | (with_reducible first | exact HB.out | apply below_alloc | apply pw_below_drewN | apply below_drew1) | exact HB.out)⟩⟩
 case round =>
  clear H'
  obtain ⟨x3_1, x8_1, rfl, HA, HK1, HO_3, HB⟩ := hrel
  cases gk with
  | zero => exact absurd HA.out (by simp [semigroupref03_Members.l0])
  | succ k1 =>
   have H := HA.out
   clear HA
   simp only [semigroupref03_Members.l0] at H
   by_cases c2 : x8_1 < (l0.length : Int)
   ·rw [if_pos c2] at H
    have c2b0 : decide (x8_1 < (l0.length : Int)) = true := decide_eq_true c2
    clear c2
    by_cases c3 : 0 ≤ x8_1
    ·rw [if_pos c3] at H
     have c3b0 : decide (0 ≤ x8_1) = true := decide_eq_true c3
     clear c3
     by_cases c4 : x8_1 < (l0.length : Int)
     ·rw [if_pos c4] at H
      have c4b0 : decide (x8_1 < (l0.length : Int)) = true := decide_eq_true c4
      clear c4
      obtain ⟨bq5, hbq5⟩ : ∃ b_ : Bool, b_ = (rdOf false l0 x8_1) := ⟨_, rfl⟩
      replace H : (if bq5 = true then (if x3_1.length < 17592186044416 then (semigroupref03_Members.l0 k1 (x3_1 ++ [x8_1]) l0 (l0.length : Int) (wrap64 (x8_1 + 1))) else (none)) else (semigroupref03_Members.l0 k1 x3_1 l0 (l0.length : Int) (wrap64 (x8_1 + 1)))) = some r := by rw [← hbq5] at H; exact H
      have Nbq5 := Aside0.mk hbq5
      clear hbq5
      by_cases c6 : bq5 = true
      ·subst c6
       have H1 : (if x3_1.length < 17592186044416 then (semigroupref03_Members.l0 k1 (x3_1 ++ [x8_1]) l0 (l0.length : Int) (wrap64 (x8_1 + 1))) else (none)) = some r := by rw [if_pos rfl] at H; exact H
       clear H
       have H := H1
       clear H1
       by_cases c7 : x3_1.length < 17592186044416
       ·rw [if_pos c7] at H
        have LMc7 := Aside0.mk c7
        clear c7
        obtain ⟨y332, hy332⟩ : ∃ y_ : List Int, y_ = (x3_1 ++ [x8_1]) := ⟨_, rfl⟩
        replace H : (semigroupref03_Members.l0 k1 y332 l0 (l0.length : Int) (wrap64 (x8_1 + 1))) = some r := by first | (rw [hy332]; with_reducible exact H) | (have H2_ := (Option.bind_some _ _).symm.trans H; rw [hy332]; with_reducible exact H2_) | (have H2_ := (Option.bind_some _ _).symm.trans H; with_reducible exact H2_) | with_reducible exact H | (rw [hy332]; exact H) | exact H
        have Ny332 := Aside0.mk hy332
        clear hy332
        have H' := Aside0.mk H
        clear H
        have p331 : 0 ≤ (x8_1 : Int) := of_decide_eq_true q_as
        have q331 : x8_1 < (l0.length : Int) := of_decide_eq_true q_as
        obtain ⟨ad331, e331, hx331_0⟩ := Kd.at_bool HR0.out x8_1 p331 q331
        (try rw [← Nbq5.out] at hx331_0)
        cases e331
        replace hx331_0 := (HB.out.cell (World.block_lt_of_cell? w _ hx331_0)).trans hx331_0
        q_t p331 q331
        go_wp2_with (first | ((with_reducible refine gate_builtin (b := .append) (xs := #[.tmp 14, .tmp 16]) rfl ?_); at_builtin; refine Kd.R_append (Kd.int .i64) (w0 := w) w.heap.size rfl (.tmp 14) (.tmp 16) 39 3 (.int .i64 0) 8 rfl Try.underlying39 info3 rfl (by decide) (by omega) u3 x3_1 x8_1 [.int .i64 x8_1] (fun _ => True) (fun _ => False) rfl rfl ?aP (fun _ hk => hk.elim) ?aF ?aO ?aB ?aS ?aL ?_; (case aP => exact rfl); (case aB => exact q_hb); (case aF => exact (fun _ _ => trivial)); (case aO => exact (by q_nr; exact HO_3.out)); (case aS => exact q_bs); (case aL => have := LMc7.out; omega); intro v333 w8 ho hb hg hat; rw [← Ny332.out] at ho; have n0_ := Aside0.mk (hb); have n1_ := Aside0.mk (ho); clear HB; clear HO_3; have HB := n0_; have HO334 := n1_; clear n0_ n1_; (q_x ho hb hg); (try clear hat)))
        go_roundg k1
        case measure => have := HK1.out; omega
        case rel => exact ⟨(y332), (wrap64 (x8_1 + 1)), q_rs, H', ⟨by have := HK1.out; omega⟩, ⟨by q_nr; exact HO334.out⟩, ⟨by repeat (first | (with_reducible first | exact HB.out | apply below_alloc | apply pw_below_drewN | apply below_drew1) | exact HB.out)⟩⟩
       ·rw [if_neg c7] at H
        exact absurd H (by simp)
      ·replace c6 := Bool.eq_false_iff.mpr c6
       subst c6
       have H1 : (semigroupref03_Members.l0 k1 x3_1 l0 (l0.length : Int) (wrap64 (x8_1 + 1))) = some r := by rw [if_neg (show ¬ (false = true) by decide)] at H; exact H
       clear H
       have H := H1
       clear H1
       have H' := Aside0.mk H
       clear H
       have p331 : 0 ≤ (x8_1 : Int) := of_decide_eq_true q_as
       have q331 : x8_1 < (l0.length : Int) := of_decide_eq_true q_as
       obtain ⟨ad331, e331, hx331_0⟩ := Kd.at_bool HR0.out x8_1 p331 q331
       (try rw [← Nbq5.out] at hx331_0)
       cases e331
       replace hx331_0 := (HB.out.cell (World.block_lt_of_cell? w _ hx331_0)).trans hx331_0
       q_t p331 q331
       go_wp2
       go_roundg k1
       case measure => have := HK1.out; omega
       case rel => exact ⟨(x3_1), (wrap64 (x8_1 + 1)), q_rs, H', ⟨by have := HK1.out; omega⟩, ⟨by q_nr; exact HO_3.out⟩, ⟨by repeat (first | (with_reducible first | exact HB.out | apply below_alloc | apply pw_below_drewN | apply below_drew1) | exact HB.out)⟩⟩
     ·rw [if_neg c4] at H
      exact absurd H (by simp)
    ·rw [if_neg c3] at H
     exact absurd H (by simp)
   ·rw [if_neg c2] at H
    have c2b0 : decide (x8_1 < (l0.length : Int)) = false := decide_eq_false c2
    clear c2
    obtain rfl := Option.some.inj H
    go_wp2
    go_ret
    exact ⟨_, by first | rfl | q_em | q_en, by q_nr; exact HO_3.out, by repeat (first | (with_reducible first | exact HB.out | apply below_alloc | apply pw_below_drewN | apply below_drew1) | exact HB.out)⟩

/-! ### semigroupref17_Regular: function 24 -/
mutual
def semigroupref17_Regular.l0 : Nat → List Bool → List (List Int) → Int → Int → List (List Int) → Int → Int → List (List Int) → Bool → Option (Bool)
 | 0, _, _, _, _, _, _, _, _, _ => none
 | k + 1, x3, x13, x14, x15, x336000, x336001, x336002, x336003, x336004 => if x15 < x14 then (if 0 ≤ x15 then (if x15 < (x13.length : Int) then (semigroupref17_Regular.l1 k x3 false x13 x14 x15 (rd_L1 x13 x15) ((rd_L1 x13 x15).length : Int) 0 x336000 x336001 x336002 x336003 x336004) else (none)) else (none)) else ((semigroupref03_Members.f k x3).bind fun t339 => (some ((t339.length : Int) == x336001)))
def semigroupref17_Regular.l1 : Nat → List Bool → Bool → List (List Int) → Int → Int → List Int → Int → Int → List (List Int) → Int → Int → List (List Int) → Bool → Option (Bool)
 | 0, _, _, _, _, _, _, _, _, _, _, _, _, _ => none
 | k + 1, x3, x6, x13, x14, x15, x19, x20, x21, x336000, x336001, x336002, x336003, x336004 => if x21 < x20 then (if 0 ≤ x21 then (if x21 < (x19.length : Int) then (if (rd x19 x21) ≥ 0 then (if x21 < (x3.length : Int) then (semigroupref17_Regular.l1 k (x3.set (x21 : Int).toNat true) true x13 x14 x15 x19 x20 (wrap64 (x21 + 1)) x336000 x336001 x336002 x336003 x336004) else (none)) else (semigroupref17_Regular.l1 k x3 x6 x13 x14 x15 x19 x20 (wrap64 (x21 + 1)) x336000 x336001 x336002 x336003 x336004)) else (none)) else (none)) else (if x6 = true then (semigroupref17_Regular.l0 k x3 x13 x14 (wrap64 (x15 + 1)) x336000 x336001 x336002 x336003 x336004) else (some false))
end
def semigroupref17_Regular.f (k : Nat) (l0_0 : List (List Int)) (a0_1 : Int) (a0_2 : Int) (l0_3 : List (List Int)) (a0_4 : Bool) : Option (Bool) := if 0 ≤ a0_1 then (if (a0_1 : Int).toNat ≤ 281474976710656 then (semigroupref17_Regular.l0 k (List.replicate (a0_1 : Int).toNat false) l0_3 (l0_3.length : Int) 0 l0_0 a0_1 a0_2 l0_3 a0_4) else (none)) else (none)
theorem semigroupref17_Regular.mono_l : ∀ k, (∀ y0 y1 y2 y3 y4 y5 y6 y7 y8, LeO (semigroupref17_Regular.l0 k y0 y1 y2 y3 y4 y5 y6 y7 y8) (semigroupref17_Regular.l0 (k + 1) y0 y1 y2 y3 y4 y5 y6 y7 y8)) ∧ (∀ y0 y1 y2 y3 y4 y5 y6 y7 y8 y9 y10 y11 y12, LeO (semigroupref17_Regular.l1 k y0 y1 y2 y3 y4 y5 y6 y7 y8 y9 y10 y11 y12) (semigroupref17_Regular.l1 (k + 1) y0 y1 y2 y3 y4 y5 y6 y7 y8 y9 y10 y11 y12))
 | 0 => ⟨fun _ _ _ _ _ _ _ _ _ r h => by simp [semigroupref17_Regular.l0] at h, fun _ _ _ _ _ _ _ _ _ _ _ _ _ r h => by simp [semigroupref17_Regular.l1] at h⟩
 | k + 1 => by
  obtain ⟨ih0, ih1⟩ := semigroupref17_Regular.mono_l k
  refine ⟨?_, ?_⟩
  ·intro y0 y1 y2 y3 y4 y5 y6 y7 y8
   unfold semigroupref17_Regular.l0
   repeat' first
   | (with_reducible exact ih0 _ _ _ _ _ _ _ _ _)
   | (with_reducible exact ih1 _ _ _ _ _ _ _ _ _ _ _ _ _)
   | (with_reducible exact semigroupref03_Members.mono _ _)
   | (with_reducible exact LeO.refl _)
   | (with_reducible exact LeO.none _)
   | (with_reducible refine LeO.ite ?_ ?_)
   | (with_reducible refine LeO.bind ?_ (fun _ => ?_))
   | exact ih0 _ _ _ _ _ _ _ _ _
   | exact ih1 _ _ _ _ _ _ _ _ _ _ _ _ _
   | exact semigroupref03_Members.mono _ _
   | exact LeO.none _
   | refine LeO.ite ?_ ?_
   | refine LeO.bind ?_ (fun _ => ?_)
  ·intro y0 y1 y2 y3 y4 y5 y6 y7 y8 y9 y10 y11 y12
   unfold semigroupref17_Regular.l1
   repeat' first
   | (with_reducible exact ih0 _ _ _ _ _ _ _ _ _)
   | (with_reducible exact ih1 _ _ _ _ _ _ _ _ _ _ _ _ _)
   | (with_reducible exact semigroupref03_Members.mono _ _)
   | (with_reducible exact LeO.refl _)
   | (with_reducible exact LeO.none _)
   | (with_reducible refine LeO.ite ?_ ?_)
   | (with_reducible refine LeO.bind ?_ (fun _ => ?_))
   | exact ih0 _ _ _ _ _ _ _ _ _
   | exact ih1 _ _ _ _ _ _ _ _ _ _ _ _ _
   | exact semigroupref03_Members.mono _ _
   | exact LeO.none _
   | refine LeO.ite ?_ ?_
   | refine LeO.bind ?_ (fun _ => ?_)
theorem semigroupref17_Regular.mono : ∀ a0 a1 a2 a3 a4 k, LeO (semigroupref17_Regular.f k a0 a1 a2 a3 a4) (semigroupref17_Regular.f (k + 1) a0 a1 a2 a3 a4) := by
 intro a0 a1 a2 a3 a4 k
 obtain ⟨ih0, ih1⟩ := semigroupref17_Regular.mono_l k
 unfold semigroupref17_Regular.f
 repeat' first
   | (with_reducible exact ih0 _ _ _ _ _ _ _ _ _)
   | (with_reducible exact ih1 _ _ _ _ _ _ _ _ _ _ _ _ _)
   | (with_reducible exact semigroupref03_Members.mono _ _)
   | (with_reducible exact LeO.refl _)
   | (with_reducible exact LeO.none _)
   | (with_reducible refine LeO.ite ?_ ?_)
   | (with_reducible refine LeO.bind ?_ (fun _ => ?_))
   | exact ih0 _ _ _ _ _ _ _ _ _
   | exact ih1 _ _ _ _ _ _ _ _ _ _ _ _ _
   | exact semigroupref03_Members.mono _ _
   | exact LeO.none _
   | refine LeO.ite ?_ ?_
   | refine LeO.bind ?_ (fun _ => ?_)
set_option maxHeartbeats 8000000 in
set_option maxRecDepth 100000 in
theorem semigroupref17_Regular.calls (k : Nat) (A0_0 : Option Addr) (c0_0 : Nat) (l0_0 : List (List Int)) (a0_1 : Int) (a0_2 : Int) (A0_3 : Option Addr) (c0_3 : Nat) (l0_3 : List (List Int)) (a0_4 : Bool) (r : Bool) (w : World) (hr0_0 : Kd.C (Kd.slice 3 (Kd.int .i64)) w A0_0 l0_0.length l0_0) (hc0_0 : l0_0.length ≤ c0_0) (hr0_3 : Kd.C (Kd.slice 3 (Kd.int .i64)) w A0_3 l0_3.length l0_3) (hc0_3 : l0_3.length ≤ c0_3) (h : semigroupref17_Regular.f k l0_0 a0_1 a0_2 l0_3 a0_4 = some r) :
  Calls Try.prog 24 #[.agg #[.slice A0_0 l0_0.length c0_0, .int .i64 a0_1, .int .i64 a0_2, .slice A0_3 l0_3.length c0_3, .bool a0_4]] w fun e w' => e = .returned (.bool r) ∧ Below w.heap.size w w' := by
 have hu24 := Try.underlying24
 have HR0_0 := Aside0.mk hr0_0
 have HC0_0 := Aside0.mk hc0_0
 (try clear hr0_0); (try clear hc0_0)
 have HR0_3 := Aside0.mk hr0_3
 have HC0_3 := Aside0.mk hc0_3
 (try clear hr0_3); (try clear hc0_3)
 have HB := Aside0.mk (Below.refl w.heap.size w)
 have H : (if 0 ≤ a0_1 then (if (a0_1 : Int).toNat ≤ 281474976710656 then (semigroupref17_Regular.l0 k (List.replicate (a0_1 : Int).toNat false) l0_3 (l0_3.length : Int) 0 l0_0 a0_1 a0_2 l0_3 a0_4) else (none)) else (none)) = some r := h
 clear h
 by_cases c2 : 0 ≤ a0_1
 ·rw [if_pos c2] at H
  have c2b0 := eq_true c2
  have c2b1 : decide (0 ≤ a0_1) = true := decide_eq_true c2
  clear c2
  by_cases c3 : (a0_1 : Int).toNat ≤ 281474976710656
  ·rw [if_pos c3] at H
   have c3b0 := eq_true c3
   have c3b1 : decide ((a0_1 : Int).toNat ≤ 281474976710656) = true := decide_eq_true c3
   clear c3
   obtain ⟨y336, hy336⟩ : ∃ y_ : List Bool, y_ = (List.replicate (a0_1 : Int).toNat false) := ⟨_, rfl⟩
   replace H : (semigroupref17_Regular.l0 k y336 l0_3 (l0_3.length : Int) 0 l0_0 a0_1 a0_2 l0_3 a0_4) = some r := by first | (rw [hy336]; with_reducible exact H) | (have H2_ := (Option.bind_some _ _).symm.trans H; rw [hy336]; with_reducible exact H2_) | (have H2_ := (Option.bind_some _ _).symm.trans H; with_reducible exact H2_) | with_reducible exact H | (rw [hy336]; exact H) | exact H
   have Ny336 := Aside0.mk hy336
   clear hy336
   have H' := Aside0.mk H
   clear H
   go_enter Try.func24, Try.ntmps24
   go_wp2_with (first | ((with_reducible refine gate_dst (N := 1) rfl ?_); refine box_event ?hg (N := 1) ?hd (cs := #[.slice A0_0 l0_0.length c0_0, .int .i64 a0_1, .int .i64 a0_2, .slice A0_3 l0_3.length c0_3, .bool a0_4]) (t := 24) ?hr ?_; (case hd => rfl); (case hg => rfl); q_hr; intro gb335 hg w4 hbox hb; have n0_ := Aside0.mk (below_step q_hb hb); have n1_ := Aside0.mk (hbox); have n2_ := Aside0.mk ((by rw [hg]; exact q_bs : w.heap.size ≤ gb335)); have n3_ := Aside0.mk ((by rw [hg]; exact q_bs : w.heap.size ≤ gb335)); clear HB; have HB := n0_; have BK335 := n1_; have GW335 := n2_; have GE335 := n3_; clear n0_ n1_ n2_ n3_; (q_x hb hbox hg); have hcz5_0 : w4.cell? ⟨gb335, 0, none⟩ = some (.slice A0_0 l0_0.length c0_0) := (blk_cell BK335.out 0).trans rfl; have hcz5_1 : w4.cell? ⟨gb335, 1, none⟩ = some (.int .i64 a0_1) := (blk_cell BK335.out 1).trans rfl; have hcz5_2 : w4.cell? ⟨gb335, 2, none⟩ = some (.int .i64 a0_2) := (blk_cell BK335.out 2).trans rfl; have hcz5_3 : w4.cell? ⟨gb335, 3, none⟩ = some (.slice A0_3 l0_3.length c0_3) := (blk_cell BK335.out 3).trans rfl; have hcz5_4 : w4.cell? ⟨gb335, 4, none⟩ = some (.bool a0_4) := (blk_cell BK335.out 4).trans rfl; have hfz5_0 := blk_frozen BK335.out 0; have hfz5_1 := blk_frozen BK335.out 1; have hfz5_2 := blk_frozen BK335.out 2; have hfz5_3 := blk_frozen BK335.out 3; have hfz5_4 := blk_frozen BK335.out 4) | ((with_reducible refine gate_dst (N := 11) rfl ?_); refine Kd.R_make Kd.bool _ 4 rfl (N := 11) rfl 44 _ _ rfl a0_1 rfl rfl Try.underlying44 (.bool false) 1 info4 rfl (by decide) (by omega) false (ok := fun _ => True) (okp := fun _ => True) rfl (fun _ hk => hk) trivial (of_decide_eq_true q_as) (Nat.le_trans (Nat.mul_le_mul_right _ (of_decide_eq_true q_as : a0_1.toNat ≤ 281474976710656)) (by omega)) (Below.refl _ _) (Nat.le_refl _) ?_; intro v337 w6 ho7 hb hg_ hnew_; (q_x hg_ hnew_); (first | rw [← Ny336.out] at ho7 | (simp only [Int.reduceToNat] at ho7; rw [← Ny336.out] at ho7)); have n0_ := Aside0.mk (Kd.R_lower ho7 (below_size (q_hs GE335.out))); have n1_ := Aside0.mk (blk_below (g := gb335) (o := .cells #[.slice A0_0 l0_0.length c0_0, .int .i64 a0_1, .int .i64 a0_2, .slice A0_3 l0_3.length c0_3, .bool a0_4] 24 (0, 0)) (by q_bk; exact BK335.out) hb); have n2_ := Aside0.mk (below_step (q_hs GE335.out) hb); clear BK335; clear HB; have HO338 := n0_; have BK335 := n1_; have HB := n2_; clear n0_ n1_ n2_; (q_x hb ho7); have hcz8_0 : w6.cell? ⟨gb335, 0, none⟩ = some (.slice A0_0 l0_0.length c0_0) := (blk_cell BK335.out 0).trans rfl; have hcz8_1 : w6.cell? ⟨gb335, 1, none⟩ = some (.int .i64 a0_1) := (blk_cell BK335.out 1).trans rfl; have hcz8_2 : w6.cell? ⟨gb335, 2, none⟩ = some (.int .i64 a0_2) := (blk_cell BK335.out 2).trans rfl; have hcz8_3 : w6.cell? ⟨gb335, 3, none⟩ = some (.slice A0_3 l0_3.length c0_3) := (blk_cell BK335.out 3).trans rfl; have hcz8_4 : w6.cell? ⟨gb335, 4, none⟩ = some (.bool a0_4) := (blk_cell BK335.out 4).trans rfl; have hfz8_0 := blk_frozen BK335.out 0; have hfz8_1 := blk_frozen BK335.out 1; have hfz8_2 := blk_frozen BK335.out 2; have hfz8_3 := blk_frozen BK335.out 3; have hfz8_4 := blk_frozen BK335.out 4))
   go_loopg [15] k (fun kq v15 w' => ∃ (x3_1 : List Bool) (x15_1 : Int), v15 = .int .i64 x15_1 ∧ Aside0 (semigroupref17_Regular.l0 kq x3_1 l0_3 (l0_3.length : Int) x15_1 l0_0 a0_1 a0_2 l0_3 a0_4 = some r) ∧ Aside0 (kq ≤ k) ∧ Aside0 (Kd.R Kd.bool 4 w' w.heap.size (fun _ => True) v337 x3_1) ∧ Aside0 (w'.heap[gb335]? = some (.cells #[(.slice A0_0 l0_0.length c0_0), .int .i64 a0_1, .int .i64 a0_2, (.slice A0_3 l0_3.length c0_3), .bool a0_4] 24 (0, 0))) ∧ Aside0 (Below w.heap.size w w'))
   case atStart => exact ⟨(y336), (0), q_rs, H', ⟨Nat.le_refl _⟩, ⟨by q_nr; exact HO338.out⟩, ⟨by q_bk; exact BK335.out⟩, ⟨by repeat (first | (with_reducible first | exact HB.out | apply below_alloc | apply pw_below_drewN | apply below_drew1 | refine below_set ?_ GE335.out) | exact HB.out)⟩⟩
   case round =>
    clear H'
    q_x c2 c2b0 c2b1 p2 c3 c3b0 c3b1 hcz5_0 hcz5_1 hcz5_2 hcz5_3 hcz5_4 hcz8_0 hcz8_1 hcz8_2 hcz8_3 hcz8_4 hfz5_0 hfz5_1 hfz5_2 hfz5_3 hfz5_4 hfz8_0 hfz8_1 hfz8_2 hfz8_3 hfz8_4
    obtain ⟨x3_1, x15_1, rfl, HA, HK1, HO_3, BK335, HB⟩ := hrel
    cases gk with
    | zero => exact absurd HA.out (by simp [semigroupref17_Regular.l0])
    | succ k1 =>
     have H := HA.out
     clear HA
     simp only [semigroupref17_Regular.l0] at H
     by_cases c9 : x15_1 < (l0_3.length : Int)
     ·rw [if_pos c9] at H
      have c9b0 : decide (x15_1 < (l0_3.length : Int)) = true := decide_eq_true c9
      clear c9
      by_cases c10 : 0 ≤ x15_1
      ·rw [if_pos c10] at H
       have c10b0 : decide (0 ≤ x15_1) = true := decide_eq_true c10
       clear c10
       by_cases c11 : x15_1 < (l0_3.length : Int)
       ·rw [if_pos c11] at H
        have c11b0 : decide (x15_1 < (l0_3.length : Int)) = true := decide_eq_true c11
        clear c11
        have H' := Aside0.mk H
        clear H
        have p342 : 0 ≤ (x15_1 : Int) := of_decide_eq_true q_as
        have q342 : x15_1 < (l0_3.length : Int) := of_decide_eq_true q_as
        obtain ⟨ad342, A342_0, c342_0, e342, hx342_0, hl342_0, hi342_0⟩ := at_L1 HR0_3.out x15_1 p342 q342
        cases e342
        replace hx342_0 := (HB.out.cell (World.block_lt_of_cell? w _ hx342_0)).trans hx342_0
        have HR342_0 := Aside0.mk hi342_0
        have HC342_0 := Aside0.mk hl342_0
        (try clear hi342_0); (try clear hl342_0)
        q_t p342 q342
        go_wp2
        go_loopg [6, 21] k1 (fun kq v6 v21 w' => ∃ (x3_2 : List Bool) (x6_2 : Bool) (x21_2 : Int), v6 = .bool x6_2 ∧ v21 = .int .i64 x21_2 ∧ Aside0 (semigroupref17_Regular.l1 kq x3_2 x6_2 l0_3 (l0_3.length : Int) x15_1 (rd_L1 l0_3 x15_1) ((rd_L1 l0_3 x15_1).length : Int) x21_2 l0_0 a0_1 a0_2 l0_3 a0_4 = some r) ∧ Aside0 (kq ≤ k1) ∧ Aside0 (Kd.R Kd.bool 4 w' w.heap.size (fun _ => True) v337 x3_2) ∧ Aside0 (w'.heap[gb335]? = some (.cells #[(.slice A0_0 l0_0.length c0_0), .int .i64 a0_1, .int .i64 a0_2, (.slice (some ad342) l0_3.length c0_3), .bool a0_4] 24 (0, 0))) ∧ Aside0 (Below w.heap.size w w'))
        case atStart => exact ⟨(x3_1), (false), (0), q_rs, q_rs, H', ⟨Nat.le_refl _⟩, ⟨by q_nr; exact HO_3.out⟩, ⟨by q_bk; exact BK335.out⟩, ⟨by repeat (first | (with_reducible first | exact HB.out | apply below_alloc | apply pw_below_drewN | apply below_drew1 | refine below_set ?_ GE335.out) | exact HB.out)⟩⟩
        case round =>
         clear H'
         q_x c1 c2 c2b0 c2b1 p2 c3 c3b0 c3b1 p3 q3 hx3 c9 c9b0 c10 c10b0 c11 c11b0 hcz5_0 hcz5_1 hcz5_2 hcz5_3 hcz5_4 hcz8_0 hcz8_1 hcz8_2 hcz8_3 hcz8_4 hfz5_0 hfz5_1 hfz5_2 hfz5_3 hfz5_4 hfz8_0 hfz8_1 hfz8_2 hfz8_3 hfz8_4 hx342_0 p2 p342 q342
         obtain ⟨x3_2, x6_2, x21_2, rfl, rfl, HA, HK2, HO_3, BK335, HB⟩ := hrel
         cases gk with
         | zero => exact absurd HA.out (by simp [semigroupref17_Regular.l1])
         | succ k2 =>
          have H := HA.out
          clear HA
          simp only [semigroupref17_Regular.l1] at H
          by_cases c12 : x21_2 < ((rd_L1 l0_3 x15_1).length : Int)
          ·rw [if_pos c12] at H
           have c12b0 : decide (x21_2 < ((rd_L1 l0_3 x15_1).length : Int)) = true := decide_eq_true c12
           clear c12
           by_cases c13 : 0 ≤ x21_2
           ·rw [if_pos c13] at H
            have c13b0 : decide (0 ≤ x21_2) = true := decide_eq_true c13
            clear c13
            by_cases c14 : x21_2 < ((rd_L1 l0_3 x15_1).length : Int)
            ·rw [if_pos c14] at H
             have c14b0 : decide (x21_2 < ((rd_L1 l0_3 x15_1).length : Int)) = true := decide_eq_true c14
             clear c14
             by_cases c15 : (rd (rd_L1 l0_3 x15_1) x21_2) ≥ 0
             ·rw [if_pos c15] at H
              have c15b0 : decide (0 ≤ (rd (rd_L1 l0_3 x15_1) x21_2)) = true := decide_eq_true c15
              clear c15
              by_cases c16 : x21_2 < (x3_2.length : Int)
              ·rw [if_pos c16] at H
               have c16b0 : decide (x21_2 < (x3_2.length : Int)) = true := decide_eq_true c16
               clear c16
               obtain ⟨y344, hy344⟩ : ∃ y_ : List Bool, y_ = (x3_2.set (x21_2 : Int).toNat true) := ⟨_, rfl⟩
               replace H : (semigroupref17_Regular.l1 k2 y344 true l0_3 (l0_3.length : Int) x15_1 (rd_L1 l0_3 x15_1) ((rd_L1 l0_3 x15_1).length : Int) (wrap64 (x21_2 + 1)) l0_0 a0_1 a0_2 l0_3 a0_4) = some r := by first | (rw [hy344]; with_reducible exact H) | (have H2_ := (Option.bind_some _ _).symm.trans H; rw [hy344]; with_reducible exact H2_) | (have H2_ := (Option.bind_some _ _).symm.trans H; with_reducible exact H2_) | with_reducible exact H | (rw [hy344]; exact H) | exact H
               have Ny344 := Aside0.mk hy344
               clear hy344
               have H' := Aside0.mk H
               clear H
               have p343 : 0 ≤ (x21_2 : Int) := of_decide_eq_true q_as
               have q343 : x21_2 < ((rd_L1 l0_3 x15_1).length : Int) := of_decide_eq_true q_as
               obtain ⟨ad343, e343, hx343_0⟩ := Kd.at_int HR342_0.out x21_2 p343 q343
               cases e343
               replace hx343_0 := (HB.out.cell (World.block_lt_of_cell? w _ hx343_0)).trans hx343_0
               q_t p343 q343
               have p17 : 0 ≤ (x21_2 : Int) := of_decide_eq_true q_as
               have q17 : (x21_2 : Int) < ((x3_2.length : Int) : Int) := of_decide_eq_true q_as
               obtain ⟨go17, co17, eo17, gb17, gl17, cl17, HG17⟩ := Kd.R_form HO_3.out (by omega)
               (first | cases eo17 | (injection eo17 with ea_ en_ ec_; (first | subst ea_ | (injection ea_ with ea_; subst ea_)); subst ec_; clear en_))
               have GB17 := Aside0.mk gb17
               have GG17 := Aside0.mk HG17
               (q_x gb17 gl17); (try clear HG17)
               obtain ⟨hx17_0, hf17_0⟩ := Kd.R_celln false HO_3.out (x21_2 : Int) p17 q17
               q_t p17 q17
               have HP18 := Kd.R_putg HO_3.out (x21_2 : Int) true
               go_wp2_with (first | ((with_reducible refine gate_store (t := 4) (p := 30) rfl ?_); refine store_event (t := 4) (p := 30) (v := ?vo_w19) (w1 := (wr.setCell ⟨go17, (x21_2 : Int).toNat, none⟩ (.bool true))) ?hg ?ho ?hn ?hr ?_; (case ho => rfl); (case hg => rfl); (case hn => rfl); q_hr; intro w19 hw; have hg : wr.grownBy w19 (some go17) := (by rw [hw]; exact HP18.2); have hp_ : Kd.R Kd.bool 4 w19 w.heap.size (fun _ => True) (.slice (some ⟨go17, 0, none⟩) x3_2.length co17) y344 := (by rw [hw, Ny344.out]; exact HP18.1); clear HP18; have n0_ := Aside0.mk (hp_); have n1_ := Aside0.mk (blk_grown (g := gb335) (o := .cells #[.slice A0_0 l0_0.length c0_0, .int .i64 a0_1, .int .i64 a0_2, .slice (some ad342) l0_3.length c0_3, .bool a0_4] 24 (0, 0)) (by q_bk; exact BK335.out) hg (Kd.R_ne HO_3.out BK335.out (by decide))); have n2_ := Aside0.mk ((by rw [hw]; exact below_set (HB.out) GB17.out : Below w.heap.size w w19)); clear HO_3; clear BK335; clear HB; have HO_3 := n0_; have BK335 := n1_; have HB := n2_; clear n0_ n1_ n2_; (q_x hg hw); (try clear hp_)))
               go_roundg k2
               case measure => have := HK1.out; have := HK2.out; omega
               case rel => exact ⟨(y344), (true), (wrap64 (x21_2 + 1)), q_rs, q_rs, H', ⟨by have := HK1.out; have := HK2.out; omega⟩, ⟨by q_nr; exact HO_3.out⟩, ⟨by q_bk; exact BK335.out⟩, ⟨by repeat (first | (with_reducible first | exact HB.out | apply below_alloc | apply pw_below_drewN | apply below_drew1 | refine below_set ?_ GE335.out) | exact HB.out)⟩⟩
              ·rw [if_neg c16] at H
               exact absurd H (by simp)
             ·rw [if_neg c15] at H
              have c15b0 : decide (0 ≤ (rd (rd_L1 l0_3 x15_1) x21_2)) = false := decide_eq_false c15
              clear c15
              have H' := Aside0.mk H
              clear H
              have p343 : 0 ≤ (x21_2 : Int) := of_decide_eq_true q_as
              have q343 : x21_2 < ((rd_L1 l0_3 x15_1).length : Int) := of_decide_eq_true q_as
              obtain ⟨ad343, e343, hx343_0⟩ := Kd.at_int HR342_0.out x21_2 p343 q343
              cases e343
              replace hx343_0 := (HB.out.cell (World.block_lt_of_cell? w _ hx343_0)).trans hx343_0
              q_t p343 q343
              go_wp2
              go_roundg k2
              case measure => have := HK1.out; have := HK2.out; omega
              case rel => exact ⟨(x3_2), (x6_2), (wrap64 (x21_2 + 1)), q_rs, q_rs, H', ⟨by have := HK1.out; have := HK2.out; omega⟩, ⟨by q_nr; exact HO_3.out⟩, ⟨by q_bk; exact BK335.out⟩, ⟨by repeat (first | (with_reducible first | exact HB.out | apply below_alloc | apply pw_below_drewN | apply below_drew1 | refine below_set ?_ GE335.out) | exact HB.out)⟩⟩
            ·rw [if_neg c14] at H
             exact absurd H (by simp)
           ·rw [if_neg c13] at H
            exact absurd H (by simp)
          ·rw [if_neg c12] at H
           have c12b0 : decide (x21_2 < ((rd_L1 l0_3 x15_1).length : Int)) = false := decide_eq_false c12
           clear c12
           by_cases c20 : x6_2 = true
           ·subst c20
            have H1 : (semigroupref17_Regular.l0 k2 x3_2 l0_3 (l0_3.length : Int) (wrap64 (x15_1 + 1)) l0_0 a0_1 a0_2 l0_3 a0_4) = some r := by rw [if_pos rfl] at H; exact H
            clear H
            have H := H1
            clear H1
            have H' := Aside0.mk H
            clear H
            go_wp2
            go_roundg k2
            case measure => have := HK1.out; have := HK2.out; omega
            case rel => exact ⟨(x3_2), (wrap64 (x15_1 + 1)), q_rs, H', ⟨by have := HK1.out; have := HK2.out; omega⟩, ⟨by q_nr; exact HO_3.out⟩, ⟨by q_bk; exact BK335.out⟩, ⟨by repeat (first | (with_reducible first | exact HB.out | apply below_alloc | apply pw_below_drewN | apply below_drew1 | refine below_set ?_ GE335.out) | exact HB.out)⟩⟩
           ·replace c20 := Bool.eq_false_iff.mpr c20
            subst c20
            have H1 : (some false) = some r := by rw [if_neg (show ¬ (false = true) by decide)] at H; exact H
            clear H
            have H := H1
            clear H1
            obtain rfl := Option.some.inj H
            go_wp2
            go_ret
            exact ⟨by first | rfl | q_em | q_en, by repeat (first | (with_reducible first | exact HB.out | apply below_alloc | apply pw_below_drewN | apply below_drew1 | refine below_set ?_ GE335.out) | exact HB.out)⟩
       ·rw [if_neg c11] at H
        exact absurd H (by simp)
      ·rw [if_neg c10] at H
       exact absurd H (by simp)
     ·rw [if_neg c9] at H
      have c9b0 : decide (x15_1 < (l0_3.length : Int)) = false := decide_eq_false c9
      clear c9
      replace H := Option.bind_eq_some_iff.mp H
      obtain ⟨t339, A210, H⟩ := H
      replace H : (some ((t339.length : Int) == a0_1)) = some r := H
      have A21 := Aside0.mk A210
      clear A210
      obtain rfl := Option.some.inj H
      try go_wp2
      have n0_ := Aside0.mk (Kd.R_drew HO_3.out)
      have n1_ := Aside0.mk (blk_drew BK335.out)
      have n2_ := Aside0.mk (below_drew1 HB.out)
      clear HB BK335 HO_3
      have HO_3 := n0_
      have BK335 := n1_
      have HB := n2_
      clear n0_ n1_ n2_
      obtain ⟨Ao23, co23, eo23⟩ := Kd.R_slice HO_3.out
      (first | subst eo23 | (injection eo23 with f1_ f2_ f3_; have f4_ := f1_.symm; have f5_ := f3_.symm; clear f1_ f2_ f3_; subst f4_; subst f5_))
      refine start_ (n := 7) (S := fun w' => w'.cell? ⟨gb335, 0, none⟩ = some (.slice A0_0 l0_0.length c0_0) ∧ w'.cell? ⟨gb335, 1, none⟩ = some (.int .i64 a0_1) ∧ w'.cell? ⟨gb335, 2, none⟩ = some (.int .i64 a0_2) ∧ w'.cell? ⟨gb335, 3, none⟩ = some (.slice A0_3 l0_3.length c0_3) ∧ w'.cell? ⟨gb335, 4, none⟩ = some (.bool a0_4)) (ds := []) #[false, false, false, false, false, false, false] (by kernel_rfl) rfl rfl ⟨(blk_cell BK335.out 0).trans rfl, (blk_cell BK335.out 1).trans rfl, (blk_cell BK335.out 2).trans rfl, (blk_cell BK335.out 3).trans rfl, (blk_cell BK335.out 4).trans rfl⟩ (fun hHeld => ?_)
      generalize wr.drew = w22 at HO_3 BK335 HB hHeld ⊢
      refine pure_ (i := 0) (N := some 35) (v := ?_) (a' := ?_) #[true, false, false, false, false, false, false] rfl rfl (by kernel_rfl) (fun _ _ _ h => h) (Or.inl ⟨by rfl, ?_⟩) ?_ ?_
      rotate_left
      ·intro w'
       go_simp
       with_reducible rfl
      rotate_left
      ·q_si
       rfl
      refine pure_ (i := 3) (N := some 38) (v := ?_) (a' := ?_) #[true, false, false, true, false, false, false] rfl rfl (by kernel_rfl) (fun _ _ _ h => h) (Or.inl ⟨by rfl, ?_⟩) ?_ ?_
      rotate_left
      ·intro w'
       go_simp
       with_reducible rfl
      rotate_left
      ·q_si
       rfl
      refine take_ (i := 4) (N := some 39) (v := ?_) (a' := ?_) #[true, false, false, true, true, false, false] rfl rfl (by kernel_rfl) (fun _ _ _ h => h) (Or.inl ⟨by rfl, ?_⟩) hHeld ?_ ?_
      rotate_left
      ·rintro w' ⟨s0, s1, s2, s3, s4⟩
       go_simp
       with_reducible rfl
      rotate_left
      ·q_si
       rfl
      refine one_ (i := 1) (N := some 36) #[true, true, false, true, true, false, false] rfl rfl (by kernel_rfl) (by decide) (fun K hK => ?_)
      refine goes_ Try.func52 (by kernel_rfl) rfl #[.slice Ao23 x3_1.length co23] (by rfl) rfl rfl q_ml ?_
      with_reducible refine (semigroupref03_Members.calls k1 _ _ x3_1 t339 _ ?side1 ?side2 A21.out).mono ?_
      (case side1 => repeat (first | exact (Kd.R_reads' HO_3.out).2.2 | (with_reducible refine Kd.C_alloc ?_ _) | (with_reducible refine Kd.C_drewN ?_ _) | (with_reducible refine Kd.C_drew ?_)))
      (case side2 => exact (Kd.R_reads' HO_3.out).2.1)
      rintro e w24 ⟨v340, rfl, ho0, hb⟩
      refine ⟨_, rfl, ?_⟩
      have n0_ := Aside0.mk (Kd.R_below (by q_nr; exact HO_3.out) hb)
      have n1_ := Aside0.mk (Kd.R_lower ho0 (below_size (q_hs GE335.out)))
      have n2_ := Aside0.mk (blk_below (g := gb335) (o := .cells #[.slice A0_0 l0_0.length c0_0, .int .i64 a0_1, .int .i64 a0_2, .slice A0_3 l0_3.length c0_3, .bool a0_4] 24 (0, 0)) (by q_bk; exact BK335.out) hb)
      have n3_ := Aside0.mk (below_step (q_hs GE335.out) hb)
      clear HB BK335 HO_3
      have HO_3 := n0_
      have HO341 := n1_
      have BK335 := n2_
      have HB := n3_
      clear n0_ n1_ n2_ n3_
      (try clear hb)
      (try clear hb2)
      (try clear hk)
      (try clear hi)
      (try clear ho0)
      obtain ⟨Ao25, co25, eo25⟩ := Kd.R_slice HO341.out
      (first | subst eo25 | (injection eo25 with f1_ f2_ f3_; have f4_ := f1_.symm; have f5_ := f3_.symm; clear f1_ f2_ f3_; subst f4_; subst f5_))
      refine hK.out _ _ ⟨(blk_cell BK335.out 0).trans rfl, (blk_cell BK335.out 1).trans rfl, (blk_cell BK335.out 2).trans rfl, (blk_cell BK335.out 3).trans rfl, (blk_cell BK335.out 4).trans rfl⟩ (fun hHeld => ?_)
      clear hK K
      refine norm_ (a' := ?_) ?_ ?_
      rotate_left
      ·show Act.put _ (some 36) _ = _
       simp only [Act.put, List.setIfInBounds_toArray, List.set_cons_zero, List.set_cons_succ, i64_w, i32_w]
       rfl
      refine pure_ (i := 2) (N := some 37) (v := ?_) (a' := ?_) #[true, true, true, true, true, false, false] rfl rfl (by kernel_rfl) (fun _ _ _ h => h) (Or.inl ⟨by rfl, ?_⟩) ?_ ?_
      rotate_left
      ·intro w'
       go_simp
       with_reducible rfl
      rotate_left
      ·q_si
       rfl
      refine pure_ (i := 5) (N := some 40) (v := ?_) (a' := ?_) #[true, true, true, true, true, true, false] rfl rfl (by kernel_rfl) (fun _ _ _ h => h) (Or.inl ⟨by rfl, ?_⟩) ?_ ?_
      rotate_left
      ·intro w'
       go_simp
       with_reducible rfl
      rotate_left
      ·q_si
       rfl
      refine pure_ (i := 6) (N := some 2) (v := ?_) (a' := ?_) #[true, true, true, true, true, true, true] rfl rfl (by kernel_rfl) (fun _ _ _ h => h) (Or.inl ⟨by rfl, ?_⟩) ?_ ?_
      rotate_left
      ·intro w'
       go_simp
       with_reducible rfl
      rotate_left
      ·q_si
       rfl
      refine done_ (by kernel_rfl) ?_
      try go_wp2
      go_ret
      exact ⟨by first | rfl | q_em | q_en, by repeat (first | (with_reducible first | exact HB.out | apply below_alloc | apply pw_below_drewN | apply below_drew1 | refine below_set ?_ GE335.out) | exact HB.out)⟩
  ·rw [if_neg c3] at H
   exact absurd H (by simp)
 ·rw [if_neg c2] at H
  exact absurd H (by simp)

/-! ### semigrouplaw17_ReesValidates: function 4 -/
def semigrouplaw17_ReesValidates.f (k : Nat) (l0_0 : List (List Int)) (a0_1 : Int) (a0_2 : Int) (l0_3 : List (List Int)) (a0_4 : Bool) : Option (Bool) := (semigrouplaw17_large.f k l0_0 16).bind fun t346 => (if t346 = true then ((semigrouplaw17_awake.f k).bind fun t347 => (some t347)) else ((semigroupref17_Validate.f k l0_0 a0_1 a0_2 l0_3 a0_4).bind fun t348 => (if t348 = 0 then ((rees_Validate.f k l0_0 a0_1 a0_2 l0_3 a0_4).bind fun t353 => (if t353 = t348 then ((rees_Size.f k l0_0 a0_1 a0_2 l0_3 a0_4).bind fun t354 => ((semigroupref17_Size.f l0_0 a0_1 a0_2 l0_3 a0_4).bind fun t355 => (if t354 = t355 then ((rees_Regular.f k l0_0 a0_1 a0_2 l0_3 a0_4).bind fun t356 => ((semigroupref17_Regular.f k l0_0 a0_1 a0_2 l0_3 a0_4).bind fun t357 => (if (t356 == t357) = true then ((semigrouplaw17_awake.f k).bind fun t358 => (some t358)) else (some false)))) else (some false)))) else (some false))) else ((rees_Validate.f k l0_0 a0_1 a0_2 l0_3 a0_4).bind fun t349 => (if t349 = t348 then ((rees_Size.f k l0_0 a0_1 a0_2 l0_3 a0_4).bind fun t350 => (if t350 = 0 then ((rees_Regular.f k l0_0 a0_1 a0_2 l0_3 a0_4).bind fun t351 => (if t351 = true then (some false) else ((semigrouplaw17_awake.f k).bind fun t352 => (some t352)))) else (some false))) else (some false))))))
theorem semigrouplaw17_ReesValidates.mono : ∀ a0 a1 a2 a3 a4 k, LeO (semigrouplaw17_ReesValidates.f k a0 a1 a2 a3 a4) (semigrouplaw17_ReesValidates.f (k + 1) a0 a1 a2 a3 a4) := by
 intro a0 a1 a2 a3 a4 k
 unfold semigrouplaw17_ReesValidates.f
 repeat' first
   | (with_reducible exact rees_Regular.mono _ _ _ _ _ _)
   | (with_reducible exact rees_Size.mono _ _ _ _ _ _)
   | (with_reducible exact rees_Validate.mono _ _ _ _ _ _)
   | (with_reducible exact semigrouplaw17_awake.mono _)
   | (with_reducible exact semigrouplaw17_large.mono _ _ _)
   | (with_reducible exact semigroupref17_Regular.mono _ _ _ _ _ _)
   | (with_reducible exact semigroupref17_Validate.mono _ _ _ _ _ _)
   | (with_reducible exact LeO.refl _)
   | (with_reducible exact LeO.none _)
   | (with_reducible refine LeO.ite ?_ ?_)
   | (with_reducible refine LeO.bind ?_ (fun _ => ?_))
   | exact rees_Regular.mono _ _ _ _ _ _
   | exact rees_Size.mono _ _ _ _ _ _
   | exact rees_Validate.mono _ _ _ _ _ _
   | exact semigrouplaw17_awake.mono _
   | exact semigrouplaw17_large.mono _ _ _
   | exact semigroupref17_Regular.mono _ _ _ _ _ _
   | exact semigroupref17_Validate.mono _ _ _ _ _ _
   | exact LeO.none _
   | refine LeO.ite ?_ ?_
   | refine LeO.bind ?_ (fun _ => ?_)
def semigrouplaw17_ReesValidates.T6 : Bool × List (List Nat × List Nat) := (true, [([], []), ([0], [0]), ([], []), ([1, 2], [1, 2]), ([3, 1], [3]), ([4], [4]), ([5, 4, 4], [4, 5]), ([4], [4]), ([7, 6, 4], [4, 7]), ([6, 8, 4], [4, 6, 8]), ([4, 9], [4, 9]), ([10, 8], [10]), ([11], [11]), ([12, 11, 11], [11, 12]), ([11], [11]), ([14, 13, 11], [11, 14]), ([13, 15, 11], [11, 13, 15]), ([11, 16], [11, 16]), ([17, 15], [17]), ([18, 18], [18]), ([18, 19], [18, 19]), ([20, 19, 0, 1, 2, 3, 4, 5, 6, 7, 8, 9, 10, 11, 12, 13, 14, 15, 16, 17, 18, 19, 20], [20])])
def semigrouplaw17_ReesValidates.B6 : List Nat := [0, 1, 0, 7, 15, 31, 63, 31, 255, 511, 1023, 2047, 4095, 8191, 4095, 32767, 65535, 131071, 262143, 524287, 1048575, 2097151]
theorem semigrouplaw17_ReesValidates.tab6 : rtab .any (opsOf Try.f4 6) = semigrouplaw17_ReesValidates.T6 := by kernel_rfl
theorem semigrouplaw17_ReesValidates.bits6 : waitsOk semigrouplaw17_ReesValidates.T6.2 semigrouplaw17_ReesValidates.B6 = true := by kernel_rfl
set_option maxHeartbeats 8000000 in
set_option maxRecDepth 100000 in
theorem semigrouplaw17_ReesValidates.calls (k : Nat) (A0_0 : Option Addr) (c0_0 : Nat) (l0_0 : List (List Int)) (a0_1 : Int) (a0_2 : Int) (A0_3 : Option Addr) (c0_3 : Nat) (l0_3 : List (List Int)) (a0_4 : Bool) (r : Bool) (w : World) (hr0_0 : Kd.C (Kd.slice 3 (Kd.int .i64)) w A0_0 l0_0.length l0_0) (hc0_0 : l0_0.length ≤ c0_0) (hr0_3 : Kd.C (Kd.slice 3 (Kd.int .i64)) w A0_3 l0_3.length l0_3) (hc0_3 : l0_3.length ≤ c0_3) (h : semigrouplaw17_ReesValidates.f k l0_0 a0_1 a0_2 l0_3 a0_4 = some r) :
  Calls Try.prog 4 #[.agg #[.slice A0_0 l0_0.length c0_0, .int .i64 a0_1, .int .i64 a0_2, .slice A0_3 l0_3.length c0_3, .bool a0_4]] w fun e w' => e = .returned (.bool r) ∧ Below w.heap.size w w' := by
 have hu24 := Try.underlying24
 have HR0_0 := Aside0.mk hr0_0
 have HC0_0 := Aside0.mk hc0_0
 (try clear hr0_0); (try clear hc0_0)
 have HR0_3 := Aside0.mk hr0_3
 have HC0_3 := Aside0.mk hc0_3
 (try clear hr0_3); (try clear hc0_3)
 have HB := Aside0.mk (Below.refl w.heap.size w)
 have H : ((semigrouplaw17_large.f k l0_0 16).bind fun t346 => (if t346 = true then ((semigrouplaw17_awake.f k).bind fun t347 => (some t347)) else ((semigroupref17_Validate.f k l0_0 a0_1 a0_2 l0_3 a0_4).bind fun t348 => (if t348 = 0 then ((rees_Validate.f k l0_0 a0_1 a0_2 l0_3 a0_4).bind fun t353 => (if t353 = t348 then ((rees_Size.f k l0_0 a0_1 a0_2 l0_3 a0_4).bind fun t354 => ((semigroupref17_Size.f l0_0 a0_1 a0_2 l0_3 a0_4).bind fun t355 => (if t354 = t355 then ((rees_Regular.f k l0_0 a0_1 a0_2 l0_3 a0_4).bind fun t356 => ((semigroupref17_Regular.f k l0_0 a0_1 a0_2 l0_3 a0_4).bind fun t357 => (if (t356 == t357) = true then ((semigrouplaw17_awake.f k).bind fun t358 => (some t358)) else (some false)))) else (some false)))) else (some false))) else ((rees_Validate.f k l0_0 a0_1 a0_2 l0_3 a0_4).bind fun t349 => (if t349 = t348 then ((rees_Size.f k l0_0 a0_1 a0_2 l0_3 a0_4).bind fun t350 => (if t350 = 0 then ((rees_Regular.f k l0_0 a0_1 a0_2 l0_3 a0_4).bind fun t351 => (if t351 = true then (some false) else ((semigrouplaw17_awake.f k).bind fun t352 => (some t352)))) else (some false))) else (some false))))))) = some r := h
 clear h
 replace H := Option.bind_eq_some_iff.mp H
 obtain ⟨t346, A20, H⟩ := H
 replace H : (if t346 = true then ((semigrouplaw17_awake.f k).bind fun t347 => (some t347)) else ((semigroupref17_Validate.f k l0_0 a0_1 a0_2 l0_3 a0_4).bind fun t348 => (if t348 = 0 then ((rees_Validate.f k l0_0 a0_1 a0_2 l0_3 a0_4).bind fun t353 => (if t353 = t348 then ((rees_Size.f k l0_0 a0_1 a0_2 l0_3 a0_4).bind fun t354 => ((semigroupref17_Size.f l0_0 a0_1 a0_2 l0_3 a0_4).bind fun t355 => (if t354 = t355 then ((rees_Regular.f k l0_0 a0_1 a0_2 l0_3 a0_4).bind fun t356 => ((semigroupref17_Regular.f k l0_0 a0_1 a0_2 l0_3 a0_4).bind fun t357 => (if (t356 == t357) = true then ((semigrouplaw17_awake.f k).bind fun t358 => (some t358)) else (some false)))) else (some false)))) else (some false))) else ((rees_Validate.f k l0_0 a0_1 a0_2 l0_3 a0_4).bind fun t349 => (if t349 = t348 then ((rees_Size.f k l0_0 a0_1 a0_2 l0_3 a0_4).bind fun t350 => (if t350 = 0 then ((rees_Regular.f k l0_0 a0_1 a0_2 l0_3 a0_4).bind fun t351 => (if t351 = true then (some false) else ((semigrouplaw17_awake.f k).bind fun t352 => (some t352)))) else (some false))) else (some false)))))) = some r := H
 have A2 := Aside0.mk A20
 clear A20
 by_cases c3 : t346 = true
 ·subst c3
  have H1 : ((semigrouplaw17_awake.f k).bind fun t347 => (some t347)) = some r := by rw [if_pos rfl] at H; exact H
  clear H
  have H := H1
  clear H1
  replace H := Option.bind_eq_some_iff.mp H
  obtain ⟨t347, A40, H⟩ := H
  replace H : (some t347) = some r := H
  have A4 := Aside0.mk A40
  clear A40
  obtain rfl := Option.some.inj H
  go_enter Try.func4, Try.ntmps4
  go_wp2_with (first | ((with_reducible refine gate_dst (N := 1) rfl ?_); refine box_event ?hg (N := 1) ?hd (cs := #[.slice A0_0 l0_0.length c0_0, .int .i64 a0_1, .int .i64 a0_2, .slice A0_3 l0_3.length c0_3, .bool a0_4]) (t := 24) ?hr ?_; (case hd => rfl); (case hg => rfl); q_hr; intro gb345 hg w5 hbox hb; have n0_ := Aside0.mk (below_step q_hb hb); have n1_ := Aside0.mk (hbox); have n2_ := Aside0.mk ((by rw [hg]; exact q_bs : w.heap.size ≤ gb345)); have n3_ := Aside0.mk ((by rw [hg]; exact q_bs : w.heap.size ≤ gb345)); clear HB; have HB := n0_; have BK345 := n1_; have GW345 := n2_; have GE345 := n3_; clear n0_ n1_ n2_ n3_; (q_x hb hbox hg); have hcz6_0 : w5.cell? ⟨gb345, 0, none⟩ = some (.slice A0_0 l0_0.length c0_0) := (blk_cell BK345.out 0).trans rfl; have hcz6_1 : w5.cell? ⟨gb345, 1, none⟩ = some (.int .i64 a0_1) := (blk_cell BK345.out 1).trans rfl; have hcz6_2 : w5.cell? ⟨gb345, 2, none⟩ = some (.int .i64 a0_2) := (blk_cell BK345.out 2).trans rfl; have hcz6_3 : w5.cell? ⟨gb345, 3, none⟩ = some (.slice A0_3 l0_3.length c0_3) := (blk_cell BK345.out 3).trans rfl; have hcz6_4 : w5.cell? ⟨gb345, 4, none⟩ = some (.bool a0_4) := (blk_cell BK345.out 4).trans rfl; have hfz6_0 := blk_frozen BK345.out 0; have hfz6_1 := blk_frozen BK345.out 1; have hfz6_2 := blk_frozen BK345.out 2; have hfz6_3 := blk_frozen BK345.out 3; have hfz6_4 := blk_frozen BK345.out 4) | ((with_reducible refine gate_callee (f := 13) rfl ?_); refine goesL_ (some 6) rfl rfl Try.func13 (by kernel_rfl) rfl #[.slice A0_0 l0_0.length c0_0, .int .i64 16] rfl q_ml ?_; (with_reducible refine (semigrouplaw17_large.calls k _ _ l0_0 16 true _ ?side1 ?side2 A2.out).mono ?_); (case side1 => q_cc (Kd.C_below HR0_0.out HB.out)); (case side2 => exact HC0_0.out); rintro e w' ⟨rfl, ⟨nd, rfl⟩⟩; refine ⟨_, rfl, ?_⟩) | ((with_reducible refine gate_callee (f := 14) rfl ?_); refine goesL_ (some 7) rfl rfl Try.func14 (by kernel_rfl) rfl #[] rfl q_ml ?_; (with_reducible refine (semigrouplaw17_awake.calls k  t347 _ A4.out).mono ?_); rintro e w7 ⟨rfl, hb⟩; refine ⟨_, rfl, ?_⟩; have n0_ := Aside0.mk (blk_below (g := gb345) (o := .cells #[.slice A0_0 l0_0.length c0_0, .int .i64 a0_1, .int .i64 a0_2, .slice A0_3 l0_3.length c0_3, .bool a0_4] 24 (0, 0)) (by q_bk; exact BK345.out) hb); have n1_ := Aside0.mk (below_step (q_hs GE345.out) hb); clear BK345; clear HB; have BK345 := n0_; have HB := n1_; clear n0_ n1_; (q_x hb hb2 hk); (try clear hi)))
  go_ret
  exact ⟨by first | rfl | q_em | q_en, by repeat (first | (with_reducible first | exact HB.out | apply below_alloc | apply pw_below_drewN | apply below_drew1 | refine below_set ?_ GE345.out) | exact HB.out)⟩
 ·replace c3 := Bool.eq_false_iff.mpr c3
  subst c3
  have H1 : ((semigroupref17_Validate.f k l0_0 a0_1 a0_2 l0_3 a0_4).bind fun t348 => (if t348 = 0 then ((rees_Validate.f k l0_0 a0_1 a0_2 l0_3 a0_4).bind fun t353 => (if t353 = t348 then ((rees_Size.f k l0_0 a0_1 a0_2 l0_3 a0_4).bind fun t354 => ((semigroupref17_Size.f l0_0 a0_1 a0_2 l0_3 a0_4).bind fun t355 => (if t354 = t355 then ((rees_Regular.f k l0_0 a0_1 a0_2 l0_3 a0_4).bind fun t356 => ((semigroupref17_Regular.f k l0_0 a0_1 a0_2 l0_3 a0_4).bind fun t357 => (if (t356 == t357) = true then ((semigrouplaw17_awake.f k).bind fun t358 => (some t358)) else (some false)))) else (some false)))) else (some false))) else ((rees_Validate.f k l0_0 a0_1 a0_2 l0_3 a0_4).bind fun t349 => (if t349 = t348 then ((rees_Size.f k l0_0 a0_1 a0_2 l0_3 a0_4).bind fun t350 => (if t350 = 0 then ((rees_Regular.f k l0_0 a0_1 a0_2 l0_3 a0_4).bind fun t351 => (if t351 = true then (some false) else ((semigrouplaw17_awake.f k).bind fun t352 => (some t352)))) else (some false))) else (some false))))) = some r := by rw [if_neg (show ¬ (false = true) by decide)] at H; exact H
  clear H
  have H := H1
  clear H1
  replace H := Option.bind_eq_some_iff.mp H
  obtain ⟨t348, A80, H⟩ := H
  replace H : (if t348 = 0 then ((rees_Validate.f k l0_0 a0_1 a0_2 l0_3 a0_4).bind fun t353 => (if t353 = t348 then ((rees_Size.f k l0_0 a0_1 a0_2 l0_3 a0_4).bind fun t354 => ((semigroupref17_Size.f l0_0 a0_1 a0_2 l0_3 a0_4).bind fun t355 => (if t354 = t355 then ((rees_Regular.f k l0_0 a0_1 a0_2 l0_3 a0_4).bind fun t356 => ((semigroupref17_Regular.f k l0_0 a0_1 a0_2 l0_3 a0_4).bind fun t357 => (if (t356 == t357) = true then ((semigrouplaw17_awake.f k).bind fun t358 => (some t358)) else (some false)))) else (some false)))) else (some false))) else ((rees_Validate.f k l0_0 a0_1 a0_2 l0_3 a0_4).bind fun t349 => (if t349 = t348 then ((rees_Size.f k l0_0 a0_1 a0_2 l0_3 a0_4).bind fun t350 => (if t350 = 0 then ((rees_Regular.f k l0_0 a0_1 a0_2 l0_3 a0_4).bind fun t351 => (if t351 = true then (some false) else ((semigrouplaw17_awake.f k).bind fun t352 => (some t352)))) else (some false))) else (some false)))) = some r := H
  have A8 := Aside0.mk A80
  clear A80
  by_cases c9 : t348 = 0
  ·rw [if_pos c9] at H
   have c9b0 : (t348 == 0) = true := beq_iff_eq.mpr c9
   have c9b1 : (t348 != 0) = false := bne_eq_false_iff_eq.mpr c9
   clear c9
   replace H := Option.bind_eq_some_iff.mp H
   obtain ⟨t353, A100, H⟩ := H
   replace H : (if t353 = t348 then ((rees_Size.f k l0_0 a0_1 a0_2 l0_3 a0_4).bind fun t354 => ((semigroupref17_Size.f l0_0 a0_1 a0_2 l0_3 a0_4).bind fun t355 => (if t354 = t355 then ((rees_Regular.f k l0_0 a0_1 a0_2 l0_3 a0_4).bind fun t356 => ((semigroupref17_Regular.f k l0_0 a0_1 a0_2 l0_3 a0_4).bind fun t357 => (if (t356 == t357) = true then ((semigrouplaw17_awake.f k).bind fun t358 => (some t358)) else (some false)))) else (some false)))) else (some false)) = some r := H
   have A10 := Aside0.mk A100
   clear A100
   by_cases c11 : t353 = t348
   ·rw [if_pos c11] at H
    have c11b0 : (t353 == t348) = true := beq_iff_eq.mpr c11
    have c11b1 : (t353 != t348) = false := bne_eq_false_iff_eq.mpr c11
    clear c11
    replace H := Option.bind_eq_some_iff.mp H
    obtain ⟨t354, A120, H⟩ := H
    replace H : ((semigroupref17_Size.f l0_0 a0_1 a0_2 l0_3 a0_4).bind fun t355 => (if t354 = t355 then ((rees_Regular.f k l0_0 a0_1 a0_2 l0_3 a0_4).bind fun t356 => ((semigroupref17_Regular.f k l0_0 a0_1 a0_2 l0_3 a0_4).bind fun t357 => (if (t356 == t357) = true then ((semigrouplaw17_awake.f k).bind fun t358 => (some t358)) else (some false)))) else (some false))) = some r := H
    have A12 := Aside0.mk A120
    clear A120
    replace H := Option.bind_eq_some_iff.mp H
    obtain ⟨t355, A130, H⟩ := H
    replace H : (if t354 = t355 then ((rees_Regular.f k l0_0 a0_1 a0_2 l0_3 a0_4).bind fun t356 => ((semigroupref17_Regular.f k l0_0 a0_1 a0_2 l0_3 a0_4).bind fun t357 => (if (t356 == t357) = true then ((semigrouplaw17_awake.f k).bind fun t358 => (some t358)) else (some false)))) else (some false)) = some r := H
    have A13 := Aside0.mk A130
    clear A130
    by_cases c14 : t354 = t355
    ·rw [if_pos c14] at H
     have c14b0 : (t354 == t355) = true := beq_iff_eq.mpr c14
     have c14b1 : (t354 != t355) = false := bne_eq_false_iff_eq.mpr c14
     clear c14
     replace H := Option.bind_eq_some_iff.mp H
     obtain ⟨t356, A150, H⟩ := H
     replace H : ((semigroupref17_Regular.f k l0_0 a0_1 a0_2 l0_3 a0_4).bind fun t357 => (if (t356 == t357) = true then ((semigrouplaw17_awake.f k).bind fun t358 => (some t358)) else (some false))) = some r := H
     have A15 := Aside0.mk A150
     clear A150
     replace H := Option.bind_eq_some_iff.mp H
     obtain ⟨t357, A160, H⟩ := H
     replace H : (if (t356 == t357) = true then ((semigrouplaw17_awake.f k).bind fun t358 => (some t358)) else (some false)) = some r := H
     have A16 := Aside0.mk A160
     clear A160
     by_cases c17 : (t356 == t357) = true
     ·rw [if_pos c17] at H
      have c17b0 : (t356 == t357) = true := c17
      (try (have c17b1 : decide (t356 = t357) = true := by simpa using c17))
      (try (have c17b2 : (t356 == t357) = true := by simpa using c17))
      clear c17
      replace H := Option.bind_eq_some_iff.mp H
      obtain ⟨t358, A180, H⟩ := H
      replace H : (some t358) = some r := H
      have A18 := Aside0.mk A180
      clear A180
      obtain rfl := Option.some.inj H
      go_enter Try.func4, Try.ntmps4
      try go_wp2_with (first | ((with_reducible refine gate_dst (N := 1) rfl ?_); refine box_event ?hg (N := 1) ?hd (cs := #[.slice A0_0 l0_0.length c0_0, .int .i64 a0_1, .int .i64 a0_2, .slice A0_3 l0_3.length c0_3, .bool a0_4]) (t := 24) ?hr ?_; (case hd => rfl); (case hg => rfl); q_hr; intro gb345 hg w19 hbox hb; have n0_ := Aside0.mk (below_step q_hb hb); have n1_ := Aside0.mk (hbox); have n2_ := Aside0.mk ((by rw [hg]; exact q_bs : w.heap.size ≤ gb345)); have n3_ := Aside0.mk ((by rw [hg]; exact q_bs : w.heap.size ≤ gb345)); clear HB; have HB := n0_; have BK345 := n1_; have GW345 := n2_; have GE345 := n3_; clear n0_ n1_ n2_ n3_; (q_x hb hbox hg); have hcz20_0 : w19.cell? ⟨gb345, 0, none⟩ = some (.slice A0_0 l0_0.length c0_0) := (blk_cell BK345.out 0).trans rfl; have hcz20_1 : w19.cell? ⟨gb345, 1, none⟩ = some (.int .i64 a0_1) := (blk_cell BK345.out 1).trans rfl; have hcz20_2 : w19.cell? ⟨gb345, 2, none⟩ = some (.int .i64 a0_2) := (blk_cell BK345.out 2).trans rfl; have hcz20_3 : w19.cell? ⟨gb345, 3, none⟩ = some (.slice A0_3 l0_3.length c0_3) := (blk_cell BK345.out 3).trans rfl; have hcz20_4 : w19.cell? ⟨gb345, 4, none⟩ = some (.bool a0_4) := (blk_cell BK345.out 4).trans rfl; have hfz20_0 := blk_frozen BK345.out 0; have hfz20_1 := blk_frozen BK345.out 1; have hfz20_2 := blk_frozen BK345.out 2; have hfz20_3 := blk_frozen BK345.out 3; have hfz20_4 := blk_frozen BK345.out 4) | ((with_reducible refine gate_callee (f := 13) rfl ?_); refine goesL_ (some 6) rfl rfl Try.func13 (by kernel_rfl) rfl #[.slice A0_0 l0_0.length c0_0, .int .i64 16] rfl q_ml ?_; (with_reducible refine (semigrouplaw17_large.calls k _ _ l0_0 16 false _ ?side1 ?side2 A2.out).mono ?_); (case side1 => q_cc (Kd.C_below HR0_0.out HB.out)); (case side2 => exact HC0_0.out); rintro e w' ⟨rfl, ⟨nd, rfl⟩⟩; refine ⟨_, rfl, ?_⟩) | ((with_reducible refine gate_callee (f := 15) rfl ?_); refine goesL_ (some 9) rfl rfl Try.func15 (by kernel_rfl) rfl #[.agg #[.slice A0_0 l0_0.length c0_0, .int .i64 a0_1, .int .i64 a0_2, .slice A0_3 l0_3.length c0_3, .bool a0_4]] rfl q_ml ?_; (with_reducible refine (semigroupref17_Validate.calls k _ _ l0_0 a0_1 a0_2 _ _ l0_3 a0_4 t348 _ ?side1 ?side2 ?side3 ?side4 A8.out).mono ?_); (case side1 => repeat (first | exact (Kd.C_below HR0_0.out (q_hs GE345.out)) | (with_reducible refine Kd.C_alloc ?_ _) | (with_reducible refine Kd.C_drewN ?_ _) | (with_reducible refine Kd.C_drew ?_))); (case side2 => exact HC0_0.out); (case side3 => repeat (first | exact (Kd.C_below HR0_3.out (q_hs GE345.out)) | (with_reducible refine Kd.C_alloc ?_ _) | (with_reducible refine Kd.C_drewN ?_ _) | (with_reducible refine Kd.C_drew ?_))); (case side4 => exact HC0_3.out); rintro e w21 ⟨rfl, hb⟩; refine ⟨_, rfl, ?_⟩; have n0_ := Aside0.mk (blk_below (g := gb345) (o := .cells #[.slice A0_0 l0_0.length c0_0, .int .i64 a0_1, .int .i64 a0_2, .slice A0_3 l0_3.length c0_3, .bool a0_4] 24 (0, 0)) (by q_bk; exact BK345.out) hb); have n1_ := Aside0.mk (below_step (q_hs GE345.out) hb); clear BK345; clear HB; have BK345 := n0_; have HB := n1_; clear n0_ n1_; (q_x hb hb2 hk); (try clear hi)))
      have n0_ := Aside0.mk (blk_drew BK345.out)
      have n1_ := Aside0.mk (below_drew1 HB.out)
      clear HB BK345
      have BK345 := n0_
      have HB := n1_
      clear n0_ n1_
      refine start_ (n := 22) (S := fun w' => w'.cell? ⟨gb345, 0, none⟩ = some (.slice A0_0 l0_0.length c0_0) ∧ w'.cell? ⟨gb345, 1, none⟩ = some (.int .i64 a0_1) ∧ w'.cell? ⟨gb345, 2, none⟩ = some (.int .i64 a0_2) ∧ w'.cell? ⟨gb345, 3, none⟩ = some (.slice A0_3 l0_3.length c0_3) ∧ w'.cell? ⟨gb345, 4, none⟩ = some (.bool a0_4)) (ds := []) #[false, false, false, false, false, false, false, false, false, false, false, false, false, false, false, false, false, false, false, false, false, false] (by kernel_rfl) rfl rfl ⟨(blk_cell BK345.out 0).trans rfl, (blk_cell BK345.out 1).trans rfl, (blk_cell BK345.out 2).trans rfl, (blk_cell BK345.out 3).trans rfl, (blk_cell BK345.out 4).trans rfl⟩ (fun hHeld => ?_); refine with_tabW semigrouplaw17_ReesValidates.tab6 semigrouplaw17_ReesValidates.bits6 (fun HT_ HW_ => ?_)
      generalize w21.drew = w22 at BK345 HB hHeld ⊢
      refine pure_ (i := 2) (N := some 31) (v := ?_) (a' := ?_) #[false, false, true, false, false, false, false, false, false, false, false, false, false, false, false, false, false, false, false, false, false, false] rfl rfl q_ho q_id (Or.inl ⟨by rfl, ?_⟩) ?_ ?_
      rotate_left
      ·intro w'
       go_simp
       with_reducible rfl
      rotate_left
      ·q_si
       rfl
      refine take_ (i := 0) (N := some 29) (v := ?_) (a' := ?_) #[true, false, true, false, false, false, false, false, false, false, false, false, false, false, false, false, false, false, false, false, false, false] rfl rfl q_to q_id (Or.inl ⟨by rfl, ?_⟩) hHeld ?_ ?_
      rotate_left
      ·rintro w' ⟨s0, s1, s2, s3, s4⟩
       go_simp
       with_reducible rfl
      rotate_left
      ·q_si
       rfl
      refine one_ (i := 1) (N := some 30) #[true, true, true, false, false, false, false, false, false, false, false, false, false, false, false, false, false, false, false, false, false, false] rfl rfl (one_of HT_.out (by kernel_rfl)) (by decide) (fun K hK => ?_)
      refine goes_ Try.func21 (by kernel_rfl) rfl #[.agg #[.slice A0_0 l0_0.length c0_0, .int .i64 a0_1, .int .i64 a0_2, .slice A0_3 l0_3.length c0_3, .bool a0_4]] (by rfl) rfl rfl q_ml ?_
      with_reducible refine (rees_Validate.calls k _ _ l0_0 a0_1 a0_2 _ _ l0_3 a0_4 t353 _ ?side1 ?side2 ?side3 ?side4 A10.out).mono ?_
      (case side1 => q_cc (Kd.C_below HR0_0.out HB.out))
      (case side2 => exact HC0_0.out)
      (case side3 => q_cc (Kd.C_below HR0_3.out HB.out))
      (case side4 => exact HC0_3.out)
      rintro e w23 ⟨rfl, hb⟩
      refine ⟨_, rfl, ?_⟩
      have n0_ := Aside0.mk (blk_below (g := gb345) (o := .cells #[.slice A0_0 l0_0.length c0_0, .int .i64 a0_1, .int .i64 a0_2, .slice A0_3 l0_3.length c0_3, .bool a0_4] 24 (0, 0)) (by q_bk; exact BK345.out) hb)
      have n1_ := Aside0.mk (below_step (q_hs GE345.out) hb)
      clear HB BK345
      have BK345 := n0_
      have HB := n1_
      clear n0_ n1_
      (try clear hb)
      (try clear hb2)
      (try clear hk)
      (try clear hi)
      refine hK.out _ _ ⟨(blk_cell BK345.out 0).trans rfl, (blk_cell BK345.out 1).trans rfl, (blk_cell BK345.out 2).trans rfl, (blk_cell BK345.out 3).trans rfl, (blk_cell BK345.out 4).trans rfl⟩ (fun hHeld => ?_)
      clear hK K
      refine norm_ (a' := ?_) ?_ ?_
      rotate_left
      ·show Act.put _ (some 30) _ = _
       simp only [Act.put, List.setIfInBounds_toArray, List.set_cons_zero, List.set_cons_succ, i64_w, i32_w]
       rfl
      refine pure_ (i := 3) (N := some 32) (v := ?_) (a' := ?_) #[true, true, true, true, false, false, false, false, false, false, false, false, false, false, false, false, false, false, false, false, false, false] rfl rfl q_ho q_id (Or.inl ⟨by rfl, ?_⟩) ?_ ?_
      rotate_left
      ·intro w'
       go_simp
       with_reducible rfl
      rotate_left
      ·q_si
       rfl
      refine pure_ (i := 4) (N := some 33) (v := ?_) (a' := ?_) #[true, true, true, true, true, false, false, false, false, false, false, false, false, false, false, false, false, false, false, false, false, false] rfl rfl q_ho q_id (Or.inl ⟨by rfl, ?_⟩) ?_ ?_
      rotate_left
      ·intro w'
       go_simp
       with_reducible rfl
      rotate_left
      ·q_si
       rfl
      refine take_ (i := 5) (N := some 34) (v := ?_) (a' := ?_) #[true, true, true, true, true, true, false, false, false, false, false, false, false, false, false, false, false, false, false, false, false, false] rfl rfl q_to q_id (Or.inl ⟨by rfl, ?_⟩) hHeld ?_ ?_
      rotate_left
      ·rintro w' ⟨s0, s1, s2, s3, s4⟩
       go_simp
       with_reducible rfl
      rotate_left
      ·q_si
       rfl
      refine take_ (i := 7) (N := some 36) (v := ?_) (a' := ?_) #[true, true, true, true, true, true, false, true, false, false, false, false, false, false, false, false, false, false, false, false, false, false] rfl rfl q_to q_id (Or.inl ⟨by rfl, ?_⟩) hHeld ?_ ?_
      rotate_left
      ·rintro w' ⟨s0, s1, s2, s3, s4⟩
       go_simp
       with_reducible rfl
      rotate_left
      ·q_si
       rfl
      refine one_ (i := 6) (N := some 35) #[true, true, true, true, true, true, true, true, false, false, false, false, false, false, false, false, false, false, false, false, false, false] rfl rfl (one_of HT_.out (by kernel_rfl)) (by decide) (fun K hK => ?_)
      refine goes_ Try.func22 (by kernel_rfl) rfl #[.agg #[.slice A0_0 l0_0.length c0_0, .int .i64 a0_1, .int .i64 a0_2, .slice A0_3 l0_3.length c0_3, .bool a0_4]] (by rfl) rfl rfl q_ml ?_
      with_reducible refine (rees_Size.calls k _ _ l0_0 a0_1 a0_2 _ _ l0_3 a0_4 t354 _ ?side1 ?side2 ?side3 ?side4 A12.out).mono ?_
      (case side1 => q_cc (Kd.C_below HR0_0.out HB.out))
      (case side2 => exact HC0_0.out)
      (case side3 => q_cc (Kd.C_below HR0_3.out HB.out))
      (case side4 => exact HC0_3.out)
      rintro e w24 ⟨rfl, hb⟩
      refine ⟨_, rfl, ?_⟩
      have n0_ := Aside0.mk (blk_below (g := gb345) (o := .cells #[.slice A0_0 l0_0.length c0_0, .int .i64 a0_1, .int .i64 a0_2, .slice A0_3 l0_3.length c0_3, .bool a0_4] 24 (0, 0)) (by q_bk; exact BK345.out) hb)
      have n1_ := Aside0.mk (below_step (q_hs GE345.out) hb)
      clear HB BK345
      have BK345 := n0_
      have HB := n1_
      clear n0_ n1_
      (try clear hb)
      (try clear hb2)
      (try clear hk)
      (try clear hi)
      refine hK.out _ _ ⟨(blk_cell BK345.out 0).trans rfl, (blk_cell BK345.out 1).trans rfl, (blk_cell BK345.out 2).trans rfl, (blk_cell BK345.out 3).trans rfl, (blk_cell BK345.out 4).trans rfl⟩ (fun hHeld => ?_)
      clear hK K
      refine norm_ (a' := ?_) ?_ ?_
      rotate_left
      ·show Act.put _ (some 35) _ = _
       simp only [Act.put, List.setIfInBounds_toArray, List.set_cons_zero, List.set_cons_succ, i64_w, i32_w]
       rfl
      refine one_ (i := 8) (N := some 37) #[true, true, true, true, true, true, true, true, true, false, false, false, false, false, false, false, false, false, false, false, false, false] rfl rfl (one_of HT_.out (by kernel_rfl)) (by decide) (fun K hK => ?_)
      refine goes_ Try.func16 (by kernel_rfl) rfl #[.agg #[.slice A0_0 l0_0.length c0_0, .int .i64 a0_1, .int .i64 a0_2, .slice A0_3 l0_3.length c0_3, .bool a0_4]] (by rfl) rfl rfl q_ml ?_
      with_reducible refine (semigroupref17_Size.calls _ _ l0_0 a0_1 a0_2 _ _ l0_3 a0_4 t355 _ ?side1 ?side2 ?side3 ?side4 A13.out).mono ?_
      (case side1 => q_cc (Kd.C_below HR0_0.out HB.out))
      (case side2 => exact HC0_0.out)
      (case side3 => q_cc (Kd.C_below HR0_3.out HB.out))
      (case side4 => exact HC0_3.out)
      rintro e w25 ⟨rfl, hb⟩
      refine ⟨_, rfl, ?_⟩
      have n0_ := Aside0.mk (blk_below (g := gb345) (o := .cells #[.slice A0_0 l0_0.length c0_0, .int .i64 a0_1, .int .i64 a0_2, .slice A0_3 l0_3.length c0_3, .bool a0_4] 24 (0, 0)) (by q_bk; exact BK345.out) hb)
      have n1_ := Aside0.mk (below_step (q_hs GE345.out) hb)
      clear HB BK345
      have BK345 := n0_
      have HB := n1_
      clear n0_ n1_
      (try clear hb)
      (try clear hb2)
      (try clear hk)
      (try clear hi)
      refine hK.out _ _ ⟨(blk_cell BK345.out 0).trans rfl, (blk_cell BK345.out 1).trans rfl, (blk_cell BK345.out 2).trans rfl, (blk_cell BK345.out 3).trans rfl, (blk_cell BK345.out 4).trans rfl⟩ (fun hHeld => ?_)
      clear hK K
      refine norm_ (a' := ?_) ?_ ?_
      rotate_left
      ·show Act.put _ (some 37) _ = _
       simp only [Act.put, List.setIfInBounds_toArray, List.set_cons_zero, List.set_cons_succ, i64_w, i32_w]
       rfl
      refine pure_ (i := 9) (N := some 38) (v := ?_) (a' := ?_) #[true, true, true, true, true, true, true, true, true, true, false, false, false, false, false, false, false, false, false, false, false, false] rfl rfl q_ho q_id (Or.inl ⟨by rfl, ?_⟩) ?_ ?_
      rotate_left
      ·intro w'
       go_simp
       with_reducible rfl
      rotate_left
      ·q_si
       rfl
      refine pure_ (i := 10) (N := some 39) (v := ?_) (a' := ?_) #[true, true, true, true, true, true, true, true, true, true, true, false, false, false, false, false, false, false, false, false, false, false] rfl rfl q_ho q_id (Or.inl ⟨by rfl, ?_⟩) ?_ ?_
      rotate_left
      ·intro w'
       go_simp
       with_reducible rfl
      rotate_left
      ·q_si
       rfl
      refine pure_ (i := 11) (N := some 40) (v := ?_) (a' := ?_) #[true, true, true, true, true, true, true, true, true, true, true, true, false, false, false, false, false, false, false, false, false, false] rfl rfl q_ho q_id (Or.inl ⟨by rfl, ?_⟩) ?_ ?_
      rotate_left
      ·intro w'
       go_simp
       with_reducible rfl
      rotate_left
      ·q_si
       rfl
      refine take_ (i := 12) (N := some 41) (v := ?_) (a' := ?_) #[true, true, true, true, true, true, true, true, true, true, true, true, true, false, false, false, false, false, false, false, false, false] rfl rfl q_to q_id (Or.inl ⟨by rfl, ?_⟩) hHeld ?_ ?_
      rotate_left
      ·rintro w' ⟨s0, s1, s2, s3, s4⟩
       go_simp
       with_reducible rfl
      rotate_left
      ·q_si
       rfl
      refine take_ (i := 14) (N := some 43) (v := ?_) (a' := ?_) #[true, true, true, true, true, true, true, true, true, true, true, true, true, false, true, false, false, false, false, false, false, false] rfl rfl q_to q_id (Or.inl ⟨by rfl, ?_⟩) hHeld ?_ ?_
      rotate_left
      ·rintro w' ⟨s0, s1, s2, s3, s4⟩
       go_simp
       with_reducible rfl
      rotate_left
      ·q_si
       rfl
      refine one_ (i := 13) (N := some 42) #[true, true, true, true, true, true, true, true, true, true, true, true, true, true, true, false, false, false, false, false, false, false] rfl rfl (one_of HT_.out (by kernel_rfl)) (by decide) (fun K hK => ?_)
      refine goes_ Try.func23 (by kernel_rfl) rfl #[.agg #[.slice A0_0 l0_0.length c0_0, .int .i64 a0_1, .int .i64 a0_2, .slice A0_3 l0_3.length c0_3, .bool a0_4]] (by rfl) rfl rfl q_ml ?_
      with_reducible refine (rees_Regular.calls k _ _ l0_0 a0_1 a0_2 _ _ l0_3 a0_4 t356 _ ?side1 ?side2 ?side3 ?side4 A15.out).mono ?_
      (case side1 => q_cc (Kd.C_below HR0_0.out HB.out))
      (case side2 => exact HC0_0.out)
      (case side3 => q_cc (Kd.C_below HR0_3.out HB.out))
      (case side4 => exact HC0_3.out)
      rintro e w26 ⟨rfl, hb⟩
      refine ⟨_, rfl, ?_⟩
      have n0_ := Aside0.mk (blk_below (g := gb345) (o := .cells #[.slice A0_0 l0_0.length c0_0, .int .i64 a0_1, .int .i64 a0_2, .slice A0_3 l0_3.length c0_3, .bool a0_4] 24 (0, 0)) (by q_bk; exact BK345.out) hb)
      have n1_ := Aside0.mk (below_step (q_hs GE345.out) hb)
      clear HB BK345
      have BK345 := n0_
      have HB := n1_
      clear n0_ n1_
      (try clear hb)
      (try clear hb2)
      (try clear hk)
      (try clear hi)
      refine hK.out _ _ ⟨(blk_cell BK345.out 0).trans rfl, (blk_cell BK345.out 1).trans rfl, (blk_cell BK345.out 2).trans rfl, (blk_cell BK345.out 3).trans rfl, (blk_cell BK345.out 4).trans rfl⟩ (fun hHeld => ?_)
      clear hK K
      refine norm_ (a' := ?_) ?_ ?_
      rotate_left
      ·show Act.put _ (some 42) _ = _
       simp only [Act.put, List.setIfInBounds_toArray, List.set_cons_zero, List.set_cons_succ, i64_w, i32_w]
       rfl
      refine one_ (i := 15) (N := some 44) #[true, true, true, true, true, true, true, true, true, true, true, true, true, true, true, true, false, false, false, false, false, false] rfl rfl (one_of HT_.out (by kernel_rfl)) (by decide) (fun K hK => ?_)
      refine goes_ Try.func24 (by kernel_rfl) rfl #[.agg #[.slice A0_0 l0_0.length c0_0, .int .i64 a0_1, .int .i64 a0_2, .slice A0_3 l0_3.length c0_3, .bool a0_4]] (by rfl) rfl rfl q_ml ?_
      with_reducible refine (semigroupref17_Regular.calls k _ _ l0_0 a0_1 a0_2 _ _ l0_3 a0_4 t357 _ ?side1 ?side2 ?side3 ?side4 A16.out).mono ?_
      (case side1 => q_cc (Kd.C_below HR0_0.out HB.out))
      (case side2 => exact HC0_0.out)
      (case side3 => q_cc (Kd.C_below HR0_3.out HB.out))
      (case side4 => exact HC0_3.out)
      rintro e w27 ⟨rfl, hb⟩
      refine ⟨_, rfl, ?_⟩
      have n0_ := Aside0.mk (blk_below (g := gb345) (o := .cells #[.slice A0_0 l0_0.length c0_0, .int .i64 a0_1, .int .i64 a0_2, .slice A0_3 l0_3.length c0_3, .bool a0_4] 24 (0, 0)) (by q_bk; exact BK345.out) hb)
      have n1_ := Aside0.mk (below_step (q_hs GE345.out) hb)
      clear HB BK345
      have BK345 := n0_
      have HB := n1_
      clear n0_ n1_
      (try clear hb)
      (try clear hb2)
      (try clear hk)
      (try clear hi)
      refine hK.out _ _ ⟨(blk_cell BK345.out 0).trans rfl, (blk_cell BK345.out 1).trans rfl, (blk_cell BK345.out 2).trans rfl, (blk_cell BK345.out 3).trans rfl, (blk_cell BK345.out 4).trans rfl⟩ (fun hHeld => ?_)
      clear hK K
      refine norm_ (a' := ?_) ?_ ?_
      rotate_left
      ·show Act.put _ (some 44) _ = _
       simp only [Act.put, List.setIfInBounds_toArray, List.set_cons_zero, List.set_cons_succ, i64_w, i32_w]
       rfl
      refine pure_ (i := 16) (N := some 45) (v := ?_) (a' := ?_) #[true, true, true, true, true, true, true, true, true, true, true, true, true, true, true, true, true, false, false, false, false, false] rfl rfl q_ho q_id (Or.inl ⟨by rfl, ?_⟩) ?_ ?_
      rotate_left
      ·intro w'
       go_simp
       with_reducible rfl
      rotate_left
      ·q_si
       rfl
      refine pure_ (i := 17) (N := some 46) (v := ?_) (a' := ?_) #[true, true, true, true, true, true, true, true, true, true, true, true, true, true, true, true, true, true, false, false, false, false] rfl rfl q_ho q_id (Or.inl ⟨by rfl, ?_⟩) ?_ ?_
      rotate_left
      ·intro w'
       go_simp
       with_reducible rfl
      rotate_left
      ·q_si
       rfl
      refine pure_ (i := 18) (N := some 47) (v := ?_) (a' := ?_) #[true, true, true, true, true, true, true, true, true, true, true, true, true, true, true, true, true, true, true, false, false, false] rfl rfl q_ho q_id (Or.inl ⟨by rfl, ?_⟩) ?_ ?_
      rotate_left
      ·intro w'
       go_simp
       with_reducible rfl
      rotate_left
      ·q_si
       rfl
      refine one_ (i := 19) (N := some 48) #[true, true, true, true, true, true, true, true, true, true, true, true, true, true, true, true, true, true, true, true, false, false] rfl rfl (one_of HT_.out (by kernel_rfl)) (by decide) (fun K hK => ?_)
      refine goes_ Try.func14 (by kernel_rfl) rfl #[] (by rfl) rfl rfl q_ml ?_
      with_reducible refine (semigrouplaw17_awake.calls k  t358 _ A18.out).mono ?_
      rintro e w28 ⟨rfl, hb⟩
      refine ⟨_, rfl, ?_⟩
      have n0_ := Aside0.mk (blk_below (g := gb345) (o := .cells #[.slice A0_0 l0_0.length c0_0, .int .i64 a0_1, .int .i64 a0_2, .slice A0_3 l0_3.length c0_3, .bool a0_4] 24 (0, 0)) (by q_bk; exact BK345.out) hb)
      have n1_ := Aside0.mk (below_step (q_hs GE345.out) hb)
      clear HB BK345
      have BK345 := n0_
      have HB := n1_
      clear n0_ n1_
      (try clear hb)
      (try clear hb2)
      (try clear hk)
      (try clear hi)
      refine hK.out _ _ ⟨(blk_cell BK345.out 0).trans rfl, (blk_cell BK345.out 1).trans rfl, (blk_cell BK345.out 2).trans rfl, (blk_cell BK345.out 3).trans rfl, (blk_cell BK345.out 4).trans rfl⟩ (fun hHeld => ?_)
      clear hK K
      refine norm_ (a' := ?_) ?_ ?_
      rotate_left
      ·show Act.put _ (some 48) _ = _
       simp only [Act.put, List.setIfInBounds_toArray, List.set_cons_zero, List.set_cons_succ, i64_w, i32_w]
       rfl
      refine pure_ (i := 20) (N := some 49) (v := ?_) (a' := ?_) #[true, true, true, true, true, true, true, true, true, true, true, true, true, true, true, true, true, true, true, true, true, false] rfl rfl q_ho q_id (Or.inl ⟨by rfl, ?_⟩) ?_ ?_
      rotate_left
      ·intro w'
       go_simp
       with_reducible rfl
      rotate_left
      ·q_si
       rfl
      refine pure_ (i := 21) (N := some 2) (v := ?_) (a' := ?_) #[true, true, true, true, true, true, true, true, true, true, true, true, true, true, true, true, true, true, true, true, true, true] rfl rfl q_ho q_id (Or.inl ⟨by rfl, ?_⟩) ?_ ?_
      rotate_left
      ·intro w'
       go_simp
       with_reducible rfl
      rotate_left
      ·q_si
       rfl
      refine done_ (done_of HT_.out (by kernel_rfl)) ?_
      try go_wp2
      go_ret
      exact ⟨by first | rfl | q_em | q_en, by repeat (first | (with_reducible first | exact HB.out | apply below_alloc | apply pw_below_drewN | apply below_drew1 | refine below_set ?_ GE345.out) | exact HB.out)⟩
     ·rw [if_neg c17] at H
      have c17b0 : (t356 == t357) = false := by simpa using c17
      (try (have c17b1 : decide (t356 = t357) = false := by simpa using c17))
      (try (have c17b2 : (t356 == t357) = false := by simpa using c17))
      (try (have c17b3 : ¬ (t356 = t357) := by simpa using c17))
      clear c17
      obtain rfl := Option.some.inj H
      go_enter Try.func4, Try.ntmps4
      try go_wp2_with (first | ((with_reducible refine gate_dst (N := 1) rfl ?_); refine box_event ?hg (N := 1) ?hd (cs := #[.slice A0_0 l0_0.length c0_0, .int .i64 a0_1, .int .i64 a0_2, .slice A0_3 l0_3.length c0_3, .bool a0_4]) (t := 24) ?hr ?_; (case hd => rfl); (case hg => rfl); q_hr; intro gb345 hg w29 hbox hb; have n0_ := Aside0.mk (below_step q_hb hb); have n1_ := Aside0.mk (hbox); have n2_ := Aside0.mk ((by rw [hg]; exact q_bs : w.heap.size ≤ gb345)); have n3_ := Aside0.mk ((by rw [hg]; exact q_bs : w.heap.size ≤ gb345)); clear HB; have HB := n0_; have BK345 := n1_; have GW345 := n2_; have GE345 := n3_; clear n0_ n1_ n2_ n3_; (q_x hb hbox hg); have hcz30_0 : w29.cell? ⟨gb345, 0, none⟩ = some (.slice A0_0 l0_0.length c0_0) := (blk_cell BK345.out 0).trans rfl; have hcz30_1 : w29.cell? ⟨gb345, 1, none⟩ = some (.int .i64 a0_1) := (blk_cell BK345.out 1).trans rfl; have hcz30_2 : w29.cell? ⟨gb345, 2, none⟩ = some (.int .i64 a0_2) := (blk_cell BK345.out 2).trans rfl; have hcz30_3 : w29.cell? ⟨gb345, 3, none⟩ = some (.slice A0_3 l0_3.length c0_3) := (blk_cell BK345.out 3).trans rfl; have hcz30_4 : w29.cell? ⟨gb345, 4, none⟩ = some (.bool a0_4) := (blk_cell BK345.out 4).trans rfl; have hfz30_0 := blk_frozen BK345.out 0; have hfz30_1 := blk_frozen BK345.out 1; have hfz30_2 := blk_frozen BK345.out 2; have hfz30_3 := blk_frozen BK345.out 3; have hfz30_4 := blk_frozen BK345.out 4) | ((with_reducible refine gate_callee (f := 13) rfl ?_); refine goesL_ (some 6) rfl rfl Try.func13 (by kernel_rfl) rfl #[.slice A0_0 l0_0.length c0_0, .int .i64 16] rfl q_ml ?_; (with_reducible refine (semigrouplaw17_large.calls k _ _ l0_0 16 false _ ?side1 ?side2 A2.out).mono ?_); (case side1 => q_cc (Kd.C_below HR0_0.out HB.out)); (case side2 => exact HC0_0.out); rintro e w' ⟨rfl, ⟨nd, rfl⟩⟩; refine ⟨_, rfl, ?_⟩) | ((with_reducible refine gate_callee (f := 15) rfl ?_); refine goesL_ (some 9) rfl rfl Try.func15 (by kernel_rfl) rfl #[.agg #[.slice A0_0 l0_0.length c0_0, .int .i64 a0_1, .int .i64 a0_2, .slice A0_3 l0_3.length c0_3, .bool a0_4]] rfl q_ml ?_; (with_reducible refine (semigroupref17_Validate.calls k _ _ l0_0 a0_1 a0_2 _ _ l0_3 a0_4 t348 _ ?side1 ?side2 ?side3 ?side4 A8.out).mono ?_); (case side1 => repeat (first | exact (Kd.C_below HR0_0.out (q_hs GE345.out)) | (with_reducible refine Kd.C_alloc ?_ _) | (with_reducible refine Kd.C_drewN ?_ _) | (with_reducible refine Kd.C_drew ?_))); (case side2 => exact HC0_0.out); (case side3 => repeat (first | exact (Kd.C_below HR0_3.out (q_hs GE345.out)) | (with_reducible refine Kd.C_alloc ?_ _) | (with_reducible refine Kd.C_drewN ?_ _) | (with_reducible refine Kd.C_drew ?_))); (case side4 => exact HC0_3.out); rintro e w31 ⟨rfl, hb⟩; refine ⟨_, rfl, ?_⟩; have n0_ := Aside0.mk (blk_below (g := gb345) (o := .cells #[.slice A0_0 l0_0.length c0_0, .int .i64 a0_1, .int .i64 a0_2, .slice A0_3 l0_3.length c0_3, .bool a0_4] 24 (0, 0)) (by q_bk; exact BK345.out) hb); have n1_ := Aside0.mk (below_step (q_hs GE345.out) hb); clear BK345; clear HB; have BK345 := n0_; have HB := n1_; clear n0_ n1_; (q_x hb hb2 hk); (try clear hi)))
      have n0_ := Aside0.mk (blk_drew BK345.out)
      have n1_ := Aside0.mk (below_drew1 HB.out)
      clear HB BK345
      have BK345 := n0_
      have HB := n1_
      clear n0_ n1_
      refine start_ (n := 22) (S := fun w' => w'.cell? ⟨gb345, 0, none⟩ = some (.slice A0_0 l0_0.length c0_0) ∧ w'.cell? ⟨gb345, 1, none⟩ = some (.int .i64 a0_1) ∧ w'.cell? ⟨gb345, 2, none⟩ = some (.int .i64 a0_2) ∧ w'.cell? ⟨gb345, 3, none⟩ = some (.slice A0_3 l0_3.length c0_3) ∧ w'.cell? ⟨gb345, 4, none⟩ = some (.bool a0_4)) (ds := []) #[false, false, false, false, false, false, false, false, false, false, false, false, false, false, false, false, false, false, false, false, false, false] (by kernel_rfl) rfl rfl ⟨(blk_cell BK345.out 0).trans rfl, (blk_cell BK345.out 1).trans rfl, (blk_cell BK345.out 2).trans rfl, (blk_cell BK345.out 3).trans rfl, (blk_cell BK345.out 4).trans rfl⟩ (fun hHeld => ?_); refine with_tabW semigrouplaw17_ReesValidates.tab6 semigrouplaw17_ReesValidates.bits6 (fun HT_ HW_ => ?_)
      generalize w31.drew = w32 at BK345 HB hHeld ⊢
      refine pure_ (i := 2) (N := some 31) (v := ?_) (a' := ?_) #[false, false, true, false, false, false, false, false, false, false, false, false, false, false, false, false, false, false, false, false, false, false] rfl rfl q_ho q_id (Or.inl ⟨by rfl, ?_⟩) ?_ ?_
      rotate_left
      ·intro w'
       go_simp
       with_reducible rfl
      rotate_left
      ·q_si
       rfl
      refine take_ (i := 0) (N := some 29) (v := ?_) (a' := ?_) #[true, false, true, false, false, false, false, false, false, false, false, false, false, false, false, false, false, false, false, false, false, false] rfl rfl q_to q_id (Or.inl ⟨by rfl, ?_⟩) hHeld ?_ ?_
      rotate_left
      ·rintro w' ⟨s0, s1, s2, s3, s4⟩
       go_simp
       with_reducible rfl
      rotate_left
      ·q_si
       rfl
      refine one_ (i := 1) (N := some 30) #[true, true, true, false, false, false, false, false, false, false, false, false, false, false, false, false, false, false, false, false, false, false] rfl rfl (one_of HT_.out (by kernel_rfl)) (by decide) (fun K hK => ?_)
      refine goes_ Try.func21 (by kernel_rfl) rfl #[.agg #[.slice A0_0 l0_0.length c0_0, .int .i64 a0_1, .int .i64 a0_2, .slice A0_3 l0_3.length c0_3, .bool a0_4]] (by rfl) rfl rfl q_ml ?_
      with_reducible refine (rees_Validate.calls k _ _ l0_0 a0_1 a0_2 _ _ l0_3 a0_4 t353 _ ?side1 ?side2 ?side3 ?side4 A10.out).mono ?_
      (case side1 => q_cc (Kd.C_below HR0_0.out HB.out))
      (case side2 => exact HC0_0.out)
      (case side3 => q_cc (Kd.C_below HR0_3.out HB.out))
      (case side4 => exact HC0_3.out)
      rintro e w33 ⟨rfl, hb⟩
      refine ⟨_, rfl, ?_⟩
      have n0_ := Aside0.mk (blk_below (g := gb345) (o := .cells #[.slice A0_0 l0_0.length c0_0, .int .i64 a0_1, .int .i64 a0_2, .slice A0_3 l0_3.length c0_3, .bool a0_4] 24 (0, 0)) (by q_bk; exact BK345.out) hb)
      have n1_ := Aside0.mk (below_step (q_hs GE345.out) hb)
      clear HB BK345
      have BK345 := n0_
      have HB := n1_
      clear n0_ n1_
      (try clear hb)
      (try clear hb2)
      (try clear hk)
      (try clear hi)
      refine hK.out _ _ ⟨(blk_cell BK345.out 0).trans rfl, (blk_cell BK345.out 1).trans rfl, (blk_cell BK345.out 2).trans rfl, (blk_cell BK345.out 3).trans rfl, (blk_cell BK345.out 4).trans rfl⟩ (fun hHeld => ?_)
      clear hK K
      refine norm_ (a' := ?_) ?_ ?_
      rotate_left
      ·show Act.put _ (some 30) _ = _
       simp only [Act.put, List.setIfInBounds_toArray, List.set_cons_zero, List.set_cons_succ, i64_w, i32_w]
       rfl
      refine pure_ (i := 3) (N := some 32) (v := ?_) (a' := ?_) #[true, true, true, true, false, false, false, false, false, false, false, false, false, false, false, false, false, false, false, false, false, false] rfl rfl q_ho q_id (Or.inl ⟨by rfl, ?_⟩) ?_ ?_
      rotate_left
      ·intro w'
       go_simp
       with_reducible rfl
      rotate_left
      ·q_si
       rfl
      refine pure_ (i := 4) (N := some 33) (v := ?_) (a' := ?_) #[true, true, true, true, true, false, false, false, false, false, false, false, false, false, false, false, false, false, false, false, false, false] rfl rfl q_ho q_id (Or.inl ⟨by rfl, ?_⟩) ?_ ?_
      rotate_left
      ·intro w'
       go_simp
       with_reducible rfl
      rotate_left
      ·q_si
       rfl
      refine take_ (i := 5) (N := some 34) (v := ?_) (a' := ?_) #[true, true, true, true, true, true, false, false, false, false, false, false, false, false, false, false, false, false, false, false, false, false] rfl rfl q_to q_id (Or.inl ⟨by rfl, ?_⟩) hHeld ?_ ?_
      rotate_left
      ·rintro w' ⟨s0, s1, s2, s3, s4⟩
       go_simp
       with_reducible rfl
      rotate_left
      ·q_si
       rfl
      refine take_ (i := 7) (N := some 36) (v := ?_) (a' := ?_) #[true, true, true, true, true, true, false, true, false, false, false, false, false, false, false, false, false, false, false, false, false, false] rfl rfl q_to q_id (Or.inl ⟨by rfl, ?_⟩) hHeld ?_ ?_
      rotate_left
      ·rintro w' ⟨s0, s1, s2, s3, s4⟩
       go_simp
       with_reducible rfl
      rotate_left
      ·q_si
       rfl
      refine one_ (i := 6) (N := some 35) #[true, true, true, true, true, true, true, true, false, false, false, false, false, false, false, false, false, false, false, false, false, false] rfl rfl (one_of HT_.out (by kernel_rfl)) (by decide) (fun K hK => ?_)
      refine goes_ Try.func22 (by kernel_rfl) rfl #[.agg #[.slice A0_0 l0_0.length c0_0, .int .i64 a0_1, .int .i64 a0_2, .slice A0_3 l0_3.length c0_3, .bool a0_4]] (by rfl) rfl rfl q_ml ?_
      with_reducible refine (rees_Size.calls k _ _ l0_0 a0_1 a0_2 _ _ l0_3 a0_4 t354 _ ?side1 ?side2 ?side3 ?side4 A12.out).mono ?_
      (case side1 => q_cc (Kd.C_below HR0_0.out HB.out))
      (case side2 => exact HC0_0.out)
      (case side3 => q_cc (Kd.C_below HR0_3.out HB.out))
      (case side4 => exact HC0_3.out)
      rintro e w34 ⟨rfl, hb⟩
      refine ⟨_, rfl, ?_⟩
      have n0_ := Aside0.mk (blk_below (g := gb345) (o := .cells #[.slice A0_0 l0_0.length c0_0, .int .i64 a0_1, .int .i64 a0_2, .slice A0_3 l0_3.length c0_3, .bool a0_4] 24 (0, 0)) (by q_bk; exact BK345.out) hb)
      have n1_ := Aside0.mk (below_step (q_hs GE345.out) hb)
      clear HB BK345
      have BK345 := n0_
      have HB := n1_
      clear n0_ n1_
      (try clear hb)
      (try clear hb2)
      (try clear hk)
      (try clear hi)
      refine hK.out _ _ ⟨(blk_cell BK345.out 0).trans rfl, (blk_cell BK345.out 1).trans rfl, (blk_cell BK345.out 2).trans rfl, (blk_cell BK345.out 3).trans rfl, (blk_cell BK345.out 4).trans rfl⟩ (fun hHeld => ?_)
      clear hK K
      refine norm_ (a' := ?_) ?_ ?_
      rotate_left
      ·show Act.put _ (some 35) _ = _
       simp only [Act.put, List.setIfInBounds_toArray, List.set_cons_zero, List.set_cons_succ, i64_w, i32_w]
       rfl
      refine one_ (i := 8) (N := some 37) #[true, true, true, true, true, true, true, true, true, false, false, false, false, false, false, false, false, false, false, false, false, false] rfl rfl (one_of HT_.out (by kernel_rfl)) (by decide) (fun K hK => ?_)
      refine goes_ Try.func16 (by kernel_rfl) rfl #[.agg #[.slice A0_0 l0_0.length c0_0, .int .i64 a0_1, .int .i64 a0_2, .slice A0_3 l0_3.length c0_3, .bool a0_4]] (by rfl) rfl rfl q_ml ?_
      with_reducible refine (semigroupref17_Size.calls _ _ l0_0 a0_1 a0_2 _ _ l0_3 a0_4 t355 _ ?side1 ?side2 ?side3 ?side4 A13.out).mono ?_
      (case side1 => q_cc (Kd.C_below HR0_0.out HB.out))
      (case side2 => exact HC0_0.out)
      (case side3 => q_cc (Kd.C_below HR0_3.out HB.out))
      (case side4 => exact HC0_3.out)
      rintro e w35 ⟨rfl, hb⟩
      refine ⟨_, rfl, ?_⟩
      have n0_ := Aside0.mk (blk_below (g := gb345) (o := .cells #[.slice A0_0 l0_0.length c0_0, .int .i64 a0_1, .int .i64 a0_2, .slice A0_3 l0_3.length c0_3, .bool a0_4] 24 (0, 0)) (by q_bk; exact BK345.out) hb)
      have n1_ := Aside0.mk (below_step (q_hs GE345.out) hb)
      clear HB BK345
      have BK345 := n0_
      have HB := n1_
      clear n0_ n1_
      (try clear hb)
      (try clear hb2)
      (try clear hk)
      (try clear hi)
      refine hK.out _ _ ⟨(blk_cell BK345.out 0).trans rfl, (blk_cell BK345.out 1).trans rfl, (blk_cell BK345.out 2).trans rfl, (blk_cell BK345.out 3).trans rfl, (blk_cell BK345.out 4).trans rfl⟩ (fun hHeld => ?_)
      clear hK K
      refine norm_ (a' := ?_) ?_ ?_
      rotate_left
      ·show Act.put _ (some 37) _ = _
       simp only [Act.put, List.setIfInBounds_toArray, List.set_cons_zero, List.set_cons_succ, i64_w, i32_w]
       rfl
      refine pure_ (i := 9) (N := some 38) (v := ?_) (a' := ?_) #[true, true, true, true, true, true, true, true, true, true, false, false, false, false, false, false, false, false, false, false, false, false] rfl rfl q_ho q_id (Or.inl ⟨by rfl, ?_⟩) ?_ ?_
      rotate_left
      ·intro w'
       go_simp
       with_reducible rfl
      rotate_left
      ·q_si
       rfl
      refine pure_ (i := 10) (N := some 39) (v := ?_) (a' := ?_) #[true, true, true, true, true, true, true, true, true, true, true, false, false, false, false, false, false, false, false, false, false, false] rfl rfl q_ho q_id (Or.inl ⟨by rfl, ?_⟩) ?_ ?_
      rotate_left
      ·intro w'
       go_simp
       with_reducible rfl
      rotate_left
      ·q_si
       rfl
      refine pure_ (i := 11) (N := some 40) (v := ?_) (a' := ?_) #[true, true, true, true, true, true, true, true, true, true, true, true, false, false, false, false, false, false, false, false, false, false] rfl rfl q_ho q_id (Or.inl ⟨by rfl, ?_⟩) ?_ ?_
      rotate_left
      ·intro w'
       go_simp
       with_reducible rfl
      rotate_left
      ·q_si
       rfl
      refine take_ (i := 12) (N := some 41) (v := ?_) (a' := ?_) #[true, true, true, true, true, true, true, true, true, true, true, true, true, false, false, false, false, false, false, false, false, false] rfl rfl q_to q_id (Or.inl ⟨by rfl, ?_⟩) hHeld ?_ ?_
      rotate_left
      ·rintro w' ⟨s0, s1, s2, s3, s4⟩
       go_simp
       with_reducible rfl
      rotate_left
      ·q_si
       rfl
      refine take_ (i := 14) (N := some 43) (v := ?_) (a' := ?_) #[true, true, true, true, true, true, true, true, true, true, true, true, true, false, true, false, false, false, false, false, false, false] rfl rfl q_to q_id (Or.inl ⟨by rfl, ?_⟩) hHeld ?_ ?_
      rotate_left
      ·rintro w' ⟨s0, s1, s2, s3, s4⟩
       go_simp
       with_reducible rfl
      rotate_left
      ·q_si
       rfl
      refine one_ (i := 13) (N := some 42) #[true, true, true, true, true, true, true, true, true, true, true, true, true, true, true, false, false, false, false, false, false, false] rfl rfl (one_of HT_.out (by kernel_rfl)) (by decide) (fun K hK => ?_)
      refine goes_ Try.func23 (by kernel_rfl) rfl #[.agg #[.slice A0_0 l0_0.length c0_0, .int .i64 a0_1, .int .i64 a0_2, .slice A0_3 l0_3.length c0_3, .bool a0_4]] (by rfl) rfl rfl q_ml ?_
      with_reducible refine (rees_Regular.calls k _ _ l0_0 a0_1 a0_2 _ _ l0_3 a0_4 t356 _ ?side1 ?side2 ?side3 ?side4 A15.out).mono ?_
      (case side1 => q_cc (Kd.C_below HR0_0.out HB.out))
      (case side2 => exact HC0_0.out)
      (case side3 => q_cc (Kd.C_below HR0_3.out HB.out))
      (case side4 => exact HC0_3.out)
      rintro e w36 ⟨rfl, hb⟩
      refine ⟨_, rfl, ?_⟩
      have n0_ := Aside0.mk (blk_below (g := gb345) (o := .cells #[.slice A0_0 l0_0.length c0_0, .int .i64 a0_1, .int .i64 a0_2, .slice A0_3 l0_3.length c0_3, .bool a0_4] 24 (0, 0)) (by q_bk; exact BK345.out) hb)
      have n1_ := Aside0.mk (below_step (q_hs GE345.out) hb)
      clear HB BK345
      have BK345 := n0_
      have HB := n1_
      clear n0_ n1_
      (try clear hb)
      (try clear hb2)
      (try clear hk)
      (try clear hi)
      refine hK.out _ _ ⟨(blk_cell BK345.out 0).trans rfl, (blk_cell BK345.out 1).trans rfl, (blk_cell BK345.out 2).trans rfl, (blk_cell BK345.out 3).trans rfl, (blk_cell BK345.out 4).trans rfl⟩ (fun hHeld => ?_)
      clear hK K
      refine norm_ (a' := ?_) ?_ ?_
      rotate_left
      ·show Act.put _ (some 42) _ = _
       simp only [Act.put, List.setIfInBounds_toArray, List.set_cons_zero, List.set_cons_succ, i64_w, i32_w]
       rfl
      refine one_ (i := 15) (N := some 44) #[true, true, true, true, true, true, true, true, true, true, true, true, true, true, true, true, false, false, false, false, false, false] rfl rfl (one_of HT_.out (by kernel_rfl)) (by decide) (fun K hK => ?_)
      refine goes_ Try.func24 (by kernel_rfl) rfl #[.agg #[.slice A0_0 l0_0.length c0_0, .int .i64 a0_1, .int .i64 a0_2, .slice A0_3 l0_3.length c0_3, .bool a0_4]] (by rfl) rfl rfl q_ml ?_
      with_reducible refine (semigroupref17_Regular.calls k _ _ l0_0 a0_1 a0_2 _ _ l0_3 a0_4 t357 _ ?side1 ?side2 ?side3 ?side4 A16.out).mono ?_
      (case side1 => q_cc (Kd.C_below HR0_0.out HB.out))
      (case side2 => exact HC0_0.out)
      (case side3 => q_cc (Kd.C_below HR0_3.out HB.out))
      (case side4 => exact HC0_3.out)
      rintro e w37 ⟨rfl, hb⟩
      refine ⟨_, rfl, ?_⟩
      have n0_ := Aside0.mk (blk_below (g := gb345) (o := .cells #[.slice A0_0 l0_0.length c0_0, .int .i64 a0_1, .int .i64 a0_2, .slice A0_3 l0_3.length c0_3, .bool a0_4] 24 (0, 0)) (by q_bk; exact BK345.out) hb)
      have n1_ := Aside0.mk (below_step (q_hs GE345.out) hb)
      clear HB BK345
      have BK345 := n0_
      have HB := n1_
      clear n0_ n1_
      (try clear hb)
      (try clear hb2)
      (try clear hk)
      (try clear hi)
      refine hK.out _ _ ⟨(blk_cell BK345.out 0).trans rfl, (blk_cell BK345.out 1).trans rfl, (blk_cell BK345.out 2).trans rfl, (blk_cell BK345.out 3).trans rfl, (blk_cell BK345.out 4).trans rfl⟩ (fun hHeld => ?_)
      clear hK K
      refine norm_ (a' := ?_) ?_ ?_
      rotate_left
      ·show Act.put _ (some 44) _ = _
       simp only [Act.put, List.setIfInBounds_toArray, List.set_cons_zero, List.set_cons_succ, i64_w, i32_w]
       rfl
      refine pure_ (i := 16) (N := some 45) (v := ?_) (a' := ?_) #[true, true, true, true, true, true, true, true, true, true, true, true, true, true, true, true, true, false, false, false, false, false] rfl rfl q_ho q_id (Or.inl ⟨by rfl, ?_⟩) ?_ ?_
      rotate_left
      ·intro w'
       go_simp
       with_reducible rfl
      rotate_left
      ·q_si
       rfl
      refine pure_ (i := 17) (N := some 46) (v := ?_) (a' := ?_) #[true, true, true, true, true, true, true, true, true, true, true, true, true, true, true, true, true, true, false, false, false, false] rfl rfl q_ho q_id (Or.inl ⟨by rfl, ?_⟩) ?_ ?_
      rotate_left
      ·intro w'
       go_simp
       with_reducible rfl
      rotate_left
      ·q_si
       rfl
      refine pure_ (i := 18) (N := some 47) (v := ?_) (a' := ?_) #[true, true, true, true, true, true, true, true, true, true, true, true, true, true, true, true, true, true, true, false, false, false] rfl rfl q_ho q_id (Or.inl ⟨by rfl, ?_⟩) ?_ ?_
      rotate_left
      ·intro w'
       go_simp
       with_reducible rfl
      rotate_left
      ·q_si
       rfl
      refine pure_ (i := 19) (N := some 48) (v := undef) (a' := ?_) #[true, true, true, true, true, true, true, true, true, true, true, true, true, true, true, true, true, true, true, true, false, false] rfl rfl q_ho (fun _ _ _ h => h) (Or.inr ⟨by rfl, rfl⟩) ?_ ?_
      rotate_left
      ·q_si
       rfl
      refine pure_ (i := 20) (N := some 49) (v := ?_) (a' := ?_) #[true, true, true, true, true, true, true, true, true, true, true, true, true, true, true, true, true, true, true, true, true, false] rfl rfl q_ho q_id (Or.inl ⟨by rfl, ?_⟩) ?_ ?_
      rotate_left
      ·intro w'
       go_simp
       with_reducible rfl
      rotate_left
      ·q_si
       rfl
      refine pure_ (i := 21) (N := some 2) (v := ?_) (a' := ?_) #[true, true, true, true, true, true, true, true, true, true, true, true, true, true, true, true, true, true, true, true, true, true] rfl rfl q_ho q_id (Or.inl ⟨by rfl, ?_⟩) ?_ ?_
      rotate_left
      ·intro w'
       go_simp
       with_reducible rfl
      rotate_left
      ·q_si
       rfl
      refine done_ (done_of HT_.out (by kernel_rfl)) ?_
      try go_wp2
      go_ret
      exact ⟨by first | rfl | q_em | q_en, by repeat (first | (with_reducible first | exact HB.out | apply below_alloc | apply pw_below_drewN | apply below_drew1 | refine below_set ?_ GE345.out) | exact HB.out)⟩
    ·rw [if_neg c14] at H
     have c14b0 : (t354 == t355) = false := beq_eq_false_iff_ne.mpr c14
     have c14b1 : (t354 != t355) = true := bne_iff_ne.mpr c14
     obtain rfl := Option.some.inj H
     go_enter Try.func4, Try.ntmps4
     try go_wp2_with (first | ((with_reducible refine gate_dst (N := 1) rfl ?_); refine box_event ?hg (N := 1) ?hd (cs := #[.slice A0_0 l0_0.length c0_0, .int .i64 a0_1, .int .i64 a0_2, .slice A0_3 l0_3.length c0_3, .bool a0_4]) (t := 24) ?hr ?_; (case hd => rfl); (case hg => rfl); q_hr; intro gb345 hg w38 hbox hb; have n0_ := Aside0.mk (below_step q_hb hb); have n1_ := Aside0.mk (hbox); have n2_ := Aside0.mk ((by rw [hg]; exact q_bs : w.heap.size ≤ gb345)); have n3_ := Aside0.mk ((by rw [hg]; exact q_bs : w.heap.size ≤ gb345)); clear HB; have HB := n0_; have BK345 := n1_; have GW345 := n2_; have GE345 := n3_; clear n0_ n1_ n2_ n3_; (q_x hb hbox hg); have hcz39_0 : w38.cell? ⟨gb345, 0, none⟩ = some (.slice A0_0 l0_0.length c0_0) := (blk_cell BK345.out 0).trans rfl; have hcz39_1 : w38.cell? ⟨gb345, 1, none⟩ = some (.int .i64 a0_1) := (blk_cell BK345.out 1).trans rfl; have hcz39_2 : w38.cell? ⟨gb345, 2, none⟩ = some (.int .i64 a0_2) := (blk_cell BK345.out 2).trans rfl; have hcz39_3 : w38.cell? ⟨gb345, 3, none⟩ = some (.slice A0_3 l0_3.length c0_3) := (blk_cell BK345.out 3).trans rfl; have hcz39_4 : w38.cell? ⟨gb345, 4, none⟩ = some (.bool a0_4) := (blk_cell BK345.out 4).trans rfl; have hfz39_0 := blk_frozen BK345.out 0; have hfz39_1 := blk_frozen BK345.out 1; have hfz39_2 := blk_frozen BK345.out 2; have hfz39_3 := blk_frozen BK345.out 3; have hfz39_4 := blk_frozen BK345.out 4) | ((with_reducible refine gate_callee (f := 13) rfl ?_); refine goesL_ (some 6) rfl rfl Try.func13 (by kernel_rfl) rfl #[.slice A0_0 l0_0.length c0_0, .int .i64 16] rfl q_ml ?_; (with_reducible refine (semigrouplaw17_large.calls k _ _ l0_0 16 false _ ?side1 ?side2 A2.out).mono ?_); (case side1 => q_cc (Kd.C_below HR0_0.out HB.out)); (case side2 => exact HC0_0.out); rintro e w' ⟨rfl, ⟨nd, rfl⟩⟩; refine ⟨_, rfl, ?_⟩) | ((with_reducible refine gate_callee (f := 15) rfl ?_); refine goesL_ (some 9) rfl rfl Try.func15 (by kernel_rfl) rfl #[.agg #[.slice A0_0 l0_0.length c0_0, .int .i64 a0_1, .int .i64 a0_2, .slice A0_3 l0_3.length c0_3, .bool a0_4]] rfl q_ml ?_; (with_reducible refine (semigroupref17_Validate.calls k _ _ l0_0 a0_1 a0_2 _ _ l0_3 a0_4 t348 _ ?side1 ?side2 ?side3 ?side4 A8.out).mono ?_); (case side1 => repeat (first | exact (Kd.C_below HR0_0.out (q_hs GE345.out)) | (with_reducible refine Kd.C_alloc ?_ _) | (with_reducible refine Kd.C_drewN ?_ _) | (with_reducible refine Kd.C_drew ?_))); (case side2 => exact HC0_0.out); (case side3 => repeat (first | exact (Kd.C_below HR0_3.out (q_hs GE345.out)) | (with_reducible refine Kd.C_alloc ?_ _) | (with_reducible refine Kd.C_drewN ?_ _) | (with_reducible refine Kd.C_drew ?_))); (case side4 => exact HC0_3.out); rintro e w40 ⟨rfl, hb⟩; refine ⟨_, rfl, ?_⟩; have n0_ := Aside0.mk (blk_below (g := gb345) (o := .cells #[.slice A0_0 l0_0.length c0_0, .int .i64 a0_1, .int .i64 a0_2, .slice A0_3 l0_3.length c0_3, .bool a0_4] 24 (0, 0)) (by q_bk; exact BK345.out) hb); have n1_ := Aside0.mk (below_step (q_hs GE345.out) hb); clear BK345; clear HB; have BK345 := n0_; have HB := n1_; clear n0_ n1_; (q_x hb hb2 hk); (try clear hi)))
     have n0_ := Aside0.mk (blk_drew BK345.out)
     have n1_ := Aside0.mk (below_drew1 HB.out)
     clear HB BK345
     have BK345 := n0_
     have HB := n1_
     clear n0_ n1_
     refine start_ (n := 22) (S := fun w' => w'.cell? ⟨gb345, 0, none⟩ = some (.slice A0_0 l0_0.length c0_0) ∧ w'.cell? ⟨gb345, 1, none⟩ = some (.int .i64 a0_1) ∧ w'.cell? ⟨gb345, 2, none⟩ = some (.int .i64 a0_2) ∧ w'.cell? ⟨gb345, 3, none⟩ = some (.slice A0_3 l0_3.length c0_3) ∧ w'.cell? ⟨gb345, 4, none⟩ = some (.bool a0_4)) (ds := []) #[false, false, false, false, false, false, false, false, false, false, false, false, false, false, false, false, false, false, false, false, false, false] (by kernel_rfl) rfl rfl ⟨(blk_cell BK345.out 0).trans rfl, (blk_cell BK345.out 1).trans rfl, (blk_cell BK345.out 2).trans rfl, (blk_cell BK345.out 3).trans rfl, (blk_cell BK345.out 4).trans rfl⟩ (fun hHeld => ?_); refine with_tabW semigrouplaw17_ReesValidates.tab6 semigrouplaw17_ReesValidates.bits6 (fun HT_ HW_ => ?_)
     generalize w40.drew = w41 at BK345 HB hHeld ⊢
     refine pure_ (i := 2) (N := some 31) (v := ?_) (a' := ?_) #[false, false, true, false, false, false, false, false, false, false, false, false, false, false, false, false, false, false, false, false, false, false] rfl rfl q_ho q_id (Or.inl ⟨by rfl, ?_⟩) ?_ ?_
     rotate_left
     ·intro w'
      go_simp
      with_reducible rfl
     rotate_left
     ·q_si
      rfl
     refine take_ (i := 0) (N := some 29) (v := ?_) (a' := ?_) #[true, false, true, false, false, false, false, false, false, false, false, false, false, false, false, false, false, false, false, false, false, false] rfl rfl q_to q_id (Or.inl ⟨by rfl, ?_⟩) hHeld ?_ ?_
     rotate_left
     ·rintro w' ⟨s0, s1, s2, s3, s4⟩
      go_simp
      with_reducible rfl
     rotate_left
     ·q_si
      rfl
     refine one_ (i := 1) (N := some 30) #[true, true, true, false, false, false, false, false, false, false, false, false, false, false, false, false, false, false, false, false, false, false] rfl rfl (one_of HT_.out (by kernel_rfl)) (by decide) (fun K hK => ?_)
     refine goes_ Try.func21 (by kernel_rfl) rfl #[.agg #[.slice A0_0 l0_0.length c0_0, .int .i64 a0_1, .int .i64 a0_2, .slice A0_3 l0_3.length c0_3, .bool a0_4]] (by rfl) rfl rfl q_ml ?_
     with_reducible refine (rees_Validate.calls k _ _ l0_0 a0_1 a0_2 _ _ l0_3 a0_4 t353 _ ?side1 ?side2 ?side3 ?side4 A10.out).mono ?_
     (case side1 => q_cc (Kd.C_below HR0_0.out HB.out))
     (case side2 => exact HC0_0.out)
     (case side3 => q_cc (Kd.C_below HR0_3.out HB.out))
     (case side4 => exact HC0_3.out)
     rintro e w42 ⟨rfl, hb⟩
     refine ⟨_, rfl, ?_⟩
     have n0_ := Aside0.mk (blk_below (g := gb345) (o := .cells #[.slice A0_0 l0_0.length c0_0, .int .i64 a0_1, .int .i64 a0_2, .slice A0_3 l0_3.length c0_3, .bool a0_4] 24 (0, 0)) (by q_bk; exact BK345.out) hb)
     have n1_ := Aside0.mk (below_step (q_hs GE345.out) hb)
     clear HB BK345
     have BK345 := n0_
     have HB := n1_
     clear n0_ n1_
     (try clear hb)
     (try clear hb2)
     (try clear hk)
     (try clear hi)
     refine hK.out _ _ ⟨(blk_cell BK345.out 0).trans rfl, (blk_cell BK345.out 1).trans rfl, (blk_cell BK345.out 2).trans rfl, (blk_cell BK345.out 3).trans rfl, (blk_cell BK345.out 4).trans rfl⟩ (fun hHeld => ?_)
     clear hK K
     refine norm_ (a' := ?_) ?_ ?_
     rotate_left
     ·show Act.put _ (some 30) _ = _
      simp only [Act.put, List.setIfInBounds_toArray, List.set_cons_zero, List.set_cons_succ, i64_w, i32_w]
      rfl
     refine pure_ (i := 3) (N := some 32) (v := ?_) (a' := ?_) #[true, true, true, true, false, false, false, false, false, false, false, false, false, false, false, false, false, false, false, false, false, false] rfl rfl q_ho q_id (Or.inl ⟨by rfl, ?_⟩) ?_ ?_
     rotate_left
     ·intro w'
      go_simp
      with_reducible rfl
     rotate_left
     ·q_si
      rfl
     refine pure_ (i := 4) (N := some 33) (v := ?_) (a' := ?_) #[true, true, true, true, true, false, false, false, false, false, false, false, false, false, false, false, false, false, false, false, false, false] rfl rfl q_ho q_id (Or.inl ⟨by rfl, ?_⟩) ?_ ?_
     rotate_left
     ·intro w'
      go_simp
      with_reducible rfl
     rotate_left
     ·q_si
      rfl
     refine take_ (i := 5) (N := some 34) (v := ?_) (a' := ?_) #[true, true, true, true, true, true, false, false, false, false, false, false, false, false, false, false, false, false, false, false, false, false] rfl rfl q_to q_id (Or.inl ⟨by rfl, ?_⟩) hHeld ?_ ?_
     rotate_left
     ·rintro w' ⟨s0, s1, s2, s3, s4⟩
      go_simp
      with_reducible rfl
     rotate_left
     ·q_si
      rfl
     refine take_ (i := 7) (N := some 36) (v := ?_) (a' := ?_) #[true, true, true, true, true, true, false, true, false, false, false, false, false, false, false, false, false, false, false, false, false, false] rfl rfl q_to q_id (Or.inl ⟨by rfl, ?_⟩) hHeld ?_ ?_
     rotate_left
     ·rintro w' ⟨s0, s1, s2, s3, s4⟩
      go_simp
      with_reducible rfl
     rotate_left
     ·q_si
      rfl
     refine one_ (i := 6) (N := some 35) #[true, true, true, true, true, true, true, true, false, false, false, false, false, false, false, false, false, false, false, false, false, false] rfl rfl (one_of HT_.out (by kernel_rfl)) (by decide) (fun K hK => ?_)
     refine goes_ Try.func22 (by kernel_rfl) rfl #[.agg #[.slice A0_0 l0_0.length c0_0, .int .i64 a0_1, .int .i64 a0_2, .slice A0_3 l0_3.length c0_3, .bool a0_4]] (by rfl) rfl rfl q_ml ?_
     with_reducible refine (rees_Size.calls k _ _ l0_0 a0_1 a0_2 _ _ l0_3 a0_4 t354 _ ?side1 ?side2 ?side3 ?side4 A12.out).mono ?_
     (case side1 => q_cc (Kd.C_below HR0_0.out HB.out))
     (case side2 => exact HC0_0.out)
     (case side3 => q_cc (Kd.C_below HR0_3.out HB.out))
     (case side4 => exact HC0_3.out)
     rintro e w43 ⟨rfl, hb⟩
     refine ⟨_, rfl, ?_⟩
     have n0_ := Aside0.mk (blk_below (g := gb345) (o := .cells #[.slice A0_0 l0_0.length c0_0, .int .i64 a0_1, .int .i64 a0_2, .slice A0_3 l0_3.length c0_3, .bool a0_4] 24 (0, 0)) (by q_bk; exact BK345.out) hb)
     have n1_ := Aside0.mk (below_step (q_hs GE345.out) hb)
     clear HB BK345
     have BK345 := n0_
     have HB := n1_
     clear n0_ n1_
     (try clear hb)
     (try clear hb2)
     (try clear hk)
     (try clear hi)
     refine hK.out _ _ ⟨(blk_cell BK345.out 0).trans rfl, (blk_cell BK345.out 1).trans rfl, (blk_cell BK345.out 2).trans rfl, (blk_cell BK345.out 3).trans rfl, (blk_cell BK345.out 4).trans rfl⟩ (fun hHeld => ?_)
     clear hK K
     refine norm_ (a' := ?_) ?_ ?_
     rotate_left
     ·show Act.put _ (some 35) _ = _
      simp only [Act.put, List.setIfInBounds_toArray, List.set_cons_zero, List.set_cons_succ, i64_w, i32_w]
      rfl
     refine one_ (i := 8) (N := some 37) #[true, true, true, true, true, true, true, true, true, false, false, false, false, false, false, false, false, false, false, false, false, false] rfl rfl (one_of HT_.out (by kernel_rfl)) (by decide) (fun K hK => ?_)
     refine goes_ Try.func16 (by kernel_rfl) rfl #[.agg #[.slice A0_0 l0_0.length c0_0, .int .i64 a0_1, .int .i64 a0_2, .slice A0_3 l0_3.length c0_3, .bool a0_4]] (by rfl) rfl rfl q_ml ?_
     with_reducible refine (semigroupref17_Size.calls _ _ l0_0 a0_1 a0_2 _ _ l0_3 a0_4 t355 _ ?side1 ?side2 ?side3 ?side4 A13.out).mono ?_
     (case side1 => q_cc (Kd.C_below HR0_0.out HB.out))
     (case side2 => exact HC0_0.out)
     (case side3 => q_cc (Kd.C_below HR0_3.out HB.out))
     (case side4 => exact HC0_3.out)
     rintro e w44 ⟨rfl, hb⟩
     refine ⟨_, rfl, ?_⟩
     have n0_ := Aside0.mk (blk_below (g := gb345) (o := .cells #[.slice A0_0 l0_0.length c0_0, .int .i64 a0_1, .int .i64 a0_2, .slice A0_3 l0_3.length c0_3, .bool a0_4] 24 (0, 0)) (by q_bk; exact BK345.out) hb)
     have n1_ := Aside0.mk (below_step (q_hs GE345.out) hb)
     clear HB BK345
     have BK345 := n0_
     have HB := n1_
     clear n0_ n1_
     (try clear hb)
     (try clear hb2)
     (try clear hk)
     (try clear hi)
     refine hK.out _ _ ⟨(blk_cell BK345.out 0).trans rfl, (blk_cell BK345.out 1).trans rfl, (blk_cell BK345.out 2).trans rfl, (blk_cell BK345.out 3).trans rfl, (blk_cell BK345.out 4).trans rfl⟩ (fun hHeld => ?_)
     clear hK K
     refine norm_ (a' := ?_) ?_ ?_
     rotate_left
     ·show Act.put _ (some 37) _ = _
      simp only [Act.put, List.setIfInBounds_toArray, List.set_cons_zero, List.set_cons_succ, i64_w, i32_w]
      rfl
     refine pure_ (i := 9) (N := some 38) (v := ?_) (a' := ?_) #[true, true, true, true, true, true, true, true, true, true, false, false, false, false, false, false, false, false, false, false, false, false] rfl rfl q_ho q_id (Or.inl ⟨by rfl, ?_⟩) ?_ ?_
     rotate_left
     ·intro w'
      go_simp
      with_reducible rfl
     rotate_left
     ·q_si
      rfl
     refine pure_ (i := 10) (N := some 39) (v := ?_) (a' := ?_) #[true, true, true, true, true, true, true, true, true, true, true, false, false, false, false, false, false, false, false, false, false, false] rfl rfl q_ho q_id (Or.inl ⟨by rfl, ?_⟩) ?_ ?_
     rotate_left
     ·intro w'
      go_simp
      with_reducible rfl
     rotate_left
     ·q_si
      rfl
     refine pure_ (i := 11) (N := some 40) (v := ?_) (a' := ?_) #[true, true, true, true, true, true, true, true, true, true, true, true, false, false, false, false, false, false, false, false, false, false] rfl rfl q_ho q_id (Or.inl ⟨by rfl, ?_⟩) ?_ ?_
     rotate_left
     ·intro w'
      go_simp
      with_reducible rfl
     rotate_left
     ·q_si
      rfl
     refine pure_ (i := 12) (N := some 41) (v := undef) (a' := ?_) #[true, true, true, true, true, true, true, true, true, true, true, true, true, false, false, false, false, false, false, false, false, false] rfl rfl q_ho (fun _ _ _ h => h) (Or.inr ⟨by rfl, rfl⟩) ?_ ?_
     rotate_left
     ·q_si
      rfl
     refine pure_ (i := 13) (N := some 42) (v := undef) (a' := ?_) #[true, true, true, true, true, true, true, true, true, true, true, true, true, true, false, false, false, false, false, false, false, false] rfl rfl q_ho (fun _ _ _ h => h) (Or.inr ⟨by rfl, rfl⟩) ?_ ?_
     rotate_left
     ·q_si
      rfl
     refine pure_ (i := 14) (N := some 43) (v := undef) (a' := ?_) #[true, true, true, true, true, true, true, true, true, true, true, true, true, true, true, false, false, false, false, false, false, false] rfl rfl q_ho (fun _ _ _ h => h) (Or.inr ⟨by rfl, rfl⟩) ?_ ?_
     rotate_left
     ·q_si
      rfl
     refine pure_ (i := 15) (N := some 44) (v := undef) (a' := ?_) #[true, true, true, true, true, true, true, true, true, true, true, true, true, true, true, true, false, false, false, false, false, false] rfl rfl q_ho (fun _ _ _ h => h) (Or.inr ⟨by rfl, rfl⟩) ?_ ?_
     rotate_left
     ·q_si
      rfl
     refine pure_ (i := 16) (N := some 45) (v := undef) (a' := ?_) #[true, true, true, true, true, true, true, true, true, true, true, true, true, true, true, true, true, false, false, false, false, false] rfl rfl q_ho (fun _ _ _ h => h) (Or.inr ⟨by rfl, rfl⟩) ?_ ?_
     rotate_left
     ·q_si
      rfl
     refine pure_ (i := 17) (N := some 46) (v := ?_) (a' := ?_) #[true, true, true, true, true, true, true, true, true, true, true, true, true, true, true, true, true, true, false, false, false, false] rfl rfl q_ho q_id (Or.inl ⟨by rfl, ?_⟩) ?_ ?_
     rotate_left
     ·intro w'
      go_simp
      with_reducible rfl
     rotate_left
     ·q_si
      rfl
     refine pure_ (i := 18) (N := some 47) (v := ?_) (a' := ?_) #[true, true, true, true, true, true, true, true, true, true, true, true, true, true, true, true, true, true, true, false, false, false] rfl rfl q_ho q_id (Or.inl ⟨by rfl, ?_⟩) ?_ ?_
     rotate_left
     ·intro w'
      go_simp
      with_reducible rfl
     rotate_left
     ·q_si
      rfl
     refine pure_ (i := 19) (N := some 48) (v := undef) (a' := ?_) #[true, true, true, true, true, true, true, true, true, true, true, true, true, true, true, true, true, true, true, true, false, false] rfl rfl q_ho (fun _ _ _ h => h) (Or.inr ⟨by rfl, rfl⟩) ?_ ?_
     rotate_left
     ·q_si
      rfl
     refine pure_ (i := 20) (N := some 49) (v := ?_) (a' := ?_) #[true, true, true, true, true, true, true, true, true, true, true, true, true, true, true, true, true, true, true, true, true, false] rfl rfl q_ho q_id (Or.inl ⟨by rfl, ?_⟩) ?_ ?_
     rotate_left
     ·intro w'
      go_simp
      with_reducible rfl
     rotate_left
     ·q_si
      rfl
     refine pure_ (i := 21) (N := some 2) (v := ?_) (a' := ?_) #[true, true, true, true, true, true, true, true, true, true, true, true, true, true, true, true, true, true, true, true, true, true] rfl rfl q_ho q_id (Or.inl ⟨by rfl, ?_⟩) ?_ ?_
     rotate_left
     ·intro w'
      go_simp
      with_reducible rfl
     rotate_left
     ·q_si
      rfl
     refine done_ (done_of HT_.out (by kernel_rfl)) ?_
     try go_wp2
     go_ret
     exact ⟨by first | rfl | q_em | q_en, by repeat (first | (with_reducible first | exact HB.out | apply below_alloc | apply pw_below_drewN | apply below_drew1 | refine below_set ?_ GE345.out) | exact HB.out)⟩
   ·rw [if_neg c11] at H
    have c11b0 : (t353 == t348) = false := beq_eq_false_iff_ne.mpr c11
    have c11b1 : (t353 != t348) = true := bne_iff_ne.mpr c11
    obtain rfl := Option.some.inj H
    go_enter Try.func4, Try.ntmps4
    try go_wp2_with (first | ((with_reducible refine gate_dst (N := 1) rfl ?_); refine box_event ?hg (N := 1) ?hd (cs := #[.slice A0_0 l0_0.length c0_0, .int .i64 a0_1, .int .i64 a0_2, .slice A0_3 l0_3.length c0_3, .bool a0_4]) (t := 24) ?hr ?_; (case hd => rfl); (case hg => rfl); q_hr; intro gb345 hg w45 hbox hb; have n0_ := Aside0.mk (below_step q_hb hb); have n1_ := Aside0.mk (hbox); have n2_ := Aside0.mk ((by rw [hg]; exact q_bs : w.heap.size ≤ gb345)); have n3_ := Aside0.mk ((by rw [hg]; exact q_bs : w.heap.size ≤ gb345)); clear HB; have HB := n0_; have BK345 := n1_; have GW345 := n2_; have GE345 := n3_; clear n0_ n1_ n2_ n3_; (q_x hb hbox hg); have hcz46_0 : w45.cell? ⟨gb345, 0, none⟩ = some (.slice A0_0 l0_0.length c0_0) := (blk_cell BK345.out 0).trans rfl; have hcz46_1 : w45.cell? ⟨gb345, 1, none⟩ = some (.int .i64 a0_1) := (blk_cell BK345.out 1).trans rfl; have hcz46_2 : w45.cell? ⟨gb345, 2, none⟩ = some (.int .i64 a0_2) := (blk_cell BK345.out 2).trans rfl; have hcz46_3 : w45.cell? ⟨gb345, 3, none⟩ = some (.slice A0_3 l0_3.length c0_3) := (blk_cell BK345.out 3).trans rfl; have hcz46_4 : w45.cell? ⟨gb345, 4, none⟩ = some (.bool a0_4) := (blk_cell BK345.out 4).trans rfl; have hfz46_0 := blk_frozen BK345.out 0; have hfz46_1 := blk_frozen BK345.out 1; have hfz46_2 := blk_frozen BK345.out 2; have hfz46_3 := blk_frozen BK345.out 3; have hfz46_4 := blk_frozen BK345.out 4) | ((with_reducible refine gate_callee (f := 13) rfl ?_); refine goesL_ (some 6) rfl rfl Try.func13 (by kernel_rfl) rfl #[.slice A0_0 l0_0.length c0_0, .int .i64 16] rfl q_ml ?_; (with_reducible refine (semigrouplaw17_large.calls k _ _ l0_0 16 false _ ?side1 ?side2 A2.out).mono ?_); (case side1 => q_cc (Kd.C_below HR0_0.out HB.out)); (case side2 => exact HC0_0.out); rintro e w' ⟨rfl, ⟨nd, rfl⟩⟩; refine ⟨_, rfl, ?_⟩) | ((with_reducible refine gate_callee (f := 15) rfl ?_); refine goesL_ (some 9) rfl rfl Try.func15 (by kernel_rfl) rfl #[.agg #[.slice A0_0 l0_0.length c0_0, .int .i64 a0_1, .int .i64 a0_2, .slice A0_3 l0_3.length c0_3, .bool a0_4]] rfl q_ml ?_; (with_reducible refine (semigroupref17_Validate.calls k _ _ l0_0 a0_1 a0_2 _ _ l0_3 a0_4 t348 _ ?side1 ?side2 ?side3 ?side4 A8.out).mono ?_); (case side1 => repeat (first | exact (Kd.C_below HR0_0.out (q_hs GE345.out)) | (with_reducible refine Kd.C_alloc ?_ _) | (with_reducible refine Kd.C_drewN ?_ _) | (with_reducible refine Kd.C_drew ?_))); (case side2 => exact HC0_0.out); (case side3 => repeat (first | exact (Kd.C_below HR0_3.out (q_hs GE345.out)) | (with_reducible refine Kd.C_alloc ?_ _) | (with_reducible refine Kd.C_drewN ?_ _) | (with_reducible refine Kd.C_drew ?_))); (case side4 => exact HC0_3.out); rintro e w47 ⟨rfl, hb⟩; refine ⟨_, rfl, ?_⟩; have n0_ := Aside0.mk (blk_below (g := gb345) (o := .cells #[.slice A0_0 l0_0.length c0_0, .int .i64 a0_1, .int .i64 a0_2, .slice A0_3 l0_3.length c0_3, .bool a0_4] 24 (0, 0)) (by q_bk; exact BK345.out) hb); have n1_ := Aside0.mk (below_step (q_hs GE345.out) hb); clear BK345; clear HB; have BK345 := n0_; have HB := n1_; clear n0_ n1_; (q_x hb hb2 hk); (try clear hi)))
    have n0_ := Aside0.mk (blk_drew BK345.out)
    have n1_ := Aside0.mk (below_drew1 HB.out)
    clear HB BK345
    have BK345 := n0_
    have HB := n1_
    clear n0_ n1_
    refine start_ (n := 22) (S := fun w' => w'.cell? ⟨gb345, 0, none⟩ = some (.slice A0_0 l0_0.length c0_0) ∧ w'.cell? ⟨gb345, 1, none⟩ = some (.int .i64 a0_1) ∧ w'.cell? ⟨gb345, 2, none⟩ = some (.int .i64 a0_2) ∧ w'.cell? ⟨gb345, 3, none⟩ = some (.slice A0_3 l0_3.length c0_3) ∧ w'.cell? ⟨gb345, 4, none⟩ = some (.bool a0_4)) (ds := []) #[false, false, false, false, false, false, false, false, false, false, false, false, false, false, false, false, false, false, false, false, false, false] (by kernel_rfl) rfl rfl ⟨(blk_cell BK345.out 0).trans rfl, (blk_cell BK345.out 1).trans rfl, (blk_cell BK345.out 2).trans rfl, (blk_cell BK345.out 3).trans rfl, (blk_cell BK345.out 4).trans rfl⟩ (fun hHeld => ?_); refine with_tabW semigrouplaw17_ReesValidates.tab6 semigrouplaw17_ReesValidates.bits6 (fun HT_ HW_ => ?_)
    generalize w47.drew = w48 at BK345 HB hHeld ⊢
    refine pure_ (i := 2) (N := some 31) (v := ?_) (a' := ?_) #[false, false, true, false, false, false, false, false, false, false, false, false, false, false, false, false, false, false, false, false, false, false] rfl rfl q_ho q_id (Or.inl ⟨by rfl, ?_⟩) ?_ ?_
    rotate_left
    ·intro w'
     go_simp
     with_reducible rfl
    rotate_left
    ·q_si
     rfl
    refine take_ (i := 0) (N := some 29) (v := ?_) (a' := ?_) #[true, false, true, false, false, false, false, false, false, false, false, false, false, false, false, false, false, false, false, false, false, false] rfl rfl q_to q_id (Or.inl ⟨by rfl, ?_⟩) hHeld ?_ ?_
    rotate_left
    ·rintro w' ⟨s0, s1, s2, s3, s4⟩
     go_simp
     with_reducible rfl
    rotate_left
    ·q_si
     rfl
    refine one_ (i := 1) (N := some 30) #[true, true, true, false, false, false, false, false, false, false, false, false, false, false, false, false, false, false, false, false, false, false] rfl rfl (one_of HT_.out (by kernel_rfl)) (by decide) (fun K hK => ?_)
    refine goes_ Try.func21 (by kernel_rfl) rfl #[.agg #[.slice A0_0 l0_0.length c0_0, .int .i64 a0_1, .int .i64 a0_2, .slice A0_3 l0_3.length c0_3, .bool a0_4]] (by rfl) rfl rfl q_ml ?_
    with_reducible refine (rees_Validate.calls k _ _ l0_0 a0_1 a0_2 _ _ l0_3 a0_4 t353 _ ?side1 ?side2 ?side3 ?side4 A10.out).mono ?_
    (case side1 => q_cc (Kd.C_below HR0_0.out HB.out))
    (case side2 => exact HC0_0.out)
    (case side3 => q_cc (Kd.C_below HR0_3.out HB.out))
    (case side4 => exact HC0_3.out)
    rintro e w49 ⟨rfl, hb⟩
    refine ⟨_, rfl, ?_⟩
    have n0_ := Aside0.mk (blk_below (g := gb345) (o := .cells #[.slice A0_0 l0_0.length c0_0, .int .i64 a0_1, .int .i64 a0_2, .slice A0_3 l0_3.length c0_3, .bool a0_4] 24 (0, 0)) (by q_bk; exact BK345.out) hb)
    have n1_ := Aside0.mk (below_step (q_hs GE345.out) hb)
    clear HB BK345
    have BK345 := n0_
    have HB := n1_
    clear n0_ n1_
    (try clear hb)
    (try clear hb2)
    (try clear hk)
    (try clear hi)
    refine hK.out _ _ ⟨(blk_cell BK345.out 0).trans rfl, (blk_cell BK345.out 1).trans rfl, (blk_cell BK345.out 2).trans rfl, (blk_cell BK345.out 3).trans rfl, (blk_cell BK345.out 4).trans rfl⟩ (fun hHeld => ?_)
    clear hK K
    refine norm_ (a' := ?_) ?_ ?_
    rotate_left
    ·show Act.put _ (some 30) _ = _
     simp only [Act.put, List.setIfInBounds_toArray, List.set_cons_zero, List.set_cons_succ, i64_w, i32_w]
     rfl
    refine pure_ (i := 3) (N := some 32) (v := ?_) (a' := ?_) #[true, true, true, true, false, false, false, false, false, false, false, false, false, false, false, false, false, false, false, false, false, false] rfl rfl q_ho q_id (Or.inl ⟨by rfl, ?_⟩) ?_ ?_
    rotate_left
    ·intro w'
     go_simp
     with_reducible rfl
    rotate_left
    ·q_si
     rfl
    refine pure_ (i := 4) (N := some 33) (v := ?_) (a' := ?_) #[true, true, true, true, true, false, false, false, false, false, false, false, false, false, false, false, false, false, false, false, false, false] rfl rfl q_ho q_id (Or.inl ⟨by rfl, ?_⟩) ?_ ?_
    rotate_left
    ·intro w'
     go_simp
     with_reducible rfl
    rotate_left
    ·q_si
     rfl
    refine pure_ (i := 5) (N := some 34) (v := undef) (a' := ?_) #[true, true, true, true, true, true, false, false, false, false, false, false, false, false, false, false, false, false, false, false, false, false] rfl rfl q_ho (fun _ _ _ h => h) (Or.inr ⟨by rfl, rfl⟩) ?_ ?_
    rotate_left
    ·q_si
     rfl
    refine pure_ (i := 6) (N := some 35) (v := undef) (a' := ?_) #[true, true, true, true, true, true, true, false, false, false, false, false, false, false, false, false, false, false, false, false, false, false] rfl rfl q_ho (fun _ _ _ h => h) (Or.inr ⟨by rfl, rfl⟩) ?_ ?_
    rotate_left
    ·q_si
     rfl
    refine pure_ (i := 7) (N := some 36) (v := undef) (a' := ?_) #[true, true, true, true, true, true, true, true, false, false, false, false, false, false, false, false, false, false, false, false, false, false] rfl rfl q_ho (fun _ _ _ h => h) (Or.inr ⟨by rfl, rfl⟩) ?_ ?_
    rotate_left
    ·q_si
     rfl
    refine pure_ (i := 8) (N := some 37) (v := undef) (a' := ?_) #[true, true, true, true, true, true, true, true, true, false, false, false, false, false, false, false, false, false, false, false, false, false] rfl rfl q_ho (fun _ _ _ h => h) (Or.inr ⟨by rfl, rfl⟩) ?_ ?_
    rotate_left
    ·q_si
     rfl
    refine pure_ (i := 9) (N := some 38) (v := undef) (a' := ?_) #[true, true, true, true, true, true, true, true, true, true, false, false, false, false, false, false, false, false, false, false, false, false] rfl rfl q_ho (fun _ _ _ h => h) (Or.inr ⟨by rfl, rfl⟩) ?_ ?_
    rotate_left
    ·q_si
     rfl
    refine pure_ (i := 10) (N := some 39) (v := ?_) (a' := ?_) #[true, true, true, true, true, true, true, true, true, true, true, false, false, false, false, false, false, false, false, false, false, false] rfl rfl q_ho q_id (Or.inl ⟨by rfl, ?_⟩) ?_ ?_
    rotate_left
    ·intro w'
     go_simp
     with_reducible rfl
    rotate_left
    ·q_si
     rfl
    refine pure_ (i := 11) (N := some 40) (v := ?_) (a' := ?_) #[true, true, true, true, true, true, true, true, true, true, true, true, false, false, false, false, false, false, false, false, false, false] rfl rfl q_ho q_id (Or.inl ⟨by rfl, ?_⟩) ?_ ?_
    rotate_left
    ·intro w'
     go_simp
     with_reducible rfl
    rotate_left
    ·q_si
     rfl
    refine pure_ (i := 12) (N := some 41) (v := undef) (a' := ?_) #[true, true, true, true, true, true, true, true, true, true, true, true, true, false, false, false, false, false, false, false, false, false] rfl rfl q_ho (fun _ _ _ h => h) (Or.inr ⟨by rfl, rfl⟩) ?_ ?_
    rotate_left
    ·q_si
     rfl
    refine pure_ (i := 13) (N := some 42) (v := undef) (a' := ?_) #[true, true, true, true, true, true, true, true, true, true, true, true, true, true, false, false, false, false, false, false, false, false] rfl rfl q_ho (fun _ _ _ h => h) (Or.inr ⟨by rfl, rfl⟩) ?_ ?_
    rotate_left
    ·q_si
     rfl
    refine pure_ (i := 14) (N := some 43) (v := undef) (a' := ?_) #[true, true, true, true, true, true, true, true, true, true, true, true, true, true, true, false, false, false, false, false, false, false] rfl rfl q_ho (fun _ _ _ h => h) (Or.inr ⟨by rfl, rfl⟩) ?_ ?_
    rotate_left
    ·q_si
     rfl
    refine pure_ (i := 15) (N := some 44) (v := undef) (a' := ?_) #[true, true, true, true, true, true, true, true, true, true, true, true, true, true, true, true, false, false, false, false, false, false] rfl rfl q_ho (fun _ _ _ h => h) (Or.inr ⟨by rfl, rfl⟩) ?_ ?_
    rotate_left
    ·q_si
     rfl
    refine pure_ (i := 16) (N := some 45) (v := undef) (a' := ?_) #[true, true, true, true, true, true, true, true, true, true, true, true, true, true, true, true, true, false, false, false, false, false] rfl rfl q_ho (fun _ _ _ h => h) (Or.inr ⟨by rfl, rfl⟩) ?_ ?_
    rotate_left
    ·q_si
     rfl
    refine pure_ (i := 17) (N := some 46) (v := ?_) (a' := ?_) #[true, true, true, true, true, true, true, true, true, true, true, true, true, true, true, true, true, true, false, false, false, false] rfl rfl q_ho q_id (Or.inl ⟨by rfl, ?_⟩) ?_ ?_
    rotate_left
    ·intro w'
     go_simp
     with_reducible rfl
    rotate_left
    ·q_si
     rfl
    refine pure_ (i := 18) (N := some 47) (v := ?_) (a' := ?_) #[true, true, true, true, true, true, true, true, true, true, true, true, true, true, true, true, true, true, true, false, false, false] rfl rfl q_ho q_id (Or.inl ⟨by rfl, ?_⟩) ?_ ?_
    rotate_left
    ·intro w'
     go_simp
     with_reducible rfl
    rotate_left
    ·q_si
     rfl
    refine pure_ (i := 19) (N := some 48) (v := undef) (a' := ?_) #[true, true, true, true, true, true, true, true, true, true, true, true, true, true, true, true, true, true, true, true, false, false] rfl rfl q_ho (fun _ _ _ h => h) (Or.inr ⟨by rfl, rfl⟩) ?_ ?_
    rotate_left
    ·q_si
     rfl
    refine pure_ (i := 20) (N := some 49) (v := ?_) (a' := ?_) #[true, true, true, true, true, true, true, true, true, true, true, true, true, true, true, true, true, true, true, true, true, false] rfl rfl q_ho q_id (Or.inl ⟨by rfl, ?_⟩) ?_ ?_
    rotate_left
    ·intro w'
     go_simp
     with_reducible rfl
    rotate_left
    ·q_si
     rfl
    refine pure_ (i := 21) (N := some 2) (v := ?_) (a' := ?_) #[true, true, true, true, true, true, true, true, true, true, true, true, true, true, true, true, true, true, true, true, true, true] rfl rfl q_ho q_id (Or.inl ⟨by rfl, ?_⟩) ?_ ?_
    rotate_left
    ·intro w'
     go_simp
     with_reducible rfl
    rotate_left
    ·q_si
     rfl
    refine done_ (done_of HT_.out (by kernel_rfl)) ?_
    try go_wp2
    go_ret
    exact ⟨by first | rfl | q_em | q_en, by repeat (first | (with_reducible first | exact HB.out | apply below_alloc | apply pw_below_drewN | apply below_drew1 | refine below_set ?_ GE345.out) | exact HB.out)⟩
  ·rw [if_neg c9] at H
   have c9b0 : (t348 == 0) = false := beq_eq_false_iff_ne.mpr c9
   have c9b1 : (t348 != 0) = true := bne_iff_ne.mpr c9
   replace H := Option.bind_eq_some_iff.mp H
   obtain ⟨t349, A500, H⟩ := H
   replace H : (if t349 = t348 then ((rees_Size.f k l0_0 a0_1 a0_2 l0_3 a0_4).bind fun t350 => (if t350 = 0 then ((rees_Regular.f k l0_0 a0_1 a0_2 l0_3 a0_4).bind fun t351 => (if t351 = true then (some false) else ((semigrouplaw17_awake.f k).bind fun t352 => (some t352)))) else (some false))) else (some false)) = some r := H
   have A50 := Aside0.mk A500
   clear A500
   by_cases c51 : t349 = t348
   ·rw [if_pos c51] at H
    have c51b0 : (t349 == t348) = true := beq_iff_eq.mpr c51
    have c51b1 : (t349 != t348) = false := bne_eq_false_iff_eq.mpr c51
    clear c51
    replace H := Option.bind_eq_some_iff.mp H
    obtain ⟨t350, A520, H⟩ := H
    replace H : (if t350 = 0 then ((rees_Regular.f k l0_0 a0_1 a0_2 l0_3 a0_4).bind fun t351 => (if t351 = true then (some false) else ((semigrouplaw17_awake.f k).bind fun t352 => (some t352)))) else (some false)) = some r := H
    have A52 := Aside0.mk A520
    clear A520
    by_cases c53 : t350 = 0
    ·rw [if_pos c53] at H
     have c53b0 : (t350 == 0) = true := beq_iff_eq.mpr c53
     have c53b1 : (t350 != 0) = false := bne_eq_false_iff_eq.mpr c53
     clear c53
     replace H := Option.bind_eq_some_iff.mp H
     obtain ⟨t351, A540, H⟩ := H
     replace H : (if t351 = true then (some false) else ((semigrouplaw17_awake.f k).bind fun t352 => (some t352))) = some r := H
     have A54 := Aside0.mk A540
     clear A540
     by_cases c55 : t351 = true
     ·subst c55
      have H1 : (some false) = some r := by rw [if_pos rfl] at H; exact H
      clear H
      have H := H1
      clear H1
      obtain rfl := Option.some.inj H
      go_enter Try.func4, Try.ntmps4
      go_wp2_with (first | ((with_reducible refine gate_dst (N := 1) rfl ?_); refine box_event ?hg (N := 1) ?hd (cs := #[.slice A0_0 l0_0.length c0_0, .int .i64 a0_1, .int .i64 a0_2, .slice A0_3 l0_3.length c0_3, .bool a0_4]) (t := 24) ?hr ?_; (case hd => rfl); (case hg => rfl); q_hr; intro gb345 hg w56 hbox hb; have n0_ := Aside0.mk (below_step q_hb hb); have n1_ := Aside0.mk (hbox); have n2_ := Aside0.mk ((by rw [hg]; exact q_bs : w.heap.size ≤ gb345)); have n3_ := Aside0.mk ((by rw [hg]; exact q_bs : w.heap.size ≤ gb345)); clear HB; have HB := n0_; have BK345 := n1_; have GW345 := n2_; have GE345 := n3_; clear n0_ n1_ n2_ n3_; (q_x hb hbox hg); have hcz57_0 : w56.cell? ⟨gb345, 0, none⟩ = some (.slice A0_0 l0_0.length c0_0) := (blk_cell BK345.out 0).trans rfl; have hcz57_1 : w56.cell? ⟨gb345, 1, none⟩ = some (.int .i64 a0_1) := (blk_cell BK345.out 1).trans rfl; have hcz57_2 : w56.cell? ⟨gb345, 2, none⟩ = some (.int .i64 a0_2) := (blk_cell BK345.out 2).trans rfl; have hcz57_3 : w56.cell? ⟨gb345, 3, none⟩ = some (.slice A0_3 l0_3.length c0_3) := (blk_cell BK345.out 3).trans rfl; have hcz57_4 : w56.cell? ⟨gb345, 4, none⟩ = some (.bool a0_4) := (blk_cell BK345.out 4).trans rfl; have hfz57_0 := blk_frozen BK345.out 0; have hfz57_1 := blk_frozen BK345.out 1; have hfz57_2 := blk_frozen BK345.out 2; have hfz57_3 := blk_frozen BK345.out 3; have hfz57_4 := blk_frozen BK345.out 4) | ((with_reducible refine gate_callee (f := 13) rfl ?_); refine goesL_ (some 6) rfl rfl Try.func13 (by kernel_rfl) rfl #[.slice A0_0 l0_0.length c0_0, .int .i64 16] rfl q_ml ?_; (with_reducible refine (semigrouplaw17_large.calls k _ _ l0_0 16 false _ ?side1 ?side2 A2.out).mono ?_); (case side1 => q_cc (Kd.C_below HR0_0.out HB.out)); (case side2 => exact HC0_0.out); rintro e w' ⟨rfl, ⟨nd, rfl⟩⟩; refine ⟨_, rfl, ?_⟩) | ((with_reducible refine gate_callee (f := 15) rfl ?_); refine goesL_ (some 9) rfl rfl Try.func15 (by kernel_rfl) rfl #[.agg #[.slice A0_0 l0_0.length c0_0, .int .i64 a0_1, .int .i64 a0_2, .slice A0_3 l0_3.length c0_3, .bool a0_4]] rfl q_ml ?_; (with_reducible refine (semigroupref17_Validate.calls k _ _ l0_0 a0_1 a0_2 _ _ l0_3 a0_4 t348 _ ?side1 ?side2 ?side3 ?side4 A8.out).mono ?_); (case side1 => repeat (first | exact (Kd.C_below HR0_0.out (q_hs GE345.out)) | (with_reducible refine Kd.C_alloc ?_ _) | (with_reducible refine Kd.C_drewN ?_ _) | (with_reducible refine Kd.C_drew ?_))); (case side2 => exact HC0_0.out); (case side3 => repeat (first | exact (Kd.C_below HR0_3.out (q_hs GE345.out)) | (with_reducible refine Kd.C_alloc ?_ _) | (with_reducible refine Kd.C_drewN ?_ _) | (with_reducible refine Kd.C_drew ?_))); (case side4 => exact HC0_3.out); rintro e w58 ⟨rfl, hb⟩; refine ⟨_, rfl, ?_⟩; have n0_ := Aside0.mk (blk_below (g := gb345) (o := .cells #[.slice A0_0 l0_0.length c0_0, .int .i64 a0_1, .int .i64 a0_2, .slice A0_3 l0_3.length c0_3, .bool a0_4] 24 (0, 0)) (by q_bk; exact BK345.out) hb); have n1_ := Aside0.mk (below_step (q_hs GE345.out) hb); clear BK345; clear HB; have BK345 := n0_; have HB := n1_; clear n0_ n1_; (q_x hb hb2 hk hi); have hcz59_0 : w58.cell? ⟨gb345, 0, none⟩ = some (.slice A0_0 l0_0.length c0_0) := (blk_cell BK345.out 0).trans rfl; have hcz59_1 : w58.cell? ⟨gb345, 1, none⟩ = some (.int .i64 a0_1) := (blk_cell BK345.out 1).trans rfl; have hcz59_2 : w58.cell? ⟨gb345, 2, none⟩ = some (.int .i64 a0_2) := (blk_cell BK345.out 2).trans rfl; have hcz59_3 : w58.cell? ⟨gb345, 3, none⟩ = some (.slice A0_3 l0_3.length c0_3) := (blk_cell BK345.out 3).trans rfl; have hcz59_4 : w58.cell? ⟨gb345, 4, none⟩ = some (.bool a0_4) := (blk_cell BK345.out 4).trans rfl; have hfz59_0 := blk_frozen BK345.out 0; have hfz59_1 := blk_frozen BK345.out 1; have hfz59_2 := blk_frozen BK345.out 2; have hfz59_3 := blk_frozen BK345.out 3; have hfz59_4 := blk_frozen BK345.out 4) | ((with_reducible refine gate_callee (f := 21) rfl ?_); refine goesL_ (some 13) rfl rfl Try.func21 (by kernel_rfl) rfl #[.agg #[.slice A0_0 l0_0.length c0_0, .int .i64 a0_1, .int .i64 a0_2, .slice A0_3 l0_3.length c0_3, .bool a0_4]] rfl q_ml ?_; (with_reducible refine (rees_Validate.calls k _ _ l0_0 a0_1 a0_2 _ _ l0_3 a0_4 t349 _ ?side1 ?side2 ?side3 ?side4 A50.out).mono ?_); (case side1 => q_cc (Kd.C_below HR0_0.out HB.out)); (case side2 => exact HC0_0.out); (case side3 => q_cc (Kd.C_below HR0_3.out HB.out)); (case side4 => exact HC0_3.out); rintro e w60 ⟨rfl, hb⟩; refine ⟨_, rfl, ?_⟩; have n0_ := Aside0.mk (blk_below (g := gb345) (o := .cells #[.slice A0_0 l0_0.length c0_0, .int .i64 a0_1, .int .i64 a0_2, .slice A0_3 l0_3.length c0_3, .bool a0_4] 24 (0, 0)) (by q_bk; exact BK345.out) hb); have n1_ := Aside0.mk (below_step (q_hs GE345.out) hb); clear BK345; clear HB; have BK345 := n0_; have HB := n1_; clear n0_ n1_; (q_x hb hb2 hk hi); have hcz61_0 : w60.cell? ⟨gb345, 0, none⟩ = some (.slice A0_0 l0_0.length c0_0) := (blk_cell BK345.out 0).trans rfl; have hcz61_1 : w60.cell? ⟨gb345, 1, none⟩ = some (.int .i64 a0_1) := (blk_cell BK345.out 1).trans rfl; have hcz61_2 : w60.cell? ⟨gb345, 2, none⟩ = some (.int .i64 a0_2) := (blk_cell BK345.out 2).trans rfl; have hcz61_3 : w60.cell? ⟨gb345, 3, none⟩ = some (.slice A0_3 l0_3.length c0_3) := (blk_cell BK345.out 3).trans rfl; have hcz61_4 : w60.cell? ⟨gb345, 4, none⟩ = some (.bool a0_4) := (blk_cell BK345.out 4).trans rfl; have hfz61_0 := blk_frozen BK345.out 0; have hfz61_1 := blk_frozen BK345.out 1; have hfz61_2 := blk_frozen BK345.out 2; have hfz61_3 := blk_frozen BK345.out 3; have hfz61_4 := blk_frozen BK345.out 4) | (go_at_call 22; (with_reducible refine (rees_Size.calls k _ _ l0_0 a0_1 a0_2 _ _ l0_3 a0_4 t350 _ ?side1 ?side2 ?side3 ?side4 A52.out).mono ?_); (case side1 => q_cc (Kd.C_below HR0_0.out HB.out)); (case side2 => exact HC0_0.out); (case side3 => q_cc (Kd.C_below HR0_3.out HB.out)); (case side4 => exact HC0_3.out); rintro e w62 ⟨rfl, hb⟩; have n0_ := Aside0.mk (blk_below (g := gb345) (o := .cells #[.slice A0_0 l0_0.length c0_0, .int .i64 a0_1, .int .i64 a0_2, .slice A0_3 l0_3.length c0_3, .bool a0_4] 24 (0, 0)) (by q_bk; exact BK345.out) hb); have n1_ := Aside0.mk (below_step (q_hs GE345.out) hb); clear BK345; clear HB; have BK345 := n0_; have HB := n1_; clear n0_ n1_; (q_x hb hb2 hk hi); have hcz63_0 : w62.cell? ⟨gb345, 0, none⟩ = some (.slice A0_0 l0_0.length c0_0) := (blk_cell BK345.out 0).trans rfl; have hcz63_1 : w62.cell? ⟨gb345, 1, none⟩ = some (.int .i64 a0_1) := (blk_cell BK345.out 1).trans rfl; have hcz63_2 : w62.cell? ⟨gb345, 2, none⟩ = some (.int .i64 a0_2) := (blk_cell BK345.out 2).trans rfl; have hcz63_3 : w62.cell? ⟨gb345, 3, none⟩ = some (.slice A0_3 l0_3.length c0_3) := (blk_cell BK345.out 3).trans rfl; have hcz63_4 : w62.cell? ⟨gb345, 4, none⟩ = some (.bool a0_4) := (blk_cell BK345.out 4).trans rfl; have hfz63_0 := blk_frozen BK345.out 0; have hfz63_1 := blk_frozen BK345.out 1; have hfz63_2 := blk_frozen BK345.out 2; have hfz63_3 := blk_frozen BK345.out 3; have hfz63_4 := blk_frozen BK345.out 4) | (go_at_call 23; (with_reducible refine (rees_Regular.calls k _ _ l0_0 a0_1 a0_2 _ _ l0_3 a0_4 true _ ?side1 ?side2 ?side3 ?side4 A54.out).mono ?_); (case side1 => q_cc (Kd.C_below HR0_0.out HB.out)); (case side2 => exact HC0_0.out); (case side3 => q_cc (Kd.C_below HR0_3.out HB.out)); (case side4 => exact HC0_3.out); rintro e w64 ⟨rfl, hb⟩; have n0_ := Aside0.mk (blk_below (g := gb345) (o := .cells #[.slice A0_0 l0_0.length c0_0, .int .i64 a0_1, .int .i64 a0_2, .slice A0_3 l0_3.length c0_3, .bool a0_4] 24 (0, 0)) (by q_bk; exact BK345.out) hb); have n1_ := Aside0.mk (below_step (q_hs GE345.out) hb); clear BK345; clear HB; have BK345 := n0_; have HB := n1_; clear n0_ n1_; (q_x hb hb2 hk); (try clear hi)))
      go_ret
      exact ⟨by first | rfl | q_em | q_en, by repeat (first | (with_reducible first | exact HB.out | apply below_alloc | apply pw_below_drewN | apply below_drew1 | refine below_set ?_ GE345.out) | exact HB.out)⟩
     ·replace c55 := Bool.eq_false_iff.mpr c55
      subst c55
      have H1 : ((semigrouplaw17_awake.f k).bind fun t352 => (some t352)) = some r := by rw [if_neg (show ¬ (false = true) by decide)] at H; exact H
      clear H
      have H := H1
      clear H1
      replace H := Option.bind_eq_some_iff.mp H
      obtain ⟨t352, A650, H⟩ := H
      replace H : (some t352) = some r := H
      have A65 := Aside0.mk A650
      clear A650
      obtain rfl := Option.some.inj H
      go_enter Try.func4, Try.ntmps4
      go_wp2_with (first | ((with_reducible refine gate_dst (N := 1) rfl ?_); refine box_event ?hg (N := 1) ?hd (cs := #[.slice A0_0 l0_0.length c0_0, .int .i64 a0_1, .int .i64 a0_2, .slice A0_3 l0_3.length c0_3, .bool a0_4]) (t := 24) ?hr ?_; (case hd => rfl); (case hg => rfl); q_hr; intro gb345 hg w66 hbox hb; have n0_ := Aside0.mk (below_step q_hb hb); have n1_ := Aside0.mk (hbox); have n2_ := Aside0.mk ((by rw [hg]; exact q_bs : w.heap.size ≤ gb345)); have n3_ := Aside0.mk ((by rw [hg]; exact q_bs : w.heap.size ≤ gb345)); clear HB; have HB := n0_; have BK345 := n1_; have GW345 := n2_; have GE345 := n3_; clear n0_ n1_ n2_ n3_; (q_x hb hbox hg); have hcz67_0 : w66.cell? ⟨gb345, 0, none⟩ = some (.slice A0_0 l0_0.length c0_0) := (blk_cell BK345.out 0).trans rfl; have hcz67_1 : w66.cell? ⟨gb345, 1, none⟩ = some (.int .i64 a0_1) := (blk_cell BK345.out 1).trans rfl; have hcz67_2 : w66.cell? ⟨gb345, 2, none⟩ = some (.int .i64 a0_2) := (blk_cell BK345.out 2).trans rfl; have hcz67_3 : w66.cell? ⟨gb345, 3, none⟩ = some (.slice A0_3 l0_3.length c0_3) := (blk_cell BK345.out 3).trans rfl; have hcz67_4 : w66.cell? ⟨gb345, 4, none⟩ = some (.bool a0_4) := (blk_cell BK345.out 4).trans rfl; have hfz67_0 := blk_frozen BK345.out 0; have hfz67_1 := blk_frozen BK345.out 1; have hfz67_2 := blk_frozen BK345.out 2; have hfz67_3 := blk_frozen BK345.out 3; have hfz67_4 := blk_frozen BK345.out 4) | ((with_reducible refine gate_callee (f := 13) rfl ?_); refine goesL_ (some 6) rfl rfl Try.func13 (by kernel_rfl) rfl #[.slice A0_0 l0_0.length c0_0, .int .i64 16] rfl q_ml ?_; (with_reducible refine (semigrouplaw17_large.calls k _ _ l0_0 16 false _ ?side1 ?side2 A2.out).mono ?_); (case side1 => q_cc (Kd.C_below HR0_0.out HB.out)); (case side2 => exact HC0_0.out); rintro e w' ⟨rfl, ⟨nd, rfl⟩⟩; refine ⟨_, rfl, ?_⟩) | ((with_reducible refine gate_callee (f := 15) rfl ?_); refine goesL_ (some 9) rfl rfl Try.func15 (by kernel_rfl) rfl #[.agg #[.slice A0_0 l0_0.length c0_0, .int .i64 a0_1, .int .i64 a0_2, .slice A0_3 l0_3.length c0_3, .bool a0_4]] rfl q_ml ?_; (with_reducible refine (semigroupref17_Validate.calls k _ _ l0_0 a0_1 a0_2 _ _ l0_3 a0_4 t348 _ ?side1 ?side2 ?side3 ?side4 A8.out).mono ?_); (case side1 => repeat (first | exact (Kd.C_below HR0_0.out (q_hs GE345.out)) | (with_reducible refine Kd.C_alloc ?_ _) | (with_reducible refine Kd.C_drewN ?_ _) | (with_reducible refine Kd.C_drew ?_))); (case side2 => exact HC0_0.out); (case side3 => repeat (first | exact (Kd.C_below HR0_3.out (q_hs GE345.out)) | (with_reducible refine Kd.C_alloc ?_ _) | (with_reducible refine Kd.C_drewN ?_ _) | (with_reducible refine Kd.C_drew ?_))); (case side4 => exact HC0_3.out); rintro e w68 ⟨rfl, hb⟩; refine ⟨_, rfl, ?_⟩; have n0_ := Aside0.mk (blk_below (g := gb345) (o := .cells #[.slice A0_0 l0_0.length c0_0, .int .i64 a0_1, .int .i64 a0_2, .slice A0_3 l0_3.length c0_3, .bool a0_4] 24 (0, 0)) (by q_bk; exact BK345.out) hb); have n1_ := Aside0.mk (below_step (q_hs GE345.out) hb); clear BK345; clear HB; have BK345 := n0_; have HB := n1_; clear n0_ n1_; (q_x hb hb2 hk hi); have hcz69_0 : w68.cell? ⟨gb345, 0, none⟩ = some (.slice A0_0 l0_0.length c0_0) := (blk_cell BK345.out 0).trans rfl; have hcz69_1 : w68.cell? ⟨gb345, 1, none⟩ = some (.int .i64 a0_1) := (blk_cell BK345.out 1).trans rfl; have hcz69_2 : w68.cell? ⟨gb345, 2, none⟩ = some (.int .i64 a0_2) := (blk_cell BK345.out 2).trans rfl; have hcz69_3 : w68.cell? ⟨gb345, 3, none⟩ = some (.slice A0_3 l0_3.length c0_3) := (blk_cell BK345.out 3).trans rfl; have hcz69_4 : w68.cell? ⟨gb345, 4, none⟩ = some (.bool a0_4) := (blk_cell BK345.out 4).trans rfl; have hfz69_0 := blk_frozen BK345.out 0; have hfz69_1 := blk_frozen BK345.out 1; have hfz69_2 := blk_frozen BK345.out 2; have hfz69_3 := blk_frozen BK345.out 3; have hfz69_4 := blk_frozen BK345.out 4) | ((with_reducible refine gate_callee (f := 21) rfl ?_); refine goesL_ (some 13) rfl rfl Try.func21 (by kernel_rfl) rfl #[.agg #[.slice A0_0 l0_0.length c0_0, .int .i64 a0_1, .int .i64 a0_2, .slice A0_3 l0_3.length c0_3, .bool a0_4]] rfl q_ml ?_; (with_reducible refine (rees_Validate.calls k _ _ l0_0 a0_1 a0_2 _ _ l0_3 a0_4 t349 _ ?side1 ?side2 ?side3 ?side4 A50.out).mono ?_); (case side1 => q_cc (Kd.C_below HR0_0.out HB.out)); (case side2 => exact HC0_0.out); (case side3 => q_cc (Kd.C_below HR0_3.out HB.out)); (case side4 => exact HC0_3.out); rintro e w70 ⟨rfl, hb⟩; refine ⟨_, rfl, ?_⟩; have n0_ := Aside0.mk (blk_below (g := gb345) (o := .cells #[.slice A0_0 l0_0.length c0_0, .int .i64 a0_1, .int .i64 a0_2, .slice A0_3 l0_3.length c0_3, .bool a0_4] 24 (0, 0)) (by q_bk; exact BK345.out) hb); have n1_ := Aside0.mk (below_step (q_hs GE345.out) hb); clear BK345; clear HB; have BK345 := n0_; have HB := n1_; clear n0_ n1_; (q_x hb hb2 hk hi); have hcz71_0 : w70.cell? ⟨gb345, 0, none⟩ = some (.slice A0_0 l0_0.length c0_0) := (blk_cell BK345.out 0).trans rfl; have hcz71_1 : w70.cell? ⟨gb345, 1, none⟩ = some (.int .i64 a0_1) := (blk_cell BK345.out 1).trans rfl; have hcz71_2 : w70.cell? ⟨gb345, 2, none⟩ = some (.int .i64 a0_2) := (blk_cell BK345.out 2).trans rfl; have hcz71_3 : w70.cell? ⟨gb345, 3, none⟩ = some (.slice A0_3 l0_3.length c0_3) := (blk_cell BK345.out 3).trans rfl; have hcz71_4 : w70.cell? ⟨gb345, 4, none⟩ = some (.bool a0_4) := (blk_cell BK345.out 4).trans rfl; have hfz71_0 := blk_frozen BK345.out 0; have hfz71_1 := blk_frozen BK345.out 1; have hfz71_2 := blk_frozen BK345.out 2; have hfz71_3 := blk_frozen BK345.out 3; have hfz71_4 := blk_frozen BK345.out 4) | (go_at_call 22; (with_reducible refine (rees_Size.calls k _ _ l0_0 a0_1 a0_2 _ _ l0_3 a0_4 t350 _ ?side1 ?side2 ?side3 ?side4 A52.out).mono ?_); (case side1 => q_cc (Kd.C_below HR0_0.out HB.out)); (case side2 => exact HC0_0.out); (case side3 => q_cc (Kd.C_below HR0_3.out HB.out)); (case side4 => exact HC0_3.out); rintro e w72 ⟨rfl, hb⟩; have n0_ := Aside0.mk (blk_below (g := gb345) (o := .cells #[.slice A0_0 l0_0.length c0_0, .int .i64 a0_1, .int .i64 a0_2, .slice A0_3 l0_3.length c0_3, .bool a0_4] 24 (0, 0)) (by q_bk; exact BK345.out) hb); have n1_ := Aside0.mk (below_step (q_hs GE345.out) hb); clear BK345; clear HB; have BK345 := n0_; have HB := n1_; clear n0_ n1_; (q_x hb hb2 hk hi); have hcz73_0 : w72.cell? ⟨gb345, 0, none⟩ = some (.slice A0_0 l0_0.length c0_0) := (blk_cell BK345.out 0).trans rfl; have hcz73_1 : w72.cell? ⟨gb345, 1, none⟩ = some (.int .i64 a0_1) := (blk_cell BK345.out 1).trans rfl; have hcz73_2 : w72.cell? ⟨gb345, 2, none⟩ = some (.int .i64 a0_2) := (blk_cell BK345.out 2).trans rfl; have hcz73_3 : w72.cell? ⟨gb345, 3, none⟩ = some (.slice A0_3 l0_3.length c0_3) := (blk_cell BK345.out 3).trans rfl; have hcz73_4 : w72.cell? ⟨gb345, 4, none⟩ = some (.bool a0_4) := (blk_cell BK345.out 4).trans rfl; have hfz73_0 := blk_frozen BK345.out 0; have hfz73_1 := blk_frozen BK345.out 1; have hfz73_2 := blk_frozen BK345.out 2; have hfz73_3 := blk_frozen BK345.out 3; have hfz73_4 := blk_frozen BK345.out 4) | (go_at_call 23; (with_reducible refine (rees_Regular.calls k _ _ l0_0 a0_1 a0_2 _ _ l0_3 a0_4 false _ ?side1 ?side2 ?side3 ?side4 A54.out).mono ?_); (case side1 => q_cc (Kd.C_below HR0_0.out HB.out)); (case side2 => exact HC0_0.out); (case side3 => q_cc (Kd.C_below HR0_3.out HB.out)); (case side4 => exact HC0_3.out); rintro e w74 ⟨rfl, hb⟩; have n0_ := Aside0.mk (blk_below (g := gb345) (o := .cells #[.slice A0_0 l0_0.length c0_0, .int .i64 a0_1, .int .i64 a0_2, .slice A0_3 l0_3.length c0_3, .bool a0_4] 24 (0, 0)) (by q_bk; exact BK345.out) hb); have n1_ := Aside0.mk (below_step (q_hs GE345.out) hb); clear BK345; clear HB; have BK345 := n0_; have HB := n1_; clear n0_ n1_; (q_x hb hb2 hk); (try clear hi)) | (go_at_call 14; (with_reducible refine (semigrouplaw17_awake.calls k  t352 _ A65.out).mono ?_); rintro e w75 ⟨rfl, hb⟩; have n0_ := Aside0.mk (blk_below (g := gb345) (o := .cells #[.slice A0_0 l0_0.length c0_0, .int .i64 a0_1, .int .i64 a0_2, .slice A0_3 l0_3.length c0_3, .bool a0_4] 24 (0, 0)) (by q_bk; exact BK345.out) hb); have n1_ := Aside0.mk (below_step (q_hs GE345.out) hb); clear BK345; clear HB; have BK345 := n0_; have HB := n1_; clear n0_ n1_; (q_x hb hb2 hk); (try clear hi)))
      go_ret
      exact ⟨by first | rfl | q_em | q_en, by repeat (first | (with_reducible first | exact HB.out | apply below_alloc | apply pw_below_drewN | apply below_drew1 | refine below_set ?_ GE345.out) | exact HB.out)⟩
    ·rw [if_neg c53] at H
     have c53b0 : (t350 == 0) = false := beq_eq_false_iff_ne.mpr c53
     have c53b1 : (t350 != 0) = true := bne_iff_ne.mpr c53
     obtain rfl := Option.some.inj H
     go_enter Try.func4, Try.ntmps4
     go_wp2_with (first | ((with_reducible refine gate_dst (N := 1) rfl ?_); refine box_event ?hg (N := 1) ?hd (cs := #[.slice A0_0 l0_0.length c0_0, .int .i64 a0_1, .int .i64 a0_2, .slice A0_3 l0_3.length c0_3, .bool a0_4]) (t := 24) ?hr ?_; (case hd => rfl); (case hg => rfl); q_hr; intro gb345 hg w76 hbox hb; have n0_ := Aside0.mk (below_step q_hb hb); have n1_ := Aside0.mk (hbox); have n2_ := Aside0.mk ((by rw [hg]; exact q_bs : w.heap.size ≤ gb345)); have n3_ := Aside0.mk ((by rw [hg]; exact q_bs : w.heap.size ≤ gb345)); clear HB; have HB := n0_; have BK345 := n1_; have GW345 := n2_; have GE345 := n3_; clear n0_ n1_ n2_ n3_; (q_x hb hbox hg); have hcz77_0 : w76.cell? ⟨gb345, 0, none⟩ = some (.slice A0_0 l0_0.length c0_0) := (blk_cell BK345.out 0).trans rfl; have hcz77_1 : w76.cell? ⟨gb345, 1, none⟩ = some (.int .i64 a0_1) := (blk_cell BK345.out 1).trans rfl; have hcz77_2 : w76.cell? ⟨gb345, 2, none⟩ = some (.int .i64 a0_2) := (blk_cell BK345.out 2).trans rfl; have hcz77_3 : w76.cell? ⟨gb345, 3, none⟩ = some (.slice A0_3 l0_3.length c0_3) := (blk_cell BK345.out 3).trans rfl; have hcz77_4 : w76.cell? ⟨gb345, 4, none⟩ = some (.bool a0_4) := (blk_cell BK345.out 4).trans rfl; have hfz77_0 := blk_frozen BK345.out 0; have hfz77_1 := blk_frozen BK345.out 1; have hfz77_2 := blk_frozen BK345.out 2; have hfz77_3 := blk_frozen BK345.out 3; have hfz77_4 := blk_frozen BK345.out 4) | ((with_reducible refine gate_callee (f := 13) rfl ?_); refine goesL_ (some 6) rfl rfl Try.func13 (by kernel_rfl) rfl #[.slice A0_0 l0_0.length c0_0, .int .i64 16] rfl q_ml ?_; (with_reducible refine (semigrouplaw17_large.calls k _ _ l0_0 16 false _ ?side1 ?side2 A2.out).mono ?_); (case side1 => q_cc (Kd.C_below HR0_0.out HB.out)); (case side2 => exact HC0_0.out); rintro e w' ⟨rfl, ⟨nd, rfl⟩⟩; refine ⟨_, rfl, ?_⟩) | ((with_reducible refine gate_callee (f := 15) rfl ?_); refine goesL_ (some 9) rfl rfl Try.func15 (by kernel_rfl) rfl #[.agg #[.slice A0_0 l0_0.length c0_0, .int .i64 a0_1, .int .i64 a0_2, .slice A0_3 l0_3.length c0_3, .bool a0_4]] rfl q_ml ?_; (with_reducible refine (semigroupref17_Validate.calls k _ _ l0_0 a0_1 a0_2 _ _ l0_3 a0_4 t348 _ ?side1 ?side2 ?side3 ?side4 A8.out).mono ?_); (case side1 => repeat (first | exact (Kd.C_below HR0_0.out (q_hs GE345.out)) | (with_reducible refine Kd.C_alloc ?_ _) | (with_reducible refine Kd.C_drewN ?_ _) | (with_reducible refine Kd.C_drew ?_))); (case side2 => exact HC0_0.out); (case side3 => repeat (first | exact (Kd.C_below HR0_3.out (q_hs GE345.out)) | (with_reducible refine Kd.C_alloc ?_ _) | (with_reducible refine Kd.C_drewN ?_ _) | (with_reducible refine Kd.C_drew ?_))); (case side4 => exact HC0_3.out); rintro e w78 ⟨rfl, hb⟩; refine ⟨_, rfl, ?_⟩; have n0_ := Aside0.mk (blk_below (g := gb345) (o := .cells #[.slice A0_0 l0_0.length c0_0, .int .i64 a0_1, .int .i64 a0_2, .slice A0_3 l0_3.length c0_3, .bool a0_4] 24 (0, 0)) (by q_bk; exact BK345.out) hb); have n1_ := Aside0.mk (below_step (q_hs GE345.out) hb); clear BK345; clear HB; have BK345 := n0_; have HB := n1_; clear n0_ n1_; (q_x hb hb2 hk hi); have hcz79_0 : w78.cell? ⟨gb345, 0, none⟩ = some (.slice A0_0 l0_0.length c0_0) := (blk_cell BK345.out 0).trans rfl; have hcz79_1 : w78.cell? ⟨gb345, 1, none⟩ = some (.int .i64 a0_1) := (blk_cell BK345.out 1).trans rfl; have hcz79_2 : w78.cell? ⟨gb345, 2, none⟩ = some (.int .i64 a0_2) := (blk_cell BK345.out 2).trans rfl; have hcz79_3 : w78.cell? ⟨gb345, 3, none⟩ = some (.slice A0_3 l0_3.length c0_3) := (blk_cell BK345.out 3).trans rfl; have hcz79_4 : w78.cell? ⟨gb345, 4, none⟩ = some (.bool a0_4) := (blk_cell BK345.out 4).trans rfl; have hfz79_0 := blk_frozen BK345.out 0; have hfz79_1 := blk_frozen BK345.out 1; have hfz79_2 := blk_frozen BK345.out 2; have hfz79_3 := blk_frozen BK345.out 3; have hfz79_4 := blk_frozen BK345.out 4) | ((with_reducible refine gate_callee (f := 21) rfl ?_); refine goesL_ (some 13) rfl rfl Try.func21 (by kernel_rfl) rfl #[.agg #[.slice A0_0 l0_0.length c0_0, .int .i64 a0_1, .int .i64 a0_2, .slice A0_3 l0_3.length c0_3, .bool a0_4]] rfl q_ml ?_; (with_reducible refine (rees_Validate.calls k _ _ l0_0 a0_1 a0_2 _ _ l0_3 a0_4 t349 _ ?side1 ?side2 ?side3 ?side4 A50.out).mono ?_); (case side1 => q_cc (Kd.C_below HR0_0.out HB.out)); (case side2 => exact HC0_0.out); (case side3 => q_cc (Kd.C_below HR0_3.out HB.out)); (case side4 => exact HC0_3.out); rintro e w80 ⟨rfl, hb⟩; refine ⟨_, rfl, ?_⟩; have n0_ := Aside0.mk (blk_below (g := gb345) (o := .cells #[.slice A0_0 l0_0.length c0_0, .int .i64 a0_1, .int .i64 a0_2, .slice A0_3 l0_3.length c0_3, .bool a0_4] 24 (0, 0)) (by q_bk; exact BK345.out) hb); have n1_ := Aside0.mk (below_step (q_hs GE345.out) hb); clear BK345; clear HB; have BK345 := n0_; have HB := n1_; clear n0_ n1_; (q_x hb hb2 hk hi); have hcz81_0 : w80.cell? ⟨gb345, 0, none⟩ = some (.slice A0_0 l0_0.length c0_0) := (blk_cell BK345.out 0).trans rfl; have hcz81_1 : w80.cell? ⟨gb345, 1, none⟩ = some (.int .i64 a0_1) := (blk_cell BK345.out 1).trans rfl; have hcz81_2 : w80.cell? ⟨gb345, 2, none⟩ = some (.int .i64 a0_2) := (blk_cell BK345.out 2).trans rfl; have hcz81_3 : w80.cell? ⟨gb345, 3, none⟩ = some (.slice A0_3 l0_3.length c0_3) := (blk_cell BK345.out 3).trans rfl; have hcz81_4 : w80.cell? ⟨gb345, 4, none⟩ = some (.bool a0_4) := (blk_cell BK345.out 4).trans rfl; have hfz81_0 := blk_frozen BK345.out 0; have hfz81_1 := blk_frozen BK345.out 1; have hfz81_2 := blk_frozen BK345.out 2; have hfz81_3 := blk_frozen BK345.out 3; have hfz81_4 := blk_frozen BK345.out 4) | (go_at_call 22; (with_reducible refine (rees_Size.calls k _ _ l0_0 a0_1 a0_2 _ _ l0_3 a0_4 t350 _ ?side1 ?side2 ?side3 ?side4 A52.out).mono ?_); (case side1 => q_cc (Kd.C_below HR0_0.out HB.out)); (case side2 => exact HC0_0.out); (case side3 => q_cc (Kd.C_below HR0_3.out HB.out)); (case side4 => exact HC0_3.out); rintro e w82 ⟨rfl, hb⟩; have n0_ := Aside0.mk (blk_below (g := gb345) (o := .cells #[.slice A0_0 l0_0.length c0_0, .int .i64 a0_1, .int .i64 a0_2, .slice A0_3 l0_3.length c0_3, .bool a0_4] 24 (0, 0)) (by q_bk; exact BK345.out) hb); have n1_ := Aside0.mk (below_step (q_hs GE345.out) hb); clear BK345; clear HB; have BK345 := n0_; have HB := n1_; clear n0_ n1_; (q_x hb hb2 hk); (try clear hi)))
     go_ret
     exact ⟨by first | rfl | q_em | q_en, by repeat (first | (with_reducible first | exact HB.out | apply below_alloc | apply pw_below_drewN | apply below_drew1 | refine below_set ?_ GE345.out) | exact HB.out)⟩
   ·rw [if_neg c51] at H
    have c51b0 : (t349 == t348) = false := beq_eq_false_iff_ne.mpr c51
    have c51b1 : (t349 != t348) = true := bne_iff_ne.mpr c51
    obtain rfl := Option.some.inj H
    go_enter Try.func4, Try.ntmps4
    go_wp2_with (first | ((with_reducible refine gate_dst (N := 1) rfl ?_); refine box_event ?hg (N := 1) ?hd (cs := #[.slice A0_0 l0_0.length c0_0, .int .i64 a0_1, .int .i64 a0_2, .slice A0_3 l0_3.length c0_3, .bool a0_4]) (t := 24) ?hr ?_; (case hd => rfl); (case hg => rfl); q_hr; intro gb345 hg w83 hbox hb; have n0_ := Aside0.mk (below_step q_hb hb); have n1_ := Aside0.mk (hbox); have n2_ := Aside0.mk ((by rw [hg]; exact q_bs : w.heap.size ≤ gb345)); have n3_ := Aside0.mk ((by rw [hg]; exact q_bs : w.heap.size ≤ gb345)); clear HB; have HB := n0_; have BK345 := n1_; have GW345 := n2_; have GE345 := n3_; clear n0_ n1_ n2_ n3_; (q_x hb hbox hg); have hcz84_0 : w83.cell? ⟨gb345, 0, none⟩ = some (.slice A0_0 l0_0.length c0_0) := (blk_cell BK345.out 0).trans rfl; have hcz84_1 : w83.cell? ⟨gb345, 1, none⟩ = some (.int .i64 a0_1) := (blk_cell BK345.out 1).trans rfl; have hcz84_2 : w83.cell? ⟨gb345, 2, none⟩ = some (.int .i64 a0_2) := (blk_cell BK345.out 2).trans rfl; have hcz84_3 : w83.cell? ⟨gb345, 3, none⟩ = some (.slice A0_3 l0_3.length c0_3) := (blk_cell BK345.out 3).trans rfl; have hcz84_4 : w83.cell? ⟨gb345, 4, none⟩ = some (.bool a0_4) := (blk_cell BK345.out 4).trans rfl; have hfz84_0 := blk_frozen BK345.out 0; have hfz84_1 := blk_frozen BK345.out 1; have hfz84_2 := blk_frozen BK345.out 2; have hfz84_3 := blk_frozen BK345.out 3; have hfz84_4 := blk_frozen BK345.out 4) | ((with_reducible refine gate_callee (f := 13) rfl ?_); refine goesL_ (some 6) rfl rfl Try.func13 (by kernel_rfl) rfl #[.slice A0_0 l0_0.length c0_0, .int .i64 16] rfl q_ml ?_; (with_reducible refine (semigrouplaw17_large.calls k _ _ l0_0 16 false _ ?side1 ?side2 A2.out).mono ?_); (case side1 => q_cc (Kd.C_below HR0_0.out HB.out)); (case side2 => exact HC0_0.out); rintro e w' ⟨rfl, ⟨nd, rfl⟩⟩; refine ⟨_, rfl, ?_⟩) | ((with_reducible refine gate_callee (f := 15) rfl ?_); refine goesL_ (some 9) rfl rfl Try.func15 (by kernel_rfl) rfl #[.agg #[.slice A0_0 l0_0.length c0_0, .int .i64 a0_1, .int .i64 a0_2, .slice A0_3 l0_3.length c0_3, .bool a0_4]] rfl q_ml ?_; (with_reducible refine (semigroupref17_Validate.calls k _ _ l0_0 a0_1 a0_2 _ _ l0_3 a0_4 t348 _ ?side1 ?side2 ?side3 ?side4 A8.out).mono ?_); (case side1 => repeat (first | exact (Kd.C_below HR0_0.out (q_hs GE345.out)) | (with_reducible refine Kd.C_alloc ?_ _) | (with_reducible refine Kd.C_drewN ?_ _) | (with_reducible refine Kd.C_drew ?_))); (case side2 => exact HC0_0.out); (case side3 => repeat (first | exact (Kd.C_below HR0_3.out (q_hs GE345.out)) | (with_reducible refine Kd.C_alloc ?_ _) | (with_reducible refine Kd.C_drewN ?_ _) | (with_reducible refine Kd.C_drew ?_))); (case side4 => exact HC0_3.out); rintro e w85 ⟨rfl, hb⟩; refine ⟨_, rfl, ?_⟩; have n0_ := Aside0.mk (blk_below (g := gb345) (o := .cells #[.slice A0_0 l0_0.length c0_0, .int .i64 a0_1, .int .i64 a0_2, .slice A0_3 l0_3.length c0_3, .bool a0_4] 24 (0, 0)) (by q_bk; exact BK345.out) hb); have n1_ := Aside0.mk (below_step (q_hs GE345.out) hb); clear BK345; clear HB; have BK345 := n0_; have HB := n1_; clear n0_ n1_; (q_x hb hb2 hk hi); have hcz86_0 : w85.cell? ⟨gb345, 0, none⟩ = some (.slice A0_0 l0_0.length c0_0) := (blk_cell BK345.out 0).trans rfl; have hcz86_1 : w85.cell? ⟨gb345, 1, none⟩ = some (.int .i64 a0_1) := (blk_cell BK345.out 1).trans rfl; have hcz86_2 : w85.cell? ⟨gb345, 2, none⟩ = some (.int .i64 a0_2) := (blk_cell BK345.out 2).trans rfl; have hcz86_3 : w85.cell? ⟨gb345, 3, none⟩ = some (.slice A0_3 l0_3.length c0_3) := (blk_cell BK345.out 3).trans rfl; have hcz86_4 : w85.cell? ⟨gb345, 4, none⟩ = some (.bool a0_4) := (blk_cell BK345.out 4).trans rfl; have hfz86_0 := blk_frozen BK345.out 0; have hfz86_1 := blk_frozen BK345.out 1; have hfz86_2 := blk_frozen BK345.out 2; have hfz86_3 := blk_frozen BK345.out 3; have hfz86_4 := blk_frozen BK345.out 4) | ((with_reducible refine gate_callee (f := 21) rfl ?_); refine goesL_ (some 13) rfl rfl Try.func21 (by kernel_rfl) rfl #[.agg #[.slice A0_0 l0_0.length c0_0, .int .i64 a0_1, .int .i64 a0_2, .slice A0_3 l0_3.length c0_3, .bool a0_4]] rfl q_ml ?_; (with_reducible refine (rees_Validate.calls k _ _ l0_0 a0_1 a0_2 _ _ l0_3 a0_4 t349 _ ?side1 ?side2 ?side3 ?side4 A50.out).mono ?_); (case side1 => q_cc (Kd.C_below HR0_0.out HB.out)); (case side2 => exact HC0_0.out); (case side3 => q_cc (Kd.C_below HR0_3.out HB.out)); (case side4 => exact HC0_3.out); rintro e w87 ⟨rfl, hb⟩; refine ⟨_, rfl, ?_⟩; have n0_ := Aside0.mk (blk_below (g := gb345) (o := .cells #[.slice A0_0 l0_0.length c0_0, .int .i64 a0_1, .int .i64 a0_2, .slice A0_3 l0_3.length c0_3, .bool a0_4] 24 (0, 0)) (by q_bk; exact BK345.out) hb); have n1_ := Aside0.mk (below_step (q_hs GE345.out) hb); clear BK345; clear HB; have BK345 := n0_; have HB := n1_; clear n0_ n1_; (q_x hb hb2 hk); (try clear hi)))
    go_ret
    exact ⟨by first | rfl | q_em | q_en, by repeat (first | (with_reducible first | exact HB.out | apply below_alloc | apply pw_below_drewN | apply below_drew1 | refine below_set ?_ GE345.out) | exact HB.out)⟩


end Go.Proofs.Ytnoickhdbinciaa.PAll
