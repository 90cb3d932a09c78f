-- printed for this claim out of the translation; Lean checks it
import Derived.Test.YtlhckcldeojfmaaKMultClosesP1
namespace Go.Proofs.Ytlhckcldeojfmaa.PAll
open Go.RowKit Go.Proofs.YtlhckcldeojfmaaW.PrintWords Go.Proofs.YtlhckcldeojfmaaW.PrintLast Go.Proofs.YtlhckcldeojfmaaW.PrintMore
attribute [local go_sem] max2_int min2_int max_two min_two max_three min_three max_four min_four   -- for this text's walks alone
set_option linter.unusedVariables false
set_option linter.unusedSimpArgs false
/-! ### mult_Sub: function 52 -/
mutual
def mult_Sub.j0 : Nat → List (List Int) → List Int → Bool → Option ((List (List Int)) × Int)
 | 0, _, _, _ => none
 | k + 1, x0, x1, x29 => if x29 = true then (some (([] : List (List Int)), 1)) else (if 0 ≤ (x0.length : Int) then (if ((x0.length : Int) : Int).toNat ≤ 35184372088832 then ((some (List.replicate ((x0.length : Int) : Int).toNat 0 : List Int)).bind fun y595 => (mult_Sub.l0 k x0 x1 y595 (y595.length : Int) 0)) else (none)) else (none))
def mult_Sub.l0 : Nat → List (List Int) → List Int → List Int → Int → Int → Option ((List (List Int)) × Int)
 | 0, _, _, _, _, _ => none
 | k + 1, x0, x1, x7, x34, x35 => if x35 < x34 then (if 0 ≤ x35 then (if x35 < (x7.length : Int) then (mult_Sub.l0 k x0 x1 (x7.set (x35 : Int).toNat (-1)) x34 (wrap64 (x35 + 1))) else (none)) else (none)) else (mult_Sub.l1 k x0 x1 x7 x1 (x1.length : Int) 0)
def mult_Sub.l1 : Nat → List (List Int) → List Int → List Int → List Int → Int → Int → Option ((List (List Int)) × Int)
 | 0, _, _, _, _, _, _ => none
 | k + 1, x0, x1, x7, x42, x43, x44 => if x44 < x43 then (if 0 ≤ x44 then (if x44 < (x42.length : Int) then (if x44 > 0 then (if 0 ≤ (wrap64 (x44 - 1)) then (if (wrap64 (x44 - 1)) < (x1.length : Int) then (if (rd x1 (wrap64 (x44 - 1))) ≥ (rd x42 x44) then (some (([] : List (List Int)), 1)) else (if 0 ≤ (rd x42 x44) then (if (rd x42 x44) < (x7.length : Int) then (mult_Sub.l1 k x0 x1 (x7.set ((rd x42 x44) : Int).toNat x44) x42 x43 (wrap64 (x44 + 1))) else (none)) else (none))) else (none)) else (none)) else (if 0 ≤ (rd x42 x44) then (if (rd x42 x44) < (x7.length : Int) then (mult_Sub.l1 k x0 x1 (x7.set ((rd x42 x44) : Int).toNat x44) x42 x43 (wrap64 (x44 + 1))) else (none)) else (none))) else (none)) else (none)) else (if 0 ≤ (x1.length : Int) then (if ((x1.length : Int) : Int).toNat ≤ 11728124029610 then (mult_Sub.l2 k x0 x1 x7 (List.replicate ((x1.length : Int) : Int).toNat []) x1 (x1.length : Int) 0) else (none)) else (none))
def mult_Sub.l2 : Nat → List (List Int) → List Int → List Int → List (List Int) → List Int → Int → Int → Option ((List (List Int)) × Int)
 | 0, _, _, _, _, _, _, _ => none
 | k + 1, x0, x1, x7, x11, x68, x69, x70 => if x70 < x69 then (if 0 ≤ x70 then (if x70 < (x68.length : Int) then (if 0 ≤ (x1.length : Int) then (if ((x1.length : Int) : Int).toNat ≤ 35184372088832 then (if x70 < (x11.length : Int) then (mult_Sub.l3 k x0 x1 x7 (x11.set (x70 : Int).toNat (List.replicate ((x1.length : Int) : Int).toNat 0)) x70 (rd x68 x70) x68 x69 x70 x1 (x1.length : Int) 0) else (none)) else (none)) else (none)) else (none)) else (none)) else (some (x11, 0))
def mult_Sub.l3 : Nat → List (List Int) → List Int → List Int → List (List Int) → Int → Int → List Int → Int → Int → List Int → Int → Int → Option ((List (List Int)) × Int)
 | 0, _, _, _, _, _, _, _, _, _, _, _, _ => none
 | k + 1, x0, x1, x7, x11, x12, x13, x68, x69, x70, x81, x82, x83 => if x83 < x82 then (if 0 ≤ x83 then (if x83 < (x81.length : Int) then (if 0 ≤ x13 then (if x13 < (x0.length : Int) then (if 0 ≤ (rd x81 x83) then (if (rd x81 x83) < ((rd_L1 x0 x13).length : Int) then (if 0 ≤ (rd (rd_L1 x0 x13) (rd x81 x83)) then (if (rd (rd_L1 x0 x13) (rd x81 x83)) < (x7.length : Int) then (if (rd x7 (rd (rd_L1 x0 x13) (rd x81 x83))) < 0 then (some (([] : List (List Int)), 9)) else (if 0 ≤ x12 then (if x12 < (x11.length : Int) then (if x83 < ((rd_L1 x11 x12).length : Int) then (mult_Sub.l3 k x0 x1 x7 (x11.set (x12 : Int).toNat ((rd_L1 x11 x12).set (x83 : Int).toNat (rd x7 (rd (rd_L1 x0 x13) (rd x81 x83))))) x12 x13 x68 x69 x70 x81 x82 (wrap64 (x83 + 1))) else (none)) else (none)) else (none))) else (none)) else (none)) else (none)) else (none)) else (none)) else (none)) else (none)) else (none)) else (mult_Sub.l2 k x0 x1 x7 x11 x68 x69 (wrap64 (x70 + 1)))
end
def mult_Sub.f (k : Nat) (l0 : List (List Int)) (l1 : List Int) : Option ((List (List Int)) × Int) := (mult_Validate.f k l0).bind fun t593 => (if t593 = 0 then (if (l1.length : Int) = 0 then (mult_Sub.j0 k l0 l1 true) else ((mult_elements.f k l0 l1).bind fun t594 => (mult_Sub.j0 k l0 l1 (!t594)))) else (some (([] : List (List Int)), t593)))
theorem mult_Sub.mono_l : ∀ k, (∀ y0 y1 y2, LeO (mult_Sub.j0 k y0 y1 y2) (mult_Sub.j0 (k + 1) y0 y1 y2)) ∧ (∀ y0 y1 y2 y3 y4, LeO (mult_Sub.l0 k y0 y1 y2 y3 y4) (mult_Sub.l0 (k + 1) y0 y1 y2 y3 y4)) ∧ (∀ y0 y1 y2 y3 y4 y5, LeO (mult_Sub.l1 k y0 y1 y2 y3 y4 y5) (mult_Sub.l1 (k + 1) y0 y1 y2 y3 y4 y5)) ∧ (∀ y0 y1 y2 y3 y4 y5 y6, LeO (mult_Sub.l2 k y0 y1 y2 y3 y4 y5 y6) (mult_Sub.l2 (k + 1) y0 y1 y2 y3 y4 y5 y6)) ∧ (∀ y0 y1 y2 y3 y4 y5 y6 y7 y8 y9 y10 y11, LeO (mult_Sub.l3 k y0 y1 y2 y3 y4 y5 y6 y7 y8 y9 y10 y11) (mult_Sub.l3 (k + 1) y0 y1 y2 y3 y4 y5 y6 y7 y8 y9 y10 y11))
 | 0 => ⟨fun _ _ _ r h => by simp [mult_Sub.j0] at h, fun _ _ _ _ _ r h => by simp [mult_Sub.l0] at h, fun _ _ _ _ _ _ r h => by simp [mult_Sub.l1] at h, fun _ _ _ _ _ _ _ r h => by simp [mult_Sub.l2] at h, fun _ _ _ _ _ _ _ _ _ _ _ _ r h => by simp [mult_Sub.l3] at h⟩
 | k + 1 => by
  obtain ⟨ih0, ih1, ih2, ih3, ih4⟩ := mult_Sub.mono_l k
  refine ⟨?_, ?_, ?_, ?_, ?_⟩
  ·intro y0 y1 y2
   unfold mult_Sub.j0
   repeat' first
   | (with_reducible exact ih0 _ _ _)
   | (with_reducible exact ih1 _ _ _ _ _)
   | (with_reducible exact ih2 _ _ _ _ _ _)
   | (with_reducible exact ih3 _ _ _ _ _ _ _)
   | (with_reducible exact ih4 _ _ _ _ _ _ _ _ _ _ _ _)
   | (with_reducible exact mult_Validate.mono _ _)
   | (with_reducible exact mult_elements.mono _ _ _)
   | (with_reducible exact LeO.refl _)
   | (with_reducible exact LeO.none _)
   | (with_reducible refine LeO.ite ?_ ?_)
   | (with_reducible refine LeO.bind ?_ (fun _ => ?_))
   | exact ih0 _ _ _
   | exact ih1 _ _ _ _ _
   | exact ih2 _ _ _ _ _ _
   | exact ih3 _ _ _ _ _ _ _
   | exact ih4 _ _ _ _ _ _ _ _ _ _ _ _
   | exact mult_Validate.mono _ _
   | exact mult_elements.mono _ _ _
   | exact LeO.none _
   | refine LeO.ite ?_ ?_
   | refine LeO.bind ?_ (fun _ => ?_)
  ·intro y0 y1 y2 y3 y4
   unfold mult_Sub.l0
   repeat' first
   | (with_reducible exact ih0 _ _ _)
   | (with_reducible exact ih1 _ _ _ _ _)
   | (with_reducible exact ih2 _ _ _ _ _ _)
   | (with_reducible exact ih3 _ _ _ _ _ _ _)
   | (with_reducible exact ih4 _ _ _ _ _ _ _ _ _ _ _ _)
   | (with_reducible exact mult_Validate.mono _ _)
   | (with_reducible exact mult_elements.mono _ _ _)
   | (with_reducible exact LeO.refl _)
   | (with_reducible exact LeO.none _)
   | (with_reducible refine LeO.ite ?_ ?_)
   | (with_reducible refine LeO.bind ?_ (fun _ => ?_))
   | exact ih0 _ _ _
   | exact ih1 _ _ _ _ _
   | exact ih2 _ _ _ _ _ _
   | exact ih3 _ _ _ _ _ _ _
   | exact ih4 _ _ _ _ _ _ _ _ _ _ _ _
   | exact mult_Validate.mono _ _
   | exact mult_elements.mono _ _ _
   | exact LeO.none _
   | refine LeO.ite ?_ ?_
   | refine LeO.bind ?_ (fun _ => ?_)
  ·intro y0 y1 y2 y3 y4 y5
   unfold mult_Sub.l1
   repeat' first
   | (with_reducible exact ih0 _ _ _)
   | (with_reducible exact ih1 _ _ _ _ _)
   | (with_reducible exact ih2 _ _ _ _ _ _)
   | (with_reducible exact ih3 _ _ _ _ _ _ _)
   | (with_reducible exact ih4 _ _ _ _ _ _ _ _ _ _ _ _)
   | (with_reducible exact mult_Validate.mono _ _)
   | (with_reducible exact mult_elements.mono _ _ _)
   | (with_reducible exact LeO.refl _)
   | (with_reducible exact LeO.none _)
   | (with_reducible refine LeO.ite ?_ ?_)
   | (with_reducible refine LeO.bind ?_ (fun _ => ?_))
   | exact ih0 _ _ _
   | exact ih1 _ _ _ _ _
   | exact ih2 _ _ _ _ _ _
   | exact ih3 _ _ _ _ _ _ _
   | exact ih4 _ _ _ _ _ _ _ _ _ _ _ _
   | exact mult_Validate.mono _ _
   | exact mult_elements.mono _ _ _
   | exact LeO.none _
   | refine LeO.ite ?_ ?_
   | refine LeO.bind ?_ (fun _ => ?_)
  ·intro y0 y1 y2 y3 y4 y5 y6
   unfold mult_Sub.l2
   repeat' first
   | (with_reducible exact ih0 _ _ _)
   | (with_reducible exact ih1 _ _ _ _ _)
   | (with_reducible exact ih2 _ _ _ _ _ _)
   | (with_reducible exact ih3 _ _ _ _ _ _ _)
   | (with_reducible exact ih4 _ _ _ _ _ _ _ _ _ _ _ _)
   | (with_reducible exact mult_Validate.mono _ _)
   | (with_reducible exact mult_elements.mono _ _ _)
   | (with_reducible exact LeO.refl _)
   | (with_reducible exact LeO.none _)
   | (with_reducible refine LeO.ite ?_ ?_)
   | (with_reducible refine LeO.bind ?_ (fun _ => ?_))
   | exact ih0 _ _ _
   | exact ih1 _ _ _ _ _
   | exact ih2 _ _ _ _ _ _
   | exact ih3 _ _ _ _ _ _ _
   | exact ih4 _ _ _ _ _ _ _ _ _ _ _ _
   | exact mult_Validate.mono _ _
   | exact mult_elements.mono _ _ _
   | exact LeO.none _
   | refine LeO.ite ?_ ?_
   | refine LeO.bind ?_ (fun _ => ?_)
  ·intro y0 y1 y2 y3 y4 y5 y6 y7 y8 y9 y10 y11
   unfold mult_Sub.l3
   repeat' first
   | (with_reducible exact ih0 _ _ _)
   | (with_reducible exact ih1 _ _ _ _ _)
   | (with_reducible exact ih2 _ _ _ _ _ _)
   | (with_reducible exact ih3 _ _ _ _ _ _ _)
   | (with_reducible exact ih4 _ _ _ _ _ _ _ _ _ _ _ _)
   | (with_reducible exact mult_Validate.mono _ _)
   | (with_reducible exact mult_elements.mono _ _ _)
   | (with_reducible exact LeO.refl _)
   | (with_reducible exact LeO.none _)
   | (with_reducible refine LeO.ite ?_ ?_)
   | (with_reducible refine LeO.bind ?_ (fun _ => ?_))
   | exact ih0 _ _ _
   | exact ih1 _ _ _ _ _
   | exact ih2 _ _ _ _ _ _
   | exact ih3 _ _ _ _ _ _ _
   | exact ih4 _ _ _ _ _ _ _ _ _ _ _ _
   | exact mult_Validate.mono _ _
   | exact mult_elements.mono _ _ _
   | exact LeO.none _
   | refine LeO.ite ?_ ?_
   | refine LeO.bind ?_ (fun _ => ?_)
theorem mult_Sub.mono : ∀ a0 a1 k, LeO (mult_Sub.f k a0 a1) (mult_Sub.f (k + 1) a0 a1) := by
 intro a0 a1 k
 obtain ⟨ih0, ih1, ih2, ih3, ih4⟩ := mult_Sub.mono_l k
 unfold mult_Sub.f
 repeat' first
   | (with_reducible exact ih0 _ _ _)
   | (with_reducible exact ih1 _ _ _ _ _)
   | (with_reducible exact ih2 _ _ _ _ _ _)
   | (with_reducible exact ih3 _ _ _ _ _ _ _)
   | (with_reducible exact ih4 _ _ _ _ _ _ _ _ _ _ _ _)
   | (with_reducible exact mult_Validate.mono _ _)
   | (with_reducible exact mult_elements.mono _ _ _)
   | (with_reducible exact LeO.refl _)
   | (with_reducible exact LeO.none _)
   | (with_reducible refine LeO.ite ?_ ?_)
   | (with_reducible refine LeO.bind ?_ (fun _ => ?_))
   | exact ih0 _ _ _
   | exact ih1 _ _ _ _ _
   | exact ih2 _ _ _ _ _ _
   | exact ih3 _ _ _ _ _ _ _
   | exact ih4 _ _ _ _ _ _ _ _ _ _ _ _
   | exact mult_Validate.mono _ _
   | exact mult_elements.mono _ _ _
   | exact LeO.none _
   | refine LeO.ite ?_ ?_
   | refine LeO.bind ?_ (fun _ => ?_)
def mult_Sub.T29 : Bool × List (List Nat × List Nat) := (true, [([], []), ([], []), ([0, 1], [0, 1]), ([2], [2]), ([], []), ([], []), ([], []), ([], []), ([6, 7], [6, 7]), ([8], [8]), ([], []), ([9, 10], [9, 10]), ([11], [11]), ([5, 12], [5, 12]), ([13], [13]), ([3, 4, 0, 1, 2, 3, 4, 5, 6, 7, 8, 9, 10, 11, 12, 13, 14], [3, 4]), ([15, 14, 0, 1, 2, 3, 4, 5, 6, 7, 8, 9, 10, 11, 12, 13, 14], [14, 15])])
def mult_Sub.B29 : List Nat := [0, 0, 3, 7, 0, 0, 0, 0, 192, 448, 0, 1984, 4032, 8160, 16352, 32767, 65535]
theorem mult_Sub.tab29 : rtab .any (opsOf Try.f52 29) = mult_Sub.T29 := by kernel_rfl
theorem mult_Sub.bits29 : waitsOk mult_Sub.T29.2 mult_Sub.B29 = true := by kernel_rfl
set_option maxHeartbeats 8000000 in
set_option maxRecDepth 100000 in
theorem mult_Sub.calls (k : Nat) (A0 : Option Addr) (c0 : Nat) (l0 : List (List Int)) (A1 : Option Addr) (c1 : Nat) (l1 : List Int) (r1 : List (List Int)) (r2 : Int) (w : World) (hr0 : Kd.C (Kd.slice 3 (Kd.int .i64)) w A0 l0.length l0) (hc0 : l0.length ≤ c0) (hr1 : Kd.C (Kd.int .i64) w A1 l1.length l1) (hc1 : l1.length ≤ c1) (h : mult_Sub.f k l0 l1 = some (r1, r2)) :
  Calls Try.prog 52 #[.slice A0 l0.length c0, .slice A1 l1.length c1] w fun e w' => ∃ v0_ : Value, e = .returned (.tuple #[v0_, .int .i64 r2]) ∧ Kd.S (Kd.slice 3 (Kd.int .i64)) 30 w' w.heap.size (fun _ => True) v0_ r1 ∧ Below w.heap.size w w' := by
 have HR0 := Aside0.mk hr0
 have HC0 := Aside0.mk hc0
 (try clear hr0); (try clear hc0)
 have HR1 := Aside0.mk hr1
 have HC1 := Aside0.mk hc1
 (try clear hr1); (try clear hc1)
 have HB := Aside0.mk (Below.refl w.heap.size w)
 have H : ((mult_Validate.f k l0).bind fun t593 => (if t593 = 0 then (if (l1.length : Int) = 0 then (mult_Sub.j0 k l0 l1 true) else ((mult_elements.f k l0 l1).bind fun t594 => (mult_Sub.j0 k l0 l1 (!t594)))) else (some (([] : List (List Int)), t593)))) = some (r1, r2) := h
 clear h
 replace H := Option.bind_eq_some_iff.mp H
 obtain ⟨t593, A30, H⟩ := H
 replace H : (if t593 = 0 then (if (l1.length : Int) = 0 then (mult_Sub.j0 k l0 l1 true) else ((mult_elements.f k l0 l1).bind fun t594 => (mult_Sub.j0 k l0 l1 (!t594)))) else (some (([] : List (List Int)), t593))) = some (r1, r2) := H
 have A3 := Aside0.mk A30
 clear A30
 by_cases c4 : t593 = 0
 ·rw [if_pos c4] at H
  have c4b0 : (t593 == 0) = true := beq_iff_eq.mpr c4
  have c4b1 : (t593 != 0) = false := bne_eq_false_iff_eq.mpr c4
  clear c4
  have HC5 := Aside0.mk H
  clear H
  go_enter Try.func52, Try.ntmps52
  go_upto_region 4 with (first | ((with_reducible refine gate_callee (f := 19) rfl ?_); refine goesL_ (some 17) rfl rfl Try.func19 (by kernel_rfl) rfl #[.slice A0 l0.length c0] rfl (by (try simp only [List.map_toArray, List.map_cons, List.map_nil]); first | done | rfl | (simp only [List.length_drop, List.length_take]; rfl)) ?_; (with_reducible refine (mult_Validate.calls k _ _ l0 t593 _ ?side1 ?side2 A3.out).mono ?_); (case side1 => repeat (first | exact HR0.out | (with_reducible refine Kd.C_alloc ?_ _) | (with_reducible refine Kd.C_drewN ?_ _) | (with_reducible refine Kd.C_drew ?_))); (case side2 => exact HC0.out); rintro e w' ⟨rfl, ⟨nd, rfl⟩⟩; refine ⟨_, rfl, ?_⟩))
  (try simp only [Act.put, List.setIfInBounds_toArray, List.set_cons_zero, List.set_cons_succ])
  go_cut [29] (fun v29 wc => ∃ (kq : Nat) (x29_4 : Bool), v29 = .bool x29_4 ∧ Aside0 (mult_Sub.j0 kq l0 l1 x29_4 = some (r1, r2)) ∧ Aside0 (kq ≤ k) ∧ Aside0 (Below w.heap.size w wc))
  case first =>
   have H := HC5.out
   clear HC5
   by_cases c6 : (l1.length : Int) = 0
   ·rw [if_pos c6] at H
    have c6b0 : ((l1.length : Int) == 0) = true := beq_iff_eq.mpr c6
    have c6b1 : ((l1.length : Int) != 0) = false := bne_eq_false_iff_eq.mpr c6
    clear c6
    (first | rw [c6b0] | (simp only [i64_w, i32_w]; rw [c6b0]) | skip)
    have H' := Aside0.mk H
    clear H
    go_wp2
    go_meet
    case rel => exact ⟨_, (true), (by first | rfl | (simp; done) | (simp [*]; done)), H', ⟨by first | omega | exact Nat.le_refl _⟩, ⟨by repeat (first | (with_reducible first | exact HB.out | apply below_alloc | apply pw_below_drewN | apply below_drew1) | exact HB.out)⟩⟩
   ·rw [if_neg c6] at H
    have c6b0 : ((l1.length : Int) == 0) = false := beq_eq_false_iff_ne.mpr c6
    have c6b1 : ((l1.length : Int) != 0) = true := bne_iff_ne.mpr c6
    have c6b2 : ¬ (l1 = []) := fun h_ => c6 (by rw [h_]; rfl)
    (first | rw [c6b0] | (simp only [i64_w, i32_w]; rw [c6b0]) | skip)
    replace H := Option.bind_eq_some_iff.mp H
    obtain ⟨t594, A70, H⟩ := H
    replace H : (mult_Sub.j0 k l0 l1 (!t594)) = some (r1, r2) := H
    have A7 := Aside0.mk A70
    clear A70
    have H' := Aside0.mk H
    clear H
    go_wp2_with (first | (go_at_call 69; (with_reducible refine (mult_elements.calls k _ _ l0 _ _ l1 t594 _ ?side1 ?side2 ?side3 ?side4 A7.out).mono ?_); (case side1 => repeat (first | exact (Kd.C_below HR0.out HB.out) | (with_reducible refine Kd.C_alloc ?_ _) | (with_reducible refine Kd.C_drewN ?_ _) | (with_reducible refine Kd.C_drew ?_))); (case side2 => exact HC0.out); (case side3 => repeat (first | exact (Kd.C_below HR1.out HB.out) | (with_reducible refine Kd.C_alloc ?_ _) | (with_reducible refine Kd.C_drewN ?_ _) | (with_reducible refine Kd.C_drew ?_))); (case side4 => exact HC1.out); rintro e w' ⟨rfl, ⟨nd, rfl⟩⟩))
    go_meet
    case rel => exact ⟨_, (!t594), (by first | rfl | (simp; done) | (simp [*]; done)), H', ⟨by first | omega | exact Nat.le_refl _⟩, ⟨by repeat (first | (with_reducible first | exact HB.out | apply below_alloc | apply pw_below_drewN | apply below_drew1) | exact HB.out)⟩⟩
  case rest =>
   clear HC5
   try clear c1
   try clear p2
   try clear c4
   try clear c4b0
   try clear c4b1
   try clear c5
   try clear c6
   try clear c6b0
   try clear c6b1
   try clear c6b2
   obtain ⟨kq, x29_4, rfl, HA, HJ4, HB⟩ := hcut
   cases kq with
   | zero => exact absurd HA.out (by simp [mult_Sub.j0])
   | succ kj4 =>
    have H := HA.out
    clear HA
    simp only [mult_Sub.j0] at H
    by_cases c8 : x29_4 = true
    ·subst c8
     have H1 : (some (([] : List (List Int)), 1)) = some (r1, r2) := by rw [if_pos rfl] at H; exact H
     clear H
     have H := H1
     clear H1
     simp only [Option.some.injEq, Prod.mk.injEq] at H
     obtain ⟨rfl, rfl⟩ := H
     go_wp2
     go_ret2
     exact ⟨_, by first | rfl | (simp [errW_none, errW_some] <;> rfl) | (simp [*, errW_none, errW_some] <;> rfl), by first | exact Kd.S_nil _ _ _ _ _ | exact Kd.N_nil _ _ _ _ _ | exact Kd.V_nil _ _ _ _ _ | exact Kd.Q_nil _ _ _ _ _ | exact Kd.R_nil _ _ _ _ _, by repeat (first | (with_reducible first | exact HB.out | apply below_alloc | apply pw_below_drewN | apply below_drew1) | exact HB.out)⟩
    ·replace c8 := Bool.eq_false_iff.mpr c8
     subst c8
     have H1 : (if 0 ≤ (l0.length : Int) then (if ((l0.length : Int) : Int).toNat ≤ 35184372088832 then ((some (List.replicate ((l0.length : Int) : Int).toNat 0 : List Int)).bind fun y595 => (mult_Sub.l0 kj4 l0 l1 y595 (y595.length : Int) 0)) else (none)) else (none)) = some (r1, r2) := by rw [if_neg (show ¬ (false = true) by decide)] at H; exact H
     clear H
     have H := H1
     clear H1
     by_cases c9 : 0 ≤ (l0.length : Int)
     ·rw [if_pos c9] at H
      have c9b0 := eq_true c9
      have c9b1 : decide (0 ≤ (l0.length : Int)) = true := decide_eq_true c9
      clear c9
      by_cases c10 : ((l0.length : Int) : Int).toNat ≤ 35184372088832
      ·rw [if_pos c10] at H
       have c10b0 := eq_true c10
       have c10b1 : decide (((l0.length : Int) : Int).toNat ≤ 35184372088832) = true := decide_eq_true c10
       clear c10
       obtain ⟨y595, hy595⟩ : ∃ y_ : List Int, y_ = (List.replicate ((l0.length : Int) : Int).toNat 0) := ⟨_, rfl⟩
       replace H : (mult_Sub.l0 kj4 l0 l1 y595 (y595.length : Int) 0) = some (r1, r2) := by first | (rw [hy595]; with_reducible exact H) | (have H2_ := (Option.bind_some _ _).symm.trans H; rw [hy595]; with_reducible exact H2_) | (have H2_ := (Option.bind_some _ _).symm.trans H; with_reducible exact H2_) | with_reducible exact H | (rw [hy595]; exact H) | exact H
       have Ny595 := Aside0.mk hy595
       clear hy595
       have H' := Aside0.mk H
       clear H
       go_wp2_with (first | ((with_reducible refine gate_dst (N := 32) rfl ?_); refine Kd.R_make (Kd.int .i64) _ 3 rfl (N := 32) rfl 30 _ _ rfl (l0.length : Int) rfl rfl Try.underlying30 (.int .i64 0) 8 info3 rfl (by decide) (by omega) 0 (ok := fun _ => True) (okp := fun _ => True) rfl (fun _ hk => hk) trivial (of_decide_eq_true (by first | (with_reducible assumption) | assumption)) (Nat.le_trans (Nat.mul_le_mul_right _ (of_decide_eq_true (by first | (with_reducible assumption) | assumption) : (l0.length : Int).toNat ≤ 35184372088832)) (by omega)) (Below.refl _ _) (Nat.le_refl _) ?_; intro v596 w11 ho12 hb hg_ hnew_; (try clear hg_); (try clear hnew_); (first | rw [← Ny595.out] at ho12 | (simp only [Int.reduceToNat] at ho12; rw [← Ny595.out] at ho12)); have n0_ := Aside0.mk (Kd.R_lower ho12 (below_size (by repeat (first | (with_reducible first | exact HB.out | apply below_alloc | apply pw_below_drewN | apply below_drew1) | exact HB.out)))); have n1_ := Aside0.mk (below_step (by repeat (first | (with_reducible first | exact HB.out | apply below_alloc | apply pw_below_drewN | apply below_drew1) | exact HB.out)) hb); clear HB; have HO597 := n0_; have HB := n1_; clear n0_ n1_; (try clear hb); (try clear ho12); obtain ⟨Ao13, co13, eo13⟩ := Kd.R_slice HO597.out; subst eo13))
       go_loopg [35] kj4 (fun kq v35 w' => ∃ (x7_2 : List Int) (x35_2 : Int), v35 = .int .i64 x35_2 ∧ Aside0 (mult_Sub.l0 kq l0 l1 x7_2 (y595.length : Int) x35_2 = some (r1, r2)) ∧ Aside0 (kq ≤ kj4) ∧ Aside0 (Kd.R (Kd.int .i64) 3 w' w.heap.size (fun _ => True) (.slice Ao13 y595.length co13) x7_2) ∧ Aside0 (Below w.heap.size w w'))
       case atStart => exact ⟨(y595), (0), (by first | rfl | (simp; done) | (simp [*]; done)), H', ⟨Nat.le_refl _⟩, ⟨by (with_reducible repeat (first | apply Kd.R_alloc | apply Kd.R_drewN | apply Kd.R_drew)); exact HO597.out⟩, ⟨by repeat (first | (with_reducible first | exact HB.out | apply below_alloc | apply pw_below_drewN | apply below_drew1) | exact HB.out)⟩⟩
       case round =>
        clear H'
        try clear c1
        try clear p2
        try clear c4
        try clear c4b0
        try clear c4b1
        try clear c5
        try clear c6
        try clear c6b0
        try clear c6b1
        try clear c6b2
        try clear c8
        try clear c9
        try clear c9b0
        try clear c9b1
        try clear c10
        try clear c10b0
        try clear c10b1
        try clear p2
        obtain ⟨x7_2, x35_2, rfl, HA, HK2, HO_7, HB⟩ := hrel
        have hl7_2 := (Kd.R_reads' HO_7.out).1
        rw [hl7_2] at HO_7
        (try simp only [hl7_2])
        cases gk with
        | zero => exact absurd HA.out (by simp [mult_Sub.l0])
        | succ k2 =>
         have H := HA.out
         clear HA
         simp only [mult_Sub.l0] at H
         by_cases c14 : x35_2 < (y595.length : Int)
         ·rw [if_pos c14] at H
          have c14b0 : decide (x35_2 < (y595.length : Int)) = true := decide_eq_true c14
          (try (have c14b0z := c14b0; simp only [hl7_2] at c14b0z))
          clear c14
          by_cases c15 : 0 ≤ x35_2
          ·rw [if_pos c15] at H
           have c15b0 : decide (0 ≤ x35_2) = true := decide_eq_true c15
           clear c15
           by_cases c16 : x35_2 < (x7_2.length : Int)
           ·rw [if_pos c16] at H
            have c16b0 : decide (x35_2 < (x7_2.length : Int)) = true := decide_eq_true c16
            (try (have c16b0z := c16b0; simp only [hl7_2] at c16b0z))
            clear c16
            obtain ⟨y598, hy598⟩ : ∃ y_ : List Int, y_ = (x7_2.set (x35_2 : Int).toNat (-1)) := ⟨_, rfl⟩
            replace H : (mult_Sub.l0 k2 l0 l1 y598 (y595.length : Int) (wrap64 (x35_2 + 1))) = some (r1, r2) := by first | (rw [hy598]; with_reducible exact H) | (have H2_ := (Option.bind_some _ _).symm.trans H; rw [hy598]; with_reducible exact H2_) | (have H2_ := (Option.bind_some _ _).symm.trans H; with_reducible exact H2_) | with_reducible exact H | (rw [hy598]; exact H) | exact H
            have Ny598 := Aside0.mk hy598
            clear hy598
            have H' := Aside0.mk H
            clear H
            have p17 : 0 ≤ (x35_2 : Int) := of_decide_eq_true (by first | (with_reducible assumption) | assumption)
            have q17 : (x35_2 : Int) < ((x7_2.length : Int) : Int) := of_decide_eq_true (by first | (with_reducible assumption) | assumption)
            obtain ⟨go17, co17, eo17, gb17, gl17, cl17, HG17⟩ := Kd.R_form HO_7.out (by omega)
            (first | cases eo17 | (injection eo17 with ea_ en_ ec_; (first | subst ea_ | (injection ea_ with ea_; subst ea_)); subst ec_; clear en_))
            have GB17 := Aside0.mk gb17
            have GG17 := Aside0.mk HG17
            (try clear gb17); (try clear gl17); (try clear HG17)
            obtain ⟨hx17_0, hf17_0⟩ := Kd.R_celln 0 HO_7.out (x35_2 : Int) p17 q17
            replace p17 := eq_true p17
            replace q17 := eq_true q17
            have HP18 := Kd.R_putg HO_7.out (x35_2 : Int) (-1)
            go_wp2_with (first | ((with_reducible refine gate_store (t := 3) (p := 40) rfl ?_); refine store_event (t := 3) (p := 40) (v := ?vo_w19) (w1 := (wr.setCell ⟨go17, (x35_2 : Int).toNat, none⟩ (.int .i64 (-1)))) ?hg ?ho ?hn ?hr ?_; (case ho => rfl); (case hg => rfl); (case hn => rfl); (case hr => first | (go_simp; done) | (go_simp; rfl)); intro w19 hw; have hg : wr.grownBy w19 (some go17) := (by rw [hw]; exact HP18.2); have hp_ : Kd.R (Kd.int .i64) 3 w19 w.heap.size (fun _ => True) (.slice (some ⟨go17, 0, none⟩) x7_2.length co13) y598 := (by rw [hw, Ny598.out]; exact HP18.1); clear HP18; have n0_ := Aside0.mk (hp_); have n1_ := Aside0.mk ((by rw [hw]; exact below_set (HB.out) GB17.out : Below w.heap.size w w19)); clear HO_7; clear HB; have HO_7 := n0_; have HB := n1_; clear n0_ n1_; (try clear hg); (try clear hw); (try clear hp_)))
            (try simp only [← hl7_2])
            go_roundg k2
            case measure => have := HJ4.out; have := HK2.out; omega
            case rel => exact ⟨(y598), (wrap64 (x35_2 + 1)), (by first | rfl | (simp; done) | (simp [*]; done)), H', ⟨by have := HJ4.out; have := HK2.out; omega⟩, ⟨by (try simp only [hl7_2]); (with_reducible repeat (first | apply Kd.R_alloc | apply Kd.R_drewN | apply Kd.R_drew)); exact HO_7.out⟩, ⟨by repeat (first | (with_reducible first | exact HB.out | apply below_alloc | apply pw_below_drewN | apply below_drew1) | exact HB.out)⟩⟩
           ·rw [if_neg c16] at H
            exact absurd H (by simp)
          ·rw [if_neg c15] at H
           exact absurd H (by simp)
         ·rw [if_neg c14] at H
          have c14b0 : decide (x35_2 < (y595.length : Int)) = false := decide_eq_false c14
          (try (have c14b0z := c14b0; simp only [hl7_2] at c14b0z))
          clear c14
          have H' := Aside0.mk H
          clear H
          go_wp2
          go_loopg [44] k2 (fun kq v44 w' => ∃ (x7_3 : List Int) (x44_3 : Int), v44 = .int .i64 x44_3 ∧ Aside0 (mult_Sub.l1 kq l0 l1 x7_3 l1 (l1.length : Int) x44_3 = some (r1, r2)) ∧ Aside0 (kq ≤ k2) ∧ Aside0 (Kd.R (Kd.int .i64) 3 w' w.heap.size (fun _ => True) (.slice Ao13 x7_2.length co13) x7_3) ∧ Aside0 (Below w.heap.size w w'))
          case atStart => exact ⟨(x7_2), (0), (by first | rfl | (simp; done) | (simp [*]; done)), H', ⟨Nat.le_refl _⟩, ⟨by (try simp only [hl7_2]); (with_reducible repeat (first | apply Kd.R_alloc | apply Kd.R_drewN | apply Kd.R_drew)); exact HO_7.out⟩, ⟨by repeat (first | (with_reducible first | exact HB.out | apply below_alloc | apply pw_below_drewN | apply below_drew1) | exact HB.out)⟩⟩
          case round =>
           clear H'
           try clear c1
           try clear p1
           try clear q1
           try clear hx1
           try clear p2
           try clear c4
           try clear c4b0
           try clear c4b1
           try clear c5
           try clear c6
           try clear c6b0
           try clear c6b1
           try clear c6b2
           try clear p6
           try clear c8
           try clear c9
           try clear c9b0
           try clear c9b1
           try clear c10
           try clear c10b0
           try clear c10b1
           try clear c14
           try clear c14b0
           try clear c15
           try clear c15b0
           try clear c16
           try clear c16b0
           try clear p17
           try clear q17
           try clear hx17
           try clear hf17
           try clear c19
           try clear hx17_0
           try clear p17
           try clear p2
           try clear q17
           obtain ⟨x7_3, x44_3, rfl, HA, HK3, HO_7, HB⟩ := hrel
           have hl7_3 := (Kd.R_reads' HO_7.out).1
           rw [hl7_3] at HO_7
           (try simp only [hl7_3])
           cases gk with
           | zero => exact absurd HA.out (by simp [mult_Sub.l1])
           | succ k3 =>
            have H := HA.out
            clear HA
            simp only [mult_Sub.l1] at H
            by_cases c20 : x44_3 < (l1.length : Int)
            ·rw [if_pos c20] at H
             have c20b0 : decide (x44_3 < (l1.length : Int)) = true := decide_eq_true c20
             (try (have c20b0z := c20b0; simp only [hl7_2, hl7_3] at c20b0z))
             clear c20
             by_cases c21 : 0 ≤ x44_3
             ·rw [if_pos c21] at H
              have c21b0 : decide (0 ≤ x44_3) = true := decide_eq_true c21
              clear c21
              by_cases c22 : x44_3 < (l1.length : Int)
              ·rw [if_pos c22] at H
               have c22b0 : decide (x44_3 < (l1.length : Int)) = true := decide_eq_true c22
               (try (have c22b0z := c22b0; simp only [hl7_2, hl7_3] at c22b0z))
               clear c22
               by_cases c23 : x44_3 > 0
               ·rw [if_pos c23] at H
                have c23b0 : decide (0 < x44_3) = true := decide_eq_true c23
                clear c23
                obtain ⟨ji24, hji24⟩ : ∃ j_ : Int, (wrap64 (x44_3 - 1)) = j_ := ⟨_, rfl⟩
                replace H : (if 0 ≤ (ji24) then (if (ji24) < (l1.length : Int) then (if (rd l1 (ji24)) ≥ (rd l1 x44_3) then (some (([] : List (List Int)), 1)) else (if 0 ≤ (rd l1 x44_3) then (if (rd l1 x44_3) < (x7_3.length : Int) then (mult_Sub.l1 k3 l0 l1 (x7_3.set ((rd l1 x44_3) : Int).toNat x44_3) l1 (l1.length : Int) (wrap64 (x44_3 + 1))) else (none)) else (none))) else (none)) else (none)) = some (r1, r2) := by first | (rw [hji24] at H; exact H) | (simp only [hji24] at H ⊢; exact H)
                have hji24w : (IntKind.i64.wrap (x44_3 - 1)) = ji24 := (i64_w _).trans hji24
                by_cases c25 : 0 ≤ (ji24)
                ·rw [if_pos c25] at H
                 have c25b0 : decide (0 ≤ (ji24)) = true := decide_eq_true c25
                 clear c25
                 by_cases c26 : (ji24) < (l1.length : Int)
                 ·rw [if_pos c26] at H
                  have c26b0 : decide ((ji24) < (l1.length : Int)) = true := decide_eq_true c26
                  (try (have c26b0z := c26b0; simp only [hl7_2, hl7_3] at c26b0z))
                  clear c26
                  by_cases c27 : (rd l1 (ji24)) ≥ (rd l1 x44_3)
                  ·rw [if_pos c27] at H
                   have c27b0 : decide ((rd l1 x44_3) ≤ (rd l1 (ji24))) = true := decide_eq_true c27
                   clear c27
                   simp only [Option.some.injEq, Prod.mk.injEq] at H
                   obtain ⟨rfl, rfl⟩ := H
                   have p599 : 0 ≤ (x44_3 : Int) := of_decide_eq_true (by first | (with_reducible assumption) | assumption)
                   have q599 : x44_3 < (l1.length : Int) := of_decide_eq_true (by first | (with_reducible assumption) | assumption)
                   obtain ⟨ad599, e599, hx599_0⟩ := Kd.at_int HR1.out x44_3 p599 q599
                   cases e599
                   replace hx599_0 := (HB.out.cell (World.block_lt_of_cell? w _ hx599_0)).trans hx599_0
                   replace p599 := eq_true p599
                   replace q599 := eq_true q599
                   have p600 : 0 ≤ ((ji24) : Int) := of_decide_eq_true (by first | (with_reducible assumption) | assumption)
                   have q600 : (ji24) < (l1.length : Int) := of_decide_eq_true (by first | (with_reducible assumption) | assumption)
                   obtain ⟨ad600, e600, hx600_0⟩ := Kd.at_int HR1.out (ji24) p600 q600
                   obtain rfl : ad599 = ad600 := (by injection e600)
                   replace hx600_0 := (HB.out.cell (World.block_lt_of_cell? w _ hx600_0)).trans hx600_0
                   replace p600 := eq_true p600
                   replace q600 := eq_true q600
                   go_wp2
                   go_ret2
                   exact ⟨_, by first | rfl | (simp [errW_none, errW_some] <;> rfl) | (simp only [← hji24]; first | rfl | (simp [errW_none, errW_some] <;> rfl)) | (simp [*, errW_none, errW_some] <;> rfl), by first | exact Kd.S_nil _ _ _ _ _ | exact Kd.N_nil _ _ _ _ _ | exact Kd.V_nil _ _ _ _ _ | exact Kd.Q_nil _ _ _ _ _ | exact Kd.R_nil _ _ _ _ _, by repeat (first | (with_reducible first | exact HB.out | apply below_alloc | apply pw_below_drewN | apply below_drew1) | exact HB.out)⟩
                  ·rw [if_neg c27] at H
                   have c27b0 : decide ((rd l1 x44_3) ≤ (rd l1 (ji24))) = false := decide_eq_false c27
                   clear c27
                   by_cases c28 : 0 ≤ (rd l1 x44_3)
                   ·rw [if_pos c28] at H
                    have c28b0 : decide (0 ≤ (rd l1 x44_3)) = true := decide_eq_true c28
                    clear c28
                    by_cases c29 : (rd l1 x44_3) < (x7_3.length : Int)
                    ·rw [if_pos c29] at H
                     have c29b0 : decide ((rd l1 x44_3) < (x7_3.length : Int)) = true := decide_eq_true c29
                     (try (have c29b0z := c29b0; simp only [hl7_2, hl7_3] at c29b0z))
                     clear c29
                     obtain ⟨y601, hy601⟩ : ∃ y_ : List Int, y_ = (x7_3.set ((rd l1 x44_3) : Int).toNat x44_3) := ⟨_, rfl⟩
                     replace H : (mult_Sub.l1 k3 l0 l1 y601 l1 (l1.length : Int) (wrap64 (x44_3 + 1))) = some (r1, r2) := by first | (rw [hy601]; with_reducible exact H) | (have H2_ := (Option.bind_some _ _).symm.trans H; rw [hy601]; with_reducible exact H2_) | (have H2_ := (Option.bind_some _ _).symm.trans H; with_reducible exact H2_) | with_reducible exact H | (rw [hy601]; exact H) | exact H
                     have Ny601 := Aside0.mk hy601
                     clear hy601
                     have H' := Aside0.mk H
                     clear H
                     have p599 : 0 ≤ (x44_3 : Int) := of_decide_eq_true (by first | (with_reducible assumption) | assumption)
                     have q599 : x44_3 < (l1.length : Int) := of_decide_eq_true (by first | (with_reducible assumption) | assumption)
                     obtain ⟨ad599, e599, hx599_0⟩ := Kd.at_int HR1.out x44_3 p599 q599
                     cases e599
                     replace hx599_0 := (HB.out.cell (World.block_lt_of_cell? w _ hx599_0)).trans hx599_0
                     replace p599 := eq_true p599
                     replace q599 := eq_true q599
                     have p600 : 0 ≤ ((ji24) : Int) := of_decide_eq_true (by first | (with_reducible assumption) | assumption)
                     have q600 : (ji24) < (l1.length : Int) := of_decide_eq_true (by first | (with_reducible assumption) | assumption)
                     obtain ⟨ad600, e600, hx600_0⟩ := Kd.at_int HR1.out (ji24) p600 q600
                     obtain rfl : ad599 = ad600 := (by injection e600)
                     replace hx600_0 := (HB.out.cell (World.block_lt_of_cell? w _ hx600_0)).trans hx600_0
                     replace p600 := eq_true p600
                     replace q600 := eq_true q600
                     have p30 : 0 ≤ ((rd l1 x44_3) : Int) := of_decide_eq_true (by first | (with_reducible assumption) | assumption)
                     have q30 : ((rd l1 x44_3) : Int) < ((x7_3.length : Int) : Int) := of_decide_eq_true (by first | (with_reducible assumption) | assumption)
                     obtain ⟨go30, co30, eo30, gb30, gl30, cl30, HG30⟩ := Kd.R_form HO_7.out (by omega)
                     (first | cases eo30 | (injection eo30 with ea_ en_ ec_; (first | subst ea_ | (injection ea_ with ea_; subst ea_)); subst ec_; clear en_))
                     have GB30 := Aside0.mk gb30
                     have GG30 := Aside0.mk HG30
                     (try clear gb30); (try clear gl30); (try clear HG30)
                     obtain ⟨hx30_0, hf30_0⟩ := Kd.R_celln 0 HO_7.out ((rd l1 x44_3) : Int) p30 q30
                     replace p30 := eq_true p30
                     replace q30 := eq_true q30
                     have HP31 := Kd.R_putg HO_7.out ((rd l1 x44_3) : Int) x44_3
                     go_wp2_with (first | ((with_reducible refine gate_store (t := 3) (p := 63) rfl ?_); refine store_event (t := 3) (p := 63) (v := ?vo_w32) (w1 := (wr.setCell ⟨go30, ((rd l1 x44_3) : Int).toNat, none⟩ (.int .i64 x44_3))) ?hg ?ho ?hn ?hr ?_; (case ho => rfl); (case hg => rfl); (case hn => rfl); (case hr => first | (go_simp; done) | (go_simp; rfl)); intro w32 hw; have hg : wr.grownBy w32 (some go30) := (by rw [hw]; exact HP31.2); have hp_ : Kd.R (Kd.int .i64) 3 w32 w.heap.size (fun _ => True) (.slice (some ⟨go30, 0, none⟩) x7_3.length co13) y601 := (by rw [hw, Ny601.out]; exact HP31.1); clear HP31; have n0_ := Aside0.mk (hp_); have n1_ := Aside0.mk ((by rw [hw]; exact below_set (HB.out) GB30.out : Below w.heap.size w w32)); clear HO_7; clear HB; have HO_7 := n0_; have HB := n1_; clear n0_ n1_; (try clear hg); (try clear hw); (try clear hp_)))
                     (try simp only [← hl7_3])
                     go_roundg k3
                     case measure => have := HJ4.out; have := HK2.out; have := HK3.out; omega
                     case rel => exact ⟨(y601), (wrap64 (x44_3 + 1)), (by first | rfl | (simp; done) | (simp [*]; done)), H', ⟨by have := HJ4.out; have := HK2.out; have := HK3.out; omega⟩, ⟨by (try simp only [hl7_2]); (try simp only [hl7_3]); (with_reducible repeat (first | apply Kd.R_alloc | apply Kd.R_drewN | apply Kd.R_drew)); exact HO_7.out⟩, ⟨by repeat (first | (with_reducible first | exact HB.out | apply below_alloc | apply pw_below_drewN | apply below_drew1) | exact HB.out)⟩⟩
                    ·rw [if_neg c29] at H
                     exact absurd H (by simp)
                   ·rw [if_neg c28] at H
                    exact absurd H (by simp)
                 ·rw [if_neg c26] at H
                  exact absurd H (by simp)
                ·rw [if_neg c25] at H
                 exact absurd H (by simp)
               ·rw [if_neg c23] at H
                have c23b0 : decide (0 < x44_3) = false := decide_eq_false c23
                clear c23
                by_cases c33 : 0 ≤ (rd l1 x44_3)
                ·rw [if_pos c33] at H
                 have c33b0 : decide (0 ≤ (rd l1 x44_3)) = true := decide_eq_true c33
                 clear c33
                 by_cases c34 : (rd l1 x44_3) < (x7_3.length : Int)
                 ·rw [if_pos c34] at H
                  have c34b0 : decide ((rd l1 x44_3) < (x7_3.length : Int)) = true := decide_eq_true c34
                  (try (have c34b0z := c34b0; simp only [hl7_2, hl7_3] at c34b0z))
                  clear c34
                  obtain ⟨y602, hy602⟩ : ∃ y_ : List Int, y_ = (x7_3.set ((rd l1 x44_3) : Int).toNat x44_3) := ⟨_, rfl⟩
                  replace H : (mult_Sub.l1 k3 l0 l1 y602 l1 (l1.length : Int) (wrap64 (x44_3 + 1))) = some (r1, r2) := by first | (rw [hy602]; with_reducible exact H) | (have H2_ := (Option.bind_some _ _).symm.trans H; rw [hy602]; with_reducible exact H2_) | (have H2_ := (Option.bind_some _ _).symm.trans H; with_reducible exact H2_) | with_reducible exact H | (rw [hy602]; exact H) | exact H
                  have Ny602 := Aside0.mk hy602
                  clear hy602
                  have H' := Aside0.mk H
                  clear H
                  have p599 : 0 ≤ (x44_3 : Int) := of_decide_eq_true (by first | (with_reducible assumption) | assumption)
                  have q599 : x44_3 < (l1.length : Int) := of_decide_eq_true (by first | (with_reducible assumption) | assumption)
                  obtain ⟨ad599, e599, hx599_0⟩ := Kd.at_int HR1.out x44_3 p599 q599
                  cases e599
                  replace hx599_0 := (HB.out.cell (World.block_lt_of_cell? w _ hx599_0)).trans hx599_0
                  replace p599 := eq_true p599
                  replace q599 := eq_true q599
                  have p35 : 0 ≤ ((rd l1 x44_3) : Int) := of_decide_eq_true (by first | (with_reducible assumption) | assumption)
                  have q35 : ((rd l1 x44_3) : Int) < ((x7_3.length : Int) : Int) := of_decide_eq_true (by first | (with_reducible assumption) | assumption)
                  obtain ⟨go35, co35, eo35, gb35, gl35, cl35, HG35⟩ := Kd.R_form HO_7.out (by omega)
                  (first | cases eo35 | (injection eo35 with ea_ en_ ec_; (first | subst ea_ | (injection ea_ with ea_; subst ea_)); subst ec_; clear en_))
                  have GB35 := Aside0.mk gb35
                  have GG35 := Aside0.mk HG35
                  (try clear gb35); (try clear gl35); (try clear HG35)
                  obtain ⟨hx35_0, hf35_0⟩ := Kd.R_celln 0 HO_7.out ((rd l1 x44_3) : Int) p35 q35
                  replace p35 := eq_true p35
                  replace q35 := eq_true q35
                  have HP36 := Kd.R_putg HO_7.out ((rd l1 x44_3) : Int) x44_3
                  go_wp2_with (first | ((with_reducible refine gate_store (t := 3) (p := 63) rfl ?_); refine store_event (t := 3) (p := 63) (v := ?vo_w37) (w1 := (wr.setCell ⟨go35, ((rd l1 x44_3) : Int).toNat, none⟩ (.int .i64 x44_3))) ?hg ?ho ?hn ?hr ?_; (case ho => rfl); (case hg => rfl); (case hn => rfl); (case hr => first | (go_simp; done) | (go_simp; rfl)); intro w37 hw; have hg : wr.grownBy w37 (some go35) := (by rw [hw]; exact HP36.2); have hp_ : Kd.R (Kd.int .i64) 3 w37 w.heap.size (fun _ => True) (.slice (some ⟨go35, 0, none⟩) x7_3.length co13) y602 := (by rw [hw, Ny602.out]; exact HP36.1); clear HP36; have n0_ := Aside0.mk (hp_); have n1_ := Aside0.mk ((by rw [hw]; exact below_set (HB.out) GB35.out : Below w.heap.size w w37)); clear HO_7; clear HB; have HO_7 := n0_; have HB := n1_; clear n0_ n1_; (try clear hg); (try clear hw); (try clear hp_)))
                  (try simp only [← hl7_3])
                  go_roundg k3
                  case measure => have := HJ4.out; have := HK2.out; have := HK3.out; omega
                  case rel => exact ⟨(y602), (wrap64 (x44_3 + 1)), (by first | rfl | (simp; done) | (simp [*]; done)), H', ⟨by have := HJ4.out; have := HK2.out; have := HK3.out; omega⟩, ⟨by (try simp only [hl7_2]); (try simp only [hl7_3]); (with_reducible repeat (first | apply Kd.R_alloc | apply Kd.R_drewN | apply Kd.R_drew)); exact HO_7.out⟩, ⟨by repeat (first | (with_reducible first | exact HB.out | apply below_alloc | apply pw_below_drewN | apply below_drew1) | exact HB.out)⟩⟩
                 ·rw [if_neg c34] at H
                  exact absurd H (by simp)
                ·rw [if_neg c33] at H
                 exact absurd H (by simp)
              ·rw [if_neg c22] at H
               exact absurd H (by simp)
             ·rw [if_neg c21] at H
              exact absurd H (by simp)
            ·rw [if_neg c20] at H
             have c20b0 : decide (x44_3 < (l1.length : Int)) = false := decide_eq_false c20
             (try (have c20b0z := c20b0; simp only [hl7_2, hl7_3] at c20b0z))
             clear c20
             by_cases c38 : 0 ≤ (l1.length : Int)
             ·rw [if_pos c38] at H
              have c38b0 := eq_true c38
              have c38b1 : decide (0 ≤ (l1.length : Int)) = true := decide_eq_true c38
              (try (have c38b1z := c38b1; simp only [hl7_2, hl7_3] at c38b1z))
              clear c38
              by_cases c39 : ((l1.length : Int) : Int).toNat ≤ 11728124029610
              ·rw [if_pos c39] at H
               have c39b0 := eq_true c39
               have c39b1 : decide (((l1.length : Int) : Int).toNat ≤ 11728124029610) = true := decide_eq_true c39
               (try (have c39b1z := c39b1; simp only [hl7_2, hl7_3] at c39b1z))
               clear c39
               obtain ⟨y603, hy603⟩ : ∃ y_ : List (List Int), y_ = (List.replicate ((l1.length : Int) : Int).toNat []) := ⟨_, rfl⟩
               replace H : (mult_Sub.l2 k3 l0 l1 x7_3 y603 l1 (l1.length : Int) 0) = some (r1, r2) := by first | (rw [hy603]; with_reducible exact H) | (have H2_ := (Option.bind_some _ _).symm.trans H; rw [hy603]; with_reducible exact H2_) | (have H2_ := (Option.bind_some _ _).symm.trans H; with_reducible exact H2_) | with_reducible exact H | (rw [hy603]; exact H) | exact H
               have Ny603 := Aside0.mk hy603
               clear hy603
               have H' := Aside0.mk H
               clear H
               go_wp2_with (first | ((with_reducible refine gate_dst (N := 67) rfl ?_); refine Kd.S_make (Kd.slice 3 (Kd.int .i64)) _ 30 rfl (N := 67) rfl 22 _ _ rfl (l1.length : Int) rfl rfl Try.underlying22 (.slice none 0 0) 24 info30 rfl (by decide) (by omega) [] (ok := fun _ => True) (okp := fun _ => True) ⟨_, rfl, Kd.R_nil _ _ _ _ _⟩ (fun _ hk => hk) trivial (of_decide_eq_true (by first | (with_reducible assumption) | assumption)) (Nat.le_trans (Nat.mul_le_mul_right _ (of_decide_eq_true (by first | (with_reducible assumption) | assumption) : (l1.length : Int).toNat ≤ 11728124029610)) (by omega)) (Below.refl _ _) (Nat.le_refl _) ?_; intro v604 w40 ho41 hb hg_ hnew_; (try clear hg_); (try clear hnew_); (first | rw [← Ny603.out] at ho41 | (simp only [Int.reduceToNat] at ho41; rw [← Ny603.out] at ho41)); have n0_ := Aside0.mk (Kd.R_below (by (with_reducible repeat (first | apply Kd.R_alloc | apply Kd.R_drewN | apply Kd.R_drew)); exact HO_7.out) hb); have n1_ := Aside0.mk (Kd.S_lower (Kd.S_new' ho41 (Kd.R_lt (by (with_reducible repeat (first | apply Kd.R_alloc | apply Kd.R_drewN | apply Kd.R_drew)); exact HO_7.out))) (below_size (by repeat (first | (with_reducible first | exact HB.out | apply below_alloc | apply pw_below_drewN | apply below_drew1) | exact HB.out)))); have n2_ := Aside0.mk (below_step (by repeat (first | (with_reducible first | exact HB.out | apply below_alloc | apply pw_below_drewN | apply below_drew1) | exact HB.out)) hb); clear HO_7; clear HB; have HO_7 := n0_; have HO605 := n1_; have HB := n2_; clear n0_ n1_ n2_; (try clear hb); (try clear ho41)))
               go_loopg [70] k3 (fun kq v70 w' => ∃ (x7_4 : List Int) (x11_4 : List (List Int)) (x70_4 : Int), v70 = .int .i64 x70_4 ∧ Aside0 (mult_Sub.l2 kq l0 l1 x7_4 x11_4 l1 (l1.length : Int) x70_4 = some (r1, r2)) ∧ Aside0 (kq ≤ k3) ∧ Aside0 (Kd.R (Kd.int .i64) 3 w' w.heap.size (fun _ => True) (.slice Ao13 x7_3.length co13) x7_4) ∧ Aside0 (Kd.S (Kd.slice 3 (Kd.int .i64)) 30 w' w.heap.size (fun k_ => some k_ ≠ ((.slice Ao13 x7_3.length co13) : Value).ownBlock) v604 x11_4) ∧ Aside0 (Below w.heap.size w w'))
               case atStart => exact ⟨(x7_3), (y603), (0), (by first | rfl | (simp; done) | (simp [*]; done)), H', ⟨Nat.le_refl _⟩, ⟨by (try simp only [hl7_2]); (try simp only [hl7_3]); (with_reducible repeat (first | apply Kd.R_alloc | apply Kd.R_drewN | apply Kd.R_drew)); exact HO_7.out⟩, ⟨by (try simp only [hl7_2]); (try simp only [hl7_3]); (with_reducible repeat (first | apply Kd.S_alloc | apply Kd.S_drewN | apply Kd.S_drew)); exact Kd.S_mono HO605.out (fun _ hk => hk.2)⟩, ⟨by repeat (first | (with_reducible first | exact HB.out | apply below_alloc | apply pw_below_drewN | apply below_drew1) | exact HB.out)⟩⟩
               case round =>
                clear H'
                try clear c1
                try clear p1
                try clear q1
                try clear hx1
                try clear c2
                try clear p2
                try clear c3
                try clear p3
                try clear q3
                try clear hx3
                try clear hf3
                try clear c4
                try clear c4b0
                try clear c4b1
                try clear c5
                try clear p5
                try clear q5
                try clear hx5
                try clear c6
                try clear c6b0
                try clear c6b1
                try clear c6b2
                try clear p6
                try clear q6
                try clear hx6
                try clear c8
                try clear c9
                try clear c9b0
                try clear c9b1
                try clear c10
                try clear c10b0
                try clear c10b1
                try clear c14
                try clear c14b0
                try clear c15
                try clear c15b0
                try clear c16
                try clear c16b0
                try clear p17
                try clear q17
                try clear hx17
                try clear hf17
                try clear c19
                try clear c20
                try clear c20b0
                try clear c21
                try clear c21b0
                try clear c22
                try clear c22b0
                try clear c23
                try clear c23b0
                try clear c25
                try clear c25b0
                try clear c26
                try clear c26b0
                try clear c27
                try clear c27b0
                try clear c28
                try clear c28b0
                try clear c29
                try clear c29b0
                try clear p30
                try clear q30
                try clear hx30
                try clear hf30
                try clear c33
                try clear c33b0
                try clear c34
                try clear c34b0
                try clear p35
                try clear q35
                try clear hx35
                try clear hf35
                try clear c38
                try clear c38b0
                try clear c38b1
                try clear c39
                try clear c39b0
                try clear c39b1
                try clear hx17_0
                try clear hx30_0
                try clear hx35_0
                try clear hx599_0
                try clear hx600_0
                try clear p1
                try clear p17
                try clear p2
                try clear p30
                try clear p35
                try clear p599
                try clear p6
                try clear p600
                try clear q1
                try clear q17
                try clear q30
                try clear q35
                try clear q599
                try clear q600
                obtain ⟨x7_4, x11_4, x70_4, rfl, HA, HK4, HO_7, HO_11, HB⟩ := hrel
                have hl7_4 := (Kd.R_reads' HO_7.out).1
                rw [hl7_4] at HO_7
                (try simp only [hl7_4])
                (try simp only [hl7_4] at HO_11)
                cases gk with
                | zero => exact absurd HA.out (by simp [mult_Sub.l2])
                | succ k4 =>
                 have H := HA.out
                 clear HA
                 simp only [mult_Sub.l2] at H
                 by_cases c42 : x70_4 < (l1.length : Int)
                 ·rw [if_pos c42] at H
                  have c42b0 : decide (x70_4 < (l1.length : Int)) = true := decide_eq_true c42
                  (try (have c42b0z := c42b0; simp only [hl7_2, hl7_3, hl7_4] at c42b0z))
                  clear c42
                  by_cases c43 : 0 ≤ x70_4
                  ·rw [if_pos c43] at H
                   have c43b0 : decide (0 ≤ x70_4) = true := decide_eq_true c43
                   clear c43
                   by_cases c44 : x70_4 < (l1.length : Int)
                   ·rw [if_pos c44] at H
                    have c44b0 : decide (x70_4 < (l1.length : Int)) = true := decide_eq_true c44
                    (try (have c44b0z := c44b0; simp only [hl7_2, hl7_3, hl7_4] at c44b0z))
                    clear c44
                    by_cases c45 : 0 ≤ (l1.length : Int)
                    ·rw [if_pos c45] at H
                     have c45b0 := eq_true c45
                     have c45b1 : decide (0 ≤ (l1.length : Int)) = true := decide_eq_true c45
                     (try (have c45b1z := c45b1; simp only [hl7_2, hl7_3, hl7_4] at c45b1z))
                     clear c45
                     by_cases c46 : ((l1.length : Int) : Int).toNat ≤ 35184372088832
                     ·rw [if_pos c46] at H
                      have c46b0 := eq_true c46
                      have c46b1 : decide (((l1.length : Int) : Int).toNat ≤ 35184372088832) = true := decide_eq_true c46
                      (try (have c46b1z := c46b1; simp only [hl7_2, hl7_3, hl7_4] at c46b1z))
                      clear c46
                      obtain ⟨y607, hy607⟩ : ∃ y_ : List Int, y_ = (List.replicate ((l1.length : Int) : Int).toNat 0) := ⟨_, rfl⟩
                      replace H : (if x70_4 < (x11_4.length : Int) then (mult_Sub.l3 k4 l0 l1 x7_4 (x11_4.set (x70_4 : Int).toNat y607) x70_4 (rd l1 x70_4) l1 (l1.length : Int) x70_4 l1 (l1.length : Int) 0) else (none)) = some (r1, r2) := by first | (rw [hy607]; with_reducible exact H) | (have H2_ := (Option.bind_some _ _).symm.trans H; rw [hy607]; with_reducible exact H2_) | (have H2_ := (Option.bind_some _ _).symm.trans H; with_reducible exact H2_) | with_reducible exact H | (rw [hy607]; exact H) | exact H
                      have Ny607 := Aside0.mk hy607
                      clear hy607
                      by_cases c47 : x70_4 < (x11_4.length : Int)
                      ·rw [if_pos c47] at H
                       have c47b0 : decide (x70_4 < (x11_4.length : Int)) = true := decide_eq_true c47
                       (try (have c47b0z := c47b0; simp only [hl7_2, hl7_3, hl7_4] at c47b0z))
                       clear c47
                       obtain ⟨y610, hy610⟩ : ∃ y_ : List (List Int), y_ = (x11_4.set (x70_4 : Int).toNat y607) := ⟨_, rfl⟩
                       replace H : (mult_Sub.l3 k4 l0 l1 x7_4 y610 x70_4 (rd l1 x70_4) l1 (l1.length : Int) x70_4 l1 (l1.length : Int) 0) = some (r1, r2) := by first | (rw [hy610]; with_reducible exact H) | (have H2_ := (Option.bind_some _ _).symm.trans H; rw [hy610]; with_reducible exact H2_) | (have H2_ := (Option.bind_some _ _).symm.trans H; with_reducible exact H2_) | with_reducible exact H | (rw [hy610]; exact H) | exact H
                       have Ny610 := Aside0.mk hy610
                       clear hy610
                       have H' := Aside0.mk H
                       clear H
                       have p606 : 0 ≤ (x70_4 : Int) := of_decide_eq_true (by first | (with_reducible assumption) | assumption)
                       have q606 : x70_4 < (l1.length : Int) := of_decide_eq_true (by first | (with_reducible assumption) | assumption)
                       obtain ⟨ad606, e606, hx606_0⟩ := Kd.at_int HR1.out x70_4 p606 q606
                       cases e606
                       replace hx606_0 := (HB.out.cell (World.block_lt_of_cell? w _ hx606_0)).trans hx606_0
                       replace p606 := eq_true p606
                       replace q606 := eq_true q606
                       go_wp2_with (first | ((with_reducible refine gate_dst (N := 79) rfl ?_); refine Kd.R_make (Kd.int .i64) _ 3 rfl (N := 79) rfl 30 _ _ rfl (l1.length : Int) rfl rfl Try.underlying30 (.int .i64 0) 8 info3 rfl (by decide) (by omega) 0 (ok := fun _ => True) (okp := fun _ => True) rfl (fun _ hk => hk) trivial (of_decide_eq_true (by first | (with_reducible assumption) | assumption)) (Nat.le_trans (Nat.mul_le_mul_right _ (of_decide_eq_true (by first | (with_reducible assumption) | assumption) : (l1.length : Int).toNat ≤ 35184372088832)) (by omega)) (Below.refl _ _) (Nat.le_refl _) ?_; intro v608 w49 ho50 hb hg_ hnew_; (try clear hg_); (try clear hnew_); (first | rw [← Ny607.out] at ho50 | (simp only [Int.reduceToNat] at ho50; rw [← Ny607.out] at ho50)); have n0_ := Aside0.mk (Kd.R_elder' (by (with_reducible repeat (first | apply Kd.R_alloc | apply Kd.R_drewN | apply Kd.R_drew)); exact HO_7.out) (by first | exact Kd.N_base ho50 | exact Kd.S_base ho50 | exact Kd.R_base ho50) hb); have n1_ := Aside0.mk (Kd.S_elder' (by (with_reducible repeat (first | apply Kd.S_alloc | apply Kd.S_drewN | apply Kd.S_drew)); exact HO_11.out) (by first | exact Kd.N_base ho50 | exact Kd.S_base ho50 | exact Kd.R_base ho50) hb); have n2_ := Aside0.mk (Kd.R_lower (Kd.R_new' ho50 (Kd.R_lt (by (with_reducible repeat (first | apply Kd.R_alloc | apply Kd.R_drewN | apply Kd.R_drew)); exact HO_7.out))) (below_size (by repeat (first | (with_reducible first | exact HB.out | apply below_alloc | apply pw_below_drewN | apply below_drew1) | exact HB.out)))); have n3_ := Aside0.mk (below_step (by repeat (first | (with_reducible first | exact HB.out | apply below_alloc | apply pw_below_drewN | apply below_drew1) | exact HB.out)) hb); clear HO_7; clear HO_11; clear HB; have HO_7 := n0_; have HO_11 := n1_; have HO609 := n2_; have HB := n3_; clear n0_ n1_ n2_ n3_; (try clear hb); (try clear ho50); have p48 : 0 ≤ (x70_4 : Int) := of_decide_eq_true (by first | (with_reducible assumption) | assumption); have q48 : (x70_4 : Int) < ((x11_4.length : Int) : Int) := of_decide_eq_true (by first | (with_reducible assumption) | assumption); obtain ⟨go48, co48, eo48, gb48, gl48, cl48, HG48⟩ := Kd.S_form HO_11.out (by omega); (first | cases eo48 | (injection eo48 with ea_ en_ ec_; (first | subst ea_ | (injection ea_ with ea_; subst ea_)); subst ec_; clear en_)); have GB48 := Aside0.mk gb48; have GG48 := Aside0.mk HG48; (try clear gb48); (try clear gl48); (try clear HG48); obtain ⟨_, ce48, hcl48, hM48, hcc48, hfr48, _, _⟩ := Kd.S_elem HO_11.out [] (x70_4 : Int) p48 q48; obtain ⟨ve48_0, rfl, ge48_0⟩ := hM48; have hx48_0 := hcc48 0 _ rfl; have hf48_0 := hfr48 0; (try simp only [show ((Kd.slice 3 (Kd.int .i64))).sz = 1 from rfl, Nat.mul_one, Nat.add_zero] at hx48_0); (try simp only [show ((Kd.slice 3 (Kd.int .i64))).sz = 1 from rfl, Nat.mul_one, Nat.add_zero] at hf48_0); (try clear hcl48); (try clear hcc48); (try clear hfr48); (try clear hM48); replace p48 := eq_true p48; replace q48 := eq_true q48; have HX51 := Aside0.mk (show Kd.S (Kd.slice 3 (Kd.int .i64)) 30 w49 w.heap.size (fun k_ => ((fun k_ => some k_ ≠ (.slice Ao13 x7_4.length co13 : Value).ownBlock)) k_ ∧ ¬ ((fun k_ => some k_ = (v608 : Value).ownBlock)) k_) (.slice (some ⟨go48, 0, none⟩) x11_4.length co48) x11_4 from (by (with_reducible repeat (first | apply Kd.S_alloc | apply Kd.S_drewN | apply Kd.S_drew)); exact Kd.S_mono HO_11.out (fun k_ hk => ⟨hk.1, fun e_ => hk.2 e_⟩))); obtain ⟨oki51, ce51, hcl51, hM51, hcc51, hfr51, hoki51, hH51⟩ := Kd.S_elem HX51.out [] (x70_4 : Int) (of_decide_eq_true (by first | (with_reducible assumption) | assumption)) (by have h_ : (x70_4 : Int) < ((x11_4.length : Int) : Int) := of_decide_eq_true (by first | (with_reducible assumption) | assumption); first | exact h_ | (have e_ := (Kd.S_reads' HO_11.out).1; omega) | simpa using h_); obtain ⟨ve51_0, rfl, ge51_0⟩ := hM51; have HP51 := Kd.S_seg hH51 (of_decide_eq_true (by first | (with_reducible assumption) | assumption)) (by have h_ : (x70_4 : Int) < ((x11_4.length : Int) : Int) := of_decide_eq_true (by first | (with_reducible assumption) | assumption); first | exact h_ | (have e_ := (Kd.S_reads' HO_11.out).1; omega) | simpa using h_) (seg := [v608]) (j := 0) (show 1 ≤ 1 from by decide) (x' := y607) (Kd.M_row (Kd.R_mono (Kd.R_tight rfl (Kd.R_mono (ok' := fun k_ => ((fun k_ => some k_ ≠ (.slice Ao13 x7_4.length co13 : Value).ownBlock)) k_ ∧ k_ ≠ go48) (Kd.R_apart' (HO609.out) (Kd.S_typed HO_11.out) (by decide)) (fun k_ hk => ⟨hk.1.2, fun e_ => (hk.2) (by rw [e_]; rfl)⟩))) (fun _ h_ => Or.inr (h_)))) (fun _ hk => hk) (fun k_ hk_ => ((Kd.R_mono (ok' := fun k_ => ((fun k_ => some k_ ≠ (.slice Ao13 x7_4.length co13 : Value).ownBlock)) k_ ∧ k_ ≠ go48) (Kd.R_apart' (HO609.out) (Kd.S_typed HO_11.out) (by decide)) (fun k_ hk => ⟨hk.1.2, fun e_ => (hk.2) (by rw [e_]; rfl)⟩))).1 k_ hk_.symm); have hx51_0 := hcc51 0 _ rfl; (try simp only [show ((Kd.slice 3 (Kd.int .i64))).sz = 1 from rfl, Nat.mul_one, Nat.add_zero] at hx51_0); have hf51_0 := hfr51 0; (try simp only [show ((Kd.slice 3 (Kd.int .i64))).sz = 1 from rfl, Nat.mul_one, Nat.add_zero] at hf51_0); (try clear hcl51); (try clear hcc51); (try clear hfr51); (try clear hM51); (try clear hoki51); (try clear hH51); (try simp only [show ((Kd.slice 3 (Kd.int .i64))).sz = 1 from rfl, Nat.mul_one, Nat.add_zero] at HP51)) | ((with_reducible refine gate_store (t := 30) (p := 80) rfl ?_); refine store_event (t := 30) (p := 80) (v := ?vo_w52) (w1 := (w49.setCell ⟨go48, (x70_4 : Int).toNat, none⟩ (v608))) ?hg ?ho ?hn ?hr ?_; (case ho => rfl); (case hg => rfl); (case hn => rfl); (case hr => first | (go_simp; done) | (go_simp; rfl) | (obtain ⟨A_, c_, e_⟩ := Kd.R_slice HO609.out; subst e_; first | (go_simp; done) | (go_simp; rfl)) | (obtain ⟨A_, c_, e_⟩ := Kd.S_slice HO609.out; subst e_; first | (go_simp; done) | (go_simp; rfl)) | (obtain ⟨A_, c_, e_⟩ := Kd.N_slice HO609.out; subst e_; first | (go_simp; done) | (go_simp; rfl))); intro w52 hw; have hg : w49.grownBy w52 (some go48) := (by rw [hw]; exact HP51.2); have hp_ : Kd.S (Kd.slice 3 (Kd.int .i64)) 30 w52 w.heap.size (fun k_ => some k_ ≠ (.slice Ao13 x7_4.length co13 : Value).ownBlock) (.slice (some ⟨go48, 0, none⟩) x11_4.length co48) y610 := (by rw [hw, Ny610.out]; exact HP51.1); clear HP51; have n0_ := Aside0.mk (Kd.R_over' (v := (.slice (some ⟨go48, 0, none⟩) x11_4.length co48)) (by (with_reducible repeat (first | apply Kd.R_alloc | apply Kd.R_drewN | apply Kd.R_drew)); exact HO_7.out) (Kd.S_typed HO_11.out) (by decide) hg); have n1_ := Aside0.mk (hp_); have n2_ := Aside0.mk ((by rw [hw]; exact below_set (HB.out) GB48.out : Below w.heap.size w w52)); clear HO_7; clear HO_11; clear HB; clear HO609; have HO_7 := n0_; have HO_11 := n1_; have HB := n2_; clear n0_ n1_ n2_; (try clear hg); (try clear hw); (try clear hp_)))
                       go_loopg [83] k4 (fun kq v83 w' => ∃ (x7_5 : List Int) (x11_5 : List (List Int)) (x83_5 : Int), v83 = .int .i64 x83_5 ∧ Aside0 (mult_Sub.l3 kq l0 l1 x7_5 x11_5 x70_4 (rd l1 x70_4) l1 (l1.length : Int) x70_4 l1 (l1.length : Int) x83_5 = some (r1, r2)) ∧ Aside0 (kq ≤ k4) ∧ Aside0 (Kd.R (Kd.int .i64) 3 w' w.heap.size (fun _ => True) (.slice Ao13 x7_4.length co13) x7_5) ∧ Aside0 (Kd.S (Kd.slice 3 (Kd.int .i64)) 30 w' w.heap.size (fun k_ => some k_ ≠ ((.slice Ao13 x7_4.length co13) : Value).ownBlock) (.slice (some ⟨go48, 0, none⟩) x11_4.length co48) x11_5) ∧ Aside0 (Below w.heap.size w w'))
                       case atStart => exact ⟨(x7_4), (y610), (0), (by first | rfl | (simp; done) | (simp [*]; done)), H', ⟨Nat.le_refl _⟩, ⟨by (try simp only [hl7_2]); (try simp only [hl7_3]); (try simp only [hl7_4]); (with_reducible repeat (first | apply Kd.R_alloc | apply Kd.R_drewN | apply Kd.R_drew)); exact Kd.R_mono HO_7.out (fun _ hk => trivial)⟩, ⟨by (try simp only [hl7_2]); (try simp only [hl7_3]); (try simp only [hl7_4]); (with_reducible repeat (first | apply Kd.S_alloc | apply Kd.S_drewN | apply Kd.S_drew)); exact HO_11.out⟩, ⟨by repeat (first | (with_reducible first | exact HB.out | apply below_alloc | apply pw_below_drewN | apply below_drew1) | exact HB.out)⟩⟩
                       case round =>
                        clear H'
                        try clear c1
                        try clear p1
                        try clear q1
                        try clear hx1
                        try clear c2
                        try clear p2
                        try clear c3
                        try clear p3
                        try clear q3
                        try clear hx3
                        try clear hf3
                        try clear c4
                        try clear c4b0
                        try clear c4b1
                        try clear p4
                        try clear q4
                        try clear hx4
                        try clear hf4
                        try clear c5
                        try clear p5
                        try clear q5
                        try clear hx5
                        try clear hf5
                        try clear c6
                        try clear c6b0
                        try clear c6b1
                        try clear c6b2
                        try clear p6
                        try clear q6
                        try clear hx6
                        try clear c8
                        try clear c9
                        try clear c9b0
                        try clear c9b1
                        try clear c10
                        try clear c10b0
                        try clear c10b1
                        try clear c14
                        try clear c14b0
                        try clear c15
                        try clear c15b0
                        try clear c16
                        try clear c16b0
                        try clear p17
                        try clear q17
                        try clear hx17
                        try clear hf17
                        try clear c19
                        try clear c20
                        try clear c20b0
                        try clear c21
                        try clear c21b0
                        try clear c22
                        try clear c22b0
                        try clear c23
                        try clear c23b0
                        try clear c25
                        try clear c25b0
                        try clear c26
                        try clear c26b0
                        try clear c27
                        try clear c27b0
                        try clear c28
                        try clear c28b0
                        try clear c29
                        try clear c29b0
                        try clear p30
                        try clear q30
                        try clear hx30
                        try clear hf30
                        try clear c33
                        try clear c33b0
                        try clear c34
                        try clear c34b0
                        try clear p35
                        try clear q35
                        try clear hx35
                        try clear hf35
                        try clear c38
                        try clear c38b0
                        try clear c38b1
                        try clear c39
                        try clear c39b0
                        try clear c39b1
                        try clear c42
                        try clear c42b0
                        try clear c43
                        try clear c43b0
                        try clear c44
                        try clear c44b0
                        try clear c45
                        try clear c45b0
                        try clear c45b1
                        try clear c46
                        try clear c46b0
                        try clear c46b1
                        try clear c47
                        try clear c47b0
                        try clear c48
                        try clear p48
                        try clear q48
                        try clear hx48
                        try clear hf48
                        try clear c51
                        try clear hx51
                        try clear hf51
                        try clear c52
                        try clear hx17_0
                        try clear hx30_0
                        try clear hx35_0
                        try clear hx48_0
                        try clear hx51_0
                        try clear hx599_0
                        try clear hx600_0
                        try clear hx606_0
                        try clear p1
                        try clear p17
                        try clear p2
                        try clear p3
                        try clear p30
                        try clear p35
                        try clear p48
                        try clear p5
                        try clear p599
                        try clear p6
                        try clear p600
                        try clear p606
                        try clear q1
                        try clear q17
                        try clear q3
                        try clear q30
                        try clear q35
                        try clear q48
                        try clear q5
                        try clear q599
                        try clear q6
                        try clear q600
                        try clear q606
                        obtain ⟨x7_5, x11_5, x83_5, rfl, HA, HK5, HO_7, HO_11, HB⟩ := hrel
                        have hl7_5 := (Kd.R_reads' HO_7.out).1
                        rw [hl7_5] at HO_7
                        (try simp only [hl7_5])
                        (try simp only [hl7_5] at HO_11)
                        have hl11_5 := (Kd.S_reads' HO_11.out).1
                        rw [hl11_5] at HO_11
                        (try simp only [hl11_5])
                        (try simp only [hl11_5] at HO_7)
                        cases gk with
                        | zero => exact absurd HA.out (by simp [mult_Sub.l3])
                        | succ k5 =>
                         have H := HA.out
                         clear HA
                         simp only [mult_Sub.l3] at H
                         by_cases c53 : x83_5 < (l1.length : Int)
                         ·rw [if_pos c53] at H
                          have c53b0 : decide (x83_5 < (l1.length : Int)) = true := decide_eq_true c53
                          (try (have c53b0z := c53b0; simp only [hl7_2, hl7_3, hl7_4, hl7_5, hl11_5] at c53b0z))
                          clear c53
                          by_cases c54 : 0 ≤ x83_5
                          ·rw [if_pos c54] at H
                           have c54b0 : decide (0 ≤ x83_5) = true := decide_eq_true c54
                           clear c54
                           by_cases c55 : x83_5 < (l1.length : Int)
                           ·rw [if_pos c55] at H
                            have c55b0 : decide (x83_5 < (l1.length : Int)) = true := decide_eq_true c55
                            (try (have c55b0z := c55b0; simp only [hl7_2, hl7_3, hl7_4, hl7_5, hl11_5] at c55b0z))
                            clear c55
                            by_cases c56 : 0 ≤ (rd l1 x70_4)
                            ·rw [if_pos c56] at H
                             have c56b0 : decide (0 ≤ (rd l1 x70_4)) = true := decide_eq_true c56
                             clear c56
                             by_cases c57 : (rd l1 x70_4) < (l0.length : Int)
                             ·rw [if_pos c57] at H
                              have c57b0 : decide ((rd l1 x70_4) < (l0.length : Int)) = true := decide_eq_true c57
                              (try (have c57b0z := c57b0; simp only [hl7_2, hl7_3, hl7_4, hl7_5, hl11_5] at c57b0z))
                              clear c57
                              by_cases c58 : 0 ≤ (rd l1 x83_5)
                              ·rw [if_pos c58] at H
                               have c58b0 : decide (0 ≤ (rd l1 x83_5)) = true := decide_eq_true c58
                               clear c58
                               by_cases c59 : (rd l1 x83_5) < ((rd_L1 l0 (rd l1 x70_4)).length : Int)
                               ·rw [if_pos c59] at H
                                have c59b0 : decide ((rd l1 x83_5) < ((rd_L1 l0 (rd l1 x70_4)).length : Int)) = true := decide_eq_true c59
                                (try (have c59b0z := c59b0; simp only [hl7_2, hl7_3, hl7_4, hl7_5, hl11_5] at c59b0z))
                                clear c59
                                by_cases c60 : 0 ≤ (rd (rd_L1 l0 (rd l1 x70_4)) (rd l1 x83_5))
                                ·rw [if_pos c60] at H
                                 have c60b0 : decide (0 ≤ (rd (rd_L1 l0 (rd l1 x70_4)) (rd l1 x83_5))) = true := decide_eq_true c60
                                 clear c60
                                 by_cases c61 : (rd (rd_L1 l0 (rd l1 x70_4)) (rd l1 x83_5)) < (x7_5.length : Int)
                                 ·rw [if_pos c61] at H
                                  have c61b0 : decide ((rd (rd_L1 l0 (rd l1 x70_4)) (rd l1 x83_5)) < (x7_5.length : Int)) = true := decide_eq_true c61
                                  (try (have c61b0z := c61b0; simp only [hl7_2, hl7_3, hl7_4, hl7_5, hl11_5] at c61b0z))
                                  clear c61
                                  by_cases c62 : (rd x7_5 (rd (rd_L1 l0 (rd l1 x70_4)) (rd l1 x83_5))) < 0
                                  ·rw [if_pos c62] at H
                                   have c62b0 : decide ((rd x7_5 (rd (rd_L1 l0 (rd l1 x70_4)) (rd l1 x83_5))) < 0) = true := decide_eq_true c62
                                   clear c62
                                   simp only [Option.some.injEq, Prod.mk.injEq] at H
                                   obtain ⟨rfl, rfl⟩ := H
                                   have p611 : 0 ≤ (x83_5 : Int) := of_decide_eq_true (by first | (with_reducible assumption) | assumption)
                                   have q611 : x83_5 < (l1.length : Int) := of_decide_eq_true (by first | (with_reducible assumption) | assumption)
                                   obtain ⟨ad611, e611, hx611_0⟩ := Kd.at_int HR1.out x83_5 p611 q611
                                   obtain rfl : ad606 = ad611 := (by injection e611)
                                   replace hx611_0 := (HB.out.cell (World.block_lt_of_cell? w _ hx611_0)).trans hx611_0
                                   replace p611 := eq_true p611
                                   replace q611 := eq_true q611
                                   have p612 : 0 ≤ ((rd l1 x70_4) : Int) := of_decide_eq_true (by first | (with_reducible assumption) | assumption)
                                   have q612 : (rd l1 x70_4) < (l0.length : Int) := of_decide_eq_true (by first | (with_reducible assumption) | assumption)
                                   obtain ⟨ad612, A612_0, c612_0, e612, hx612_0, hl612_0, hi612_0⟩ := at_L1 HR0.out (rd l1 x70_4) p612 q612
                                   cases e612
                                   replace hx612_0 := (HB.out.cell (World.block_lt_of_cell? w _ hx612_0)).trans hx612_0
                                   have HR612_0 := Aside0.mk hi612_0
                                   have HC612_0 := Aside0.mk hl612_0
                                   (try clear hi612_0); (try clear hl612_0)
                                   replace p612 := eq_true p612
                                   replace q612 := eq_true q612
                                   have p613 : 0 ≤ ((rd l1 x83_5) : Int) := of_decide_eq_true (by first | (with_reducible assumption) | assumption)
                                   have q613 : (rd l1 x83_5) < ((rd_L1 l0 (rd l1 x70_4)).length : Int) := of_decide_eq_true (by first | (with_reducible assumption) | assumption)
                                   obtain ⟨ad613, e613, hx613_0⟩ := Kd.at_int HR612_0.out (rd l1 x83_5) p613 q613
                                   cases e613
                                   replace hx613_0 := (HB.out.cell (World.block_lt_of_cell? w _ hx613_0)).trans hx613_0
                                   replace p613 := eq_true p613
                                   replace q613 := eq_true q613
                                   have p614 : 0 ≤ ((rd (rd_L1 l0 (rd l1 x70_4)) (rd l1 x83_5)) : Int) := of_decide_eq_true (by first | (with_reducible assumption) | assumption)
                                   have q614 : (rd (rd_L1 l0 (rd l1 x70_4)) (rd l1 x83_5)) < (x7_5.length : Int) := of_decide_eq_true (by first | (with_reducible assumption) | assumption)
                                   obtain ⟨ad614, e614, hx614_0⟩ := Kd.at_int (Kd.R_reads' HO_7.out).2.2 (rd (rd_L1 l0 (rd l1 x70_4)) (rd l1 x83_5)) p614 q614
                                   cases e614
                                   replace p614 := eq_true p614
                                   replace q614 := eq_true q614
                                   go_wp2
                                   go_ret2
                                   exact ⟨_, by first | rfl | (simp [errW_none, errW_some] <;> rfl) | (simp [*, errW_none, errW_some] <;> rfl), by first | exact Kd.S_nil _ _ _ _ _ | exact Kd.N_nil _ _ _ _ _ | exact Kd.V_nil _ _ _ _ _ | exact Kd.Q_nil _ _ _ _ _ | exact Kd.R_nil _ _ _ _ _, by repeat (first | (with_reducible first | exact HB.out | apply below_alloc | apply pw_below_drewN | apply below_drew1) | exact HB.out)⟩
                                  ·rw [if_neg c62] at H
                                   have c62b0 : decide ((rd x7_5 (rd (rd_L1 l0 (rd l1 x70_4)) (rd l1 x83_5))) < 0) = false := decide_eq_false c62
                                   clear c62
                                   by_cases c63 : 0 ≤ x70_4
                                   ·rw [if_pos c63] at H
                                    have c63b0 : decide (0 ≤ x70_4) = true := decide_eq_true c63
                                    clear c63
                                    by_cases c64 : x70_4 < (x11_5.length : Int)
                                    ·rw [if_pos c64] at H
                                     have c64b0 : decide (x70_4 < (x11_5.length : Int)) = true := decide_eq_true c64
                                     (try (have c64b0z := c64b0; simp only [hl7_2, hl7_3, hl7_4, hl7_5, hl11_5] at c64b0z))
                                     clear c64
                                     by_cases c65 : x83_5 < ((rd_L1 x11_5 x70_4).length : Int)
                                     ·rw [if_pos c65] at H
                                      have c65b0 : decide (x83_5 < ((rd_L1 x11_5 x70_4).length : Int)) = true := decide_eq_true c65
                                      (try (have c65b0z := c65b0; simp only [hl7_2, hl7_3, hl7_4, hl7_5, hl11_5] at c65b0z))
                                      clear c65
                                      obtain ⟨y619, hy619⟩ : ∃ y_ : List Int, y_ = ((rd_L1 x11_5 x70_4).set (x83_5 : Int).toNat (rd x7_5 (rd (rd_L1 l0 (rd l1 x70_4)) (rd l1 x83_5)))) := ⟨_, rfl⟩
                                      replace H : (mult_Sub.l3 k5 l0 l1 x7_5 (x11_5.set (x70_4 : Int).toNat y619) x70_4 (rd l1 x70_4) l1 (l1.length : Int) x70_4 l1 (l1.length : Int) (wrap64 (x83_5 + 1))) = some (r1, r2) := by first | (rw [hy619]; with_reducible exact H) | (have H2_ := (Option.bind_some _ _).symm.trans H; rw [hy619]; with_reducible exact H2_) | (have H2_ := (Option.bind_some _ _).symm.trans H; with_reducible exact H2_) | with_reducible exact H | (rw [hy619]; exact H) | exact H
                                      have Ny619 := Aside0.mk hy619
                                      clear hy619
                                      obtain ⟨y621, hy621⟩ : ∃ y_ : List (List Int), y_ = (x11_5.set (x70_4 : Int).toNat y619) := ⟨_, rfl⟩
                                      replace H : (mult_Sub.l3 k5 l0 l1 x7_5 y621 x70_4 (rd l1 x70_4) l1 (l1.length : Int) x70_4 l1 (l1.length : Int) (wrap64 (x83_5 + 1))) = some (r1, r2) := by first | (rw [hy621]; with_reducible exact H) | (have H2_ := (Option.bind_some _ _).symm.trans H; rw [hy621]; with_reducible exact H2_) | (have H2_ := (Option.bind_some _ _).symm.trans H; with_reducible exact H2_) | with_reducible exact H | (rw [hy621]; exact H) | exact H
                                      have Ny621 := Aside0.mk hy621
                                      clear hy621
                                      have H' := Aside0.mk H
                                      clear H
                                      have p611 : 0 ≤ (x83_5 : Int) := of_decide_eq_true (by first | (with_reducible assumption) | assumption)
                                      have q611 : x83_5 < (l1.length : Int) := of_decide_eq_true (by first | (with_reducible assumption) | assumption)
                                      obtain ⟨ad611, e611, hx611_0⟩ := Kd.at_int HR1.out x83_5 p611 q611
                                      obtain rfl : ad606 = ad611 := (by injection e611)
                                      replace hx611_0 := (HB.out.cell (World.block_lt_of_cell? w _ hx611_0)).trans hx611_0
                                      replace p611 := eq_true p611
                                      replace q611 := eq_true q611
                                      have p612 : 0 ≤ ((rd l1 x70_4) : Int) := of_decide_eq_true (by first | (with_reducible assumption) | assumption)
                                      have q612 : (rd l1 x70_4) < (l0.length : Int) := of_decide_eq_true (by first | (with_reducible assumption) | assumption)
                                      obtain ⟨ad612, A612_0, c612_0, e612, hx612_0, hl612_0, hi612_0⟩ := at_L1 HR0.out (rd l1 x70_4) p612 q612
                                      cases e612
                                      replace hx612_0 := (HB.out.cell (World.block_lt_of_cell? w _ hx612_0)).trans hx612_0
                                      have HR612_0 := Aside0.mk hi612_0
                                      have HC612_0 := Aside0.mk hl612_0
                                      (try clear hi612_0); (try clear hl612_0)
                                      replace p612 := eq_true p612
                                      replace q612 := eq_true q612
                                      have p613 : 0 ≤ ((rd l1 x83_5) : Int) := of_decide_eq_true (by first | (with_reducible assumption) | assumption)
                                      have q613 : (rd l1 x83_5) < ((rd_L1 l0 (rd l1 x70_4)).length : Int) := of_decide_eq_true (by first | (with_reducible assumption) | assumption)
                                      obtain ⟨ad613, e613, hx613_0⟩ := Kd.at_int HR612_0.out (rd l1 x83_5) p613 q613
                                      cases e613
                                      replace hx613_0 := (HB.out.cell (World.block_lt_of_cell? w _ hx613_0)).trans hx613_0
                                      replace p613 := eq_true p613
                                      replace q613 := eq_true q613
                                      have p614 : 0 ≤ ((rd (rd_L1 l0 (rd l1 x70_4)) (rd l1 x83_5)) : Int) := of_decide_eq_true (by first | (with_reducible assumption) | assumption)
                                      have q614 : (rd (rd_L1 l0 (rd l1 x70_4)) (rd l1 x83_5)) < (x7_5.length : Int) := of_decide_eq_true (by first | (with_reducible assumption) | assumption)
                                      obtain ⟨ad614, e614, hx614_0⟩ := Kd.at_int (Kd.R_reads' HO_7.out).2.2 (rd (rd_L1 l0 (rd l1 x70_4)) (rd l1 x83_5)) p614 q614
                                      cases e614
                                      replace p614 := eq_true p614
                                      replace q614 := eq_true q614
                                      try go_wp2
                                      have n0_ := Aside0.mk (Kd.R_drew HO_7.out)
                                      have n1_ := Aside0.mk (Kd.S_drew HO_11.out)
                                      have n2_ := Aside0.mk (below_drew1 HB.out)
                                      clear HB HO_11 HO_7
                                      have HO_7 := n0_
                                      have HO_11 := n1_
                                      have HB := n2_
                                      clear n0_ n1_ n2_
                                      have p615 : 0 ≤ (x70_4 : Int) := of_decide_eq_true (by first | (with_reducible assumption) | assumption)
                                      have q615 : x70_4 < (x11_5.length : Int) := of_decide_eq_true (by first | (with_reducible assumption) | assumption)
                                      obtain ⟨ad615, A615_0, c615_0, e615, hx615_0, hl615_0, hi615_0⟩ := at_L1 (Kd.S_reads' HO_11.out).2.2 x70_4 p615 q615
                                      obtain rfl : (⟨go48, 0, none⟩ : Addr) = ad615 := (by injection e615)
                                      obtain ⟨ce615, hce615, hMe615, hcc615⟩ := Kd.S_get HO_11.out [] x70_4 p615 (by first | exact q615 | exact of_decide_eq_true (by first | (with_reducible assumption) | assumption) | (have e_ := (Kd.S_reads' HO_11.out).1; omega))
                                      obtain ⟨ve615_0, rfl, ge615_0⟩ := hMe615
                                      have hv615_0 := hcc615 0 _ rfl
                                      rw [Nat.add_zero, show ((Kd.slice 3 (Kd.int .i64))).sz = 1 from rfl, Nat.mul_one] at hv615_0
                                      replace hv615_0 := Option.some.inj (hv615_0.symm.trans hx615_0)
                                      rw [hv615_0] at ge615_0
                                      have HL615_0 := Aside0.mk (show Kd.R (Kd.int .i64) 3 _ _ _ _ (rd_L1 x11_5 x70_4) from ge615_0)
                                      (try clear hv615_0); (try clear ge615_0)
                                      have HX615_0 := Aside0.mk hx615_0
                                      (try clear hcc615); (try clear hce615)
                                      (first | simp only [add_plain] at hx615_0 | simp only [add_at] at hx615_0 | simp only [Addr.add, Nat.zero_add] at hx615_0 | skip)
                                      have HR615_0 := Aside0.mk hi615_0
                                      have HC615_0 := Aside0.mk hl615_0
                                      (try clear hi615_0); (try clear hl615_0)
                                      replace p615 := eq_true p615
                                      replace q615 := eq_true q615
                                      have p616 : 0 ≤ ((rd l1 x70_4) : Int) := of_decide_eq_true (by first | (with_reducible assumption) | assumption)
                                      have q616 : (rd l1 x70_4) < (l0.length : Int) := of_decide_eq_true (by first | (with_reducible assumption) | assumption)
                                      obtain ⟨ad616, A616_0, c616_0, e616, hx616_0, hl616_0, hi616_0⟩ := at_L1 HR0.out (rd l1 x70_4) p616 q616
                                      have hw616_0 := hx616_0
                                      obtain rfl : ad612 = ad616 := (by injection e616)
                                      replace hx616_0 := (HB.out.cell (World.block_lt_of_cell? w _ hx616_0)).trans hx616_0
                                      have HR616_0 := Aside0.mk hi616_0
                                      have HC616_0 := Aside0.mk hl616_0
                                      (try clear hi616_0); (try clear hl616_0)
                                      replace p616 := eq_true p616
                                      replace q616 := eq_true q616
                                      have p617 : 0 ≤ ((rd l1 x83_5) : Int) := of_decide_eq_true (by first | (with_reducible assumption) | assumption)
                                      have q617 : (rd l1 x83_5) < ((rd_L1 l0 (rd l1 x70_4)).length : Int) := of_decide_eq_true (by first | (with_reducible assumption) | assumption)
                                      obtain ⟨ad617, e617, hx617_0⟩ := Kd.at_int HR616_0.out (rd l1 x83_5) p617 q617
                                      have hw617_0 := hx617_0
                                      cases e617
                                      replace hx617_0 := (HB.out.cell (World.block_lt_of_cell? w _ hx617_0)).trans hx617_0
                                      replace p617 := eq_true p617
                                      replace q617 := eq_true q617
                                      have p618 : 0 ≤ ((rd (rd_L1 l0 (rd l1 x70_4)) (rd l1 x83_5)) : Int) := of_decide_eq_true (by first | (with_reducible assumption) | assumption)
                                      have q618 : (rd (rd_L1 l0 (rd l1 x70_4)) (rd l1 x83_5)) < (x7_5.length : Int) := of_decide_eq_true (by first | (with_reducible assumption) | assumption)
                                      obtain ⟨ad618, e618, hx618_0⟩ := Kd.at_int (Kd.R_reads' HO_7.out).2.2 (rd (rd_L1 l0 (rd l1 x70_4)) (rd l1 x83_5)) p618 q618
                                      obtain rfl : ad614 = ad618 := (by injection e618)
                                      replace p618 := eq_true p618
                                      replace q618 := eq_true q618
                                      have p66 : 0 ≤ (x83_5 : Int) := of_decide_eq_true (by first | (with_reducible assumption) | assumption)
                                      have q66 : (x83_5 : Int) < (((rd_L1 x11_5 x70_4).length : Int) : Int) := of_decide_eq_true (by first | (with_reducible assumption) | assumption)
                                      obtain ⟨go66, co66, eo66, gb66, gl66, cl66, HG66⟩ := Kd.R_form HL615_0.out (by omega)
                                      (first | cases eo66 | (injection eo66 with ea_ en_ ec_; (first | subst ea_ | (injection ea_ with ea_; subst ea_)); subst ec_; clear en_))
                                      have GB66 := Aside0.mk gb66
                                      have GG66 := Aside0.mk HG66
                                      (try clear gb66); (try clear gl66); (try clear HG66)
                                      obtain ⟨hx66_0, hf66_0⟩ := Kd.R_celln 0 HL615_0.out (x83_5 : Int) p66 q66
                                      replace p66 := eq_true p66
                                      replace q66 := eq_true q66
                                      have hq68 : (x70_4 : Int) < (x11_5.length : Int) := (by have h_ : (x70_4 : Int) < ((x11_5.length : Int) : Int) := of_decide_eq_true (by first | (with_reducible assumption) | assumption); first | exact h_ | (have e_ := (Kd.S_reads' HO_11.out).1; omega) | simpa only [List.length_set, List.length_set] using h_)
                                      obtain ⟨oki68, ce68, hcl68, hM68, hcc68, hok68, hbk68⟩ := Kd.S_borrow HO_11.out [] (x70_4 : Int) (of_decide_eq_true (by first | (with_reducible assumption) | assumption)) (by first | exact hq68 | (have e_ := (Kd.S_reads' HO_11.out).1; omega))
                                      obtain ⟨ve68_0, rfl, ge68_0⟩ := hM68
                                      have hv68 := hcc68 0 _ rfl
                                      rw [Nat.add_zero, show ((Kd.slice 3 (Kd.int .i64))).sz = 1 from rfl, Nat.mul_one] at hv68
                                      replace hv68 := Option.some.inj (hv68.symm.trans HX615_0.out)
                                      subst hv68
                                      (try clear hcc68); (try clear hcl68)
                                      replace ge68_0 := (show Kd.R (Kd.int .i64) 3 _ _ _ _ (rd_L1 x11_5 x70_4) from ge68_0)
                                      have HP68 := Kd.R_putg ge68_0 (x83_5 : Int) (rd x7_5 (rd (rd_L1 l0 (rd l1 x70_4)) (rd l1 x83_5)))
                                      rw [← Ny619.out] at HP68
                                      have HS68 := hbk68 HP68.2 (fun k_ e_ => by injection e_ with e_; subst e_; exact ge68_0.1 _ rfl) (x' := y619) (Kd.M_row HP68.1)
                                      rw [← Ny621.out] at HS68
                                      have HQ68 := Aside0.mk HS68
                                      (try clear HP68); (try clear HS68); (try clear hbk68); (try clear hok68)
                                      refine start_ (n := 17) (S := fun w' => w'.cell? ⟨go48, (x70_4).toNat, none⟩ = some (.slice (some ⟨go66, 0, none⟩) (rd_L1 x11_5 x70_4).length c615_0) ∧ w'.cell? (ad612.add ((rd l1 x70_4)).toNat) = some (.slice (some ad617) (rd_L1 l0 (rd l1 x70_4)).length c616_0) ∧ w'.cell? (ad617.add ((rd l1 x83_5)).toNat) = some (.int .i64 (rd (rd_L1 l0 (rd l1 x70_4)) (rd l1 x83_5))) ∧ w'.cell? (ad614.add ((rd (rd_L1 l0 (rd l1 x70_4)) (rd l1 x83_5))).toNat) = some (.int .i64 (rd x7_5 (rd (rd_L1 l0 (rd l1 x70_4)) (rd l1 x83_5))))) (ds := [16]) #[false, false, false, false, false, false, false, false, false, false, false, false, false, false, false, false, false] (by kernel_rfl) rfl rfl ⟨hx615_0, ((HB.out.cell (World.block_lt_of_cell? w _ hw616_0)).trans hw616_0), ((HB.out.cell (World.block_lt_of_cell? w _ hw617_0)).trans hw617_0), hx618_0⟩ (fun hHeld => ?_); refine with_tabW mult_Sub.tab29 mult_Sub.bits29 (fun HT_ HW_ => ?_)
                                      generalize wr.drew = w67 at HO_7 HO_11 HB GG66 HL615_0 HQ68 HR615_0 HR616_0 HX615_0 hf66_0 hx615_0 hx616_0 hx617_0 hx618_0 hx66_0 hHeld ⊢
                                      refine pure_ (i := 0) (N := some 99) (v := ?_) (a' := ?_) #[true, false, false, false, false, false, false, false, false, false, false, false, false, false, false, false, false] rfl rfl (any_of HT_.out (by kernel_rfl)) (fun _ _ _ h => h) (Or.inl ⟨by rfl, ?_⟩) ?_ ?_
                                      rotate_left
                                      ·intro w'
                                       go_simp
                                       with_reducible rfl
                                      rotate_left
                                      ·simp only [Act.put, List.setIfInBounds_toArray, List.set_cons_zero, List.set_cons_succ, i64_w, i32_w]
                                       rfl
                                      refine pure_ (i := 1) (N := some 100) (v := ?_) (a' := ?_) #[true, true, false, false, false, false, false, false, false, false, false, false, false, false, false, false, false] rfl rfl (any_of HT_.out (by kernel_rfl)) (fun _ _ _ h => h) (Or.inl ⟨by rfl, ?_⟩) ?_ ?_
                                      rotate_left
                                      ·intro w'
                                       go_simp
                                       with_reducible rfl
                                      rotate_left
                                      ·simp only [Act.put, List.setIfInBounds_toArray, List.set_cons_zero, List.set_cons_succ, i64_w, i32_w]
                                       rfl
                                      refine pure_ (i := 2) (N := some 101) (v := ?_) (a' := ?_) #[true, true, true, false, false, false, false, false, false, false, false, false, false, false, false, false, false] rfl rfl (any_of HT_.out (by kernel_rfl)) (fun _ _ _ h => h) (Or.inl ⟨by rfl, ?_⟩) ?_ ?_
                                      rotate_left
                                      ·intro w'
                                       go_simp
                                       with_reducible rfl
                                      rotate_left
                                      ·simp only [Act.put, List.setIfInBounds_toArray, List.set_cons_zero, List.set_cons_succ, i64_w, i32_w]
                                       rfl
                                      refine pure_ (i := 4) (N := some 103) (v := ?_) (a' := ?_) #[true, true, true, false, true, false, false, false, false, false, false, false, false, false, false, false, false] rfl rfl (any_of HT_.out (by kernel_rfl)) (fun _ _ _ h => h) (Or.inl ⟨by rfl, ?_⟩) ?_ ?_
                                      rotate_left
                                      ·intro w'
                                       go_simp
                                       with_reducible rfl
                                      rotate_left
                                      ·simp only [Act.put, List.setIfInBounds_toArray, List.set_cons_zero, List.set_cons_succ, i64_w, i32_w]
                                       rfl
                                      refine pure_ (i := 5) (N := some 104) (v := ?_) (a' := ?_) #[true, true, true, false, true, true, false, false, false, false, false, false, false, false, false, false, false] rfl rfl (any_of HT_.out (by kernel_rfl)) (fun _ _ _ h => h) (Or.inl ⟨by rfl, ?_⟩) ?_ ?_
                                      rotate_left
                                      ·intro w'
                                       go_simp
                                       with_reducible rfl
                                      rotate_left
                                      ·simp only [Act.put, List.setIfInBounds_toArray, List.set_cons_zero, List.set_cons_succ, i64_w, i32_w]
                                       rfl
                                      refine pure_ (i := 6) (N := some 105) (v := ?_) (a' := ?_) #[true, true, true, false, true, true, true, false, false, false, false, false, false, false, false, false, false] rfl rfl (any_of HT_.out (by kernel_rfl)) (fun _ _ _ h => h) (Or.inl ⟨by rfl, ?_⟩) ?_ ?_
                                      rotate_left
                                      ·intro w'
                                       go_simp
                                       with_reducible rfl
                                      rotate_left
                                      ·simp only [Act.put, List.setIfInBounds_toArray, List.set_cons_zero, List.set_cons_succ, i64_w, i32_w]
                                       rfl
                                      refine pure_ (i := 7) (N := some 106) (v := ?_) (a' := ?_) #[true, true, true, false, true, true, true, true, false, false, false, false, false, false, false, false, false] rfl rfl (any_of HT_.out (by kernel_rfl)) (fun _ _ _ h => h) (Or.inl ⟨by rfl, ?_⟩) ?_ ?_
                                      rotate_left
                                      ·intro w'
                                       go_simp
                                       with_reducible rfl
                                      rotate_left
                                      ·simp only [Act.put, List.setIfInBounds_toArray, List.set_cons_zero, List.set_cons_succ, i64_w, i32_w]
                                       rfl
                                      refine pure_ (i := 8) (N := some 107) (v := ?_) (a' := ?_) #[true, true, true, false, true, true, true, true, true, false, false, false, false, false, false, false, false] rfl rfl (any_of HT_.out (by kernel_rfl)) (fun _ _ _ h => h) (Or.inl ⟨by rfl, ?_⟩) ?_ ?_
                                      rotate_left
                                      ·intro w'
                                       go_simp
                                       with_reducible rfl
                                      rotate_left
                                      ·simp only [Act.put, List.setIfInBounds_toArray, List.set_cons_zero, List.set_cons_succ, i64_w, i32_w]
                                       rfl
                                      refine pure_ (i := 10) (N := some 109) (v := ?_) (a' := ?_) #[true, true, true, false, true, true, true, true, true, false, true, false, false, false, false, false, false] rfl rfl (any_of HT_.out (by kernel_rfl)) (fun _ _ _ h => h) (Or.inl ⟨by rfl, ?_⟩) ?_ ?_
                                      rotate_left
                                      ·intro w'
                                       go_simp
                                       with_reducible rfl
                                      rotate_left
                                      ·simp only [Act.put, List.setIfInBounds_toArray, List.set_cons_zero, List.set_cons_succ, i64_w, i32_w]
                                       rfl
                                      refine take_ (i := 3) (N := some 102) (v := ?_) (a' := ?_) #[true, true, true, true, true, true, true, true, true, false, true, false, false, false, false, false, false] rfl rfl (take_ofW HT_.out HW_.out (by kernel_rfl)) (fun _ _ _ h => h) (Or.inl ⟨by rfl, ?_⟩) hHeld ?_ ?_
                                      rotate_left
                                      ·rintro w' ⟨s0, s1, s2, s3⟩
                                       go_simp
                                       with_reducible rfl
                                      rotate_left
                                      ·simp only [Act.put, List.setIfInBounds_toArray, List.set_cons_zero, List.set_cons_succ, i64_w, i32_w]
                                       rfl
                                      refine take_ (i := 9) (N := some 108) (v := ?_) (a' := ?_) #[true, true, true, true, true, true, true, true, true, true, true, false, false, false, false, false, false] rfl rfl (take_ofW HT_.out HW_.out (by kernel_rfl)) (fun _ _ _ h => h) (Or.inl ⟨by rfl, ?_⟩) hHeld ?_ ?_
                                      rotate_left
                                      ·rintro w' ⟨s0, s1, s2, s3⟩
                                       go_simp
                                       with_reducible rfl
                                      rotate_left
                                      ·simp only [Act.put, List.setIfInBounds_toArray, List.set_cons_zero, List.set_cons_succ, i64_w, i32_w]
                                       rfl
                                      refine pure_ (i := 11) (N := some 110) (v := ?_) (a' := ?_) #[true, true, true, true, true, true, true, true, true, true, true, true, false, false, false, false, false] rfl rfl (any_of HT_.out (by kernel_rfl)) (fun _ _ _ h => h) (Or.inl ⟨by rfl, ?_⟩) ?_ ?_
                                      rotate_left
                                      ·intro w'
                                       go_simp
                                       with_reducible rfl
                                      rotate_left
                                      ·simp only [Act.put, List.setIfInBounds_toArray, List.set_cons_zero, List.set_cons_succ, i64_w, i32_w]
                                       rfl
                                      refine take_ (i := 12) (N := some 111) (v := ?_) (a' := ?_) #[true, true, true, true, true, true, true, true, true, true, true, true, true, false, false, false, false] rfl rfl (take_ofW HT_.out HW_.out (by kernel_rfl)) (fun _ _ _ h => h) (Or.inl ⟨by rfl, ?_⟩) hHeld ?_ ?_
                                      rotate_left
                                      ·rintro w' ⟨s0, s1, s2, s3⟩
                                       go_simp
                                       with_reducible rfl
                                      rotate_left
                                      ·simp only [Act.put, List.setIfInBounds_toArray, List.set_cons_zero, List.set_cons_succ, i64_w, i32_w]
                                       rfl
                                      refine pure_ (i := 13) (N := some 112) (v := ?_) (a' := ?_) #[true, true, true, true, true, true, true, true, true, true, true, true, true, true, false, false, false] rfl rfl (any_of HT_.out (by kernel_rfl)) (fun _ _ _ h => h) (Or.inl ⟨by rfl, ?_⟩) ?_ ?_
                                      rotate_left
                                      ·intro w'
                                       go_simp
                                       with_reducible rfl
                                      rotate_left
                                      ·simp only [Act.put, List.setIfInBounds_toArray, List.set_cons_zero, List.set_cons_succ, i64_w, i32_w]
                                       rfl
                                      refine take_ (i := 14) (N := some 113) (v := ?_) (a' := ?_) #[true, true, true, true, true, true, true, true, true, true, true, true, true, true, true, false, false] rfl rfl (take_ofW HT_.out HW_.out (by kernel_rfl)) (fun _ _ _ h => h) (Or.inl ⟨by rfl, ?_⟩) hHeld ?_ ?_
                                      rotate_left
                                      ·rintro w' ⟨s0, s1, s2, s3⟩
                                       go_simp
                                       with_reducible rfl
                                      rotate_left
                                      ·simp only [Act.put, List.setIfInBounds_toArray, List.set_cons_zero, List.set_cons_succ, i64_w, i32_w]
                                       rfl
                                      refine pure_ (i := 15) (N := some 114) (v := ?_) (a' := ?_) #[true, true, true, true, true, true, true, true, true, true, true, true, true, true, true, true, false] rfl rfl (any_of HT_.out (by kernel_rfl)) (fun _ _ _ h => h) (Or.inl ⟨by rfl, ?_⟩) ?_ ?_
                                      rotate_left
                                      ·intro w'
                                       go_simp
                                       with_reducible rfl
                                      rotate_left
                                      ·simp only [Act.put, List.setIfInBounds_toArray, List.set_cons_zero, List.set_cons_succ, i64_w, i32_w]
                                       rfl
                                      refine last_ (i := 16) (N := none) #[true, true, true, true, true, true, true, true, true, true, true, true, true, true, true, true, true] rfl rfl (one_of HT_.out (by kernel_rfl)) (by decide) (fun K hK => ?_)
                                      refine skip_ (w1 := ?_) (by rfl) rfl ?_ ?_
                                      rotate_left
                                      ·go_simp
                                       rfl
                                      refine hK.out _ _ ?_
                                      clear hK K
                                      refine done_ (done_of HT_.out (by kernel_rfl)) ?_
                                      try go_wp2
                                      (try simp only [← hl7_5, ← hl11_5])
                                      go_roundg k5
                                      case measure => have := HJ4.out; have := HK2.out; have := HK3.out; have := HK4.out; have := HK5.out; omega
                                      case rel => exact ⟨(x7_5), (y621), (wrap64 (x83_5 + 1)), (by first | rfl | (simp; done) | (simp [*]; done)), H', ⟨by have := HJ4.out; have := HK2.out; have := HK3.out; have := HK4.out; have := HK5.out; omega⟩, ⟨by (try simp only [hl7_2]); (try simp only [hl7_3]); (try simp only [hl7_4]); (try simp only [hl7_5]); (try simp only [hl11_5]); (with_reducible repeat (first | apply Kd.R_alloc | apply Kd.R_drewN | apply Kd.R_drew)); exact Kd.R_mono (Kd.R_far (p := ⟨go66, (x83_5 : Int).toNat, none⟩) (Kd.R_far1 HO_7.out rfl ((HL615_0.out.1 _ rfl).1)) (fun _ hk => hk.2) (.int .i64 (rd x7_5 (rd (rd_L1 l0 (rd l1 x70_4)) (rd l1 x83_5))))) (fun _ hk => trivial)⟩, ⟨by (try simp only [hl7_2]); (try simp only [hl7_3]); (try simp only [hl7_4]); (try simp only [hl7_5]); (try simp only [hl11_5]); (with_reducible repeat (first | apply Kd.S_alloc | apply Kd.S_drewN | apply Kd.S_drew)); exact HQ68.out⟩, ⟨by repeat (first | (with_reducible first | exact HB.out | apply below_alloc | apply pw_below_drewN | apply below_drew1 | refine below_set ?_ GB66.out) | exact HB.out)⟩⟩
                                     ·rw [if_neg c65] at H
                                      exact absurd H (by simp)
                                    ·rw [if_neg c64] at H
                                     exact absurd H (by simp)
                                   ·rw [if_neg c63] at H
                                    exact absurd H (by simp)
                                 ·rw [if_neg c61] at H
                                  exact absurd H (by simp)
                                ·rw [if_neg c60] at H
                                 exact absurd H (by simp)
                               ·rw [if_neg c59] at H
                                exact absurd H (by simp)
                              ·rw [if_neg c58] at H
                               exact absurd H (by simp)
                             ·rw [if_neg c57] at H
                              exact absurd H (by simp)
                            ·rw [if_neg c56] at H
                             exact absurd H (by simp)
                           ·rw [if_neg c55] at H
                            exact absurd H (by simp)
                          ·rw [if_neg c54] at H
                           exact absurd H (by simp)
                         ·rw [if_neg c53] at H
                          have c53b0 : decide (x83_5 < (l1.length : Int)) = false := decide_eq_false c53
                          (try (have c53b0z := c53b0; simp only [hl7_2, hl7_3, hl7_4, hl7_5, hl11_5] at c53b0z))
                          clear c53
                          have H' := Aside0.mk H
                          clear H
                          go_wp2
                          (try simp only [← hl7_4, ← hl7_5, ← hl11_5])
                          go_roundg k5
                          case measure => have := HJ4.out; have := HK2.out; have := HK3.out; have := HK4.out; have := HK5.out; omega
                          case rel => exact ⟨(x7_5), (x11_5), (wrap64 (x70_4 + 1)), (by first | rfl | (simp; done) | (simp [*]; done)), H', ⟨by have := HJ4.out; have := HK2.out; have := HK3.out; have := HK4.out; have := HK5.out; omega⟩, ⟨by (try simp only [hl7_2]); (try simp only [hl7_3]); (try simp only [hl7_4]); (try simp only [hl7_5]); (try simp only [hl11_5]); (with_reducible repeat (first | apply Kd.R_alloc | apply Kd.R_drewN | apply Kd.R_drew)); exact HO_7.out⟩, ⟨by (try simp only [hl7_2]); (try simp only [hl7_3]); (try simp only [hl7_4]); (try simp only [hl7_5]); (try simp only [hl11_5]); (with_reducible repeat (first | apply Kd.S_alloc | apply Kd.S_drewN | apply Kd.S_drew)); exact HO_11.out⟩, ⟨by repeat (first | (with_reducible first | exact HB.out | apply below_alloc | apply pw_below_drewN | apply below_drew1) | exact HB.out)⟩⟩
                      ·rw [if_neg c47] at H
                       exact absurd H (by simp)
                     ·rw [if_neg c46] at H
                      exact absurd H (by simp)
                    ·rw [if_neg c45] at H
                     exact absurd H (by simp)
                   ·rw [if_neg c44] at H
                    exact absurd H (by simp)
                  ·rw [if_neg c43] at H
                   exact absurd H (by simp)
                 ·rw [if_neg c42] at H
                  have c42b0 : decide (x70_4 < (l1.length : Int)) = false := decide_eq_false c42
                  (try (have c42b0z := c42b0; simp only [hl7_2, hl7_3, hl7_4] at c42b0z))
                  clear c42
                  simp only [Option.some.injEq, Prod.mk.injEq] at H
                  obtain ⟨rfl, rfl⟩ := H
                  go_wp2
                  go_ret2
                  exact ⟨_, by first | rfl | (simp [errW_none, errW_some] <;> rfl) | (simp [*, errW_none, errW_some] <;> rfl), by (with_reducible repeat (first | apply Kd.S_alloc | apply Kd.S_drewN | apply Kd.S_drew)); exact Kd.S_mono HO_11.out (fun _ hk => trivial), by repeat (first | (with_reducible first | exact HB.out | apply below_alloc | apply pw_below_drewN | apply below_drew1) | exact HB.out)⟩
              ·rw [if_neg c39] at H
               exact absurd H (by simp)
             ·rw [if_neg c38] at H
              exact absurd H (by simp)
      ·rw [if_neg c10] at H
       exact absurd H (by simp)
     ·rw [if_neg c9] at H
      exact absurd H (by simp)
 ·rw [if_neg c4] at H
  have c4b0 : (t593 == 0) = false := beq_eq_false_iff_ne.mpr c4
  have c4b1 : (t593 != 0) = true := bne_iff_ne.mpr c4
  simp only [Option.some.injEq, Prod.mk.injEq] at H
  obtain ⟨rfl, rfl⟩ := H
  go_enter Try.func52, Try.ntmps52
  go_wp2_with (first | ((with_reducible refine gate_callee (f := 19) rfl ?_); refine goesL_ (some 17) rfl rfl Try.func19 (by kernel_rfl) rfl #[.slice A0 l0.length c0] rfl (by (try simp only [List.map_toArray, List.map_cons, List.map_nil]); first | done | rfl | (simp only [List.length_drop, List.length_take]; rfl)) ?_; (with_reducible refine (mult_Validate.calls k _ _ l0 t593 _ ?side1 ?side2 A3.out).mono ?_); (case side1 => repeat (first | exact HR0.out | (with_reducible refine Kd.C_alloc ?_ _) | (with_reducible refine Kd.C_drewN ?_ _) | (with_reducible refine Kd.C_drew ?_))); (case side2 => exact HC0.out); rintro e w' ⟨rfl, ⟨nd, rfl⟩⟩; refine ⟨_, rfl, ?_⟩))
  go_ret2
  exact ⟨_, by first | rfl | (simp [errW_none, errW_some] <;> rfl) | (simp [*, errW_none, errW_some] <;> rfl), by first | exact Kd.S_nil _ _ _ _ _ | exact Kd.N_nil _ _ _ _ _ | exact Kd.V_nil _ _ _ _ _ | exact Kd.Q_nil _ _ _ _ _ | exact Kd.R_nil _ _ _ _ _, by repeat (first | (with_reducible first | exact HB.out | apply below_alloc | apply pw_below_drewN | apply below_drew1) | exact HB.out)⟩

/-! ### semigrouplaw14_MultCloses: function 13 -/
mutual
def semigrouplaw14_MultCloses.j0 : Nat → List (List Int) → List Int → List Int → Bool → Option (Bool)
 | 0, _, _, _, _ => none
 | k + 1, x0, x1, x2, x33 => if x33 = true then ((semigrouplaw14_awake.f k).bind fun t670 => (some t670)) else ((mult_Generated.f k x0 x1).bind fun t671 => ((mult_Sub.f k x0 t671).bind fun bt674 => (if bt674.2 = 0 then ((mult_Validate.f k bt674.1).bind fun t678 => (if t678 = 0 then (semigrouplaw14_MultCloses.j1 k x0 x1 x2 t671 ((bt674.1.length : Int) != (t671.length : Int))) else (semigrouplaw14_MultCloses.j1 k x0 x1 x2 t671 true))) else (semigrouplaw14_MultCloses.j1 k x0 x1 x2 t671 true))))
def semigrouplaw14_MultCloses.j1 : Nat → List (List Int) → List Int → List Int → List Int → Bool → Option (Bool)
 | 0, _, _, _, _, _ => none
 | k + 1, x0, x1, x2, x7, x57 => if x57 = true then (some false) else ((semigroupref03_Set.f k x7 (x0.length : Int)).bind fun t679 => (semigrouplaw14_MultCloses.l0 k x0 x1 x2 x7 t679 x1 (x1.length : Int) 0))
def semigrouplaw14_MultCloses.l0 : Nat → List (List Int) → List Int → List Int → List Int → List Bool → List Int → Int → Int → Option (Bool)
 | 0, _, _, _, _, _, _, _, _ => none
 | k + 1, x0, x1, x2, x7, x10, x62, x63, x64 => if x64 < x63 then (if 0 ≤ x64 then (if x64 < (x62.length : Int) then (if 0 ≤ (rd x62 x64) then (if (rd x62 x64) < (x10.length : Int) then (if (rdOf false x10 (rd x62 x64) = true) then (semigrouplaw14_MultCloses.l0 k x0 x1 x2 x7 x10 x62 x63 (wrap64 (x64 + 1))) else (some false)) else (none)) else (none)) else (none)) else (none)) else ((mult_Sub.f k x0 x2).bind fun bt684 => (if bt684.2 = 0 then ((semigroupref03_Set.f k x2 (x0.length : Int)).bind fun t689 => (semigrouplaw14_MultCloses.l1 k x7 t689 x1 (x1.length : Int) 0)) else ((semigrouplaw14_awake.f k).bind fun t688 => (some t688))))
def semigrouplaw14_MultCloses.l1 : Nat → List Int → List Bool → List Int → Int → Int → Option (Bool)
 | 0, _, _, _, _, _ => none
 | k + 1, x7, x15, x87, x88, x89 => if x89 < x88 then (if 0 ≤ x89 then (if x89 < (x87.length : Int) then (if 0 ≤ (rd x87 x89) then (if (rd x87 x89) < (x15.length : Int) then (if (rdOf false x15 (rd x87 x89) = true) then (semigrouplaw14_MultCloses.l1 k x7 x15 x87 x88 (wrap64 (x89 + 1))) else ((semigrouplaw14_awake.f k).bind fun t694 => (some t694))) else (none)) else (none)) else (none)) else (none)) else (semigrouplaw14_MultCloses.l2 k x15 x7 (x7.length : Int) 0)
def semigrouplaw14_MultCloses.l2 : Nat → List Bool → List Int → Int → Int → Option (Bool)
 | 0, _, _, _, _ => none
 | k + 1, x15, x100, x101, x102 => if x102 < x101 then (if 0 ≤ x102 then (if x102 < (x100.length : Int) then (if 0 ≤ (rd x100 x102) then (if (rd x100 x102) < (x15.length : Int) then (if (rdOf false x15 (rd x100 x102) = true) then (semigrouplaw14_MultCloses.l2 k x15 x100 x101 (wrap64 (x102 + 1))) else (some false)) else (none)) else (none)) else (none)) else (none)) else ((semigrouplaw14_awake.f k).bind fun t697 => (some t697))
end
def semigrouplaw14_MultCloses.f (k : Nat) (l0 : List (List Int)) (l1 : List Int) (l2 : List Int) : Option (Bool) := (semigrouplaw14_small.f k l0 14).bind fun t668 => (if t668 = true then ((semigroupref14_In.f k l0 l1).bind fun t669 => (if t669 = true then (semigrouplaw14_MultCloses.j0 k l0 l1 l2 ((l1.length : Int) == 0)) else (semigrouplaw14_MultCloses.j0 k l0 l1 l2 true))) else (semigrouplaw14_MultCloses.j0 k l0 l1 l2 true))
theorem semigrouplaw14_MultCloses.mono_l : ∀ k, (∀ y0 y1 y2 y3, LeO (semigrouplaw14_MultCloses.j0 k y0 y1 y2 y3) (semigrouplaw14_MultCloses.j0 (k + 1) y0 y1 y2 y3)) ∧ (∀ y0 y1 y2 y3 y4, LeO (semigrouplaw14_MultCloses.j1 k y0 y1 y2 y3 y4) (semigrouplaw14_MultCloses.j1 (k + 1) y0 y1 y2 y3 y4)) ∧ (∀ y0 y1 y2 y3 y4 y5 y6 y7, LeO (semigrouplaw14_MultCloses.l0 k y0 y1 y2 y3 y4 y5 y6 y7) (semigrouplaw14_MultCloses.l0 (k + 1) y0 y1 y2 y3 y4 y5 y6 y7)) ∧ (∀ y0 y1 y2 y3 y4, LeO (semigrouplaw14_MultCloses.l1 k y0 y1 y2 y3 y4) (semigrouplaw14_MultCloses.l1 (k + 1) y0 y1 y2 y3 y4)) ∧ (∀ y0 y1 y2 y3, LeO (semigrouplaw14_MultCloses.l2 k y0 y1 y2 y3) (semigrouplaw14_MultCloses.l2 (k + 1) y0 y1 y2 y3))
 | 0 => ⟨fun _ _ _ _ r h => by simp [semigrouplaw14_MultCloses.j0] at h, fun _ _ _ _ _ r h => by simp [semigrouplaw14_MultCloses.j1] at h, fun _ _ _ _ _ _ _ _ r h => by simp [semigrouplaw14_MultCloses.l0] at h, fun _ _ _ _ _ r h => by simp [semigrouplaw14_MultCloses.l1] at h, fun _ _ _ _ r h => by simp [semigrouplaw14_MultCloses.l2] at h⟩
 | k + 1 => by
  obtain ⟨ih0, ih1, ih2, ih3, ih4⟩ := semigrouplaw14_MultCloses.mono_l k
  refine ⟨?_, ?_, ?_, ?_, ?_⟩
  ·intro y0 y1 y2 y3
   unfold semigrouplaw14_MultCloses.j0
   repeat' first
   | (with_reducible exact ih0 _ _ _ _)
   | (with_reducible exact ih1 _ _ _ _ _)
   | (with_reducible exact ih2 _ _ _ _ _ _ _ _)
   | (with_reducible exact ih3 _ _ _ _ _)
   | (with_reducible exact ih4 _ _ _ _)
   | (with_reducible exact mult_Generated.mono _ _ _)
   | (with_reducible exact mult_Sub.mono _ _ _)
   | (with_reducible exact mult_Validate.mono _ _)
   | (with_reducible exact semigrouplaw14_awake.mono _)
   | (with_reducible exact semigrouplaw14_small.mono _ _ _)
   | (with_reducible exact semigroupref03_Set.mono _ _ _)
   | (with_reducible exact semigroupref14_In.mono _ _ _)
   | (with_reducible exact LeO.refl _)
   | (with_reducible exact LeO.none _)
   | (with_reducible refine LeO.ite ?_ ?_)
   | (with_reducible refine LeO.bind ?_ (fun _ => ?_))
   | exact ih0 _ _ _ _
   | exact ih1 _ _ _ _ _
   | exact ih2 _ _ _ _ _ _ _ _
   | exact ih3 _ _ _ _ _
   | exact ih4 _ _ _ _
   | exact mult_Generated.mono _ _ _
   | exact mult_Sub.mono _ _ _
   | exact mult_Validate.mono _ _
   | exact semigrouplaw14_awake.mono _
   | exact semigrouplaw14_small.mono _ _ _
   | exact semigroupref03_Set.mono _ _ _
   | exact semigroupref14_In.mono _ _ _
   | exact LeO.none _
   | refine LeO.ite ?_ ?_
   | refine LeO.bind ?_ (fun _ => ?_)
  ·intro y0 y1 y2 y3 y4
   unfold semigrouplaw14_MultCloses.j1
   repeat' first
   | (with_reducible exact ih0 _ _ _ _)
   | (with_reducible exact ih1 _ _ _ _ _)
   | (with_reducible exact ih2 _ _ _ _ _ _ _ _)
   | (with_reducible exact ih3 _ _ _ _ _)
   | (with_reducible exact ih4 _ _ _ _)
   | (with_reducible exact mult_Generated.mono _ _ _)
   | (with_reducible exact mult_Sub.mono _ _ _)
   | (with_reducible exact mult_Validate.mono _ _)
   | (with_reducible exact semigrouplaw14_awake.mono _)
   | (with_reducible exact semigrouplaw14_small.mono _ _ _)
   | (with_reducible exact semigroupref03_Set.mono _ _ _)
   | (with_reducible exact semigroupref14_In.mono _ _ _)
   | (with_reducible exact LeO.refl _)
   | (with_reducible exact LeO.none _)
   | (with_reducible refine LeO.ite ?_ ?_)
   | (with_reducible refine LeO.bind ?_ (fun _ => ?_))
   | exact ih0 _ _ _ _
   | exact ih1 _ _ _ _ _
   | exact ih2 _ _ _ _ _ _ _ _
   | exact ih3 _ _ _ _ _
   | exact ih4 _ _ _ _
   | exact mult_Generated.mono _ _ _
   | exact mult_Sub.mono _ _ _
   | exact mult_Validate.mono _ _
   | exact semigrouplaw14_awake.mono _
   | exact semigrouplaw14_small.mono _ _ _
   | exact semigroupref03_Set.mono _ _ _
   | exact semigroupref14_In.mono _ _ _
   | exact LeO.none _
   | refine LeO.ite ?_ ?_
   | refine LeO.bind ?_ (fun _ => ?_)
  ·intro y0 y1 y2 y3 y4 y5 y6 y7
   unfold semigrouplaw14_MultCloses.l0
   repeat' first
   | (with_reducible exact ih0 _ _ _ _)
   | (with_reducible exact ih1 _ _ _ _ _)
   | (with_reducible exact ih2 _ _ _ _ _ _ _ _)
   | (with_reducible exact ih3 _ _ _ _ _)
   | (with_reducible exact ih4 _ _ _ _)
   | (with_reducible exact mult_Generated.mono _ _ _)
   | (with_reducible exact mult_Sub.mono _ _ _)
   | (with_reducible exact mult_Validate.mono _ _)
   | (with_reducible exact semigrouplaw14_awake.mono _)
   | (with_reducible exact semigrouplaw14_small.mono _ _ _)
   | (with_reducible exact semigroupref03_Set.mono _ _ _)
   | (with_reducible exact semigroupref14_In.mono _ _ _)
   | (with_reducible exact LeO.refl _)
   | (with_reducible exact LeO.none _)
   | (with_reducible refine LeO.ite ?_ ?_)
   | (with_reducible refine LeO.bind ?_ (fun _ => ?_))
   | exact ih0 _ _ _ _
   | exact ih1 _ _ _ _ _
   | exact ih2 _ _ _ _ _ _ _ _
   | exact ih3 _ _ _ _ _
   | exact ih4 _ _ _ _
   | exact mult_Generated.mono _ _ _
   | exact mult_Sub.mono _ _ _
   | exact mult_Validate.mono _ _
   | exact semigrouplaw14_awake.mono _
   | exact semigrouplaw14_small.mono _ _ _
   | exact semigroupref03_Set.mono _ _ _
   | exact semigroupref14_In.mono _ _ _
   | exact LeO.none _
   | refine LeO.ite ?_ ?_
   | refine LeO.bind ?_ (fun _ => ?_)
  ·intro y0 y1 y2 y3 y4
   unfold semigrouplaw14_MultCloses.l1
   repeat' first
   | (with_reducible exact ih0 _ _ _ _)
   | (with_reducible exact ih1 _ _ _ _ _)
   | (with_reducible exact ih2 _ _ _ _ _ _ _ _)
   | (with_reducible exact ih3 _ _ _ _ _)
   | (with_reducible exact ih4 _ _ _ _)
   | (with_reducible exact mult_Generated.mono _ _ _)
   | (with_reducible exact mult_Sub.mono _ _ _)
   | (with_reducible exact mult_Validate.mono _ _)
   | (with_reducible exact semigrouplaw14_awake.mono _)
   | (with_reducible exact semigrouplaw14_small.mono _ _ _)
   | (with_reducible exact semigroupref03_Set.mono _ _ _)
   | (with_reducible exact semigroupref14_In.mono _ _ _)
   | (with_reducible exact LeO.refl _)
   | (with_reducible exact LeO.none _)
   | (with_reducible refine LeO.ite ?_ ?_)
   | (with_reducible refine LeO.bind ?_ (fun _ => ?_))
   | exact ih0 _ _ _ _
   | exact ih1 _ _ _ _ _
   | exact ih2 _ _ _ _ _ _ _ _
   | exact ih3 _ _ _ _ _
   | exact ih4 _ _ _ _
   | exact mult_Generated.mono _ _ _
   | exact mult_Sub.mono _ _ _
   | exact mult_Validate.mono _ _
   | exact semigrouplaw14_awake.mono _
   | exact semigrouplaw14_small.mono _ _ _
   | exact semigroupref03_Set.mono _ _ _
   | exact semigroupref14_In.mono _ _ _
   | exact LeO.none _
   | refine LeO.ite ?_ ?_
   | refine LeO.bind ?_ (fun _ => ?_)
  ·intro y0 y1 y2 y3
   unfold semigrouplaw14_MultCloses.l2
   repeat' first
   | (with_reducible exact ih0 _ _ _ _)
   | (with_reducible exact ih1 _ _ _ _ _)
   | (with_reducible exact ih2 _ _ _ _ _ _ _ _)
   | (with_reducible exact ih3 _ _ _ _ _)
   | (with_reducible exact ih4 _ _ _ _)
   | (with_reducible exact mult_Generated.mono _ _ _)
   | (with_reducible exact mult_Sub.mono _ _ _)
   | (with_reducible exact mult_Validate.mono _ _)
   | (with_reducible exact semigrouplaw14_awake.mono _)
   | (with_reducible exact semigrouplaw14_small.mono _ _ _)
   | (with_reducible exact semigroupref03_Set.mono _ _ _)
   | (with_reducible exact semigroupref14_In.mono _ _ _)
   | (with_reducible exact LeO.refl _)
   | (with_reducible exact LeO.none _)
   | (with_reducible refine LeO.ite ?_ ?_)
   | (with_reducible refine LeO.bind ?_ (fun _ => ?_))
   | exact ih0 _ _ _ _
   | exact ih1 _ _ _ _ _
   | exact ih2 _ _ _ _ _ _ _ _
   | exact ih3 _ _ _ _ _
   | exact ih4 _ _ _ _
   | exact mult_Generated.mono _ _ _
   | exact mult_Sub.mono _ _ _
   | exact mult_Validate.mono _ _
   | exact semigrouplaw14_awake.mono _
   | exact semigrouplaw14_small.mono _ _ _
   | exact semigroupref03_Set.mono _ _ _
   | exact semigroupref14_In.mono _ _ _
   | exact LeO.none _
   | refine LeO.ite ?_ ?_
   | refine LeO.bind ?_ (fun _ => ?_)
theorem semigrouplaw14_MultCloses.mono : ∀ a0 a1 a2 k, LeO (semigrouplaw14_MultCloses.f k a0 a1 a2) (semigrouplaw14_MultCloses.f (k + 1) a0 a1 a2) := by
 intro a0 a1 a2 k
 obtain ⟨ih0, ih1, ih2, ih3, ih4⟩ := semigrouplaw14_MultCloses.mono_l k
 unfold semigrouplaw14_MultCloses.f
 repeat' first
   | (with_reducible exact ih0 _ _ _ _)
   | (with_reducible exact ih1 _ _ _ _ _)
   | (with_reducible exact ih2 _ _ _ _ _ _ _ _)
   | (with_reducible exact ih3 _ _ _ _ _)
   | (with_reducible exact ih4 _ _ _ _)
   | (with_reducible exact mult_Generated.mono _ _ _)
   | (with_reducible exact mult_Sub.mono _ _ _)
   | (with_reducible exact mult_Validate.mono _ _)
   | (with_reducible exact semigrouplaw14_awake.mono _)
   | (with_reducible exact semigrouplaw14_small.mono _ _ _)
   | (with_reducible exact semigroupref03_Set.mono _ _ _)
   | (with_reducible exact semigroupref14_In.mono _ _ _)
   | (with_reducible exact LeO.refl _)
   | (with_reducible exact LeO.none _)
   | (with_reducible refine LeO.ite ?_ ?_)
   | (with_reducible refine LeO.bind ?_ (fun _ => ?_))
   | exact ih0 _ _ _ _
   | exact ih1 _ _ _ _ _
   | exact ih2 _ _ _ _ _ _ _ _
   | exact ih3 _ _ _ _ _
   | exact ih4 _ _ _ _
   | exact mult_Generated.mono _ _ _
   | exact mult_Sub.mono _ _ _
   | exact mult_Validate.mono _ _
   | exact semigrouplaw14_awake.mono _
   | exact semigrouplaw14_small.mono _ _ _
   | exact semigroupref03_Set.mono _ _ _
   | exact semigroupref14_In.mono _ _ _
   | exact LeO.none _
   | refine LeO.ite ?_ ?_
   | refine LeO.bind ?_ (fun _ => ?_)
set_option maxHeartbeats 8000000 in
set_option maxRecDepth 100000 in
theorem semigrouplaw14_MultCloses.calls (k : Nat) (A0 : Option Addr) (c0 : Nat) (l0 : List (List Int)) (A1 : Option Addr) (c1 : Nat) (l1 : List Int) (A2 : Option Addr) (c2 : Nat) (l2 : List Int) (r : Bool) (w : World) (hr0 : Kd.C (Kd.slice 3 (Kd.int .i64)) w A0 l0.length l0) (hc0 : l0.length ≤ c0) (hr1 : Kd.C (Kd.int .i64) w A1 l1.length l1) (hc1 : l1.length ≤ c1) (hr2 : Kd.C (Kd.int .i64) w A2 l2.length l2) (hc2 : l2.length ≤ c2) (h : semigrouplaw14_MultCloses.f k l0 l1 l2 = some r) :
  Calls Try.prog 13 #[.slice A0 l0.length c0, .slice A1 l1.length c1, .slice A2 l2.length c2] w fun e w' => e = .returned (.bool r) ∧ Below w.heap.size w w' := by
 have HR0 := Aside0.mk hr0
 have HC0 := Aside0.mk hc0
 (try clear hr0); (try clear hc0)
 have HR1 := Aside0.mk hr1
 have HC1 := Aside0.mk hc1
 (try clear hr1); (try clear hc1)
 have HR2 := Aside0.mk hr2
 have HC2 := Aside0.mk hc2
 (try clear hr2); (try clear hc2)
 have HB := Aside0.mk (Below.refl w.heap.size w)
 have H : ((semigrouplaw14_small.f k l0 14).bind fun t668 => (if t668 = true then ((semigroupref14_In.f k l0 l1).bind fun t669 => (if t669 = true then (semigrouplaw14_MultCloses.j0 k l0 l1 l2 ((l1.length : Int) == 0)) else (semigrouplaw14_MultCloses.j0 k l0 l1 l2 true))) else (semigrouplaw14_MultCloses.j0 k l0 l1 l2 true))) = some r := h
 clear h
 have HC4 := Aside0.mk H
 clear H
 go_enter Try.func13, Try.ntmps13
 go_upto_region 1 with (fail)
 go_cut [33] (fun v33 wc => ∃ (kq : Nat) (x33_3 : Bool), v33 = .bool x33_3 ∧ Aside0 (semigrouplaw14_MultCloses.j0 kq l0 l1 l2 x33_3 = some r) ∧ Aside0 (kq ≤ k) ∧ Aside0 (Below w.heap.size w wc))
 case first =>
  have H := HC4.out
  clear HC4
  replace H := Option.bind_eq_some_iff.mp H
  obtain ⟨t668, A50, H⟩ := H
  replace H : (if t668 = true then ((semigroupref14_In.f k l0 l1).bind fun t669 => (if t669 = true then (semigrouplaw14_MultCloses.j0 k l0 l1 l2 ((l1.length : Int) == 0)) else (semigrouplaw14_MultCloses.j0 k l0 l1 l2 true))) else (semigrouplaw14_MultCloses.j0 k l0 l1 l2 true)) = some r := H
  have A5 := Aside0.mk A50
  clear A50
  by_cases c6 : t668 = true
  ·subst c6
   have H1 : ((semigroupref14_In.f k l0 l1).bind fun t669 => (if t669 = true then (semigrouplaw14_MultCloses.j0 k l0 l1 l2 ((l1.length : Int) == 0)) else (semigrouplaw14_MultCloses.j0 k l0 l1 l2 true))) = some r := by rw [if_pos rfl] at H; exact H
   clear H
   have H := H1
   clear H1
   replace H := Option.bind_eq_some_iff.mp H
   obtain ⟨t669, A70, H⟩ := H
   replace H : (if t669 = true then (semigrouplaw14_MultCloses.j0 k l0 l1 l2 ((l1.length : Int) == 0)) else (semigrouplaw14_MultCloses.j0 k l0 l1 l2 true)) = some r := H
   have A7 := Aside0.mk A70
   clear A70
   by_cases c8 : t669 = true
   ·subst c8
    have H1 : (semigrouplaw14_MultCloses.j0 k l0 l1 l2 ((l1.length : Int) == 0)) = some r := by rw [if_pos rfl] at H; exact H
    clear H
    have H := H1
    clear H1
    have H' := Aside0.mk H
    clear H
    go_wp2_with (first | ((with_reducible refine gate_callee (f := 36) rfl ?_); refine goesL_ (some 21) rfl rfl Try.func36 (by kernel_rfl) rfl #[.slice A0 l0.length c0, .int .i64 14] rfl (by (try simp only [List.map_toArray, List.map_cons, List.map_nil]); first | done | rfl | (simp only [List.length_drop, List.length_take]; rfl)) ?_; (with_reducible refine (semigrouplaw14_small.calls k _ _ l0 14 true _ ?side1 ?side2 A5.out).mono ?_); (case side1 => repeat (first | exact (Kd.C_below HR0.out HB.out) | (with_reducible refine Kd.C_alloc ?_ _) | (with_reducible refine Kd.C_drewN ?_ _) | (with_reducible refine Kd.C_drew ?_))); (case side2 => exact HC0.out); rintro e w' ⟨rfl, ⟨nd, rfl⟩⟩; refine ⟨_, rfl, ?_⟩) | (go_at_call 32; (with_reducible refine (semigroupref14_In.calls k _ _ l0 _ _ l1 true _ ?side1 ?side2 ?side3 ?side4 A7.out).mono ?_); (case side1 => repeat (first | exact (Kd.C_below HR0.out (by repeat (first | (with_reducible first | exact HB.out | apply below_alloc | apply pw_below_drewN | apply below_drew1) | exact HB.out))) | (with_reducible refine Kd.C_alloc ?_ _) | (with_reducible refine Kd.C_drewN ?_ _) | (with_reducible refine Kd.C_drew ?_))); (case side2 => exact HC0.out); (case side3 => repeat (first | exact (Kd.C_below HR1.out (by repeat (first | (with_reducible first | exact HB.out | apply below_alloc | apply pw_below_drewN | apply below_drew1) | exact HB.out))) | (with_reducible refine Kd.C_alloc ?_ _) | (with_reducible refine Kd.C_drewN ?_ _) | (with_reducible refine Kd.C_drew ?_))); (case side4 => exact HC1.out); rintro e w' ⟨rfl, ⟨nd, rfl⟩⟩))
    go_meet
    case rel => exact ⟨_, (((l1.length : Int) == 0)), (by first | rfl | (simp; done) | (simp [*]; done)), H', ⟨by first | omega | exact Nat.le_refl _⟩, ⟨by repeat (first | (with_reducible first | exact HB.out | apply below_alloc | apply pw_below_drewN | apply below_drew1) | exact HB.out)⟩⟩
   ·replace c8 := Bool.eq_false_iff.mpr c8
    subst c8
    have H1 : (semigrouplaw14_MultCloses.j0 k l0 l1 l2 true) = some r := by rw [if_neg (show ¬ (false = true) by decide)] at H; exact H
    clear H
    have H := H1
    clear H1
    have H' := Aside0.mk H
    clear H
    go_wp2_with (first | ((with_reducible refine gate_callee (f := 36) rfl ?_); refine goesL_ (some 21) rfl rfl Try.func36 (by kernel_rfl) rfl #[.slice A0 l0.length c0, .int .i64 14] rfl (by (try simp only [List.map_toArray, List.map_cons, List.map_nil]); first | done | rfl | (simp only [List.length_drop, List.length_take]; rfl)) ?_; (with_reducible refine (semigrouplaw14_small.calls k _ _ l0 14 true _ ?side1 ?side2 A5.out).mono ?_); (case side1 => repeat (first | exact (Kd.C_below HR0.out HB.out) | (with_reducible refine Kd.C_alloc ?_ _) | (with_reducible refine Kd.C_drewN ?_ _) | (with_reducible refine Kd.C_drew ?_))); (case side2 => exact HC0.out); rintro e w' ⟨rfl, ⟨nd, rfl⟩⟩; refine ⟨_, rfl, ?_⟩) | (go_at_call 32; (with_reducible refine (semigroupref14_In.calls k _ _ l0 _ _ l1 false _ ?side1 ?side2 ?side3 ?side4 A7.out).mono ?_); (case side1 => repeat (first | exact (Kd.C_below HR0.out (by repeat (first | (with_reducible first | exact HB.out | apply below_alloc | apply pw_below_drewN | apply below_drew1) | exact HB.out))) | (with_reducible refine Kd.C_alloc ?_ _) | (with_reducible refine Kd.C_drewN ?_ _) | (with_reducible refine Kd.C_drew ?_))); (case side2 => exact HC0.out); (case side3 => repeat (first | exact (Kd.C_below HR1.out (by repeat (first | (with_reducible first | exact HB.out | apply below_alloc | apply pw_below_drewN | apply below_drew1) | exact HB.out))) | (with_reducible refine Kd.C_alloc ?_ _) | (with_reducible refine Kd.C_drewN ?_ _) | (with_reducible refine Kd.C_drew ?_))); (case side4 => exact HC1.out); rintro e w' ⟨rfl, ⟨nd, rfl⟩⟩))
    go_meet
    case rel => exact ⟨_, (true), (by first | rfl | (simp; done) | (simp [*]; done)), H', ⟨by first | omega | exact Nat.le_refl _⟩, ⟨by repeat (first | (with_reducible first | exact HB.out | apply below_alloc | apply pw_below_drewN | apply below_drew1) | exact HB.out)⟩⟩
  ·replace c6 := Bool.eq_false_iff.mpr c6
   subst c6
   have H1 : (semigrouplaw14_MultCloses.j0 k l0 l1 l2 true) = some r := by rw [if_neg (show ¬ (false = true) by decide)] at H; exact H
   clear H
   have H := H1
   clear H1
   have H' := Aside0.mk H
   clear H
   go_wp2_with (first | ((with_reducible refine gate_callee (f := 36) rfl ?_); refine goesL_ (some 21) rfl rfl Try.func36 (by kernel_rfl) rfl #[.slice A0 l0.length c0, .int .i64 14] rfl (by (try simp only [List.map_toArray, List.map_cons, List.map_nil]); first | done | rfl | (simp only [List.length_drop, List.length_take]; rfl)) ?_; (with_reducible refine (semigrouplaw14_small.calls k _ _ l0 14 false _ ?side1 ?side2 A5.out).mono ?_); (case side1 => repeat (first | exact (Kd.C_below HR0.out HB.out) | (with_reducible refine Kd.C_alloc ?_ _) | (with_reducible refine Kd.C_drewN ?_ _) | (with_reducible refine Kd.C_drew ?_))); (case side2 => exact HC0.out); rintro e w' ⟨rfl, ⟨nd, rfl⟩⟩; refine ⟨_, rfl, ?_⟩))
   go_meet
   case rel => exact ⟨_, (true), (by first | rfl | (simp; done) | (simp [*]; done)), H', ⟨by first | omega | exact Nat.le_refl _⟩, ⟨by repeat (first | (with_reducible first | exact HB.out | apply below_alloc | apply pw_below_drewN | apply below_drew1) | exact HB.out)⟩⟩
 case rest =>
  clear HC4
  try clear c1
  try clear c2
  try clear p2
  try clear c3
  try clear c6
  try clear c8
  obtain ⟨kq, x33_3, rfl, HA, HJ3, HB⟩ := hcut
  cases kq with
  | zero => exact absurd HA.out (by simp [semigrouplaw14_MultCloses.j0])
  | succ kj3 =>
   have H := HA.out
   clear HA
   simp only [semigrouplaw14_MultCloses.j0] at H
   by_cases c9 : x33_3 = true
   ·subst c9
    have H1 : ((semigrouplaw14_awake.f kj3).bind fun t670 => (some t670)) = some r := by rw [if_pos rfl] at H; exact H
    clear H
    have H := H1
    clear H1
    replace H := Option.bind_eq_some_iff.mp H
    obtain ⟨t670, A100, H⟩ := H
    replace H : (some t670) = some r := H
    have A10 := Aside0.mk A100
    clear A100
    obtain rfl := Option.some.inj H
    go_wp2_with (first | ((with_reducible refine gate_callee (f := 16) rfl ?_); refine goesL_ (some 34) rfl rfl Try.func16 (by kernel_rfl) rfl #[] rfl (by (try simp only [List.map_toArray, List.map_cons, List.map_nil]); first | done | rfl | (simp only [List.length_drop, List.length_take]; rfl)) ?_; (with_reducible refine (semigrouplaw14_awake.calls kj3  t670 _ A10.out).mono ?_); rintro e w11 ⟨rfl, hb⟩; refine ⟨_, rfl, ?_⟩; have n0_ := Aside0.mk (below_step (by repeat (first | (with_reducible first | exact HB.out | apply below_alloc | apply pw_below_drewN | apply below_drew1) | exact HB.out)) hb); clear HB; have HB := n0_; clear n0_; (try clear hb); (try clear hb2); (try clear hk); (try clear hi)))
    go_ret
    exact ⟨by first | rfl | (simp [errW_none, errW_some] <;> rfl) | (simp [*, errW_none, errW_some] <;> rfl), by repeat (first | (with_reducible first | exact HB.out | apply below_alloc | apply pw_below_drewN | apply below_drew1) | exact HB.out)⟩
   ·replace c9 := Bool.eq_false_iff.mpr c9
    subst c9
    have H1 : ((mult_Generated.f kj3 l0 l1).bind fun t671 => ((mult_Sub.f kj3 l0 t671).bind fun bt674 => (if bt674.2 = 0 then ((mult_Validate.f kj3 bt674.1).bind fun t678 => (if t678 = 0 then (semigrouplaw14_MultCloses.j1 kj3 l0 l1 l2 t671 ((bt674.1.length : Int) != (t671.length : Int))) else (semigrouplaw14_MultCloses.j1 kj3 l0 l1 l2 t671 true))) else (semigrouplaw14_MultCloses.j1 kj3 l0 l1 l2 t671 true)))) = some r := by rw [if_neg (show ¬ (false = true) by decide)] at H; exact H
    clear H
    have H := H1
    clear H1
    replace H := Option.bind_eq_some_iff.mp H
    obtain ⟨t671, A120, H⟩ := H
    replace H : ((mult_Sub.f kj3 l0 t671).bind fun bt674 => (if bt674.2 = 0 then ((mult_Validate.f kj3 bt674.1).bind fun t678 => (if t678 = 0 then (semigrouplaw14_MultCloses.j1 kj3 l0 l1 l2 t671 ((bt674.1.length : Int) != (t671.length : Int))) else (semigrouplaw14_MultCloses.j1 kj3 l0 l1 l2 t671 true))) else (semigrouplaw14_MultCloses.j1 kj3 l0 l1 l2 t671 true))) = some r := H
    have A12 := Aside0.mk A120
    clear A120
    replace H := Option.bind_eq_some_iff.mp H
    obtain ⟨⟨t674, t675⟩, A130, H⟩ := H
    replace H : (if t675 = 0 then ((mult_Validate.f kj3 t674).bind fun t678 => (if t678 = 0 then (semigrouplaw14_MultCloses.j1 kj3 l0 l1 l2 t671 ((t674.length : Int) != (t671.length : Int))) else (semigrouplaw14_MultCloses.j1 kj3 l0 l1 l2 t671 true))) else (semigrouplaw14_MultCloses.j1 kj3 l0 l1 l2 t671 true)) = some r := H
    have A13 := Aside0.mk A130
    clear A130
    have HC14 := Aside0.mk H
    clear H
    go_upto_region 5 with (first | ((with_reducible refine gate_callee (f := 51) rfl ?_); refine goesL_ (some 37) rfl rfl Try.func51 (by kernel_rfl) rfl #[.slice A0 l0.length c0, .slice A1 l1.length c1] rfl (by (try simp only [List.map_toArray, List.map_cons, List.map_nil]); first | done | rfl | (simp only [List.length_drop, List.length_take]; rfl)) ?_; (with_reducible refine (mult_Generated.calls kj3 _ _ l0 _ _ l1 t671 _ ?side1 ?side2 ?side3 ?side4 A12.out).mono ?_); (case side1 => repeat (first | exact (Kd.C_below HR0.out HB.out) | (with_reducible refine Kd.C_alloc ?_ _) | (with_reducible refine Kd.C_drewN ?_ _) | (with_reducible refine Kd.C_drew ?_))); (case side2 => exact HC0.out); (case side3 => repeat (first | exact (Kd.C_below HR1.out HB.out) | (with_reducible refine Kd.C_alloc ?_ _) | (with_reducible refine Kd.C_drewN ?_ _) | (with_reducible refine Kd.C_drew ?_))); (case side4 => exact HC1.out); rintro e w15 ⟨v672, rfl, ho0, hb⟩; refine ⟨_, rfl, ?_⟩; have n0_ := Aside0.mk (Kd.R_lower ho0 (below_size (by repeat (first | (with_reducible first | exact HB.out | apply below_alloc | apply pw_below_drewN | apply below_drew1) | exact HB.out)))); have n1_ := Aside0.mk (below_step (by repeat (first | (with_reducible first | exact HB.out | apply below_alloc | apply pw_below_drewN | apply below_drew1) | exact HB.out)) hb); clear HB; have HO673 := n0_; have HB := n1_; clear n0_ n1_; (try clear hb); (try clear hb2); (try clear hk); (try clear hi); (try clear ho0); obtain ⟨Ao16, co16, eo16⟩ := Kd.R_slice HO673.out; subst eo16) | ((with_reducible refine gate_callee (f := 52) rfl ?_); refine goesL_ (some 41) rfl rfl Try.func52 (by kernel_rfl) rfl #[.slice A0 l0.length c0, .slice Ao16 t671.length co16] rfl (by (try simp only [List.map_toArray, List.map_cons, List.map_nil]); first | done | rfl | (simp only [List.length_drop, List.length_take]; rfl)) ?_; (with_reducible refine (mult_Sub.calls kj3 _ _ l0 _ _ t671 t674 t675 _ ?side1 ?side2 ?side3 ?side4 A13.out).mono ?_); (case side1 => repeat (first | exact (Kd.C_below HR0.out HB.out) | (with_reducible refine Kd.C_alloc ?_ _) | (with_reducible refine Kd.C_drewN ?_ _) | (with_reducible refine Kd.C_drew ?_))); (case side2 => exact HC0.out); (case side3 => repeat (first | exact (Kd.R_reads' HO673.out).2.2 | (with_reducible refine Kd.C_alloc ?_ _) | (with_reducible refine Kd.C_drewN ?_ _) | (with_reducible refine Kd.C_drew ?_))); (case side4 => exact (Kd.R_reads' HO673.out).2.1); rintro e w17 ⟨v676, rfl, ho0, hb⟩; refine ⟨_, rfl, ?_⟩; have n0_ := Aside0.mk (Kd.R_below (by (with_reducible repeat (first | apply Kd.R_alloc | apply Kd.R_drewN | apply Kd.R_drew)); exact HO673.out) hb); have n1_ := Aside0.mk (Kd.S_lower (Kd.S_new' ho0 (Kd.R_lt (by (with_reducible repeat (first | apply Kd.R_alloc | apply Kd.R_drewN | apply Kd.R_drew)); exact HO673.out))) (below_size (by repeat (first | (with_reducible first | exact HB.out | apply below_alloc | apply pw_below_drewN | apply below_drew1) | exact HB.out)))); have n2_ := Aside0.mk (below_step (by repeat (first | (with_reducible first | exact HB.out | apply below_alloc | apply pw_below_drewN | apply below_drew1) | exact HB.out)) hb); clear HO673; clear HB; have HO673 := n0_; have HO677 := n1_; have HB := n2_; clear n0_ n1_ n2_; (try clear hb); (try clear hb2); (try clear hk); (try clear hi); (try clear ho0)))
    (try simp only [Act.put, List.setIfInBounds_toArray, List.set_cons_zero, List.set_cons_succ])
    go_cut [57] (fun v57 wc => ∃ (kq : Nat) (x57_13 : Bool), v57 = .bool x57_13 ∧ Aside0 (semigrouplaw14_MultCloses.j1 kq l0 l1 l2 t671 x57_13 = some r) ∧ Aside0 (kq ≤ kj3) ∧ Aside0 (Kd.R (Kd.int .i64) 3 wc w.heap.size (fun _ => True) (.slice Ao16 t671.length co16) t671) ∧ Aside0 (Below w.heap.size w wc))
    case first =>
     have H := HC14.out
     clear HC14
     by_cases c18 : t675 = 0
     ·rw [if_pos c18] at H
      have c18b0 : (t675 == 0) = true := beq_iff_eq.mpr c18
      have c18b1 : (t675 != 0) = false := bne_eq_false_iff_eq.mpr c18
      clear c18
      (first | rw [c18b0] | (simp only [i64_w, i32_w]; rw [c18b0]) | skip)
      replace H := Option.bind_eq_some_iff.mp H
      obtain ⟨t678, A190, H⟩ := H
      replace H : (if t678 = 0 then (semigrouplaw14_MultCloses.j1 kj3 l0 l1 l2 t671 ((t674.length : Int) != (t671.length : Int))) else (semigrouplaw14_MultCloses.j1 kj3 l0 l1 l2 t671 true)) = some r := H
      have A19 := Aside0.mk A190
      clear A190
      by_cases c20 : t678 = 0
      ·rw [if_pos c20] at H
       have c20b0 : (t678 == 0) = true := beq_iff_eq.mpr c20
       have c20b1 : (t678 != 0) = false := bne_eq_false_iff_eq.mpr c20
       clear c20
       have H' := Aside0.mk H
       clear H
       obtain ⟨Ao21, co21, eo21⟩ := Kd.S_slice HO677.out
       subst eo21
       go_wp2_with (first | (go_at_call 19; (with_reducible refine (mult_Validate.calls kj3 _ _ t674 t678 _ ?side1 ?side2 A19.out).mono ?_); (case side1 => repeat (first | exact (Kd.S_reads' HO677.out).2.2 | (with_reducible refine Kd.C_alloc ?_ _) | (with_reducible refine Kd.C_drewN ?_ _) | (with_reducible refine Kd.C_drew ?_))); (case side2 => exact (Kd.S_reads' HO677.out).2.1); rintro e w' ⟨rfl, ⟨nd, rfl⟩⟩))
       go_meet
       case rel => exact ⟨_, (((t674.length : Int) != (t671.length : Int))), (by first | rfl | (simp; done) | (simp [*]; done)), H', ⟨by have := HJ3.out; first | omega | exact Nat.le_refl _⟩, ⟨by (with_reducible repeat (first | apply Kd.R_alloc | apply Kd.R_drewN | apply Kd.R_drew)); exact HO673.out⟩, ⟨by repeat (first | (with_reducible first | exact HB.out | apply below_alloc | apply pw_below_drewN | apply below_drew1) | exact HB.out)⟩⟩
      ·rw [if_neg c20] at H
       have c20b0 : (t678 == 0) = false := beq_eq_false_iff_ne.mpr c20
       have c20b1 : (t678 != 0) = true := bne_iff_ne.mpr c20
       have H' := Aside0.mk H
       clear H
       obtain ⟨Ao22, co22, eo22⟩ := Kd.S_slice HO677.out
       subst eo22
       go_wp2_with (first | (go_at_call 19; (with_reducible refine (mult_Validate.calls kj3 _ _ t674 t678 _ ?side1 ?side2 A19.out).mono ?_); (case side1 => repeat (first | exact (Kd.S_reads' HO677.out).2.2 | (with_reducible refine Kd.C_alloc ?_ _) | (with_reducible refine Kd.C_drewN ?_ _) | (with_reducible refine Kd.C_drew ?_))); (case side2 => exact (Kd.S_reads' HO677.out).2.1); rintro e w' ⟨rfl, ⟨nd, rfl⟩⟩))
       go_meet
       case rel => exact ⟨_, (true), (by first | rfl | (simp; done) | (simp [*]; done)), H', ⟨by have := HJ3.out; first | omega | exact Nat.le_refl _⟩, ⟨by (with_reducible repeat (first | apply Kd.R_alloc | apply Kd.R_drewN | apply Kd.R_drew)); exact HO673.out⟩, ⟨by repeat (first | (with_reducible first | exact HB.out | apply below_alloc | apply pw_below_drewN | apply below_drew1) | exact HB.out)⟩⟩
     ·rw [if_neg c18] at H
      have c18b0 : (t675 == 0) = false := beq_eq_false_iff_ne.mpr c18
      have c18b1 : (t675 != 0) = true := bne_iff_ne.mpr c18
      (first | rw [c18b0] | (simp only [i64_w, i32_w]; rw [c18b0]) | skip)
      have H' := Aside0.mk H
      clear H
      go_wp2
      go_meet
      case rel => exact ⟨_, (true), (by first | rfl | (simp; done) | (simp [*]; done)), H', ⟨by have := HJ3.out; first | omega | exact Nat.le_refl _⟩, ⟨by (with_reducible repeat (first | apply Kd.R_alloc | apply Kd.R_drewN | apply Kd.R_drew)); exact HO673.out⟩, ⟨by repeat (first | (with_reducible first | exact HB.out | apply below_alloc | apply pw_below_drewN | apply below_drew1) | exact HB.out)⟩⟩
    case rest =>
     clear HC14
     try clear c1
     try clear c2
     try clear p2
     try clear c3
     try clear c5
     try clear c6
     try clear c8
     try clear c9
     try clear c13
     try clear c16
     try clear c18
     try clear c18b0
     try clear c18b1
     try clear c20
     try clear c20b0
     try clear c20b1
     try clear p2
     obtain ⟨kq, x57_13, rfl, HA, HJ13, HO_7, HB⟩ := hcut
     cases kq with
     | zero => exact absurd HA.out (by simp [semigrouplaw14_MultCloses.j1])
     | succ kj13 =>
      have H := HA.out
      clear HA
      simp only [semigrouplaw14_MultCloses.j1] at H
      by_cases c23 : x57_13 = true
      ·subst c23
       have H1 : (some false) = some r := by rw [if_pos rfl] at H; exact H
       clear H
       have H := H1
       clear H1
       obtain rfl := Option.some.inj H
       go_wp2
       go_ret
       exact ⟨by first | rfl | (simp [errW_none, errW_some] <;> rfl) | (simp [*, errW_none, errW_some] <;> rfl), by repeat (first | (with_reducible first | exact HB.out | apply below_alloc | apply pw_below_drewN | apply below_drew1) | exact HB.out)⟩
      ·replace c23 := Bool.eq_false_iff.mpr c23
       subst c23
       have H1 : ((semigroupref03_Set.f kj13 t671 (l0.length : Int)).bind fun t679 => (semigrouplaw14_MultCloses.l0 kj13 l0 l1 l2 t671 t679 l1 (l1.length : Int) 0)) = some r := by rw [if_neg (show ¬ (false = true) by decide)] at H; exact H
       clear H
       have H := H1
       clear H1
       replace H := Option.bind_eq_some_iff.mp H
       obtain ⟨t679, A240, H⟩ := H
       replace H : (semigrouplaw14_MultCloses.l0 kj13 l0 l1 l2 t671 t679 l1 (l1.length : Int) 0) = some r := H
       have A24 := Aside0.mk A240
       clear A240
       have H' := Aside0.mk H
       clear H
       go_wp2_with (first | ((with_reducible refine gate_callee (f := 54) rfl ?_); refine goesL_ (some 61) rfl rfl Try.func54 (by kernel_rfl) rfl #[.slice Ao16 t671.length co16, .int .i64 (l0.length : Int)] rfl (by (try simp only [List.map_toArray, List.map_cons, List.map_nil]); first | done | rfl | (simp only [List.length_drop, List.length_take]; rfl)) ?_; (with_reducible refine (semigroupref03_Set.calls kj13 _ _ t671 (l0.length : Int) t679 _ ?side1 ?side2 A24.out).mono ?_); (case side1 => repeat (first | exact (Kd.R_reads' HO_7.out).2.2 | (with_reducible refine Kd.C_alloc ?_ _) | (with_reducible refine Kd.C_drewN ?_ _) | (with_reducible refine Kd.C_drew ?_))); (case side2 => exact (Kd.R_reads' HO_7.out).2.1); rintro e w25 ⟨v680, rfl, ho0, hb⟩; refine ⟨_, rfl, ?_⟩; have n0_ := Aside0.mk (Kd.R_below (by (with_reducible repeat (first | apply Kd.R_alloc | apply Kd.R_drewN | apply Kd.R_drew)); exact HO_7.out) hb); have n1_ := Aside0.mk (Kd.R_lower ho0 (below_size (by repeat (first | (with_reducible first | exact HB.out | apply below_alloc | apply pw_below_drewN | apply below_drew1) | exact HB.out)))); have n2_ := Aside0.mk (below_step (by repeat (first | (with_reducible first | exact HB.out | apply below_alloc | apply pw_below_drewN | apply below_drew1) | exact HB.out)) hb); clear HO_7; clear HB; have HO_7 := n0_; have HO681 := n1_; have HB := n2_; clear n0_ n1_ n2_; (try clear hb); (try clear hb2); (try clear hk); (try clear hi); (try clear ho0)))
       go_loopg [64] kj13 (fun kq v64 w' => ∃ (x64_3 : Int), v64 = .int .i64 x64_3 ∧ Aside0 (semigrouplaw14_MultCloses.l0 kq l0 l1 l2 t671 t679 l1 (l1.length : Int) x64_3 = some r) ∧ Aside0 (kq ≤ kj13) ∧ Aside0 (Kd.R (Kd.int .i64) 3 w' w.heap.size (fun _ => True) (.slice Ao16 t671.length co16) t671) ∧ Aside0 (Kd.R Kd.bool 4 w' w.heap.size (fun _ => True) v680 t679) ∧ Aside0 (Below w.heap.size w w'))
       case atStart => exact ⟨(0), (by first | rfl | (simp; done) | (simp [*]; done)), H', ⟨Nat.le_refl _⟩, ⟨by (with_reducible repeat (first | apply Kd.R_alloc | apply Kd.R_drewN | apply Kd.R_drew)); exact HO_7.out⟩, ⟨by (with_reducible repeat (first | apply Kd.R_alloc | apply Kd.R_drewN | apply Kd.R_drew)); exact HO681.out⟩, ⟨by repeat (first | (with_reducible first | exact HB.out | apply below_alloc | apply pw_below_drewN | apply below_drew1) | exact HB.out)⟩⟩
       case round =>
        clear H'
        try clear c1
        try clear c2
        try clear p2
        try clear c3
        try clear c5
        try clear c6
        try clear c8
        try clear c9
        try clear c13
        try clear c16
        try clear c18
        try clear c18b0
        try clear c18b1
        try clear c20
        try clear c20b0
        try clear c20b1
        try clear c23
        try clear p2
        obtain ⟨x64_3, rfl, HA, HK3, HO_7, HO_10, HB⟩ := hrel
        cases gk with
        | zero => exact absurd HA.out (by simp [semigrouplaw14_MultCloses.l0])
        | succ k3 =>
         have H := HA.out
         clear HA
         simp only [semigrouplaw14_MultCloses.l0] at H
         by_cases c26 : x64_3 < (l1.length : Int)
         ·rw [if_pos c26] at H
          have c26b0 : decide (x64_3 < (l1.length : Int)) = true := decide_eq_true c26
          clear c26
          by_cases c27 : 0 ≤ x64_3
          ·rw [if_pos c27] at H
           have c27b0 : decide (0 ≤ x64_3) = true := decide_eq_true c27
           clear c27
           by_cases c28 : x64_3 < (l1.length : Int)
           ·rw [if_pos c28] at H
            have c28b0 : decide (x64_3 < (l1.length : Int)) = true := decide_eq_true c28
            clear c28
            by_cases c29 : 0 ≤ (rd l1 x64_3)
            ·rw [if_pos c29] at H
             have c29b0 : decide (0 ≤ (rd l1 x64_3)) = true := decide_eq_true c29
             clear c29
             by_cases c30 : (rd l1 x64_3) < (t679.length : Int)
             ·rw [if_pos c30] at H
              have c30b0 : decide ((rd l1 x64_3) < (t679.length : Int)) = true := decide_eq_true c30
              clear c30
              obtain ⟨bq31, hbq31⟩ : ∃ b_ : Bool, b_ = (rdOf false t679 (rd l1 x64_3)) := ⟨_, rfl⟩
              replace H : (if (bq31 = true) then (semigrouplaw14_MultCloses.l0 k3 l0 l1 l2 t671 t679 l1 (l1.length : Int) (wrap64 (x64_3 + 1))) else (some false)) = some r := by rw [← hbq31] at H; exact H
              have Nbq31 := Aside0.mk hbq31
              clear hbq31
              by_cases c32 : (bq31 = true)
              ·subst c32
               have H1 : (semigrouplaw14_MultCloses.l0 k3 l0 l1 l2 t671 t679 l1 (l1.length : Int) (wrap64 (x64_3 + 1))) = some r := by rw [if_pos rfl] at H; exact H
               clear H
               have H := H1
               clear H1
               have H' := Aside0.mk H
               clear H
               have p682 : 0 ≤ (x64_3 : Int) := of_decide_eq_true (by first | (with_reducible assumption) | assumption)
               have q682 : x64_3 < (l1.length : Int) := of_decide_eq_true (by first | (with_reducible assumption) | assumption)
               obtain ⟨ad682, e682, hx682_0⟩ := Kd.at_int HR1.out x64_3 p682 q682
               cases e682
               replace hx682_0 := (HB.out.cell (World.block_lt_of_cell? w _ hx682_0)).trans hx682_0
               replace p682 := eq_true p682
               replace q682 := eq_true q682
               obtain ⟨Ao33, co33, eo33⟩ := Kd.R_slice HO_10.out
               subst eo33
               have p683 : 0 ≤ ((rd l1 x64_3) : Int) := of_decide_eq_true (by first | (with_reducible assumption) | assumption)
               have q683 : (rd l1 x64_3) < (t679.length : Int) := of_decide_eq_true (by first | (with_reducible assumption) | assumption)
               obtain ⟨ad683, e683, hx683_0⟩ := Kd.at_bool (Kd.R_reads' HO_10.out).2.2 (rd l1 x64_3) p683 q683
               (try rw [← Nbq31.out] at hx683_0)
               cases e683
               replace p683 := eq_true p683
               replace q683 := eq_true q683
               go_wp2
               go_roundg k3
               case measure => have := HJ3.out; have := HJ13.out; have := HK3.out; omega
               case rel => exact ⟨(wrap64 (x64_3 + 1)), (by first | rfl | (simp; done) | (simp [*]; done)), H', ⟨by have := HJ3.out; have := HJ13.out; have := HK3.out; omega⟩, ⟨by (with_reducible repeat (first | apply Kd.R_alloc | apply Kd.R_drewN | apply Kd.R_drew)); exact HO_7.out⟩, ⟨by (with_reducible repeat (first | apply Kd.R_alloc | apply Kd.R_drewN | apply Kd.R_drew)); exact HO_10.out⟩, ⟨by repeat (first | (with_reducible first | exact HB.out | apply below_alloc | apply pw_below_drewN | apply below_drew1) | exact HB.out)⟩⟩
              ·replace c32 := Bool.eq_false_iff.mpr c32
               subst c32
               have H1 : (some false) = some r := by rw [if_neg (show ¬ (false = true) by decide)] at H; exact H
               clear H
               have H := H1
               clear H1
               obtain rfl := Option.some.inj H
               have p682 : 0 ≤ (x64_3 : Int) := of_decide_eq_true (by first | (with_reducible assumption) | assumption)
               have q682 : x64_3 < (l1.length : Int) := of_decide_eq_true (by first | (with_reducible assumption) | assumption)
               obtain ⟨ad682, e682, hx682_0⟩ := Kd.at_int HR1.out x64_3 p682 q682
               cases e682
               replace hx682_0 := (HB.out.cell (World.block_lt_of_cell? w _ hx682_0)).trans hx682_0
               replace p682 := eq_true p682
               replace q682 := eq_true q682
               obtain ⟨Ao34, co34, eo34⟩ := Kd.R_slice HO_10.out
               subst eo34
               have p683 : 0 ≤ ((rd l1 x64_3) : Int) := of_decide_eq_true (by first | (with_reducible assumption) | assumption)
               have q683 : (rd l1 x64_3) < (t679.length : Int) := of_decide_eq_true (by first | (with_reducible assumption) | assumption)
               obtain ⟨ad683, e683, hx683_0⟩ := Kd.at_bool (Kd.R_reads' HO_10.out).2.2 (rd l1 x64_3) p683 q683
               (try rw [← Nbq31.out] at hx683_0)
               cases e683
               replace p683 := eq_true p683
               replace q683 := eq_true q683
               go_wp2
               go_ret
               exact ⟨by first | rfl | (simp [errW_none, errW_some] <;> rfl) | (simp [*, errW_none, errW_some] <;> rfl), by repeat (first | (with_reducible first | exact HB.out | apply below_alloc | apply pw_below_drewN | apply below_drew1) | exact HB.out)⟩
             ·rw [if_neg c30] at H
              exact absurd H (by simp)
            ·rw [if_neg c29] at H
             exact absurd H (by simp)
           ·rw [if_neg c28] at H
            exact absurd H (by simp)
          ·rw [if_neg c27] at H
           exact absurd H (by simp)
         ·rw [if_neg c26] at H
          have c26b0 : decide (x64_3 < (l1.length : Int)) = false := decide_eq_false c26
          clear c26
          replace H := Option.bind_eq_some_iff.mp H
          obtain ⟨⟨t684, t685⟩, A350, H⟩ := H
          replace H : (if t685 = 0 then ((semigroupref03_Set.f k3 l2 (l0.length : Int)).bind fun t689 => (semigrouplaw14_MultCloses.l1 k3 t671 t689 l1 (l1.length : Int) 0)) else ((semigrouplaw14_awake.f k3).bind fun t688 => (some t688))) = some r := H
          have A35 := Aside0.mk A350
          clear A350
          by_cases c36 : t685 = 0
          ·rw [if_pos c36] at H
           have c36b0 : (t685 == 0) = true := beq_iff_eq.mpr c36
           have c36b1 : (t685 != 0) = false := bne_eq_false_iff_eq.mpr c36
           clear c36
           replace H := Option.bind_eq_some_iff.mp H
           obtain ⟨t689, A370, H⟩ := H
           replace H : (semigrouplaw14_MultCloses.l1 k3 t671 t689 l1 (l1.length : Int) 0) = some r := H
           have A37 := Aside0.mk A370
           clear A370
           have H' := Aside0.mk H
           clear H
           go_wp2_with (first | ((with_reducible refine gate_callee (f := 52) rfl ?_); refine goesL_ (some 77) rfl rfl Try.func52 (by kernel_rfl) rfl #[.slice A0 l0.length c0, .slice A2 l2.length c2] rfl (by (try simp only [List.map_toArray, List.map_cons, List.map_nil]); first | done | rfl | (simp only [List.length_drop, List.length_take]; rfl)) ?_; (with_reducible refine (mult_Sub.calls k3 _ _ l0 _ _ l2 t684 t685 _ ?side1 ?side2 ?side3 ?side4 A35.out).mono ?_); (case side1 => repeat (first | exact (Kd.C_below HR0.out HB.out) | (with_reducible refine Kd.C_alloc ?_ _) | (with_reducible refine Kd.C_drewN ?_ _) | (with_reducible refine Kd.C_drew ?_))); (case side2 => exact HC0.out); (case side3 => repeat (first | exact (Kd.C_below HR2.out HB.out) | (with_reducible refine Kd.C_alloc ?_ _) | (with_reducible refine Kd.C_drewN ?_ _) | (with_reducible refine Kd.C_drew ?_))); (case side4 => exact HC2.out); rintro e w38 ⟨v686, rfl, ho0, hb⟩; refine ⟨_, rfl, ?_⟩; have n0_ := Aside0.mk (Kd.R_below (by (with_reducible repeat (first | apply Kd.R_alloc | apply Kd.R_drewN | apply Kd.R_drew)); exact HO_7.out) hb); have n1_ := Aside0.mk (Kd.R_below (by (with_reducible repeat (first | apply Kd.R_alloc | apply Kd.R_drewN | apply Kd.R_drew)); exact HO_10.out) hb); have n2_ := Aside0.mk (Kd.S_lower (Kd.S_new' ho0 (Kd.R_lt (by (with_reducible repeat (first | apply Kd.R_alloc | apply Kd.R_drewN | apply Kd.R_drew)); exact HO_7.out))) (below_size (by repeat (first | (with_reducible first | exact HB.out | apply below_alloc | apply pw_below_drewN | apply below_drew1) | exact HB.out)))); have n3_ := Aside0.mk (below_step (by repeat (first | (with_reducible first | exact HB.out | apply below_alloc | apply pw_below_drewN | apply below_drew1) | exact HB.out)) hb); clear HO_7; clear HO_10; clear HB; have HO_7 := n0_; have HO_10 := n1_; have HO687 := n2_; have HB := n3_; clear n0_ n1_ n2_ n3_; (try clear hb); (try clear hb2); (try clear hk); (try clear hi); (try clear ho0)) | ((with_reducible refine gate_callee (f := 54) rfl ?_); refine goesL_ (some 86) rfl rfl Try.func54 (by kernel_rfl) rfl #[.slice A2 l2.length c2, .int .i64 (l0.length : Int)] rfl (by (try simp only [List.map_toArray, List.map_cons, List.map_nil]); first | done | rfl | (simp only [List.length_drop, List.length_take]; rfl)) ?_; (with_reducible refine (semigroupref03_Set.calls k3 _ _ l2 (l0.length : Int) t689 _ ?side1 ?side2 A37.out).mono ?_); (case side1 => repeat (first | exact (Kd.C_below HR2.out HB.out) | (with_reducible refine Kd.C_alloc ?_ _) | (with_reducible refine Kd.C_drewN ?_ _) | (with_reducible refine Kd.C_drew ?_))); (case side2 => exact HC2.out); rintro e w39 ⟨v690, rfl, ho0, hb⟩; refine ⟨_, rfl, ?_⟩; have n0_ := Aside0.mk (Kd.R_below (by (with_reducible repeat (first | apply Kd.R_alloc | apply Kd.R_drewN | apply Kd.R_drew)); exact HO_7.out) hb); have n1_ := Aside0.mk (Kd.R_elder' (by (with_reducible repeat (first | apply Kd.R_alloc | apply Kd.R_drewN | apply Kd.R_drew)); exact HO_10.out) (by first | exact Kd.N_base ho0 | exact Kd.S_base ho0 | exact Kd.R_base ho0) hb); have n2_ := Aside0.mk (Kd.S_below (by (with_reducible repeat (first | apply Kd.S_alloc | apply Kd.S_drewN | apply Kd.S_drew)); exact HO687.out) hb); have n3_ := Aside0.mk (Kd.R_lower (Kd.R_new' ho0 (Kd.R_lt (by (with_reducible repeat (first | apply Kd.R_alloc | apply Kd.R_drewN | apply Kd.R_drew)); exact HO_10.out))) (below_size (by repeat (first | (with_reducible first | exact HB.out | apply below_alloc | apply pw_below_drewN | apply below_drew1) | exact HB.out)))); have n4_ := Aside0.mk (below_step (by repeat (first | (with_reducible first | exact HB.out | apply below_alloc | apply pw_below_drewN | apply below_drew1) | exact HB.out)) hb); clear HO_7; clear HO_10; clear HO687; clear HB; have HO_7 := n0_; have HO_10 := n1_; have HO687 := n2_; have HO691 := n3_; have HB := n4_; clear n0_ n1_ n2_ n3_ n4_; (try clear hb); (try clear hb2); (try clear hk); (try clear hi); (try clear ho0)))
           go_loopg [89] k3 (fun kq v89 w' => ∃ (x89_4 : Int), v89 = .int .i64 x89_4 ∧ Aside0 (semigrouplaw14_MultCloses.l1 kq t671 t689 l1 (l1.length : Int) x89_4 = some r) ∧ Aside0 (kq ≤ k3) ∧ Aside0 (Kd.R (Kd.int .i64) 3 w' w.heap.size (fun _ => True) (.slice Ao16 t671.length co16) t671) ∧ Aside0 (Kd.R Kd.bool 4 w' w.heap.size (fun _ => True) v690 t689) ∧ Aside0 (Below w.heap.size w w'))
           case atStart => exact ⟨(0), (by first | rfl | (simp; done) | (simp [*]; done)), H', ⟨Nat.le_refl _⟩, ⟨by (with_reducible repeat (first | apply Kd.R_alloc | apply Kd.R_drewN | apply Kd.R_drew)); exact HO_7.out⟩, ⟨by (with_reducible repeat (first | apply Kd.R_alloc | apply Kd.R_drewN | apply Kd.R_drew)); exact Kd.R_mono HO691.out (fun _ hk => trivial)⟩, ⟨by repeat (first | (with_reducible first | exact HB.out | apply below_alloc | apply pw_below_drewN | apply below_drew1) | exact HB.out)⟩⟩
           case round =>
            clear H'
            try clear c1
            try clear c2
            try clear p2
            try clear c3
            try clear q3
            try clear c5
            try clear c6
            try clear p6
            try clear q6
            try clear hx6
            try clear c8
            try clear c9
            try clear c13
            try clear c16
            try clear c18
            try clear c18b0
            try clear c18b1
            try clear c20
            try clear c20b0
            try clear c20b1
            try clear c23
            try clear c26
            try clear c26b0
            try clear c27
            try clear c27b0
            try clear c28
            try clear c28b0
            try clear c29
            try clear c29b0
            try clear c30
            try clear c30b0
            try clear q31
            try clear c32
            try clear c36
            try clear c36b0
            try clear c36b1
            try clear hx682_0
            try clear hx683_0
            try clear p2
            try clear p682
            try clear p683
            try clear q682
            try clear q683
            obtain ⟨x89_4, rfl, HA, HK4, HO_7, HO_15, HB⟩ := hrel
            cases gk with
            | zero => exact absurd HA.out (by simp [semigrouplaw14_MultCloses.l1])
            | succ k4 =>
             have H := HA.out
             clear HA
             simp only [semigrouplaw14_MultCloses.l1] at H
             by_cases c40 : x89_4 < (l1.length : Int)
             ·rw [if_pos c40] at H
              have c40b0 : decide (x89_4 < (l1.length : Int)) = true := decide_eq_true c40
              clear c40
              by_cases c41 : 0 ≤ x89_4
              ·rw [if_pos c41] at H
               have c41b0 : decide (0 ≤ x89_4) = true := decide_eq_true c41
               clear c41
               by_cases c42 : x89_4 < (l1.length : Int)
               ·rw [if_pos c42] at H
                have c42b0 : decide (x89_4 < (l1.length : Int)) = true := decide_eq_true c42
                clear c42
                by_cases c43 : 0 ≤ (rd l1 x89_4)
                ·rw [if_pos c43] at H
                 have c43b0 : decide (0 ≤ (rd l1 x89_4)) = true := decide_eq_true c43
                 clear c43
                 by_cases c44 : (rd l1 x89_4) < (t689.length : Int)
                 ·rw [if_pos c44] at H
                  have c44b0 : decide ((rd l1 x89_4) < (t689.length : Int)) = true := decide_eq_true c44
                  clear c44
                  obtain ⟨bq45, hbq45⟩ : ∃ b_ : Bool, b_ = (rdOf false t689 (rd l1 x89_4)) := ⟨_, rfl⟩
                  replace H : (if (bq45 = true) then (semigrouplaw14_MultCloses.l1 k4 t671 t689 l1 (l1.length : Int) (wrap64 (x89_4 + 1))) else ((semigrouplaw14_awake.f k4).bind fun t694 => (some t694))) = some r := by rw [← hbq45] at H; exact H
                  have Nbq45 := Aside0.mk hbq45
                  clear hbq45
                  by_cases c46 : (bq45 = true)
                  ·subst c46
                   have H1 : (semigrouplaw14_MultCloses.l1 k4 t671 t689 l1 (l1.length : Int) (wrap64 (x89_4 + 1))) = some r := by rw [if_pos rfl] at H; exact H
                   clear H
                   have H := H1
                   clear H1
                   have H' := Aside0.mk H
                   clear H
                   have p692 : 0 ≤ (x89_4 : Int) := of_decide_eq_true (by first | (with_reducible assumption) | assumption)
                   have q692 : x89_4 < (l1.length : Int) := of_decide_eq_true (by first | (with_reducible assumption) | assumption)
                   obtain ⟨ad692, e692, hx692_0⟩ := Kd.at_int HR1.out x89_4 p692 q692
                   cases e692
                   replace hx692_0 := (HB.out.cell (World.block_lt_of_cell? w _ hx692_0)).trans hx692_0
                   replace p692 := eq_true p692
                   replace q692 := eq_true q692
                   obtain ⟨Ao47, co47, eo47⟩ := Kd.R_slice HO_15.out
                   subst eo47
                   have p693 : 0 ≤ ((rd l1 x89_4) : Int) := of_decide_eq_true (by first | (with_reducible assumption) | assumption)
                   have q693 : (rd l1 x89_4) < (t689.length : Int) := of_decide_eq_true (by first | (with_reducible assumption) | assumption)
                   obtain ⟨ad693, e693, hx693_0⟩ := Kd.at_bool (Kd.R_reads' HO_15.out).2.2 (rd l1 x89_4) p693 q693
                   (try rw [← Nbq45.out] at hx693_0)
                   cases e693
                   replace p693 := eq_true p693
                   replace q693 := eq_true q693
                   go_wp2
                   go_roundg k4
                   case measure => have := HJ3.out; have := HJ13.out; have := HK3.out; have := HK4.out; omega
                   case rel => exact ⟨(wrap64 (x89_4 + 1)), (by first | rfl | (simp; done) | (simp [*]; done)), H', ⟨by have := HJ3.out; have := HJ13.out; have := HK3.out; have := HK4.out; omega⟩, ⟨by (with_reducible repeat (first | apply Kd.R_alloc | apply Kd.R_drewN | apply Kd.R_drew)); exact HO_7.out⟩, ⟨by (with_reducible repeat (first | apply Kd.R_alloc | apply Kd.R_drewN | apply Kd.R_drew)); exact HO_15.out⟩, ⟨by repeat (first | (with_reducible first | exact HB.out | apply below_alloc | apply pw_below_drewN | apply below_drew1) | exact HB.out)⟩⟩
                  ·replace c46 := Bool.eq_false_iff.mpr c46
                   subst c46
                   have H1 : ((semigrouplaw14_awake.f k4).bind fun t694 => (some t694)) = some r := by rw [if_neg (show ¬ (false = true) by decide)] at H; exact H
                   clear H
                   have H := H1
                   clear H1
                   replace H := Option.bind_eq_some_iff.mp H
                   obtain ⟨t694, A480, H⟩ := H
                   replace H : (some t694) = some r := H
                   have A48 := Aside0.mk A480
                   clear A480
                   obtain rfl := Option.some.inj H
                   have p692 : 0 ≤ (x89_4 : Int) := of_decide_eq_true (by first | (with_reducible assumption) | assumption)
                   have q692 : x89_4 < (l1.length : Int) := of_decide_eq_true (by first | (with_reducible assumption) | assumption)
                   obtain ⟨ad692, e692, hx692_0⟩ := Kd.at_int HR1.out x89_4 p692 q692
                   cases e692
                   replace hx692_0 := (HB.out.cell (World.block_lt_of_cell? w _ hx692_0)).trans hx692_0
                   replace p692 := eq_true p692
                   replace q692 := eq_true q692
                   obtain ⟨Ao49, co49, eo49⟩ := Kd.R_slice HO_15.out
                   subst eo49
                   have p693 : 0 ≤ ((rd l1 x89_4) : Int) := of_decide_eq_true (by first | (with_reducible assumption) | assumption)
                   have q693 : (rd l1 x89_4) < (t689.length : Int) := of_decide_eq_true (by first | (with_reducible assumption) | assumption)
                   obtain ⟨ad693, e693, hx693_0⟩ := Kd.at_bool (Kd.R_reads' HO_15.out).2.2 (rd l1 x89_4) p693 q693
                   (try rw [← Nbq45.out] at hx693_0)
                   cases e693
                   replace p693 := eq_true p693
                   replace q693 := eq_true q693
                   go_wp2_with (first | ((with_reducible refine gate_callee (f := 16) rfl ?_); refine goesL_ (some 98) rfl rfl Try.func16 (by kernel_rfl) rfl #[] rfl (by (try simp only [List.map_toArray, List.map_cons, List.map_nil]); first | done | rfl | (simp only [List.length_drop, List.length_take]; rfl)) ?_; (with_reducible refine (semigrouplaw14_awake.calls k4  t694 _ A48.out).mono ?_); rintro e w50 ⟨rfl, hb⟩; refine ⟨_, rfl, ?_⟩; have n0_ := Aside0.mk (Kd.R_below (by (with_reducible repeat (first | apply Kd.R_alloc | apply Kd.R_drewN | apply Kd.R_drew)); exact HO_7.out) hb); have n1_ := Aside0.mk (Kd.R_below (by (with_reducible repeat (first | apply Kd.R_alloc | apply Kd.R_drewN | apply Kd.R_drew)); exact HO_15.out) hb); have n2_ := Aside0.mk (below_step (by repeat (first | (with_reducible first | exact HB.out | apply below_alloc | apply pw_below_drewN | apply below_drew1) | exact HB.out)) hb); clear HO_7; clear HO_15; clear HB; have HO_7 := n0_; have HO_15 := n1_; have HB := n2_; clear n0_ n1_ n2_; (try clear hb); (try clear hb2); (try clear hk); (try clear hi)))
                   go_ret
                   exact ⟨by first | rfl | (simp [errW_none, errW_some] <;> rfl) | (simp [*, errW_none, errW_some] <;> rfl), by repeat (first | (with_reducible first | exact HB.out | apply below_alloc | apply pw_below_drewN | apply below_drew1) | exact HB.out)⟩
                 ·rw [if_neg c44] at H
                  exact absurd H (by simp)
                ·rw [if_neg c43] at H
                 exact absurd H (by simp)
               ·rw [if_neg c42] at H
                exact absurd H (by simp)
              ·rw [if_neg c41] at H
               exact absurd H (by simp)
             ·rw [if_neg c40] at H
              have c40b0 : decide (x89_4 < (l1.length : Int)) = false := decide_eq_false c40
              clear c40
              have H' := Aside0.mk H
              clear H
              go_wp2
              go_loopg [102] k4 (fun kq v102 w' => ∃ (x102_5 : Int), v102 = .int .i64 x102_5 ∧ Aside0 (semigrouplaw14_MultCloses.l2 kq t689 t671 (t671.length : Int) x102_5 = some r) ∧ Aside0 (kq ≤ k4) ∧ Aside0 (Kd.R Kd.bool 4 w' w.heap.size (fun _ => True) v690 t689) ∧ Aside0 (Kd.R (Kd.int .i64) 3 w' w.heap.size (fun _ => True) (.slice Ao16 t671.length co16) t671) ∧ Aside0 (Below w.heap.size w w'))
              case atStart => exact ⟨(0), (by first | rfl | (simp; done) | (simp [*]; done)), H', ⟨Nat.le_refl _⟩, ⟨by (with_reducible repeat (first | apply Kd.R_alloc | apply Kd.R_drewN | apply Kd.R_drew)); exact HO_15.out⟩, ⟨by (with_reducible repeat (first | apply Kd.R_alloc | apply Kd.R_drewN | apply Kd.R_drew)); exact HO_7.out⟩, ⟨by repeat (first | (with_reducible first | exact HB.out | apply below_alloc | apply pw_below_drewN | apply below_drew1) | exact HB.out)⟩⟩
              case round =>
               clear H'
               try clear c1
               try clear c2
               try clear p2
               try clear c3
               try clear q3
               try clear c4
               try clear q4
               try clear c5
               try clear c6
               try clear p6
               try clear q6
               try clear hx6
               try clear c8
               try clear c9
               try clear c13
               try clear c16
               try clear c18
               try clear c18b0
               try clear c18b1
               try clear c20
               try clear c20b0
               try clear c20b1
               try clear c23
               try clear c26
               try clear c26b0
               try clear c27
               try clear c27b0
               try clear c28
               try clear c28b0
               try clear c29
               try clear c29b0
               try clear c30
               try clear c30b0
               try clear q31
               try clear c32
               try clear c36
               try clear c36b0
               try clear c36b1
               try clear c40
               try clear c40b0
               try clear c41
               try clear c41b0
               try clear c42
               try clear c42b0
               try clear c43
               try clear c43b0
               try clear c44
               try clear c44b0
               try clear q45
               try clear c46
               try clear hx682_0
               try clear hx683_0
               try clear hx692_0
               try clear hx693_0
               try clear p2
               try clear p6
               try clear p682
               try clear p683
               try clear p692
               try clear p693
               try clear q3
               try clear q31
               try clear q6
               try clear q682
               try clear q683
               try clear q692
               try clear q693
               obtain ⟨x102_5, rfl, HA, HK5, HO_15, HO_100, HB⟩ := hrel
               cases gk with
               | zero => exact absurd HA.out (by simp [semigrouplaw14_MultCloses.l2])
               | succ k5 =>
                have H := HA.out
                clear HA
                simp only [semigrouplaw14_MultCloses.l2] at H
                by_cases c51 : x102_5 < (t671.length : Int)
                ·rw [if_pos c51] at H
                 have c51b0 : decide (x102_5 < (t671.length : Int)) = true := decide_eq_true c51
                 clear c51
                 by_cases c52 : 0 ≤ x102_5
                 ·rw [if_pos c52] at H
                  have c52b0 : decide (0 ≤ x102_5) = true := decide_eq_true c52
                  clear c52
                  by_cases c53 : x102_5 < (t671.length : Int)
                  ·rw [if_pos c53] at H
                   have c53b0 : decide (x102_5 < (t671.length : Int)) = true := decide_eq_true c53
                   clear c53
                   by_cases c54 : 0 ≤ (rd t671 x102_5)
                   ·rw [if_pos c54] at H
                    have c54b0 : decide (0 ≤ (rd t671 x102_5)) = true := decide_eq_true c54
                    clear c54
                    by_cases c55 : (rd t671 x102_5) < (t689.length : Int)
                    ·rw [if_pos c55] at H
                     have c55b0 : decide ((rd t671 x102_5) < (t689.length : Int)) = true := decide_eq_true c55
                     clear c55
                     obtain ⟨bq56, hbq56⟩ : ∃ b_ : Bool, b_ = (rdOf false t689 (rd t671 x102_5)) := ⟨_, rfl⟩
                     replace H : (if (bq56 = true) then (semigrouplaw14_MultCloses.l2 k5 t689 t671 (t671.length : Int) (wrap64 (x102_5 + 1))) else (some false)) = some r := by rw [← hbq56] at H; exact H
                     have Nbq56 := Aside0.mk hbq56
                     clear hbq56
                     by_cases c57 : (bq56 = true)
                     ·subst c57
                      have H1 : (semigrouplaw14_MultCloses.l2 k5 t689 t671 (t671.length : Int) (wrap64 (x102_5 + 1))) = some r := by rw [if_pos rfl] at H; exact H
                      clear H
                      have H := H1
                      clear H1
                      have H' := Aside0.mk H
                      clear H
                      have p695 : 0 ≤ (x102_5 : Int) := of_decide_eq_true (by first | (with_reducible assumption) | assumption)
                      have q695 : x102_5 < (t671.length : Int) := of_decide_eq_true (by first | (with_reducible assumption) | assumption)
                      obtain ⟨ad695, e695, hx695_0⟩ := Kd.at_int (Kd.R_reads' HO_100.out).2.2 x102_5 p695 q695
                      cases e695
                      replace p695 := eq_true p695
                      replace q695 := eq_true q695
                      obtain ⟨Ao58, co58, eo58⟩ := Kd.R_slice HO_15.out
                      subst eo58
                      have p696 : 0 ≤ ((rd t671 x102_5) : Int) := of_decide_eq_true (by first | (with_reducible assumption) | assumption)
                      have q696 : (rd t671 x102_5) < (t689.length : Int) := of_decide_eq_true (by first | (with_reducible assumption) | assumption)
                      obtain ⟨ad696, e696, hx696_0⟩ := Kd.at_bool (Kd.R_reads' HO_15.out).2.2 (rd t671 x102_5) p696 q696
                      (try rw [← Nbq56.out] at hx696_0)
                      cases e696
                      replace p696 := eq_true p696
                      replace q696 := eq_true q696
                      go_wp2
                      go_roundg k5
                      case measure => have := HJ3.out; have := HJ13.out; have := HK3.out; have := HK4.out; have := HK5.out; omega
                      case rel => exact ⟨(wrap64 (x102_5 + 1)), (by first | rfl | (simp; done) | (simp [*]; done)), H', ⟨by have := HJ3.out; have := HJ13.out; have := HK3.out; have := HK4.out; have := HK5.out; omega⟩, ⟨by (with_reducible repeat (first | apply Kd.R_alloc | apply Kd.R_drewN | apply Kd.R_drew)); exact HO_15.out⟩, ⟨by (with_reducible repeat (first | apply Kd.R_alloc | apply Kd.R_drewN | apply Kd.R_drew)); exact HO_100.out⟩, ⟨by repeat (first | (with_reducible first | exact HB.out | apply below_alloc | apply pw_below_drewN | apply below_drew1) | exact HB.out)⟩⟩
                     ·replace c57 := Bool.eq_false_iff.mpr c57
                      subst c57
                      have H1 : (some false) = some r := by rw [if_neg (show ¬ (false = true) by decide)] at H; exact H
                      clear H
                      have H := H1
                      clear H1
                      obtain rfl := Option.some.inj H
                      have p695 : 0 ≤ (x102_5 : Int) := of_decide_eq_true (by first | (with_reducible assumption) | assumption)
                      have q695 : x102_5 < (t671.length : Int) := of_decide_eq_true (by first | (with_reducible assumption) | assumption)
                      obtain ⟨ad695, e695, hx695_0⟩ := Kd.at_int (Kd.R_reads' HO_100.out).2.2 x102_5 p695 q695
                      cases e695
                      replace p695 := eq_true p695
                      replace q695 := eq_true q695
                      obtain ⟨Ao59, co59, eo59⟩ := Kd.R_slice HO_15.out
                      subst eo59
                      have p696 : 0 ≤ ((rd t671 x102_5) : Int) := of_decide_eq_true (by first | (with_reducible assumption) | assumption)
                      have q696 : (rd t671 x102_5) < (t689.length : Int) := of_decide_eq_true (by first | (with_reducible assumption) | assumption)
                      obtain ⟨ad696, e696, hx696_0⟩ := Kd.at_bool (Kd.R_reads' HO_15.out).2.2 (rd t671 x102_5) p696 q696
                      (try rw [← Nbq56.out] at hx696_0)
                      cases e696
                      replace p696 := eq_true p696
                      replace q696 := eq_true q696
                      go_wp2
                      go_ret
                      exact ⟨by first | rfl | (simp [errW_none, errW_some] <;> rfl) | (simp [*, errW_none, errW_some] <;> rfl), by repeat (first | (with_reducible first | exact HB.out | apply below_alloc | apply pw_below_drewN | apply below_drew1) | exact HB.out)⟩
                    ·rw [if_neg c55] at H
                     exact absurd H (by simp)
                   ·rw [if_neg c54] at H
                    exact absurd H (by simp)
                  ·rw [if_neg c53] at H
                   exact absurd H (by simp)
                 ·rw [if_neg c52] at H
                  exact absurd H (by simp)
                ·rw [if_neg c51] at H
                 have c51b0 : decide (x102_5 < (t671.length : Int)) = false := decide_eq_false c51
                 clear c51
                 replace H := Option.bind_eq_some_iff.mp H
                 obtain ⟨t697, A600, H⟩ := H
                 replace H : (some t697) = some r := H
                 have A60 := Aside0.mk A600
                 clear A600
                 obtain rfl := Option.some.inj H
                 go_wp2_with (first | ((with_reducible refine gate_callee (f := 16) rfl ?_); refine goesL_ (some 112) rfl rfl Try.func16 (by kernel_rfl) rfl #[] rfl (by (try simp only [List.map_toArray, List.map_cons, List.map_nil]); first | done | rfl | (simp only [List.length_drop, List.length_take]; rfl)) ?_; (with_reducible refine (semigrouplaw14_awake.calls k5  t697 _ A60.out).mono ?_); rintro e w61 ⟨rfl, hb⟩; refine ⟨_, rfl, ?_⟩; have n0_ := Aside0.mk (Kd.R_below (by (with_reducible repeat (first | apply Kd.R_alloc | apply Kd.R_drewN | apply Kd.R_drew)); exact HO_15.out) hb); have n1_ := Aside0.mk (Kd.R_below (by (with_reducible repeat (first | apply Kd.R_alloc | apply Kd.R_drewN | apply Kd.R_drew)); exact HO_100.out) hb); have n2_ := Aside0.mk (below_step (by repeat (first | (with_reducible first | exact HB.out | apply below_alloc | apply pw_below_drewN | apply below_drew1) | exact HB.out)) hb); clear HO_15; clear HO_100; clear HB; have HO_15 := n0_; have HO_100 := n1_; have HB := n2_; clear n0_ n1_ n2_; (try clear hb); (try clear hb2); (try clear hk); (try clear hi)))
                 go_ret
                 exact ⟨by first | rfl | (simp [errW_none, errW_some] <;> rfl) | (simp [*, errW_none, errW_some] <;> rfl), by repeat (first | (with_reducible first | exact HB.out | apply below_alloc | apply pw_below_drewN | apply below_drew1) | exact HB.out)⟩
          ·rw [if_neg c36] at H
           have c36b0 : (t685 == 0) = false := beq_eq_false_iff_ne.mpr c36
           have c36b1 : (t685 != 0) = true := bne_iff_ne.mpr c36
           replace H := Option.bind_eq_some_iff.mp H
           obtain ⟨t688, A620, H⟩ := H
           replace H : (some t688) = some r := H
           have A62 := Aside0.mk A620
           clear A620
           obtain rfl := Option.some.inj H
           go_wp2_with (first | ((with_reducible refine gate_callee (f := 52) rfl ?_); refine goesL_ (some 77) rfl rfl Try.func52 (by kernel_rfl) rfl #[.slice A0 l0.length c0, .slice A2 l2.length c2] rfl (by (try simp only [List.map_toArray, List.map_cons, List.map_nil]); first | done | rfl | (simp only [List.length_drop, List.length_take]; rfl)) ?_; (with_reducible refine (mult_Sub.calls k3 _ _ l0 _ _ l2 t684 t685 _ ?side1 ?side2 ?side3 ?side4 A35.out).mono ?_); (case side1 => repeat (first | exact (Kd.C_below HR0.out HB.out) | (with_reducible refine Kd.C_alloc ?_ _) | (with_reducible refine Kd.C_drewN ?_ _) | (with_reducible refine Kd.C_drew ?_))); (case side2 => exact HC0.out); (case side3 => repeat (first | exact (Kd.C_below HR2.out HB.out) | (with_reducible refine Kd.C_alloc ?_ _) | (with_reducible refine Kd.C_drewN ?_ _) | (with_reducible refine Kd.C_drew ?_))); (case side4 => exact HC2.out); rintro e w63 ⟨v686, rfl, ho0, hb⟩; refine ⟨_, rfl, ?_⟩; have n0_ := Aside0.mk (Kd.R_below (by (with_reducible repeat (first | apply Kd.R_alloc | apply Kd.R_drewN | apply Kd.R_drew)); exact HO_7.out) hb); have n1_ := Aside0.mk (Kd.R_below (by (with_reducible repeat (first | apply Kd.R_alloc | apply Kd.R_drewN | apply Kd.R_drew)); exact HO_10.out) hb); have n2_ := Aside0.mk (Kd.S_lower (Kd.S_new' ho0 (Kd.R_lt (by (with_reducible repeat (first | apply Kd.R_alloc | apply Kd.R_drewN | apply Kd.R_drew)); exact HO_7.out))) (below_size (by repeat (first | (with_reducible first | exact HB.out | apply below_alloc | apply pw_below_drewN | apply below_drew1) | exact HB.out)))); have n3_ := Aside0.mk (below_step (by repeat (first | (with_reducible first | exact HB.out | apply below_alloc | apply pw_below_drewN | apply below_drew1) | exact HB.out)) hb); clear HO_7; clear HO_10; clear HB; have HO_7 := n0_; have HO_10 := n1_; have HO687 := n2_; have HB := n3_; clear n0_ n1_ n2_ n3_; (try clear hb); (try clear hb2); (try clear hk); (try clear hi); (try clear ho0)) | ((with_reducible refine gate_callee (f := 16) rfl ?_); refine goesL_ (some 82) rfl rfl Try.func16 (by kernel_rfl) rfl #[] rfl (by (try simp only [List.map_toArray, List.map_cons, List.map_nil]); first | done | rfl | (simp only [List.length_drop, List.length_take]; rfl)) ?_; (with_reducible refine (semigrouplaw14_awake.calls k3  t688 _ A62.out).mono ?_); rintro e w64 ⟨rfl, hb⟩; refine ⟨_, rfl, ?_⟩; have n0_ := Aside0.mk (Kd.R_below (by (with_reducible repeat (first | apply Kd.R_alloc | apply Kd.R_drewN | apply Kd.R_drew)); exact HO_7.out) hb); have n1_ := Aside0.mk (Kd.R_below (by (with_reducible repeat (first | apply Kd.R_alloc | apply Kd.R_drewN | apply Kd.R_drew)); exact HO_10.out) hb); have n2_ := Aside0.mk (Kd.S_below (by (with_reducible repeat (first | apply Kd.S_alloc | apply Kd.S_drewN | apply Kd.S_drew)); exact HO687.out) hb); have n3_ := Aside0.mk (below_step (by repeat (first | (with_reducible first | exact HB.out | apply below_alloc | apply pw_below_drewN | apply below_drew1) | exact HB.out)) hb); clear HO_7; clear HO_10; clear HO687; clear HB; have HO_7 := n0_; have HO_10 := n1_; have HO687 := n2_; have HB := n3_; clear n0_ n1_ n2_ n3_; (try clear hb); (try clear hb2); (try clear hk); (try clear hi)))
           go_ret
           exact ⟨by first | rfl | (simp [errW_none, errW_some] <;> rfl) | (simp [*, errW_none, errW_some] <;> rfl), by repeat (first | (with_reducible first | exact HB.out | apply below_alloc | apply pw_below_drewN | apply below_drew1) | exact HB.out)⟩


end Go.Proofs.Ytlhckcldeojfmaa.PAll
