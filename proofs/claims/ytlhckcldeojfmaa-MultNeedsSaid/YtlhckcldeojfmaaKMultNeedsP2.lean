-- printed for this claim out of the translation; Lean checks it
import Derived.Test.YtlhckcldeojfmaaKMultNeedsP1
namespace Go.Proofs.Ytlhckcldeojfmaa.PAll
open Go.RowKit Go.Proofs.YtlhckcldeojfmaaW.PrintWords Go.Proofs.YtlhckcldeojfmaaW.PrintLast Go.Proofs.YtlhckcldeojfmaaW.PrintMore
attribute [local go_sem] max2_int min2_int max_two min_two max_three min_three max_four min_four   -- for this text's walks alone
set_option linter.unusedVariables false
set_option linter.unusedSimpArgs false
/-! ### mult_Generators: function 55 -/
mutual
def mult_Generators.l0 : Nat → List (List Int) → List Int → List Bool → Int → Int → Option (List Int)
 | 0, _, _, _, _, _ => none
 | k + 1, x0, x3, x4, x15, x16 => if x16 < x15 then (if 0 ≤ x16 then (if x16 < (x4.length : Int) then (if rdOf false x4 x16 = true then (mult_Generators.l0 k x0 x3 x4 x15 (wrap64 (x16 + 1))) else (if x3.length < 17592186044416 then ((some (x3 ++ [x16] : List Int)).bind fun y703 => ((mult_generated.f x0 y703).bind fun t706 => (mult_Generators.l1 k x0 y703 x4 x15 x16 t706 (t706.length : Int) 0))) else (none))) else (none)) else (none)) else (some x3)
def mult_Generators.l1 : Nat → List (List Int) → List Int → List Bool → Int → Int → List Int → Int → Int → Option (List Int)
 | 0, _, _, _, _, _, _, _, _ => none
 | k + 1, x0, x3, x4, x15, x16, x29, x30, x31 => if x31 < x30 then (if 0 ≤ x31 then (if x31 < (x29.length : Int) then (if 0 ≤ (rd x29 x31) then (if (rd x29 x31) < (x4.length : Int) then (mult_Generators.l1 k x0 x3 (x4.set ((rd x29 x31) : Int).toNat true) x15 x16 x29 x30 (wrap64 (x31 + 1))) else (none)) else (none)) else (none)) else (none)) else (mult_Generators.l0 k x0 x3 x4 x15 (wrap64 (x16 + 1)))
end
def mult_Generators.f (k : Nat) (l0 : List (List Int)) : Option (List Int) := (mult_Validate.f k l0).bind fun t698 => (if t698 = 0 then (if 0 ≤ (l0.length : Int) then (if ((l0.length : Int) : Int).toNat ≤ 281474976710656 then (mult_Generators.l0 k l0 ([] : List Int) (List.replicate ((l0.length : Int) : Int).toNat false) (l0.length : Int) 0) else (none)) else (none)) else (some ([] : List Int)))
theorem mult_Generators.mono_l : ∀ k, (∀ y0 y1 y2 y3 y4, LeO (mult_Generators.l0 k y0 y1 y2 y3 y4) (mult_Generators.l0 (k + 1) y0 y1 y2 y3 y4)) ∧ (∀ y0 y1 y2 y3 y4 y5 y6 y7, LeO (mult_Generators.l1 k y0 y1 y2 y3 y4 y5 y6 y7) (mult_Generators.l1 (k + 1) y0 y1 y2 y3 y4 y5 y6 y7))
 | 0 => ⟨fun _ _ _ _ _ r h => by simp [mult_Generators.l0] at h, fun _ _ _ _ _ _ _ _ r h => by simp [mult_Generators.l1] at h⟩
 | k + 1 => by
  obtain ⟨ih0, ih1⟩ := mult_Generators.mono_l k
  refine ⟨?_, ?_⟩
  ·intro y0 y1 y2 y3 y4
   unfold mult_Generators.l0
   repeat' first
   | (with_reducible exact ih0 _ _ _ _ _)
   | (with_reducible exact ih1 _ _ _ _ _ _ _ _)
   | (with_reducible exact mult_Validate.mono _ _)
   | (with_reducible exact LeO.refl _)
   | (with_reducible exact LeO.none _)
   | (with_reducible refine LeO.ite ?_ ?_)
   | (with_reducible refine LeO.bind ?_ (fun _ => ?_))
   | exact ih0 _ _ _ _ _
   | exact ih1 _ _ _ _ _ _ _ _
   | exact mult_Validate.mono _ _
   | exact LeO.none _
   | refine LeO.ite ?_ ?_
   | refine LeO.bind ?_ (fun _ => ?_)
  ·intro y0 y1 y2 y3 y4 y5 y6 y7
   unfold mult_Generators.l1
   repeat' first
   | (with_reducible exact ih0 _ _ _ _ _)
   | (with_reducible exact ih1 _ _ _ _ _ _ _ _)
   | (with_reducible exact mult_Validate.mono _ _)
   | (with_reducible exact LeO.refl _)
   | (with_reducible exact LeO.none _)
   | (with_reducible refine LeO.ite ?_ ?_)
   | (with_reducible refine LeO.bind ?_ (fun _ => ?_))
   | exact ih0 _ _ _ _ _
   | exact ih1 _ _ _ _ _ _ _ _
   | exact mult_Validate.mono _ _
   | exact LeO.none _
   | refine LeO.ite ?_ ?_
   | refine LeO.bind ?_ (fun _ => ?_)
theorem mult_Generators.mono : ∀ a0 k, LeO (mult_Generators.f k a0) (mult_Generators.f (k + 1) a0) := by
 intro a0 k
 obtain ⟨ih0, ih1⟩ := mult_Generators.mono_l k
 unfold mult_Generators.f
 repeat' first
   | (with_reducible exact ih0 _ _ _ _ _)
   | (with_reducible exact ih1 _ _ _ _ _ _ _ _)
   | (with_reducible exact mult_Validate.mono _ _)
   | (with_reducible exact LeO.refl _)
   | (with_reducible exact LeO.none _)
   | (with_reducible refine LeO.ite ?_ ?_)
   | (with_reducible refine LeO.bind ?_ (fun _ => ?_))
   | exact ih0 _ _ _ _ _
   | exact ih1 _ _ _ _ _ _ _ _
   | exact mult_Validate.mono _ _
   | exact LeO.none _
   | refine LeO.ite ?_ ?_
   | refine LeO.bind ?_ (fun _ => ?_)
set_option maxHeartbeats 8000000 in
set_option maxRecDepth 100000 in
theorem mult_Generators.calls (k : Nat) (A0 : Option Addr) (c0 : Nat) (l0 : List (List Int)) (r : List Int) (w : World) (hr0 : Kd.C (Kd.slice 3 (Kd.int .i64)) w A0 l0.length l0) (hc0 : l0.length ≤ c0) (h : mult_Generators.f k l0 = some r) :
  Calls Try.prog 55 #[.slice A0 l0.length c0] w fun e w' => ∃ v0_ : Value, e = .returned (v0_) ∧ Kd.R (Kd.int .i64) 3 w' w.heap.size (fun _ => True) v0_ r ∧ Below w.heap.size w w' := by
 have HR0 := Aside0.mk hr0
 have HC0 := Aside0.mk hc0
 (try clear hr0); (try clear hc0)
 have HB := Aside0.mk (Below.refl w.heap.size w)
 have H : ((mult_Validate.f k l0).bind fun t698 => (if t698 = 0 then (if 0 ≤ (l0.length : Int) then (if ((l0.length : Int) : Int).toNat ≤ 281474976710656 then (mult_Generators.l0 k l0 ([] : List Int) (List.replicate ((l0.length : Int) : Int).toNat false) (l0.length : Int) 0) else (none)) else (none)) else (some ([] : List Int)))) = some r := h
 clear h
 replace H := Option.bind_eq_some_iff.mp H
 obtain ⟨t698, A20, H⟩ := H
 replace H : (if t698 = 0 then (if 0 ≤ (l0.length : Int) then (if ((l0.length : Int) : Int).toNat ≤ 281474976710656 then (mult_Generators.l0 k l0 ([] : List Int) (List.replicate ((l0.length : Int) : Int).toNat false) (l0.length : Int) 0) else (none)) else (none)) else (some ([] : List Int))) = some r := H
 have A2 := Aside0.mk A20
 clear A20
 by_cases c3 : t698 = 0
 ·rw [if_pos c3] at H
  have c3b0 : (t698 == 0) = true := beq_iff_eq.mpr c3
  have c3b1 : (t698 != 0) = false := bne_eq_false_iff_eq.mpr c3
  clear c3
  by_cases c4 : 0 ≤ (l0.length : Int)
  ·rw [if_pos c4] at H
   have c4b0 := eq_true c4
   have c4b1 : decide (0 ≤ (l0.length : Int)) = true := decide_eq_true c4
   clear c4
   by_cases c5 : ((l0.length : Int) : Int).toNat ≤ 281474976710656
   ·rw [if_pos c5] at H
    have c5b0 := eq_true c5
    have c5b1 : decide (((l0.length : Int) : Int).toNat ≤ 281474976710656) = true := decide_eq_true c5
    clear c5
    obtain ⟨y699, hy699⟩ : ∃ y_ : List Bool, y_ = (List.replicate ((l0.length : Int) : Int).toNat false) := ⟨_, rfl⟩
    replace H : (mult_Generators.l0 k l0 ([] : List Int) y699 (l0.length : Int) 0) = some r := by first | (rw [hy699]; with_reducible exact H) | (have H2_ := (Option.bind_some _ _).symm.trans H; rw [hy699]; with_reducible exact H2_) | (have H2_ := (Option.bind_some _ _).symm.trans H; with_reducible exact H2_) | with_reducible exact H | (rw [hy699]; exact H) | exact H
    have Ny699 := Aside0.mk hy699
    clear hy699
    have H' := Aside0.mk H
    clear H
    go_enter Try.func55, Try.ntmps55
    go_wp2_with (first | ((with_reducible refine gate_callee (f := 19) rfl ?_); refine goesL_ (some 9) rfl rfl Try.func19 (by kernel_rfl) rfl #[.slice A0 l0.length c0] rfl (by (try simp only [List.map_toArray, List.map_cons, List.map_nil]); first | done | rfl | (simp only [List.length_drop, List.length_take]; rfl)) ?_; (with_reducible refine (mult_Validate.calls k _ _ l0 t698 _ ?side1 ?side2 A2.out).mono ?_); (case side1 => repeat (first | exact HR0.out | (with_reducible refine Kd.C_alloc ?_ _) | (with_reducible refine Kd.C_drewN ?_ _) | (with_reducible refine Kd.C_drew ?_))); (case side2 => exact HC0.out); rintro e w' ⟨rfl, ⟨nd, rfl⟩⟩; refine ⟨_, rfl, ?_⟩) | ((with_reducible refine gate_dst (N := 13) rfl ?_); refine Kd.R_make Kd.bool _ 4 rfl (N := 13) rfl 54 _ _ rfl (l0.length : Int) rfl rfl Try.underlying54 (.bool false) 1 info4 rfl (by decide) (by omega) false (ok := fun _ => True) (okp := fun _ => True) rfl (fun _ hk => hk) trivial (of_decide_eq_true (by first | (with_reducible assumption) | assumption)) (Nat.le_trans (Nat.mul_le_mul_right _ (of_decide_eq_true (by first | (with_reducible assumption) | assumption) : (l0.length : Int).toNat ≤ 281474976710656)) (by omega)) (Below.refl _ _) (Nat.le_refl _) ?_; intro v700 w6 ho7 hb hg_ hnew_; (try clear hg_); (try clear hnew_); (first | rw [← Ny699.out] at ho7 | (simp only [Int.reduceToNat] at ho7; rw [← Ny699.out] at ho7)); have n0_ := Aside0.mk (Kd.R_lower ho7 (below_size (by repeat (first | (with_reducible first | exact HB.out | apply below_alloc | apply pw_below_drewN | apply below_drew1) | exact HB.out)))); have n1_ := Aside0.mk (below_step (by repeat (first | (with_reducible first | exact HB.out | apply below_alloc | apply pw_below_drewN | apply below_drew1) | exact HB.out)) hb); clear HB; have HO701 := n0_; have HB := n1_; clear n0_ n1_; (try clear hb); (try clear ho7)))
    go_loopg [3, 16] k (fun kq v3 v16 w' => ∃ (x3_1 : List Int) (x4_1 : List Bool) (x16_1 : Int), v16 = .int .i64 x16_1 ∧ Aside0 (mult_Generators.l0 kq l0 x3_1 x4_1 (l0.length : Int) x16_1 = some r) ∧ Aside0 (kq ≤ k) ∧ Aside0 (Kd.R (Kd.int .i64) 3 w' w.heap.size (fun _ => True) v3 x3_1) ∧ Aside0 (Kd.R Kd.bool 4 w' w.heap.size (fun _ => True) v700 x4_1) ∧ Aside0 (Below w.heap.size w w'))
    case atStart => exact ⟨(([] : List Int)), (y699), (0), (by first | rfl | (simp; done) | (simp [*]; done)), H', ⟨Nat.le_refl _⟩, ⟨by first | exact Kd.R_nil _ _ _ _ _ | exact Kd.N_nil _ _ _ _ _ | exact Kd.V_nil _ _ _ _ _ | exact Kd.Q_nil _ _ _ _ _ | exact Kd.S_nil _ _ _ _ _⟩, ⟨by (with_reducible repeat (first | apply Kd.R_alloc | apply Kd.R_drewN | apply Kd.R_drew)); exact HO701.out⟩, ⟨by repeat (first | (with_reducible first | exact HB.out | apply below_alloc | apply pw_below_drewN | apply below_drew1) | exact HB.out)⟩⟩
    case round =>
     clear H'
     try clear c1
     try clear p2
     try clear c3
     try clear c3b0
     try clear c3b1
     try clear c4
     try clear c4b0
     try clear c4b1
     try clear c5
     try clear c5b0
     try clear c5b1
     obtain ⟨x3_1, x4_1, x16_1, rfl, HA, HK1, HO_3, HO_4, HB⟩ := hrel
     cases gk with
     | zero => exact absurd HA.out (by simp [mult_Generators.l0])
     | succ k1 =>
      have H := HA.out
      clear HA
      simp only [mult_Generators.l0] at H
      by_cases c8 : x16_1 < (l0.length : Int)
      ·rw [if_pos c8] at H
       have c8b0 : decide (x16_1 < (l0.length : Int)) = true := decide_eq_true c8
       clear c8
       by_cases c9 : 0 ≤ x16_1
       ·rw [if_pos c9] at H
        have c9b0 : decide (0 ≤ x16_1) = true := decide_eq_true c9
        clear c9
        by_cases c10 : x16_1 < (x4_1.length : Int)
        ·rw [if_pos c10] at H
         have c10b0 : decide (x16_1 < (x4_1.length : Int)) = true := decide_eq_true c10
         clear c10
         obtain ⟨bq11, hbq11⟩ : ∃ b_ : Bool, b_ = (rdOf false x4_1 x16_1) := ⟨_, rfl⟩
         replace H : (if bq11 = true then (mult_Generators.l0 k1 l0 x3_1 x4_1 (l0.length : Int) (wrap64 (x16_1 + 1))) else (if x3_1.length < 17592186044416 then ((some (x3_1 ++ [x16_1] : List Int)).bind fun y703 => ((mult_generated.f l0 y703).bind fun t706 => (mult_Generators.l1 k1 l0 y703 x4_1 (l0.length : Int) x16_1 t706 (t706.length : Int) 0))) else (none))) = some r := by rw [← hbq11] at H; exact H
         have Nbq11 := Aside0.mk hbq11
         clear hbq11
         by_cases c12 : bq11 = true
         ·subst c12
          have H1 : (mult_Generators.l0 k1 l0 x3_1 x4_1 (l0.length : Int) (wrap64 (x16_1 + 1))) = some r := by rw [if_pos rfl] at H; exact H
          clear H
          have H := H1
          clear H1
          have H' := Aside0.mk H
          clear H
          obtain ⟨Ao13, co13, eo13⟩ := Kd.R_slice HO_4.out
          subst eo13
          have p702 : 0 ≤ (x16_1 : Int) := of_decide_eq_true (by first | (with_reducible assumption) | assumption)
          have q702 : x16_1 < (x4_1.length : Int) := of_decide_eq_true (by first | (with_reducible assumption) | assumption)
          obtain ⟨ad702, e702, hx702_0⟩ := Kd.at_bool (Kd.R_reads' HO_4.out).2.2 x16_1 p702 q702
          (try rw [← Nbq11.out] at hx702_0)
          cases e702
          replace p702 := eq_true p702
          replace q702 := eq_true q702
          go_wp2
          go_roundg k1
          case measure => have := HK1.out; omega
          case rel => exact ⟨(x3_1), (x4_1), (wrap64 (x16_1 + 1)), (by first | rfl | (simp; done) | (simp [*]; done)), H', ⟨by have := HK1.out; omega⟩, ⟨by (with_reducible repeat (first | apply Kd.R_alloc | apply Kd.R_drewN | apply Kd.R_drew)); exact HO_3.out⟩, ⟨by (with_reducible repeat (first | apply Kd.R_alloc | apply Kd.R_drewN | apply Kd.R_drew)); exact HO_4.out⟩, ⟨by repeat (first | (with_reducible first | exact HB.out | apply below_alloc | apply pw_below_drewN | apply below_drew1) | exact HB.out)⟩⟩
         ·replace c12 := Bool.eq_false_iff.mpr c12
          subst c12
          have H1 : (if x3_1.length < 17592186044416 then ((some (x3_1 ++ [x16_1] : List Int)).bind fun y703 => ((mult_generated.f l0 y703).bind fun t706 => (mult_Generators.l1 k1 l0 y703 x4_1 (l0.length : Int) x16_1 t706 (t706.length : Int) 0))) else (none)) = some r := by rw [if_neg (show ¬ (false = true) by decide)] at H; exact H
          clear H
          have H := H1
          clear H1
          by_cases c14 : x3_1.length < 17592186044416
          ·rw [if_pos c14] at H
           have LMc14 := Aside0.mk c14
           clear c14
           obtain ⟨y703, hy703⟩ : ∃ y_ : List Int, y_ = (x3_1 ++ [x16_1]) := ⟨_, rfl⟩
           replace H : ((mult_generated.f l0 y703).bind fun t706 => (mult_Generators.l1 k1 l0 y703 x4_1 (l0.length : Int) x16_1 t706 (t706.length : Int) 0)) = some r := by first | (rw [hy703]; with_reducible exact H) | (have H2_ := (Option.bind_some _ _).symm.trans H; rw [hy703]; with_reducible exact H2_) | (have H2_ := (Option.bind_some _ _).symm.trans H; with_reducible exact H2_) | with_reducible exact H | (rw [hy703]; exact H) | exact H
           have Ny703 := Aside0.mk hy703
           clear hy703
           replace H := Option.bind_eq_some_iff.mp H
           obtain ⟨t706, A150, H⟩ := H
           replace H : (mult_Generators.l1 k1 l0 y703 x4_1 (l0.length : Int) x16_1 t706 (t706.length : Int) 0) = some r := H
           have A15 := Aside0.mk A150
           clear A150
           have H' := Aside0.mk H
           clear H
           obtain ⟨Ao16, co16, eo16⟩ := Kd.R_slice HO_4.out
           subst eo16
           have p702 : 0 ≤ (x16_1 : Int) := of_decide_eq_true (by first | (with_reducible assumption) | assumption)
           have q702 : x16_1 < (x4_1.length : Int) := of_decide_eq_true (by first | (with_reducible assumption) | assumption)
           obtain ⟨ad702, e702, hx702_0⟩ := Kd.at_bool (Kd.R_reads' HO_4.out).2.2 x16_1 p702 q702
           (try rw [← Nbq11.out] at hx702_0)
           cases e702
           replace p702 := eq_true p702
           replace q702 := eq_true q702
           go_wp2_with (first | ((with_reducible refine gate_builtin (b := .append) (xs := #[.tmp 23, .tmp 25]) rfl ?_); at_builtin; refine Kd.R_append (Kd.int .i64) (w0 := w) w.heap.size rfl (.tmp 23) (.tmp 25) 30 3 (.int .i64 0) 8 rfl Try.underlying30 info3 rfl (by decide) (by omega) u3 x3_1 x16_1 [.int .i64 x16_1] (fun _ => True) (fun _ => False) rfl rfl ?aP (fun _ hk => hk.elim) ?aF ?aO ?aB ?aS ?aL ?_; (case aP => exact rfl); (case aB => exact (by repeat (first | (with_reducible first | exact HB.out | apply below_alloc | apply pw_below_drewN | apply below_drew1) | exact HB.out))); (case aF => exact (fun _ _ => trivial)); (case aO => exact (by (with_reducible repeat (first | apply Kd.R_alloc | apply Kd.R_drewN | apply Kd.R_drew)); exact HO_3.out)); (case aS => exact (below_size (by repeat (first | (with_reducible first | exact HB.out | apply below_alloc | apply pw_below_drewN | apply below_drew1) | exact HB.out)))); (case aL => have := LMc14.out; omega); intro v704 w17 ho hb hg hat; rw [← Ny703.out] at ho; have n0_ := Aside0.mk (Kd.R_over' (by (with_reducible repeat (first | apply Kd.R_alloc | apply Kd.R_drewN | apply Kd.R_drew)); exact HO_4.out) (Kd.R_typed (by (with_reducible repeat (first | apply Kd.R_alloc | apply Kd.R_drewN | apply Kd.R_drew)); exact HO_3.out)) (by decide) hg); have n1_ := Aside0.mk (hb); have n2_ := Aside0.mk (ho); clear HO_4; clear HB; clear HO_3; have HO_4 := n0_; have HB := n1_; have HO705 := n2_; clear n0_ n1_ n2_; (try clear ho); (try clear hb); (try clear hg); (try clear hat); obtain ⟨Ao18, co18, eo18⟩ := Kd.R_slice HO705.out; subst eo18) | ((with_reducible refine gate_callee (f := 74) rfl ?_); refine goesL_ (some 29) rfl rfl Try.func74 (by kernel_rfl) rfl #[.slice A0 l0.length c0, .slice Ao18 y703.length co18] rfl (by (try simp only [List.map_toArray, List.map_cons, List.map_nil]); first | done | rfl | (simp only [List.length_drop, List.length_take]; rfl)) ?_; (with_reducible refine (mult_generated.calls _ _ l0 _ _ y703 t706 _ ?side1 ?side2 ?side3 ?side4 A15.out).mono ?_); (case side1 => repeat (first | exact (Kd.C_below HR0.out HB.out) | (with_reducible refine Kd.C_alloc ?_ _) | (with_reducible refine Kd.C_drewN ?_ _) | (with_reducible refine Kd.C_drew ?_))); (case side2 => exact HC0.out); (case side3 => repeat (first | exact (Kd.R_reads' HO705.out).2.2 | (with_reducible refine Kd.C_alloc ?_ _) | (with_reducible refine Kd.C_drewN ?_ _) | (with_reducible refine Kd.C_drew ?_))); (case side4 => exact (Kd.R_reads' HO705.out).2.1); rintro e w19 ⟨v707, rfl, ho0, hb⟩; refine ⟨_, rfl, ?_⟩; have n0_ := Aside0.mk (Kd.R_below (by (with_reducible repeat (first | apply Kd.R_alloc | apply Kd.R_drewN | apply Kd.R_drew)); exact HO_4.out) hb); have n1_ := Aside0.mk (Kd.R_elder' (by (with_reducible repeat (first | apply Kd.R_alloc | apply Kd.R_drewN | apply Kd.R_drew)); exact HO705.out) (by first | exact Kd.N_base ho0 | exact Kd.S_base ho0 | exact Kd.R_base ho0) hb); have n2_ := Aside0.mk (Kd.R_lower (Kd.R_new' ho0 (Kd.R_lt (by (with_reducible repeat (first | apply Kd.R_alloc | apply Kd.R_drewN | apply Kd.R_drew)); exact HO705.out))) (below_size (by repeat (first | (with_reducible first | exact HB.out | apply below_alloc | apply pw_below_drewN | apply below_drew1) | exact HB.out)))); have n3_ := Aside0.mk (below_step (by repeat (first | (with_reducible first | exact HB.out | apply below_alloc | apply pw_below_drewN | apply below_drew1) | exact HB.out)) hb); clear HO_4; clear HO705; clear HB; have HO_4 := n0_; have HO705 := n1_; have HO708 := n2_; have HB := n3_; clear n0_ n1_ n2_ n3_; (try clear hb); (try clear hb2); (try clear hk); (try clear hi); (try clear ho0); obtain ⟨Ao20, co20, eo20⟩ := Kd.R_slice HO708.out; subst eo20))
           go_loopg [31] k1 (fun kq v31 w' => ∃ (x4_2 : List Bool) (x31_2 : Int), v31 = .int .i64 x31_2 ∧ Aside0 (mult_Generators.l1 kq l0 y703 x4_2 (l0.length : Int) x16_1 t706 (t706.length : Int) x31_2 = some r) ∧ Aside0 (kq ≤ k1) ∧ Aside0 (Kd.R (Kd.int .i64) 3 w' w.heap.size (fun k_ => some k_ ≠ ((.slice Ao20 t706.length co20) : Value).ownBlock) (.slice Ao18 y703.length co18) y703) ∧ Aside0 (Kd.R Kd.bool 4 w' w.heap.size (fun _ => True) (.slice (some ad702) x4_1.length co16) x4_2) ∧ Aside0 (Kd.R (Kd.int .i64) 3 w' w.heap.size (fun k_ => some k_ ≠ ((.slice Ao18 y703.length co18) : Value).ownBlock) (.slice Ao20 t706.length co20) t706) ∧ Aside0 (Below w.heap.size w w'))
           case atStart => exact ⟨(x4_1), (0), (by first | rfl | (simp; done) | (simp [*]; done)), H', ⟨Nat.le_refl _⟩, ⟨by (with_reducible repeat (first | apply Kd.R_alloc | apply Kd.R_drewN | apply Kd.R_drew)); exact Kd.R_mono HO705.out (fun _ hk => hk.2)⟩, ⟨by (with_reducible repeat (first | apply Kd.R_alloc | apply Kd.R_drewN | apply Kd.R_drew)); exact HO_4.out⟩, ⟨by (with_reducible repeat (first | apply Kd.R_alloc | apply Kd.R_drewN | apply Kd.R_drew)); exact Kd.R_mono HO708.out (fun _ hk => hk.2)⟩, ⟨by repeat (first | (with_reducible first | exact HB.out | apply below_alloc | apply pw_below_drewN | apply below_drew1) | exact HB.out)⟩⟩
           case round =>
            clear H'
            try clear c1
            try clear q1
            try clear p2
            try clear c3
            try clear c3b0
            try clear c3b1
            try clear c4
            try clear c4b0
            try clear c4b1
            try clear c5
            try clear c5b0
            try clear c5b1
            try clear p6
            try clear c7
            try clear p7
            try clear q7
            try clear hx7
            try clear c8
            try clear c8b0
            try clear c9
            try clear c9b0
            try clear c10
            try clear c10b0
            try clear q11
            try clear c12
            try clear c14
            try clear c19
            try clear hx702_0
            try clear p2
            try clear p702
            try clear q702
            obtain ⟨x4_2, x31_2, rfl, HA, HK2, HO_3, HO_4, HO_29, HB⟩ := hrel
            have hl4_2 := (Kd.R_reads' HO_4.out).1
            rw [hl4_2] at HO_4
            (try simp only [hl4_2])
            (try simp only [hl4_2] at HO_3)
            (try simp only [hl4_2] at HO_29)
            cases gk with
            | zero => exact absurd HA.out (by simp [mult_Generators.l1])
            | succ k2 =>
             have H := HA.out
             clear HA
             simp only [mult_Generators.l1] at H
             by_cases c21 : x31_2 < (t706.length : Int)
             ·rw [if_pos c21] at H
              have c21b0 : decide (x31_2 < (t706.length : Int)) = true := decide_eq_true c21
              (try (have c21b0z := c21b0; simp only [hl4_2] at c21b0z))
              clear c21
              by_cases c22 : 0 ≤ x31_2
              ·rw [if_pos c22] at H
               have c22b0 : decide (0 ≤ x31_2) = true := decide_eq_true c22
               clear c22
               by_cases c23 : x31_2 < (t706.length : Int)
               ·rw [if_pos c23] at H
                have c23b0 : decide (x31_2 < (t706.length : Int)) = true := decide_eq_true c23
                (try (have c23b0z := c23b0; simp only [hl4_2] at c23b0z))
                clear c23
                by_cases c24 : 0 ≤ (rd t706 x31_2)
                ·rw [if_pos c24] at H
                 have c24b0 : decide (0 ≤ (rd t706 x31_2)) = true := decide_eq_true c24
                 clear c24
                 by_cases c25 : (rd t706 x31_2) < (x4_2.length : Int)
                 ·rw [if_pos c25] at H
                  have c25b0 : decide ((rd t706 x31_2) < (x4_2.length : Int)) = true := decide_eq_true c25
                  (try (have c25b0z := c25b0; simp only [hl4_2] at c25b0z))
                  clear c25
                  obtain ⟨y710, hy710⟩ : ∃ y_ : List Bool, y_ = (x4_2.set ((rd t706 x31_2) : Int).toNat true) := ⟨_, rfl⟩
                  replace H : (mult_Generators.l1 k2 l0 y703 y710 (l0.length : Int) x16_1 t706 (t706.length : Int) (wrap64 (x31_2 + 1))) = some r := by first | (rw [hy710]; with_reducible exact H) | (have H2_ := (Option.bind_some _ _).symm.trans H; rw [hy710]; with_reducible exact H2_) | (have H2_ := (Option.bind_some _ _).symm.trans H; with_reducible exact H2_) | with_reducible exact H | (rw [hy710]; exact H) | exact H
                  have Ny710 := Aside0.mk hy710
                  clear hy710
                  have H' := Aside0.mk H
                  clear H
                  have p709 : 0 ≤ (x31_2 : Int) := of_decide_eq_true (by first | (with_reducible assumption) | assumption)
                  have q709 : x31_2 < (t706.length : Int) := of_decide_eq_true (by first | (with_reducible assumption) | assumption)
                  obtain ⟨ad709, e709, hx709_0⟩ := Kd.at_int (Kd.R_reads' HO_29.out).2.2 x31_2 p709 q709
                  cases e709
                  replace p709 := eq_true p709
                  replace q709 := eq_true q709
                  have p26 : 0 ≤ ((rd t706 x31_2) : Int) := of_decide_eq_true (by first | (with_reducible assumption) | assumption)
                  have q26 : ((rd t706 x31_2) : Int) < ((x4_2.length : Int) : Int) := of_decide_eq_true (by first | (with_reducible assumption) | assumption)
                  obtain ⟨go26, co26, eo26, gb26, gl26, cl26, HG26⟩ := Kd.R_form HO_4.out (by omega)
                  (first | cases eo26 | (injection eo26 with ea_ en_ ec_; (first | subst ea_ | (injection ea_ with ea_; subst ea_)); subst ec_; clear en_))
                  have GB26 := Aside0.mk gb26
                  have GG26 := Aside0.mk HG26
                  (try clear gb26); (try clear gl26); (try clear HG26)
                  (first | simp only [add_plain] at hx702_0 | skip)
                  obtain ⟨hx26_0, hf26_0⟩ := Kd.R_celln false HO_4.out ((rd t706 x31_2) : Int) p26 q26
                  replace p26 := eq_true p26
                  replace q26 := eq_true q26
                  have HP27 := Kd.R_putg HO_4.out ((rd t706 x31_2) : Int) true
                  go_wp2_with (first | ((with_reducible refine gate_store (t := 4) (p := 37) rfl ?_); refine store_event (t := 4) (p := 37) (v := ?vo_w28) (w1 := (wr.setCell ⟨go26, ((rd t706 x31_2) : Int).toNat, none⟩ (.bool true))) ?hg ?ho ?hn ?hr ?_; (case ho => rfl); (case hg => rfl); (case hn => rfl); (case hr => first | (go_simp; done) | (go_simp; rfl)); intro w28 hw; have hg : wr.grownBy w28 (some go26) := (by rw [hw]; exact HP27.2); have hp_ : Kd.R Kd.bool 4 w28 w.heap.size (fun _ => True) (.slice (some ⟨go26, 0, none⟩) x4_2.length co16) y710 := (by rw [hw, Ny710.out]; exact HP27.1); clear HP27; have n0_ := Aside0.mk (Kd.R_over' (v := (.slice (some ⟨go26, 0, none⟩) x4_2.length co16)) (by (with_reducible repeat (first | apply Kd.R_alloc | apply Kd.R_drewN | apply Kd.R_drew)); exact HO_3.out) (Kd.R_typed HO_4.out) (by decide) hg); have n1_ := Aside0.mk (hp_); have n2_ := Aside0.mk (Kd.R_over' (v := (.slice (some ⟨go26, 0, none⟩) x4_2.length co16)) (by (with_reducible repeat (first | apply Kd.R_alloc | apply Kd.R_drewN | apply Kd.R_drew)); exact HO_29.out) (Kd.R_typed HO_4.out) (by decide) hg); have n3_ := Aside0.mk ((by rw [hw]; exact below_set (HB.out) GB26.out : Below w.heap.size w w28)); clear HO_3; clear HO_4; clear HO_29; clear HB; have HO_3 := n0_; have HO_4 := n1_; have HO_29 := n2_; have HB := n3_; clear n0_ n1_ n2_ n3_; (try clear hg); (try clear hw); (try clear hp_)))
                  (try simp only [← hl4_2])
                  go_roundg k2
                  case measure => have := HK1.out; have := HK2.out; omega
                  case rel => exact ⟨(y710), (wrap64 (x31_2 + 1)), (by first | rfl | (simp; done) | (simp [*]; done)), H', ⟨by have := HK1.out; have := HK2.out; omega⟩, ⟨by (try simp only [hl4_2]); (with_reducible repeat (first | apply Kd.R_alloc | apply Kd.R_drewN | apply Kd.R_drew)); exact HO_3.out⟩, ⟨by (try simp only [hl4_2]); (with_reducible repeat (first | apply Kd.R_alloc | apply Kd.R_drewN | apply Kd.R_drew)); exact HO_4.out⟩, ⟨by (try simp only [hl4_2]); (with_reducible repeat (first | apply Kd.R_alloc | apply Kd.R_drewN | apply Kd.R_drew)); exact HO_29.out⟩, ⟨by repeat (first | (with_reducible first | exact HB.out | apply below_alloc | apply pw_below_drewN | apply below_drew1) | exact HB.out)⟩⟩
                 ·rw [if_neg c25] at H
                  exact absurd H (by simp)
                ·rw [if_neg c24] at H
                 exact absurd H (by simp)
               ·rw [if_neg c23] at H
                exact absurd H (by simp)
              ·rw [if_neg c22] at H
               exact absurd H (by simp)
             ·rw [if_neg c21] at H
              have c21b0 : decide (x31_2 < (t706.length : Int)) = false := decide_eq_false c21
              (try (have c21b0z := c21b0; simp only [hl4_2] at c21b0z))
              clear c21
              have H' := Aside0.mk H
              clear H
              go_wp2
              (try simp only [← hl4_2])
              go_roundg k2
              case measure => have := HK1.out; have := HK2.out; omega
              case rel => exact ⟨(y703), (x4_2), (wrap64 (x16_1 + 1)), (by first | rfl | (simp; done) | (simp [*]; done)), H', ⟨by have := HK1.out; have := HK2.out; omega⟩, ⟨by (try simp only [hl4_2]); (with_reducible repeat (first | apply Kd.R_alloc | apply Kd.R_drewN | apply Kd.R_drew)); exact Kd.R_mono HO_3.out (fun _ hk => trivial)⟩, ⟨by (try simp only [hl4_2]); (with_reducible repeat (first | apply Kd.R_alloc | apply Kd.R_drewN | apply Kd.R_drew)); exact HO_4.out⟩, ⟨by repeat (first | (with_reducible first | exact HB.out | apply below_alloc | apply pw_below_drewN | apply below_drew1) | exact HB.out)⟩⟩
          ·rw [if_neg c14] at H
           exact absurd H (by simp)
        ·rw [if_neg c10] at H
         exact absurd H (by simp)
       ·rw [if_neg c9] at H
        exact absurd H (by simp)
      ·rw [if_neg c8] at H
       have c8b0 : decide (x16_1 < (l0.length : Int)) = false := decide_eq_false c8
       clear c8
       obtain rfl := Option.some.inj H
       go_wp2
       go_ret
       exact ⟨_, by first | rfl | (simp [errW_none, errW_some] <;> rfl) | (simp [*, errW_none, errW_some] <;> rfl), by (with_reducible repeat (first | apply Kd.R_alloc | apply Kd.R_drewN | apply Kd.R_drew)); exact HO_3.out, by repeat (first | (with_reducible first | exact HB.out | apply below_alloc | apply pw_below_drewN | apply below_drew1) | exact HB.out)⟩
   ·rw [if_neg c5] at H
    exact absurd H (by simp)
  ·rw [if_neg c4] at H
   exact absurd H (by simp)
 ·rw [if_neg c3] at H
  have c3b0 : (t698 == 0) = false := beq_eq_false_iff_ne.mpr c3
  have c3b1 : (t698 != 0) = true := bne_iff_ne.mpr c3
  obtain rfl := Option.some.inj H
  go_enter Try.func55, Try.ntmps55
  go_wp2_with (first | ((with_reducible refine gate_callee (f := 19) rfl ?_); refine goesL_ (some 9) rfl rfl Try.func19 (by kernel_rfl) rfl #[.slice A0 l0.length c0] rfl (by (try simp only [List.map_toArray, List.map_cons, List.map_nil]); first | done | rfl | (simp only [List.length_drop, List.length_take]; rfl)) ?_; (with_reducible refine (mult_Validate.calls k _ _ l0 t698 _ ?side1 ?side2 A2.out).mono ?_); (case side1 => repeat (first | exact HR0.out | (with_reducible refine Kd.C_alloc ?_ _) | (with_reducible refine Kd.C_drewN ?_ _) | (with_reducible refine Kd.C_drew ?_))); (case side2 => exact HC0.out); rintro e w' ⟨rfl, ⟨nd, rfl⟩⟩; refine ⟨_, rfl, ?_⟩))
  go_ret
  exact ⟨_, by first | rfl | (simp [errW_none, errW_some] <;> rfl) | (simp [*, errW_none, errW_some] <;> rfl), by first | exact Kd.R_nil _ _ _ _ _ | exact Kd.N_nil _ _ _ _ _ | exact Kd.V_nil _ _ _ _ _ | exact Kd.Q_nil _ _ _ _ _ | exact Kd.S_nil _ _ _ _ _, by repeat (first | (with_reducible first | exact HB.out | apply below_alloc | apply pw_below_drewN | apply below_drew1) | exact HB.out)⟩

/-! ### mult_Indecomposable: function 56 -/
mutual
def mult_Indecomposable.l0 : Nat → List Bool → List (List Int) → Int → Int → Option (List Int)
 | 0, _, _, _, _ => none
 | k + 1, x3, x17, x18, x19 => if x19 < x18 then (if 0 ≤ x19 then (if x19 < (x17.length : Int) then (mult_Indecomposable.l1 k x3 x17 x18 x19 (rd_L1 x17 x19) ((rd_L1 x17 x19).length : Int) 0) else (none)) else (none)) else (mult_Indecomposable.l2 k ([] : List Int) x3 (x3.length : Int) 0)
def mult_Indecomposable.l1 : Nat → List Bool → List (List Int) → Int → Int → List Int → Int → Int → Option (List Int)
 | 0, _, _, _, _, _, _, _ => none
 | k + 1, x3, x17, x18, x19, x23, x24, x25 => if x25 < x24 then (if 0 ≤ x25 then (if x25 < (x23.length : Int) then (if 0 ≤ (rd x23 x25) then (if (rd x23 x25) < (x3.length : Int) then (mult_Indecomposable.l1 k (x3.set ((rd x23 x25) : Int).toNat true) x17 x18 x19 x23 x24 (wrap64 (x25 + 1))) else (none)) else (none)) else (none)) else (none)) else (mult_Indecomposable.l0 k x3 x17 x18 (wrap64 (x19 + 1)))
def mult_Indecomposable.l2 : Nat → List Int → List Bool → Int → Int → Option (List Int)
 | 0, _, _, _, _ => none
 | k + 1, x8, x34, x35, x36 => if x36 < x35 then (if 0 ≤ x36 then (if x36 < (x34.length : Int) then (if rdOf false x34 x36 = true then (mult_Indecomposable.l2 k x8 x34 x35 (wrap64 (x36 + 1))) else (if x8.length < 17592186044416 then (mult_Indecomposable.l2 k (x8 ++ [x36]) x34 x35 (wrap64 (x36 + 1))) else (none))) else (none)) else (none)) else (some x8)
end
def mult_Indecomposable.f (k : Nat) (l0 : List (List Int)) : Option (List Int) := (mult_Validate.f k l0).bind fun t711 => (if t711 = 0 then (if 0 ≤ (l0.length : Int) then (if ((l0.length : Int) : Int).toNat ≤ 281474976710656 then (mult_Indecomposable.l0 k (List.replicate ((l0.length : Int) : Int).toNat false) l0 (l0.length : Int) 0) else (none)) else (none)) else (some ([] : List Int)))
theorem mult_Indecomposable.mono_l : ∀ k, (∀ y0 y1 y2 y3, LeO (mult_Indecomposable.l0 k y0 y1 y2 y3) (mult_Indecomposable.l0 (k + 1) y0 y1 y2 y3)) ∧ (∀ y0 y1 y2 y3 y4 y5 y6, LeO (mult_Indecomposable.l1 k y0 y1 y2 y3 y4 y5 y6) (mult_Indecomposable.l1 (k + 1) y0 y1 y2 y3 y4 y5 y6)) ∧ (∀ y0 y1 y2 y3, LeO (mult_Indecomposable.l2 k y0 y1 y2 y3) (mult_Indecomposable.l2 (k + 1) y0 y1 y2 y3))
 | 0 => ⟨fun _ _ _ _ r h => by simp [mult_Indecomposable.l0] at h, fun _ _ _ _ _ _ _ r h => by simp [mult_Indecomposable.l1] at h, fun _ _ _ _ r h => by simp [mult_Indecomposable.l2] at h⟩
 | k + 1 => by
  obtain ⟨ih0, ih1, ih2⟩ := mult_Indecomposable.mono_l k
  refine ⟨?_, ?_, ?_⟩
  ·intro y0 y1 y2 y3
   unfold mult_Indecomposable.l0
   repeat' first
   | (with_reducible exact ih0 _ _ _ _)
   | (with_reducible exact ih1 _ _ _ _ _ _ _)
   | (with_reducible exact ih2 _ _ _ _)
   | (with_reducible exact mult_Validate.mono _ _)
   | (with_reducible exact LeO.refl _)
   | (with_reducible exact LeO.none _)
   | (with_reducible refine LeO.ite ?_ ?_)
   | (with_reducible refine LeO.bind ?_ (fun _ => ?_))
   | exact ih0 _ _ _ _
   | exact ih1 _ _ _ _ _ _ _
   | exact ih2 _ _ _ _
   | exact mult_Validate.mono _ _
   | exact LeO.none _
   | refine LeO.ite ?_ ?_
   | refine LeO.bind ?_ (fun _ => ?_)
  ·intro y0 y1 y2 y3 y4 y5 y6
   unfold mult_Indecomposable.l1
   repeat' first
   | (with_reducible exact ih0 _ _ _ _)
   | (with_reducible exact ih1 _ _ _ _ _ _ _)
   | (with_reducible exact ih2 _ _ _ _)
   | (with_reducible exact mult_Validate.mono _ _)
   | (with_reducible exact LeO.refl _)
   | (with_reducible exact LeO.none _)
   | (with_reducible refine LeO.ite ?_ ?_)
   | (with_reducible refine LeO.bind ?_ (fun _ => ?_))
   | exact ih0 _ _ _ _
   | exact ih1 _ _ _ _ _ _ _
   | exact ih2 _ _ _ _
   | exact mult_Validate.mono _ _
   | exact LeO.none _
   | refine LeO.ite ?_ ?_
   | refine LeO.bind ?_ (fun _ => ?_)
  ·intro y0 y1 y2 y3
   unfold mult_Indecomposable.l2
   repeat' first
   | (with_reducible exact ih0 _ _ _ _)
   | (with_reducible exact ih1 _ _ _ _ _ _ _)
   | (with_reducible exact ih2 _ _ _ _)
   | (with_reducible exact mult_Validate.mono _ _)
   | (with_reducible exact LeO.refl _)
   | (with_reducible exact LeO.none _)
   | (with_reducible refine LeO.ite ?_ ?_)
   | (with_reducible refine LeO.bind ?_ (fun _ => ?_))
   | exact ih0 _ _ _ _
   | exact ih1 _ _ _ _ _ _ _
   | exact ih2 _ _ _ _
   | exact mult_Validate.mono _ _
   | exact LeO.none _
   | refine LeO.ite ?_ ?_
   | refine LeO.bind ?_ (fun _ => ?_)
theorem mult_Indecomposable.mono : ∀ a0 k, LeO (mult_Indecomposable.f k a0) (mult_Indecomposable.f (k + 1) a0) := by
 intro a0 k
 obtain ⟨ih0, ih1, ih2⟩ := mult_Indecomposable.mono_l k
 unfold mult_Indecomposable.f
 repeat' first
   | (with_reducible exact ih0 _ _ _ _)
   | (with_reducible exact ih1 _ _ _ _ _ _ _)
   | (with_reducible exact ih2 _ _ _ _)
   | (with_reducible exact mult_Validate.mono _ _)
   | (with_reducible exact LeO.refl _)
   | (with_reducible exact LeO.none _)
   | (with_reducible refine LeO.ite ?_ ?_)
   | (with_reducible refine LeO.bind ?_ (fun _ => ?_))
   | exact ih0 _ _ _ _
   | exact ih1 _ _ _ _ _ _ _
   | exact ih2 _ _ _ _
   | exact mult_Validate.mono _ _
   | exact LeO.none _
   | refine LeO.ite ?_ ?_
   | refine LeO.bind ?_ (fun _ => ?_)
set_option maxHeartbeats 8000000 in
set_option maxRecDepth 100000 in
theorem mult_Indecomposable.calls (k : Nat) (A0 : Option Addr) (c0 : Nat) (l0 : List (List Int)) (r : List Int) (w : World) (hr0 : Kd.C (Kd.slice 3 (Kd.int .i64)) w A0 l0.length l0) (hc0 : l0.length ≤ c0) (h : mult_Indecomposable.f k l0 = some r) :
  Calls Try.prog 56 #[.slice A0 l0.length c0] w fun e w' => ∃ v0_ : Value, e = .returned (v0_) ∧ Kd.R (Kd.int .i64) 3 w' w.heap.size (fun _ => True) v0_ r ∧ Below w.heap.size w w' := by
 have HR0 := Aside0.mk hr0
 have HC0 := Aside0.mk hc0
 (try clear hr0); (try clear hc0)
 have HB := Aside0.mk (Below.refl w.heap.size w)
 have H : ((mult_Validate.f k l0).bind fun t711 => (if t711 = 0 then (if 0 ≤ (l0.length : Int) then (if ((l0.length : Int) : Int).toNat ≤ 281474976710656 then (mult_Indecomposable.l0 k (List.replicate ((l0.length : Int) : Int).toNat false) l0 (l0.length : Int) 0) else (none)) else (none)) else (some ([] : List Int)))) = some r := h
 clear h
 replace H := Option.bind_eq_some_iff.mp H
 obtain ⟨t711, A20, H⟩ := H
 replace H : (if t711 = 0 then (if 0 ≤ (l0.length : Int) then (if ((l0.length : Int) : Int).toNat ≤ 281474976710656 then (mult_Indecomposable.l0 k (List.replicate ((l0.length : Int) : Int).toNat false) l0 (l0.length : Int) 0) else (none)) else (none)) else (some ([] : List Int))) = some r := H
 have A2 := Aside0.mk A20
 clear A20
 by_cases c3 : t711 = 0
 ·rw [if_pos c3] at H
  have c3b0 : (t711 == 0) = true := beq_iff_eq.mpr c3
  have c3b1 : (t711 != 0) = false := bne_eq_false_iff_eq.mpr c3
  clear c3
  by_cases c4 : 0 ≤ (l0.length : Int)
  ·rw [if_pos c4] at H
   have c4b0 := eq_true c4
   have c4b1 : decide (0 ≤ (l0.length : Int)) = true := decide_eq_true c4
   clear c4
   by_cases c5 : ((l0.length : Int) : Int).toNat ≤ 281474976710656
   ·rw [if_pos c5] at H
    have c5b0 := eq_true c5
    have c5b1 : decide (((l0.length : Int) : Int).toNat ≤ 281474976710656) = true := decide_eq_true c5
    clear c5
    obtain ⟨y712, hy712⟩ : ∃ y_ : List Bool, y_ = (List.replicate ((l0.length : Int) : Int).toNat false) := ⟨_, rfl⟩
    replace H : (mult_Indecomposable.l0 k y712 l0 (l0.length : Int) 0) = some r := by first | (rw [hy712]; with_reducible exact H) | (have H2_ := (Option.bind_some _ _).symm.trans H; rw [hy712]; with_reducible exact H2_) | (have H2_ := (Option.bind_some _ _).symm.trans H; with_reducible exact H2_) | with_reducible exact H | (rw [hy712]; exact H) | exact H
    have Ny712 := Aside0.mk hy712
    clear hy712
    have H' := Aside0.mk H
    clear H
    go_enter Try.func56, Try.ntmps56
    go_wp2_with (first | ((with_reducible refine gate_callee (f := 19) rfl ?_); refine goesL_ (some 12) rfl rfl Try.func19 (by kernel_rfl) rfl #[.slice A0 l0.length c0] rfl (by (try simp only [List.map_toArray, List.map_cons, List.map_nil]); first | done | rfl | (simp only [List.length_drop, List.length_take]; rfl)) ?_; (with_reducible refine (mult_Validate.calls k _ _ l0 t711 _ ?side1 ?side2 A2.out).mono ?_); (case side1 => repeat (first | exact HR0.out | (with_reducible refine Kd.C_alloc ?_ _) | (with_reducible refine Kd.C_drewN ?_ _) | (with_reducible refine Kd.C_drew ?_))); (case side2 => exact HC0.out); rintro e w' ⟨rfl, ⟨nd, rfl⟩⟩; refine ⟨_, rfl, ?_⟩) | ((with_reducible refine gate_dst (N := 16) rfl ?_); refine Kd.R_make Kd.bool _ 4 rfl (N := 16) rfl 54 _ _ rfl (l0.length : Int) rfl rfl Try.underlying54 (.bool false) 1 info4 rfl (by decide) (by omega) false (ok := fun _ => True) (okp := fun _ => True) rfl (fun _ hk => hk) trivial (of_decide_eq_true (by first | (with_reducible assumption) | assumption)) (Nat.le_trans (Nat.mul_le_mul_right _ (of_decide_eq_true (by first | (with_reducible assumption) | assumption) : (l0.length : Int).toNat ≤ 281474976710656)) (by omega)) (Below.refl _ _) (Nat.le_refl _) ?_; intro v713 w6 ho7 hb hg_ hnew_; (try clear hg_); (try clear hnew_); (first | rw [← Ny712.out] at ho7 | (simp only [Int.reduceToNat] at ho7; rw [← Ny712.out] at ho7)); have n0_ := Aside0.mk (Kd.R_lower ho7 (below_size (by repeat (first | (with_reducible first | exact HB.out | apply below_alloc | apply pw_below_drewN | apply below_drew1) | exact HB.out)))); have n1_ := Aside0.mk (below_step (by repeat (first | (with_reducible first | exact HB.out | apply below_alloc | apply pw_below_drewN | apply below_drew1) | exact HB.out)) hb); clear HB; have HO714 := n0_; have HB := n1_; clear n0_ n1_; (try clear hb); (try clear ho7)))
    go_loopg [19] k (fun kq v19 w' => ∃ (x3_1 : List Bool) (x19_1 : Int), v19 = .int .i64 x19_1 ∧ Aside0 (mult_Indecomposable.l0 kq x3_1 l0 (l0.length : Int) x19_1 = some r) ∧ Aside0 (kq ≤ k) ∧ Aside0 (Kd.R Kd.bool 4 w' w.heap.size (fun _ => True) v713 x3_1) ∧ Aside0 (Below w.heap.size w w'))
    case atStart => exact ⟨(y712), (0), (by first | rfl | (simp; done) | (simp [*]; done)), H', ⟨Nat.le_refl _⟩, ⟨by (with_reducible repeat (first | apply Kd.R_alloc | apply Kd.R_drewN | apply Kd.R_drew)); exact HO714.out⟩, ⟨by repeat (first | (with_reducible first | exact HB.out | apply below_alloc | apply pw_below_drewN | apply below_drew1) | exact HB.out)⟩⟩
    case round =>
     clear H'
     try clear c1
     try clear p2
     try clear c3
     try clear c3b0
     try clear c3b1
     try clear c4
     try clear c4b0
     try clear c4b1
     try clear c5
     try clear c5b0
     try clear c5b1
     obtain ⟨x3_1, x19_1, rfl, HA, HK1, HO_3, HB⟩ := hrel
     cases gk with
     | zero => exact absurd HA.out (by simp [mult_Indecomposable.l0])
     | succ k1 =>
      have H := HA.out
      clear HA
      simp only [mult_Indecomposable.l0] at H
      by_cases c8 : x19_1 < (l0.length : Int)
      ·rw [if_pos c8] at H
       have c8b0 : decide (x19_1 < (l0.length : Int)) = true := decide_eq_true c8
       clear c8
       by_cases c9 : 0 ≤ x19_1
       ·rw [if_pos c9] at H
        have c9b0 : decide (0 ≤ x19_1) = true := decide_eq_true c9
        clear c9
        by_cases c10 : x19_1 < (l0.length : Int)
        ·rw [if_pos c10] at H
         have c10b0 : decide (x19_1 < (l0.length : Int)) = true := decide_eq_true c10
         clear c10
         have H' := Aside0.mk H
         clear H
         have p715 : 0 ≤ (x19_1 : Int) := of_decide_eq_true (by first | (with_reducible assumption) | assumption)
         have q715 : x19_1 < (l0.length : Int) := of_decide_eq_true (by first | (with_reducible assumption) | assumption)
         obtain ⟨ad715, A715_0, c715_0, e715, hx715_0, hl715_0, hi715_0⟩ := at_L1 HR0.out x19_1 p715 q715
         cases e715
         replace hx715_0 := (HB.out.cell (World.block_lt_of_cell? w _ hx715_0)).trans hx715_0
         have HR715_0 := Aside0.mk hi715_0
         have HC715_0 := Aside0.mk hl715_0
         (try clear hi715_0); (try clear hl715_0)
         replace p715 := eq_true p715
         replace q715 := eq_true q715
         go_wp2
         go_loopg [25] k1 (fun kq v25 w' => ∃ (x3_2 : List Bool) (x25_2 : Int), v25 = .int .i64 x25_2 ∧ Aside0 (mult_Indecomposable.l1 kq x3_2 l0 (l0.length : Int) x19_1 (rd_L1 l0 x19_1) ((rd_L1 l0 x19_1).length : Int) x25_2 = some r) ∧ Aside0 (kq ≤ k1) ∧ Aside0 (Kd.R Kd.bool 4 w' w.heap.size (fun _ => True) v713 x3_2) ∧ Aside0 (Below w.heap.size w w'))
         case atStart => exact ⟨(x3_1), (0), (by first | rfl | (simp; done) | (simp [*]; done)), H', ⟨Nat.le_refl _⟩, ⟨by (with_reducible repeat (first | apply Kd.R_alloc | apply Kd.R_drewN | apply Kd.R_drew)); exact HO_3.out⟩, ⟨by repeat (first | (with_reducible first | exact HB.out | apply below_alloc | apply pw_below_drewN | apply below_drew1) | exact HB.out)⟩⟩
         case round =>
          clear H'
          try clear c1
          try clear p2
          try clear c3
          try clear c3b0
          try clear c3b1
          try clear c4
          try clear c4b0
          try clear c4b1
          try clear c5
          try clear c5b0
          try clear c5b1
          try clear c7
          try clear p7
          try clear q7
          try clear hx7
          try clear c8
          try clear c8b0
          try clear c9
          try clear c9b0
          try clear c10
          try clear c10b0
          try clear hx715_0
          try clear p2
          try clear p715
          try clear q715
          obtain ⟨x3_2, x25_2, rfl, HA, HK2, HO_3, HB⟩ := hrel
          cases gk with
          | zero => exact absurd HA.out (by simp [mult_Indecomposable.l1])
          | succ k2 =>
           have H := HA.out
           clear HA
           simp only [mult_Indecomposable.l1] at H
           by_cases c11 : x25_2 < ((rd_L1 l0 x19_1).length : Int)
           ·rw [if_pos c11] at H
            have c11b0 : decide (x25_2 < ((rd_L1 l0 x19_1).length : Int)) = true := decide_eq_true c11
            clear c11
            by_cases c12 : 0 ≤ x25_2
            ·rw [if_pos c12] at H
             have c12b0 : decide (0 ≤ x25_2) = true := decide_eq_true c12
             clear c12
             by_cases c13 : x25_2 < ((rd_L1 l0 x19_1).length : Int)
             ·rw [if_pos c13] at H
              have c13b0 : decide (x25_2 < ((rd_L1 l0 x19_1).length : Int)) = true := decide_eq_true c13
              clear c13
              by_cases c14 : 0 ≤ (rd (rd_L1 l0 x19_1) x25_2)
              ·rw [if_pos c14] at H
               have c14b0 : decide (0 ≤ (rd (rd_L1 l0 x19_1) x25_2)) = true := decide_eq_true c14
               clear c14
               by_cases c15 : (rd (rd_L1 l0 x19_1) x25_2) < (x3_2.length : Int)
               ·rw [if_pos c15] at H
                have c15b0 : decide ((rd (rd_L1 l0 x19_1) x25_2) < (x3_2.length : Int)) = true := decide_eq_true c15
                clear c15
                obtain ⟨y717, hy717⟩ : ∃ y_ : List Bool, y_ = (x3_2.set ((rd (rd_L1 l0 x19_1) x25_2) : Int).toNat true) := ⟨_, rfl⟩
                replace H : (mult_Indecomposable.l1 k2 y717 l0 (l0.length : Int) x19_1 (rd_L1 l0 x19_1) ((rd_L1 l0 x19_1).length : Int) (wrap64 (x25_2 + 1))) = some r := by first | (rw [hy717]; with_reducible exact H) | (have H2_ := (Option.bind_some _ _).symm.trans H; rw [hy717]; with_reducible exact H2_) | (have H2_ := (Option.bind_some _ _).symm.trans H; with_reducible exact H2_) | with_reducible exact H | (rw [hy717]; exact H) | exact H
                have Ny717 := Aside0.mk hy717
                clear hy717
                have H' := Aside0.mk H
                clear H
                have p716 : 0 ≤ (x25_2 : Int) := of_decide_eq_true (by first | (with_reducible assumption) | assumption)
                have q716 : x25_2 < ((rd_L1 l0 x19_1).length : Int) := of_decide_eq_true (by first | (with_reducible assumption) | assumption)
                obtain ⟨ad716, e716, hx716_0⟩ := Kd.at_int HR715_0.out x25_2 p716 q716
                cases e716
                replace hx716_0 := (HB.out.cell (World.block_lt_of_cell? w _ hx716_0)).trans hx716_0
                replace p716 := eq_true p716
                replace q716 := eq_true q716
                have p16 : 0 ≤ ((rd (rd_L1 l0 x19_1) x25_2) : Int) := of_decide_eq_true (by first | (with_reducible assumption) | assumption)
                have q16 : ((rd (rd_L1 l0 x19_1) x25_2) : Int) < ((x3_2.length : Int) : Int) := of_decide_eq_true (by first | (with_reducible assumption) | assumption)
                obtain ⟨go16, co16, eo16, gb16, gl16, cl16, HG16⟩ := Kd.R_form HO_3.out (by omega)
                (first | cases eo16 | (injection eo16 with ea_ en_ ec_; (first | subst ea_ | (injection ea_ with ea_; subst ea_)); subst ec_; clear en_))
                have GB16 := Aside0.mk gb16
                have GG16 := Aside0.mk HG16
                (try clear gb16); (try clear gl16); (try clear HG16)
                obtain ⟨hx16_0, hf16_0⟩ := Kd.R_celln false HO_3.out ((rd (rd_L1 l0 x19_1) x25_2) : Int) p16 q16
                replace p16 := eq_true p16
                replace q16 := eq_true q16
                have HP17 := Kd.R_putg HO_3.out ((rd (rd_L1 l0 x19_1) x25_2) : Int) true
                go_wp2_with (first | ((with_reducible refine gate_store (t := 4) (p := 31) rfl ?_); refine store_event (t := 4) (p := 31) (v := ?vo_w18) (w1 := (wr.setCell ⟨go16, ((rd (rd_L1 l0 x19_1) x25_2) : Int).toNat, none⟩ (.bool true))) ?hg ?ho ?hn ?hr ?_; (case ho => rfl); (case hg => rfl); (case hn => rfl); (case hr => first | (go_simp; done) | (go_simp; rfl)); intro w18 hw; have hg : wr.grownBy w18 (some go16) := (by rw [hw]; exact HP17.2); have hp_ : Kd.R Kd.bool 4 w18 w.heap.size (fun _ => True) (.slice (some ⟨go16, 0, none⟩) x3_2.length co16) y717 := (by rw [hw, Ny717.out]; exact HP17.1); clear HP17; have n0_ := Aside0.mk (hp_); have n1_ := Aside0.mk ((by rw [hw]; exact below_set (HB.out) GB16.out : Below w.heap.size w w18)); clear HO_3; clear HB; have HO_3 := n0_; have HB := n1_; clear n0_ n1_; (try clear hg); (try clear hw); (try clear hp_)))
                go_roundg k2
                case measure => have := HK1.out; have := HK2.out; omega
                case rel => exact ⟨(y717), (wrap64 (x25_2 + 1)), (by first | rfl | (simp; done) | (simp [*]; done)), H', ⟨by have := HK1.out; have := HK2.out; omega⟩, ⟨by (with_reducible repeat (first | apply Kd.R_alloc | apply Kd.R_drewN | apply Kd.R_drew)); exact HO_3.out⟩, ⟨by repeat (first | (with_reducible first | exact HB.out | apply below_alloc | apply pw_below_drewN | apply below_drew1) | exact HB.out)⟩⟩
               ·rw [if_neg c15] at H
                exact absurd H (by simp)
              ·rw [if_neg c14] at H
               exact absurd H (by simp)
             ·rw [if_neg c13] at H
              exact absurd H (by simp)
            ·rw [if_neg c12] at H
             exact absurd H (by simp)
           ·rw [if_neg c11] at H
            have c11b0 : decide (x25_2 < ((rd_L1 l0 x19_1).length : Int)) = false := decide_eq_false c11
            clear c11
            have H' := Aside0.mk H
            clear H
            go_wp2
            go_roundg k2
            case measure => have := HK1.out; have := HK2.out; omega
            case rel => exact ⟨(x3_2), (wrap64 (x19_1 + 1)), (by first | rfl | (simp; done) | (simp [*]; done)), H', ⟨by have := HK1.out; have := HK2.out; omega⟩, ⟨by (with_reducible repeat (first | apply Kd.R_alloc | apply Kd.R_drewN | apply Kd.R_drew)); exact HO_3.out⟩, ⟨by repeat (first | (with_reducible first | exact HB.out | apply below_alloc | apply pw_below_drewN | apply below_drew1) | exact HB.out)⟩⟩
        ·rw [if_neg c10] at H
         exact absurd H (by simp)
       ·rw [if_neg c9] at H
        exact absurd H (by simp)
      ·rw [if_neg c8] at H
       have c8b0 : decide (x19_1 < (l0.length : Int)) = false := decide_eq_false c8
       clear c8
       have H' := Aside0.mk H
       clear H
       obtain ⟨Ao19, co19, eo19⟩ := Kd.R_slice HO_3.out
       subst eo19
       go_wp2
       go_loopg [8, 36] k1 (fun kq v8 v36 w' => ∃ (x8_2 : List Int) (x36_2 : Int), v36 = .int .i64 x36_2 ∧ Aside0 (mult_Indecomposable.l2 kq x8_2 x3_1 (x3_1.length : Int) x36_2 = some r) ∧ Aside0 (kq ≤ k1) ∧ Aside0 (Kd.R (Kd.int .i64) 3 w' w.heap.size (fun _ => True) v8 x8_2) ∧ Aside0 (Kd.R Kd.bool 4 w' w.heap.size (fun _ => True) (.slice Ao19 x3_1.length co19) x3_1) ∧ Aside0 (Below w.heap.size w w'))
       case atStart => exact ⟨(([] : List Int)), (0), (by first | rfl | (simp; done) | (simp [*]; done)), H', ⟨Nat.le_refl _⟩, ⟨by first | exact Kd.R_nil _ _ _ _ _ | exact Kd.N_nil _ _ _ _ _ | exact Kd.V_nil _ _ _ _ _ | exact Kd.Q_nil _ _ _ _ _ | exact Kd.S_nil _ _ _ _ _⟩, ⟨by (with_reducible repeat (first | apply Kd.R_alloc | apply Kd.R_drewN | apply Kd.R_drew)); exact HO_3.out⟩, ⟨by repeat (first | (with_reducible first | exact HB.out | apply below_alloc | apply pw_below_drewN | apply below_drew1) | exact HB.out)⟩⟩
       case round =>
        clear H'
        try clear c1
        try clear p1
        try clear q1
        try clear hx1
        try clear hf1
        try clear p2
        try clear c3
        try clear c3b0
        try clear c3b1
        try clear c4
        try clear c4b0
        try clear c4b1
        try clear c5
        try clear c5b0
        try clear c5b1
        try clear p6
        try clear c7
        try clear p7
        try clear q7
        try clear hx7
        try clear c8
        try clear c8b0
        try clear c9
        try clear c9b0
        try clear c10
        try clear c10b0
        try clear c11
        try clear c11b0
        try clear c12
        try clear c12b0
        try clear c13
        try clear c13b0
        try clear c14
        try clear c14b0
        try clear c15
        try clear c15b0
        try clear p16
        try clear q16
        try clear hx16
        try clear hf16
        try clear c19
        try clear hx16_0
        try clear hx715_0
        try clear hx716_0
        try clear p16
        try clear p2
        try clear p7
        try clear p715
        try clear p716
        try clear q16
        try clear q7
        try clear q715
        try clear q716
        obtain ⟨x8_2, x36_2, rfl, HA, HK2, HO_8, HO_34, HB⟩ := hrel
        cases gk with
        | zero => exact absurd HA.out (by simp [mult_Indecomposable.l2])
        | succ k2 =>
         have H := HA.out
         clear HA
         simp only [mult_Indecomposable.l2] at H
         by_cases c20 : x36_2 < (x3_1.length : Int)
         ·rw [if_pos c20] at H
          have c20b0 : decide (x36_2 < (x3_1.length : Int)) = true := decide_eq_true c20
          clear c20
          by_cases c21 : 0 ≤ x36_2
          ·rw [if_pos c21] at H
           have c21b0 : decide (0 ≤ x36_2) = true := decide_eq_true c21
           clear c21
           by_cases c22 : x36_2 < (x3_1.length : Int)
           ·rw [if_pos c22] at H
            have c22b0 : decide (x36_2 < (x3_1.length : Int)) = true := decide_eq_true c22
            clear c22
            obtain ⟨bq23, hbq23⟩ : ∃ b_ : Bool, b_ = (rdOf false x3_1 x36_2) := ⟨_, rfl⟩
            replace H : (if bq23 = true then (mult_Indecomposable.l2 k2 x8_2 x3_1 (x3_1.length : Int) (wrap64 (x36_2 + 1))) else (if x8_2.length < 17592186044416 then (mult_Indecomposable.l2 k2 (x8_2 ++ [x36_2]) x3_1 (x3_1.length : Int) (wrap64 (x36_2 + 1))) else (none))) = some r := by rw [← hbq23] at H; exact H
            have Nbq23 := Aside0.mk hbq23
            clear hbq23
            by_cases c24 : bq23 = true
            ·subst c24
             have H1 : (mult_Indecomposable.l2 k2 x8_2 x3_1 (x3_1.length : Int) (wrap64 (x36_2 + 1))) = some r := by rw [if_pos rfl] at H; exact H
             clear H
             have H := H1
             clear H1
             have H' := Aside0.mk H
             clear H
             have p718 : 0 ≤ (x36_2 : Int) := of_decide_eq_true (by first | (with_reducible assumption) | assumption)
             have q718 : x36_2 < (x3_1.length : Int) := of_decide_eq_true (by first | (with_reducible assumption) | assumption)
             obtain ⟨ad718, e718, hx718_0⟩ := Kd.at_bool (Kd.R_reads' HO_34.out).2.2 x36_2 p718 q718
             (try rw [← Nbq23.out] at hx718_0)
             cases e718
             replace p718 := eq_true p718
             replace q718 := eq_true q718
             go_wp2
             go_roundg k2
             case measure => have := HK1.out; have := HK2.out; omega
             case rel => exact ⟨(x8_2), (wrap64 (x36_2 + 1)), (by first | rfl | (simp; done) | (simp [*]; done)), H', ⟨by have := HK1.out; have := HK2.out; omega⟩, ⟨by (with_reducible repeat (first | apply Kd.R_alloc | apply Kd.R_drewN | apply Kd.R_drew)); exact HO_8.out⟩, ⟨by (with_reducible repeat (first | apply Kd.R_alloc | apply Kd.R_drewN | apply Kd.R_drew)); exact HO_34.out⟩, ⟨by repeat (first | (with_reducible first | exact HB.out | apply below_alloc | apply pw_below_drewN | apply below_drew1) | exact HB.out)⟩⟩
            ·replace c24 := Bool.eq_false_iff.mpr c24
             subst c24
             have H1 : (if x8_2.length < 17592186044416 then (mult_Indecomposable.l2 k2 (x8_2 ++ [x36_2]) x3_1 (x3_1.length : Int) (wrap64 (x36_2 + 1))) else (none)) = some r := by rw [if_neg (show ¬ (false = true) by decide)] at H; exact H
             clear H
             have H := H1
             clear H1
             by_cases c25 : x8_2.length < 17592186044416
             ·rw [if_pos c25] at H
              have LMc25 := Aside0.mk c25
              clear c25
              obtain ⟨y719, hy719⟩ : ∃ y_ : List Int, y_ = (x8_2 ++ [x36_2]) := ⟨_, rfl⟩
              replace H : (mult_Indecomposable.l2 k2 y719 x3_1 (x3_1.length : Int) (wrap64 (x36_2 + 1))) = some r := by first | (rw [hy719]; with_reducible exact H) | (have H2_ := (Option.bind_some _ _).symm.trans H; rw [hy719]; with_reducible exact H2_) | (have H2_ := (Option.bind_some _ _).symm.trans H; with_reducible exact H2_) | with_reducible exact H | (rw [hy719]; exact H) | exact H
              have Ny719 := Aside0.mk hy719
              clear hy719
              have H' := Aside0.mk H
              clear H
              have p718 : 0 ≤ (x36_2 : Int) := of_decide_eq_true (by first | (with_reducible assumption) | assumption)
              have q718 : x36_2 < (x3_1.length : Int) := of_decide_eq_true (by first | (with_reducible assumption) | assumption)
              obtain ⟨ad718, e718, hx718_0⟩ := Kd.at_bool (Kd.R_reads' HO_34.out).2.2 x36_2 p718 q718
              (try rw [← Nbq23.out] at hx718_0)
              cases e718
              replace p718 := eq_true p718
              replace q718 := eq_true q718
              go_wp2_with (first | ((with_reducible refine gate_builtin (b := .append) (xs := #[.tmp 43, .tmp 45]) rfl ?_); at_builtin; refine Kd.R_append (Kd.int .i64) (w0 := w) w.heap.size rfl (.tmp 43) (.tmp 45) 30 3 (.int .i64 0) 8 rfl Try.underlying30 info3 rfl (by decide) (by omega) u8 x8_2 x36_2 [.int .i64 x36_2] (fun _ => True) (fun _ => False) rfl rfl ?aP (fun _ hk => hk.elim) ?aF ?aO ?aB ?aS ?aL ?_; (case aP => exact rfl); (case aB => exact (by repeat (first | (with_reducible first | exact HB.out | apply below_alloc | apply pw_below_drewN | apply below_drew1) | exact HB.out))); (case aF => exact (fun _ _ => trivial)); (case aO => exact (by (with_reducible repeat (first | apply Kd.R_alloc | apply Kd.R_drewN | apply Kd.R_drew)); exact HO_8.out)); (case aS => exact (below_size (by repeat (first | (with_reducible first | exact HB.out | apply below_alloc | apply pw_below_drewN | apply below_drew1) | exact HB.out)))); (case aL => have := LMc25.out; omega); intro v720 w26 ho hb hg hat; rw [← Ny719.out] at ho; have n0_ := Aside0.mk (Kd.R_over' (by (with_reducible repeat (first | apply Kd.R_alloc | apply Kd.R_drewN | apply Kd.R_drew)); exact HO_34.out) (Kd.R_typed (by (with_reducible repeat (first | apply Kd.R_alloc | apply Kd.R_drewN | apply Kd.R_drew)); exact HO_8.out)) (by decide) hg); have n1_ := Aside0.mk (hb); have n2_ := Aside0.mk (ho); clear HO_34; clear HB; clear HO_8; have HO_34 := n0_; have HB := n1_; have HO721 := n2_; clear n0_ n1_ n2_; (try clear ho); (try clear hb); (try clear hg); (try clear hat)))
              go_roundg k2
              case measure => have := HK1.out; have := HK2.out; omega
              case rel => exact ⟨(y719), (wrap64 (x36_2 + 1)), (by first | rfl | (simp; done) | (simp [*]; done)), H', ⟨by have := HK1.out; have := HK2.out; omega⟩, ⟨by (with_reducible repeat (first | apply Kd.R_alloc | apply Kd.R_drewN | apply Kd.R_drew)); exact HO721.out⟩, ⟨by (with_reducible repeat (first | apply Kd.R_alloc | apply Kd.R_drewN | apply Kd.R_drew)); exact HO_34.out⟩, ⟨by repeat (first | (with_reducible first | exact HB.out | apply below_alloc | apply pw_below_drewN | apply below_drew1) | exact HB.out)⟩⟩
             ·rw [if_neg c25] at H
              exact absurd H (by simp)
           ·rw [if_neg c22] at H
            exact absurd H (by simp)
          ·rw [if_neg c21] at H
           exact absurd H (by simp)
         ·rw [if_neg c20] at H
          have c20b0 : decide (x36_2 < (x3_1.length : Int)) = false := decide_eq_false c20
          clear c20
          obtain rfl := Option.some.inj H
          go_wp2
          go_ret
          exact ⟨_, by first | rfl | (simp [errW_none, errW_some] <;> rfl) | (simp [*, errW_none, errW_some] <;> rfl), by (with_reducible repeat (first | apply Kd.R_alloc | apply Kd.R_drewN | apply Kd.R_drew)); exact HO_8.out, by repeat (first | (with_reducible first | exact HB.out | apply below_alloc | apply pw_below_drewN | apply below_drew1) | exact HB.out)⟩
   ·rw [if_neg c5] at H
    exact absurd H (by simp)
  ·rw [if_neg c4] at H
   exact absurd H (by simp)
 ·rw [if_neg c3] at H
  have c3b0 : (t711 == 0) = false := beq_eq_false_iff_ne.mpr c3
  have c3b1 : (t711 != 0) = true := bne_iff_ne.mpr c3
  obtain rfl := Option.some.inj H
  go_enter Try.func56, Try.ntmps56
  go_wp2_with (first | ((with_reducible refine gate_callee (f := 19) rfl ?_); refine goesL_ (some 12) rfl rfl Try.func19 (by kernel_rfl) rfl #[.slice A0 l0.length c0] rfl (by (try simp only [List.map_toArray, List.map_cons, List.map_nil]); first | done | rfl | (simp only [List.length_drop, List.length_take]; rfl)) ?_; (with_reducible refine (mult_Validate.calls k _ _ l0 t711 _ ?side1 ?side2 A2.out).mono ?_); (case side1 => repeat (first | exact HR0.out | (with_reducible refine Kd.C_alloc ?_ _) | (with_reducible refine Kd.C_drewN ?_ _) | (with_reducible refine Kd.C_drew ?_))); (case side2 => exact HC0.out); rintro e w' ⟨rfl, ⟨nd, rfl⟩⟩; refine ⟨_, rfl, ?_⟩))
  go_ret
  exact ⟨_, by first | rfl | (simp [errW_none, errW_some] <;> rfl) | (simp [*, errW_none, errW_some] <;> rfl), by first | exact Kd.R_nil _ _ _ _ _ | exact Kd.N_nil _ _ _ _ _ | exact Kd.V_nil _ _ _ _ _ | exact Kd.Q_nil _ _ _ _ _ | exact Kd.S_nil _ _ _ _ _, by repeat (first | (with_reducible first | exact HB.out | apply below_alloc | apply pw_below_drewN | apply below_drew1) | exact HB.out)⟩

/-! ### semigrouplaw14_MultNeeds: function 14 -/
mutual
def semigrouplaw14_MultNeeds.j0 : Nat → List (List Int) → List Int → Bool → Option (Bool)
 | 0, _, _, _ => none
 | k + 1, x0, x1, x19 => if x19 = true then ((semigrouplaw14_awake.f k).bind fun t724 => (some t724)) else ((mult_Generators.f k x0).bind fun t725 => ((mult_Generated.f k x0 t725).bind fun t728 => (if (t728.length : Int) = (x0.length : Int) then ((mult_Generated.f k x0 x1).bind fun t731 => ((semigroupref03_Set.f k t725 (x0.length : Int)).bind fun t734 => ((semigroupref03_Set.f k x1 (x0.length : Int)).bind fun t737 => ((mult_Indecomposable.f k x0).bind fun t740 => (semigrouplaw14_MultNeeds.l0 k ((t731.length : Int) == (x0.length : Int)) t734 t737 t740 (t740.length : Int) 0))))) else (some false))))
def semigrouplaw14_MultNeeds.l0 : Nat → Bool → List Bool → List Bool → List Int → Int → Int → Option (Bool)
 | 0, _, _, _, _, _, _ => none
 | k + 1, x6, x7, x8, x46, x47, x48 => if x48 < x47 then (if 0 ≤ x48 then (if x48 < (x46.length : Int) then (if 0 ≤ (rd x46 x48) then (if (rd x46 x48) < (x7.length : Int) then (if (rdOf false x7 (rd x46 x48) = true) then (if x6 = true then (if (rd x46 x48) < (x8.length : Int) then (if (rdOf false x8 (rd x46 x48) = true) then (semigrouplaw14_MultNeeds.l0 k x6 x7 x8 x46 x47 (wrap64 (x48 + 1))) else (some false)) else (none)) else (semigrouplaw14_MultNeeds.l0 k x6 x7 x8 x46 x47 (wrap64 (x48 + 1)))) else (some false)) else (none)) else (none)) else (none)) else (none)) else ((semigrouplaw14_awake.f k).bind fun t746 => (some t746))
end
def semigrouplaw14_MultNeeds.f (k : Nat) (l0 : List (List Int)) (l1 : List Int) : Option (Bool) := (semigrouplaw14_small.f k l0 14).bind fun t722 => (if t722 = true then ((semigroupref14_In.f k l0 l1).bind fun t723 => (semigrouplaw14_MultNeeds.j0 k l0 l1 (!t723))) else (semigrouplaw14_MultNeeds.j0 k l0 l1 true))
theorem semigrouplaw14_MultNeeds.mono_l : ∀ k, (∀ y0 y1 y2, LeO (semigrouplaw14_MultNeeds.j0 k y0 y1 y2) (semigrouplaw14_MultNeeds.j0 (k + 1) y0 y1 y2)) ∧ (∀ y0 y1 y2 y3 y4 y5, LeO (semigrouplaw14_MultNeeds.l0 k y0 y1 y2 y3 y4 y5) (semigrouplaw14_MultNeeds.l0 (k + 1) y0 y1 y2 y3 y4 y5))
 | 0 => ⟨fun _ _ _ r h => by simp [semigrouplaw14_MultNeeds.j0] at h, fun _ _ _ _ _ _ r h => by simp [semigrouplaw14_MultNeeds.l0] at h⟩
 | k + 1 => by
  obtain ⟨ih0, ih1⟩ := semigrouplaw14_MultNeeds.mono_l k
  refine ⟨?_, ?_⟩
  ·intro y0 y1 y2
   unfold semigrouplaw14_MultNeeds.j0
   repeat' first
   | (with_reducible exact ih0 _ _ _)
   | (with_reducible exact ih1 _ _ _ _ _ _)
   | (with_reducible exact mult_Generated.mono _ _ _)
   | (with_reducible exact mult_Generators.mono _ _)
   | (with_reducible exact mult_Indecomposable.mono _ _)
   | (with_reducible exact semigrouplaw14_awake.mono _)
   | (with_reducible exact semigrouplaw14_small.mono _ _ _)
   | (with_reducible exact semigroupref03_Set.mono _ _ _)
   | (with_reducible exact semigroupref14_In.mono _ _ _)
   | (with_reducible exact LeO.refl _)
   | (with_reducible exact LeO.none _)
   | (with_reducible refine LeO.ite ?_ ?_)
   | (with_reducible refine LeO.bind ?_ (fun _ => ?_))
   | exact ih0 _ _ _
   | exact ih1 _ _ _ _ _ _
   | exact mult_Generated.mono _ _ _
   | exact mult_Generators.mono _ _
   | exact mult_Indecomposable.mono _ _
   | exact semigrouplaw14_awake.mono _
   | exact semigrouplaw14_small.mono _ _ _
   | exact semigroupref03_Set.mono _ _ _
   | exact semigroupref14_In.mono _ _ _
   | exact LeO.none _
   | refine LeO.ite ?_ ?_
   | refine LeO.bind ?_ (fun _ => ?_)
  ·intro y0 y1 y2 y3 y4 y5
   unfold semigrouplaw14_MultNeeds.l0
   repeat' first
   | (with_reducible exact ih0 _ _ _)
   | (with_reducible exact ih1 _ _ _ _ _ _)
   | (with_reducible exact mult_Generated.mono _ _ _)
   | (with_reducible exact mult_Generators.mono _ _)
   | (with_reducible exact mult_Indecomposable.mono _ _)
   | (with_reducible exact semigrouplaw14_awake.mono _)
   | (with_reducible exact semigrouplaw14_small.mono _ _ _)
   | (with_reducible exact semigroupref03_Set.mono _ _ _)
   | (with_reducible exact semigroupref14_In.mono _ _ _)
   | (with_reducible exact LeO.refl _)
   | (with_reducible exact LeO.none _)
   | (with_reducible refine LeO.ite ?_ ?_)
   | (with_reducible refine LeO.bind ?_ (fun _ => ?_))
   | exact ih0 _ _ _
   | exact ih1 _ _ _ _ _ _
   | exact mult_Generated.mono _ _ _
   | exact mult_Generators.mono _ _
   | exact mult_Indecomposable.mono _ _
   | exact semigrouplaw14_awake.mono _
   | exact semigrouplaw14_small.mono _ _ _
   | exact semigroupref03_Set.mono _ _ _
   | exact semigroupref14_In.mono _ _ _
   | exact LeO.none _
   | refine LeO.ite ?_ ?_
   | refine LeO.bind ?_ (fun _ => ?_)
theorem semigrouplaw14_MultNeeds.mono : ∀ a0 a1 k, LeO (semigrouplaw14_MultNeeds.f k a0 a1) (semigrouplaw14_MultNeeds.f (k + 1) a0 a1) := by
 intro a0 a1 k
 obtain ⟨ih0, ih1⟩ := semigrouplaw14_MultNeeds.mono_l k
 unfold semigrouplaw14_MultNeeds.f
 repeat' first
   | (with_reducible exact ih0 _ _ _)
   | (with_reducible exact ih1 _ _ _ _ _ _)
   | (with_reducible exact mult_Generated.mono _ _ _)
   | (with_reducible exact mult_Generators.mono _ _)
   | (with_reducible exact mult_Indecomposable.mono _ _)
   | (with_reducible exact semigrouplaw14_awake.mono _)
   | (with_reducible exact semigrouplaw14_small.mono _ _ _)
   | (with_reducible exact semigroupref03_Set.mono _ _ _)
   | (with_reducible exact semigroupref14_In.mono _ _ _)
   | (with_reducible exact LeO.refl _)
   | (with_reducible exact LeO.none _)
   | (with_reducible refine LeO.ite ?_ ?_)
   | (with_reducible refine LeO.bind ?_ (fun _ => ?_))
   | exact ih0 _ _ _
   | exact ih1 _ _ _ _ _ _
   | exact mult_Generated.mono _ _ _
   | exact mult_Generators.mono _ _
   | exact mult_Indecomposable.mono _ _
   | exact semigrouplaw14_awake.mono _
   | exact semigrouplaw14_small.mono _ _ _
   | exact semigroupref03_Set.mono _ _ _
   | exact semigroupref14_In.mono _ _ _
   | exact LeO.none _
   | refine LeO.ite ?_ ?_
   | refine LeO.bind ?_ (fun _ => ?_)
set_option maxHeartbeats 8000000 in
set_option maxRecDepth 100000 in
theorem semigrouplaw14_MultNeeds.calls (k : Nat) (A0 : Option Addr) (c0 : Nat) (l0 : List (List Int)) (A1 : Option Addr) (c1 : Nat) (l1 : List Int) (r : Bool) (w : World) (hr0 : Kd.C (Kd.slice 3 (Kd.int .i64)) w A0 l0.length l0) (hc0 : l0.length ≤ c0) (hr1 : Kd.C (Kd.int .i64) w A1 l1.length l1) (hc1 : l1.length ≤ c1) (h : semigrouplaw14_MultNeeds.f k l0 l1 = some r) :
  Calls Try.prog 14 #[.slice A0 l0.length c0, .slice A1 l1.length c1] w fun e w' => e = .returned (.bool r) ∧ Below w.heap.size w w' := by
 have HR0 := Aside0.mk hr0
 have HC0 := Aside0.mk hc0
 (try clear hr0); (try clear hc0)
 have HR1 := Aside0.mk hr1
 have HC1 := Aside0.mk hc1
 (try clear hr1); (try clear hc1)
 have HB := Aside0.mk (Below.refl w.heap.size w)
 have H : ((semigrouplaw14_small.f k l0 14).bind fun t722 => (if t722 = true then ((semigroupref14_In.f k l0 l1).bind fun t723 => (semigrouplaw14_MultNeeds.j0 k l0 l1 (!t723))) else (semigrouplaw14_MultNeeds.j0 k l0 l1 true))) = some r := h
 clear h
 have HC3 := Aside0.mk H
 clear H
 go_enter Try.func14, Try.ntmps14
 go_upto_region 1 with (fail)
 go_cut [19] (fun v19 wc => ∃ (kq : Nat) (x19_2 : Bool), v19 = .bool x19_2 ∧ Aside0 (semigrouplaw14_MultNeeds.j0 kq l0 l1 x19_2 = some r) ∧ Aside0 (kq ≤ k) ∧ Aside0 (Below w.heap.size w wc))
 case first =>
  have H := HC3.out
  clear HC3
  replace H := Option.bind_eq_some_iff.mp H
  obtain ⟨t722, A40, H⟩ := H
  replace H : (if t722 = true then ((semigroupref14_In.f k l0 l1).bind fun t723 => (semigrouplaw14_MultNeeds.j0 k l0 l1 (!t723))) else (semigrouplaw14_MultNeeds.j0 k l0 l1 true)) = some r := H
  have A4 := Aside0.mk A40
  clear A40
  by_cases c5 : t722 = true
  ·subst c5
   have H1 : ((semigroupref14_In.f k l0 l1).bind fun t723 => (semigrouplaw14_MultNeeds.j0 k l0 l1 (!t723))) = some r := by rw [if_pos rfl] at H; exact H
   clear H
   have H := H1
   clear H1
   replace H := Option.bind_eq_some_iff.mp H
   obtain ⟨t723, A60, H⟩ := H
   replace H : (semigrouplaw14_MultNeeds.j0 k l0 l1 (!t723)) = some r := H
   have A6 := Aside0.mk A60
   clear A60
   have H' := Aside0.mk H
   clear H
   go_wp2_with (first | ((with_reducible refine gate_callee (f := 36) rfl ?_); refine goesL_ (some 12) rfl rfl Try.func36 (by kernel_rfl) rfl #[.slice A0 l0.length c0, .int .i64 14] rfl (by (try simp only [List.map_toArray, List.map_cons, List.map_nil]); first | done | rfl | (simp only [List.length_drop, List.length_take]; rfl)) ?_; (with_reducible refine (semigrouplaw14_small.calls k _ _ l0 14 true _ ?side1 ?side2 A4.out).mono ?_); (case side1 => repeat (first | exact (Kd.C_below HR0.out HB.out) | (with_reducible refine Kd.C_alloc ?_ _) | (with_reducible refine Kd.C_drewN ?_ _) | (with_reducible refine Kd.C_drew ?_))); (case side2 => exact HC0.out); rintro e w' ⟨rfl, ⟨nd, rfl⟩⟩; refine ⟨_, rfl, ?_⟩) | (go_at_call 32; (with_reducible refine (semigroupref14_In.calls k _ _ l0 _ _ l1 t723 _ ?side1 ?side2 ?side3 ?side4 A6.out).mono ?_); (case side1 => repeat (first | exact (Kd.C_below HR0.out (by repeat (first | (with_reducible first | exact HB.out | apply below_alloc | apply pw_below_drewN | apply below_drew1) | exact HB.out))) | (with_reducible refine Kd.C_alloc ?_ _) | (with_reducible refine Kd.C_drewN ?_ _) | (with_reducible refine Kd.C_drew ?_))); (case side2 => exact HC0.out); (case side3 => repeat (first | exact (Kd.C_below HR1.out (by repeat (first | (with_reducible first | exact HB.out | apply below_alloc | apply pw_below_drewN | apply below_drew1) | exact HB.out))) | (with_reducible refine Kd.C_alloc ?_ _) | (with_reducible refine Kd.C_drewN ?_ _) | (with_reducible refine Kd.C_drew ?_))); (case side4 => exact HC1.out); rintro e w' ⟨rfl, ⟨nd, rfl⟩⟩))
   go_meet
   case rel => exact ⟨_, (!t723), (by first | rfl | (simp; done) | (simp [*]; done)), H', ⟨by first | omega | exact Nat.le_refl _⟩, ⟨by repeat (first | (with_reducible first | exact HB.out | apply below_alloc | apply pw_below_drewN | apply below_drew1) | exact HB.out)⟩⟩
  ·replace c5 := Bool.eq_false_iff.mpr c5
   subst c5
   have H1 : (semigrouplaw14_MultNeeds.j0 k l0 l1 true) = some r := by rw [if_neg (show ¬ (false = true) by decide)] at H; exact H
   clear H
   have H := H1
   clear H1
   have H' := Aside0.mk H
   clear H
   go_wp2_with (first | ((with_reducible refine gate_callee (f := 36) rfl ?_); refine goesL_ (some 12) rfl rfl Try.func36 (by kernel_rfl) rfl #[.slice A0 l0.length c0, .int .i64 14] rfl (by (try simp only [List.map_toArray, List.map_cons, List.map_nil]); first | done | rfl | (simp only [List.length_drop, List.length_take]; rfl)) ?_; (with_reducible refine (semigrouplaw14_small.calls k _ _ l0 14 false _ ?side1 ?side2 A4.out).mono ?_); (case side1 => repeat (first | exact (Kd.C_below HR0.out HB.out) | (with_reducible refine Kd.C_alloc ?_ _) | (with_reducible refine Kd.C_drewN ?_ _) | (with_reducible refine Kd.C_drew ?_))); (case side2 => exact HC0.out); rintro e w' ⟨rfl, ⟨nd, rfl⟩⟩; refine ⟨_, rfl, ?_⟩))
   go_meet
   case rel => exact ⟨_, (true), (by first | rfl | (simp; done) | (simp [*]; done)), H', ⟨by first | omega | exact Nat.le_refl _⟩, ⟨by repeat (first | (with_reducible first | exact HB.out | apply below_alloc | apply pw_below_drewN | apply below_drew1) | exact HB.out)⟩⟩
 case rest =>
  clear HC3
  try clear c1
  try clear p2
  try clear c3
  try clear c5
  obtain ⟨kq, x19_2, rfl, HA, HJ2, HB⟩ := hcut
  cases kq with
  | zero => exact absurd HA.out (by simp [semigrouplaw14_MultNeeds.j0])
  | succ kj2 =>
   have H := HA.out
   clear HA
   simp only [semigrouplaw14_MultNeeds.j0] at H
   by_cases c7 : x19_2 = true
   ·subst c7
    have H1 : ((semigrouplaw14_awake.f kj2).bind fun t724 => (some t724)) = some r := by rw [if_pos rfl] at H; exact H
    clear H
    have H := H1
    clear H1
    replace H := Option.bind_eq_some_iff.mp H
    obtain ⟨t724, A80, H⟩ := H
    replace H : (some t724) = some r := H
    have A8 := Aside0.mk A80
    clear A80
    obtain rfl := Option.some.inj H
    go_wp2_with (first | ((with_reducible refine gate_callee (f := 16) rfl ?_); refine goesL_ (some 20) rfl rfl Try.func16 (by kernel_rfl) rfl #[] rfl (by (try simp only [List.map_toArray, List.map_cons, List.map_nil]); first | done | rfl | (simp only [List.length_drop, List.length_take]; rfl)) ?_; (with_reducible refine (semigrouplaw14_awake.calls kj2  t724 _ A8.out).mono ?_); rintro e w9 ⟨rfl, hb⟩; refine ⟨_, rfl, ?_⟩; have n0_ := Aside0.mk (below_step (by repeat (first | (with_reducible first | exact HB.out | apply below_alloc | apply pw_below_drewN | apply below_drew1) | exact HB.out)) hb); clear HB; have HB := n0_; clear n0_; (try clear hb); (try clear hb2); (try clear hk); (try clear hi)))
    go_ret
    exact ⟨by first | rfl | (simp [errW_none, errW_some] <;> rfl) | (simp [*, errW_none, errW_some] <;> rfl), by repeat (first | (with_reducible first | exact HB.out | apply below_alloc | apply pw_below_drewN | apply below_drew1) | exact HB.out)⟩
   ·replace c7 := Bool.eq_false_iff.mpr c7
    subst c7
    have H1 : ((mult_Generators.f kj2 l0).bind fun t725 => ((mult_Generated.f kj2 l0 t725).bind fun t728 => (if (t728.length : Int) = (l0.length : Int) then ((mult_Generated.f kj2 l0 l1).bind fun t731 => ((semigroupref03_Set.f kj2 t725 (l0.length : Int)).bind fun t734 => ((semigroupref03_Set.f kj2 l1 (l0.length : Int)).bind fun t737 => ((mult_Indecomposable.f kj2 l0).bind fun t740 => (semigrouplaw14_MultNeeds.l0 kj2 ((t731.length : Int) == (l0.length : Int)) t734 t737 t740 (t740.length : Int) 0))))) else (some false)))) = some r := by rw [if_neg (show ¬ (false = true) by decide)] at H; exact H
    clear H
    have H := H1
    clear H1
    replace H := Option.bind_eq_some_iff.mp H
    obtain ⟨t725, A100, H⟩ := H
    replace H : ((mult_Generated.f kj2 l0 t725).bind fun t728 => (if (t728.length : Int) = (l0.length : Int) then ((mult_Generated.f kj2 l0 l1).bind fun t731 => ((semigroupref03_Set.f kj2 t725 (l0.length : Int)).bind fun t734 => ((semigroupref03_Set.f kj2 l1 (l0.length : Int)).bind fun t737 => ((mult_Indecomposable.f kj2 l0).bind fun t740 => (semigrouplaw14_MultNeeds.l0 kj2 ((t731.length : Int) == (l0.length : Int)) t734 t737 t740 (t740.length : Int) 0))))) else (some false))) = some r := H
    have A10 := Aside0.mk A100
    clear A100
    replace H := Option.bind_eq_some_iff.mp H
    obtain ⟨t728, A110, H⟩ := H
    replace H : (if (t728.length : Int) = (l0.length : Int) then ((mult_Generated.f kj2 l0 l1).bind fun t731 => ((semigroupref03_Set.f kj2 t725 (l0.length : Int)).bind fun t734 => ((semigroupref03_Set.f kj2 l1 (l0.length : Int)).bind fun t737 => ((mult_Indecomposable.f kj2 l0).bind fun t740 => (semigrouplaw14_MultNeeds.l0 kj2 ((t731.length : Int) == (l0.length : Int)) t734 t737 t740 (t740.length : Int) 0))))) else (some false)) = some r := H
    have A11 := Aside0.mk A110
    clear A110
    by_cases c12 : (t728.length : Int) = (l0.length : Int)
    ·rw [if_pos c12] at H
     have c12b0 : ((t728.length : Int) == (l0.length : Int)) = true := beq_iff_eq.mpr c12
     have c12b1 : ((t728.length : Int) != (l0.length : Int)) = false := bne_eq_false_iff_eq.mpr c12
     have c12b2 : (t728.length == l0.length) = true := by first | simpa using c12 | (simp at c12 ⊢; omega)
     clear c12
     replace H := Option.bind_eq_some_iff.mp H
     obtain ⟨t731, A130, H⟩ := H
     replace H : ((semigroupref03_Set.f kj2 t725 (l0.length : Int)).bind fun t734 => ((semigroupref03_Set.f kj2 l1 (l0.length : Int)).bind fun t737 => ((mult_Indecomposable.f kj2 l0).bind fun t740 => (semigrouplaw14_MultNeeds.l0 kj2 ((t731.length : Int) == (l0.length : Int)) t734 t737 t740 (t740.length : Int) 0)))) = some r := H
     have A13 := Aside0.mk A130
     clear A130
     replace H := Option.bind_eq_some_iff.mp H
     obtain ⟨t734, A140, H⟩ := H
     replace H : ((semigroupref03_Set.f kj2 l1 (l0.length : Int)).bind fun t737 => ((mult_Indecomposable.f kj2 l0).bind fun t740 => (semigrouplaw14_MultNeeds.l0 kj2 ((t731.length : Int) == (l0.length : Int)) t734 t737 t740 (t740.length : Int) 0))) = some r := H
     have A14 := Aside0.mk A140
     clear A140
     replace H := Option.bind_eq_some_iff.mp H
     obtain ⟨t737, A150, H⟩ := H
     replace H : ((mult_Indecomposable.f kj2 l0).bind fun t740 => (semigrouplaw14_MultNeeds.l0 kj2 ((t731.length : Int) == (l0.length : Int)) t734 t737 t740 (t740.length : Int) 0)) = some r := H
     have A15 := Aside0.mk A150
     clear A150
     replace H := Option.bind_eq_some_iff.mp H
     obtain ⟨t740, A160, H⟩ := H
     replace H : (semigrouplaw14_MultNeeds.l0 kj2 ((t731.length : Int) == (l0.length : Int)) t734 t737 t740 (t740.length : Int) 0) = some r := H
     have A16 := Aside0.mk A160
     clear A160
     have H' := Aside0.mk H
     clear H
     go_wp2_with (first | ((with_reducible refine gate_callee (f := 55) rfl ?_); refine goesL_ (some 22) rfl rfl Try.func55 (by kernel_rfl) rfl #[.slice A0 l0.length c0] rfl (by (try simp only [List.map_toArray, List.map_cons, List.map_nil]); first | done | rfl | (simp only [List.length_drop, List.length_take]; rfl)) ?_; (with_reducible refine (mult_Generators.calls kj2 _ _ l0 t725 _ ?side1 ?side2 A10.out).mono ?_); (case side1 => repeat (first | exact (Kd.C_below HR0.out HB.out) | (with_reducible refine Kd.C_alloc ?_ _) | (with_reducible refine Kd.C_drewN ?_ _) | (with_reducible refine Kd.C_drew ?_))); (case side2 => exact HC0.out); rintro e w17 ⟨v726, rfl, ho0, hb⟩; refine ⟨_, rfl, ?_⟩; have n0_ := Aside0.mk (Kd.R_lower ho0 (below_size (by repeat (first | (with_reducible first | exact HB.out | apply below_alloc | apply pw_below_drewN | apply below_drew1) | exact HB.out)))); have n1_ := Aside0.mk (below_step (by repeat (first | (with_reducible first | exact HB.out | apply below_alloc | apply pw_below_drewN | apply below_drew1) | exact HB.out)) hb); clear HB; have HO727 := n0_; have HB := n1_; clear n0_ n1_; (try clear hb); (try clear hb2); (try clear hk); (try clear hi); (try clear ho0); obtain ⟨Ao18, co18, eo18⟩ := Kd.R_slice HO727.out; subst eo18) | ((with_reducible refine gate_callee (f := 51) rfl ?_); refine goesL_ (some 25) rfl rfl Try.func51 (by kernel_rfl) rfl #[.slice A0 l0.length c0, .slice Ao18 t725.length co18] rfl (by (try simp only [List.map_toArray, List.map_cons, List.map_nil]); first | done | rfl | (simp only [List.length_drop, List.length_take]; rfl)) ?_; (with_reducible refine (mult_Generated.calls kj2 _ _ l0 _ _ t725 t728 _ ?side1 ?side2 ?side3 ?side4 A11.out).mono ?_); (case side1 => repeat (first | exact (Kd.C_below HR0.out HB.out) | (with_reducible refine Kd.C_alloc ?_ _) | (with_reducible refine Kd.C_drewN ?_ _) | (with_reducible refine Kd.C_drew ?_))); (case side2 => exact HC0.out); (case side3 => repeat (first | exact (Kd.R_reads' HO727.out).2.2 | (with_reducible refine Kd.C_alloc ?_ _) | (with_reducible refine Kd.C_drewN ?_ _) | (with_reducible refine Kd.C_drew ?_))); (case side4 => exact (Kd.R_reads' HO727.out).2.1); rintro e w19 ⟨v729, rfl, ho0, hb⟩; refine ⟨_, rfl, ?_⟩; have n0_ := Aside0.mk (Kd.R_elder' (by (with_reducible repeat (first | apply Kd.R_alloc | apply Kd.R_drewN | apply Kd.R_drew)); exact HO727.out) (by first | exact Kd.N_base ho0 | exact Kd.S_base ho0 | exact Kd.R_base ho0) hb); have n1_ := Aside0.mk (Kd.R_lower (Kd.R_new' ho0 (Kd.R_lt (by (with_reducible repeat (first | apply Kd.R_alloc | apply Kd.R_drewN | apply Kd.R_drew)); exact HO727.out))) (below_size (by repeat (first | (with_reducible first | exact HB.out | apply below_alloc | apply pw_below_drewN | apply below_drew1) | exact HB.out)))); have n2_ := Aside0.mk (below_step (by repeat (first | (with_reducible first | exact HB.out | apply below_alloc | apply pw_below_drewN | apply below_drew1) | exact HB.out)) hb); clear HO727; clear HB; have HO727 := n0_; have HO730 := n1_; have HB := n2_; clear n0_ n1_ n2_; (try clear hb); (try clear hb2); (try clear hk); (try clear hi); (try clear ho0); obtain ⟨Ao20, co20, eo20⟩ := Kd.R_slice HO730.out; subst eo20) | ((with_reducible refine gate_callee (f := 51) rfl ?_); refine goesL_ (some 32) rfl rfl Try.func51 (by kernel_rfl) rfl #[.slice A0 l0.length c0, .slice A1 l1.length c1] rfl (by (try simp only [List.map_toArray, List.map_cons, List.map_nil]); first | done | rfl | (simp only [List.length_drop, List.length_take]; rfl)) ?_; (with_reducible refine (mult_Generated.calls kj2 _ _ l0 _ _ l1 t731 _ ?side1 ?side2 ?side3 ?side4 A13.out).mono ?_); (case side1 => repeat (first | exact (Kd.C_below HR0.out HB.out) | (with_reducible refine Kd.C_alloc ?_ _) | (with_reducible refine Kd.C_drewN ?_ _) | (with_reducible refine Kd.C_drew ?_))); (case side2 => exact HC0.out); (case side3 => repeat (first | exact (Kd.C_below HR1.out HB.out) | (with_reducible refine Kd.C_alloc ?_ _) | (with_reducible refine Kd.C_drewN ?_ _) | (with_reducible refine Kd.C_drew ?_))); (case side4 => exact HC1.out); rintro e w21 ⟨v732, rfl, ho0, hb⟩; refine ⟨_, rfl, ?_⟩; have n0_ := Aside0.mk (Kd.R_elder' (by (with_reducible repeat (first | apply Kd.R_alloc | apply Kd.R_drewN | apply Kd.R_drew)); exact HO727.out) (by first | exact Kd.N_base ho0 | exact Kd.S_base ho0 | exact Kd.R_base ho0) hb); have n1_ := Aside0.mk (Kd.R_elder' (by (with_reducible repeat (first | apply Kd.R_alloc | apply Kd.R_drewN | apply Kd.R_drew)); exact HO730.out) (by first | exact Kd.N_base ho0 | exact Kd.S_base ho0 | exact Kd.R_base ho0) hb); have n2_ := Aside0.mk (Kd.R_lower (Kd.R_new' (Kd.R_new' ho0 (Kd.R_lt (by (with_reducible repeat (first | apply Kd.R_alloc | apply Kd.R_drewN | apply Kd.R_drew)); exact HO727.out))) (Kd.R_lt (by (with_reducible repeat (first | apply Kd.R_alloc | apply Kd.R_drewN | apply Kd.R_drew)); exact HO730.out))) (below_size (by repeat (first | (with_reducible first | exact HB.out | apply below_alloc | apply pw_below_drewN | apply below_drew1) | exact HB.out)))); have n3_ := Aside0.mk (below_step (by repeat (first | (with_reducible first | exact HB.out | apply below_alloc | apply pw_below_drewN | apply below_drew1) | exact HB.out)) hb); clear HO727; clear HO730; clear HB; have HO727 := n0_; have HO730 := n1_; have HO733 := n2_; have HB := n3_; clear n0_ n1_ n2_ n3_; (try clear hb); (try clear hb2); (try clear hk); (try clear hi); (try clear ho0); obtain ⟨Ao22, co22, eo22⟩ := Kd.R_slice HO733.out; subst eo22) | ((with_reducible refine gate_callee (f := 54) rfl ?_); refine goesL_ (some 40) rfl rfl Try.func54 (by kernel_rfl) rfl #[.slice Ao18 t725.length co18, .int .i64 (l0.length : Int)] rfl (by (try simp only [List.map_toArray, List.map_cons, List.map_nil]); first | done | rfl | (simp only [List.length_drop, List.length_take]; rfl)) ?_; (with_reducible refine (semigroupref03_Set.calls kj2 _ _ t725 (l0.length : Int) t734 _ ?side1 ?side2 A14.out).mono ?_); (case side1 => repeat (first | exact (Kd.R_reads' HO727.out).2.2 | (with_reducible refine Kd.C_alloc ?_ _) | (with_reducible refine Kd.C_drewN ?_ _) | (with_reducible refine Kd.C_drew ?_))); (case side2 => exact (Kd.R_reads' HO727.out).2.1); rintro e w23 ⟨v735, rfl, ho0, hb⟩; refine ⟨_, rfl, ?_⟩; have n0_ := Aside0.mk (Kd.R_below (by (with_reducible repeat (first | apply Kd.R_alloc | apply Kd.R_drewN | apply Kd.R_drew)); exact HO727.out) hb); have n1_ := Aside0.mk (Kd.R_below (by (with_reducible repeat (first | apply Kd.R_alloc | apply Kd.R_drewN | apply Kd.R_drew)); exact HO730.out) hb); have n2_ := Aside0.mk (Kd.R_below (by (with_reducible repeat (first | apply Kd.R_alloc | apply Kd.R_drewN | apply Kd.R_drew)); exact HO733.out) hb); have n3_ := Aside0.mk (Kd.R_lower ho0 (below_size (by repeat (first | (with_reducible first | exact HB.out | apply below_alloc | apply pw_below_drewN | apply below_drew1) | exact HB.out)))); have n4_ := Aside0.mk (below_step (by repeat (first | (with_reducible first | exact HB.out | apply below_alloc | apply pw_below_drewN | apply below_drew1) | exact HB.out)) hb); clear HO727; clear HO730; clear HO733; clear HB; have HO727 := n0_; have HO730 := n1_; have HO733 := n2_; have HO736 := n3_; have HB := n4_; clear n0_ n1_ n2_ n3_ n4_; (try clear hb); (try clear hb2); (try clear hk); (try clear hi); (try clear ho0)) | ((with_reducible refine gate_callee (f := 54) rfl ?_); refine goesL_ (some 44) rfl rfl Try.func54 (by kernel_rfl) rfl #[.slice A1 l1.length c1, .int .i64 (l0.length : Int)] rfl (by (try simp only [List.map_toArray, List.map_cons, List.map_nil]); first | done | rfl | (simp only [List.length_drop, List.length_take]; rfl)) ?_; (with_reducible refine (semigroupref03_Set.calls kj2 _ _ l1 (l0.length : Int) t737 _ ?side1 ?side2 A15.out).mono ?_); (case side1 => repeat (first | exact (Kd.C_below HR1.out HB.out) | (with_reducible refine Kd.C_alloc ?_ _) | (with_reducible refine Kd.C_drewN ?_ _) | (with_reducible refine Kd.C_drew ?_))); (case side2 => exact HC1.out); rintro e w24 ⟨v738, rfl, ho0, hb⟩; refine ⟨_, rfl, ?_⟩; have n0_ := Aside0.mk (Kd.R_below (by (with_reducible repeat (first | apply Kd.R_alloc | apply Kd.R_drewN | apply Kd.R_drew)); exact HO727.out) hb); have n1_ := Aside0.mk (Kd.R_below (by (with_reducible repeat (first | apply Kd.R_alloc | apply Kd.R_drewN | apply Kd.R_drew)); exact HO730.out) hb); have n2_ := Aside0.mk (Kd.R_below (by (with_reducible repeat (first | apply Kd.R_alloc | apply Kd.R_drewN | apply Kd.R_drew)); exact HO733.out) hb); have n3_ := Aside0.mk (Kd.R_elder' (by (with_reducible repeat (first | apply Kd.R_alloc | apply Kd.R_drewN | apply Kd.R_drew)); exact HO736.out) (by first | exact Kd.N_base ho0 | exact Kd.S_base ho0 | exact Kd.R_base ho0) hb); have n4_ := Aside0.mk (Kd.R_lower (Kd.R_new' ho0 (Kd.R_lt (by (with_reducible repeat (first | apply Kd.R_alloc | apply Kd.R_drewN | apply Kd.R_drew)); exact HO736.out))) (below_size (by repeat (first | (with_reducible first | exact HB.out | apply below_alloc | apply pw_below_drewN | apply below_drew1) | exact HB.out)))); have n5_ := Aside0.mk (below_step (by repeat (first | (with_reducible first | exact HB.out | apply below_alloc | apply pw_below_drewN | apply below_drew1) | exact HB.out)) hb); clear HO727; clear HO730; clear HO733; clear HO736; clear HB; have HO727 := n0_; have HO730 := n1_; have HO733 := n2_; have HO736 := n3_; have HO739 := n4_; have HB := n5_; clear n0_ n1_ n2_ n3_ n4_ n5_; (try clear hb); (try clear hb2); (try clear hk); (try clear hi); (try clear ho0)) | ((with_reducible refine gate_callee (f := 56) rfl ?_); refine goesL_ (some 46) rfl rfl Try.func56 (by kernel_rfl) rfl #[.slice A0 l0.length c0] rfl (by (try simp only [List.map_toArray, List.map_cons, List.map_nil]); first | done | rfl | (simp only [List.length_drop, List.length_take]; rfl)) ?_; (with_reducible refine (mult_Indecomposable.calls kj2 _ _ l0 t740 _ ?side1 ?side2 A16.out).mono ?_); (case side1 => repeat (first | exact (Kd.C_below HR0.out HB.out) | (with_reducible refine Kd.C_alloc ?_ _) | (with_reducible refine Kd.C_drewN ?_ _) | (with_reducible refine Kd.C_drew ?_))); (case side2 => exact HC0.out); rintro e w25 ⟨v741, rfl, ho0, hb⟩; refine ⟨_, rfl, ?_⟩; have n0_ := Aside0.mk (Kd.R_elder' (by (with_reducible repeat (first | apply Kd.R_alloc | apply Kd.R_drewN | apply Kd.R_drew)); exact HO727.out) (by first | exact Kd.N_base ho0 | exact Kd.S_base ho0 | exact Kd.R_base ho0) hb); have n1_ := Aside0.mk (Kd.R_elder' (by (with_reducible repeat (first | apply Kd.R_alloc | apply Kd.R_drewN | apply Kd.R_drew)); exact HO730.out) (by first | exact Kd.N_base ho0 | exact Kd.S_base ho0 | exact Kd.R_base ho0) hb); have n2_ := Aside0.mk (Kd.R_elder' (by (with_reducible repeat (first | apply Kd.R_alloc | apply Kd.R_drewN | apply Kd.R_drew)); exact HO733.out) (by first | exact Kd.N_base ho0 | exact Kd.S_base ho0 | exact Kd.R_base ho0) hb); have n3_ := Aside0.mk (Kd.R_below (by (with_reducible repeat (first | apply Kd.R_alloc | apply Kd.R_drewN | apply Kd.R_drew)); exact HO736.out) hb); have n4_ := Aside0.mk (Kd.R_below (by (with_reducible repeat (first | apply Kd.R_alloc | apply Kd.R_drewN | apply Kd.R_drew)); exact HO739.out) hb); have n5_ := Aside0.mk (Kd.R_lower (Kd.R_new' (Kd.R_new' (Kd.R_new' ho0 (Kd.R_lt (by (with_reducible repeat (first | apply Kd.R_alloc | apply Kd.R_drewN | apply Kd.R_drew)); exact HO727.out))) (Kd.R_lt (by (with_reducible repeat (first | apply Kd.R_alloc | apply Kd.R_drewN | apply Kd.R_drew)); exact HO730.out))) (Kd.R_lt (by (with_reducible repeat (first | apply Kd.R_alloc | apply Kd.R_drewN | apply Kd.R_drew)); exact HO733.out))) (below_size (by repeat (first | (with_reducible first | exact HB.out | apply below_alloc | apply pw_below_drewN | apply below_drew1) | exact HB.out)))); have n6_ := Aside0.mk (below_step (by repeat (first | (with_reducible first | exact HB.out | apply below_alloc | apply pw_below_drewN | apply below_drew1) | exact HB.out)) hb); clear HO727; clear HO730; clear HO733; clear HO736; clear HO739; clear HB; have HO727 := n0_; have HO730 := n1_; have HO733 := n2_; have HO736 := n3_; have HO739 := n4_; have HO742 := n5_; have HB := n6_; clear n0_ n1_ n2_ n3_ n4_ n5_ n6_; (try clear hb); (try clear hb2); (try clear hk); (try clear hi); (try clear ho0); obtain ⟨Ao26, co26, eo26⟩ := Kd.R_slice HO742.out; subst eo26))
     obtain ⟨bz6, hbz6⟩ : ∃ b_ : Bool, ((t731.length : Int) == (l0.length : Int)) = b_ := ⟨_, rfl⟩
     rw [hbz6] at H'
     simp only [hbz6]
     clear hbz6
     go_loopg [48] kj2 (fun kq v48 w' => ∃ (x48_2 : Int), v48 = .int .i64 x48_2 ∧ Aside0 (semigrouplaw14_MultNeeds.l0 kq bz6 t734 t737 t740 (t740.length : Int) x48_2 = some r) ∧ Aside0 (kq ≤ kj2) ∧ Aside0 (Kd.R Kd.bool 4 w' w.heap.size (fun k_ => some k_ ≠ (v738 : Value).ownBlock) v735 t734) ∧ Aside0 (Kd.R Kd.bool 4 w' w.heap.size (fun k_ => some k_ ≠ (v735 : Value).ownBlock) v738 t737) ∧ Aside0 (Kd.R (Kd.int .i64) 3 w' w.heap.size (fun _ => True) (.slice Ao26 t740.length co26) t740) ∧ Aside0 (Below w.heap.size w w'))
     case atStart => exact ⟨(0), (by first | rfl | (simp; done) | (simp [*]; done)), H', ⟨Nat.le_refl _⟩, ⟨by (with_reducible repeat (first | apply Kd.R_alloc | apply Kd.R_drewN | apply Kd.R_drew)); exact Kd.R_mono HO736.out (fun _ hk => hk.2)⟩, ⟨by (with_reducible repeat (first | apply Kd.R_alloc | apply Kd.R_drewN | apply Kd.R_drew)); exact Kd.R_mono HO739.out (fun _ hk => hk.2)⟩, ⟨by (with_reducible repeat (first | apply Kd.R_alloc | apply Kd.R_drewN | apply Kd.R_drew)); exact Kd.R_mono HO742.out (fun _ hk => trivial)⟩, ⟨by repeat (first | (with_reducible first | exact HB.out | apply below_alloc | apply pw_below_drewN | apply below_drew1) | exact HB.out)⟩⟩
     case round =>
      clear H'
      try clear c1
      try clear p2
      try clear c3
      try clear c5
      try clear c7
      try clear c12
      try clear c12b0
      try clear c12b1
      try clear c12b2
      try clear c14
      try clear c16
      try clear p2
      obtain ⟨x48_2, rfl, HA, HK2, HO_7, HO_8, HO_46, HB⟩ := hrel
      cases gk with
      | zero => exact absurd HA.out (by simp [semigrouplaw14_MultNeeds.l0])
      | succ k2 =>
       have H := HA.out
       clear HA
       simp only [semigrouplaw14_MultNeeds.l0] at H
       by_cases c27 : x48_2 < (t740.length : Int)
       ·rw [if_pos c27] at H
        have c27b0 : decide (x48_2 < (t740.length : Int)) = true := decide_eq_true c27
        clear c27
        by_cases c28 : 0 ≤ x48_2
        ·rw [if_pos c28] at H
         have c28b0 : decide (0 ≤ x48_2) = true := decide_eq_true c28
         clear c28
         by_cases c29 : x48_2 < (t740.length : Int)
         ·rw [if_pos c29] at H
          have c29b0 : decide (x48_2 < (t740.length : Int)) = true := decide_eq_true c29
          clear c29
          by_cases c30 : 0 ≤ (rd t740 x48_2)
          ·rw [if_pos c30] at H
           have c30b0 : decide (0 ≤ (rd t740 x48_2)) = true := decide_eq_true c30
           clear c30
           by_cases c31 : (rd t740 x48_2) < (t734.length : Int)
           ·rw [if_pos c31] at H
            have c31b0 : decide ((rd t740 x48_2) < (t734.length : Int)) = true := decide_eq_true c31
            clear c31
            obtain ⟨bq32, hbq32⟩ : ∃ b_ : Bool, b_ = (rdOf false t734 (rd t740 x48_2)) := ⟨_, rfl⟩
            replace H : (if (bq32 = true) then (if bz6 = true then (if (rd t740 x48_2) < (t737.length : Int) then (if (rdOf false t737 (rd t740 x48_2) = true) then (semigrouplaw14_MultNeeds.l0 k2 bz6 t734 t737 t740 (t740.length : Int) (wrap64 (x48_2 + 1))) else (some false)) else (none)) else (semigrouplaw14_MultNeeds.l0 k2 bz6 t734 t737 t740 (t740.length : Int) (wrap64 (x48_2 + 1)))) else (some false)) = some r := by rw [← hbq32] at H; exact H
            have Nbq32 := Aside0.mk hbq32
            clear hbq32
            by_cases c33 : (bq32 = true)
            ·subst c33
             have H1 : (if bz6 = true then (if (rd t740 x48_2) < (t737.length : Int) then (if (rdOf false t737 (rd t740 x48_2) = true) then (semigrouplaw14_MultNeeds.l0 k2 bz6 t734 t737 t740 (t740.length : Int) (wrap64 (x48_2 + 1))) else (some false)) else (none)) else (semigrouplaw14_MultNeeds.l0 k2 bz6 t734 t737 t740 (t740.length : Int) (wrap64 (x48_2 + 1)))) = some r := by rw [if_pos rfl] at H; exact H
             clear H
             have H := H1
             clear H1
             by_cases c34 : bz6 = true
             ·rw [if_pos c34] at H
              replace c34 : bz6 = true := by simpa using c34
              subst c34
              by_cases c35 : (rd t740 x48_2) < (t737.length : Int)
              ·rw [if_pos c35] at H
               have c35b0 : decide ((rd t740 x48_2) < (t737.length : Int)) = true := decide_eq_true c35
               clear c35
               obtain ⟨bq36, hbq36⟩ : ∃ b_ : Bool, b_ = (rdOf false t737 (rd t740 x48_2)) := ⟨_, rfl⟩
               replace H : (if (bq36 = true) then (semigrouplaw14_MultNeeds.l0 k2 true t734 t737 t740 (t740.length : Int) (wrap64 (x48_2 + 1))) else (some false)) = some r := by rw [← hbq36] at H; exact H
               have Nbq36 := Aside0.mk hbq36
               clear hbq36
               by_cases c37 : (bq36 = true)
               ·subst c37
                have H1 : (semigrouplaw14_MultNeeds.l0 k2 true t734 t737 t740 (t740.length : Int) (wrap64 (x48_2 + 1))) = some r := by rw [if_pos rfl] at H; exact H
                clear H
                have H := H1
                clear H1
                have H' := Aside0.mk H
                clear H
                have p743 : 0 ≤ (x48_2 : Int) := of_decide_eq_true (by first | (with_reducible assumption) | assumption)
                have q743 : x48_2 < (t740.length : Int) := of_decide_eq_true (by first | (with_reducible assumption) | assumption)
                obtain ⟨ad743, e743, hx743_0⟩ := Kd.at_int (Kd.R_reads' HO_46.out).2.2 x48_2 p743 q743
                cases e743
                replace p743 := eq_true p743
                replace q743 := eq_true q743
                obtain ⟨Ao38, co38, eo38⟩ := Kd.R_slice HO_7.out
                subst eo38
                have p744 : 0 ≤ ((rd t740 x48_2) : Int) := of_decide_eq_true (by first | (with_reducible assumption) | assumption)
                have q744 : (rd t740 x48_2) < (t734.length : Int) := of_decide_eq_true (by first | (with_reducible assumption) | assumption)
                obtain ⟨ad744, e744, hx744_0⟩ := Kd.at_bool (Kd.R_reads' HO_7.out).2.2 (rd t740 x48_2) p744 q744
                (try rw [← Nbq32.out] at hx744_0)
                (try rw [← Nbq36.out] at hx744_0)
                cases e744
                replace p744 := eq_true p744
                replace q744 := eq_true q744
                obtain ⟨Ao39, co39, eo39⟩ := Kd.R_slice HO_8.out
                subst eo39
                have p745 : 0 ≤ ((rd t740 x48_2) : Int) := of_decide_eq_true (by first | (with_reducible assumption) | assumption)
                have q745 : (rd t740 x48_2) < (t737.length : Int) := of_decide_eq_true (by first | (with_reducible assumption) | assumption)
                obtain ⟨ad745, e745, hx745_0⟩ := Kd.at_bool (Kd.R_reads' HO_8.out).2.2 (rd t740 x48_2) p745 q745
                (try rw [← Nbq32.out] at hx745_0)
                (try rw [← Nbq36.out] at hx745_0)
                cases e745
                replace p745 := eq_true p745
                replace q745 := eq_true q745
                go_wp2
                go_roundg k2
                case measure => have := HJ2.out; have := HK2.out; omega
                case rel => exact ⟨(wrap64 (x48_2 + 1)), (by first | rfl | (simp; done) | (simp [*]; done)), H', ⟨by have := HJ2.out; have := HK2.out; omega⟩, ⟨by (with_reducible repeat (first | apply Kd.R_alloc | apply Kd.R_drewN | apply Kd.R_drew)); exact HO_7.out⟩, ⟨by (with_reducible repeat (first | apply Kd.R_alloc | apply Kd.R_drewN | apply Kd.R_drew)); exact HO_8.out⟩, ⟨by (with_reducible repeat (first | apply Kd.R_alloc | apply Kd.R_drewN | apply Kd.R_drew)); exact HO_46.out⟩, ⟨by repeat (first | (with_reducible first | exact HB.out | apply below_alloc | apply pw_below_drewN | apply below_drew1) | exact HB.out)⟩⟩
               ·replace c37 := Bool.eq_false_iff.mpr c37
                subst c37
                have H1 : (some false) = some r := by rw [if_neg (show ¬ (false = true) by decide)] at H; exact H
                clear H
                have H := H1
                clear H1
                obtain rfl := Option.some.inj H
                have p743 : 0 ≤ (x48_2 : Int) := of_decide_eq_true (by first | (with_reducible assumption) | assumption)
                have q743 : x48_2 < (t740.length : Int) := of_decide_eq_true (by first | (with_reducible assumption) | assumption)
                obtain ⟨ad743, e743, hx743_0⟩ := Kd.at_int (Kd.R_reads' HO_46.out).2.2 x48_2 p743 q743
                cases e743
                replace p743 := eq_true p743
                replace q743 := eq_true q743
                obtain ⟨Ao40, co40, eo40⟩ := Kd.R_slice HO_7.out
                subst eo40
                have p744 : 0 ≤ ((rd t740 x48_2) : Int) := of_decide_eq_true (by first | (with_reducible assumption) | assumption)
                have q744 : (rd t740 x48_2) < (t734.length : Int) := of_decide_eq_true (by first | (with_reducible assumption) | assumption)
                obtain ⟨ad744, e744, hx744_0⟩ := Kd.at_bool (Kd.R_reads' HO_7.out).2.2 (rd t740 x48_2) p744 q744
                (try rw [← Nbq32.out] at hx744_0)
                (try rw [← Nbq36.out] at hx744_0)
                cases e744
                replace p744 := eq_true p744
                replace q744 := eq_true q744
                obtain ⟨Ao41, co41, eo41⟩ := Kd.R_slice HO_8.out
                subst eo41
                have p745 : 0 ≤ ((rd t740 x48_2) : Int) := of_decide_eq_true (by first | (with_reducible assumption) | assumption)
                have q745 : (rd t740 x48_2) < (t737.length : Int) := of_decide_eq_true (by first | (with_reducible assumption) | assumption)
                obtain ⟨ad745, e745, hx745_0⟩ := Kd.at_bool (Kd.R_reads' HO_8.out).2.2 (rd t740 x48_2) p745 q745
                (try rw [← Nbq32.out] at hx745_0)
                (try rw [← Nbq36.out] at hx745_0)
                cases e745
                replace p745 := eq_true p745
                replace q745 := eq_true q745
                go_wp2
                go_ret
                exact ⟨by first | rfl | (simp [errW_none, errW_some] <;> rfl) | (simp [*, errW_none, errW_some] <;> rfl), by repeat (first | (with_reducible first | exact HB.out | apply below_alloc | apply pw_below_drewN | apply below_drew1) | exact HB.out)⟩
              ·rw [if_neg c35] at H
               exact absurd H (by simp)
             ·rw [if_neg c34] at H
              replace c34 : bz6 = false := by simpa using c34
              subst c34
              have H' := Aside0.mk H
              clear H
              have p743 : 0 ≤ (x48_2 : Int) := of_decide_eq_true (by first | (with_reducible assumption) | assumption)
              have q743 : x48_2 < (t740.length : Int) := of_decide_eq_true (by first | (with_reducible assumption) | assumption)
              obtain ⟨ad743, e743, hx743_0⟩ := Kd.at_int (Kd.R_reads' HO_46.out).2.2 x48_2 p743 q743
              cases e743
              replace p743 := eq_true p743
              replace q743 := eq_true q743
              obtain ⟨Ao42, co42, eo42⟩ := Kd.R_slice HO_7.out
              subst eo42
              have p744 : 0 ≤ ((rd t740 x48_2) : Int) := of_decide_eq_true (by first | (with_reducible assumption) | assumption)
              have q744 : (rd t740 x48_2) < (t734.length : Int) := of_decide_eq_true (by first | (with_reducible assumption) | assumption)
              obtain ⟨ad744, e744, hx744_0⟩ := Kd.at_bool (Kd.R_reads' HO_7.out).2.2 (rd t740 x48_2) p744 q744
              (try rw [← Nbq32.out] at hx744_0)
              cases e744
              replace p744 := eq_true p744
              replace q744 := eq_true q744
              go_wp2
              go_roundg k2
              case measure => have := HJ2.out; have := HK2.out; omega
              case rel => exact ⟨(wrap64 (x48_2 + 1)), (by first | rfl | (simp; done) | (simp [*]; done)), H', ⟨by have := HJ2.out; have := HK2.out; omega⟩, ⟨by (with_reducible repeat (first | apply Kd.R_alloc | apply Kd.R_drewN | apply Kd.R_drew)); exact HO_7.out⟩, ⟨by (with_reducible repeat (first | apply Kd.R_alloc | apply Kd.R_drewN | apply Kd.R_drew)); exact HO_8.out⟩, ⟨by (with_reducible repeat (first | apply Kd.R_alloc | apply Kd.R_drewN | apply Kd.R_drew)); exact HO_46.out⟩, ⟨by repeat (first | (with_reducible first | exact HB.out | apply below_alloc | apply pw_below_drewN | apply below_drew1) | exact HB.out)⟩⟩
            ·replace c33 := Bool.eq_false_iff.mpr c33
             subst c33
             have H1 : (some false) = some r := by rw [if_neg (show ¬ (false = true) by decide)] at H; exact H
             clear H
             have H := H1
             clear H1
             obtain rfl := Option.some.inj H
             have p743 : 0 ≤ (x48_2 : Int) := of_decide_eq_true (by first | (with_reducible assumption) | assumption)
             have q743 : x48_2 < (t740.length : Int) := of_decide_eq_true (by first | (with_reducible assumption) | assumption)
             obtain ⟨ad743, e743, hx743_0⟩ := Kd.at_int (Kd.R_reads' HO_46.out).2.2 x48_2 p743 q743
             cases e743
             replace p743 := eq_true p743
             replace q743 := eq_true q743
             obtain ⟨Ao43, co43, eo43⟩ := Kd.R_slice HO_7.out
             subst eo43
             have p744 : 0 ≤ ((rd t740 x48_2) : Int) := of_decide_eq_true (by first | (with_reducible assumption) | assumption)
             have q744 : (rd t740 x48_2) < (t734.length : Int) := of_decide_eq_true (by first | (with_reducible assumption) | assumption)
             obtain ⟨ad744, e744, hx744_0⟩ := Kd.at_bool (Kd.R_reads' HO_7.out).2.2 (rd t740 x48_2) p744 q744
             (try rw [← Nbq32.out] at hx744_0)
             cases e744
             replace p744 := eq_true p744
             replace q744 := eq_true q744
             go_wp2
             go_ret
             exact ⟨by first | rfl | (simp [errW_none, errW_some] <;> rfl) | (simp [*, errW_none, errW_some] <;> rfl), by repeat (first | (with_reducible first | exact HB.out | apply below_alloc | apply pw_below_drewN | apply below_drew1) | exact HB.out)⟩
           ·rw [if_neg c31] at H
            exact absurd H (by simp)
          ·rw [if_neg c30] at H
           exact absurd H (by simp)
         ·rw [if_neg c29] at H
          exact absurd H (by simp)
        ·rw [if_neg c28] at H
         exact absurd H (by simp)
       ·rw [if_neg c27] at H
        have c27b0 : decide (x48_2 < (t740.length : Int)) = false := decide_eq_false c27
        clear c27
        replace H := Option.bind_eq_some_iff.mp H
        obtain ⟨t746, A440, H⟩ := H
        replace H : (some t746) = some r := H
        have A44 := Aside0.mk A440
        clear A440
        obtain rfl := Option.some.inj H
        go_wp2_with (first | ((with_reducible refine gate_callee (f := 16) rfl ?_); refine goesL_ (some 68) rfl rfl Try.func16 (by kernel_rfl) rfl #[] rfl (by (try simp only [List.map_toArray, List.map_cons, List.map_nil]); first | done | rfl | (simp only [List.length_drop, List.length_take]; rfl)) ?_; (with_reducible refine (semigrouplaw14_awake.calls k2  t746 _ A44.out).mono ?_); rintro e w45 ⟨rfl, hb⟩; refine ⟨_, rfl, ?_⟩; have n0_ := Aside0.mk (Kd.R_below (by (with_reducible repeat (first | apply Kd.R_alloc | apply Kd.R_drewN | apply Kd.R_drew)); exact HO_7.out) hb); have n1_ := Aside0.mk (Kd.R_below (by (with_reducible repeat (first | apply Kd.R_alloc | apply Kd.R_drewN | apply Kd.R_drew)); exact HO_8.out) hb); have n2_ := Aside0.mk (Kd.R_below (by (with_reducible repeat (first | apply Kd.R_alloc | apply Kd.R_drewN | apply Kd.R_drew)); exact HO_46.out) hb); have n3_ := Aside0.mk (below_step (by repeat (first | (with_reducible first | exact HB.out | apply below_alloc | apply pw_below_drewN | apply below_drew1) | exact HB.out)) hb); clear HO_7; clear HO_8; clear HO_46; clear HB; have HO_7 := n0_; have HO_8 := n1_; have HO_46 := n2_; have HB := n3_; clear n0_ n1_ n2_ n3_; (try clear hb); (try clear hb2); (try clear hk); (try clear hi)))
        go_ret
        exact ⟨by first | rfl | (simp [errW_none, errW_some] <;> rfl) | (simp [*, errW_none, errW_some] <;> rfl), by repeat (first | (with_reducible first | exact HB.out | apply below_alloc | apply pw_below_drewN | apply below_drew1) | exact HB.out)⟩
    ·rw [if_neg c12] at H
     have c12b0 : ((t728.length : Int) == (l0.length : Int)) = false := beq_eq_false_iff_ne.mpr c12
     have c12b1 : ((t728.length : Int) != (l0.length : Int)) = true := bne_iff_ne.mpr c12
     have c12b2 : (t728.length == l0.length) = false := by first | simpa using c12 | (simp at c12 ⊢; omega)
     obtain rfl := Option.some.inj H
     go_wp2_with (first | ((with_reducible refine gate_callee (f := 55) rfl ?_); refine goesL_ (some 22) rfl rfl Try.func55 (by kernel_rfl) rfl #[.slice A0 l0.length c0] rfl (by (try simp only [List.map_toArray, List.map_cons, List.map_nil]); first | done | rfl | (simp only [List.length_drop, List.length_take]; rfl)) ?_; (with_reducible refine (mult_Generators.calls kj2 _ _ l0 t725 _ ?side1 ?side2 A10.out).mono ?_); (case side1 => repeat (first | exact (Kd.C_below HR0.out HB.out) | (with_reducible refine Kd.C_alloc ?_ _) | (with_reducible refine Kd.C_drewN ?_ _) | (with_reducible refine Kd.C_drew ?_))); (case side2 => exact HC0.out); rintro e w46 ⟨v726, rfl, ho0, hb⟩; refine ⟨_, rfl, ?_⟩; have n0_ := Aside0.mk (Kd.R_lower ho0 (below_size (by repeat (first | (with_reducible first | exact HB.out | apply below_alloc | apply pw_below_drewN | apply below_drew1) | exact HB.out)))); have n1_ := Aside0.mk (below_step (by repeat (first | (with_reducible first | exact HB.out | apply below_alloc | apply pw_below_drewN | apply below_drew1) | exact HB.out)) hb); clear HB; have HO727 := n0_; have HB := n1_; clear n0_ n1_; (try clear hb); (try clear hb2); (try clear hk); (try clear hi); (try clear ho0); obtain ⟨Ao47, co47, eo47⟩ := Kd.R_slice HO727.out; subst eo47) | ((with_reducible refine gate_callee (f := 51) rfl ?_); refine goesL_ (some 25) rfl rfl Try.func51 (by kernel_rfl) rfl #[.slice A0 l0.length c0, .slice Ao47 t725.length co47] rfl (by (try simp only [List.map_toArray, List.map_cons, List.map_nil]); first | done | rfl | (simp only [List.length_drop, List.length_take]; rfl)) ?_; (with_reducible refine (mult_Generated.calls kj2 _ _ l0 _ _ t725 t728 _ ?side1 ?side2 ?side3 ?side4 A11.out).mono ?_); (case side1 => repeat (first | exact (Kd.C_below HR0.out HB.out) | (with_reducible refine Kd.C_alloc ?_ _) | (with_reducible refine Kd.C_drewN ?_ _) | (with_reducible refine Kd.C_drew ?_))); (case side2 => exact HC0.out); (case side3 => repeat (first | exact (Kd.R_reads' HO727.out).2.2 | (with_reducible refine Kd.C_alloc ?_ _) | (with_reducible refine Kd.C_drewN ?_ _) | (with_reducible refine Kd.C_drew ?_))); (case side4 => exact (Kd.R_reads' HO727.out).2.1); rintro e w48 ⟨v729, rfl, ho0, hb⟩; refine ⟨_, rfl, ?_⟩; have n0_ := Aside0.mk (Kd.R_elder' (by (with_reducible repeat (first | apply Kd.R_alloc | apply Kd.R_drewN | apply Kd.R_drew)); exact HO727.out) (by first | exact Kd.N_base ho0 | exact Kd.S_base ho0 | exact Kd.R_base ho0) hb); have n1_ := Aside0.mk (Kd.R_lower (Kd.R_new' ho0 (Kd.R_lt (by (with_reducible repeat (first | apply Kd.R_alloc | apply Kd.R_drewN | apply Kd.R_drew)); exact HO727.out))) (below_size (by repeat (first | (with_reducible first | exact HB.out | apply below_alloc | apply pw_below_drewN | apply below_drew1) | exact HB.out)))); have n2_ := Aside0.mk (below_step (by repeat (first | (with_reducible first | exact HB.out | apply below_alloc | apply pw_below_drewN | apply below_drew1) | exact HB.out)) hb); clear HO727; clear HB; have HO727 := n0_; have HO730 := n1_; have HB := n2_; clear n0_ n1_ n2_; (try clear hb); (try clear hb2); (try clear hk); (try clear hi); (try clear ho0); obtain ⟨Ao49, co49, eo49⟩ := Kd.R_slice HO730.out; subst eo49))
     go_ret
     exact ⟨by first | rfl | (simp [errW_none, errW_some] <;> rfl) | (simp [*, errW_none, errW_some] <;> rfl), by repeat (first | (with_reducible first | exact HB.out | apply below_alloc | apply pw_below_drewN | apply below_drew1) | exact HB.out)⟩


end Go.Proofs.Ytlhckcldeojfmaa.PAll
