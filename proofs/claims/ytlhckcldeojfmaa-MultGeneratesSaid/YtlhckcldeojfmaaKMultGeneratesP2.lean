-- printed for this claim out of the translation; Lean checks it
import Derived.Test.YtlhckcldeojfmaaKMultGeneratesP1
namespace Go.Proofs.Ytlhckcldeojfmaa.PAll
open Go.RowKit Go.Proofs.YtlhckcldeojfmaaW.PrintWords Go.Proofs.YtlhckcldeojfmaaW.PrintLast Go.Proofs.YtlhckcldeojfmaaW.PrintMore
attribute [local go_sem] max2_int min2_int max_two min_two max_three min_three max_four min_four   -- for this text's walks alone
set_option linter.unusedVariables false
set_option linter.unusedSimpArgs false
/-! ### semigroupref14_Generated: function 41 -/
mutual
def semigroupref14_Generated.l0 : Nat → List (List Int) → List Bool → Bool → Option (List Int)
 | 0, _, _, _ => none
 | k + 1, x0, x5, x6 => if x6 = true then (semigroupref14_Generated.l1 k x0 x5 false (x0.length : Int) 0) else ((semigroupref03_Members.f k x5).bind fun t385 => (some t385))
def semigroupref14_Generated.l1 : Nat → List (List Int) → List Bool → Bool → Int → Int → Option (List Int)
 | 0, _, _, _, _, _ => none
 | k + 1, x0, x5, x6, x15, x16 => if x16 < x15 then (semigroupref14_Generated.l2 k x0 x5 x6 x16 x15 x16 (x0.length : Int) 0) else (semigroupref14_Generated.l0 k x0 x5 x6)
def semigroupref14_Generated.l2 : Nat → List (List Int) → List Bool → Bool → Int → Int → Int → Int → Int → Option (List Int)
 | 0, _, _, _, _, _, _, _, _ => none
 | k + 1, x0, x5, x6, x7, x15, x16, x20, x21 => if x21 < x20 then (if 0 ≤ x7 then (if x7 < (x5.length : Int) then (if rdOf false x5 x7 = true then (if 0 ≤ x21 then (if x21 < (x5.length : Int) then (if rdOf false x5 x21 = true then (if x7 < (x0.length : Int) then (if x21 < ((rd_L1 x0 x7).length : Int) then (if 0 ≤ (rd (rd_L1 x0 x7) x21) then (if (rd (rd_L1 x0 x7) x21) < (x5.length : Int) then (if (rdOf false x5 (rd (rd_L1 x0 x7) x21) = true) then (semigroupref14_Generated.l2 k x0 x5 x6 x7 x15 x16 x20 (wrap64 (x21 + 1))) else (semigroupref14_Generated.l2 k x0 (x5.set ((rd (rd_L1 x0 x7) x21) : Int).toNat true) true x7 x15 x16 x20 (wrap64 (x21 + 1)))) else (none)) else (none)) else (none)) else (none)) else (semigroupref14_Generated.l2 k x0 x5 x6 x7 x15 x16 x20 (wrap64 (x21 + 1)))) else (none)) else (none)) else (semigroupref14_Generated.l2 k x0 x5 x6 x7 x15 x16 x20 (wrap64 (x21 + 1)))) else (none)) else (none)) else (semigroupref14_Generated.l1 k x0 x5 x6 x15 (wrap64 (x16 + 1)))
end
def semigroupref14_Generated.f (k : Nat) (l0 : List (List Int)) (l1 : List Int) : Option (List Int) := (semigroupref03_Set.f k l1 (l0.length : Int)).bind fun t382 => (semigroupref14_Generated.l0 k l0 t382 true)
theorem semigroupref14_Generated.mono_l : ∀ k, (∀ y0 y1 y2, LeO (semigroupref14_Generated.l0 k y0 y1 y2) (semigroupref14_Generated.l0 (k + 1) y0 y1 y2)) ∧ (∀ y0 y1 y2 y3 y4, LeO (semigroupref14_Generated.l1 k y0 y1 y2 y3 y4) (semigroupref14_Generated.l1 (k + 1) y0 y1 y2 y3 y4)) ∧ (∀ y0 y1 y2 y3 y4 y5 y6 y7, LeO (semigroupref14_Generated.l2 k y0 y1 y2 y3 y4 y5 y6 y7) (semigroupref14_Generated.l2 (k + 1) y0 y1 y2 y3 y4 y5 y6 y7))
 | 0 => ⟨fun _ _ _ r h => by simp [semigroupref14_Generated.l0] at h, fun _ _ _ _ _ r h => by simp [semigroupref14_Generated.l1] at h, fun _ _ _ _ _ _ _ _ r h => by simp [semigroupref14_Generated.l2] at h⟩
 | k + 1 => by
  obtain ⟨ih0, ih1, ih2⟩ := semigroupref14_Generated.mono_l k
  refine ⟨?_, ?_, ?_⟩
  ·intro y0 y1 y2
   unfold semigroupref14_Generated.l0
   repeat' first
   | (with_reducible exact ih0 _ _ _)
   | (with_reducible exact ih1 _ _ _ _ _)
   | (with_reducible exact ih2 _ _ _ _ _ _ _ _)
   | (with_reducible exact semigroupref03_Members.mono _ _)
   | (with_reducible exact semigroupref03_Set.mono _ _ _)
   | (with_reducible exact LeO.refl _)
   | (with_reducible exact LeO.none _)
   | (with_reducible refine LeO.ite ?_ ?_)
   | (with_reducible refine LeO.bind ?_ (fun _ => ?_))
   | exact ih0 _ _ _
   | exact ih1 _ _ _ _ _
   | exact ih2 _ _ _ _ _ _ _ _
   | exact semigroupref03_Members.mono _ _
   | exact semigroupref03_Set.mono _ _ _
   | exact LeO.none _
   | refine LeO.ite ?_ ?_
   | refine LeO.bind ?_ (fun _ => ?_)
  ·intro y0 y1 y2 y3 y4
   unfold semigroupref14_Generated.l1
   repeat' first
   | (with_reducible exact ih0 _ _ _)
   | (with_reducible exact ih1 _ _ _ _ _)
   | (with_reducible exact ih2 _ _ _ _ _ _ _ _)
   | (with_reducible exact semigroupref03_Members.mono _ _)
   | (with_reducible exact semigroupref03_Set.mono _ _ _)
   | (with_reducible exact LeO.refl _)
   | (with_reducible exact LeO.none _)
   | (with_reducible refine LeO.ite ?_ ?_)
   | (with_reducible refine LeO.bind ?_ (fun _ => ?_))
   | exact ih0 _ _ _
   | exact ih1 _ _ _ _ _
   | exact ih2 _ _ _ _ _ _ _ _
   | exact semigroupref03_Members.mono _ _
   | exact semigroupref03_Set.mono _ _ _
   | exact LeO.none _
   | refine LeO.ite ?_ ?_
   | refine LeO.bind ?_ (fun _ => ?_)
  ·intro y0 y1 y2 y3 y4 y5 y6 y7
   unfold semigroupref14_Generated.l2
   repeat' first
   | (with_reducible exact ih0 _ _ _)
   | (with_reducible exact ih1 _ _ _ _ _)
   | (with_reducible exact ih2 _ _ _ _ _ _ _ _)
   | (with_reducible exact semigroupref03_Members.mono _ _)
   | (with_reducible exact semigroupref03_Set.mono _ _ _)
   | (with_reducible exact LeO.refl _)
   | (with_reducible exact LeO.none _)
   | (with_reducible refine LeO.ite ?_ ?_)
   | (with_reducible refine LeO.bind ?_ (fun _ => ?_))
   | exact ih0 _ _ _
   | exact ih1 _ _ _ _ _
   | exact ih2 _ _ _ _ _ _ _ _
   | exact semigroupref03_Members.mono _ _
   | exact semigroupref03_Set.mono _ _ _
   | exact LeO.none _
   | refine LeO.ite ?_ ?_
   | refine LeO.bind ?_ (fun _ => ?_)
theorem semigroupref14_Generated.mono : ∀ a0 a1 k, LeO (semigroupref14_Generated.f k a0 a1) (semigroupref14_Generated.f (k + 1) a0 a1) := by
 intro a0 a1 k
 obtain ⟨ih0, ih1, ih2⟩ := semigroupref14_Generated.mono_l k
 unfold semigroupref14_Generated.f
 repeat' first
   | (with_reducible exact ih0 _ _ _)
   | (with_reducible exact ih1 _ _ _ _ _)
   | (with_reducible exact ih2 _ _ _ _ _ _ _ _)
   | (with_reducible exact semigroupref03_Members.mono _ _)
   | (with_reducible exact semigroupref03_Set.mono _ _ _)
   | (with_reducible exact LeO.refl _)
   | (with_reducible exact LeO.none _)
   | (with_reducible refine LeO.ite ?_ ?_)
   | (with_reducible refine LeO.bind ?_ (fun _ => ?_))
   | exact ih0 _ _ _
   | exact ih1 _ _ _ _ _
   | exact ih2 _ _ _ _ _ _ _ _
   | exact semigroupref03_Members.mono _ _
   | exact semigroupref03_Set.mono _ _ _
   | exact LeO.none _
   | refine LeO.ite ?_ ?_
   | refine LeO.bind ?_ (fun _ => ?_)
set_option maxHeartbeats 8000000 in
set_option maxRecDepth 100000 in
theorem semigroupref14_Generated.calls (k : Nat) (A0 : Option Addr) (c0 : Nat) (l0 : List (List Int)) (A1 : Option Addr) (c1 : Nat) (l1 : List Int) (r : List Int) (w : World) (hr0 : Kd.C (Kd.slice 3 (Kd.int .i64)) w A0 l0.length l0) (hc0 : l0.length ≤ c0) (hr1 : Kd.C (Kd.int .i64) w A1 l1.length l1) (hc1 : l1.length ≤ c1) (h : semigroupref14_Generated.f k l0 l1 = some r) :
  Calls Try.prog 41 #[.slice A0 l0.length c0, .slice A1 l1.length c1] w fun e w' => ∃ v0_ : Value, e = .returned (v0_) ∧ Kd.R (Kd.int .i64) 3 w' w.heap.size (fun _ => True) v0_ r ∧ Below w.heap.size w w' := by
 have HR0 := Aside0.mk hr0
 have HC0 := Aside0.mk hc0
 (try clear hr0); (try clear hc0)
 have HR1 := Aside0.mk hr1
 have HC1 := Aside0.mk hc1
 (try clear hr1); (try clear hc1)
 have HB := Aside0.mk (Below.refl w.heap.size w)
 have H : ((semigroupref03_Set.f k l1 (l0.length : Int)).bind fun t382 => (semigroupref14_Generated.l0 k l0 t382 true)) = some r := h
 clear h
 replace H := Option.bind_eq_some_iff.mp H
 obtain ⟨t382, A30, H⟩ := H
 replace H : (semigroupref14_Generated.l0 k l0 t382 true) = some r := H
 have A3 := Aside0.mk A30
 clear A30
 have H' := Aside0.mk H
 clear H
 go_enter Try.func41, Try.ntmps41
 go_wp2_with (first | ((with_reducible refine gate_callee (f := 54) rfl ?_); refine goesL_ (some 12) rfl rfl Try.func54 (by kernel_rfl) rfl #[.slice A1 l1.length c1, .int .i64 (l0.length : Int)] rfl (by (try simp only [List.map_toArray, List.map_cons, List.map_nil]); first | done | rfl | (simp only [List.length_drop, List.length_take]; rfl)) ?_; (with_reducible refine (semigroupref03_Set.calls k _ _ l1 (l0.length : Int) t382 _ ?side1 ?side2 A3.out).mono ?_); (case side1 => repeat (first | exact HR1.out | (with_reducible refine Kd.C_alloc ?_ _) | (with_reducible refine Kd.C_drewN ?_ _) | (with_reducible refine Kd.C_drew ?_))); (case side2 => exact HC1.out); rintro e w4 ⟨v383, rfl, ho0, hb⟩; refine ⟨_, rfl, ?_⟩; have n0_ := Aside0.mk (Kd.R_lower ho0 (below_size (by repeat (first | (with_reducible first | exact HB.out | apply below_alloc | apply pw_below_drewN | apply below_drew1) | exact HB.out)))); have n1_ := Aside0.mk (below_step (by repeat (first | (with_reducible first | exact HB.out | apply below_alloc | apply pw_below_drewN | apply below_drew1) | exact HB.out)) hb); clear HB; have HO384 := n0_; have HB := n1_; clear n0_ n1_; (try clear hb); (try clear hb2); (try clear hk); (try clear hi); (try clear ho0)))
 go_loopg [6] k (fun kq v6 w' => ∃ (x5_1 : List Bool) (x6_1 : Bool), v6 = .bool x6_1 ∧ Aside0 (semigroupref14_Generated.l0 kq l0 x5_1 x6_1 = some r) ∧ Aside0 (kq ≤ k) ∧ Aside0 (Kd.R Kd.bool 4 w' w.heap.size (fun _ => True) v383 x5_1) ∧ Aside0 (Below w.heap.size w w'))
 case atStart => exact ⟨(t382), (true), (by first | rfl | (simp; done) | (simp [*]; done)), H', ⟨Nat.le_refl _⟩, ⟨by (with_reducible repeat (first | apply Kd.R_alloc | apply Kd.R_drewN | apply Kd.R_drew)); exact HO384.out⟩, ⟨by repeat (first | (with_reducible first | exact HB.out | apply below_alloc | apply pw_below_drewN | apply below_drew1) | exact HB.out)⟩⟩
 case round =>
  clear H'
  try clear c1
  try clear p2
  try clear c4
  obtain ⟨x5_1, x6_1, rfl, HA, HK1, HO_5, HB⟩ := hrel
  cases gk with
  | zero => exact absurd HA.out (by simp [semigroupref14_Generated.l0])
  | succ k1 =>
   have H := HA.out
   clear HA
   simp only [semigroupref14_Generated.l0] at H
   by_cases c5 : x6_1 = true
   ·subst c5
    have H1 : (semigroupref14_Generated.l1 k1 l0 x5_1 false (l0.length : Int) 0) = some r := by rw [if_pos rfl] at H; exact H
    clear H
    have H := H1
    clear H1
    have H' := Aside0.mk H
    clear H
    go_wp2
    go_loopg [6, 16] k1 (fun kq v6 v16 w' => ∃ (x5_2 : List Bool) (x6_2 : Bool) (x16_2 : Int), v6 = .bool x6_2 ∧ v16 = .int .i64 x16_2 ∧ Aside0 (semigroupref14_Generated.l1 kq l0 x5_2 x6_2 (l0.length : Int) x16_2 = some r) ∧ Aside0 (kq ≤ k1) ∧ Aside0 (Kd.R Kd.bool 4 w' w.heap.size (fun _ => True) v383 x5_2) ∧ Aside0 (Below w.heap.size w w'))
    case atStart => exact ⟨(x5_1), (false), (0), (by first | rfl | (simp; done) | (simp [*]; done)), (by first | rfl | (simp; done) | (simp [*]; done)), H', ⟨Nat.le_refl _⟩, ⟨by (with_reducible repeat (first | apply Kd.R_alloc | apply Kd.R_drewN | apply Kd.R_drew)); exact HO_5.out⟩, ⟨by repeat (first | (with_reducible first | exact HB.out | apply below_alloc | apply pw_below_drewN | apply below_drew1) | exact HB.out)⟩⟩
    case round =>
     clear H'
     try clear c1
     try clear p2
     try clear c4
     try clear c5
     try clear p2
     obtain ⟨x5_2, x6_2, x16_2, rfl, rfl, HA, HK2, HO_5, HB⟩ := hrel
     cases gk with
     | zero => exact absurd HA.out (by simp [semigroupref14_Generated.l1])
     | succ k2 =>
      have H := HA.out
      clear HA
      simp only [semigroupref14_Generated.l1] at H
      by_cases c6 : x16_2 < (l0.length : Int)
      ·rw [if_pos c6] at H
       have c6b0 : decide (x16_2 < (l0.length : Int)) = true := decide_eq_true c6
       clear c6
       have H' := Aside0.mk H
       clear H
       go_wp2
       go_loopg [6, 21] k2 (fun kq v6 v21 w' => ∃ (x5_3 : List Bool) (x6_3 : Bool) (x21_3 : Int), v6 = .bool x6_3 ∧ v21 = .int .i64 x21_3 ∧ Aside0 (semigroupref14_Generated.l2 kq l0 x5_3 x6_3 x16_2 (l0.length : Int) x16_2 (l0.length : Int) x21_3 = some r) ∧ Aside0 (kq ≤ k2) ∧ Aside0 (Kd.R Kd.bool 4 w' w.heap.size (fun _ => True) v383 x5_3) ∧ Aside0 (Below w.heap.size w w'))
       case atStart => exact ⟨(x5_2), (x6_2), (0), (by first | rfl | (simp; done) | (simp [*]; done)), (by first | rfl | (simp; done) | (simp [*]; done)), H', ⟨Nat.le_refl _⟩, ⟨by (with_reducible repeat (first | apply Kd.R_alloc | apply Kd.R_drewN | apply Kd.R_drew)); exact HO_5.out⟩, ⟨by repeat (first | (with_reducible first | exact HB.out | apply below_alloc | apply pw_below_drewN | apply below_drew1) | exact HB.out)⟩⟩
       case round =>
        clear H'
        try clear c1
        try clear p2
        try clear c4
        try clear c5
        try clear c6
        try clear c6b0
        try clear p2
        obtain ⟨x5_3, x6_3, x21_3, rfl, rfl, HA, HK3, HO_5, HB⟩ := hrel
        cases gk with
        | zero => exact absurd HA.out (by simp [semigroupref14_Generated.l2])
        | succ k3 =>
         have H := HA.out
         clear HA
         simp only [semigroupref14_Generated.l2] at H
         by_cases c7 : x21_3 < (l0.length : Int)
         ·rw [if_pos c7] at H
          have c7b0 : decide (x21_3 < (l0.length : Int)) = true := decide_eq_true c7
          clear c7
          by_cases c8 : 0 ≤ x16_2
          ·rw [if_pos c8] at H
           have c8b0 : decide (0 ≤ x16_2) = true := decide_eq_true c8
           clear c8
           by_cases c9 : x16_2 < (x5_3.length : Int)
           ·rw [if_pos c9] at H
            have c9b0 : decide (x16_2 < (x5_3.length : Int)) = true := decide_eq_true c9
            clear c9
            obtain ⟨bq10, hbq10⟩ : ∃ b_ : Bool, b_ = (rdOf false x5_3 x16_2) := ⟨_, rfl⟩
            replace H : (if bq10 = true then (if 0 ≤ x21_3 then (if x21_3 < (x5_3.length : Int) then (if rdOf false x5_3 x21_3 = true then (if x16_2 < (l0.length : Int) then (if x21_3 < ((rd_L1 l0 x16_2).length : Int) then (if 0 ≤ (rd (rd_L1 l0 x16_2) x21_3) then (if (rd (rd_L1 l0 x16_2) x21_3) < (x5_3.length : Int) then (if (rdOf false x5_3 (rd (rd_L1 l0 x16_2) x21_3) = true) then (semigroupref14_Generated.l2 k3 l0 x5_3 x6_3 x16_2 (l0.length : Int) x16_2 (l0.length : Int) (wrap64 (x21_3 + 1))) else (semigroupref14_Generated.l2 k3 l0 (x5_3.set ((rd (rd_L1 l0 x16_2) x21_3) : Int).toNat true) true x16_2 (l0.length : Int) x16_2 (l0.length : Int) (wrap64 (x21_3 + 1)))) else (none)) else (none)) else (none)) else (none)) else (semigroupref14_Generated.l2 k3 l0 x5_3 x6_3 x16_2 (l0.length : Int) x16_2 (l0.length : Int) (wrap64 (x21_3 + 1)))) else (none)) else (none)) else (semigroupref14_Generated.l2 k3 l0 x5_3 x6_3 x16_2 (l0.length : Int) x16_2 (l0.length : Int) (wrap64 (x21_3 + 1)))) = some r := by rw [← hbq10] at H; exact H
            have Nbq10 := Aside0.mk hbq10
            clear hbq10
            by_cases c11 : bq10 = true
            ·subst c11
             have H1 : (if 0 ≤ x21_3 then (if x21_3 < (x5_3.length : Int) then (if rdOf false x5_3 x21_3 = true then (if x16_2 < (l0.length : Int) then (if x21_3 < ((rd_L1 l0 x16_2).length : Int) then (if 0 ≤ (rd (rd_L1 l0 x16_2) x21_3) then (if (rd (rd_L1 l0 x16_2) x21_3) < (x5_3.length : Int) then (if (rdOf false x5_3 (rd (rd_L1 l0 x16_2) x21_3) = true) then (semigroupref14_Generated.l2 k3 l0 x5_3 x6_3 x16_2 (l0.length : Int) x16_2 (l0.length : Int) (wrap64 (x21_3 + 1))) else (semigroupref14_Generated.l2 k3 l0 (x5_3.set ((rd (rd_L1 l0 x16_2) x21_3) : Int).toNat true) true x16_2 (l0.length : Int) x16_2 (l0.length : Int) (wrap64 (x21_3 + 1)))) else (none)) else (none)) else (none)) else (none)) else (semigroupref14_Generated.l2 k3 l0 x5_3 x6_3 x16_2 (l0.length : Int) x16_2 (l0.length : Int) (wrap64 (x21_3 + 1)))) else (none)) else (none)) = some r := by rw [if_pos rfl] at H; exact H
             clear H
             have H := H1
             clear H1
             by_cases c12 : 0 ≤ x21_3
             ·rw [if_pos c12] at H
              have c12b0 : decide (0 ≤ x21_3) = true := decide_eq_true c12
              clear c12
              by_cases c13 : x21_3 < (x5_3.length : Int)
              ·rw [if_pos c13] at H
               have c13b0 : decide (x21_3 < (x5_3.length : Int)) = true := decide_eq_true c13
               clear c13
               obtain ⟨bq14, hbq14⟩ : ∃ b_ : Bool, b_ = (rdOf false x5_3 x21_3) := ⟨_, rfl⟩
               replace H : (if bq14 = true then (if x16_2 < (l0.length : Int) then (if x21_3 < ((rd_L1 l0 x16_2).length : Int) then (if 0 ≤ (rd (rd_L1 l0 x16_2) x21_3) then (if (rd (rd_L1 l0 x16_2) x21_3) < (x5_3.length : Int) then (if (rdOf false x5_3 (rd (rd_L1 l0 x16_2) x21_3) = true) then (semigroupref14_Generated.l2 k3 l0 x5_3 x6_3 x16_2 (l0.length : Int) x16_2 (l0.length : Int) (wrap64 (x21_3 + 1))) else (semigroupref14_Generated.l2 k3 l0 (x5_3.set ((rd (rd_L1 l0 x16_2) x21_3) : Int).toNat true) true x16_2 (l0.length : Int) x16_2 (l0.length : Int) (wrap64 (x21_3 + 1)))) else (none)) else (none)) else (none)) else (none)) else (semigroupref14_Generated.l2 k3 l0 x5_3 x6_3 x16_2 (l0.length : Int) x16_2 (l0.length : Int) (wrap64 (x21_3 + 1)))) = some r := by rw [← hbq14] at H; exact H
               have Nbq14 := Aside0.mk hbq14
               clear hbq14
               by_cases c15 : bq14 = true
               ·subst c15
                have H1 : (if x16_2 < (l0.length : Int) then (if x21_3 < ((rd_L1 l0 x16_2).length : Int) then (if 0 ≤ (rd (rd_L1 l0 x16_2) x21_3) then (if (rd (rd_L1 l0 x16_2) x21_3) < (x5_3.length : Int) then (if (rdOf false x5_3 (rd (rd_L1 l0 x16_2) x21_3) = true) then (semigroupref14_Generated.l2 k3 l0 x5_3 x6_3 x16_2 (l0.length : Int) x16_2 (l0.length : Int) (wrap64 (x21_3 + 1))) else (semigroupref14_Generated.l2 k3 l0 (x5_3.set ((rd (rd_L1 l0 x16_2) x21_3) : Int).toNat true) true x16_2 (l0.length : Int) x16_2 (l0.length : Int) (wrap64 (x21_3 + 1)))) else (none)) else (none)) else (none)) else (none)) = some r := by rw [if_pos rfl] at H; exact H
                clear H
                have H := H1
                clear H1
                by_cases c16 : x16_2 < (l0.length : Int)
                ·rw [if_pos c16] at H
                 have c16b0 : decide (x16_2 < (l0.length : Int)) = true := decide_eq_true c16
                 clear c16
                 by_cases c17 : x21_3 < ((rd_L1 l0 x16_2).length : Int)
                 ·rw [if_pos c17] at H
                  have c17b0 : decide (x21_3 < ((rd_L1 l0 x16_2).length : Int)) = true := decide_eq_true c17
                  clear c17
                  by_cases c18 : 0 ≤ (rd (rd_L1 l0 x16_2) x21_3)
                  ·rw [if_pos c18] at H
                   have c18b0 : decide (0 ≤ (rd (rd_L1 l0 x16_2) x21_3)) = true := decide_eq_true c18
                   clear c18
                   by_cases c19 : (rd (rd_L1 l0 x16_2) x21_3) < (x5_3.length : Int)
                   ·rw [if_pos c19] at H
                    have c19b0 : decide ((rd (rd_L1 l0 x16_2) x21_3) < (x5_3.length : Int)) = true := decide_eq_true c19
                    clear c19
                    obtain ⟨bq20, hbq20⟩ : ∃ b_ : Bool, b_ = (rdOf false x5_3 (rd (rd_L1 l0 x16_2) x21_3)) := ⟨_, rfl⟩
                    replace H : (if (bq20 = true) then (semigroupref14_Generated.l2 k3 l0 x5_3 x6_3 x16_2 (l0.length : Int) x16_2 (l0.length : Int) (wrap64 (x21_3 + 1))) else (semigroupref14_Generated.l2 k3 l0 (x5_3.set ((rd (rd_L1 l0 x16_2) x21_3) : Int).toNat true) true x16_2 (l0.length : Int) x16_2 (l0.length : Int) (wrap64 (x21_3 + 1)))) = some r := by rw [← hbq20] at H; exact H
                    have Nbq20 := Aside0.mk hbq20
                    clear hbq20
                    by_cases c21 : (bq20 = true)
                    ·subst c21
                     have H1 : (semigroupref14_Generated.l2 k3 l0 x5_3 x6_3 x16_2 (l0.length : Int) x16_2 (l0.length : Int) (wrap64 (x21_3 + 1))) = some r := by rw [if_pos rfl] at H; exact H
                     clear H
                     have H := H1
                     clear H1
                     have H' := Aside0.mk H
                     clear H
                     obtain ⟨Ao22, co22, eo22⟩ := Kd.R_slice HO_5.out
                     subst eo22
                     have p388 : 0 ≤ (x16_2 : Int) := of_decide_eq_true (by first | (with_reducible assumption) | assumption)
                     have q388 : x16_2 < (x5_3.length : Int) := of_decide_eq_true (by first | (with_reducible assumption) | assumption)
                     obtain ⟨ad388, e388, hx388_0⟩ := Kd.at_bool (Kd.R_reads' HO_5.out).2.2 x16_2 p388 q388
                     (try rw [← Nbq10.out] at hx388_0)
                     (try rw [← Nbq14.out] at hx388_0)
                     (try rw [← Nbq20.out] at hx388_0)
                     cases e388
                     replace p388 := eq_true p388
                     replace q388 := eq_true q388
                     have p389 : 0 ≤ (x21_3 : Int) := of_decide_eq_true (by first | (with_reducible assumption) | assumption)
                     have q389 : x21_3 < (x5_3.length : Int) := of_decide_eq_true (by first | (with_reducible assumption) | assumption)
                     obtain ⟨ad389, e389, hx389_0⟩ := Kd.at_bool (Kd.R_reads' HO_5.out).2.2 x21_3 p389 q389
                     (try rw [← Nbq10.out] at hx389_0)
                     (try rw [← Nbq14.out] at hx389_0)
                     (try rw [← Nbq20.out] at hx389_0)
                     obtain rfl : ad388 = ad389 := (by injection e389)
                     replace p389 := eq_true p389
                     replace q389 := eq_true q389
                     have p390 : 0 ≤ (x16_2 : Int) := of_decide_eq_true (by first | (with_reducible assumption) | assumption)
                     have q390 : x16_2 < (l0.length : Int) := of_decide_eq_true (by first | (with_reducible assumption) | assumption)
                     obtain ⟨ad390, A390_0, c390_0, e390, hx390_0, hl390_0, hi390_0⟩ := at_L1 HR0.out x16_2 p390 q390
                     cases e390
                     replace hx390_0 := (HB.out.cell (World.block_lt_of_cell? w _ hx390_0)).trans hx390_0
                     have HR390_0 := Aside0.mk hi390_0
                     have HC390_0 := Aside0.mk hl390_0
                     (try clear hi390_0); (try clear hl390_0)
                     replace p390 := eq_true p390
                     replace q390 := eq_true q390
                     have p391 : 0 ≤ (x21_3 : Int) := of_decide_eq_true (by first | (with_reducible assumption) | assumption)
                     have q391 : x21_3 < ((rd_L1 l0 x16_2).length : Int) := of_decide_eq_true (by first | (with_reducible assumption) | assumption)
                     obtain ⟨ad391, e391, hx391_0⟩ := Kd.at_int HR390_0.out x21_3 p391 q391
                     cases e391
                     replace hx391_0 := (HB.out.cell (World.block_lt_of_cell? w _ hx391_0)).trans hx391_0
                     replace p391 := eq_true p391
                     replace q391 := eq_true q391
                     have p392 : 0 ≤ ((rd (rd_L1 l0 x16_2) x21_3) : Int) := of_decide_eq_true (by first | (with_reducible assumption) | assumption)
                     have q392 : (rd (rd_L1 l0 x16_2) x21_3) < (x5_3.length : Int) := of_decide_eq_true (by first | (with_reducible assumption) | assumption)
                     obtain ⟨ad392, e392, hx392_0⟩ := Kd.at_bool (Kd.R_reads' HO_5.out).2.2 (rd (rd_L1 l0 x16_2) x21_3) p392 q392
                     (try rw [← Nbq10.out] at hx392_0)
                     (try rw [← Nbq14.out] at hx392_0)
                     (try rw [← Nbq20.out] at hx392_0)
                     obtain rfl : ad388 = ad392 := (by injection e392)
                     replace p392 := eq_true p392
                     replace q392 := eq_true q392
                     go_wp2
                     go_roundg k3
                     case measure => have := HK1.out; have := HK2.out; have := HK3.out; omega
                     case rel => exact ⟨(x5_3), (x6_3), (wrap64 (x21_3 + 1)), (by first | rfl | (simp; done) | (simp [*]; done)), (by first | rfl | (simp; done) | (simp [*]; done)), H', ⟨by have := HK1.out; have := HK2.out; have := HK3.out; omega⟩, ⟨by (with_reducible repeat (first | apply Kd.R_alloc | apply Kd.R_drewN | apply Kd.R_drew)); exact HO_5.out⟩, ⟨by repeat (first | (with_reducible first | exact HB.out | apply below_alloc | apply pw_below_drewN | apply below_drew1) | exact HB.out)⟩⟩
                    ·replace c21 := Bool.eq_false_iff.mpr c21
                     subst c21
                     have H1 : (semigroupref14_Generated.l2 k3 l0 (x5_3.set ((rd (rd_L1 l0 x16_2) x21_3) : Int).toNat true) true x16_2 (l0.length : Int) x16_2 (l0.length : Int) (wrap64 (x21_3 + 1))) = some r := by rw [if_neg (show ¬ (false = true) by decide)] at H; exact H
                     clear H
                     have H := H1
                     clear H1
                     obtain ⟨y395, hy395⟩ : ∃ y_ : List Bool, y_ = (x5_3.set ((rd (rd_L1 l0 x16_2) x21_3) : Int).toNat true) := ⟨_, rfl⟩
                     replace H : (semigroupref14_Generated.l2 k3 l0 y395 true x16_2 (l0.length : Int) x16_2 (l0.length : Int) (wrap64 (x21_3 + 1))) = some r := by first | (rw [hy395]; with_reducible exact H) | (have H2_ := (Option.bind_some _ _).symm.trans H; rw [hy395]; with_reducible exact H2_) | (have H2_ := (Option.bind_some _ _).symm.trans H; with_reducible exact H2_) | with_reducible exact H | (rw [hy395]; exact H) | exact H
                     have Ny395 := Aside0.mk hy395
                     clear hy395
                     have H' := Aside0.mk H
                     clear H
                     obtain ⟨Ao24, co24, eo24⟩ := Kd.R_slice HO_5.out
                     subst eo24
                     have p388 : 0 ≤ (x16_2 : Int) := of_decide_eq_true (by first | (with_reducible assumption) | assumption)
                     have q388 : x16_2 < (x5_3.length : Int) := of_decide_eq_true (by first | (with_reducible assumption) | assumption)
                     obtain ⟨ad388, e388, hx388_0⟩ := Kd.at_bool (Kd.R_reads' HO_5.out).2.2 x16_2 p388 q388
                     (try rw [← Nbq10.out] at hx388_0)
                     (try rw [← Nbq14.out] at hx388_0)
                     (try rw [← Nbq20.out] at hx388_0)
                     cases e388
                     replace p388 := eq_true p388
                     replace q388 := eq_true q388
                     have p389 : 0 ≤ (x21_3 : Int) := of_decide_eq_true (by first | (with_reducible assumption) | assumption)
                     have q389 : x21_3 < (x5_3.length : Int) := of_decide_eq_true (by first | (with_reducible assumption) | assumption)
                     obtain ⟨ad389, e389, hx389_0⟩ := Kd.at_bool (Kd.R_reads' HO_5.out).2.2 x21_3 p389 q389
                     (try rw [← Nbq10.out] at hx389_0)
                     (try rw [← Nbq14.out] at hx389_0)
                     (try rw [← Nbq20.out] at hx389_0)
                     obtain rfl : ad388 = ad389 := (by injection e389)
                     replace p389 := eq_true p389
                     replace q389 := eq_true q389
                     have p390 : 0 ≤ (x16_2 : Int) := of_decide_eq_true (by first | (with_reducible assumption) | assumption)
                     have q390 : x16_2 < (l0.length : Int) := of_decide_eq_true (by first | (with_reducible assumption) | assumption)
                     obtain ⟨ad390, A390_0, c390_0, e390, hx390_0, hl390_0, hi390_0⟩ := at_L1 HR0.out x16_2 p390 q390
                     cases e390
                     replace hx390_0 := (HB.out.cell (World.block_lt_of_cell? w _ hx390_0)).trans hx390_0
                     have HR390_0 := Aside0.mk hi390_0
                     have HC390_0 := Aside0.mk hl390_0
                     (try clear hi390_0); (try clear hl390_0)
                     replace p390 := eq_true p390
                     replace q390 := eq_true q390
                     have p391 : 0 ≤ (x21_3 : Int) := of_decide_eq_true (by first | (with_reducible assumption) | assumption)
                     have q391 : x21_3 < ((rd_L1 l0 x16_2).length : Int) := of_decide_eq_true (by first | (with_reducible assumption) | assumption)
                     obtain ⟨ad391, e391, hx391_0⟩ := Kd.at_int HR390_0.out x21_3 p391 q391
                     cases e391
                     replace hx391_0 := (HB.out.cell (World.block_lt_of_cell? w _ hx391_0)).trans hx391_0
                     replace p391 := eq_true p391
                     replace q391 := eq_true q391
                     have p392 : 0 ≤ ((rd (rd_L1 l0 x16_2) x21_3) : Int) := of_decide_eq_true (by first | (with_reducible assumption) | assumption)
                     have q392 : (rd (rd_L1 l0 x16_2) x21_3) < (x5_3.length : Int) := of_decide_eq_true (by first | (with_reducible assumption) | assumption)
                     obtain ⟨ad392, e392, hx392_0⟩ := Kd.at_bool (Kd.R_reads' HO_5.out).2.2 (rd (rd_L1 l0 x16_2) x21_3) p392 q392
                     (try rw [← Nbq10.out] at hx392_0)
                     (try rw [← Nbq14.out] at hx392_0)
                     (try rw [← Nbq20.out] at hx392_0)
                     obtain rfl : ad388 = ad392 := (by injection e392)
                     replace p392 := eq_true p392
                     replace q392 := eq_true q392
                     have p393 : 0 ≤ (x16_2 : Int) := of_decide_eq_true (by first | (with_reducible assumption) | assumption)
                     have q393 : x16_2 < (l0.length : Int) := of_decide_eq_true (by first | (with_reducible assumption) | assumption)
                     obtain ⟨ad393, A393_0, c393_0, e393, hx393_0, hl393_0, hi393_0⟩ := at_L1 HR0.out x16_2 p393 q393
                     obtain rfl : ad390 = ad393 := (by injection e393)
                     replace hx393_0 := (HB.out.cell (World.block_lt_of_cell? w _ hx393_0)).trans hx393_0
                     have HR393_0 := Aside0.mk hi393_0
                     have HC393_0 := Aside0.mk hl393_0
                     (try clear hi393_0); (try clear hl393_0)
                     replace p393 := eq_true p393
                     replace q393 := eq_true q393
                     have ea_ := Option.some.inj (hx390_0.symm.trans hx393_0)
                     injection ea_ with ea_ en_ ec_
                     subst ea_
                     subst ec_
                     clear en_
                     have p394 : 0 ≤ (x21_3 : Int) := of_decide_eq_true (by first | (with_reducible assumption) | assumption)
                     have q394 : x21_3 < ((rd_L1 l0 x16_2).length : Int) := of_decide_eq_true (by first | (with_reducible assumption) | assumption)
                     obtain ⟨ad394, e394, hx394_0⟩ := Kd.at_int HR393_0.out x21_3 p394 q394
                     cases e394
                     replace hx394_0 := (HB.out.cell (World.block_lt_of_cell? w _ hx394_0)).trans hx394_0
                     replace p394 := eq_true p394
                     replace q394 := eq_true q394
                     have p23 : 0 ≤ ((rd (rd_L1 l0 x16_2) x21_3) : Int) := of_decide_eq_true (by first | (with_reducible assumption) | assumption)
                     have q23 : ((rd (rd_L1 l0 x16_2) x21_3) : Int) < ((x5_3.length : Int) : Int) := of_decide_eq_true (by first | (with_reducible assumption) | assumption)
                     obtain ⟨go23, co23, eo23, gb23, gl23, cl23, HG23⟩ := Kd.R_form HO_5.out (by omega)
                     (first | cases eo23 | (injection eo23 with ea_ en_ ec_; (first | subst ea_ | (injection ea_ with ea_; subst ea_)); subst ec_; clear en_))
                     have GB23 := Aside0.mk gb23
                     have GG23 := Aside0.mk HG23
                     (try clear gb23); (try clear gl23); (try clear HG23)
                     (first | simp only [add_plain] at hx388_0 | skip)
                     (first | simp only [add_plain] at hx389_0 | skip)
                     (first | simp only [add_plain] at hx392_0 | skip)
                     obtain ⟨hx23_0, hf23_0⟩ := Kd.R_celln false HO_5.out ((rd (rd_L1 l0 x16_2) x21_3) : Int) p23 q23
                     replace p23 := eq_true p23
                     replace q23 := eq_true q23
                     have HP25 := Kd.R_putg HO_5.out ((rd (rd_L1 l0 x16_2) x21_3) : Int) true
                     go_wp2_with (first | ((with_reducible refine gate_store (t := 4) (p := 55) rfl ?_); refine store_event (t := 4) (p := 55) (v := ?vo_w26) (w1 := (wr.setCell ⟨go23, ((rd (rd_L1 l0 x16_2) x21_3) : Int).toNat, none⟩ (.bool true))) ?hg ?ho ?hn ?hr ?_; (case ho => rfl); (case hg => rfl); (case hn => rfl); (case hr => first | (go_simp; done) | (go_simp; rfl)); intro w26 hw; have hg : wr.grownBy w26 (some go23) := (by rw [hw]; exact HP25.2); have hp_ : Kd.R Kd.bool 4 w26 w.heap.size (fun _ => True) (.slice (some ⟨go23, 0, none⟩) x5_3.length co24) y395 := (by rw [hw, Ny395.out]; exact HP25.1); clear HP25; have n0_ := Aside0.mk (hp_); have n1_ := Aside0.mk ((by rw [hw]; exact below_set (HB.out) GB23.out : Below w.heap.size w w26)); clear HO_5; clear HB; have HO_5 := n0_; have HB := n1_; clear n0_ n1_; (try clear hg); (try clear hw); (try clear hp_)))
                     go_roundg k3
                     case measure => have := HK1.out; have := HK2.out; have := HK3.out; omega
                     case rel => exact ⟨(y395), (true), (wrap64 (x21_3 + 1)), (by first | rfl | (simp; done) | (simp [*]; done)), (by first | rfl | (simp; done) | (simp [*]; done)), H', ⟨by have := HK1.out; have := HK2.out; have := HK3.out; omega⟩, ⟨by (with_reducible repeat (first | apply Kd.R_alloc | apply Kd.R_drewN | apply Kd.R_drew)); exact HO_5.out⟩, ⟨by repeat (first | (with_reducible first | exact HB.out | apply below_alloc | apply pw_below_drewN | apply below_drew1) | exact HB.out)⟩⟩
                   ·rw [if_neg c19] at H
                    exact absurd H (by simp)
                  ·rw [if_neg c18] at H
                   exact absurd H (by simp)
                 ·rw [if_neg c17] at H
                  exact absurd H (by simp)
                ·rw [if_neg c16] at H
                 exact absurd H (by simp)
               ·replace c15 := Bool.eq_false_iff.mpr c15
                subst c15
                have H1 : (semigroupref14_Generated.l2 k3 l0 x5_3 x6_3 x16_2 (l0.length : Int) x16_2 (l0.length : Int) (wrap64 (x21_3 + 1))) = some r := by rw [if_neg (show ¬ (false = true) by decide)] at H; exact H
                clear H
                have H := H1
                clear H1
                have H' := Aside0.mk H
                clear H
                obtain ⟨Ao27, co27, eo27⟩ := Kd.R_slice HO_5.out
                subst eo27
                have p388 : 0 ≤ (x16_2 : Int) := of_decide_eq_true (by first | (with_reducible assumption) | assumption)
                have q388 : x16_2 < (x5_3.length : Int) := of_decide_eq_true (by first | (with_reducible assumption) | assumption)
                obtain ⟨ad388, e388, hx388_0⟩ := Kd.at_bool (Kd.R_reads' HO_5.out).2.2 x16_2 p388 q388
                (try rw [← Nbq10.out] at hx388_0)
                (try rw [← Nbq14.out] at hx388_0)
                cases e388
                replace p388 := eq_true p388
                replace q388 := eq_true q388
                have p389 : 0 ≤ (x21_3 : Int) := of_decide_eq_true (by first | (with_reducible assumption) | assumption)
                have q389 : x21_3 < (x5_3.length : Int) := of_decide_eq_true (by first | (with_reducible assumption) | assumption)
                obtain ⟨ad389, e389, hx389_0⟩ := Kd.at_bool (Kd.R_reads' HO_5.out).2.2 x21_3 p389 q389
                (try rw [← Nbq10.out] at hx389_0)
                (try rw [← Nbq14.out] at hx389_0)
                obtain rfl : ad388 = ad389 := (by injection e389)
                replace p389 := eq_true p389
                replace q389 := eq_true q389
                go_wp2
                go_roundg k3
                case measure => have := HK1.out; have := HK2.out; have := HK3.out; omega
                case rel => exact ⟨(x5_3), (x6_3), (wrap64 (x21_3 + 1)), (by first | rfl | (simp; done) | (simp [*]; done)), (by first | rfl | (simp; done) | (simp [*]; done)), H', ⟨by have := HK1.out; have := HK2.out; have := HK3.out; omega⟩, ⟨by (with_reducible repeat (first | apply Kd.R_alloc | apply Kd.R_drewN | apply Kd.R_drew)); exact HO_5.out⟩, ⟨by repeat (first | (with_reducible first | exact HB.out | apply below_alloc | apply pw_below_drewN | apply below_drew1) | exact HB.out)⟩⟩
              ·rw [if_neg c13] at H
               exact absurd H (by simp)
             ·rw [if_neg c12] at H
              exact absurd H (by simp)
            ·replace c11 := Bool.eq_false_iff.mpr c11
             subst c11
             have H1 : (semigroupref14_Generated.l2 k3 l0 x5_3 x6_3 x16_2 (l0.length : Int) x16_2 (l0.length : Int) (wrap64 (x21_3 + 1))) = some r := by rw [if_neg (show ¬ (false = true) by decide)] at H; exact H
             clear H
             have H := H1
             clear H1
             have H' := Aside0.mk H
             clear H
             obtain ⟨Ao28, co28, eo28⟩ := Kd.R_slice HO_5.out
             subst eo28
             have p388 : 0 ≤ (x16_2 : Int) := of_decide_eq_true (by first | (with_reducible assumption) | assumption)
             have q388 : x16_2 < (x5_3.length : Int) := of_decide_eq_true (by first | (with_reducible assumption) | assumption)
             obtain ⟨ad388, e388, hx388_0⟩ := Kd.at_bool (Kd.R_reads' HO_5.out).2.2 x16_2 p388 q388
             (try rw [← Nbq10.out] at hx388_0)
             cases e388
             replace p388 := eq_true p388
             replace q388 := eq_true q388
             go_wp2
             go_roundg k3
             case measure => have := HK1.out; have := HK2.out; have := HK3.out; omega
             case rel => exact ⟨(x5_3), (x6_3), (wrap64 (x21_3 + 1)), (by first | rfl | (simp; done) | (simp [*]; done)), (by first | rfl | (simp; done) | (simp [*]; done)), H', ⟨by have := HK1.out; have := HK2.out; have := HK3.out; omega⟩, ⟨by (with_reducible repeat (first | apply Kd.R_alloc | apply Kd.R_drewN | apply Kd.R_drew)); exact HO_5.out⟩, ⟨by repeat (first | (with_reducible first | exact HB.out | apply below_alloc | apply pw_below_drewN | apply below_drew1) | exact HB.out)⟩⟩
           ·rw [if_neg c9] at H
            exact absurd H (by simp)
          ·rw [if_neg c8] at H
           exact absurd H (by simp)
         ·rw [if_neg c7] at H
          have c7b0 : decide (x21_3 < (l0.length : Int)) = false := decide_eq_false c7
          clear c7
          have H' := Aside0.mk H
          clear H
          go_wp2
          go_roundg k3
          case measure => have := HK1.out; have := HK2.out; have := HK3.out; omega
          case rel => exact ⟨(x5_3), (x6_3), (wrap64 (x16_2 + 1)), (by first | rfl | (simp; done) | (simp [*]; done)), (by first | rfl | (simp; done) | (simp [*]; done)), H', ⟨by have := HK1.out; have := HK2.out; have := HK3.out; omega⟩, ⟨by (with_reducible repeat (first | apply Kd.R_alloc | apply Kd.R_drewN | apply Kd.R_drew)); exact HO_5.out⟩, ⟨by repeat (first | (with_reducible first | exact HB.out | apply below_alloc | apply pw_below_drewN | apply below_drew1) | exact HB.out)⟩⟩
      ·rw [if_neg c6] at H
       have c6b0 : decide (x16_2 < (l0.length : Int)) = false := decide_eq_false c6
       clear c6
       have H' := Aside0.mk H
       clear H
       go_wp2
       go_roundg k2
       case measure => have := HK1.out; have := HK2.out; omega
       case rel => exact ⟨(x5_2), (x6_2), (by first | rfl | (simp; done) | (simp [*]; done)), H', ⟨by have := HK1.out; have := HK2.out; omega⟩, ⟨by (with_reducible repeat (first | apply Kd.R_alloc | apply Kd.R_drewN | apply Kd.R_drew)); exact HO_5.out⟩, ⟨by repeat (first | (with_reducible first | exact HB.out | apply below_alloc | apply pw_below_drewN | apply below_drew1) | exact HB.out)⟩⟩
   ·replace c5 := Bool.eq_false_iff.mpr c5
    subst c5
    have H1 : ((semigroupref03_Members.f k1 x5_1).bind fun t385 => (some t385)) = some r := by rw [if_neg (show ¬ (false = true) by decide)] at H; exact H
    clear H
    have H := H1
    clear H1
    replace H := Option.bind_eq_some_iff.mp H
    obtain ⟨t385, A290, H⟩ := H
    replace H : (some t385) = some r := H
    have A29 := Aside0.mk A290
    clear A290
    obtain rfl := Option.some.inj H
    obtain ⟨Ao30, co30, eo30⟩ := Kd.R_slice HO_5.out
    subst eo30
    go_wp2_with (first | ((with_reducible refine gate_callee (f := 70) rfl ?_); refine goesL_ (some 59) rfl rfl Try.func70 (by kernel_rfl) rfl #[.slice Ao30 x5_1.length co30] rfl (by (try simp only [List.map_toArray, List.map_cons, List.map_nil]); first | done | rfl | (simp only [List.length_drop, List.length_take]; rfl)) ?_; (with_reducible refine (semigroupref03_Members.calls k1 _ _ x5_1 t385 _ ?side1 ?side2 A29.out).mono ?_); (case side1 => repeat (first | exact (Kd.R_reads' HO_5.out).2.2 | (with_reducible refine Kd.C_alloc ?_ _) | (with_reducible refine Kd.C_drewN ?_ _) | (with_reducible refine Kd.C_drew ?_))); (case side2 => exact (Kd.R_reads' HO_5.out).2.1); rintro e w31 ⟨v386, rfl, ho0, hb⟩; refine ⟨_, rfl, ?_⟩; have n0_ := Aside0.mk (Kd.R_below (by (with_reducible repeat (first | apply Kd.R_alloc | apply Kd.R_drewN | apply Kd.R_drew)); exact HO_5.out) hb); have n1_ := Aside0.mk (Kd.R_lower ho0 (below_size (by repeat (first | (with_reducible first | exact HB.out | apply below_alloc | apply pw_below_drewN | apply below_drew1) | exact HB.out)))); have n2_ := Aside0.mk (below_step (by repeat (first | (with_reducible first | exact HB.out | apply below_alloc | apply pw_below_drewN | apply below_drew1) | exact HB.out)) hb); clear HO_5; clear HB; have HO_5 := n0_; have HO387 := n1_; have HB := n2_; clear n0_ n1_ n2_; (try clear hb); (try clear hb2); (try clear hk); (try clear hi); (try clear ho0)))
    go_ret
    exact ⟨_, by first | rfl | (simp [errW_none, errW_some] <;> rfl) | (simp [*, errW_none, errW_some] <;> rfl), by (with_reducible repeat (first | apply Kd.R_alloc | apply Kd.R_drewN | apply Kd.R_drew)); exact HO387.out, by repeat (first | (with_reducible first | exact HB.out | apply below_alloc | apply pw_below_drewN | apply below_drew1) | exact HB.out)⟩

/-! ### semigroupref03_SameRows: function 47 -/
def semigroupref03_SameRows.l0 : Nat → List (List Int) → List (List Int) → Int → Int → Option (Bool)
 | 0, _, _, _, _ => none
 | k + 1, x0, x1, x12, x13 => if x13 < x12 then (if 0 ≤ x13 then (if x13 < (x0.length : Int) then (if x13 < (x1.length : Int) then ((semigroupref03_Same.f k (rd_L1 x0 x13) (rd_L1 x1 x13)).bind fun t477 => (if t477 = true then (semigroupref03_SameRows.l0 k x0 x1 x12 (wrap64 (x13 + 1))) else (some false))) else (none)) else (none)) else (none)) else (some true)
def semigroupref03_SameRows.f (k : Nat) (l0 : List (List Int)) (l1 : List (List Int)) : Option (Bool) := if (l0.length : Int) = (l1.length : Int) then (semigroupref03_SameRows.l0 k l0 l1 (l0.length : Int) 0) else (some false)
theorem semigroupref03_SameRows.mono_l : ∀ k, (∀ y0 y1 y2 y3, LeO (semigroupref03_SameRows.l0 k y0 y1 y2 y3) (semigroupref03_SameRows.l0 (k + 1) y0 y1 y2 y3))
 | 0 => fun _ _ _ _ r h => by simp [semigroupref03_SameRows.l0] at h
 | k + 1 => by
  have ih0 := semigroupref03_SameRows.mono_l k
  ·intro y0 y1 y2 y3
   unfold semigroupref03_SameRows.l0
   repeat' first
   | (with_reducible exact ih0 _ _ _ _)
   | (with_reducible exact semigroupref03_Same.mono _ _ _)
   | (with_reducible exact LeO.refl _)
   | (with_reducible exact LeO.none _)
   | (with_reducible refine LeO.ite ?_ ?_)
   | (with_reducible refine LeO.bind ?_ (fun _ => ?_))
   | exact ih0 _ _ _ _
   | exact semigroupref03_Same.mono _ _ _
   | exact LeO.none _
   | refine LeO.ite ?_ ?_
   | refine LeO.bind ?_ (fun _ => ?_)
theorem semigroupref03_SameRows.mono : ∀ a0 a1 k, LeO (semigroupref03_SameRows.f k a0 a1) (semigroupref03_SameRows.f (k + 1) a0 a1) := by
 intro a0 a1 k
 have ih0 := semigroupref03_SameRows.mono_l k
 unfold semigroupref03_SameRows.f
 repeat' first
   | (with_reducible exact ih0 _ _ _ _)
   | (with_reducible exact semigroupref03_Same.mono _ _ _)
   | (with_reducible exact LeO.refl _)
   | (with_reducible exact LeO.none _)
   | (with_reducible refine LeO.ite ?_ ?_)
   | (with_reducible refine LeO.bind ?_ (fun _ => ?_))
   | exact ih0 _ _ _ _
   | exact semigroupref03_Same.mono _ _ _
   | exact LeO.none _
   | refine LeO.ite ?_ ?_
   | refine LeO.bind ?_ (fun _ => ?_)
set_option maxHeartbeats 8000000 in
set_option maxRecDepth 100000 in
theorem semigroupref03_SameRows.calls (k : Nat) (A0 : Option Addr) (c0 : Nat) (l0 : List (List Int)) (A1 : Option Addr) (c1 : Nat) (l1 : List (List Int)) (r : Bool) (w : World) (hr0 : Kd.C (Kd.slice 3 (Kd.int .i64)) w A0 l0.length l0) (hc0 : l0.length ≤ c0) (hr1 : Kd.C (Kd.slice 3 (Kd.int .i64)) w A1 l1.length l1) (hc1 : l1.length ≤ c1) (h : semigroupref03_SameRows.f k l0 l1 = some r) :
  Calls Try.prog 47 #[.slice A0 l0.length c0, .slice A1 l1.length c1] w fun e w' => e = .returned (.bool r) ∧ Drawn0 w w' := by
 have HR0 := Aside0.mk hr0
 have HC0 := Aside0.mk hc0
 (try clear hr0); (try clear hc0)
 have HR1 := Aside0.mk hr1
 have HC1 := Aside0.mk hc1
 (try clear hr1); (try clear hc1)
 have H : (if (l0.length : Int) = (l1.length : Int) then (semigroupref03_SameRows.l0 k l0 l1 (l0.length : Int) 0) else (some false)) = some r := h
 clear h
 by_cases c3 : (l0.length : Int) = (l1.length : Int)
 ·rw [if_pos c3] at H
  have c3b0 : ((l0.length : Int) == (l1.length : Int)) = true := beq_iff_eq.mpr c3
  have c3b1 : ((l0.length : Int) != (l1.length : Int)) = false := bne_eq_false_iff_eq.mpr c3
  have c3b2 : (l0.length == l1.length) = true := by first | simpa using c3 | (simp at c3 ⊢; omega)
  clear c3
  have H' := Aside0.mk H
  clear H
  go_enter Try.func47, Try.ntmps47
  go_wp2
  repeat (go_quiet (fail); try go_wp2)
  go_loopg [13] k (fun kq v13 w' => ∃ (x13_1 : Int), v13 = .int .i64 x13_1 ∧ Aside0 (semigroupref03_SameRows.l0 kq l0 l1 (l0.length : Int) x13_1 = some r) ∧ Aside0 (kq ≤ k) ∧ Drawn0 w w')
  case atStart => exact ⟨(0), (by first | rfl | (simp; done) | (simp [*]; done)), H', ⟨Nat.le_refl _⟩, by repeat (first | exact Drawn0.refl _ | apply Drawn0.step)⟩
  case round =>
   clear H'
   try clear c1
   try clear p2
   try clear c3
   try clear c3b0
   try clear c3b1
   try clear c3b2
   obtain ⟨x13_1, rfl, HA, HK1, ⟨m1, rfl⟩⟩ := hrel
   cases gk with
   | zero => exact absurd HA.out (by simp [semigroupref03_SameRows.l0])
   | succ k1 =>
    have H := HA.out
    clear HA
    simp only [semigroupref03_SameRows.l0] at H
    by_cases c4 : x13_1 < (l0.length : Int)
    ·rw [if_pos c4] at H
     have c4b0 : decide (x13_1 < (l0.length : Int)) = true := decide_eq_true c4
     clear c4
     by_cases c5 : 0 ≤ x13_1
     ·rw [if_pos c5] at H
      have c5b0 : decide (0 ≤ x13_1) = true := decide_eq_true c5
      clear c5
      by_cases c6 : x13_1 < (l0.length : Int)
      ·rw [if_pos c6] at H
       have c6b0 : decide (x13_1 < (l0.length : Int)) = true := decide_eq_true c6
       clear c6
       by_cases c7 : x13_1 < (l1.length : Int)
       ·rw [if_pos c7] at H
        have c7b0 : decide (x13_1 < (l1.length : Int)) = true := decide_eq_true c7
        clear c7
        replace H := Option.bind_eq_some_iff.mp H
        obtain ⟨t477, A80, H⟩ := H
        replace H : (if t477 = true then (semigroupref03_SameRows.l0 k1 l0 l1 (l0.length : Int) (wrap64 (x13_1 + 1))) else (some false)) = some r := H
        have A8 := Aside0.mk A80
        clear A80
        by_cases c9 : t477 = true
        ·subst c9
         have H1 : (semigroupref03_SameRows.l0 k1 l0 l1 (l0.length : Int) (wrap64 (x13_1 + 1))) = some r := by rw [if_pos rfl] at H; exact H
         clear H
         have H := H1
         clear H1
         have H' := Aside0.mk H
         clear H
         have p475 : 0 ≤ (x13_1 : Int) := of_decide_eq_true (by first | (with_reducible assumption) | assumption)
         have q475 : x13_1 < (l0.length : Int) := of_decide_eq_true (by first | (with_reducible assumption) | assumption)
         obtain ⟨ad475, A475_0, c475_0, e475, hx475_0, hl475_0, hi475_0⟩ := at_L1 HR0.out x13_1 p475 q475
         cases e475
         have HR475_0 := Aside0.mk hi475_0
         have HC475_0 := Aside0.mk hl475_0
         (try clear hi475_0); (try clear hl475_0)
         replace p475 := eq_true p475
         replace q475 := eq_true q475
         have p476 : 0 ≤ (x13_1 : Int) := of_decide_eq_true (by first | (with_reducible assumption) | assumption)
         have q476 : x13_1 < (l1.length : Int) := of_decide_eq_true (by first | (with_reducible assumption) | assumption)
         obtain ⟨ad476, A476_0, c476_0, e476, hx476_0, hl476_0, hi476_0⟩ := at_L1 HR1.out x13_1 p476 q476
         cases e476
         have HR476_0 := Aside0.mk hi476_0
         have HC476_0 := Aside0.mk hl476_0
         (try clear hi476_0); (try clear hl476_0)
         replace p476 := eq_true p476
         replace q476 := eq_true q476
         go_wp2_with (first | (go_at_call 27; (with_reducible refine (semigroupref03_Same.calls k1 _ _ (rd_L1 l0 x13_1) _ _ (rd_L1 l1 x13_1) true _ ?side1 ?side2 ?side3 ?side4 A8.out).mono ?_); (case side1 => repeat (first | exact HR475_0.out | (with_reducible refine Kd.C_alloc ?_ _) | (with_reducible refine Kd.C_drewN ?_ _) | (with_reducible refine Kd.C_drew ?_))); (case side2 => exact HC475_0.out); (case side3 => repeat (first | exact HR476_0.out | (with_reducible refine Kd.C_alloc ?_ _) | (with_reducible refine Kd.C_drewN ?_ _) | (with_reducible refine Kd.C_drew ?_))); (case side4 => exact HC476_0.out); rintro e w' ⟨rfl, ⟨nd, rfl⟩⟩; (try first | exact ⟨rfl, _, World.drewN_drewN _ _ _⟩ | exact ⟨rfl, _, Eq.trans (World.drewN_drewN _ _ _) (congrArg (World.drewN _) (Nat.add_assoc _ _ _))⟩)))
         repeat (go_quiet (first | (go_at_call 27; (with_reducible refine (semigroupref03_Same.calls k1 _ _ (rd_L1 l0 x13_1) _ _ (rd_L1 l1 x13_1) true _ ?side1 ?side2 ?side3 ?side4 A8.out).mono ?_); (case side1 => repeat (first | exact HR475_0.out | (with_reducible refine Kd.C_alloc ?_ _) | (with_reducible refine Kd.C_drewN ?_ _) | (with_reducible refine Kd.C_drew ?_))); (case side2 => exact HC475_0.out); (case side3 => repeat (first | exact HR476_0.out | (with_reducible refine Kd.C_alloc ?_ _) | (with_reducible refine Kd.C_drewN ?_ _) | (with_reducible refine Kd.C_drew ?_))); (case side4 => exact HC476_0.out); rintro e w' ⟨rfl, ⟨nd, rfl⟩⟩; (try first | exact ⟨rfl, _, World.drewN_drewN _ _ _⟩ | exact ⟨rfl, _, Eq.trans (World.drewN_drewN _ _ _) (congrArg (World.drewN _) (Nat.add_assoc _ _ _))⟩))); try go_wp2_with (first | (go_at_call 27; (with_reducible refine (semigroupref03_Same.calls k1 _ _ (rd_L1 l0 x13_1) _ _ (rd_L1 l1 x13_1) true _ ?side1 ?side2 ?side3 ?side4 A8.out).mono ?_); (case side1 => repeat (first | exact HR475_0.out | (with_reducible refine Kd.C_alloc ?_ _) | (with_reducible refine Kd.C_drewN ?_ _) | (with_reducible refine Kd.C_drew ?_))); (case side2 => exact HC475_0.out); (case side3 => repeat (first | exact HR476_0.out | (with_reducible refine Kd.C_alloc ?_ _) | (with_reducible refine Kd.C_drewN ?_ _) | (with_reducible refine Kd.C_drew ?_))); (case side4 => exact HC476_0.out); rintro e w' ⟨rfl, ⟨nd, rfl⟩⟩; (try first | exact ⟨rfl, _, World.drewN_drewN _ _ _⟩ | exact ⟨rfl, _, Eq.trans (World.drewN_drewN _ _ _) (congrArg (World.drewN _) (Nat.add_assoc _ _ _))⟩))))
         go_roundg k1
         case measure => have := HK1.out; omega
         case rel => exact ⟨(wrap64 (x13_1 + 1)), (by first | rfl | (simp; done) | (simp [*]; done)), H', ⟨by have := HK1.out; omega⟩, by repeat (first | exact Drawn0.refl _ | apply Drawn0.step)⟩
        ·replace c9 := Bool.eq_false_iff.mpr c9
         subst c9
         have H1 : (some false) = some r := by rw [if_neg (show ¬ (false = true) by decide)] at H; exact H
         clear H
         have H := H1
         clear H1
         obtain rfl := Option.some.inj H
         have p475 : 0 ≤ (x13_1 : Int) := of_decide_eq_true (by first | (with_reducible assumption) | assumption)
         have q475 : x13_1 < (l0.length : Int) := of_decide_eq_true (by first | (with_reducible assumption) | assumption)
         obtain ⟨ad475, A475_0, c475_0, e475, hx475_0, hl475_0, hi475_0⟩ := at_L1 HR0.out x13_1 p475 q475
         cases e475
         have HR475_0 := Aside0.mk hi475_0
         have HC475_0 := Aside0.mk hl475_0
         (try clear hi475_0); (try clear hl475_0)
         replace p475 := eq_true p475
         replace q475 := eq_true q475
         have p476 : 0 ≤ (x13_1 : Int) := of_decide_eq_true (by first | (with_reducible assumption) | assumption)
         have q476 : x13_1 < (l1.length : Int) := of_decide_eq_true (by first | (with_reducible assumption) | assumption)
         obtain ⟨ad476, A476_0, c476_0, e476, hx476_0, hl476_0, hi476_0⟩ := at_L1 HR1.out x13_1 p476 q476
         cases e476
         have HR476_0 := Aside0.mk hi476_0
         have HC476_0 := Aside0.mk hl476_0
         (try clear hi476_0); (try clear hl476_0)
         replace p476 := eq_true p476
         replace q476 := eq_true q476
         go_wp2_with (first | (go_at_call 27; (with_reducible refine (semigroupref03_Same.calls k1 _ _ (rd_L1 l0 x13_1) _ _ (rd_L1 l1 x13_1) false _ ?side1 ?side2 ?side3 ?side4 A8.out).mono ?_); (case side1 => repeat (first | exact HR475_0.out | (with_reducible refine Kd.C_alloc ?_ _) | (with_reducible refine Kd.C_drewN ?_ _) | (with_reducible refine Kd.C_drew ?_))); (case side2 => exact HC475_0.out); (case side3 => repeat (first | exact HR476_0.out | (with_reducible refine Kd.C_alloc ?_ _) | (with_reducible refine Kd.C_drewN ?_ _) | (with_reducible refine Kd.C_drew ?_))); (case side4 => exact HC476_0.out); rintro e w' ⟨rfl, ⟨nd, rfl⟩⟩; (try first | exact ⟨rfl, _, World.drewN_drewN _ _ _⟩ | exact ⟨rfl, _, Eq.trans (World.drewN_drewN _ _ _) (congrArg (World.drewN _) (Nat.add_assoc _ _ _))⟩)))
         repeat (go_quiet (first | (go_at_call 27; (with_reducible refine (semigroupref03_Same.calls k1 _ _ (rd_L1 l0 x13_1) _ _ (rd_L1 l1 x13_1) false _ ?side1 ?side2 ?side3 ?side4 A8.out).mono ?_); (case side1 => repeat (first | exact HR475_0.out | (with_reducible refine Kd.C_alloc ?_ _) | (with_reducible refine Kd.C_drewN ?_ _) | (with_reducible refine Kd.C_drew ?_))); (case side2 => exact HC475_0.out); (case side3 => repeat (first | exact HR476_0.out | (with_reducible refine Kd.C_alloc ?_ _) | (with_reducible refine Kd.C_drewN ?_ _) | (with_reducible refine Kd.C_drew ?_))); (case side4 => exact HC476_0.out); rintro e w' ⟨rfl, ⟨nd, rfl⟩⟩; (try first | exact ⟨rfl, _, World.drewN_drewN _ _ _⟩ | exact ⟨rfl, _, Eq.trans (World.drewN_drewN _ _ _) (congrArg (World.drewN _) (Nat.add_assoc _ _ _))⟩))); try go_wp2_with (first | (go_at_call 27; (with_reducible refine (semigroupref03_Same.calls k1 _ _ (rd_L1 l0 x13_1) _ _ (rd_L1 l1 x13_1) false _ ?side1 ?side2 ?side3 ?side4 A8.out).mono ?_); (case side1 => repeat (first | exact HR475_0.out | (with_reducible refine Kd.C_alloc ?_ _) | (with_reducible refine Kd.C_drewN ?_ _) | (with_reducible refine Kd.C_drew ?_))); (case side2 => exact HC475_0.out); (case side3 => repeat (first | exact HR476_0.out | (with_reducible refine Kd.C_alloc ?_ _) | (with_reducible refine Kd.C_drewN ?_ _) | (with_reducible refine Kd.C_drew ?_))); (case side4 => exact HC476_0.out); rintro e w' ⟨rfl, ⟨nd, rfl⟩⟩; (try first | exact ⟨rfl, _, World.drewN_drewN _ _ _⟩ | exact ⟨rfl, _, Eq.trans (World.drewN_drewN _ _ _) (congrArg (World.drewN _) (Nat.add_assoc _ _ _))⟩))))
         go_ret
         exact ⟨by first | rfl | (simp; done) | (simp [*]; done), by repeat (first | exact Drawn0.refl _ | apply Drawn0.step)⟩
       ·rw [if_neg c7] at H
        exact absurd H (by simp)
      ·rw [if_neg c6] at H
       exact absurd H (by simp)
     ·rw [if_neg c5] at H
      exact absurd H (by simp)
    ·rw [if_neg c4] at H
     have c4b0 : decide (x13_1 < (l0.length : Int)) = false := decide_eq_false c4
     clear c4
     obtain rfl := Option.some.inj H
     go_wp2
     repeat (go_quiet (fail); try go_wp2)
     go_ret
     exact ⟨by first | rfl | (simp; done) | (simp [*]; done), by repeat (first | exact Drawn0.refl _ | apply Drawn0.step)⟩
 ·rw [if_neg c3] at H
  have c3b0 : ((l0.length : Int) == (l1.length : Int)) = false := beq_eq_false_iff_ne.mpr c3
  have c3b1 : ((l0.length : Int) != (l1.length : Int)) = true := bne_iff_ne.mpr c3
  have c3b2 : (l0.length == l1.length) = false := by first | simpa using c3 | (simp at c3 ⊢; omega)
  obtain rfl := Option.some.inj H
  go_enter Try.func47, Try.ntmps47
  go_wp2
  repeat (go_quiet (fail); try go_wp2)
  go_ret
  exact ⟨by first | rfl | (simp; done) | (simp [*]; done), by repeat (first | exact Drawn0.refl _ | apply Drawn0.step)⟩

/-! ### mult_Generated: function 51 -/
def mult_Generated.f (k : Nat) (l0 : List (List Int)) (l1 : List Int) : Option (List Int) := (mult_Validate.f k l0).bind fun t588 => (if t588 = 0 then ((mult_elements.f k l0 l1).bind fun t589 => (if t589 = true then ((mult_generated.f l0 l1).bind fun t590 => (some t590)) else (some ([] : List Int)))) else (some ([] : List Int)))
theorem mult_Generated.mono : ∀ a0 a1 k, LeO (mult_Generated.f k a0 a1) (mult_Generated.f (k + 1) a0 a1) := by
 intro a0 a1 k
 unfold mult_Generated.f
 repeat' first
   | (with_reducible exact mult_Validate.mono _ _)
   | (with_reducible exact mult_elements.mono _ _ _)
   | (with_reducible exact LeO.refl _)
   | (with_reducible exact LeO.none _)
   | (with_reducible refine LeO.ite ?_ ?_)
   | (with_reducible refine LeO.bind ?_ (fun _ => ?_))
   | exact mult_Validate.mono _ _
   | exact mult_elements.mono _ _ _
   | exact LeO.none _
   | refine LeO.ite ?_ ?_
   | refine LeO.bind ?_ (fun _ => ?_)
set_option maxHeartbeats 8000000 in
set_option maxRecDepth 100000 in
theorem mult_Generated.calls (k : Nat) (A0 : Option Addr) (c0 : Nat) (l0 : List (List Int)) (A1 : Option Addr) (c1 : Nat) (l1 : List Int) (r : List Int) (w : World) (hr0 : Kd.C (Kd.slice 3 (Kd.int .i64)) w A0 l0.length l0) (hc0 : l0.length ≤ c0) (hr1 : Kd.C (Kd.int .i64) w A1 l1.length l1) (hc1 : l1.length ≤ c1) (h : mult_Generated.f k l0 l1 = some r) :
  Calls Try.prog 51 #[.slice A0 l0.length c0, .slice A1 l1.length c1] w fun e w' => ∃ v0_ : Value, e = .returned (v0_) ∧ Kd.R (Kd.int .i64) 3 w' w.heap.size (fun _ => True) v0_ r ∧ Below w.heap.size w w' := by
 have HR0 := Aside0.mk hr0
 have HC0 := Aside0.mk hc0
 (try clear hr0); (try clear hc0)
 have HR1 := Aside0.mk hr1
 have HC1 := Aside0.mk hc1
 (try clear hr1); (try clear hc1)
 have HB := Aside0.mk (Below.refl w.heap.size w)
 have H : ((mult_Validate.f k l0).bind fun t588 => (if t588 = 0 then ((mult_elements.f k l0 l1).bind fun t589 => (if t589 = true then ((mult_generated.f l0 l1).bind fun t590 => (some t590)) else (some ([] : List Int)))) else (some ([] : List Int)))) = some r := h
 clear h
 replace H := Option.bind_eq_some_iff.mp H
 obtain ⟨t588, A30, H⟩ := H
 replace H : (if t588 = 0 then ((mult_elements.f k l0 l1).bind fun t589 => (if t589 = true then ((mult_generated.f l0 l1).bind fun t590 => (some t590)) else (some ([] : List Int)))) else (some ([] : List Int))) = some r := H
 have A3 := Aside0.mk A30
 clear A30
 by_cases c4 : t588 = 0
 ·rw [if_pos c4] at H
  have c4b0 : (t588 == 0) = true := beq_iff_eq.mpr c4
  have c4b1 : (t588 != 0) = false := bne_eq_false_iff_eq.mpr c4
  clear c4
  replace H := Option.bind_eq_some_iff.mp H
  obtain ⟨t589, A50, H⟩ := H
  replace H : (if t589 = true then ((mult_generated.f l0 l1).bind fun t590 => (some t590)) else (some ([] : List Int))) = some r := H
  have A5 := Aside0.mk A50
  clear A50
  by_cases c6 : t589 = true
  ·subst c6
   have H1 : ((mult_generated.f l0 l1).bind fun t590 => (some t590)) = some r := by rw [if_pos rfl] at H; exact H
   clear H
   have H := H1
   clear H1
   replace H := Option.bind_eq_some_iff.mp H
   obtain ⟨t590, A70, H⟩ := H
   replace H : (some t590) = some r := H
   have A7 := Aside0.mk A70
   clear A70
   obtain rfl := Option.some.inj H
   go_enter Try.func51, Try.ntmps51
   go_wp2_with (first | ((with_reducible refine gate_callee (f := 19) rfl ?_); refine goesL_ (some 6) rfl rfl Try.func19 (by kernel_rfl) rfl #[.slice A0 l0.length c0] rfl (by (try simp only [List.map_toArray, List.map_cons, List.map_nil]); first | done | rfl | (simp only [List.length_drop, List.length_take]; rfl)) ?_; (with_reducible refine (mult_Validate.calls k _ _ l0 t588 _ ?side1 ?side2 A3.out).mono ?_); (case side1 => repeat (first | exact HR0.out | (with_reducible refine Kd.C_alloc ?_ _) | (with_reducible refine Kd.C_drewN ?_ _) | (with_reducible refine Kd.C_drew ?_))); (case side2 => exact HC0.out); rintro e w' ⟨rfl, ⟨nd, rfl⟩⟩; refine ⟨_, rfl, ?_⟩) | (go_at_call 69; (with_reducible refine (mult_elements.calls k _ _ l0 _ _ l1 true _ ?side1 ?side2 ?side3 ?side4 A5.out).mono ?_); (case side1 => repeat (first | exact HR0.out | (with_reducible refine Kd.C_alloc ?_ _) | (with_reducible refine Kd.C_drewN ?_ _) | (with_reducible refine Kd.C_drew ?_))); (case side2 => exact HC0.out); (case side3 => repeat (first | exact HR1.out | (with_reducible refine Kd.C_alloc ?_ _) | (with_reducible refine Kd.C_drewN ?_ _) | (with_reducible refine Kd.C_drew ?_))); (case side4 => exact HC1.out); rintro e w' ⟨rfl, ⟨nd, rfl⟩⟩) | ((with_reducible refine gate_callee (f := 74) rfl ?_); refine goesL_ (some 16) rfl rfl Try.func74 (by kernel_rfl) rfl #[.slice A0 l0.length c0, .slice A1 l1.length c1] rfl (by (try simp only [List.map_toArray, List.map_cons, List.map_nil]); first | done | rfl | (simp only [List.length_drop, List.length_take]; rfl)) ?_; (with_reducible refine (mult_generated.calls _ _ l0 _ _ l1 t590 _ ?side1 ?side2 ?side3 ?side4 A7.out).mono ?_); (case side1 => repeat (first | exact HR0.out | (with_reducible refine Kd.C_alloc ?_ _) | (with_reducible refine Kd.C_drewN ?_ _) | (with_reducible refine Kd.C_drew ?_))); (case side2 => exact HC0.out); (case side3 => repeat (first | exact HR1.out | (with_reducible refine Kd.C_alloc ?_ _) | (with_reducible refine Kd.C_drewN ?_ _) | (with_reducible refine Kd.C_drew ?_))); (case side4 => exact HC1.out); rintro e w8 ⟨v591, rfl, ho0, hb⟩; refine ⟨_, rfl, ?_⟩; have n0_ := Aside0.mk (Kd.R_lower ho0 (below_size (by repeat (first | (with_reducible first | exact HB.out | apply below_alloc | apply pw_below_drewN | apply below_drew1) | exact HB.out)))); have n1_ := Aside0.mk (below_step (by repeat (first | (with_reducible first | exact HB.out | apply below_alloc | apply pw_below_drewN | apply below_drew1) | exact HB.out)) hb); clear HB; have HO592 := n0_; have HB := n1_; clear n0_ n1_; (try clear hb); (try clear hb2); (try clear hk); (try clear hi); (try clear ho0)))
   go_ret
   exact ⟨_, by first | rfl | (simp [errW_none, errW_some] <;> rfl) | (simp [*, errW_none, errW_some] <;> rfl), by (with_reducible repeat (first | apply Kd.R_alloc | apply Kd.R_drewN | apply Kd.R_drew)); exact HO592.out, by repeat (first | (with_reducible first | exact HB.out | apply below_alloc | apply pw_below_drewN | apply below_drew1) | exact HB.out)⟩
  ·replace c6 := Bool.eq_false_iff.mpr c6
   subst c6
   have H1 : (some ([] : List Int)) = some r := by rw [if_neg (show ¬ (false = true) by decide)] at H; exact H
   clear H
   have H := H1
   clear H1
   obtain rfl := Option.some.inj H
   go_enter Try.func51, Try.ntmps51
   go_wp2_with (first | ((with_reducible refine gate_callee (f := 19) rfl ?_); refine goesL_ (some 6) rfl rfl Try.func19 (by kernel_rfl) rfl #[.slice A0 l0.length c0] rfl (by (try simp only [List.map_toArray, List.map_cons, List.map_nil]); first | done | rfl | (simp only [List.length_drop, List.length_take]; rfl)) ?_; (with_reducible refine (mult_Validate.calls k _ _ l0 t588 _ ?side1 ?side2 A3.out).mono ?_); (case side1 => repeat (first | exact HR0.out | (with_reducible refine Kd.C_alloc ?_ _) | (with_reducible refine Kd.C_drewN ?_ _) | (with_reducible refine Kd.C_drew ?_))); (case side2 => exact HC0.out); rintro e w' ⟨rfl, ⟨nd, rfl⟩⟩; refine ⟨_, rfl, ?_⟩) | (go_at_call 69; (with_reducible refine (mult_elements.calls k _ _ l0 _ _ l1 false _ ?side1 ?side2 ?side3 ?side4 A5.out).mono ?_); (case side1 => repeat (first | exact HR0.out | (with_reducible refine Kd.C_alloc ?_ _) | (with_reducible refine Kd.C_drewN ?_ _) | (with_reducible refine Kd.C_drew ?_))); (case side2 => exact HC0.out); (case side3 => repeat (first | exact HR1.out | (with_reducible refine Kd.C_alloc ?_ _) | (with_reducible refine Kd.C_drewN ?_ _) | (with_reducible refine Kd.C_drew ?_))); (case side4 => exact HC1.out); rintro e w' ⟨rfl, ⟨nd, rfl⟩⟩))
   go_ret
   exact ⟨_, by first | rfl | (simp [errW_none, errW_some] <;> rfl) | (simp [*, errW_none, errW_some] <;> rfl), by first | exact Kd.R_nil _ _ _ _ _ | exact Kd.N_nil _ _ _ _ _ | exact Kd.V_nil _ _ _ _ _ | exact Kd.Q_nil _ _ _ _ _ | exact Kd.S_nil _ _ _ _ _, by repeat (first | (with_reducible first | exact HB.out | apply below_alloc | apply pw_below_drewN | apply below_drew1) | exact HB.out)⟩
 ·rw [if_neg c4] at H
  have c4b0 : (t588 == 0) = false := beq_eq_false_iff_ne.mpr c4
  have c4b1 : (t588 != 0) = true := bne_iff_ne.mpr c4
  obtain rfl := Option.some.inj H
  go_enter Try.func51, Try.ntmps51
  go_wp2_with (first | ((with_reducible refine gate_callee (f := 19) rfl ?_); refine goesL_ (some 6) rfl rfl Try.func19 (by kernel_rfl) rfl #[.slice A0 l0.length c0] rfl (by (try simp only [List.map_toArray, List.map_cons, List.map_nil]); first | done | rfl | (simp only [List.length_drop, List.length_take]; rfl)) ?_; (with_reducible refine (mult_Validate.calls k _ _ l0 t588 _ ?side1 ?side2 A3.out).mono ?_); (case side1 => repeat (first | exact HR0.out | (with_reducible refine Kd.C_alloc ?_ _) | (with_reducible refine Kd.C_drewN ?_ _) | (with_reducible refine Kd.C_drew ?_))); (case side2 => exact HC0.out); rintro e w' ⟨rfl, ⟨nd, rfl⟩⟩; refine ⟨_, rfl, ?_⟩))
  go_ret
  exact ⟨_, by first | rfl | (simp [errW_none, errW_some] <;> rfl) | (simp [*, errW_none, errW_some] <;> rfl), by first | exact Kd.R_nil _ _ _ _ _ | exact Kd.N_nil _ _ _ _ _ | exact Kd.V_nil _ _ _ _ _ | exact Kd.Q_nil _ _ _ _ _ | exact Kd.S_nil _ _ _ _ _, by repeat (first | (with_reducible first | exact HB.out | apply below_alloc | apply pw_below_drewN | apply below_drew1) | exact HB.out)⟩

/-! ### mult_Sub: function 52 -/
mutual
def mult_Sub.j0 : Nat → List (List Int) → List Int → Bool → Option ((List (List Int)) × Int)
 | 0, _, _, _ => none
 | k + 1, x0, x1, x29 => if x29 = true then (some (([] : List (List Int)), 1)) else (if 0 ≤ (x0.length : Int) then (if ((x0.length : Int) : Int).toNat ≤ 35184372088832 then ((some (List.replicate ((x0.length : Int) : Int).toNat 0 : List Int)).bind fun y595 => (mult_Sub.l0 k x0 x1 y595 (y595.length : Int) 0)) else (none)) else (none))
def mult_Sub.l0 : Nat → List (List Int) → List Int → List Int → Int → Int → Option ((List (List Int)) × Int)
 | 0, _, _, _, _, _ => none
 | k + 1, x0, x1, x7, x34, x35 => if x35 < x34 then (if 0 ≤ x35 then (if x35 < (x7.length : Int) then (mult_Sub.l0 k x0 x1 (x7.set (x35 : Int).toNat (-1)) x34 (wrap64 (x35 + 1))) else (none)) else (none)) else (mult_Sub.l1 k x0 x1 x7 x1 (x1.length : Int) 0)
def mult_Sub.l1 : Nat → List (List Int) → List Int → List Int → List Int → Int → Int → Option ((List (List Int)) × Int)
 | 0, _, _, _, _, _, _ => none
 | k + 1, x0, x1, x7, x42, x43, x44 => if x44 < x43 then (if 0 ≤ x44 then (if x44 < (x42.length : Int) then (if x44 > 0 then (if 0 ≤ (wrap64 (x44 - 1)) then (if (wrap64 (x44 - 1)) < (x1.length : Int) then (if (rd x1 (wrap64 (x44 - 1))) ≥ (rd x42 x44) then (some (([] : List (List Int)), 1)) else (if 0 ≤ (rd x42 x44) then (if (rd x42 x44) < (x7.length : Int) then (mult_Sub.l1 k x0 x1 (x7.set ((rd x42 x44) : Int).toNat x44) x42 x43 (wrap64 (x44 + 1))) else (none)) else (none))) else (none)) else (none)) else (if 0 ≤ (rd x42 x44) then (if (rd x42 x44) < (x7.length : Int) then (mult_Sub.l1 k x0 x1 (x7.set ((rd x42 x44) : Int).toNat x44) x42 x43 (wrap64 (x44 + 1))) else (none)) else (none))) else (none)) else (none)) else (if 0 ≤ (x1.length : Int) then (if ((x1.length : Int) : Int).toNat ≤ 11728124029610 then (mult_Sub.l2 k x0 x1 x7 (List.replicate ((x1.length : Int) : Int).toNat []) x1 (x1.length : Int) 0) else (none)) else (none))
def mult_Sub.l2 : Nat → List (List Int) → List Int → List Int → List (List Int) → List Int → Int → Int → Option ((List (List Int)) × Int)
 | 0, _, _, _, _, _, _, _ => none
 | k + 1, x0, x1, x7, x11, x68, x69, x70 => if x70 < x69 then (if 0 ≤ x70 then (if x70 < (x68.length : Int) then (if 0 ≤ (x1.length : Int) then (if ((x1.length : Int) : Int).toNat ≤ 35184372088832 then (if x70 < (x11.length : Int) then (mult_Sub.l3 k x0 x1 x7 (x11.set (x70 : Int).toNat (List.replicate ((x1.length : Int) : Int).toNat 0)) x70 (rd x68 x70) x68 x69 x70 x1 (x1.length : Int) 0) else (none)) else (none)) else (none)) else (none)) else (none)) else (some (x11, 0))
def mult_Sub.l3 : Nat → List (List Int) → List Int → List Int → List (List Int) → Int → Int → List Int → Int → Int → List Int → Int → Int → Option ((List (List Int)) × Int)
 | 0, _, _, _, _, _, _, _, _, _, _, _, _ => none
 | k + 1, x0, x1, x7, x11, x12, x13, x68, x69, x70, x81, x82, x83 => if x83 < x82 then (if 0 ≤ x83 then (if x83 < (x81.length : Int) then (if 0 ≤ x13 then (if x13 < (x0.length : Int) then (if 0 ≤ (rd x81 x83) then (if (rd x81 x83) < ((rd_L1 x0 x13).length : Int) then (if 0 ≤ (rd (rd_L1 x0 x13) (rd x81 x83)) then (if (rd (rd_L1 x0 x13) (rd x81 x83)) < (x7.length : Int) then (if (rd x7 (rd (rd_L1 x0 x13) (rd x81 x83))) < 0 then (some (([] : List (List Int)), 9)) else (if 0 ≤ x12 then (if x12 < (x11.length : Int) then (if x83 < ((rd_L1 x11 x12).length : Int) then (mult_Sub.l3 k x0 x1 x7 (x11.set (x12 : Int).toNat ((rd_L1 x11 x12).set (x83 : Int).toNat (rd x7 (rd (rd_L1 x0 x13) (rd x81 x83))))) x12 x13 x68 x69 x70 x81 x82 (wrap64 (x83 + 1))) else (none)) else (none)) else (none))) else (none)) else (none)) else (none)) else (none)) else (none)) else (none)) else (none)) else (none)) else (mult_Sub.l2 k x0 x1 x7 x11 x68 x69 (wrap64 (x70 + 1)))
end
def mult_Sub.f (k : Nat) (l0 : List (List Int)) (l1 : List Int) : Option ((List (List Int)) × Int) := (mult_Validate.f k l0).bind fun t593 => (if t593 = 0 then (if (l1.length : Int) = 0 then (mult_Sub.j0 k l0 l1 true) else ((mult_elements.f k l0 l1).bind fun t594 => (mult_Sub.j0 k l0 l1 (!t594)))) else (some (([] : List (List Int)), t593)))
theorem mult_Sub.mono_l : ∀ k, (∀ y0 y1 y2, LeO (mult_Sub.j0 k y0 y1 y2) (mult_Sub.j0 (k + 1) y0 y1 y2)) ∧ (∀ y0 y1 y2 y3 y4, LeO (mult_Sub.l0 k y0 y1 y2 y3 y4) (mult_Sub.l0 (k + 1) y0 y1 y2 y3 y4)) ∧ (∀ y0 y1 y2 y3 y4 y5, LeO (mult_Sub.l1 k y0 y1 y2 y3 y4 y5) (mult_Sub.l1 (k + 1) y0 y1 y2 y3 y4 y5)) ∧ (∀ y0 y1 y2 y3 y4 y5 y6, LeO (mult_Sub.l2 k y0 y1 y2 y3 y4 y5 y6) (mult_Sub.l2 (k + 1) y0 y1 y2 y3 y4 y5 y6)) ∧ (∀ y0 y1 y2 y3 y4 y5 y6 y7 y8 y9 y10 y11, LeO (mult_Sub.l3 k y0 y1 y2 y3 y4 y5 y6 y7 y8 y9 y10 y11) (mult_Sub.l3 (k + 1) y0 y1 y2 y3 y4 y5 y6 y7 y8 y9 y10 y11))
 | 0 => ⟨fun _ _ _ r h => by simp [mult_Sub.j0] at h, fun _ _ _ _ _ r h => by simp [mult_Sub.l0] at h, fun _ _ _ _ _ _ r h => by simp [mult_Sub.l1] at h, fun _ _ _ _ _ _ _ r h => by simp [mult_Sub.l2] at h, fun _ _ _ _ _ _ _ _ _ _ _ _ r h => by simp [mult_Sub.l3] at h⟩
 | k + 1 => by
  obtain ⟨ih0, ih1, ih2, ih3, ih4⟩ := mult_Sub.mono_l k
  refine ⟨?_, ?_, ?_, ?_, ?_⟩
  ·intro y0 y1 y2
   unfold mult_Sub.j0
   repeat' first
   | (with_reducible exact ih0 _ _ _)
   | (with_reducible exact ih1 _ _ _ _ _)
   | (with_reducible exact ih2 _ _ _ _ _ _)
   | (with_reducible exact ih3 _ _ _ _ _ _ _)
   | (with_reducible exact ih4 _ _ _ _ _ _ _ _ _ _ _ _)
   | (with_reducible exact mult_Validate.mono _ _)
   | (with_reducible exact mult_elements.mono _ _ _)
   | (with_reducible exact LeO.refl _)
   | (with_reducible exact LeO.none _)
   | (with_reducible refine LeO.ite ?_ ?_)
   | (with_reducible refine LeO.bind ?_ (fun _ => ?_))
   | exact ih0 _ _ _
   | exact ih1 _ _ _ _ _
   | exact ih2 _ _ _ _ _ _
   | exact ih3 _ _ _ _ _ _ _
   | exact ih4 _ _ _ _ _ _ _ _ _ _ _ _
   | exact mult_Validate.mono _ _
   | exact mult_elements.mono _ _ _
   | exact LeO.none _
   | refine LeO.ite ?_ ?_
   | refine LeO.bind ?_ (fun _ => ?_)
  ·intro y0 y1 y2 y3 y4
   unfold mult_Sub.l0
   repeat' first
   | (with_reducible exact ih0 _ _ _)
   | (with_reducible exact ih1 _ _ _ _ _)
   | (with_reducible exact ih2 _ _ _ _ _ _)
   | (with_reducible exact ih3 _ _ _ _ _ _ _)
   | (with_reducible exact ih4 _ _ _ _ _ _ _ _ _ _ _ _)
   | (with_reducible exact mult_Validate.mono _ _)
   | (with_reducible exact mult_elements.mono _ _ _)
   | (with_reducible exact LeO.refl _)
   | (with_reducible exact LeO.none _)
   | (with_reducible refine LeO.ite ?_ ?_)
   | (with_reducible refine LeO.bind ?_ (fun _ => ?_))
   | exact ih0 _ _ _
   | exact ih1 _ _ _ _ _
   | exact ih2 _ _ _ _ _ _
   | exact ih3 _ _ _ _ _ _ _
   | exact ih4 _ _ _ _ _ _ _ _ _ _ _ _
   | exact mult_Validate.mono _ _
   | exact mult_elements.mono _ _ _
   | exact LeO.none _
   | refine LeO.ite ?_ ?_
   | refine LeO.bind ?_ (fun _ => ?_)
  ·intro y0 y1 y2 y3 y4 y5
   unfold mult_Sub.l1
   repeat' first
   | (with_reducible exact ih0 _ _ _)
   | (with_reducible exact ih1 _ _ _ _ _)
   | (with_reducible exact ih2 _ _ _ _ _ _)
   | (with_reducible exact ih3 _ _ _ _ _ _ _)
   | (with_reducible exact ih4 _ _ _ _ _ _ _ _ _ _ _ _)
   | (with_reducible exact mult_Validate.mono _ _)
   | (with_reducible exact mult_elements.mono _ _ _)
   | (with_reducible exact LeO.refl _)
   | (with_reducible exact LeO.none _)
   | (with_reducible refine LeO.ite ?_ ?_)
   | (with_reducible refine LeO.bind ?_ (fun _ => ?_))
   | exact ih0 _ _ _
   | exact ih1 _ _ _ _ _
   | exact ih2 _ _ _ _ _ _
   | exact ih3 _ _ _ _ _ _ _
   | exact ih4 _ _ _ _ _ _ _ _ _ _ _ _
   | exact mult_Validate.mono _ _
   | exact mult_elements.mono _ _ _
   | exact LeO.none _
   | refine LeO.ite ?_ ?_
   | refine LeO.bind ?_ (fun _ => ?_)
  ·intro y0 y1 y2 y3 y4 y5 y6
   unfold mult_Sub.l2
   repeat' first
   | (with_reducible exact ih0 _ _ _)
   | (with_reducible exact ih1 _ _ _ _ _)
   | (with_reducible exact ih2 _ _ _ _ _ _)
   | (with_reducible exact ih3 _ _ _ _ _ _ _)
   | (with_reducible exact ih4 _ _ _ _ _ _ _ _ _ _ _ _)
   | (with_reducible exact mult_Validate.mono _ _)
   | (with_reducible exact mult_elements.mono _ _ _)
   | (with_reducible exact LeO.refl _)
   | (with_reducible exact LeO.none _)
   | (with_reducible refine LeO.ite ?_ ?_)
   | (with_reducible refine LeO.bind ?_ (fun _ => ?_))
   | exact ih0 _ _ _
   | exact ih1 _ _ _ _ _
   | exact ih2 _ _ _ _ _ _
   | exact ih3 _ _ _ _ _ _ _
   | exact ih4 _ _ _ _ _ _ _ _ _ _ _ _
   | exact mult_Validate.mono _ _
   | exact mult_elements.mono _ _ _
   | exact LeO.none _
   | refine LeO.ite ?_ ?_
   | refine LeO.bind ?_ (fun _ => ?_)
  ·intro y0 y1 y2 y3 y4 y5 y6 y7 y8 y9 y10 y11
   unfold mult_Sub.l3
   repeat' first
   | (with_reducible exact ih0 _ _ _)
   | (with_reducible exact ih1 _ _ _ _ _)
   | (with_reducible exact ih2 _ _ _ _ _ _)
   | (with_reducible exact ih3 _ _ _ _ _ _ _)
   | (with_reducible exact ih4 _ _ _ _ _ _ _ _ _ _ _ _)
   | (with_reducible exact mult_Validate.mono _ _)
   | (with_reducible exact mult_elements.mono _ _ _)
   | (with_reducible exact LeO.refl _)
   | (with_reducible exact LeO.none _)
   | (with_reducible refine LeO.ite ?_ ?_)
   | (with_reducible refine LeO.bind ?_ (fun _ => ?_))
   | exact ih0 _ _ _
   | exact ih1 _ _ _ _ _
   | exact ih2 _ _ _ _ _ _
   | exact ih3 _ _ _ _ _ _ _
   | exact ih4 _ _ _ _ _ _ _ _ _ _ _ _
   | exact mult_Validate.mono _ _
   | exact mult_elements.mono _ _ _
   | exact LeO.none _
   | refine LeO.ite ?_ ?_
   | refine LeO.bind ?_ (fun _ => ?_)
theorem mult_Sub.mono : ∀ a0 a1 k, LeO (mult_Sub.f k a0 a1) (mult_Sub.f (k + 1) a0 a1) := by
 intro a0 a1 k
 obtain ⟨ih0, ih1, ih2, ih3, ih4⟩ := mult_Sub.mono_l k
 unfold mult_Sub.f
 repeat' first
   | (with_reducible exact ih0 _ _ _)
   | (with_reducible exact ih1 _ _ _ _ _)
   | (with_reducible exact ih2 _ _ _ _ _ _)
   | (with_reducible exact ih3 _ _ _ _ _ _ _)
   | (with_reducible exact ih4 _ _ _ _ _ _ _ _ _ _ _ _)
   | (with_reducible exact mult_Validate.mono _ _)
   | (with_reducible exact mult_elements.mono _ _ _)
   | (with_reducible exact LeO.refl _)
   | (with_reducible exact LeO.none _)
   | (with_reducible refine LeO.ite ?_ ?_)
   | (with_reducible refine LeO.bind ?_ (fun _ => ?_))
   | exact ih0 _ _ _
   | exact ih1 _ _ _ _ _
   | exact ih2 _ _ _ _ _ _
   | exact ih3 _ _ _ _ _ _ _
   | exact ih4 _ _ _ _ _ _ _ _ _ _ _ _
   | exact mult_Validate.mono _ _
   | exact mult_elements.mono _ _ _
   | exact LeO.none _
   | refine LeO.ite ?_ ?_
   | refine LeO.bind ?_ (fun _ => ?_)
def mult_Sub.T29 : Bool × List (List Nat × List Nat) := (true, [([], []), ([], []), ([0, 1], [0, 1]), ([2], [2]), ([], []), ([], []), ([], []), ([], []), ([6, 7], [6, 7]), ([8], [8]), ([], []), ([9, 10], [9, 10]), ([11], [11]), ([5, 12], [5, 12]), ([13], [13]), ([3, 4, 0, 1, 2, 3, 4, 5, 6, 7, 8, 9, 10, 11, 12, 13, 14], [3, 4]), ([15, 14, 0, 1, 2, 3, 4, 5, 6, 7, 8, 9, 10, 11, 12, 13, 14], [14, 15])])
def mult_Sub.B29 : List Nat := [0, 0, 3, 7, 0, 0, 0, 0, 192, 448, 0, 1984, 4032, 8160, 16352, 32767, 65535]
theorem mult_Sub.tab29 : rtab .any (opsOf Try.f52 29) = mult_Sub.T29 := by kernel_rfl
theorem mult_Sub.bits29 : waitsOk mult_Sub.T29.2 mult_Sub.B29 = true := by kernel_rfl
set_option maxHeartbeats 8000000 in
set_option maxRecDepth 100000 in
theorem mult_Sub.calls (k : Nat) (A0 : Option Addr) (c0 : Nat) (l0 : List (List Int)) (A1 : Option Addr) (c1 : Nat) (l1 : List Int) (r1 : List (List Int)) (r2 : Int) (w : World) (hr0 : Kd.C (Kd.slice 3 (Kd.int .i64)) w A0 l0.length l0) (hc0 : l0.length ≤ c0) (hr1 : Kd.C (Kd.int .i64) w A1 l1.length l1) (hc1 : l1.length ≤ c1) (h : mult_Sub.f k l0 l1 = some (r1, r2)) :
  Calls Try.prog 52 #[.slice A0 l0.length c0, .slice A1 l1.length c1] w fun e w' => ∃ v0_ : Value, e = .returned (.tuple #[v0_, .int .i64 r2]) ∧ Kd.S (Kd.slice 3 (Kd.int .i64)) 30 w' w.heap.size (fun _ => True) v0_ r1 ∧ Below w.heap.size w w' := by
 have HR0 := Aside0.mk hr0
 have HC0 := Aside0.mk hc0
 (try clear hr0); (try clear hc0)
 have HR1 := Aside0.mk hr1
 have HC1 := Aside0.mk hc1
 (try clear hr1); (try clear hc1)
 have HB := Aside0.mk (Below.refl w.heap.size w)
 have H : ((mult_Validate.f k l0).bind fun t593 => (if t593 = 0 then (if (l1.length : Int) = 0 then (mult_Sub.j0 k l0 l1 true) else ((mult_elements.f k l0 l1).bind fun t594 => (mult_Sub.j0 k l0 l1 (!t594)))) else (some (([] : List (List Int)), t593)))) = some (r1, r2) := h
 clear h
 replace H := Option.bind_eq_some_iff.mp H
 obtain ⟨t593, A30, H⟩ := H
 replace H : (if t593 = 0 then (if (l1.length : Int) = 0 then (mult_Sub.j0 k l0 l1 true) else ((mult_elements.f k l0 l1).bind fun t594 => (mult_Sub.j0 k l0 l1 (!t594)))) else (some (([] : List (List Int)), t593))) = some (r1, r2) := H
 have A3 := Aside0.mk A30
 clear A30
 by_cases c4 : t593 = 0
 ·rw [if_pos c4] at H
  have c4b0 : (t593 == 0) = true := beq_iff_eq.mpr c4
  have c4b1 : (t593 != 0) = false := bne_eq_false_iff_eq.mpr c4
  clear c4
  have HC5 := Aside0.mk H
  clear H
  go_enter Try.func52, Try.ntmps52
  go_upto_region 4 with (first | ((with_reducible refine gate_callee (f := 19) rfl ?_); refine goesL_ (some 17) rfl rfl Try.func19 (by kernel_rfl) rfl #[.slice A0 l0.length c0] rfl (by (try simp only [List.map_toArray, List.map_cons, List.map_nil]); first | done | rfl | (simp only [List.length_drop, List.length_take]; rfl)) ?_; (with_reducible refine (mult_Validate.calls k _ _ l0 t593 _ ?side1 ?side2 A3.out).mono ?_); (case side1 => repeat (first | exact HR0.out | (with_reducible refine Kd.C_alloc ?_ _) | (with_reducible refine Kd.C_drewN ?_ _) | (with_reducible refine Kd.C_drew ?_))); (case side2 => exact HC0.out); rintro e w' ⟨rfl, ⟨nd, rfl⟩⟩; refine ⟨_, rfl, ?_⟩))
  (try simp only [Act.put, List.setIfInBounds_toArray, List.set_cons_zero, List.set_cons_succ])
  go_cut [29] (fun v29 wc => ∃ (kq : Nat) (x29_4 : Bool), v29 = .bool x29_4 ∧ Aside0 (mult_Sub.j0 kq l0 l1 x29_4 = some (r1, r2)) ∧ Aside0 (kq ≤ k) ∧ Aside0 (Below w.heap.size w wc))
  case first =>
   have H := HC5.out
   clear HC5
   by_cases c6 : (l1.length : Int) = 0
   ·rw [if_pos c6] at H
    have c6b0 : ((l1.length : Int) == 0) = true := beq_iff_eq.mpr c6
    have c6b1 : ((l1.length : Int) != 0) = false := bne_eq_false_iff_eq.mpr c6
    clear c6
    (first | rw [c6b0] | (simp only [i64_w, i32_w]; rw [c6b0]) | skip)
    have H' := Aside0.mk H
    clear H
    go_wp2
    go_meet
    case rel => exact ⟨_, (true), (by first | rfl | (simp; done) | (simp [*]; done)), H', ⟨by first | omega | exact Nat.le_refl _⟩, ⟨by repeat (first | (with_reducible first | exact HB.out | apply below_alloc | apply pw_below_drewN | apply below_drew1) | exact HB.out)⟩⟩
   ·rw [if_neg c6] at H
    have c6b0 : ((l1.length : Int) == 0) = false := beq_eq_false_iff_ne.mpr c6
    have c6b1 : ((l1.length : Int) != 0) = true := bne_iff_ne.mpr c6
    have c6b2 : ¬ (l1 = []) := fun h_ => c6 (by rw [h_]; rfl)
    (first | rw [c6b0] | (simp only [i64_w, i32_w]; rw [c6b0]) | skip)
    replace H := Option.bind_eq_some_iff.mp H
    obtain ⟨t594, A70, H⟩ := H
    replace H : (mult_Sub.j0 k l0 l1 (!t594)) = some (r1, r2) := H
    have A7 := Aside0.mk A70
    clear A70
    have H' := Aside0.mk H
    clear H
    go_wp2_with (first | (go_at_call 69; (with_reducible refine (mult_elements.calls k _ _ l0 _ _ l1 t594 _ ?side1 ?side2 ?side3 ?side4 A7.out).mono ?_); (case side1 => repeat (first | exact (Kd.C_below HR0.out HB.out) | (with_reducible refine Kd.C_alloc ?_ _) | (with_reducible refine Kd.C_drewN ?_ _) | (with_reducible refine Kd.C_drew ?_))); (case side2 => exact HC0.out); (case side3 => repeat (first | exact (Kd.C_below HR1.out HB.out) | (with_reducible refine Kd.C_alloc ?_ _) | (with_reducible refine Kd.C_drewN ?_ _) | (with_reducible refine Kd.C_drew ?_))); (case side4 => exact HC1.out); rintro e w' ⟨rfl, ⟨nd, rfl⟩⟩))
    go_meet
    case rel => exact ⟨_, (!t594), (by first | rfl | (simp; done) | (simp [*]; done)), H', ⟨by first | omega | exact Nat.le_refl _⟩, ⟨by repeat (first | (with_reducible first | exact HB.out | apply below_alloc | apply pw_below_drewN | apply below_drew1) | exact HB.out)⟩⟩
  case rest =>
   clear HC5
   try clear c1
   try clear p2
   try clear c4
   try clear c4b0
   try clear c4b1
   try clear c5
   try clear c6
   try clear c6b0
   try clear c6b1
   try clear c6b2
   obtain ⟨kq, x29_4, rfl, HA, HJ4, HB⟩ := hcut
   cases kq with
   | zero => exact absurd HA.out (by simp [mult_Sub.j0])
   | succ kj4 =>
    have H := HA.out
    clear HA
    simp only [mult_Sub.j0] at H
    by_cases c8 : x29_4 = true
    ·subst c8
     have H1 : (some (([] : List (List Int)), 1)) = some (r1, r2) := by rw [if_pos rfl] at H; exact H
     clear H
     have H := H1
     clear H1
     simp only [Option.some.injEq, Prod.mk.injEq] at H
     obtain ⟨rfl, rfl⟩ := H
     go_wp2
     go_ret2
     exact ⟨_, by first | rfl | (simp [errW_none, errW_some] <;> rfl) | (simp [*, errW_none, errW_some] <;> rfl), by first | exact Kd.S_nil _ _ _ _ _ | exact Kd.N_nil _ _ _ _ _ | exact Kd.V_nil _ _ _ _ _ | exact Kd.Q_nil _ _ _ _ _ | exact Kd.R_nil _ _ _ _ _, by repeat (first | (with_reducible first | exact HB.out | apply below_alloc | apply pw_below_drewN | apply below_drew1) | exact HB.out)⟩
    ·replace c8 := Bool.eq_false_iff.mpr c8
     subst c8
     have H1 : (if 0 ≤ (l0.length : Int) then (if ((l0.length : Int) : Int).toNat ≤ 35184372088832 then ((some (List.replicate ((l0.length : Int) : Int).toNat 0 : List Int)).bind fun y595 => (mult_Sub.l0 kj4 l0 l1 y595 (y595.length : Int) 0)) else (none)) else (none)) = some (r1, r2) := by rw [if_neg (show ¬ (false = true) by decide)] at H; exact H
     clear H
     have H := H1
     clear H1
     by_cases c9 : 0 ≤ (l0.length : Int)
     ·rw [if_pos c9] at H
      have c9b0 := eq_true c9
      have c9b1 : decide (0 ≤ (l0.length : Int)) = true := decide_eq_true c9
      clear c9
      by_cases c10 : ((l0.length : Int) : Int).toNat ≤ 35184372088832
      ·rw [if_pos c10] at H
       have c10b0 := eq_true c10
       have c10b1 : decide (((l0.length : Int) : Int).toNat ≤ 35184372088832) = true := decide_eq_true c10
       clear c10
       obtain ⟨y595, hy595⟩ : ∃ y_ : List Int, y_ = (List.replicate ((l0.length : Int) : Int).toNat 0) := ⟨_, rfl⟩
       replace H : (mult_Sub.l0 kj4 l0 l1 y595 (y595.length : Int) 0) = some (r1, r2) := by first | (rw [hy595]; with_reducible exact H) | (have H2_ := (Option.bind_some _ _).symm.trans H; rw [hy595]; with_reducible exact H2_) | (have H2_ := (Option.bind_some _ _).symm.trans H; with_reducible exact H2_) | with_reducible exact H | (rw [hy595]; exact H) | exact H
       have Ny595 := Aside0.mk hy595
       clear hy595
       have H' := Aside0.mk H
       clear H
       go_wp2_with (first | ((with_reducible refine gate_dst (N := 32) rfl ?_); refine Kd.R_make (Kd.int .i64) _ 3 rfl (N := 32) rfl 30 _ _ rfl (l0.length : Int) rfl rfl Try.underlying30 (.int .i64 0) 8 info3 rfl (by decide) (by omega) 0 (ok := fun _ => True) (okp := fun _ => True) rfl (fun _ hk => hk) trivial (of_decide_eq_true (by first | (with_reducible assumption) | assumption)) (Nat.le_trans (Nat.mul_le_mul_right _ (of_decide_eq_true (by first | (with_reducible assumption) | assumption) : (l0.length : Int).toNat ≤ 35184372088832)) (by omega)) (Below.refl _ _) (Nat.le_refl _) ?_; intro v596 w11 ho12 hb hg_ hnew_; (try clear hg_); (try clear hnew_); (first | rw [← Ny595.out] at ho12 | (simp only [Int.reduceToNat] at ho12; rw [← Ny595.out] at ho12)); have n0_ := Aside0.mk (Kd.R_lower ho12 (below_size (by repeat (first | (with_reducible first | exact HB.out | apply below_alloc | apply pw_below_drewN | apply below_drew1) | exact HB.out)))); have n1_ := Aside0.mk (below_step (by repeat (first | (with_reducible first | exact HB.out | apply below_alloc | apply pw_below_drewN | apply below_drew1) | exact HB.out)) hb); clear HB; have HO597 := n0_; have HB := n1_; clear n0_ n1_; (try clear hb); (try clear ho12); obtain ⟨Ao13, co13, eo13⟩ := Kd.R_slice HO597.out; subst eo13))
       go_loopg [35] kj4 (fun kq v35 w' => ∃ (x7_2 : List Int) (x35_2 : Int), v35 = .int .i64 x35_2 ∧ Aside0 (mult_Sub.l0 kq l0 l1 x7_2 (y595.length : Int) x35_2 = some (r1, r2)) ∧ Aside0 (kq ≤ kj4) ∧ Aside0 (Kd.R (Kd.int .i64) 3 w' w.heap.size (fun _ => True) (.slice Ao13 y595.length co13) x7_2) ∧ Aside0 (Below w.heap.size w w'))
       case atStart => exact ⟨(y595), (0), (by first | rfl | (simp; done) | (simp [*]; done)), H', ⟨Nat.le_refl _⟩, ⟨by (with_reducible repeat (first | apply Kd.R_alloc | apply Kd.R_drewN | apply Kd.R_drew)); exact HO597.out⟩, ⟨by repeat (first | (with_reducible first | exact HB.out | apply below_alloc | apply pw_below_drewN | apply below_drew1) | exact HB.out)⟩⟩
       case round =>
        clear H'
        try clear c1
        try clear p2
        try clear c4
        try clear c4b0
        try clear c4b1
        try clear c5
        try clear c6
        try clear c6b0
        try clear c6b1
        try clear c6b2
        try clear c8
        try clear c9
        try clear c9b0
        try clear c9b1
        try clear c10
        try clear c10b0
        try clear c10b1
        try clear p2
        obtain ⟨x7_2, x35_2, rfl, HA, HK2, HO_7, HB⟩ := hrel
        have hl7_2 := (Kd.R_reads' HO_7.out).1
        rw [hl7_2] at HO_7
        (try simp only [hl7_2])
        cases gk with
        | zero => exact absurd HA.out (by simp [mult_Sub.l0])
        | succ k2 =>
         have H := HA.out
         clear HA
         simp only [mult_Sub.l0] at H
         by_cases c14 : x35_2 < (y595.length : Int)
         ·rw [if_pos c14] at H
          have c14b0 : decide (x35_2 < (y595.length : Int)) = true := decide_eq_true c14
          (try (have c14b0z := c14b0; simp only [hl7_2] at c14b0z))
          clear c14
          by_cases c15 : 0 ≤ x35_2
          ·rw [if_pos c15] at H
           have c15b0 : decide (0 ≤ x35_2) = true := decide_eq_true c15
           clear c15
           by_cases c16 : x35_2 < (x7_2.length : Int)
           ·rw [if_pos c16] at H
            have c16b0 : decide (x35_2 < (x7_2.length : Int)) = true := decide_eq_true c16
            (try (have c16b0z := c16b0; simp only [hl7_2] at c16b0z))
            clear c16
            obtain ⟨y598, hy598⟩ : ∃ y_ : List Int, y_ = (x7_2.set (x35_2 : Int).toNat (-1)) := ⟨_, rfl⟩
            replace H : (mult_Sub.l0 k2 l0 l1 y598 (y595.length : Int) (wrap64 (x35_2 + 1))) = some (r1, r2) := by first | (rw [hy598]; with_reducible exact H) | (have H2_ := (Option.bind_some _ _).symm.trans H; rw [hy598]; with_reducible exact H2_) | (have H2_ := (Option.bind_some _ _).symm.trans H; with_reducible exact H2_) | with_reducible exact H | (rw [hy598]; exact H) | exact H
            have Ny598 := Aside0.mk hy598
            clear hy598
            have H' := Aside0.mk H
            clear H
            have p17 : 0 ≤ (x35_2 : Int) := of_decide_eq_true (by first | (with_reducible assumption) | assumption)
            have q17 : (x35_2 : Int) < ((x7_2.length : Int) : Int) := of_decide_eq_true (by first | (with_reducible assumption) | assumption)
            obtain ⟨go17, co17, eo17, gb17, gl17, cl17, HG17⟩ := Kd.R_form HO_7.out (by omega)
            (first | cases eo17 | (injection eo17 with ea_ en_ ec_; (first | subst ea_ | (injection ea_ with ea_; subst ea_)); subst ec_; clear en_))
            have GB17 := Aside0.mk gb17
            have GG17 := Aside0.mk HG17
            (try clear gb17); (try clear gl17); (try clear HG17)
            obtain ⟨hx17_0, hf17_0⟩ := Kd.R_celln 0 HO_7.out (x35_2 : Int) p17 q17
            replace p17 := eq_true p17
            replace q17 := eq_true q17
            have HP18 := Kd.R_putg HO_7.out (x35_2 : Int) (-1)
            go_wp2_with (first | ((with_reducible refine gate_store (t := 3) (p := 40) rfl ?_); refine store_event (t := 3) (p := 40) (v := ?vo_w19) (w1 := (wr.setCell ⟨go17, (x35_2 : Int).toNat, none⟩ (.int .i64 (-1)))) ?hg ?ho ?hn ?hr ?_; (case ho => rfl); (case hg => rfl); (case hn => rfl); (case hr => first | (go_simp; done) | (go_simp; rfl)); intro w19 hw; have hg : wr.grownBy w19 (some go17) := (by rw [hw]; exact HP18.2); have hp_ : Kd.R (Kd.int .i64) 3 w19 w.heap.size (fun _ => True) (.slice (some ⟨go17, 0, none⟩) x7_2.length co13) y598 := (by rw [hw, Ny598.out]; exact HP18.1); clear HP18; have n0_ := Aside0.mk (hp_); have n1_ := Aside0.mk ((by rw [hw]; exact below_set (HB.out) GB17.out : Below w.heap.size w w19)); clear HO_7; clear HB; have HO_7 := n0_; have HB := n1_; clear n0_ n1_; (try clear hg); (try clear hw); (try clear hp_)))
            (try simp only [← hl7_2])
            go_roundg k2
            case measure => have := HJ4.out; have := HK2.out; omega
            case rel => exact ⟨(y598), (wrap64 (x35_2 + 1)), (by first | rfl | (simp; done) | (simp [*]; done)), H', ⟨by have := HJ4.out; have := HK2.out; omega⟩, ⟨by (try simp only [hl7_2]); (with_reducible repeat (first | apply Kd.R_alloc | apply Kd.R_drewN | apply Kd.R_drew)); exact HO_7.out⟩, ⟨by repeat (first | (with_reducible first | exact HB.out | apply below_alloc | apply pw_below_drewN | apply below_drew1) | exact HB.out)⟩⟩
           ·rw [if_neg c16] at H
            exact absurd H (by simp)
          ·rw [if_neg c15] at H
           exact absurd H (by simp)
         ·rw [if_neg c14] at H
          have c14b0 : decide (x35_2 < (y595.length : Int)) = false := decide_eq_false c14
          (try (have c14b0z := c14b0; simp only [hl7_2] at c14b0z))
          clear c14
          have H' := Aside0.mk H
          clear H
          go_wp2
          go_loopg [44] k2 (fun kq v44 w' => ∃ (x7_3 : List Int) (x44_3 : Int), v44 = .int .i64 x44_3 ∧ Aside0 (mult_Sub.l1 kq l0 l1 x7_3 l1 (l1.length : Int) x44_3 = some (r1, r2)) ∧ Aside0 (kq ≤ k2) ∧ Aside0 (Kd.R (Kd.int .i64) 3 w' w.heap.size (fun _ => True) (.slice Ao13 x7_2.length co13) x7_3) ∧ Aside0 (Below w.heap.size w w'))
          case atStart => exact ⟨(x7_2), (0), (by first | rfl | (simp; done) | (simp [*]; done)), H', ⟨Nat.le_refl _⟩, ⟨by (try simp only [hl7_2]); (with_reducible repeat (first | apply Kd.R_alloc | apply Kd.R_drewN | apply Kd.R_drew)); exact HO_7.out⟩, ⟨by repeat (first | (with_reducible first | exact HB.out | apply below_alloc | apply pw_below_drewN | apply below_drew1) | exact HB.out)⟩⟩
          case round =>
           clear H'
           try clear c1
           try clear p1
           try clear q1
           try clear hx1
           try clear p2
           try clear c4
           try clear c4b0
           try clear c4b1
           try clear c5
           try clear c6
           try clear c6b0
           try clear c6b1
           try clear c6b2
           try clear p6
           try clear c8
           try clear c9
           try clear c9b0
           try clear c9b1
           try clear c10
           try clear c10b0
           try clear c10b1
           try clear c14
           try clear c14b0
           try clear c15
           try clear c15b0
           try clear c16
           try clear c16b0
           try clear p17
           try clear q17
           try clear hx17
           try clear hf17
           try clear c19
           try clear hx17_0
           try clear p17
           try clear p2
           try clear q17
           obtain ⟨x7_3, x44_3, rfl, HA, HK3, HO_7, HB⟩ := hrel
           have hl7_3 := (Kd.R_reads' HO_7.out).1
           rw [hl7_3] at HO_7
           (try simp only [hl7_3])
           cases gk with
           | zero => exact absurd HA.out (by simp [mult_Sub.l1])
           | succ k3 =>
            have H := HA.out
            clear HA
            simp only [mult_Sub.l1] at H
            by_cases c20 : x44_3 < (l1.length : Int)
            ·rw [if_pos c20] at H
             have c20b0 : decide (x44_3 < (l1.length : Int)) = true := decide_eq_true c20
             (try (have c20b0z := c20b0; simp only [hl7_2, hl7_3] at c20b0z))
             clear c20
             by_cases c21 : 0 ≤ x44_3
             ·rw [if_pos c21] at H
              have c21b0 : decide (0 ≤ x44_3) = true := decide_eq_true c21
              clear c21
              by_cases c22 : x44_3 < (l1.length : Int)
              ·rw [if_pos c22] at H
               have c22b0 : decide (x44_3 < (l1.length : Int)) = true := decide_eq_true c22
               (try (have c22b0z := c22b0; simp only [hl7_2, hl7_3] at c22b0z))
               clear c22
               by_cases c23 : x44_3 > 0
               ·rw [if_pos c23] at H
                have c23b0 : decide (0 < x44_3) = true := decide_eq_true c23
                clear c23
                obtain ⟨ji24, hji24⟩ : ∃ j_ : Int, (wrap64 (x44_3 - 1)) = j_ := ⟨_, rfl⟩
                replace H : (if 0 ≤ (ji24) then (if (ji24) < (l1.length : Int) then (if (rd l1 (ji24)) ≥ (rd l1 x44_3) then (some (([] : List (List Int)), 1)) else (if 0 ≤ (rd l1 x44_3) then (if (rd l1 x44_3) < (x7_3.length : Int) then (mult_Sub.l1 k3 l0 l1 (x7_3.set ((rd l1 x44_3) : Int).toNat x44_3) l1 (l1.length : Int) (wrap64 (x44_3 + 1))) else (none)) else (none))) else (none)) else (none)) = some (r1, r2) := by first | (rw [hji24] at H; exact H) | (simp only [hji24] at H ⊢; exact H)
                have hji24w : (IntKind.i64.wrap (x44_3 - 1)) = ji24 := (i64_w _).trans hji24
                by_cases c25 : 0 ≤ (ji24)
                ·rw [if_pos c25] at H
                 have c25b0 : decide (0 ≤ (ji24)) = true := decide_eq_true c25
                 clear c25
                 by_cases c26 : (ji24) < (l1.length : Int)
                 ·rw [if_pos c26] at H
                  have c26b0 : decide ((ji24) < (l1.length : Int)) = true := decide_eq_true c26
                  (try (have c26b0z := c26b0; simp only [hl7_2, hl7_3] at c26b0z))
                  clear c26
                  by_cases c27 : (rd l1 (ji24)) ≥ (rd l1 x44_3)
                  ·rw [if_pos c27] at H
                   have c27b0 : decide ((rd l1 x44_3) ≤ (rd l1 (ji24))) = true := decide_eq_true c27
                   clear c27
                   simp only [Option.some.injEq, Prod.mk.injEq] at H
                   obtain ⟨rfl, rfl⟩ := H
                   have p599 : 0 ≤ (x44_3 : Int) := of_decide_eq_true (by first | (with_reducible assumption) | assumption)
                   have q599 : x44_3 < (l1.length : Int) := of_decide_eq_true (by first | (with_reducible assumption) | assumption)
                   obtain ⟨ad599, e599, hx599_0⟩ := Kd.at_int HR1.out x44_3 p599 q599
                   cases e599
                   replace hx599_0 := (HB.out.cell (World.block_lt_of_cell? w _ hx599_0)).trans hx599_0
                   replace p599 := eq_true p599
                   replace q599 := eq_true q599
                   have p600 : 0 ≤ ((ji24) : Int) := of_decide_eq_true (by first | (with_reducible assumption) | assumption)
                   have q600 : (ji24) < (l1.length : Int) := of_decide_eq_true (by first | (with_reducible assumption) | assumption)
                   obtain ⟨ad600, e600, hx600_0⟩ := Kd.at_int HR1.out (ji24) p600 q600
                   obtain rfl : ad599 = ad600 := (by injection e600)
                   replace hx600_0 := (HB.out.cell (World.block_lt_of_cell? w _ hx600_0)).trans hx600_0
                   replace p600 := eq_true p600
                   replace q600 := eq_true q600
                   go_wp2
                   go_ret2
                   exact ⟨_, by first | rfl | (simp [errW_none, errW_some] <;> rfl) | (simp only [← hji24]; first | rfl | (simp [errW_none, errW_some] <;> rfl)) | (simp [*, errW_none, errW_some] <;> rfl), by first | exact Kd.S_nil _ _ _ _ _ | exact Kd.N_nil _ _ _ _ _ | exact Kd.V_nil _ _ _ _ _ | exact Kd.Q_nil _ _ _ _ _ | exact Kd.R_nil _ _ _ _ _, by repeat (first | (with_reducible first | exact HB.out | apply below_alloc | apply pw_below_drewN | apply below_drew1) | exact HB.out)⟩
                  ·rw [if_neg c27] at H
                   have c27b0 : decide ((rd l1 x44_3) ≤ (rd l1 (ji24))) = false := decide_eq_false c27
                   clear c27
                   by_cases c28 : 0 ≤ (rd l1 x44_3)
                   ·rw [if_pos c28] at H
                    have c28b0 : decide (0 ≤ (rd l1 x44_3)) = true := decide_eq_true c28
                    clear c28
                    by_cases c29 : (rd l1 x44_3) < (x7_3.length : Int)
                    ·rw [if_pos c29] at H
                     have c29b0 : decide ((rd l1 x44_3) < (x7_3.length : Int)) = true := decide_eq_true c29
                     (try (have c29b0z := c29b0; simp only [hl7_2, hl7_3] at c29b0z))
                     clear c29
                     obtain ⟨y601, hy601⟩ : ∃ y_ : List Int, y_ = (x7_3.set ((rd l1 x44_3) : Int).toNat x44_3) := ⟨_, rfl⟩
                     replace H : (mult_Sub.l1 k3 l0 l1 y601 l1 (l1.length : Int) (wrap64 (x44_3 + 1))) = some (r1, r2) := by first | (rw [hy601]; with_reducible exact H) | (have H2_ := (Option.bind_some _ _).symm.trans H; rw [hy601]; with_reducible exact H2_) | (have H2_ := (Option.bind_some _ _).symm.trans H; with_reducible exact H2_) | with_reducible exact H | (rw [hy601]; exact H) | exact H
                     have Ny601 := Aside0.mk hy601
                     clear hy601
                     have H' := Aside0.mk H
                     clear H
                     have p599 : 0 ≤ (x44_3 : Int) := of_decide_eq_true (by first | (with_reducible assumption) | assumption)
                     have q599 : x44_3 < (l1.length : Int) := of_decide_eq_true (by first | (with_reducible assumption) | assumption)
                     obtain ⟨ad599, e599, hx599_0⟩ := Kd.at_int HR1.out x44_3 p599 q599
                     cases e599
                     replace hx599_0 := (HB.out.cell (World.block_lt_of_cell? w _ hx599_0)).trans hx599_0
                     replace p599 := eq_true p599
                     replace q599 := eq_true q599
                     have p600 : 0 ≤ ((ji24) : Int) := of_decide_eq_true (by first | (with_reducible assumption) | assumption)
                     have q600 : (ji24) < (l1.length : Int) := of_decide_eq_true (by first | (with_reducible assumption) | assumption)
                     obtain ⟨ad600, e600, hx600_0⟩ := Kd.at_int HR1.out (ji24) p600 q600
                     obtain rfl : ad599 = ad600 := (by injection e600)
                     replace hx600_0 := (HB.out.cell (World.block_lt_of_cell? w _ hx600_0)).trans hx600_0
                     replace p600 := eq_true p600
                     replace q600 := eq_true q600
                     have p30 : 0 ≤ ((rd l1 x44_3) : Int) := of_decide_eq_true (by first | (with_reducible assumption) | assumption)
                     have q30 : ((rd l1 x44_3) : Int) < ((x7_3.length : Int) : Int) := of_decide_eq_true (by first | (with_reducible assumption) | assumption)
                     obtain ⟨go30, co30, eo30, gb30, gl30, cl30, HG30⟩ := Kd.R_form HO_7.out (by omega)
                     (first | cases eo30 | (injection eo30 with ea_ en_ ec_; (first | subst ea_ | (injection ea_ with ea_; subst ea_)); subst ec_; clear en_))
                     have GB30 := Aside0.mk gb30
                     have GG30 := Aside0.mk HG30
                     (try clear gb30); (try clear gl30); (try clear HG30)
                     obtain ⟨hx30_0, hf30_0⟩ := Kd.R_celln 0 HO_7.out ((rd l1 x44_3) : Int) p30 q30
                     replace p30 := eq_true p30
                     replace q30 := eq_true q30
                     have HP31 := Kd.R_putg HO_7.out ((rd l1 x44_3) : Int) x44_3
                     go_wp2_with (first | ((with_reducible refine gate_store (t := 3) (p := 63) rfl ?_); refine store_event (t := 3) (p := 63) (v := ?vo_w32) (w1 := (wr.setCell ⟨go30, ((rd l1 x44_3) : Int).toNat, none⟩ (.int .i64 x44_3))) ?hg ?ho ?hn ?hr ?_; (case ho => rfl); (case hg => rfl); (case hn => rfl); (case hr => first | (go_simp; done) | (go_simp; rfl)); intro w32 hw; have hg : wr.grownBy w32 (some go30) := (by rw [hw]; exact HP31.2); have hp_ : Kd.R (Kd.int .i64) 3 w32 w.heap.size (fun _ => True) (.slice (some ⟨go30, 0, none⟩) x7_3.length co13) y601 := (by rw [hw, Ny601.out]; exact HP31.1); clear HP31; have n0_ := Aside0.mk (hp_); have n1_ := Aside0.mk ((by rw [hw]; exact below_set (HB.out) GB30.out : Below w.heap.size w w32)); clear HO_7; clear HB; have HO_7 := n0_; have HB := n1_; clear n0_ n1_; (try clear hg); (try clear hw); (try clear hp_)))
                     (try simp only [← hl7_3])
                     go_roundg k3
                     case measure => have := HJ4.out; have := HK2.out; have := HK3.out; omega
                     case rel => exact ⟨(y601), (wrap64 (x44_3 + 1)), (by first | rfl | (simp; done) | (simp [*]; done)), H', ⟨by have := HJ4.out; have := HK2.out; have := HK3.out; omega⟩, ⟨by (try simp only [hl7_2]); (try simp only [hl7_3]); (with_reducible repeat (first | apply Kd.R_alloc | apply Kd.R_drewN | apply Kd.R_drew)); exact HO_7.out⟩, ⟨by repeat (first | (with_reducible first | exact HB.out | apply below_alloc | apply pw_below_drewN | apply below_drew1) | exact HB.out)⟩⟩
                    ·rw [if_neg c29] at H
                     exact absurd H (by simp)
                   ·rw [if_neg c28] at H
                    exact absurd H (by simp)
                 ·rw [if_neg c26] at H
                  exact absurd H (by simp)
                ·rw [if_neg c25] at H
                 exact absurd H (by simp)
               ·rw [if_neg c23] at H
                have c23b0 : decide (0 < x44_3) = false := decide_eq_false c23
                clear c23
                by_cases c33 : 0 ≤ (rd l1 x44_3)
                ·rw [if_pos c33] at H
                 have c33b0 : decide (0 ≤ (rd l1 x44_3)) = true := decide_eq_true c33
                 clear c33
                 by_cases c34 : (rd l1 x44_3) < (x7_3.length : Int)
                 ·rw [if_pos c34] at H
                  have c34b0 : decide ((rd l1 x44_3) < (x7_3.length : Int)) = true := decide_eq_true c34
                  (try (have c34b0z := c34b0; simp only [hl7_2, hl7_3] at c34b0z))
                  clear c34
                  obtain ⟨y602, hy602⟩ : ∃ y_ : List Int, y_ = (x7_3.set ((rd l1 x44_3) : Int).toNat x44_3) := ⟨_, rfl⟩
                  replace H : (mult_Sub.l1 k3 l0 l1 y602 l1 (l1.length : Int) (wrap64 (x44_3 + 1))) = some (r1, r2) := by first | (rw [hy602]; with_reducible exact H) | (have H2_ := (Option.bind_some _ _).symm.trans H; rw [hy602]; with_reducible exact H2_) | (have H2_ := (Option.bind_some _ _).symm.trans H; with_reducible exact H2_) | with_reducible exact H | (rw [hy602]; exact H) | exact H
                  have Ny602 := Aside0.mk hy602
                  clear hy602
                  have H' := Aside0.mk H
                  clear H
                  have p599 : 0 ≤ (x44_3 : Int) := of_decide_eq_true (by first | (with_reducible assumption) | assumption)
                  have q599 : x44_3 < (l1.length : Int) := of_decide_eq_true (by first | (with_reducible assumption) | assumption)
                  obtain ⟨ad599, e599, hx599_0⟩ := Kd.at_int HR1.out x44_3 p599 q599
                  cases e599
                  replace hx599_0 := (HB.out.cell (World.block_lt_of_cell? w _ hx599_0)).trans hx599_0
                  replace p599 := eq_true p599
                  replace q599 := eq_true q599
                  have p35 : 0 ≤ ((rd l1 x44_3) : Int) := of_decide_eq_true (by first | (with_reducible assumption) | assumption)
                  have q35 : ((rd l1 x44_3) : Int) < ((x7_3.length : Int) : Int) := of_decide_eq_true (by first | (with_reducible assumption) | assumption)
                  obtain ⟨go35, co35, eo35, gb35, gl35, cl35, HG35⟩ := Kd.R_form HO_7.out (by omega)
                  (first | cases eo35 | (injection eo35 with ea_ en_ ec_; (first | subst ea_ | (injection ea_ with ea_; subst ea_)); subst ec_; clear en_))
                  have GB35 := Aside0.mk gb35
                  have GG35 := Aside0.mk HG35
                  (try clear gb35); (try clear gl35); (try clear HG35)
                  obtain ⟨hx35_0, hf35_0⟩ := Kd.R_celln 0 HO_7.out ((rd l1 x44_3) : Int) p35 q35
                  replace p35 := eq_true p35
                  replace q35 := eq_true q35
                  have HP36 := Kd.R_putg HO_7.out ((rd l1 x44_3) : Int) x44_3
                  go_wp2_with (first | ((with_reducible refine gate_store (t := 3) (p := 63) rfl ?_); refine store_event (t := 3) (p := 63) (v := ?vo_w37) (w1 := (wr.setCell ⟨go35, ((rd l1 x44_3) : Int).toNat, none⟩ (.int .i64 x44_3))) ?hg ?ho ?hn ?hr ?_; (case ho => rfl); (case hg => rfl); (case hn => rfl); (case hr => first | (go_simp; done) | (go_simp; rfl)); intro w37 hw; have hg : wr.grownBy w37 (some go35) := (by rw [hw]; exact HP36.2); have hp_ : Kd.R (Kd.int .i64) 3 w37 w.heap.size (fun _ => True) (.slice (some ⟨go35, 0, none⟩) x7_3.length co13) y602 := (by rw [hw, Ny602.out]; exact HP36.1); clear HP36; have n0_ := Aside0.mk (hp_); have n1_ := Aside0.mk ((by rw [hw]; exact below_set (HB.out) GB35.out : Below w.heap.size w w37)); clear HO_7; clear HB; have HO_7 := n0_; have HB := n1_; clear n0_ n1_; (try clear hg); (try clear hw); (try clear hp_)))
                  (try simp only [← hl7_3])
                  go_roundg k3
                  case measure => have := HJ4.out; have := HK2.out; have := HK3.out; omega
                  case rel => exact ⟨(y602), (wrap64 (x44_3 + 1)), (by first | rfl | (simp; done) | (simp [*]; done)), H', ⟨by have := HJ4.out; have := HK2.out; have := HK3.out; omega⟩, ⟨by (try simp only [hl7_2]); (try simp only [hl7_3]); (with_reducible repeat (first | apply Kd.R_alloc | apply Kd.R_drewN | apply Kd.R_drew)); exact HO_7.out⟩, ⟨by repeat (first | (with_reducible first | exact HB.out | apply below_alloc | apply pw_below_drewN | apply below_drew1) | exact HB.out)⟩⟩
                 ·rw [if_neg c34] at H
                  exact absurd H (by simp)
                ·rw [if_neg c33] at H
                 exact absurd H (by simp)
              ·rw [if_neg c22] at H
               exact absurd H (by simp)
             ·rw [if_neg c21] at H
              exact absurd H (by simp)
            ·rw [if_neg c20] at H
             have c20b0 : decide (x44_3 < (l1.length : Int)) = false := decide_eq_false c20
             (try (have c20b0z := c20b0; simp only [hl7_2, hl7_3] at c20b0z))
             clear c20
             by_cases c38 : 0 ≤ (l1.length : Int)
             ·rw [if_pos c38] at H
              have c38b0 := eq_true c38
              have c38b1 : decide (0 ≤ (l1.length : Int)) = true := decide_eq_true c38
              (try (have c38b1z := c38b1; simp only [hl7_2, hl7_3] at c38b1z))
              clear c38
              by_cases c39 : ((l1.length : Int) : Int).toNat ≤ 11728124029610
              ·rw [if_pos c39] at H
               have c39b0 := eq_true c39
               have c39b1 : decide (((l1.length : Int) : Int).toNat ≤ 11728124029610) = true := decide_eq_true c39
               (try (have c39b1z := c39b1; simp only [hl7_2, hl7_3] at c39b1z))
               clear c39
               obtain ⟨y603, hy603⟩ : ∃ y_ : List (List Int), y_ = (List.replicate ((l1.length : Int) : Int).toNat []) := ⟨_, rfl⟩
               replace H : (mult_Sub.l2 k3 l0 l1 x7_3 y603 l1 (l1.length : Int) 0) = some (r1, r2) := by first | (rw [hy603]; with_reducible exact H) | (have H2_ := (Option.bind_some _ _).symm.trans H; rw [hy603]; with_reducible exact H2_) | (have H2_ := (Option.bind_some _ _).symm.trans H; with_reducible exact H2_) | with_reducible exact H | (rw [hy603]; exact H) | exact H
               have Ny603 := Aside0.mk hy603
               clear hy603
               have H' := Aside0.mk H
               clear H
               go_wp2_with (first | ((with_reducible refine gate_dst (N := 67) rfl ?_); refine Kd.S_make (Kd.slice 3 (Kd.int .i64)) _ 30 rfl (N := 67) rfl 22 _ _ rfl (l1.length : Int) rfl rfl Try.underlying22 (.slice none 0 0) 24 info30 rfl (by decide) (by omega) [] (ok := fun _ => True) (okp := fun _ => True) ⟨_, rfl, Kd.R_nil _ _ _ _ _⟩ (fun _ hk => hk) trivial (of_decide_eq_true (by first | (with_reducible assumption) | assumption)) (Nat.le_trans (Nat.mul_le_mul_right _ (of_decide_eq_true (by first | (with_reducible assumption) | assumption) : (l1.length : Int).toNat ≤ 11728124029610)) (by omega)) (Below.refl _ _) (Nat.le_refl _) ?_; intro v604 w40 ho41 hb hg_ hnew_; (try clear hg_); (try clear hnew_); (first | rw [← Ny603.out] at ho41 | (simp only [Int.reduceToNat] at ho41; rw [← Ny603.out] at ho41)); have n0_ := Aside0.mk (Kd.R_below (by (with_reducible repeat (first | apply Kd.R_alloc | apply Kd.R_drewN | apply Kd.R_drew)); exact HO_7.out) hb); have n1_ := Aside0.mk (Kd.S_lower (Kd.S_new' ho41 (Kd.R_lt (by (with_reducible repeat (first | apply Kd.R_alloc | apply Kd.R_drewN | apply Kd.R_drew)); exact HO_7.out))) (below_size (by repeat (first | (with_reducible first | exact HB.out | apply below_alloc | apply pw_below_drewN | apply below_drew1) | exact HB.out)))); have n2_ := Aside0.mk (below_step (by repeat (first | (with_reducible first | exact HB.out | apply below_alloc | apply pw_below_drewN | apply below_drew1) | exact HB.out)) hb); clear HO_7; clear HB; have HO_7 := n0_; have HO605 := n1_; have HB := n2_; clear n0_ n1_ n2_; (try clear hb); (try clear ho41)))
               go_loopg [70] k3 (fun kq v70 w' => ∃ (x7_4 : List Int) (x11_4 : List (List Int)) (x70_4 : Int), v70 = .int .i64 x70_4 ∧ Aside0 (mult_Sub.l2 kq l0 l1 x7_4 x11_4 l1 (l1.length : Int) x70_4 = some (r1, r2)) ∧ Aside0 (kq ≤ k3) ∧ Aside0 (Kd.R (Kd.int .i64) 3 w' w.heap.size (fun _ => True) (.slice Ao13 x7_3.length co13) x7_4) ∧ Aside0 (Kd.S (Kd.slice 3 (Kd.int .i64)) 30 w' w.heap.size (fun k_ => some k_ ≠ ((.slice Ao13 x7_3.length co13) : Value).ownBlock) v604 x11_4) ∧ Aside0 (Below w.heap.size w w'))
               case atStart => exact ⟨(x7_3), (y603), (0), (by first | rfl | (simp; done) | (simp [*]; done)), H', ⟨Nat.le_refl _⟩, ⟨by (try simp only [hl7_2]); (try simp only [hl7_3]); (with_reducible repeat (first | apply Kd.R_alloc | apply Kd.R_drewN | apply Kd.R_drew)); exact HO_7.out⟩, ⟨by (try simp only [hl7_2]); (try simp only [hl7_3]); (with_reducible repeat (first | apply Kd.S_alloc | apply Kd.S_drewN | apply Kd.S_drew)); exact Kd.S_mono HO605.out (fun _ hk => hk.2)⟩, ⟨by repeat (first | (with_reducible first | exact HB.out | apply below_alloc | apply pw_below_drewN | apply below_drew1) | exact HB.out)⟩⟩
               case round =>
                clear H'
                try clear c1
                try clear p1
                try clear q1
                try clear hx1
                try clear c2
                try clear p2
                try clear c3
                try clear p3
                try clear q3
                try clear hx3
                try clear hf3
                try clear c4
                try clear c4b0
                try clear c4b1
                try clear c5
                try clear p5
                try clear q5
                try clear hx5
                try clear c6
                try clear c6b0
                try clear c6b1
                try clear c6b2
                try clear p6
                try clear q6
                try clear hx6
                try clear c8
                try clear c9
                try clear c9b0
                try clear c9b1
                try clear c10
                try clear c10b0
                try clear c10b1
                try clear c14
                try clear c14b0
                try clear c15
                try clear c15b0
                try clear c16
                try clear c16b0
                try clear p17
                try clear q17
                try clear hx17
                try clear hf17
                try clear c19
                try clear c20
                try clear c20b0
                try clear c21
                try clear c21b0
                try clear c22
                try clear c22b0
                try clear c23
                try clear c23b0
                try clear c25
                try clear c25b0
                try clear c26
                try clear c26b0
                try clear c27
                try clear c27b0
                try clear c28
                try clear c28b0
                try clear c29
                try clear c29b0
                try clear p30
                try clear q30
                try clear hx30
                try clear hf30
                try clear c33
                try clear c33b0
                try clear c34
                try clear c34b0
                try clear p35
                try clear q35
                try clear hx35
                try clear hf35
                try clear c38
                try clear c38b0
                try clear c38b1
                try clear c39
                try clear c39b0
                try clear c39b1
                try clear hx17_0
                try clear hx30_0
                try clear hx35_0
                try clear hx599_0
                try clear hx600_0
                try clear p1
                try clear p17
                try clear p2
                try clear p30
                try clear p35
                try clear p599
                try clear p6
                try clear p600
                try clear q1
                try clear q17
                try clear q30
                try clear q35
                try clear q599
                try clear q600
                obtain ⟨x7_4, x11_4, x70_4, rfl, HA, HK4, HO_7, HO_11, HB⟩ := hrel
                have hl7_4 := (Kd.R_reads' HO_7.out).1
                rw [hl7_4] at HO_7
                (try simp only [hl7_4])
                (try simp only [hl7_4] at HO_11)
                cases gk with
                | zero => exact absurd HA.out (by simp [mult_Sub.l2])
                | succ k4 =>
                 have H := HA.out
                 clear HA
                 simp only [mult_Sub.l2] at H
                 by_cases c42 : x70_4 < (l1.length : Int)
                 ·rw [if_pos c42] at H
                  have c42b0 : decide (x70_4 < (l1.length : Int)) = true := decide_eq_true c42
                  (try (have c42b0z := c42b0; simp only [hl7_2, hl7_3, hl7_4] at c42b0z))
                  clear c42
                  by_cases c43 : 0 ≤ x70_4
                  ·rw [if_pos c43] at H
                   have c43b0 : decide (0 ≤ x70_4) = true := decide_eq_true c43
                   clear c43
                   by_cases c44 : x70_4 < (l1.length : Int)
                   ·rw [if_pos c44] at H
                    have c44b0 : decide (x70_4 < (l1.length : Int)) = true := decide_eq_true c44
                    (try (have c44b0z := c44b0; simp only [hl7_2, hl7_3, hl7_4] at c44b0z))
                    clear c44
                    by_cases c45 : 0 ≤ (l1.length : Int)
                    ·rw [if_pos c45] at H
                     have c45b0 := eq_true c45
                     have c45b1 : decide (0 ≤ (l1.length : Int)) = true := decide_eq_true c45
                     (try (have c45b1z := c45b1; simp only [hl7_2, hl7_3, hl7_4] at c45b1z))
                     clear c45
                     by_cases c46 : ((l1.length : Int) : Int).toNat ≤ 35184372088832
                     ·rw [if_pos c46] at H
                      have c46b0 := eq_true c46
                      have c46b1 : decide (((l1.length : Int) : Int).toNat ≤ 35184372088832) = true := decide_eq_true c46
                      (try (have c46b1z := c46b1; simp only [hl7_2, hl7_3, hl7_4] at c46b1z))
                      clear c46
                      obtain ⟨y607, hy607⟩ : ∃ y_ : List Int, y_ = (List.replicate ((l1.length : Int) : Int).toNat 0) := ⟨_, rfl⟩
                      replace H : (if x70_4 < (x11_4.length : Int) then (mult_Sub.l3 k4 l0 l1 x7_4 (x11_4.set (x70_4 : Int).toNat y607) x70_4 (rd l1 x70_4) l1 (l1.length : Int) x70_4 l1 (l1.length : Int) 0) else (none)) = some (r1, r2) := by first | (rw [hy607]; with_reducible exact H) | (have H2_ := (Option.bind_some _ _).symm.trans H; rw [hy607]; with_reducible exact H2_) | (have H2_ := (Option.bind_some _ _).symm.trans H; with_reducible exact H2_) | with_reducible exact H | (rw [hy607]; exact H) | exact H
                      have Ny607 := Aside0.mk hy607
                      clear hy607
                      by_cases c47 : x70_4 < (x11_4.length : Int)
                      ·rw [if_pos c47] at H
                       have c47b0 : decide (x70_4 < (x11_4.length : Int)) = true := decide_eq_true c47
                       (try (have c47b0z := c47b0; simp only [hl7_2, hl7_3, hl7_4] at c47b0z))
                       clear c47
                       obtain ⟨y610, hy610⟩ : ∃ y_ : List (List Int), y_ = (x11_4.set (x70_4 : Int).toNat y607) := ⟨_, rfl⟩
                       replace H : (mult_Sub.l3 k4 l0 l1 x7_4 y610 x70_4 (rd l1 x70_4) l1 (l1.length : Int) x70_4 l1 (l1.length : Int) 0) = some (r1, r2) := by first | (rw [hy610]; with_reducible exact H) | (have H2_ := (Option.bind_some _ _).symm.trans H; rw [hy610]; with_reducible exact H2_) | (have H2_ := (Option.bind_some _ _).symm.trans H; with_reducible exact H2_) | with_reducible exact H | (rw [hy610]; exact H) | exact H
                       have Ny610 := Aside0.mk hy610
                       clear hy610
                       have H' := Aside0.mk H
                       clear H
                       have p606 : 0 ≤ (x70_4 : Int) := of_decide_eq_true (by first | (with_reducible assumption) | assumption)
                       have q606 : x70_4 < (l1.length : Int) := of_decide_eq_true (by first | (with_reducible assumption) | assumption)
                       obtain ⟨ad606, e606, hx606_0⟩ := Kd.at_int HR1.out x70_4 p606 q606
                       cases e606
                       replace hx606_0 := (HB.out.cell (World.block_lt_of_cell? w _ hx606_0)).trans hx606_0
                       replace p606 := eq_true p606
                       replace q606 := eq_true q606
                       go_wp2_with (first | ((with_reducible refine gate_dst (N := 79) rfl ?_); refine Kd.R_make (Kd.int .i64) _ 3 rfl (N := 79) rfl 30 _ _ rfl (l1.length : Int) rfl rfl Try.underlying30 (.int .i64 0) 8 info3 rfl (by decide) (by omega) 0 (ok := fun _ => True) (okp := fun _ => True) rfl (fun _ hk => hk) trivial (of_decide_eq_true (by first | (with_reducible assumption) | assumption)) (Nat.le_trans (Nat.mul_le_mul_right _ (of_decide_eq_true (by first | (with_reducible assumption) | assumption) : (l1.length : Int).toNat ≤ 35184372088832)) (by omega)) (Below.refl _ _) (Nat.le_refl _) ?_; intro v608 w49 ho50 hb hg_ hnew_; (try clear hg_); (try clear hnew_); (first | rw [← Ny607.out] at ho50 | (simp only [Int.reduceToNat] at ho50; rw [← Ny607.out] at ho50)); have n0_ := Aside0.mk (Kd.R_elder' (by (with_reducible repeat (first | apply Kd.R_alloc | apply Kd.R_drewN | apply Kd.R_drew)); exact HO_7.out) (by first | exact Kd.N_base ho50 | exact Kd.S_base ho50 | exact Kd.R_base ho50) hb); have n1_ := Aside0.mk (Kd.S_elder' (by (with_reducible repeat (first | apply Kd.S_alloc | apply Kd.S_drewN | apply Kd.S_drew)); exact HO_11.out) (by first | exact Kd.N_base ho50 | exact Kd.S_base ho50 | exact Kd.R_base ho50) hb); have n2_ := Aside0.mk (Kd.R_lower (Kd.R_new' ho50 (Kd.R_lt (by (with_reducible repeat (first | apply Kd.R_alloc | apply Kd.R_drewN | apply Kd.R_drew)); exact HO_7.out))) (below_size (by repeat (first | (with_reducible first | exact HB.out | apply below_alloc | apply pw_below_drewN | apply below_drew1) | exact HB.out)))); have n3_ := Aside0.mk (below_step (by repeat (first | (with_reducible first | exact HB.out | apply below_alloc | apply pw_below_drewN | apply below_drew1) | exact HB.out)) hb); clear HO_7; clear HO_11; clear HB; have HO_7 := n0_; have HO_11 := n1_; have HO609 := n2_; have HB := n3_; clear n0_ n1_ n2_ n3_; (try clear hb); (try clear ho50); have p48 : 0 ≤ (x70_4 : Int) := of_decide_eq_true (by first | (with_reducible assumption) | assumption); have q48 : (x70_4 : Int) < ((x11_4.length : Int) : Int) := of_decide_eq_true (by first | (with_reducible assumption) | assumption); obtain ⟨go48, co48, eo48, gb48, gl48, cl48, HG48⟩ := Kd.S_form HO_11.out (by omega); (first | cases eo48 | (injection eo48 with ea_ en_ ec_; (first | subst ea_ | (injection ea_ with ea_; subst ea_)); subst ec_; clear en_)); have GB48 := Aside0.mk gb48; have GG48 := Aside0.mk HG48; (try clear gb48); (try clear gl48); (try clear HG48); obtain ⟨_, ce48, hcl48, hM48, hcc48, hfr48, _, _⟩ := Kd.S_elem HO_11.out [] (x70_4 : Int) p48 q48; obtain ⟨ve48_0, rfl, ge48_0⟩ := hM48; have hx48_0 := hcc48 0 _ rfl; have hf48_0 := hfr48 0; (try simp only [show ((Kd.slice 3 (Kd.int .i64))).sz = 1 from rfl, Nat.mul_one, Nat.add_zero] at hx48_0); (try simp only [show ((Kd.slice 3 (Kd.int .i64))).sz = 1 from rfl, Nat.mul_one, Nat.add_zero] at hf48_0); (try clear hcl48); (try clear hcc48); (try clear hfr48); (try clear hM48); replace p48 := eq_true p48; replace q48 := eq_true q48; have HX51 := Aside0.mk (show Kd.S (Kd.slice 3 (Kd.int .i64)) 30 w49 w.heap.size (fun k_ => ((fun k_ => some k_ ≠ (.slice Ao13 x7_4.length co13 : Value).ownBlock)) k_ ∧ ¬ ((fun k_ => some k_ = (v608 : Value).ownBlock)) k_) (.slice (some ⟨go48, 0, none⟩) x11_4.length co48) x11_4 from (by (with_reducible repeat (first | apply Kd.S_alloc | apply Kd.S_drewN | apply Kd.S_drew)); exact Kd.S_mono HO_11.out (fun k_ hk => ⟨hk.1, fun e_ => hk.2 e_⟩))); obtain ⟨oki51, ce51, hcl51, hM51, hcc51, hfr51, hoki51, hH51⟩ := Kd.S_elem HX51.out [] (x70_4 : Int) (of_decide_eq_true (by first | (with_reducible assumption) | assumption)) (by have h_ : (x70_4 : Int) < ((x11_4.length : Int) : Int) := of_decide_eq_true (by first | (with_reducible assumption) | assumption); first | exact h_ | (have e_ := (Kd.S_reads' HO_11.out).1; omega) | simpa using h_); obtain ⟨ve51_0, rfl, ge51_0⟩ := hM51; have HP51 := Kd.S_seg hH51 (of_decide_eq_true (by first | (with_reducible assumption) | assumption)) (by have h_ : (x70_4 : Int) < ((x11_4.length : Int) : Int) := of_decide_eq_true (by first | (with_reducible assumption) | assumption); first | exact h_ | (have e_ := (Kd.S_reads' HO_11.out).1; omega) | simpa using h_) (seg := [v608]) (j := 0) (show 1 ≤ 1 from by decide) (x' := y607) (Kd.M_row (Kd.R_mono (Kd.R_tight rfl (Kd.R_mono (ok' := fun k_ => ((fun k_ => some k_ ≠ (.slice Ao13 x7_4.length co13 : Value).ownBlock)) k_ ∧ k_ ≠ go48) (Kd.R_apart' (HO609.out) (Kd.S_typed HO_11.out) (by decide)) (fun k_ hk => ⟨hk.1.2, fun e_ => (hk.2) (by rw [e_]; rfl)⟩))) (fun _ h_ => Or.inr (h_)))) (fun _ hk => hk) (fun k_ hk_ => ((Kd.R_mono (ok' := fun k_ => ((fun k_ => some k_ ≠ (.slice Ao13 x7_4.length co13 : Value).ownBlock)) k_ ∧ k_ ≠ go48) (Kd.R_apart' (HO609.out) (Kd.S_typed HO_11.out) (by decide)) (fun k_ hk => ⟨hk.1.2, fun e_ => (hk.2) (by rw [e_]; rfl)⟩))).1 k_ hk_.symm); have hx51_0 := hcc51 0 _ rfl; (try simp only [show ((Kd.slice 3 (Kd.int .i64))).sz = 1 from rfl, Nat.mul_one, Nat.add_zero] at hx51_0); have hf51_0 := hfr51 0; (try simp only [show ((Kd.slice 3 (Kd.int .i64))).sz = 1 from rfl, Nat.mul_one, Nat.add_zero] at hf51_0); (try clear hcl51); (try clear hcc51); (try clear hfr51); (try clear hM51); (try clear hoki51); (try clear hH51); (try simp only [show ((Kd.slice 3 (Kd.int .i64))).sz = 1 from rfl, Nat.mul_one, Nat.add_zero] at HP51)) | ((with_reducible refine gate_store (t := 30) (p := 80) rfl ?_); refine store_event (t := 30) (p := 80) (v := ?vo_w52) (w1 := (w49.setCell ⟨go48, (x70_4 : Int).toNat, none⟩ (v608))) ?hg ?ho ?hn ?hr ?_; (case ho => rfl); (case hg => rfl); (case hn => rfl); (case hr => first | (go_simp; done) | (go_simp; rfl) | (obtain ⟨A_, c_, e_⟩ := Kd.R_slice HO609.out; subst e_; first | (go_simp; done) | (go_simp; rfl)) | (obtain ⟨A_, c_, e_⟩ := Kd.S_slice HO609.out; subst e_; first | (go_simp; done) | (go_simp; rfl)) | (obtain ⟨A_, c_, e_⟩ := Kd.N_slice HO609.out; subst e_; first | (go_simp; done) | (go_simp; rfl))); intro w52 hw; have hg : w49.grownBy w52 (some go48) := (by rw [hw]; exact HP51.2); have hp_ : Kd.S (Kd.slice 3 (Kd.int .i64)) 30 w52 w.heap.size (fun k_ => some k_ ≠ (.slice Ao13 x7_4.length co13 : Value).ownBlock) (.slice (some ⟨go48, 0, none⟩) x11_4.length co48) y610 := (by rw [hw, Ny610.out]; exact HP51.1); clear HP51; have n0_ := Aside0.mk (Kd.R_over' (v := (.slice (some ⟨go48, 0, none⟩) x11_4.length co48)) (by (with_reducible repeat (first | apply Kd.R_alloc | apply Kd.R_drewN | apply Kd.R_drew)); exact HO_7.out) (Kd.S_typed HO_11.out) (by decide) hg); have n1_ := Aside0.mk (hp_); have n2_ := Aside0.mk ((by rw [hw]; exact below_set (HB.out) GB48.out : Below w.heap.size w w52)); clear HO_7; clear HO_11; clear HB; clear HO609; have HO_7 := n0_; have HO_11 := n1_; have HB := n2_; clear n0_ n1_ n2_; (try clear hg); (try clear hw); (try clear hp_)))
                       go_loopg [83] k4 (fun kq v83 w' => ∃ (x7_5 : List Int) (x11_5 : List (List Int)) (x83_5 : Int), v83 = .int .i64 x83_5 ∧ Aside0 (mult_Sub.l3 kq l0 l1 x7_5 x11_5 x70_4 (rd l1 x70_4) l1 (l1.length : Int) x70_4 l1 (l1.length : Int) x83_5 = some (r1, r2)) ∧ Aside0 (kq ≤ k4) ∧ Aside0 (Kd.R (Kd.int .i64) 3 w' w.heap.size (fun _ => True) (.slice Ao13 x7_4.length co13) x7_5) ∧ Aside0 (Kd.S (Kd.slice 3 (Kd.int .i64)) 30 w' w.heap.size (fun k_ => some k_ ≠ ((.slice Ao13 x7_4.length co13) : Value).ownBlock) (.slice (some ⟨go48, 0, none⟩) x11_4.length co48) x11_5) ∧ Aside0 (Below w.heap.size w w'))
                       case atStart => exact ⟨(x7_4), (y610), (0), (by first | rfl | (simp; done) | (simp [*]; done)), H', ⟨Nat.le_refl _⟩, ⟨by (try simp only [hl7_2]); (try simp only [hl7_3]); (try simp only [hl7_4]); (with_reducible repeat (first | apply Kd.R_alloc | apply Kd.R_drewN | apply Kd.R_drew)); exact Kd.R_mono HO_7.out (fun _ hk => trivial)⟩, ⟨by (try simp only [hl7_2]); (try simp only [hl7_3]); (try simp only [hl7_4]); (with_reducible repeat (first | apply Kd.S_alloc | apply Kd.S_drewN | apply Kd.S_drew)); exact HO_11.out⟩, ⟨by repeat (first | (with_reducible first | exact HB.out | apply below_alloc | apply pw_below_drewN | apply below_drew1) | exact HB.out)⟩⟩
                       case round =>
                        clear H'
                        try clear c1
                        try clear p1
                        try clear q1
                        try clear hx1
                        try clear c2
                        try clear p2
                        try clear c3
                        try clear p3
                        try clear q3
                        try clear hx3
                        try clear hf3
                        try clear c4
                        try clear c4b0
                        try clear c4b1
                        try clear p4
                        try clear q4
                        try clear hx4
                        try clear hf4
                        try clear c5
                        try clear p5
                        try clear q5
                        try clear hx5
                        try clear hf5
                        try clear c6
                        try clear c6b0
                        try clear c6b1
                        try clear c6b2
                        try clear p6
                        try clear q6
                        try clear hx6
                        try clear c8
                        try clear c9
                        try clear c9b0
                        try clear c9b1
                        try clear c10
                        try clear c10b0
                        try clear c10b1
                        try clear c14
                        try clear c14b0
                        try clear c15
                        try clear c15b0
                        try clear c16
                        try clear c16b0
                        try clear p17
                        try clear q17
                        try clear hx17
                        try clear hf17
                        try clear c19
                        try clear c20
                        try clear c20b0
                        try clear c21
                        try clear c21b0
                        try clear c22
                        try clear c22b0
                        try clear c23
                        try clear c23b0
                        try clear c25
                        try clear c25b0
                        try clear c26
                        try clear c26b0
                        try clear c27
                        try clear c27b0
                        try clear c28
                        try clear c28b0
                        try clear c29
                        try clear c29b0
                        try clear p30
                        try clear q30
                        try clear hx30
                        try clear hf30
                        try clear c33
                        try clear c33b0
                        try clear c34
                        try clear c34b0
                        try clear p35
                        try clear q35
                        try clear hx35
                        try clear hf35
                        try clear c38
                        try clear c38b0
                        try clear c38b1
                        try clear c39
                        try clear c39b0
                        try clear c39b1
                        try clear c42
                        try clear c42b0
                        try clear c43
                        try clear c43b0
                        try clear c44
                        try clear c44b0
                        try clear c45
                        try clear c45b0
                        try clear c45b1
                        try clear c46
                        try clear c46b0
                        try clear c46b1
                        try clear c47
                        try clear c47b0
                        try clear c48
                        try clear p48
                        try clear q48
                        try clear hx48
                        try clear hf48
                        try clear c51
                        try clear hx51
                        try clear hf51
                        try clear c52
                        try clear hx17_0
                        try clear hx30_0
                        try clear hx35_0
                        try clear hx48_0
                        try clear hx51_0
                        try clear hx599_0
                        try clear hx600_0
                        try clear hx606_0
                        try clear p1
                        try clear p17
                        try clear p2
                        try clear p3
                        try clear p30
                        try clear p35
                        try clear p48
                        try clear p5
                        try clear p599
                        try clear p6
                        try clear p600
                        try clear p606
                        try clear q1
                        try clear q17
                        try clear q3
                        try clear q30
                        try clear q35
                        try clear q48
                        try clear q5
                        try clear q599
                        try clear q6
                        try clear q600
                        try clear q606
                        obtain ⟨x7_5, x11_5, x83_5, rfl, HA, HK5, HO_7, HO_11, HB⟩ := hrel
                        have hl7_5 := (Kd.R_reads' HO_7.out).1
                        rw [hl7_5] at HO_7
                        (try simp only [hl7_5])
                        (try simp only [hl7_5] at HO_11)
                        have hl11_5 := (Kd.S_reads' HO_11.out).1
                        rw [hl11_5] at HO_11
                        (try simp only [hl11_5])
                        (try simp only [hl11_5] at HO_7)
                        cases gk with
                        | zero => exact absurd HA.out (by simp [mult_Sub.l3])
                        | succ k5 =>
                         have H := HA.out
                         clear HA
                         simp only [mult_Sub.l3] at H
                         by_cases c53 : x83_5 < (l1.length : Int)
                         ·rw [if_pos c53] at H
                          have c53b0 : decide (x83_5 < (l1.length : Int)) = true := decide_eq_true c53
                          (try (have c53b0z := c53b0; simp only [hl7_2, hl7_3, hl7_4, hl7_5, hl11_5] at c53b0z))
                          clear c53
                          by_cases c54 : 0 ≤ x83_5
                          ·rw [if_pos c54] at H
                           have c54b0 : decide (0 ≤ x83_5) = true := decide_eq_true c54
                           clear c54
                           by_cases c55 : x83_5 < (l1.length : Int)
                           ·rw [if_pos c55] at H
                            have c55b0 : decide (x83_5 < (l1.length : Int)) = true := decide_eq_true c55
                            (try (have c55b0z := c55b0; simp only [hl7_2, hl7_3, hl7_4, hl7_5, hl11_5] at c55b0z))
                            clear c55
                            by_cases c56 : 0 ≤ (rd l1 x70_4)
                            ·rw [if_pos c56] at H
                             have c56b0 : decide (0 ≤ (rd l1 x70_4)) = true := decide_eq_true c56
                             clear c56
                             by_cases c57 : (rd l1 x70_4) < (l0.length : Int)
                             ·rw [if_pos c57] at H
                              have c57b0 : decide ((rd l1 x70_4) < (l0.length : Int)) = true := decide_eq_true c57
                              (try (have c57b0z := c57b0; simp only [hl7_2, hl7_3, hl7_4, hl7_5, hl11_5] at c57b0z))
                              clear c57
                              by_cases c58 : 0 ≤ (rd l1 x83_5)
                              ·rw [if_pos c58] at H
                               have c58b0 : decide (0 ≤ (rd l1 x83_5)) = true := decide_eq_true c58
                               clear c58
                               by_cases c59 : (rd l1 x83_5) < ((rd_L1 l0 (rd l1 x70_4)).length : Int)
                               ·rw [if_pos c59] at H
                                have c59b0 : decide ((rd l1 x83_5) < ((rd_L1 l0 (rd l1 x70_4)).length : Int)) = true := decide_eq_true c59
                                (try (have c59b0z := c59b0; simp only [hl7_2, hl7_3, hl7_4, hl7_5, hl11_5] at c59b0z))
                                clear c59
                                by_cases c60 : 0 ≤ (rd (rd_L1 l0 (rd l1 x70_4)) (rd l1 x83_5))
                                ·rw [if_pos c60] at H
                                 have c60b0 : decide (0 ≤ (rd (rd_L1 l0 (rd l1 x70_4)) (rd l1 x83_5))) = true := decide_eq_true c60
                                 clear c60
                                 by_cases c61 : (rd (rd_L1 l0 (rd l1 x70_4)) (rd l1 x83_5)) < (x7_5.length : Int)
                                 ·rw [if_pos c61] at H
                                  have c61b0 : decide ((rd (rd_L1 l0 (rd l1 x70_4)) (rd l1 x83_5)) < (x7_5.length : Int)) = true := decide_eq_true c61
                                  (try (have c61b0z := c61b0; simp only [hl7_2, hl7_3, hl7_4, hl7_5, hl11_5] at c61b0z))
                                  clear c61
                                  by_cases c62 : (rd x7_5 (rd (rd_L1 l0 (rd l1 x70_4)) (rd l1 x83_5))) < 0
                                  ·rw [if_pos c62] at H
                                   have c62b0 : decide ((rd x7_5 (rd (rd_L1 l0 (rd l1 x70_4)) (rd l1 x83_5))) < 0) = true := decide_eq_true c62
                                   clear c62
                                   simp only [Option.some.injEq, Prod.mk.injEq] at H
                                   obtain ⟨rfl, rfl⟩ := H
                                   have p611 : 0 ≤ (x83_5 : Int) := of_decide_eq_true (by first | (with_reducible assumption) | assumption)
                                   have q611 : x83_5 < (l1.length : Int) := of_decide_eq_true (by first | (with_reducible assumption) | assumption)
                                   obtain ⟨ad611, e611, hx611_0⟩ := Kd.at_int HR1.out x83_5 p611 q611
                                   obtain rfl : ad606 = ad611 := (by injection e611)
                                   replace hx611_0 := (HB.out.cell (World.block_lt_of_cell? w _ hx611_0)).trans hx611_0
                                   replace p611 := eq_true p611
                                   replace q611 := eq_true q611
                                   have p612 : 0 ≤ ((rd l1 x70_4) : Int) := of_decide_eq_true (by first | (with_reducible assumption) | assumption)
                                   have q612 : (rd l1 x70_4) < (l0.length : Int) := of_decide_eq_true (by first | (with_reducible assumption) | assumption)
                                   obtain ⟨ad612, A612_0, c612_0, e612, hx612_0, hl612_0, hi612_0⟩ := at_L1 HR0.out (rd l1 x70_4) p612 q612
                                   cases e612
                                   replace hx612_0 := (HB.out.cell (World.block_lt_of_cell? w _ hx612_0)).trans hx612_0
                                   have HR612_0 := Aside0.mk hi612_0
                                   have HC612_0 := Aside0.mk hl612_0
                                   (try clear hi612_0); (try clear hl612_0)
                                   replace p612 := eq_true p612
                                   replace q612 := eq_true q612
                                   have p613 : 0 ≤ ((rd l1 x83_5) : Int) := of_decide_eq_true (by first | (with_reducible assumption) | assumption)
                                   have q613 : (rd l1 x83_5) < ((rd_L1 l0 (rd l1 x70_4)).length : Int) := of_decide_eq_true (by first | (with_reducible assumption) | assumption)
                                   obtain ⟨ad613, e613, hx613_0⟩ := Kd.at_int HR612_0.out (rd l1 x83_5) p613 q613
                                   cases e613
                                   replace hx613_0 := (HB.out.cell (World.block_lt_of_cell? w _ hx613_0)).trans hx613_0
                                   replace p613 := eq_true p613
                                   replace q613 := eq_true q613
                                   have p614 : 0 ≤ ((rd (rd_L1 l0 (rd l1 x70_4)) (rd l1 x83_5)) : Int) := of_decide_eq_true (by first | (with_reducible assumption) | assumption)
                                   have q614 : (rd (rd_L1 l0 (rd l1 x70_4)) (rd l1 x83_5)) < (x7_5.length : Int) := of_decide_eq_true (by first | (with_reducible assumption) | assumption)
                                   obtain ⟨ad614, e614, hx614_0⟩ := Kd.at_int (Kd.R_reads' HO_7.out).2.2 (rd (rd_L1 l0 (rd l1 x70_4)) (rd l1 x83_5)) p614 q614
                                   cases e614
                                   replace p614 := eq_true p614
                                   replace q614 := eq_true q614
                                   go_wp2
                                   go_ret2
                                   exact ⟨_, by first | rfl | (simp [errW_none, errW_some] <;> rfl) | (simp [*, errW_none, errW_some] <;> rfl), by first | exact Kd.S_nil _ _ _ _ _ | exact Kd.N_nil _ _ _ _ _ | exact Kd.V_nil _ _ _ _ _ | exact Kd.Q_nil _ _ _ _ _ | exact Kd.R_nil _ _ _ _ _, by repeat (first | (with_reducible first | exact HB.out | apply below_alloc | apply pw_below_drewN | apply below_drew1) | exact HB.out)⟩
                                  ·rw [if_neg c62] at H
                                   have c62b0 : decide ((rd x7_5 (rd (rd_L1 l0 (rd l1 x70_4)) (rd l1 x83_5))) < 0) = false := decide_eq_false c62
                                   clear c62
                                   by_cases c63 : 0 ≤ x70_4
                                   ·rw [if_pos c63] at H
                                    have c63b0 : decide (0 ≤ x70_4) = true := decide_eq_true c63
                                    clear c63
                                    by_cases c64 : x70_4 < (x11_5.length : Int)
                                    ·rw [if_pos c64] at H
                                     have c64b0 : decide (x70_4 < (x11_5.length : Int)) = true := decide_eq_true c64
                                     (try (have c64b0z := c64b0; simp only [hl7_2, hl7_3, hl7_4, hl7_5, hl11_5] at c64b0z))
                                     clear c64
                                     by_cases c65 : x83_5 < ((rd_L1 x11_5 x70_4).length : Int)
                                     ·rw [if_pos c65] at H
                                      have c65b0 : decide (x83_5 < ((rd_L1 x11_5 x70_4).length : Int)) = true := decide_eq_true c65
                                      (try (have c65b0z := c65b0; simp only [hl7_2, hl7_3, hl7_4, hl7_5, hl11_5] at c65b0z))
                                      clear c65
                                      obtain ⟨y619, hy619⟩ : ∃ y_ : List Int, y_ = ((rd_L1 x11_5 x70_4).set (x83_5 : Int).toNat (rd x7_5 (rd (rd_L1 l0 (rd l1 x70_4)) (rd l1 x83_5)))) := ⟨_, rfl⟩
                                      replace H : (mult_Sub.l3 k5 l0 l1 x7_5 (x11_5.set (x70_4 : Int).toNat y619) x70_4 (rd l1 x70_4) l1 (l1.length : Int) x70_4 l1 (l1.length : Int) (wrap64 (x83_5 + 1))) = some (r1, r2) := by first | (rw [hy619]; with_reducible exact H) | (have H2_ := (Option.bind_some _ _).symm.trans H; rw [hy619]; with_reducible exact H2_) | (have H2_ := (Option.bind_some _ _).symm.trans H; with_reducible exact H2_) | with_reducible exact H | (rw [hy619]; exact H) | exact H
                                      have Ny619 := Aside0.mk hy619
                                      clear hy619
                                      obtain ⟨y621, hy621⟩ : ∃ y_ : List (List Int), y_ = (x11_5.set (x70_4 : Int).toNat y619) := ⟨_, rfl⟩
                                      replace H : (mult_Sub.l3 k5 l0 l1 x7_5 y621 x70_4 (rd l1 x70_4) l1 (l1.length : Int) x70_4 l1 (l1.length : Int) (wrap64 (x83_5 + 1))) = some (r1, r2) := by first | (rw [hy621]; with_reducible exact H) | (have H2_ := (Option.bind_some _ _).symm.trans H; rw [hy621]; with_reducible exact H2_) | (have H2_ := (Option.bind_some _ _).symm.trans H; with_reducible exact H2_) | with_reducible exact H | (rw [hy621]; exact H) | exact H
                                      have Ny621 := Aside0.mk hy621
                                      clear hy621
                                      have H' := Aside0.mk H
                                      clear H
                                      have p611 : 0 ≤ (x83_5 : Int) := of_decide_eq_true (by first | (with_reducible assumption) | assumption)
                                      have q611 : x83_5 < (l1.length : Int) := of_decide_eq_true (by first | (with_reducible assumption) | assumption)
                                      obtain ⟨ad611, e611, hx611_0⟩ := Kd.at_int HR1.out x83_5 p611 q611
                                      obtain rfl : ad606 = ad611 := (by injection e611)
                                      replace hx611_0 := (HB.out.cell (World.block_lt_of_cell? w _ hx611_0)).trans hx611_0
                                      replace p611 := eq_true p611
                                      replace q611 := eq_true q611
                                      have p612 : 0 ≤ ((rd l1 x70_4) : Int) := of_decide_eq_true (by first | (with_reducible assumption) | assumption)
                                      have q612 : (rd l1 x70_4) < (l0.length : Int) := of_decide_eq_true (by first | (with_reducible assumption) | assumption)
                                      obtain ⟨ad612, A612_0, c612_0, e612, hx612_0, hl612_0, hi612_0⟩ := at_L1 HR0.out (rd l1 x70_4) p612 q612
                                      cases e612
                                      replace hx612_0 := (HB.out.cell (World.block_lt_of_cell? w _ hx612_0)).trans hx612_0
                                      have HR612_0 := Aside0.mk hi612_0
                                      have HC612_0 := Aside0.mk hl612_0
                                      (try clear hi612_0); (try clear hl612_0)
                                      replace p612 := eq_true p612
                                      replace q612 := eq_true q612
                                      have p613 : 0 ≤ ((rd l1 x83_5) : Int) := of_decide_eq_true (by first | (with_reducible assumption) | assumption)
                                      have q613 : (rd l1 x83_5) < ((rd_L1 l0 (rd l1 x70_4)).length : Int) := of_decide_eq_true (by first | (with_reducible assumption) | assumption)
                                      obtain ⟨ad613, e613, hx613_0⟩ := Kd.at_int HR612_0.out (rd l1 x83_5) p613 q613
                                      cases e613
                                      replace hx613_0 := (HB.out.cell (World.block_lt_of_cell? w _ hx613_0)).trans hx613_0
                                      replace p613 := eq_true p613
                                      replace q613 := eq_true q613
                                      have p614 : 0 ≤ ((rd (rd_L1 l0 (rd l1 x70_4)) (rd l1 x83_5)) : Int) := of_decide_eq_true (by first | (with_reducible assumption) | assumption)
                                      have q614 : (rd (rd_L1 l0 (rd l1 x70_4)) (rd l1 x83_5)) < (x7_5.length : Int) := of_decide_eq_true (by first | (with_reducible assumption) | assumption)
                                      obtain ⟨ad614, e614, hx614_0⟩ := Kd.at_int (Kd.R_reads' HO_7.out).2.2 (rd (rd_L1 l0 (rd l1 x70_4)) (rd l1 x83_5)) p614 q614
                                      cases e614
                                      replace p614 := eq_true p614
                                      replace q614 := eq_true q614
                                      try go_wp2
                                      have n0_ := Aside0.mk (Kd.R_drew HO_7.out)
                                      have n1_ := Aside0.mk (Kd.S_drew HO_11.out)
                                      have n2_ := Aside0.mk (below_drew1 HB.out)
                                      clear HB HO_11 HO_7
                                      have HO_7 := n0_
                                      have HO_11 := n1_
                                      have HB := n2_
                                      clear n0_ n1_ n2_
                                      have p615 : 0 ≤ (x70_4 : Int) := of_decide_eq_true (by first | (with_reducible assumption) | assumption)
                                      have q615 : x70_4 < (x11_5.length : Int) := of_decide_eq_true (by first | (with_reducible assumption) | assumption)
                                      obtain ⟨ad615, A615_0, c615_0, e615, hx615_0, hl615_0, hi615_0⟩ := at_L1 (Kd.S_reads' HO_11.out).2.2 x70_4 p615 q615
                                      obtain rfl : (⟨go48, 0, none⟩ : Addr) = ad615 := (by injection e615)
                                      obtain ⟨ce615, hce615, hMe615, hcc615⟩ := Kd.S_get HO_11.out [] x70_4 p615 (by first | exact q615 | exact of_decide_eq_true (by first | (with_reducible assumption) | assumption) | (have e_ := (Kd.S_reads' HO_11.out).1; omega))
                                      obtain ⟨ve615_0, rfl, ge615_0⟩ := hMe615
                                      have hv615_0 := hcc615 0 _ rfl
                                      rw [Nat.add_zero, show ((Kd.slice 3 (Kd.int .i64))).sz = 1 from rfl, Nat.mul_one] at hv615_0
                                      replace hv615_0 := Option.some.inj (hv615_0.symm.trans hx615_0)
                                      rw [hv615_0] at ge615_0
                                      have HL615_0 := Aside0.mk (show Kd.R (Kd.int .i64) 3 _ _ _ _ (rd_L1 x11_5 x70_4) from ge615_0)
                                      (try clear hv615_0); (try clear ge615_0)
                                      have HX615_0 := Aside0.mk hx615_0
                                      (try clear hcc615); (try clear hce615)
                                      (first | simp only [add_plain] at hx615_0 | simp only [add_at] at hx615_0 | simp only [Addr.add, Nat.zero_add] at hx615_0 | skip)
                                      have HR615_0 := Aside0.mk hi615_0
                                      have HC615_0 := Aside0.mk hl615_0
                                      (try clear hi615_0); (try clear hl615_0)
                                      replace p615 := eq_true p615
                                      replace q615 := eq_true q615
                                      have p616 : 0 ≤ ((rd l1 x70_4) : Int) := of_decide_eq_true (by first | (with_reducible assumption) | assumption)
                                      have q616 : (rd l1 x70_4) < (l0.length : Int) := of_decide_eq_true (by first | (with_reducible assumption) | assumption)
                                      obtain ⟨ad616, A616_0, c616_0, e616, hx616_0, hl616_0, hi616_0⟩ := at_L1 HR0.out (rd l1 x70_4) p616 q616
                                      have hw616_0 := hx616_0
                                      obtain rfl : ad612 = ad616 := (by injection e616)
                                      replace hx616_0 := (HB.out.cell (World.block_lt_of_cell? w _ hx616_0)).trans hx616_0
                                      have HR616_0 := Aside0.mk hi616_0
                                      have HC616_0 := Aside0.mk hl616_0
                                      (try clear hi616_0); (try clear hl616_0)
                                      replace p616 := eq_true p616
                                      replace q616 := eq_true q616
                                      have p617 : 0 ≤ ((rd l1 x83_5) : Int) := of_decide_eq_true (by first | (with_reducible assumption) | assumption)
                                      have q617 : (rd l1 x83_5) < ((rd_L1 l0 (rd l1 x70_4)).length : Int) := of_decide_eq_true (by first | (with_reducible assumption) | assumption)
                                      obtain ⟨ad617, e617, hx617_0⟩ := Kd.at_int HR616_0.out (rd l1 x83_5) p617 q617
                                      have hw617_0 := hx617_0
                                      cases e617
                                      replace hx617_0 := (HB.out.cell (World.block_lt_of_cell? w _ hx617_0)).trans hx617_0
                                      replace p617 := eq_true p617
                                      replace q617 := eq_true q617
                                      have p618 : 0 ≤ ((rd (rd_L1 l0 (rd l1 x70_4)) (rd l1 x83_5)) : Int) := of_decide_eq_true (by first | (with_reducible assumption) | assumption)
                                      have q618 : (rd (rd_L1 l0 (rd l1 x70_4)) (rd l1 x83_5)) < (x7_5.length : Int) := of_decide_eq_true (by first | (with_reducible assumption) | assumption)
                                      obtain ⟨ad618, e618, hx618_0⟩ := Kd.at_int (Kd.R_reads' HO_7.out).2.2 (rd (rd_L1 l0 (rd l1 x70_4)) (rd l1 x83_5)) p618 q618
                                      obtain rfl : ad614 = ad618 := (by injection e618)
                                      replace p618 := eq_true p618
                                      replace q618 := eq_true q618
                                      have p66 : 0 ≤ (x83_5 : Int) := of_decide_eq_true (by first | (with_reducible assumption) | assumption)
                                      have q66 : (x83_5 : Int) < (((rd_L1 x11_5 x70_4).length : Int) : Int) := of_decide_eq_true (by first | (with_reducible assumption) | assumption)
                                      obtain ⟨go66, co66, eo66, gb66, gl66, cl66, HG66⟩ := Kd.R_form HL615_0.out (by omega)
                                      (first | cases eo66 | (injection eo66 with ea_ en_ ec_; (first | subst ea_ | (injection ea_ with ea_; subst ea_)); subst ec_; clear en_))
                                      have GB66 := Aside0.mk gb66
                                      have GG66 := Aside0.mk HG66
                                      (try clear gb66); (try clear gl66); (try clear HG66)
                                      obtain ⟨hx66_0, hf66_0⟩ := Kd.R_celln 0 HL615_0.out (x83_5 : Int) p66 q66
                                      replace p66 := eq_true p66
                                      replace q66 := eq_true q66
                                      have hq68 : (x70_4 : Int) < (x11_5.length : Int) := (by have h_ : (x70_4 : Int) < ((x11_5.length : Int) : Int) := of_decide_eq_true (by first | (with_reducible assumption) | assumption); first | exact h_ | (have e_ := (Kd.S_reads' HO_11.out).1; omega) | simpa only [List.length_set, List.length_set] using h_)
                                      obtain ⟨oki68, ce68, hcl68, hM68, hcc68, hok68, hbk68⟩ := Kd.S_borrow HO_11.out [] (x70_4 : Int) (of_decide_eq_true (by first | (with_reducible assumption) | assumption)) (by first | exact hq68 | (have e_ := (Kd.S_reads' HO_11.out).1; omega))
                                      obtain ⟨ve68_0, rfl, ge68_0⟩ := hM68
                                      have hv68 := hcc68 0 _ rfl
                                      rw [Nat.add_zero, show ((Kd.slice 3 (Kd.int .i64))).sz = 1 from rfl, Nat.mul_one] at hv68
                                      replace hv68 := Option.some.inj (hv68.symm.trans HX615_0.out)
                                      subst hv68
                                      (try clear hcc68); (try clear hcl68)
                                      replace ge68_0 := (show Kd.R (Kd.int .i64) 3 _ _ _ _ (rd_L1 x11_5 x70_4) from ge68_0)
                                      have HP68 := Kd.R_putg ge68_0 (x83_5 : Int) (rd x7_5 (rd (rd_L1 l0 (rd l1 x70_4)) (rd l1 x83_5)))
                                      rw [← Ny619.out] at HP68
                                      have HS68 := hbk68 HP68.2 (fun k_ e_ => by injection e_ with e_; subst e_; exact ge68_0.1 _ rfl) (x' := y619) (Kd.M_row HP68.1)
                                      rw [← Ny621.out] at HS68
                                      have HQ68 := Aside0.mk HS68
                                      (try clear HP68); (try clear HS68); (try clear hbk68); (try clear hok68)
                                      refine start_ (n := 17) (S := fun w' => w'.cell? ⟨go48, (x70_4).toNat, none⟩ = some (.slice (some ⟨go66, 0, none⟩) (rd_L1 x11_5 x70_4).length c615_0) ∧ w'.cell? (ad612.add ((rd l1 x70_4)).toNat) = some (.slice (some ad617) (rd_L1 l0 (rd l1 x70_4)).length c616_0) ∧ w'.cell? (ad617.add ((rd l1 x83_5)).toNat) = some (.int .i64 (rd (rd_L1 l0 (rd l1 x70_4)) (rd l1 x83_5))) ∧ w'.cell? (ad614.add ((rd (rd_L1 l0 (rd l1 x70_4)) (rd l1 x83_5))).toNat) = some (.int .i64 (rd x7_5 (rd (rd_L1 l0 (rd l1 x70_4)) (rd l1 x83_5))))) (ds := [16]) #[false, false, false, false, false, false, false, false, false, false, false, false, false, false, false, false, false] (by kernel_rfl) rfl rfl ⟨hx615_0, ((HB.out.cell (World.block_lt_of_cell? w _ hw616_0)).trans hw616_0), ((HB.out.cell (World.block_lt_of_cell? w _ hw617_0)).trans hw617_0), hx618_0⟩ (fun hHeld => ?_); refine with_tabW mult_Sub.tab29 mult_Sub.bits29 (fun HT_ HW_ => ?_)
                                      generalize wr.drew = w67 at HO_7 HO_11 HB GG66 HL615_0 HQ68 HR615_0 HR616_0 HX615_0 hf66_0 hx615_0 hx616_0 hx617_0 hx618_0 hx66_0 hHeld ⊢
                                      refine pure_ (i := 0) (N := some 99) (v := ?_) (a' := ?_) #[true, false, false, false, false, false, false, false, false, false, false, false, false, false, false, false, false] rfl rfl (any_of HT_.out (by kernel_rfl)) (fun _ _ _ h => h) (Or.inl ⟨by rfl, ?_⟩) ?_ ?_
                                      rotate_left
                                      ·intro w'
                                       go_simp
                                       with_reducible rfl
                                      rotate_left
                                      ·simp only [Act.put, List.setIfInBounds_toArray, List.set_cons_zero, List.set_cons_succ, i64_w, i32_w]
                                       rfl
                                      refine pure_ (i := 1) (N := some 100) (v := ?_) (a' := ?_) #[true, true, false, false, false, false, false, false, false, false, false, false, false, false, false, false, false] rfl rfl (any_of HT_.out (by kernel_rfl)) (fun _ _ _ h => h) (Or.inl ⟨by rfl, ?_⟩) ?_ ?_
                                      rotate_left
                                      ·intro w'
                                       go_simp
                                       with_reducible rfl
                                      rotate_left
                                      ·simp only [Act.put, List.setIfInBounds_toArray, List.set_cons_zero, List.set_cons_succ, i64_w, i32_w]
                                       rfl
                                      refine pure_ (i := 2) (N := some 101) (v := ?_) (a' := ?_) #[true, true, true, false, false, false, false, false, false, false, false, false, false, false, false, false, false] rfl rfl (any_of HT_.out (by kernel_rfl)) (fun _ _ _ h => h) (Or.inl ⟨by rfl, ?_⟩) ?_ ?_
                                      rotate_left
                                      ·intro w'
                                       go_simp
                                       with_reducible rfl
                                      rotate_left
                                      ·simp only [Act.put, List.setIfInBounds_toArray, List.set_cons_zero, List.set_cons_succ, i64_w, i32_w]
                                       rfl
                                      refine pure_ (i := 4) (N := some 103) (v := ?_) (a' := ?_) #[true, true, true, false, true, false, false, false, false, false, false, false, false, false, false, false, false] rfl rfl (any_of HT_.out (by kernel_rfl)) (fun _ _ _ h => h) (Or.inl ⟨by rfl, ?_⟩) ?_ ?_
                                      rotate_left
                                      ·intro w'
                                       go_simp
                                       with_reducible rfl
                                      rotate_left
                                      ·simp only [Act.put, List.setIfInBounds_toArray, List.set_cons_zero, List.set_cons_succ, i64_w, i32_w]
                                       rfl
                                      refine pure_ (i := 5) (N := some 104) (v := ?_) (a' := ?_) #[true, true, true, false, true, true, false, false, false, false, false, false, false, false, false, false, false] rfl rfl (any_of HT_.out (by kernel_rfl)) (fun _ _ _ h => h) (Or.inl ⟨by rfl, ?_⟩) ?_ ?_
                                      rotate_left
                                      ·intro w'
                                       go_simp
                                       with_reducible rfl
                                      rotate_left
                                      ·simp only [Act.put, List.setIfInBounds_toArray, List.set_cons_zero, List.set_cons_succ, i64_w, i32_w]
                                       rfl
                                      refine pure_ (i := 6) (N := some 105) (v := ?_) (a' := ?_) #[true, true, true, false, true, true, true, false, false, false, false, false, false, false, false, false, false] rfl rfl (any_of HT_.out (by kernel_rfl)) (fun _ _ _ h => h) (Or.inl ⟨by rfl, ?_⟩) ?_ ?_
                                      rotate_left
                                      ·intro w'
                                       go_simp
                                       with_reducible rfl
                                      rotate_left
                                      ·simp only [Act.put, List.setIfInBounds_toArray, List.set_cons_zero, List.set_cons_succ, i64_w, i32_w]
                                       rfl
                                      refine pure_ (i := 7) (N := some 106) (v := ?_) (a' := ?_) #[true, true, true, false, true, true, true, true, false, false, false, false, false, false, false, false, false] rfl rfl (any_of HT_.out (by kernel_rfl)) (fun _ _ _ h => h) (Or.inl ⟨by rfl, ?_⟩) ?_ ?_
                                      rotate_left
                                      ·intro w'
                                       go_simp
                                       with_reducible rfl
                                      rotate_left
                                      ·simp only [Act.put, List.setIfInBounds_toArray, List.set_cons_zero, List.set_cons_succ, i64_w, i32_w]
                                       rfl
                                      refine pure_ (i := 8) (N := some 107) (v := ?_) (a' := ?_) #[true, true, true, false, true, true, true, true, true, false, false, false, false, false, false, false, false] rfl rfl (any_of HT_.out (by kernel_rfl)) (fun _ _ _ h => h) (Or.inl ⟨by rfl, ?_⟩) ?_ ?_
                                      rotate_left
                                      ·intro w'
                                       go_simp
                                       with_reducible rfl
                                      rotate_left
                                      ·simp only [Act.put, List.setIfInBounds_toArray, List.set_cons_zero, List.set_cons_succ, i64_w, i32_w]
                                       rfl
                                      refine pure_ (i := 10) (N := some 109) (v := ?_) (a' := ?_) #[true, true, true, false, true, true, true, true, true, false, true, false, false, false, false, false, false] rfl rfl (any_of HT_.out (by kernel_rfl)) (fun _ _ _ h => h) (Or.inl ⟨by rfl, ?_⟩) ?_ ?_
                                      rotate_left
                                      ·intro w'
                                       go_simp
                                       with_reducible rfl
                                      rotate_left
                                      ·simp only [Act.put, List.setIfInBounds_toArray, List.set_cons_zero, List.set_cons_succ, i64_w, i32_w]
                                       rfl
                                      refine take_ (i := 3) (N := some 102) (v := ?_) (a' := ?_) #[true, true, true, true, true, true, true, true, true, false, true, false, false, false, false, false, false] rfl rfl (take_ofW HT_.out HW_.out (by kernel_rfl)) (fun _ _ _ h => h) (Or.inl ⟨by rfl, ?_⟩) hHeld ?_ ?_
                                      rotate_left
                                      ·rintro w' ⟨s0, s1, s2, s3⟩
                                       go_simp
                                       with_reducible rfl
                                      rotate_left
                                      ·simp only [Act.put, List.setIfInBounds_toArray, List.set_cons_zero, List.set_cons_succ, i64_w, i32_w]
                                       rfl
                                      refine take_ (i := 9) (N := some 108) (v := ?_) (a' := ?_) #[true, true, true, true, true, true, true, true, true, true, true, false, false, false, false, false, false] rfl rfl (take_ofW HT_.out HW_.out (by kernel_rfl)) (fun _ _ _ h => h) (Or.inl ⟨by rfl, ?_⟩) hHeld ?_ ?_
                                      rotate_left
                                      ·rintro w' ⟨s0, s1, s2, s3⟩
                                       go_simp
                                       with_reducible rfl
                                      rotate_left
                                      ·simp only [Act.put, List.setIfInBounds_toArray, List.set_cons_zero, List.set_cons_succ, i64_w, i32_w]
                                       rfl
                                      refine pure_ (i := 11) (N := some 110) (v := ?_) (a' := ?_) #[true, true, true, true, true, true, true, true, true, true, true, true, false, false, false, false, false] rfl rfl (any_of HT_.out (by kernel_rfl)) (fun _ _ _ h => h) (Or.inl ⟨by rfl, ?_⟩) ?_ ?_
                                      rotate_left
                                      ·intro w'
                                       go_simp
                                       with_reducible rfl
                                      rotate_left
                                      ·simp only [Act.put, List.setIfInBounds_toArray, List.set_cons_zero, List.set_cons_succ, i64_w, i32_w]
                                       rfl
                                      refine take_ (i := 12) (N := some 111) (v := ?_) (a' := ?_) #[true, true, true, true, true, true, true, true, true, true, true, true, true, false, false, false, false] rfl rfl (take_ofW HT_.out HW_.out (by kernel_rfl)) (fun _ _ _ h => h) (Or.inl ⟨by rfl, ?_⟩) hHeld ?_ ?_
                                      rotate_left
                                      ·rintro w' ⟨s0, s1, s2, s3⟩
                                       go_simp
                                       with_reducible rfl
                                      rotate_left
                                      ·simp only [Act.put, List.setIfInBounds_toArray, List.set_cons_zero, List.set_cons_succ, i64_w, i32_w]
                                       rfl
                                      refine pure_ (i := 13) (N := some 112) (v := ?_) (a' := ?_) #[true, true, true, true, true, true, true, true, true, true, true, true, true, true, false, false, false] rfl rfl (any_of HT_.out (by kernel_rfl)) (fun _ _ _ h => h) (Or.inl ⟨by rfl, ?_⟩) ?_ ?_
                                      rotate_left
                                      ·intro w'
                                       go_simp
                                       with_reducible rfl
                                      rotate_left
                                      ·simp only [Act.put, List.setIfInBounds_toArray, List.set_cons_zero, List.set_cons_succ, i64_w, i32_w]
                                       rfl
                                      refine take_ (i := 14) (N := some 113) (v := ?_) (a' := ?_) #[true, true, true, true, true, true, true, true, true, true, true, true, true, true, true, false, false] rfl rfl (take_ofW HT_.out HW_.out (by kernel_rfl)) (fun _ _ _ h => h) (Or.inl ⟨by rfl, ?_⟩) hHeld ?_ ?_
                                      rotate_left
                                      ·rintro w' ⟨s0, s1, s2, s3⟩
                                       go_simp
                                       with_reducible rfl
                                      rotate_left
                                      ·simp only [Act.put, List.setIfInBounds_toArray, List.set_cons_zero, List.set_cons_succ, i64_w, i32_w]
                                       rfl
                                      refine pure_ (i := 15) (N := some 114) (v := ?_) (a' := ?_) #[true, true, true, true, true, true, true, true, true, true, true, true, true, true, true, true, false] rfl rfl (any_of HT_.out (by kernel_rfl)) (fun _ _ _ h => h) (Or.inl ⟨by rfl, ?_⟩) ?_ ?_
                                      rotate_left
                                      ·intro w'
                                       go_simp
                                       with_reducible rfl
                                      rotate_left
                                      ·simp only [Act.put, List.setIfInBounds_toArray, List.set_cons_zero, List.set_cons_succ, i64_w, i32_w]
                                       rfl
                                      refine last_ (i := 16) (N := none) #[true, true, true, true, true, true, true, true, true, true, true, true, true, true, true, true, true] rfl rfl (one_of HT_.out (by kernel_rfl)) (by decide) (fun K hK => ?_)
                                      refine skip_ (w1 := ?_) (by rfl) rfl ?_ ?_
                                      rotate_left
                                      ·go_simp
                                       rfl
                                      refine hK.out _ _ ?_
                                      clear hK K
                                      refine done_ (done_of HT_.out (by kernel_rfl)) ?_
                                      try go_wp2
                                      (try simp only [← hl7_5, ← hl11_5])
                                      go_roundg k5
                                      case measure => have := HJ4.out; have := HK2.out; have := HK3.out; have := HK4.out; have := HK5.out; omega
                                      case rel => exact ⟨(x7_5), (y621), (wrap64 (x83_5 + 1)), (by first | rfl | (simp; done) | (simp [*]; done)), H', ⟨by have := HJ4.out; have := HK2.out; have := HK3.out; have := HK4.out; have := HK5.out; omega⟩, ⟨by (try simp only [hl7_2]); (try simp only [hl7_3]); (try simp only [hl7_4]); (try simp only [hl7_5]); (try simp only [hl11_5]); (with_reducible repeat (first | apply Kd.R_alloc | apply Kd.R_drewN | apply Kd.R_drew)); exact Kd.R_mono (Kd.R_far (p := ⟨go66, (x83_5 : Int).toNat, none⟩) (Kd.R_far1 HO_7.out rfl ((HL615_0.out.1 _ rfl).1)) (fun _ hk => hk.2) (.int .i64 (rd x7_5 (rd (rd_L1 l0 (rd l1 x70_4)) (rd l1 x83_5))))) (fun _ hk => trivial)⟩, ⟨by (try simp only [hl7_2]); (try simp only [hl7_3]); (try simp only [hl7_4]); (try simp only [hl7_5]); (try simp only [hl11_5]); (with_reducible repeat (first | apply Kd.S_alloc | apply Kd.S_drewN | apply Kd.S_drew)); exact HQ68.out⟩, ⟨by repeat (first | (with_reducible first | exact HB.out | apply below_alloc | apply pw_below_drewN | apply below_drew1 | refine below_set ?_ GB66.out) | exact HB.out)⟩⟩
                                     ·rw [if_neg c65] at H
                                      exact absurd H (by simp)
                                    ·rw [if_neg c64] at H
                                     exact absurd H (by simp)
                                   ·rw [if_neg c63] at H
                                    exact absurd H (by simp)
                                 ·rw [if_neg c61] at H
                                  exact absurd H (by simp)
                                ·rw [if_neg c60] at H
                                 exact absurd H (by simp)
                               ·rw [if_neg c59] at H
                                exact absurd H (by simp)
                              ·rw [if_neg c58] at H
                               exact absurd H (by simp)
                             ·rw [if_neg c57] at H
                              exact absurd H (by simp)
                            ·rw [if_neg c56] at H
                             exact absurd H (by simp)
                           ·rw [if_neg c55] at H
                            exact absurd H (by simp)
                          ·rw [if_neg c54] at H
                           exact absurd H (by simp)
                         ·rw [if_neg c53] at H
                          have c53b0 : decide (x83_5 < (l1.length : Int)) = false := decide_eq_false c53
                          (try (have c53b0z := c53b0; simp only [hl7_2, hl7_3, hl7_4, hl7_5, hl11_5] at c53b0z))
                          clear c53
                          have H' := Aside0.mk H
                          clear H
                          go_wp2
                          (try simp only [← hl7_4, ← hl7_5, ← hl11_5])
                          go_roundg k5
                          case measure => have := HJ4.out; have := HK2.out; have := HK3.out; have := HK4.out; have := HK5.out; omega
                          case rel => exact ⟨(x7_5), (x11_5), (wrap64 (x70_4 + 1)), (by first | rfl | (simp; done) | (simp [*]; done)), H', ⟨by have := HJ4.out; have := HK2.out; have := HK3.out; have := HK4.out; have := HK5.out; omega⟩, ⟨by (try simp only [hl7_2]); (try simp only [hl7_3]); (try simp only [hl7_4]); (try simp only [hl7_5]); (try simp only [hl11_5]); (with_reducible repeat (first | apply Kd.R_alloc | apply Kd.R_drewN | apply Kd.R_drew)); exact HO_7.out⟩, ⟨by (try simp only [hl7_2]); (try simp only [hl7_3]); (try simp only [hl7_4]); (try simp only [hl7_5]); (try simp only [hl11_5]); (with_reducible repeat (first | apply Kd.S_alloc | apply Kd.S_drewN | apply Kd.S_drew)); exact HO_11.out⟩, ⟨by repeat (first | (with_reducible first | exact HB.out | apply below_alloc | apply pw_below_drewN | apply below_drew1) | exact HB.out)⟩⟩
                      ·rw [if_neg c47] at H
                       exact absurd H (by simp)
                     ·rw [if_neg c46] at H
                      exact absurd H (by simp)
                    ·rw [if_neg c45] at H
                     exact absurd H (by simp)
                   ·rw [if_neg c44] at H
                    exact absurd H (by simp)
                  ·rw [if_neg c43] at H
                   exact absurd H (by simp)
                 ·rw [if_neg c42] at H
                  have c42b0 : decide (x70_4 < (l1.length : Int)) = false := decide_eq_false c42
                  (try (have c42b0z := c42b0; simp only [hl7_2, hl7_3, hl7_4] at c42b0z))
                  clear c42
                  simp only [Option.some.injEq, Prod.mk.injEq] at H
                  obtain ⟨rfl, rfl⟩ := H
                  go_wp2
                  go_ret2
                  exact ⟨_, by first | rfl | (simp [errW_none, errW_some] <;> rfl) | (simp [*, errW_none, errW_some] <;> rfl), by (with_reducible repeat (first | apply Kd.S_alloc | apply Kd.S_drewN | apply Kd.S_drew)); exact Kd.S_mono HO_11.out (fun _ hk => trivial), by repeat (first | (with_reducible first | exact HB.out | apply below_alloc | apply pw_below_drewN | apply below_drew1) | exact HB.out)⟩
              ·rw [if_neg c39] at H
               exact absurd H (by simp)
             ·rw [if_neg c38] at H
              exact absurd H (by simp)
      ·rw [if_neg c10] at H
       exact absurd H (by simp)
     ·rw [if_neg c9] at H
      exact absurd H (by simp)
 ·rw [if_neg c4] at H
  have c4b0 : (t593 == 0) = false := beq_eq_false_iff_ne.mpr c4
  have c4b1 : (t593 != 0) = true := bne_iff_ne.mpr c4
  simp only [Option.some.injEq, Prod.mk.injEq] at H
  obtain ⟨rfl, rfl⟩ := H
  go_enter Try.func52, Try.ntmps52
  go_wp2_with (first | ((with_reducible refine gate_callee (f := 19) rfl ?_); refine goesL_ (some 17) rfl rfl Try.func19 (by kernel_rfl) rfl #[.slice A0 l0.length c0] rfl (by (try simp only [List.map_toArray, List.map_cons, List.map_nil]); first | done | rfl | (simp only [List.length_drop, List.length_take]; rfl)) ?_; (with_reducible refine (mult_Validate.calls k _ _ l0 t593 _ ?side1 ?side2 A3.out).mono ?_); (case side1 => repeat (first | exact HR0.out | (with_reducible refine Kd.C_alloc ?_ _) | (with_reducible refine Kd.C_drewN ?_ _) | (with_reducible refine Kd.C_drew ?_))); (case side2 => exact HC0.out); rintro e w' ⟨rfl, ⟨nd, rfl⟩⟩; refine ⟨_, rfl, ?_⟩))
  go_ret2
  exact ⟨_, by first | rfl | (simp [errW_none, errW_some] <;> rfl) | (simp [*, errW_none, errW_some] <;> rfl), by first | exact Kd.S_nil _ _ _ _ _ | exact Kd.N_nil _ _ _ _ _ | exact Kd.V_nil _ _ _ _ _ | exact Kd.Q_nil _ _ _ _ _ | exact Kd.R_nil _ _ _ _ _, by repeat (first | (with_reducible first | exact HB.out | apply below_alloc | apply pw_below_drewN | apply below_drew1) | exact HB.out)⟩

/-! ### semigroupref14_Ascending: function 75 -/
def semigroupref14_Ascending.l0 : Nat → List (List Int) → List Int → List Int → Int → Int → Option (Bool)
 | 0, _, _, _, _, _ => none
 | k + 1, x0, x1, x7, x8, x9 => if x9 < x8 then (if 0 ≤ x9 then (if x9 < (x7.length : Int) then (if (rd x7 x9) < 0 then (some false) else (if (rd x7 x9) ≥ (x0.length : Int) then (some false) else (if x9 > 0 then (if 0 ≤ (wrap64 (x9 - 1)) then (if (wrap64 (x9 - 1)) < (x1.length : Int) then (if (rd x1 (wrap64 (x9 - 1))) ≥ (rd x7 x9) then (some false) else (semigroupref14_Ascending.l0 k x0 x1 x7 x8 (wrap64 (x9 + 1)))) else (none)) else (none)) else (semigroupref14_Ascending.l0 k x0 x1 x7 x8 (wrap64 (x9 + 1)))))) else (none)) else (none)) else (some (decide ((x1.length : Int) > 0)))
def semigroupref14_Ascending.f (k : Nat) (l0 : List (List Int)) (l1 : List Int) : Option (Bool) := semigroupref14_Ascending.l0 k l0 l1 l1 (l1.length : Int) 0
theorem semigroupref14_Ascending.mono_l : ∀ k, (∀ y0 y1 y2 y3 y4, LeO (semigroupref14_Ascending.l0 k y0 y1 y2 y3 y4) (semigroupref14_Ascending.l0 (k + 1) y0 y1 y2 y3 y4))
 | 0 => fun _ _ _ _ _ r h => by simp [semigroupref14_Ascending.l0] at h
 | k + 1 => by
  have ih0 := semigroupref14_Ascending.mono_l k
  ·intro y0 y1 y2 y3 y4
   unfold semigroupref14_Ascending.l0
   repeat' first
   | (with_reducible exact ih0 _ _ _ _ _)
   | (with_reducible exact LeO.refl _)
   | (with_reducible exact LeO.none _)
   | (with_reducible refine LeO.ite ?_ ?_)
   | (with_reducible refine LeO.bind ?_ (fun _ => ?_))
   | exact ih0 _ _ _ _ _
   | exact LeO.none _
   | refine LeO.ite ?_ ?_
   | refine LeO.bind ?_ (fun _ => ?_)
theorem semigroupref14_Ascending.mono : ∀ a0 a1 k, LeO (semigroupref14_Ascending.f k a0 a1) (semigroupref14_Ascending.f (k + 1) a0 a1) := by
 intro a0 a1 k
 have ih0 := semigroupref14_Ascending.mono_l k
 unfold semigroupref14_Ascending.f
 repeat' first
   | (with_reducible exact ih0 _ _ _ _ _)
   | (with_reducible exact LeO.refl _)
   | (with_reducible exact LeO.none _)
   | (with_reducible refine LeO.ite ?_ ?_)
   | (with_reducible refine LeO.bind ?_ (fun _ => ?_))
   | exact ih0 _ _ _ _ _
   | exact LeO.none _
   | refine LeO.ite ?_ ?_
   | refine LeO.bind ?_ (fun _ => ?_)
set_option maxHeartbeats 8000000 in
set_option maxRecDepth 100000 in
theorem semigroupref14_Ascending.calls (k : Nat) (A0 : Option Addr) (c0 : Nat) (l0 : List (List Int)) (A1 : Option Addr) (c1 : Nat) (l1 : List Int) (r : Bool) (w : World) (hr0 : Kd.C (Kd.slice 3 (Kd.int .i64)) w A0 l0.length l0) (hc0 : l0.length ≤ c0) (hr1 : Kd.C (Kd.int .i64) w A1 l1.length l1) (hc1 : l1.length ≤ c1) (h : semigroupref14_Ascending.f k l0 l1 = some r) :
  Calls Try.prog 75 #[.slice A0 l0.length c0, .slice A1 l1.length c1] w fun e w' => e = .returned (.bool r) ∧ Drawn0 w w' := by
 have HR0 := Aside0.mk hr0
 have HC0 := Aside0.mk hc0
 (try clear hr0); (try clear hc0)
 have HR1 := Aside0.mk hr1
 have HC1 := Aside0.mk hc1
 (try clear hr1); (try clear hc1)
 have H : (semigroupref14_Ascending.l0 k l0 l1 l1 (l1.length : Int) 0) = some r := h
 clear h
 have H' := Aside0.mk H
 clear H
 go_enter Try.func75, Try.ntmps75
 go_wp2
 go_loopg [9] k (fun kq v9 w' => ∃ (x9_1 : Int), v9 = .int .i64 x9_1 ∧ Aside0 (semigroupref14_Ascending.l0 kq l0 l1 l1 (l1.length : Int) x9_1 = some r) ∧ Aside0 (kq ≤ k) ∧ Drawn0 w w')
 case atStart => exact ⟨(0), (by first | rfl | (simp; done) | (simp [*]; done)), H', ⟨Nat.le_refl _⟩, by repeat (first | exact Drawn0.refl _ | apply Drawn0.step)⟩
 case round =>
  clear H'
  try clear c1
  try clear p2
  obtain ⟨x9_1, rfl, HA, HK1, ⟨m1, rfl⟩⟩ := hrel
  cases gk with
  | zero => exact absurd HA.out (by simp [semigroupref14_Ascending.l0])
  | succ k1 =>
   have H := HA.out
   clear HA
   simp only [semigroupref14_Ascending.l0] at H
   by_cases c3 : x9_1 < (l1.length : Int)
   ·rw [if_pos c3] at H
    have c3b0 : decide (x9_1 < (l1.length : Int)) = true := decide_eq_true c3
    clear c3
    by_cases c4 : 0 ≤ x9_1
    ·rw [if_pos c4] at H
     have c4b0 : decide (0 ≤ x9_1) = true := decide_eq_true c4
     clear c4
     by_cases c5 : x9_1 < (l1.length : Int)
     ·rw [if_pos c5] at H
      have c5b0 : decide (x9_1 < (l1.length : Int)) = true := decide_eq_true c5
      clear c5
      by_cases c6 : (rd l1 x9_1) < 0
      ·rw [if_pos c6] at H
       have c6b0 : decide ((rd l1 x9_1) < 0) = true := decide_eq_true c6
       clear c6
       obtain rfl := Option.some.inj H
       have p622 : 0 ≤ (x9_1 : Int) := of_decide_eq_true (by first | (with_reducible assumption) | assumption)
       have q622 : x9_1 < (l1.length : Int) := of_decide_eq_true (by first | (with_reducible assumption) | assumption)
       obtain ⟨ad622, e622, hx622_0⟩ := Kd.at_int HR1.out x9_1 p622 q622
       cases e622
       replace p622 := eq_true p622
       replace q622 := eq_true q622
       go_wp2
       go_ret
       exact ⟨by first | rfl | (simp; done) | (simp [*]; done), by repeat (first | exact Drawn0.refl _ | apply Drawn0.step)⟩
      ·rw [if_neg c6] at H
       have c6b0 : decide ((rd l1 x9_1) < 0) = false := decide_eq_false c6
       clear c6
       by_cases c7 : (rd l1 x9_1) ≥ (l0.length : Int)
       ·rw [if_pos c7] at H
        have c7b0 : decide ((l0.length : Int) ≤ (rd l1 x9_1)) = true := decide_eq_true c7
        clear c7
        obtain rfl := Option.some.inj H
        have p622 : 0 ≤ (x9_1 : Int) := of_decide_eq_true (by first | (with_reducible assumption) | assumption)
        have q622 : x9_1 < (l1.length : Int) := of_decide_eq_true (by first | (with_reducible assumption) | assumption)
        obtain ⟨ad622, e622, hx622_0⟩ := Kd.at_int HR1.out x9_1 p622 q622
        cases e622
        replace p622 := eq_true p622
        replace q622 := eq_true q622
        go_wp2
        go_ret
        exact ⟨by first | rfl | (simp; done) | (simp [*]; done), by repeat (first | exact Drawn0.refl _ | apply Drawn0.step)⟩
       ·rw [if_neg c7] at H
        have c7b0 : decide ((l0.length : Int) ≤ (rd l1 x9_1)) = false := decide_eq_false c7
        clear c7
        by_cases c8 : x9_1 > 0
        ·rw [if_pos c8] at H
         have c8b0 : decide (0 < x9_1) = true := decide_eq_true c8
         clear c8
         obtain ⟨ji9, hji9⟩ : ∃ j_ : Int, (wrap64 (x9_1 - 1)) = j_ := ⟨_, rfl⟩
         replace H : (if 0 ≤ (ji9) then (if (ji9) < (l1.length : Int) then (if (rd l1 (ji9)) ≥ (rd l1 x9_1) then (some false) else (semigroupref14_Ascending.l0 k1 l0 l1 l1 (l1.length : Int) (wrap64 (x9_1 + 1)))) else (none)) else (none)) = some r := by first | (rw [hji9] at H; exact H) | (simp only [hji9] at H ⊢; exact H)
         have hji9w : (IntKind.i64.wrap (x9_1 - 1)) = ji9 := (i64_w _).trans hji9
         by_cases c10 : 0 ≤ (ji9)
         ·rw [if_pos c10] at H
          have c10b0 : decide (0 ≤ (ji9)) = true := decide_eq_true c10
          clear c10
          by_cases c11 : (ji9) < (l1.length : Int)
          ·rw [if_pos c11] at H
           have c11b0 : decide ((ji9) < (l1.length : Int)) = true := decide_eq_true c11
           clear c11
           by_cases c12 : (rd l1 (ji9)) ≥ (rd l1 x9_1)
           ·rw [if_pos c12] at H
            have c12b0 : decide ((rd l1 x9_1) ≤ (rd l1 (ji9))) = true := decide_eq_true c12
            clear c12
            obtain rfl := Option.some.inj H
            have p622 : 0 ≤ (x9_1 : Int) := of_decide_eq_true (by first | (with_reducible assumption) | assumption)
            have q622 : x9_1 < (l1.length : Int) := of_decide_eq_true (by first | (with_reducible assumption) | assumption)
            obtain ⟨ad622, e622, hx622_0⟩ := Kd.at_int HR1.out x9_1 p622 q622
            cases e622
            replace p622 := eq_true p622
            replace q622 := eq_true q622
            have p623 : 0 ≤ ((ji9) : Int) := of_decide_eq_true (by first | (with_reducible assumption) | assumption)
            have q623 : (ji9) < (l1.length : Int) := of_decide_eq_true (by first | (with_reducible assumption) | assumption)
            obtain ⟨ad623, e623, hx623_0⟩ := Kd.at_int HR1.out (ji9) p623 q623
            obtain rfl : ad622 = ad623 := (by injection e623)
            replace p623 := eq_true p623
            replace q623 := eq_true q623
            go_wp2
            go_ret
            exact ⟨by first | rfl | (simp; done) | (simp only [← hji9] <;> (first | rfl | simp)) | (simp [*]; done), by repeat (first | exact Drawn0.refl _ | apply Drawn0.step)⟩
           ·rw [if_neg c12] at H
            have c12b0 : decide ((rd l1 x9_1) ≤ (rd l1 (ji9))) = false := decide_eq_false c12
            clear c12
            have H' := Aside0.mk H
            clear H
            have p622 : 0 ≤ (x9_1 : Int) := of_decide_eq_true (by first | (with_reducible assumption) | assumption)
            have q622 : x9_1 < (l1.length : Int) := of_decide_eq_true (by first | (with_reducible assumption) | assumption)
            obtain ⟨ad622, e622, hx622_0⟩ := Kd.at_int HR1.out x9_1 p622 q622
            cases e622
            replace p622 := eq_true p622
            replace q622 := eq_true q622
            have p623 : 0 ≤ ((ji9) : Int) := of_decide_eq_true (by first | (with_reducible assumption) | assumption)
            have q623 : (ji9) < (l1.length : Int) := of_decide_eq_true (by first | (with_reducible assumption) | assumption)
            obtain ⟨ad623, e623, hx623_0⟩ := Kd.at_int HR1.out (ji9) p623 q623
            obtain rfl : ad622 = ad623 := (by injection e623)
            replace p623 := eq_true p623
            replace q623 := eq_true q623
            go_wp2
            go_roundg k1
            case measure => have := HK1.out; omega
            case rel => exact ⟨(wrap64 (x9_1 + 1)), (by first | rfl | (simp; done) | (simp [*]; done)), H', ⟨by have := HK1.out; omega⟩, by repeat (first | exact Drawn0.refl _ | apply Drawn0.step)⟩
          ·rw [if_neg c11] at H
           exact absurd H (by simp)
         ·rw [if_neg c10] at H
          exact absurd H (by simp)
        ·rw [if_neg c8] at H
         have c8b0 : decide (0 < x9_1) = false := decide_eq_false c8
         clear c8
         have H' := Aside0.mk H
         clear H
         have p622 : 0 ≤ (x9_1 : Int) := of_decide_eq_true (by first | (with_reducible assumption) | assumption)
         have q622 : x9_1 < (l1.length : Int) := of_decide_eq_true (by first | (with_reducible assumption) | assumption)
         obtain ⟨ad622, e622, hx622_0⟩ := Kd.at_int HR1.out x9_1 p622 q622
         cases e622
         replace p622 := eq_true p622
         replace q622 := eq_true q622
         go_wp2
         go_roundg k1
         case measure => have := HK1.out; omega
         case rel => exact ⟨(wrap64 (x9_1 + 1)), (by first | rfl | (simp; done) | (simp [*]; done)), H', ⟨by have := HK1.out; omega⟩, by repeat (first | exact Drawn0.refl _ | apply Drawn0.step)⟩
     ·rw [if_neg c5] at H
      exact absurd H (by simp)
    ·rw [if_neg c4] at H
     exact absurd H (by simp)
   ·rw [if_neg c3] at H
    have c3b0 : decide (x9_1 < (l1.length : Int)) = false := decide_eq_false c3
    clear c3
    obtain rfl := Option.some.inj H
    go_wp2
    go_ret
    exact ⟨by first | rfl | (simp; done) | (simp [*]; done), by repeat (first | exact Drawn0.refl _ | apply Drawn0.step)⟩

/-! ### semigroupref14_Sub: function 53 -/
mutual
def semigroupref14_Sub.l0 : Nat → List (List Int) → List Int → List Int → Int → Int → Option ((List (List Int)) × Int)
 | 0, _, _, _, _, _ => none
 | k + 1, x0, x1, x7, x30, x31 => if x31 < x30 then (if 0 ≤ x31 then (if x31 < (x7.length : Int) then (semigroupref14_Sub.l0 k x0 x1 (x7.set (x31 : Int).toNat (-1)) x30 (wrap64 (x31 + 1))) else (none)) else (none)) else (semigroupref14_Sub.l1 k x0 x1 x7 x1 (x1.length : Int) 0)
def semigroupref14_Sub.l1 : Nat → List (List Int) → List Int → List Int → List Int → Int → Int → Option ((List (List Int)) × Int)
 | 0, _, _, _, _, _, _ => none
 | k + 1, x0, x1, x7, x38, x39, x40 => if x40 < x39 then (if 0 ≤ x40 then (if x40 < (x38.length : Int) then (if 0 ≤ (rd x38 x40) then (if (rd x38 x40) < (x7.length : Int) then (semigroupref14_Sub.l1 k x0 x1 (x7.set ((rd x38 x40) : Int).toNat x40) x38 x39 (wrap64 (x40 + 1))) else (none)) else (none)) else (none)) else (none)) else (semigroupref14_Sub.l2 k x0 x1 x7 ([] : List (List Int)) x1 (x1.length : Int) 0)
def semigroupref14_Sub.l2 : Nat → List (List Int) → List Int → List Int → List (List Int) → List Int → Int → Int → Option ((List (List Int)) × Int)
 | 0, _, _, _, _, _, _, _ => none
 | k + 1, x0, x1, x7, x11, x50, x51, x52 => if x52 < x51 then (if 0 ≤ x52 then (if x52 < (x50.length : Int) then (semigroupref14_Sub.l3 k x0 x1 x7 x11 (rd x50 x52) ([] : List Int) x50 x51 x52 x1 (x1.length : Int) 0) else (none)) else (none)) else (some (x11, 0))
def semigroupref14_Sub.l3 : Nat → List (List Int) → List Int → List Int → List (List Int) → Int → List Int → List Int → Int → Int → List Int → Int → Int → Option ((List (List Int)) × Int)
 | 0, _, _, _, _, _, _, _, _, _, _, _, _ => none
 | k + 1, x0, x1, x7, x11, x13, x14, x50, x51, x52, x56, x57, x58 => if x58 < x57 then (if 0 ≤ x58 then (if x58 < (x56.length : Int) then (if 0 ≤ x13 then (if x13 < (x0.length : Int) then (if 0 ≤ (rd x56 x58) then (if (rd x56 x58) < ((rd_L1 x0 x13).length : Int) then (if 0 ≤ (rd (rd_L1 x0 x13) (rd x56 x58)) then (if (rd (rd_L1 x0 x13) (rd x56 x58)) < (x7.length : Int) then (if (rd x7 (rd (rd_L1 x0 x13) (rd x56 x58))) < 0 then (some (([] : List (List Int)), 9)) else (if x14.length < 17592186044416 then (semigroupref14_Sub.l3 k x0 x1 x7 x11 x13 (x14 ++ [rd x7 (rd (rd_L1 x0 x13) (rd x56 x58))]) x50 x51 x52 x56 x57 (wrap64 (x58 + 1))) else (none))) else (none)) else (none)) else (none)) else (none)) else (none)) else (none)) else (none)) else (none)) else (if x11.length < 5864062014805 then (semigroupref14_Sub.l2 k x0 x1 x7 (x11 ++ [x14]) x50 x51 (wrap64 (x52 + 1))) else (none))
end
def semigroupref14_Sub.f (k : Nat) (l0 : List (List Int)) (l1 : List Int) : Option ((List (List Int)) × Int) := (semigroupref14_Validate.f k l0).bind fun t624 => (if t624 = 0 then ((semigroupref14_Ascending.f k l0 l1).bind fun t625 => (if t625 = true then (if 0 ≤ (l0.length : Int) then (if ((l0.length : Int) : Int).toNat ≤ 35184372088832 then ((some (List.replicate ((l0.length : Int) : Int).toNat 0 : List Int)).bind fun y626 => (semigroupref14_Sub.l0 k l0 l1 y626 (y626.length : Int) 0)) else (none)) else (none)) else (some (([] : List (List Int)), 1)))) else (some (([] : List (List Int)), t624)))
theorem semigroupref14_Sub.mono_l : ∀ k, (∀ y0 y1 y2 y3 y4, LeO (semigroupref14_Sub.l0 k y0 y1 y2 y3 y4) (semigroupref14_Sub.l0 (k + 1) y0 y1 y2 y3 y4)) ∧ (∀ y0 y1 y2 y3 y4 y5, LeO (semigroupref14_Sub.l1 k y0 y1 y2 y3 y4 y5) (semigroupref14_Sub.l1 (k + 1) y0 y1 y2 y3 y4 y5)) ∧ (∀ y0 y1 y2 y3 y4 y5 y6, LeO (semigroupref14_Sub.l2 k y0 y1 y2 y3 y4 y5 y6) (semigroupref14_Sub.l2 (k + 1) y0 y1 y2 y3 y4 y5 y6)) ∧ (∀ y0 y1 y2 y3 y4 y5 y6 y7 y8 y9 y10 y11, LeO (semigroupref14_Sub.l3 k y0 y1 y2 y3 y4 y5 y6 y7 y8 y9 y10 y11) (semigroupref14_Sub.l3 (k + 1) y0 y1 y2 y3 y4 y5 y6 y7 y8 y9 y10 y11))
 | 0 => ⟨fun _ _ _ _ _ r h => by simp [semigroupref14_Sub.l0] at h, fun _ _ _ _ _ _ r h => by simp [semigroupref14_Sub.l1] at h, fun _ _ _ _ _ _ _ r h => by simp [semigroupref14_Sub.l2] at h, fun _ _ _ _ _ _ _ _ _ _ _ _ r h => by simp [semigroupref14_Sub.l3] at h⟩
 | k + 1 => by
  obtain ⟨ih0, ih1, ih2, ih3⟩ := semigroupref14_Sub.mono_l k
  refine ⟨?_, ?_, ?_, ?_⟩
  ·intro y0 y1 y2 y3 y4
   unfold semigroupref14_Sub.l0
   repeat' first
   | (with_reducible exact ih0 _ _ _ _ _)
   | (with_reducible exact ih1 _ _ _ _ _ _)
   | (with_reducible exact ih2 _ _ _ _ _ _ _)
   | (with_reducible exact ih3 _ _ _ _ _ _ _ _ _ _ _ _)
   | (with_reducible exact semigroupref14_Ascending.mono _ _ _)
   | (with_reducible exact semigroupref14_Validate.mono _ _)
   | (with_reducible exact LeO.refl _)
   | (with_reducible exact LeO.none _)
   | (with_reducible refine LeO.ite ?_ ?_)
   | (with_reducible refine LeO.bind ?_ (fun _ => ?_))
   | exact ih0 _ _ _ _ _
   | exact ih1 _ _ _ _ _ _
   | exact ih2 _ _ _ _ _ _ _
   | exact ih3 _ _ _ _ _ _ _ _ _ _ _ _
   | exact semigroupref14_Ascending.mono _ _ _
   | exact semigroupref14_Validate.mono _ _
   | exact LeO.none _
   | refine LeO.ite ?_ ?_
   | refine LeO.bind ?_ (fun _ => ?_)
  ·intro y0 y1 y2 y3 y4 y5
   unfold semigroupref14_Sub.l1
   repeat' first
   | (with_reducible exact ih0 _ _ _ _ _)
   | (with_reducible exact ih1 _ _ _ _ _ _)
   | (with_reducible exact ih2 _ _ _ _ _ _ _)
   | (with_reducible exact ih3 _ _ _ _ _ _ _ _ _ _ _ _)
   | (with_reducible exact semigroupref14_Ascending.mono _ _ _)
   | (with_reducible exact semigroupref14_Validate.mono _ _)
   | (with_reducible exact LeO.refl _)
   | (with_reducible exact LeO.none _)
   | (with_reducible refine LeO.ite ?_ ?_)
   | (with_reducible refine LeO.bind ?_ (fun _ => ?_))
   | exact ih0 _ _ _ _ _
   | exact ih1 _ _ _ _ _ _
   | exact ih2 _ _ _ _ _ _ _
   | exact ih3 _ _ _ _ _ _ _ _ _ _ _ _
   | exact semigroupref14_Ascending.mono _ _ _
   | exact semigroupref14_Validate.mono _ _
   | exact LeO.none _
   | refine LeO.ite ?_ ?_
   | refine LeO.bind ?_ (fun _ => ?_)
  ·intro y0 y1 y2 y3 y4 y5 y6
   unfold semigroupref14_Sub.l2
   repeat' first
   | (with_reducible exact ih0 _ _ _ _ _)
   | (with_reducible exact ih1 _ _ _ _ _ _)
   | (with_reducible exact ih2 _ _ _ _ _ _ _)
   | (with_reducible exact ih3 _ _ _ _ _ _ _ _ _ _ _ _)
   | (with_reducible exact semigroupref14_Ascending.mono _ _ _)
   | (with_reducible exact semigroupref14_Validate.mono _ _)
   | (with_reducible exact LeO.refl _)
   | (with_reducible exact LeO.none _)
   | (with_reducible refine LeO.ite ?_ ?_)
   | (with_reducible refine LeO.bind ?_ (fun _ => ?_))
   | exact ih0 _ _ _ _ _
   | exact ih1 _ _ _ _ _ _
   | exact ih2 _ _ _ _ _ _ _
   | exact ih3 _ _ _ _ _ _ _ _ _ _ _ _
   | exact semigroupref14_Ascending.mono _ _ _
   | exact semigroupref14_Validate.mono _ _
   | exact LeO.none _
   | refine LeO.ite ?_ ?_
   | refine LeO.bind ?_ (fun _ => ?_)
  ·intro y0 y1 y2 y3 y4 y5 y6 y7 y8 y9 y10 y11
   unfold semigroupref14_Sub.l3
   repeat' first
   | (with_reducible exact ih0 _ _ _ _ _)
   | (with_reducible exact ih1 _ _ _ _ _ _)
   | (with_reducible exact ih2 _ _ _ _ _ _ _)
   | (with_reducible exact ih3 _ _ _ _ _ _ _ _ _ _ _ _)
   | (with_reducible exact semigroupref14_Ascending.mono _ _ _)
   | (with_reducible exact semigroupref14_Validate.mono _ _)
   | (with_reducible exact LeO.refl _)
   | (with_reducible exact LeO.none _)
   | (with_reducible refine LeO.ite ?_ ?_)
   | (with_reducible refine LeO.bind ?_ (fun _ => ?_))
   | exact ih0 _ _ _ _ _
   | exact ih1 _ _ _ _ _ _
   | exact ih2 _ _ _ _ _ _ _
   | exact ih3 _ _ _ _ _ _ _ _ _ _ _ _
   | exact semigroupref14_Ascending.mono _ _ _
   | exact semigroupref14_Validate.mono _ _
   | exact LeO.none _
   | refine LeO.ite ?_ ?_
   | refine LeO.bind ?_ (fun _ => ?_)
theorem semigroupref14_Sub.mono : ∀ a0 a1 k, LeO (semigroupref14_Sub.f k a0 a1) (semigroupref14_Sub.f (k + 1) a0 a1) := by
 intro a0 a1 k
 obtain ⟨ih0, ih1, ih2, ih3⟩ := semigroupref14_Sub.mono_l k
 unfold semigroupref14_Sub.f
 repeat' first
   | (with_reducible exact ih0 _ _ _ _ _)
   | (with_reducible exact ih1 _ _ _ _ _ _)
   | (with_reducible exact ih2 _ _ _ _ _ _ _)
   | (with_reducible exact ih3 _ _ _ _ _ _ _ _ _ _ _ _)
   | (with_reducible exact semigroupref14_Ascending.mono _ _ _)
   | (with_reducible exact semigroupref14_Validate.mono _ _)
   | (with_reducible exact LeO.refl _)
   | (with_reducible exact LeO.none _)
   | (with_reducible refine LeO.ite ?_ ?_)
   | (with_reducible refine LeO.bind ?_ (fun _ => ?_))
   | exact ih0 _ _ _ _ _
   | exact ih1 _ _ _ _ _ _
   | exact ih2 _ _ _ _ _ _ _
   | exact ih3 _ _ _ _ _ _ _ _ _ _ _ _
   | exact semigroupref14_Ascending.mono _ _ _
   | exact semigroupref14_Validate.mono _ _
   | exact LeO.none _
   | refine LeO.ite ?_ ?_
   | refine LeO.bind ?_ (fun _ => ?_)
set_option maxHeartbeats 8000000 in
set_option maxRecDepth 100000 in
theorem semigroupref14_Sub.calls (k : Nat) (A0 : Option Addr) (c0 : Nat) (l0 : List (List Int)) (A1 : Option Addr) (c1 : Nat) (l1 : List Int) (r1 : List (List Int)) (r2 : Int) (w : World) (hr0 : Kd.C (Kd.slice 3 (Kd.int .i64)) w A0 l0.length l0) (hc0 : l0.length ≤ c0) (hr1 : Kd.C (Kd.int .i64) w A1 l1.length l1) (hc1 : l1.length ≤ c1) (h : semigroupref14_Sub.f k l0 l1 = some (r1, r2)) :
  Calls Try.prog 53 #[.slice A0 l0.length c0, .slice A1 l1.length c1] w fun e w' => ∃ v0_ : Value, e = .returned (.tuple #[v0_, .int .i64 r2]) ∧ Kd.S (Kd.slice 3 (Kd.int .i64)) 30 w' w.heap.size (fun _ => True) v0_ r1 ∧ Below w.heap.size w w' := by
 have HR0 := Aside0.mk hr0
 have HC0 := Aside0.mk hc0
 (try clear hr0); (try clear hc0)
 have HR1 := Aside0.mk hr1
 have HC1 := Aside0.mk hc1
 (try clear hr1); (try clear hc1)
 have HB := Aside0.mk (Below.refl w.heap.size w)
 have H : ((semigroupref14_Validate.f k l0).bind fun t624 => (if t624 = 0 then ((semigroupref14_Ascending.f k l0 l1).bind fun t625 => (if t625 = true then (if 0 ≤ (l0.length : Int) then (if ((l0.length : Int) : Int).toNat ≤ 35184372088832 then ((some (List.replicate ((l0.length : Int) : Int).toNat 0 : List Int)).bind fun y626 => (semigroupref14_Sub.l0 k l0 l1 y626 (y626.length : Int) 0)) else (none)) else (none)) else (some (([] : List (List Int)), 1)))) else (some (([] : List (List Int)), t624)))) = some (r1, r2) := h
 clear h
 replace H := Option.bind_eq_some_iff.mp H
 obtain ⟨t624, A30, H⟩ := H
 replace H : (if t624 = 0 then ((semigroupref14_Ascending.f k l0 l1).bind fun t625 => (if t625 = true then (if 0 ≤ (l0.length : Int) then (if ((l0.length : Int) : Int).toNat ≤ 35184372088832 then ((some (List.replicate ((l0.length : Int) : Int).toNat 0 : List Int)).bind fun y626 => (semigroupref14_Sub.l0 k l0 l1 y626 (y626.length : Int) 0)) else (none)) else (none)) else (some (([] : List (List Int)), 1)))) else (some (([] : List (List Int)), t624))) = some (r1, r2) := H
 have A3 := Aside0.mk A30
 clear A30
 by_cases c4 : t624 = 0
 ·rw [if_pos c4] at H
  have c4b0 : (t624 == 0) = true := beq_iff_eq.mpr c4
  have c4b1 : (t624 != 0) = false := bne_eq_false_iff_eq.mpr c4
  clear c4
  replace H := Option.bind_eq_some_iff.mp H
  obtain ⟨t625, A50, H⟩ := H
  replace H : (if t625 = true then (if 0 ≤ (l0.length : Int) then (if ((l0.length : Int) : Int).toNat ≤ 35184372088832 then ((some (List.replicate ((l0.length : Int) : Int).toNat 0 : List Int)).bind fun y626 => (semigroupref14_Sub.l0 k l0 l1 y626 (y626.length : Int) 0)) else (none)) else (none)) else (some (([] : List (List Int)), 1))) = some (r1, r2) := H
  have A5 := Aside0.mk A50
  clear A50
  by_cases c6 : t625 = true
  ·subst c6
   have H1 : (if 0 ≤ (l0.length : Int) then (if ((l0.length : Int) : Int).toNat ≤ 35184372088832 then ((some (List.replicate ((l0.length : Int) : Int).toNat 0 : List Int)).bind fun y626 => (semigroupref14_Sub.l0 k l0 l1 y626 (y626.length : Int) 0)) else (none)) else (none)) = some (r1, r2) := by rw [if_pos rfl] at H; exact H
   clear H
   have H := H1
   clear H1
   by_cases c7 : 0 ≤ (l0.length : Int)
   ·rw [if_pos c7] at H
    have c7b0 := eq_true c7
    have c7b1 : decide (0 ≤ (l0.length : Int)) = true := decide_eq_true c7
    clear c7
    by_cases c8 : ((l0.length : Int) : Int).toNat ≤ 35184372088832
    ·rw [if_pos c8] at H
     have c8b0 := eq_true c8
     have c8b1 : decide (((l0.length : Int) : Int).toNat ≤ 35184372088832) = true := decide_eq_true c8
     clear c8
     obtain ⟨y626, hy626⟩ : ∃ y_ : List Int, y_ = (List.replicate ((l0.length : Int) : Int).toNat 0) := ⟨_, rfl⟩
     replace H : (semigroupref14_Sub.l0 k l0 l1 y626 (y626.length : Int) 0) = some (r1, r2) := by first | (rw [hy626]; with_reducible exact H) | (have H2_ := (Option.bind_some _ _).symm.trans H; rw [hy626]; with_reducible exact H2_) | (have H2_ := (Option.bind_some _ _).symm.trans H; with_reducible exact H2_) | with_reducible exact H | (rw [hy626]; exact H) | exact H
     have Ny626 := Aside0.mk hy626
     clear hy626
     have H' := Aside0.mk H
     clear H
     go_enter Try.func53, Try.ntmps53
     go_wp2_with (first | ((with_reducible refine gate_callee (f := 65) rfl ?_); refine goesL_ (some 18) rfl rfl Try.func65 (by kernel_rfl) rfl #[.slice A0 l0.length c0] rfl (by (try simp only [List.map_toArray, List.map_cons, List.map_nil]); first | done | rfl | (simp only [List.length_drop, List.length_take]; rfl)) ?_; (with_reducible refine (semigroupref14_Validate.calls k _ _ l0 t624 _ ?side1 ?side2 A3.out).mono ?_); (case side1 => repeat (first | exact HR0.out | (with_reducible refine Kd.C_alloc ?_ _) | (with_reducible refine Kd.C_drewN ?_ _) | (with_reducible refine Kd.C_drew ?_))); (case side2 => exact HC0.out); rintro e w' ⟨rfl, ⟨nd, rfl⟩⟩; refine ⟨_, rfl, ?_⟩) | ((with_reducible refine gate_callee (f := 75) rfl ?_); refine goesL_ (some 24) rfl rfl Try.func75 (by kernel_rfl) rfl #[.slice A0 l0.length c0, .slice A1 l1.length c1] rfl (by (try simp only [List.map_toArray, List.map_cons, List.map_nil]); first | done | rfl | (simp only [List.length_drop, List.length_take]; rfl)) ?_; (with_reducible refine (semigroupref14_Ascending.calls k _ _ l0 _ _ l1 true _ ?side1 ?side2 ?side3 ?side4 A5.out).mono ?_); (case side1 => repeat (first | exact HR0.out | (with_reducible refine Kd.C_alloc ?_ _) | (with_reducible refine Kd.C_drewN ?_ _) | (with_reducible refine Kd.C_drew ?_))); (case side2 => exact HC0.out); (case side3 => repeat (first | exact HR1.out | (with_reducible refine Kd.C_alloc ?_ _) | (with_reducible refine Kd.C_drewN ?_ _) | (with_reducible refine Kd.C_drew ?_))); (case side4 => exact HC1.out); rintro e w' ⟨rfl, ⟨nd, rfl⟩⟩; refine ⟨_, rfl, ?_⟩) | ((with_reducible refine gate_dst (N := 28) rfl ?_); refine Kd.R_make (Kd.int .i64) _ 3 rfl (N := 28) rfl 30 _ _ rfl (l0.length : Int) rfl rfl Try.underlying30 (.int .i64 0) 8 info3 rfl (by decide) (by omega) 0 (ok := fun _ => True) (okp := fun _ => True) rfl (fun _ hk => hk) trivial (of_decide_eq_true (by first | (with_reducible assumption) | assumption)) (Nat.le_trans (Nat.mul_le_mul_right _ (of_decide_eq_true (by first | (with_reducible assumption) | assumption) : (l0.length : Int).toNat ≤ 35184372088832)) (by omega)) (Below.refl _ _) (Nat.le_refl _) ?_; intro v627 w9 ho10 hb hg_ hnew_; (try clear hg_); (try clear hnew_); (first | rw [← Ny626.out] at ho10 | (simp only [Int.reduceToNat] at ho10; rw [← Ny626.out] at ho10)); have n0_ := Aside0.mk (Kd.R_lower ho10 (below_size (by repeat (first | (with_reducible first | exact HB.out | apply below_alloc | apply pw_below_drewN | apply below_drew1) | exact HB.out)))); have n1_ := Aside0.mk (below_step (by repeat (first | (with_reducible first | exact HB.out | apply below_alloc | apply pw_below_drewN | apply below_drew1) | exact HB.out)) hb); clear HB; have HO628 := n0_; have HB := n1_; clear n0_ n1_; (try clear hb); (try clear ho10); obtain ⟨Ao11, co11, eo11⟩ := Kd.R_slice HO628.out; subst eo11))
     go_loopg [31] k (fun kq v31 w' => ∃ (x7_1 : List Int) (x31_1 : Int), v31 = .int .i64 x31_1 ∧ Aside0 (semigroupref14_Sub.l0 kq l0 l1 x7_1 (y626.length : Int) x31_1 = some (r1, r2)) ∧ Aside0 (kq ≤ k) ∧ Aside0 (Kd.R (Kd.int .i64) 3 w' w.heap.size (fun _ => True) (.slice Ao11 y626.length co11) x7_1) ∧ Aside0 (Below w.heap.size w w'))
     case atStart => exact ⟨(y626), (0), (by first | rfl | (simp; done) | (simp [*]; done)), H', ⟨Nat.le_refl _⟩, ⟨by (with_reducible repeat (first | apply Kd.R_alloc | apply Kd.R_drewN | apply Kd.R_drew)); exact HO628.out⟩, ⟨by repeat (first | (with_reducible first | exact HB.out | apply below_alloc | apply pw_below_drewN | apply below_drew1) | exact HB.out)⟩⟩
     case round =>
      clear H'
      try clear c1
      try clear p2
      try clear c4
      try clear c4b0
      try clear c4b1
      try clear c5
      try clear c6
      try clear c7
      try clear c7b0
      try clear c7b1
      try clear c8
      try clear c8b0
      try clear c8b1
      obtain ⟨x7_1, x31_1, rfl, HA, HK1, HO_7, HB⟩ := hrel
      have hl7_1 := (Kd.R_reads' HO_7.out).1
      rw [hl7_1] at HO_7
      (try simp only [hl7_1])
      cases gk with
      | zero => exact absurd HA.out (by simp [semigroupref14_Sub.l0])
      | succ k1 =>
       have H := HA.out
       clear HA
       simp only [semigroupref14_Sub.l0] at H
       by_cases c12 : x31_1 < (y626.length : Int)
       ·rw [if_pos c12] at H
        have c12b0 : decide (x31_1 < (y626.length : Int)) = true := decide_eq_true c12
        (try (have c12b0z := c12b0; simp only [hl7_1] at c12b0z))
        clear c12
        by_cases c13 : 0 ≤ x31_1
        ·rw [if_pos c13] at H
         have c13b0 : decide (0 ≤ x31_1) = true := decide_eq_true c13
         clear c13
         by_cases c14 : x31_1 < (x7_1.length : Int)
         ·rw [if_pos c14] at H
          have c14b0 : decide (x31_1 < (x7_1.length : Int)) = true := decide_eq_true c14
          (try (have c14b0z := c14b0; simp only [hl7_1] at c14b0z))
          clear c14
          obtain ⟨y629, hy629⟩ : ∃ y_ : List Int, y_ = (x7_1.set (x31_1 : Int).toNat (-1)) := ⟨_, rfl⟩
          replace H : (semigroupref14_Sub.l0 k1 l0 l1 y629 (y626.length : Int) (wrap64 (x31_1 + 1))) = some (r1, r2) := by first | (rw [hy629]; with_reducible exact H) | (have H2_ := (Option.bind_some _ _).symm.trans H; rw [hy629]; with_reducible exact H2_) | (have H2_ := (Option.bind_some _ _).symm.trans H; with_reducible exact H2_) | with_reducible exact H | (rw [hy629]; exact H) | exact H
          have Ny629 := Aside0.mk hy629
          clear hy629
          have H' := Aside0.mk H
          clear H
          have p15 : 0 ≤ (x31_1 : Int) := of_decide_eq_true (by first | (with_reducible assumption) | assumption)
          have q15 : (x31_1 : Int) < ((x7_1.length : Int) : Int) := of_decide_eq_true (by first | (with_reducible assumption) | assumption)
          obtain ⟨go15, co15, eo15, gb15, gl15, cl15, HG15⟩ := Kd.R_form HO_7.out (by omega)
          (first | cases eo15 | (injection eo15 with ea_ en_ ec_; (first | subst ea_ | (injection ea_ with ea_; subst ea_)); subst ec_; clear en_))
          have GB15 := Aside0.mk gb15
          have GG15 := Aside0.mk HG15
          (try clear gb15); (try clear gl15); (try clear HG15)
          obtain ⟨hx15_0, hf15_0⟩ := Kd.R_celln 0 HO_7.out (x31_1 : Int) p15 q15
          replace p15 := eq_true p15
          replace q15 := eq_true q15
          have HP16 := Kd.R_putg HO_7.out (x31_1 : Int) (-1)
          go_wp2_with (first | ((with_reducible refine gate_store (t := 3) (p := 36) rfl ?_); refine store_event (t := 3) (p := 36) (v := ?vo_w17) (w1 := (wr.setCell ⟨go15, (x31_1 : Int).toNat, none⟩ (.int .i64 (-1)))) ?hg ?ho ?hn ?hr ?_; (case ho => rfl); (case hg => rfl); (case hn => rfl); (case hr => first | (go_simp; done) | (go_simp; rfl)); intro w17 hw; have hg : wr.grownBy w17 (some go15) := (by rw [hw]; exact HP16.2); have hp_ : Kd.R (Kd.int .i64) 3 w17 w.heap.size (fun _ => True) (.slice (some ⟨go15, 0, none⟩) x7_1.length co11) y629 := (by rw [hw, Ny629.out]; exact HP16.1); clear HP16; have n0_ := Aside0.mk (hp_); have n1_ := Aside0.mk ((by rw [hw]; exact below_set (HB.out) GB15.out : Below w.heap.size w w17)); clear HO_7; clear HB; have HO_7 := n0_; have HB := n1_; clear n0_ n1_; (try clear hg); (try clear hw); (try clear hp_)))
          (try simp only [← hl7_1])
          go_roundg k1
          case measure => have := HK1.out; omega
          case rel => exact ⟨(y629), (wrap64 (x31_1 + 1)), (by first | rfl | (simp; done) | (simp [*]; done)), H', ⟨by have := HK1.out; omega⟩, ⟨by (try simp only [hl7_1]); (with_reducible repeat (first | apply Kd.R_alloc | apply Kd.R_drewN | apply Kd.R_drew)); exact HO_7.out⟩, ⟨by repeat (first | (with_reducible first | exact HB.out | apply below_alloc | apply pw_below_drewN | apply below_drew1) | exact HB.out)⟩⟩
         ·rw [if_neg c14] at H
          exact absurd H (by simp)
        ·rw [if_neg c13] at H
         exact absurd H (by simp)
       ·rw [if_neg c12] at H
        have c12b0 : decide (x31_1 < (y626.length : Int)) = false := decide_eq_false c12
        (try (have c12b0z := c12b0; simp only [hl7_1] at c12b0z))
        clear c12
        have H' := Aside0.mk H
        clear H
        go_wp2
        go_loopg [40] k1 (fun kq v40 w' => ∃ (x7_2 : List Int) (x40_2 : Int), v40 = .int .i64 x40_2 ∧ Aside0 (semigroupref14_Sub.l1 kq l0 l1 x7_2 l1 (l1.length : Int) x40_2 = some (r1, r2)) ∧ Aside0 (kq ≤ k1) ∧ Aside0 (Kd.R (Kd.int .i64) 3 w' w.heap.size (fun _ => True) (.slice Ao11 x7_1.length co11) x7_2) ∧ Aside0 (Below w.heap.size w w'))
        case atStart => exact ⟨(x7_1), (0), (by first | rfl | (simp; done) | (simp [*]; done)), H', ⟨Nat.le_refl _⟩, ⟨by (try simp only [hl7_1]); (with_reducible repeat (first | apply Kd.R_alloc | apply Kd.R_drewN | apply Kd.R_drew)); exact HO_7.out⟩, ⟨by repeat (first | (with_reducible first | exact HB.out | apply below_alloc | apply pw_below_drewN | apply below_drew1) | exact HB.out)⟩⟩
        case round =>
         clear H'
         try clear c1
         try clear p1
         try clear q1
         try clear hx1
         try clear p2
         try clear c4
         try clear c4b0
         try clear c4b1
         try clear c5
         try clear c6
         try clear p6
         try clear c7
         try clear c7b0
         try clear c7b1
         try clear c8
         try clear c8b0
         try clear c8b1
         try clear c12
         try clear c12b0
         try clear c13
         try clear c13b0
         try clear c14
         try clear c14b0
         try clear p15
         try clear q15
         try clear hx15
         try clear hf15
         try clear hx15_0
         try clear p15
         try clear p2
         try clear q15
         obtain ⟨x7_2, x40_2, rfl, HA, HK2, HO_7, HB⟩ := hrel
         have hl7_2 := (Kd.R_reads' HO_7.out).1
         rw [hl7_2] at HO_7
         (try simp only [hl7_2])
         cases gk with
         | zero => exact absurd HA.out (by simp [semigroupref14_Sub.l1])
         | succ k2 =>
          have H := HA.out
          clear HA
          simp only [semigroupref14_Sub.l1] at H
          by_cases c18 : x40_2 < (l1.length : Int)
          ·rw [if_pos c18] at H
           have c18b0 : decide (x40_2 < (l1.length : Int)) = true := decide_eq_true c18
           (try (have c18b0z := c18b0; simp only [hl7_1, hl7_2] at c18b0z))
           clear c18
           by_cases c19 : 0 ≤ x40_2
           ·rw [if_pos c19] at H
            have c19b0 : decide (0 ≤ x40_2) = true := decide_eq_true c19
            clear c19
            by_cases c20 : x40_2 < (l1.length : Int)
            ·rw [if_pos c20] at H
             have c20b0 : decide (x40_2 < (l1.length : Int)) = true := decide_eq_true c20
             (try (have c20b0z := c20b0; simp only [hl7_1, hl7_2] at c20b0z))
             clear c20
             by_cases c21 : 0 ≤ (rd l1 x40_2)
             ·rw [if_pos c21] at H
              have c21b0 : decide (0 ≤ (rd l1 x40_2)) = true := decide_eq_true c21
              clear c21
              by_cases c22 : (rd l1 x40_2) < (x7_2.length : Int)
              ·rw [if_pos c22] at H
               have c22b0 : decide ((rd l1 x40_2) < (x7_2.length : Int)) = true := decide_eq_true c22
               (try (have c22b0z := c22b0; simp only [hl7_1, hl7_2] at c22b0z))
               clear c22
               obtain ⟨y631, hy631⟩ : ∃ y_ : List Int, y_ = (x7_2.set ((rd l1 x40_2) : Int).toNat x40_2) := ⟨_, rfl⟩
               replace H : (semigroupref14_Sub.l1 k2 l0 l1 y631 l1 (l1.length : Int) (wrap64 (x40_2 + 1))) = some (r1, r2) := by first | (rw [hy631]; with_reducible exact H) | (have H2_ := (Option.bind_some _ _).symm.trans H; rw [hy631]; with_reducible exact H2_) | (have H2_ := (Option.bind_some _ _).symm.trans H; with_reducible exact H2_) | with_reducible exact H | (rw [hy631]; exact H) | exact H
               have Ny631 := Aside0.mk hy631
               clear hy631
               have H' := Aside0.mk H
               clear H
               have p630 : 0 ≤ (x40_2 : Int) := of_decide_eq_true (by first | (with_reducible assumption) | assumption)
               have q630 : x40_2 < (l1.length : Int) := of_decide_eq_true (by first | (with_reducible assumption) | assumption)
               obtain ⟨ad630, e630, hx630_0⟩ := Kd.at_int HR1.out x40_2 p630 q630
               cases e630
               replace hx630_0 := (HB.out.cell (World.block_lt_of_cell? w _ hx630_0)).trans hx630_0
               replace p630 := eq_true p630
               replace q630 := eq_true q630
               have p23 : 0 ≤ ((rd l1 x40_2) : Int) := of_decide_eq_true (by first | (with_reducible assumption) | assumption)
               have q23 : ((rd l1 x40_2) : Int) < ((x7_2.length : Int) : Int) := of_decide_eq_true (by first | (with_reducible assumption) | assumption)
               obtain ⟨go23, co23, eo23, gb23, gl23, cl23, HG23⟩ := Kd.R_form HO_7.out (by omega)
               (first | cases eo23 | (injection eo23 with ea_ en_ ec_; (first | subst ea_ | (injection ea_ with ea_; subst ea_)); subst ec_; clear en_))
               have GB23 := Aside0.mk gb23
               have GG23 := Aside0.mk HG23
               (try clear gb23); (try clear gl23); (try clear HG23)
               obtain ⟨hx23_0, hf23_0⟩ := Kd.R_celln 0 HO_7.out ((rd l1 x40_2) : Int) p23 q23
               replace p23 := eq_true p23
               replace q23 := eq_true q23
               have HP24 := Kd.R_putg HO_7.out ((rd l1 x40_2) : Int) x40_2
               go_wp2_with (first | ((with_reducible refine gate_store (t := 3) (p := 48) rfl ?_); refine store_event (t := 3) (p := 48) (v := ?vo_w25) (w1 := (wr.setCell ⟨go23, ((rd l1 x40_2) : Int).toNat, none⟩ (.int .i64 x40_2))) ?hg ?ho ?hn ?hr ?_; (case ho => rfl); (case hg => rfl); (case hn => rfl); (case hr => first | (go_simp; done) | (go_simp; rfl)); intro w25 hw; have hg : wr.grownBy w25 (some go23) := (by rw [hw]; exact HP24.2); have hp_ : Kd.R (Kd.int .i64) 3 w25 w.heap.size (fun _ => True) (.slice (some ⟨go23, 0, none⟩) x7_2.length co11) y631 := (by rw [hw, Ny631.out]; exact HP24.1); clear HP24; have n0_ := Aside0.mk (hp_); have n1_ := Aside0.mk ((by rw [hw]; exact below_set (HB.out) GB23.out : Below w.heap.size w w25)); clear HO_7; clear HB; have HO_7 := n0_; have HB := n1_; clear n0_ n1_; (try clear hg); (try clear hw); (try clear hp_)))
               (try simp only [← hl7_2])
               go_roundg k2
               case measure => have := HK1.out; have := HK2.out; omega
               case rel => exact ⟨(y631), (wrap64 (x40_2 + 1)), (by first | rfl | (simp; done) | (simp [*]; done)), H', ⟨by have := HK1.out; have := HK2.out; omega⟩, ⟨by (try simp only [hl7_1]); (try simp only [hl7_2]); (with_reducible repeat (first | apply Kd.R_alloc | apply Kd.R_drewN | apply Kd.R_drew)); exact HO_7.out⟩, ⟨by repeat (first | (with_reducible first | exact HB.out | apply below_alloc | apply pw_below_drewN | apply below_drew1) | exact HB.out)⟩⟩
              ·rw [if_neg c22] at H
               exact absurd H (by simp)
             ·rw [if_neg c21] at H
              exact absurd H (by simp)
            ·rw [if_neg c20] at H
             exact absurd H (by simp)
           ·rw [if_neg c19] at H
            exact absurd H (by simp)
          ·rw [if_neg c18] at H
           have c18b0 : decide (x40_2 < (l1.length : Int)) = false := decide_eq_false c18
           (try (have c18b0z := c18b0; simp only [hl7_1, hl7_2] at c18b0z))
           clear c18
           have H' := Aside0.mk H
           clear H
           go_wp2
           go_loopg [11, 52] k2 (fun kq v11 v52 w' => ∃ (x11_3 : List (List Int)) (x52_3 : Int), v52 = .int .i64 x52_3 ∧ Aside0 (semigroupref14_Sub.l2 kq l0 l1 x7_2 x11_3 l1 (l1.length : Int) x52_3 = some (r1, r2)) ∧ Aside0 (kq ≤ k2) ∧ Aside0 (Kd.R (Kd.int .i64) 3 w' w.heap.size (fun _ => True) (.slice Ao11 x7_2.length co11) x7_2) ∧ Aside0 (Kd.S (Kd.slice 3 (Kd.int .i64)) 30 w' w.heap.size (fun k_ => some k_ ≠ ((.slice Ao11 x7_2.length co11) : Value).ownBlock) v11 x11_3) ∧ Aside0 (Below w.heap.size w w'))
           case atStart => exact ⟨(([] : List (List Int))), (0), (by first | rfl | (simp; done) | (simp [*]; done)), H', ⟨Nat.le_refl _⟩, ⟨by (try simp only [hl7_1]); (try simp only [hl7_2]); (with_reducible repeat (first | apply Kd.R_alloc | apply Kd.R_drewN | apply Kd.R_drew)); exact HO_7.out⟩, ⟨by (try simp only [hl7_1]); (try simp only [hl7_2]); first | exact Kd.S_nil _ _ _ _ _ | exact Kd.N_nil _ _ _ _ _ | exact Kd.V_nil _ _ _ _ _ | exact Kd.Q_nil _ _ _ _ _ | exact Kd.R_nil _ _ _ _ _⟩, ⟨by repeat (first | (with_reducible first | exact HB.out | apply below_alloc | apply pw_below_drewN | apply below_drew1) | exact HB.out)⟩⟩
           case round =>
            clear H'
            try clear c1
            try clear p1
            try clear q1
            try clear hx1
            try clear c2
            try clear p2
            try clear q2
            try clear hx2
            try clear hf2
            try clear c4
            try clear c4b0
            try clear c4b1
            try clear c5
            try clear c6
            try clear p6
            try clear q6
            try clear hx6
            try clear c7
            try clear c7b0
            try clear c7b1
            try clear c8
            try clear c8b0
            try clear c8b1
            try clear c12
            try clear c12b0
            try clear c13
            try clear c13b0
            try clear c14
            try clear c14b0
            try clear p15
            try clear q15
            try clear hx15
            try clear hf15
            try clear c18
            try clear c18b0
            try clear c19
            try clear c19b0
            try clear c20
            try clear c20b0
            try clear c21
            try clear c21b0
            try clear c22
            try clear c22b0
            try clear p23
            try clear q23
            try clear hx23
            try clear hf23
            try clear hx15_0
            try clear hx23_0
            try clear hx630_0
            try clear p1
            try clear p15
            try clear p2
            try clear p23
            try clear p6
            try clear p630
            try clear q1
            try clear q15
            try clear q23
            try clear q630
            obtain ⟨x11_3, x52_3, rfl, HA, HK3, HO_7, HO_11, HB⟩ := hrel
            cases gk with
            | zero => exact absurd HA.out (by simp [semigroupref14_Sub.l2])
            | succ k3 =>
             have H := HA.out
             clear HA
             simp only [semigroupref14_Sub.l2] at H
             by_cases c26 : x52_3 < (l1.length : Int)
             ·rw [if_pos c26] at H
              have c26b0 : decide (x52_3 < (l1.length : Int)) = true := decide_eq_true c26
              (try (have c26b0z := c26b0; simp only [hl7_1, hl7_2] at c26b0z))
              clear c26
              by_cases c27 : 0 ≤ x52_3
              ·rw [if_pos c27] at H
               have c27b0 : decide (0 ≤ x52_3) = true := decide_eq_true c27
               clear c27
               by_cases c28 : x52_3 < (l1.length : Int)
               ·rw [if_pos c28] at H
                have c28b0 : decide (x52_3 < (l1.length : Int)) = true := decide_eq_true c28
                (try (have c28b0z := c28b0; simp only [hl7_1, hl7_2] at c28b0z))
                clear c28
                have H' := Aside0.mk H
                clear H
                have p632 : 0 ≤ (x52_3 : Int) := of_decide_eq_true (by first | (with_reducible assumption) | assumption)
                have q632 : x52_3 < (l1.length : Int) := of_decide_eq_true (by first | (with_reducible assumption) | assumption)
                obtain ⟨ad632, e632, hx632_0⟩ := Kd.at_int HR1.out x52_3 p632 q632
                cases e632
                replace hx632_0 := (HB.out.cell (World.block_lt_of_cell? w _ hx632_0)).trans hx632_0
                replace p632 := eq_true p632
                replace q632 := eq_true q632
                go_wp2
                go_loopg [14, 58] k3 (fun kq v14 v58 w' => ∃ (x14_4 : List Int) (x58_4 : Int), v58 = .int .i64 x58_4 ∧ Aside0 (semigroupref14_Sub.l3 kq l0 l1 x7_2 x11_3 (rd l1 x52_3) x14_4 l1 (l1.length : Int) x52_3 l1 (l1.length : Int) x58_4 = some (r1, r2)) ∧ Aside0 (kq ≤ k3) ∧ Aside0 (Kd.R (Kd.int .i64) 3 w' w.heap.size (fun k_ => some k_ ≠ (v14 : Value).ownBlock) (.slice Ao11 x7_2.length co11) x7_2) ∧ Aside0 (Kd.S (Kd.slice 3 (Kd.int .i64)) 30 w' w.heap.size (fun k_ => some k_ ≠ ((.slice Ao11 x7_2.length co11) : Value).ownBlock ∧ some k_ ≠ (v14 : Value).ownBlock) u11 x11_3) ∧ Aside0 (Kd.R (Kd.int .i64) 3 w' w.heap.size (fun k_ => some k_ ≠ ((.slice Ao11 x7_2.length co11) : Value).ownBlock) v14 x14_4) ∧ Aside0 (Below w.heap.size w w'))
                case atStart => exact ⟨(([] : List Int)), (0), (by first | rfl | (simp; done) | (simp [*]; done)), H', ⟨Nat.le_refl _⟩, ⟨by (try simp only [hl7_1]); (try simp only [hl7_2]); (with_reducible repeat (first | apply Kd.R_alloc | apply Kd.R_drewN | apply Kd.R_drew)); exact Kd.R_mono HO_7.out (fun _ hk => (by simp [Value.ownBlock]))⟩, ⟨by (try simp only [hl7_1]); (try simp only [hl7_2]); (with_reducible repeat (first | apply Kd.S_alloc | apply Kd.S_drewN | apply Kd.S_drew)); exact Kd.S_mono HO_11.out (fun _ hk => ⟨hk, (by simp [Value.ownBlock])⟩)⟩, ⟨by (try simp only [hl7_1]); (try simp only [hl7_2]); first | exact Kd.R_nil _ _ _ _ _ | exact Kd.N_nil _ _ _ _ _ | exact Kd.V_nil _ _ _ _ _ | exact Kd.Q_nil _ _ _ _ _ | exact Kd.S_nil _ _ _ _ _⟩, ⟨by repeat (first | (with_reducible first | exact HB.out | apply below_alloc | apply pw_below_drewN | apply below_drew1) | exact HB.out)⟩⟩
                case round =>
                 clear H'
                 try clear c1
                 try clear p1
                 try clear q1
                 try clear hx1
                 try clear c2
                 try clear p2
                 try clear q2
                 try clear hx2
                 try clear hf2
                 try clear c4
                 try clear c4b0
                 try clear c4b1
                 try clear c5
                 try clear c6
                 try clear p6
                 try clear q6
                 try clear hx6
                 try clear c7
                 try clear c7b0
                 try clear c7b1
                 try clear c8
                 try clear c8b0
                 try clear c8b1
                 try clear c12
                 try clear c12b0
                 try clear c13
                 try clear c13b0
                 try clear c14
                 try clear c14b0
                 try clear p15
                 try clear q15
                 try clear hx15
                 try clear hf15
                 try clear c18
                 try clear c18b0
                 try clear c19
                 try clear c19b0
                 try clear c20
                 try clear c20b0
                 try clear c21
                 try clear c21b0
                 try clear c22
                 try clear c22b0
                 try clear p23
                 try clear q23
                 try clear hx23
                 try clear hf23
                 try clear c26
                 try clear c26b0
                 try clear c27
                 try clear c27b0
                 try clear c28
                 try clear c28b0
                 try clear hx15_0
                 try clear hx23_0
                 try clear hx630_0
                 try clear hx632_0
                 try clear p1
                 try clear p15
                 try clear p2
                 try clear p23
                 try clear p6
                 try clear p630
                 try clear p632
                 try clear q1
                 try clear q15
                 try clear q2
                 try clear q23
                 try clear q6
                 try clear q630
                 try clear q632
                 obtain ⟨x14_4, x58_4, rfl, HA, HK4, HO_7, HO_11, HO_14, HB⟩ := hrel
                 cases gk with
                 | zero => exact absurd HA.out (by simp [semigroupref14_Sub.l3])
                 | succ k4 =>
                  have H := HA.out
                  clear HA
                  simp only [semigroupref14_Sub.l3] at H
                  by_cases c29 : x58_4 < (l1.length : Int)
                  ·rw [if_pos c29] at H
                   have c29b0 : decide (x58_4 < (l1.length : Int)) = true := decide_eq_true c29
                   (try (have c29b0z := c29b0; simp only [hl7_1, hl7_2] at c29b0z))
                   clear c29
                   by_cases c30 : 0 ≤ x58_4
                   ·rw [if_pos c30] at H
                    have c30b0 : decide (0 ≤ x58_4) = true := decide_eq_true c30
                    clear c30
                    by_cases c31 : x58_4 < (l1.length : Int)
                    ·rw [if_pos c31] at H
                     have c31b0 : decide (x58_4 < (l1.length : Int)) = true := decide_eq_true c31
                     (try (have c31b0z := c31b0; simp only [hl7_1, hl7_2] at c31b0z))
                     clear c31
                     by_cases c32 : 0 ≤ (rd l1 x52_3)
                     ·rw [if_pos c32] at H
                      have c32b0 : decide (0 ≤ (rd l1 x52_3)) = true := decide_eq_true c32
                      clear c32
                      by_cases c33 : (rd l1 x52_3) < (l0.length : Int)
                      ·rw [if_pos c33] at H
                       have c33b0 : decide ((rd l1 x52_3) < (l0.length : Int)) = true := decide_eq_true c33
                       (try (have c33b0z := c33b0; simp only [hl7_1, hl7_2] at c33b0z))
                       clear c33
                       by_cases c34 : 0 ≤ (rd l1 x58_4)
                       ·rw [if_pos c34] at H
                        have c34b0 : decide (0 ≤ (rd l1 x58_4)) = true := decide_eq_true c34
                        clear c34
                        by_cases c35 : (rd l1 x58_4) < ((rd_L1 l0 (rd l1 x52_3)).length : Int)
                        ·rw [if_pos c35] at H
                         have c35b0 : decide ((rd l1 x58_4) < ((rd_L1 l0 (rd l1 x52_3)).length : Int)) = true := decide_eq_true c35
                         (try (have c35b0z := c35b0; simp only [hl7_1, hl7_2] at c35b0z))
                         clear c35
                         by_cases c36 : 0 ≤ (rd (rd_L1 l0 (rd l1 x52_3)) (rd l1 x58_4))
                         ·rw [if_pos c36] at H
                          have c36b0 : decide (0 ≤ (rd (rd_L1 l0 (rd l1 x52_3)) (rd l1 x58_4))) = true := decide_eq_true c36
                          clear c36
                          by_cases c37 : (rd (rd_L1 l0 (rd l1 x52_3)) (rd l1 x58_4)) < (x7_2.length : Int)
                          ·rw [if_pos c37] at H
                           have c37b0 : decide ((rd (rd_L1 l0 (rd l1 x52_3)) (rd l1 x58_4)) < (x7_2.length : Int)) = true := decide_eq_true c37
                           (try (have c37b0z := c37b0; simp only [hl7_1, hl7_2] at c37b0z))
                           clear c37
                           by_cases c38 : (rd x7_2 (rd (rd_L1 l0 (rd l1 x52_3)) (rd l1 x58_4))) < 0
                           ·rw [if_pos c38] at H
                            have c38b0 : decide ((rd x7_2 (rd (rd_L1 l0 (rd l1 x52_3)) (rd l1 x58_4))) < 0) = true := decide_eq_true c38
                            clear c38
                            simp only [Option.some.injEq, Prod.mk.injEq] at H
                            obtain ⟨rfl, rfl⟩ := H
                            have p633 : 0 ≤ (x58_4 : Int) := of_decide_eq_true (by first | (with_reducible assumption) | assumption)
                            have q633 : x58_4 < (l1.length : Int) := of_decide_eq_true (by first | (with_reducible assumption) | assumption)
                            obtain ⟨ad633, e633, hx633_0⟩ := Kd.at_int HR1.out x58_4 p633 q633
                            obtain rfl : ad632 = ad633 := (by injection e633)
                            replace hx633_0 := (HB.out.cell (World.block_lt_of_cell? w _ hx633_0)).trans hx633_0
                            replace p633 := eq_true p633
                            replace q633 := eq_true q633
                            have p634 : 0 ≤ ((rd l1 x52_3) : Int) := of_decide_eq_true (by first | (with_reducible assumption) | assumption)
                            have q634 : (rd l1 x52_3) < (l0.length : Int) := of_decide_eq_true (by first | (with_reducible assumption) | assumption)
                            obtain ⟨ad634, A634_0, c634_0, e634, hx634_0, hl634_0, hi634_0⟩ := at_L1 HR0.out (rd l1 x52_3) p634 q634
                            cases e634
                            replace hx634_0 := (HB.out.cell (World.block_lt_of_cell? w _ hx634_0)).trans hx634_0
                            have HR634_0 := Aside0.mk hi634_0
                            have HC634_0 := Aside0.mk hl634_0
                            (try clear hi634_0); (try clear hl634_0)
                            replace p634 := eq_true p634
                            replace q634 := eq_true q634
                            have p635 : 0 ≤ ((rd l1 x58_4) : Int) := of_decide_eq_true (by first | (with_reducible assumption) | assumption)
                            have q635 : (rd l1 x58_4) < ((rd_L1 l0 (rd l1 x52_3)).length : Int) := of_decide_eq_true (by first | (with_reducible assumption) | assumption)
                            obtain ⟨ad635, e635, hx635_0⟩ := Kd.at_int HR634_0.out (rd l1 x58_4) p635 q635
                            cases e635
                            replace hx635_0 := (HB.out.cell (World.block_lt_of_cell? w _ hx635_0)).trans hx635_0
                            replace p635 := eq_true p635
                            replace q635 := eq_true q635
                            have p636 : 0 ≤ ((rd (rd_L1 l0 (rd l1 x52_3)) (rd l1 x58_4)) : Int) := of_decide_eq_true (by first | (with_reducible assumption) | assumption)
                            have q636 : (rd (rd_L1 l0 (rd l1 x52_3)) (rd l1 x58_4)) < (x7_2.length : Int) := of_decide_eq_true (by first | (with_reducible assumption) | assumption)
                            obtain ⟨ad636, e636, hx636_0⟩ := Kd.at_int (Kd.R_reads' HO_7.out).2.2 (rd (rd_L1 l0 (rd l1 x52_3)) (rd l1 x58_4)) p636 q636
                            cases e636
                            replace p636 := eq_true p636
                            replace q636 := eq_true q636
                            go_wp2
                            go_ret2
                            exact ⟨_, by first | rfl | (simp [errW_none, errW_some] <;> rfl) | (simp [*, errW_none, errW_some] <;> rfl), by first | exact Kd.S_nil _ _ _ _ _ | exact Kd.N_nil _ _ _ _ _ | exact Kd.V_nil _ _ _ _ _ | exact Kd.Q_nil _ _ _ _ _ | exact Kd.R_nil _ _ _ _ _, by repeat (first | (with_reducible first | exact HB.out | apply below_alloc | apply pw_below_drewN | apply below_drew1) | exact HB.out)⟩
                           ·rw [if_neg c38] at H
                            have c38b0 : decide ((rd x7_2 (rd (rd_L1 l0 (rd l1 x52_3)) (rd l1 x58_4))) < 0) = false := decide_eq_false c38
                            clear c38
                            by_cases c39 : x14_4.length < 17592186044416
                            ·rw [if_pos c39] at H
                             have LMc39 := Aside0.mk c39
                             clear c39
                             obtain ⟨y640, hy640⟩ : ∃ y_ : List Int, y_ = (x14_4 ++ [rd x7_2 (rd (rd_L1 l0 (rd l1 x52_3)) (rd l1 x58_4))]) := ⟨_, rfl⟩
                             replace H : (semigroupref14_Sub.l3 k4 l0 l1 x7_2 x11_3 (rd l1 x52_3) y640 l1 (l1.length : Int) x52_3 l1 (l1.length : Int) (wrap64 (x58_4 + 1))) = some (r1, r2) := by first | (rw [hy640]; with_reducible exact H) | (have H2_ := (Option.bind_some _ _).symm.trans H; rw [hy640]; with_reducible exact H2_) | (have H2_ := (Option.bind_some _ _).symm.trans H; with_reducible exact H2_) | with_reducible exact H | (rw [hy640]; exact H) | exact H
                             have Ny640 := Aside0.mk hy640
                             clear hy640
                             have H' := Aside0.mk H
                             clear H
                             have p633 : 0 ≤ (x58_4 : Int) := of_decide_eq_true (by first | (with_reducible assumption) | assumption)
                             have q633 : x58_4 < (l1.length : Int) := of_decide_eq_true (by first | (with_reducible assumption) | assumption)
                             obtain ⟨ad633, e633, hx633_0⟩ := Kd.at_int HR1.out x58_4 p633 q633
                             obtain rfl : ad632 = ad633 := (by injection e633)
                             replace hx633_0 := (HB.out.cell (World.block_lt_of_cell? w _ hx633_0)).trans hx633_0
                             replace p633 := eq_true p633
                             replace q633 := eq_true q633
                             have p634 : 0 ≤ ((rd l1 x52_3) : Int) := of_decide_eq_true (by first | (with_reducible assumption) | assumption)
                             have q634 : (rd l1 x52_3) < (l0.length : Int) := of_decide_eq_true (by first | (with_reducible assumption) | assumption)
                             obtain ⟨ad634, A634_0, c634_0, e634, hx634_0, hl634_0, hi634_0⟩ := at_L1 HR0.out (rd l1 x52_3) p634 q634
                             cases e634
                             replace hx634_0 := (HB.out.cell (World.block_lt_of_cell? w _ hx634_0)).trans hx634_0
                             have HR634_0 := Aside0.mk hi634_0
                             have HC634_0 := Aside0.mk hl634_0
                             (try clear hi634_0); (try clear hl634_0)
                             replace p634 := eq_true p634
                             replace q634 := eq_true q634
                             have p635 : 0 ≤ ((rd l1 x58_4) : Int) := of_decide_eq_true (by first | (with_reducible assumption) | assumption)
                             have q635 : (rd l1 x58_4) < ((rd_L1 l0 (rd l1 x52_3)).length : Int) := of_decide_eq_true (by first | (with_reducible assumption) | assumption)
                             obtain ⟨ad635, e635, hx635_0⟩ := Kd.at_int HR634_0.out (rd l1 x58_4) p635 q635
                             cases e635
                             replace hx635_0 := (HB.out.cell (World.block_lt_of_cell? w _ hx635_0)).trans hx635_0
                             replace p635 := eq_true p635
                             replace q635 := eq_true q635
                             have p636 : 0 ≤ ((rd (rd_L1 l0 (rd l1 x52_3)) (rd l1 x58_4)) : Int) := of_decide_eq_true (by first | (with_reducible assumption) | assumption)
                             have q636 : (rd (rd_L1 l0 (rd l1 x52_3)) (rd l1 x58_4)) < (x7_2.length : Int) := of_decide_eq_true (by first | (with_reducible assumption) | assumption)
                             obtain ⟨ad636, e636, hx636_0⟩ := Kd.at_int (Kd.R_reads' HO_7.out).2.2 (rd (rd_L1 l0 (rd l1 x52_3)) (rd l1 x58_4)) p636 q636
                             cases e636
                             replace p636 := eq_true p636
                             replace q636 := eq_true q636
                             have p637 : 0 ≤ ((rd l1 x52_3) : Int) := of_decide_eq_true (by first | (with_reducible assumption) | assumption)
                             have q637 : (rd l1 x52_3) < (l0.length : Int) := of_decide_eq_true (by first | (with_reducible assumption) | assumption)
                             obtain ⟨ad637, A637_0, c637_0, e637, hx637_0, hl637_0, hi637_0⟩ := at_L1 HR0.out (rd l1 x52_3) p637 q637
                             obtain rfl : ad634 = ad637 := (by injection e637)
                             replace hx637_0 := (HB.out.cell (World.block_lt_of_cell? w _ hx637_0)).trans hx637_0
                             have HR637_0 := Aside0.mk hi637_0
                             have HC637_0 := Aside0.mk hl637_0
                             (try clear hi637_0); (try clear hl637_0)
                             replace p637 := eq_true p637
                             replace q637 := eq_true q637
                             have ea_ := Option.some.inj (hx634_0.symm.trans hx637_0)
                             injection ea_ with ea_ en_ ec_
                             subst ea_
                             subst ec_
                             clear en_
                             have p638 : 0 ≤ ((rd l1 x58_4) : Int) := of_decide_eq_true (by first | (with_reducible assumption) | assumption)
                             have q638 : (rd l1 x58_4) < ((rd_L1 l0 (rd l1 x52_3)).length : Int) := of_decide_eq_true (by first | (with_reducible assumption) | assumption)
                             obtain ⟨ad638, e638, hx638_0⟩ := Kd.at_int HR637_0.out (rd l1 x58_4) p638 q638
                             cases e638
                             replace hx638_0 := (HB.out.cell (World.block_lt_of_cell? w _ hx638_0)).trans hx638_0
                             replace p638 := eq_true p638
                             replace q638 := eq_true q638
                             have p639 : 0 ≤ ((rd (rd_L1 l0 (rd l1 x52_3)) (rd l1 x58_4)) : Int) := of_decide_eq_true (by first | (with_reducible assumption) | assumption)
                             have q639 : (rd (rd_L1 l0 (rd l1 x52_3)) (rd l1 x58_4)) < (x7_2.length : Int) := of_decide_eq_true (by first | (with_reducible assumption) | assumption)
                             obtain ⟨ad639, e639, hx639_0⟩ := Kd.at_int (Kd.R_reads' HO_7.out).2.2 (rd (rd_L1 l0 (rd l1 x52_3)) (rd l1 x58_4)) p639 q639
                             obtain rfl : ad636 = ad639 := (by injection e639)
                             replace p639 := eq_true p639
                             replace q639 := eq_true q639
                             go_wp2_with (first | ((with_reducible refine gate_builtin (b := .append) (xs := #[.tmp 73, .tmp 84]) rfl ?_); at_builtin; refine Kd.R_append (Kd.int .i64) (w0 := w) w.heap.size rfl (.tmp 73) (.tmp 84) 30 3 (.int .i64 0) 8 rfl Try.underlying30 info3 rfl (by decide) (by omega) u14 x14_4 (rd x7_2 (rd (rd_L1 l0 (rd l1 x52_3)) (rd l1 x58_4))) [.int .i64 (rd x7_2 (rd (rd_L1 l0 (rd l1 x52_3)) (rd l1 x58_4)))] (fun k_ => some k_ ≠ (.slice (some ad636) x7_2.length co11 : Value).ownBlock) (fun _ => False) rfl rfl ?aP (fun _ hk => hk.elim) ?aF ?aO ?aB ?aS ?aL ?_; (case aP => exact rfl); (case aB => exact (by repeat (first | (with_reducible first | exact HB.out | apply below_alloc | apply pw_below_drewN | apply below_drew1) | exact HB.out))); (case aF => exact (fun k_ hk => Kd.fresh' (Kd.R_lt (by (with_reducible repeat (first | apply Kd.R_alloc | apply Kd.R_drewN | apply Kd.R_drew)); exact HO_7.out)) k_ hk)); (case aO => exact (by (with_reducible repeat (first | apply Kd.R_alloc | apply Kd.R_drewN | apply Kd.R_drew)); exact HO_14.out)); (case aS => exact (below_size (by repeat (first | (with_reducible first | exact HB.out | apply below_alloc | apply pw_below_drewN | apply below_drew1) | exact HB.out)))); (case aL => have := LMc39.out; omega); intro v641 w40 ho hb hg hat; rw [← Ny640.out] at ho; have n0_ := Aside0.mk (Kd.R_after (ok := (fun _ => True)) (by (with_reducible repeat (first | apply Kd.R_alloc | apply Kd.R_drewN | apply Kd.R_drew)); exact Kd.R_mono HO_7.out (fun _ hk => ⟨trivial, hk⟩)) hg hat); have n1_ := Aside0.mk (Kd.S_after (ok := (fun k_ => some k_ ≠ (.slice (some ad636) x7_2.length co11 : Value).ownBlock)) (by (with_reducible repeat (first | apply Kd.S_alloc | apply Kd.S_drewN | apply Kd.S_drew)); exact HO_11.out) hg hat); have n2_ := Aside0.mk (hb); have n3_ := Aside0.mk (ho); clear HO_7; clear HO_11; clear HB; clear HO_14; have HO_7 := n0_; have HO_11 := n1_; have HB := n2_; have HO642 := n3_; clear n0_ n1_ n2_ n3_; (try clear ho); (try clear hb); (try clear hg); (try clear hat)))
                             go_roundg k4
                             case measure => have := HK1.out; have := HK2.out; have := HK3.out; have := HK4.out; omega
                             case rel => exact ⟨(y640), (wrap64 (x58_4 + 1)), (by first | rfl | (simp; done) | (simp [*]; done)), H', ⟨by have := HK1.out; have := HK2.out; have := HK3.out; have := HK4.out; omega⟩, ⟨by (try simp only [hl7_1]); (try simp only [hl7_2]); (with_reducible repeat (first | apply Kd.R_alloc | apply Kd.R_drewN | apply Kd.R_drew)); exact Kd.R_mono HO_7.out (fun _ hk => hk.2)⟩, ⟨by (try simp only [hl7_1]); (try simp only [hl7_2]); (with_reducible repeat (first | apply Kd.S_alloc | apply Kd.S_drewN | apply Kd.S_drew)); exact HO_11.out⟩, ⟨by (try simp only [hl7_1]); (try simp only [hl7_2]); (with_reducible repeat (first | apply Kd.R_alloc | apply Kd.R_drewN | apply Kd.R_drew)); exact HO642.out⟩, ⟨by repeat (first | (with_reducible first | exact HB.out | apply below_alloc | apply pw_below_drewN | apply below_drew1) | exact HB.out)⟩⟩
                            ·rw [if_neg c39] at H
                             exact absurd H (by simp)
                          ·rw [if_neg c37] at H
                           exact absurd H (by simp)
                         ·rw [if_neg c36] at H
                          exact absurd H (by simp)
                        ·rw [if_neg c35] at H
                         exact absurd H (by simp)
                       ·rw [if_neg c34] at H
                        exact absurd H (by simp)
                      ·rw [if_neg c33] at H
                       exact absurd H (by simp)
                     ·rw [if_neg c32] at H
                      exact absurd H (by simp)
                    ·rw [if_neg c31] at H
                     exact absurd H (by simp)
                   ·rw [if_neg c30] at H
                    exact absurd H (by simp)
                  ·rw [if_neg c29] at H
                   have c29b0 : decide (x58_4 < (l1.length : Int)) = false := decide_eq_false c29
                   (try (have c29b0z := c29b0; simp only [hl7_1, hl7_2] at c29b0z))
                   clear c29
                   by_cases c41 : x11_3.length < 5864062014805
                   ·rw [if_pos c41] at H
                    have LMc41 := Aside0.mk c41
                    clear c41
                    obtain ⟨y643, hy643⟩ : ∃ y_ : List (List Int), y_ = (x11_3 ++ [x14_4]) := ⟨_, rfl⟩
                    replace H : (semigroupref14_Sub.l2 k4 l0 l1 x7_2 y643 l1 (l1.length : Int) (wrap64 (x52_3 + 1))) = some (r1, r2) := by first | (rw [hy643]; with_reducible exact H) | (have H2_ := (Option.bind_some _ _).symm.trans H; rw [hy643]; with_reducible exact H2_) | (have H2_ := (Option.bind_some _ _).symm.trans H; with_reducible exact H2_) | with_reducible exact H | (rw [hy643]; exact H) | exact H
                    have Ny643 := Aside0.mk hy643
                    clear hy643
                    have H' := Aside0.mk H
                    clear H
                    obtain ⟨Ao43, co43, eo43⟩ := Kd.R_slice HO_14.out
                    subst eo43
                    go_wp2_with (first | ((with_reducible refine gate_builtin (b := .append) (xs := #[.tmp 87, .tmp 89]) rfl ?_); at_builtin; refine Kd.S_append (Kd.slice 3 (Kd.int .i64)) (w0 := w) w.heap.size rfl (.tmp 87) (.tmp 89) 22 30 (.slice none 0 0) 24 rfl Try.underlying22 info30 rfl (by decide) (by omega) u11 x11_3 x14_4 [.slice Ao43 x14_4.length co43] (fun k_ => some k_ ≠ (.slice Ao11 x7_2.length co11 : Value).ownBlock) (fun k_ => some k_ = (.slice Ao43 x14_4.length co43 : Value).ownBlock) rfl rfl ?aP (fun k_ hk_ => ((Kd.R_mono (ok' := fun k_ => ((fun k_ => some k_ ≠ (.slice Ao11 x7_2.length co11 : Value).ownBlock)) k_ ∧ some k_ ≠ (u11 : Value).ownBlock) (Kd.R_apart' (HO_14.out) (Kd.S_typed HO_11.out) (by decide)) (fun k_ hk => ⟨hk.1, hk.2⟩))).1 k_ hk_.symm) ?aF ?aO ?aB ?aS ?aL ?_; (case aP => exact Kd.M_row (Kd.R_mono (Kd.R_tight rfl (Kd.R_mono (ok' := fun k_ => ((fun k_ => some k_ ≠ (.slice Ao11 x7_2.length co11 : Value).ownBlock)) k_ ∧ some k_ ≠ (u11 : Value).ownBlock) (Kd.R_apart' (HO_14.out) (Kd.S_typed HO_11.out) (by decide)) (fun k_ hk => ⟨hk.1, hk.2⟩))) (fun _ h_ => h_))); (case aB => exact (by repeat (first | (with_reducible first | exact HB.out | apply below_alloc | apply pw_below_drewN | apply below_drew1) | exact HB.out))); (case aF => exact (fun k_ hk => Kd.fresh' (Kd.R_lt (by (with_reducible repeat (first | apply Kd.R_alloc | apply Kd.R_drewN | apply Kd.R_drew)); exact HO_7.out)) k_ hk)); (case aO => exact (by (with_reducible repeat (first | apply Kd.S_alloc | apply Kd.S_drewN | apply Kd.S_drew)); exact Kd.S_mono HO_11.out (fun k_ hk => ⟨hk.1, fun e_ => hk.2 e_⟩))); (case aS => exact (below_size (by repeat (first | (with_reducible first | exact HB.out | apply below_alloc | apply pw_below_drewN | apply below_drew1) | exact HB.out)))); (case aL => have := LMc41.out; omega); intro v644 w42 ho hb hg hat; rw [← Ny643.out] at ho; have n0_ := Aside0.mk (Kd.R_over' (by (with_reducible repeat (first | apply Kd.R_alloc | apply Kd.R_drewN | apply Kd.R_drew)); exact HO_7.out) (Kd.S_typed (by (with_reducible repeat (first | apply Kd.S_alloc | apply Kd.S_drewN | apply Kd.S_drew)); exact HO_11.out)) (by decide) hg); have n1_ := Aside0.mk (hb); have n2_ := Aside0.mk (ho); clear HO_7; clear HB; clear HO_11; clear HO_14; have HO_7 := n0_; have HB := n1_; have HO645 := n2_; clear n0_ n1_ n2_; (try clear ho); (try clear hb); (try clear hg); (try clear hat)))
                    go_roundg k4
                    case measure => have := HK1.out; have := HK2.out; have := HK3.out; have := HK4.out; omega
                    case rel => exact ⟨(y643), (wrap64 (x52_3 + 1)), (by first | rfl | (simp; done) | (simp [*]; done)), H', ⟨by have := HK1.out; have := HK2.out; have := HK3.out; have := HK4.out; omega⟩, ⟨by (try simp only [hl7_1]); (try simp only [hl7_2]); (with_reducible repeat (first | apply Kd.R_alloc | apply Kd.R_drewN | apply Kd.R_drew)); exact Kd.R_mono HO_7.out (fun _ hk => trivial)⟩, ⟨by (try simp only [hl7_1]); (try simp only [hl7_2]); (with_reducible repeat (first | apply Kd.S_alloc | apply Kd.S_drewN | apply Kd.S_drew)); exact HO645.out⟩, ⟨by repeat (first | (with_reducible first | exact HB.out | apply below_alloc | apply pw_below_drewN | apply below_drew1) | exact HB.out)⟩⟩
                   ·rw [if_neg c41] at H
                    exact absurd H (by simp)
               ·rw [if_neg c28] at H
                exact absurd H (by simp)
              ·rw [if_neg c27] at H
               exact absurd H (by simp)
             ·rw [if_neg c26] at H
              have c26b0 : decide (x52_3 < (l1.length : Int)) = false := decide_eq_false c26
              (try (have c26b0z := c26b0; simp only [hl7_1, hl7_2] at c26b0z))
              clear c26
              simp only [Option.some.injEq, Prod.mk.injEq] at H
              obtain ⟨rfl, rfl⟩ := H
              go_wp2
              go_ret2
              exact ⟨_, by first | rfl | (simp [errW_none, errW_some] <;> rfl) | (simp [*, errW_none, errW_some] <;> rfl), by (with_reducible repeat (first | apply Kd.S_alloc | apply Kd.S_drewN | apply Kd.S_drew)); exact Kd.S_mono HO_11.out (fun _ hk => trivial), by repeat (first | (with_reducible first | exact HB.out | apply below_alloc | apply pw_below_drewN | apply below_drew1) | exact HB.out)⟩
    ·rw [if_neg c8] at H
     exact absurd H (by simp)
   ·rw [if_neg c7] at H
    exact absurd H (by simp)
  ·replace c6 := Bool.eq_false_iff.mpr c6
   subst c6
   have H1 : (some (([] : List (List Int)), 1)) = some (r1, r2) := by rw [if_neg (show ¬ (false = true) by decide)] at H; exact H
   clear H
   have H := H1
   clear H1
   simp only [Option.some.injEq, Prod.mk.injEq] at H
   obtain ⟨rfl, rfl⟩ := H
   go_enter Try.func53, Try.ntmps53
   go_wp2_with (first | ((with_reducible refine gate_callee (f := 65) rfl ?_); refine goesL_ (some 18) rfl rfl Try.func65 (by kernel_rfl) rfl #[.slice A0 l0.length c0] rfl (by (try simp only [List.map_toArray, List.map_cons, List.map_nil]); first | done | rfl | (simp only [List.length_drop, List.length_take]; rfl)) ?_; (with_reducible refine (semigroupref14_Validate.calls k _ _ l0 t624 _ ?side1 ?side2 A3.out).mono ?_); (case side1 => repeat (first | exact HR0.out | (with_reducible refine Kd.C_alloc ?_ _) | (with_reducible refine Kd.C_drewN ?_ _) | (with_reducible refine Kd.C_drew ?_))); (case side2 => exact HC0.out); rintro e w' ⟨rfl, ⟨nd, rfl⟩⟩; refine ⟨_, rfl, ?_⟩) | ((with_reducible refine gate_callee (f := 75) rfl ?_); refine goesL_ (some 24) rfl rfl Try.func75 (by kernel_rfl) rfl #[.slice A0 l0.length c0, .slice A1 l1.length c1] rfl (by (try simp only [List.map_toArray, List.map_cons, List.map_nil]); first | done | rfl | (simp only [List.length_drop, List.length_take]; rfl)) ?_; (with_reducible refine (semigroupref14_Ascending.calls k _ _ l0 _ _ l1 false _ ?side1 ?side2 ?side3 ?side4 A5.out).mono ?_); (case side1 => repeat (first | exact HR0.out | (with_reducible refine Kd.C_alloc ?_ _) | (with_reducible refine Kd.C_drewN ?_ _) | (with_reducible refine Kd.C_drew ?_))); (case side2 => exact HC0.out); (case side3 => repeat (first | exact HR1.out | (with_reducible refine Kd.C_alloc ?_ _) | (with_reducible refine Kd.C_drewN ?_ _) | (with_reducible refine Kd.C_drew ?_))); (case side4 => exact HC1.out); rintro e w' ⟨rfl, ⟨nd, rfl⟩⟩; refine ⟨_, rfl, ?_⟩))
   go_ret2
   exact ⟨_, by first | rfl | (simp [errW_none, errW_some] <;> rfl) | (simp [*, errW_none, errW_some] <;> rfl), by first | exact Kd.S_nil _ _ _ _ _ | exact Kd.N_nil _ _ _ _ _ | exact Kd.V_nil _ _ _ _ _ | exact Kd.Q_nil _ _ _ _ _ | exact Kd.R_nil _ _ _ _ _, by repeat (first | (with_reducible first | exact HB.out | apply below_alloc | apply pw_below_drewN | apply below_drew1) | exact HB.out)⟩
 ·rw [if_neg c4] at H
  have c4b0 : (t624 == 0) = false := beq_eq_false_iff_ne.mpr c4
  have c4b1 : (t624 != 0) = true := bne_iff_ne.mpr c4
  simp only [Option.some.injEq, Prod.mk.injEq] at H
  obtain ⟨rfl, rfl⟩ := H
  go_enter Try.func53, Try.ntmps53
  go_wp2_with (first | ((with_reducible refine gate_callee (f := 65) rfl ?_); refine goesL_ (some 18) rfl rfl Try.func65 (by kernel_rfl) rfl #[.slice A0 l0.length c0] rfl (by (try simp only [List.map_toArray, List.map_cons, List.map_nil]); first | done | rfl | (simp only [List.length_drop, List.length_take]; rfl)) ?_; (with_reducible refine (semigroupref14_Validate.calls k _ _ l0 t624 _ ?side1 ?side2 A3.out).mono ?_); (case side1 => repeat (first | exact HR0.out | (with_reducible refine Kd.C_alloc ?_ _) | (with_reducible refine Kd.C_drewN ?_ _) | (with_reducible refine Kd.C_drew ?_))); (case side2 => exact HC0.out); rintro e w' ⟨rfl, ⟨nd, rfl⟩⟩; refine ⟨_, rfl, ?_⟩))
  go_ret2
  exact ⟨_, by first | rfl | (simp [errW_none, errW_some] <;> rfl) | (simp [*, errW_none, errW_some] <;> rfl), by first | exact Kd.S_nil _ _ _ _ _ | exact Kd.N_nil _ _ _ _ _ | exact Kd.V_nil _ _ _ _ _ | exact Kd.Q_nil _ _ _ _ _ | exact Kd.R_nil _ _ _ _ _, by repeat (first | (with_reducible first | exact HB.out | apply below_alloc | apply pw_below_drewN | apply below_drew1) | exact HB.out)⟩


end Go.Proofs.Ytlhckcldeojfmaa.PAll
