-- printed for this claim by printall.sh out of the translation; Lean checks it
import Derived.Test.YtlhckcldeojfmaaPAllx0
import Derived.Test.YtlhckcldeojfmaaPAllx3
import Derived.Test.YtlhckcldeojfmaaPAllx5
import Derived.Test.YtlhckcldeojfmaaPAllx6
namespace Go.Proofs.Ytlhckcldeojfmaa.PAll
open Go.RowKit Go.Proofs.YtlhckcldeojfmaaW.PrintWords Go.Proofs.YtlhckcldeojfmaaW.PrintLast Go.Proofs.YtlhckcldeojfmaaW.PrintMore
attribute [local go_sem] max2_int min2_int max_two min_two max_three min_three max_four min_four   -- for this text's walks alone
set_option linter.unusedVariables false
set_option linter.unusedSimpArgs false

/-! ### semigroupref14_IndexPeriod: function 33 -/
def semigroupref14_IndexPeriod.f (k : Nat) (l0 : List (List Int)) (a1 : Int) : Option (Int × Int) := (semigroupref14_Powers.f k l0 a1).bind fun bt246 => (some (wrap64 (bt246.2 + 1), wrap64 ((bt246.1.length : Int) - bt246.2)))
theorem semigroupref14_IndexPeriod.mono : ∀ a0 a1 k, LeO (semigroupref14_IndexPeriod.f k a0 a1) (semigroupref14_IndexPeriod.f (k + 1) a0 a1) := by
  intro a0 a1 k
  unfold semigroupref14_IndexPeriod.f
  repeat' first
      | (with_reducible exact semigroupref14_Powers.mono _ _ _)
      | (with_reducible exact LeO.refl _)
      | (with_reducible exact LeO.none _)
      | (with_reducible refine LeO.ite ?_ ?_)
      | (with_reducible refine LeO.bind ?_ (fun _ => ?_))
      | exact semigroupref14_Powers.mono _ _ _
      | exact LeO.none _
      | refine LeO.ite ?_ ?_
      | refine LeO.bind ?_ (fun _ => ?_)
set_option maxHeartbeats 8000000 in
set_option maxRecDepth 100000 in
theorem semigroupref14_IndexPeriod.calls (k : Nat) (A0 : Option Addr) (c0 : Nat) (l0 : List (List Int)) (a1 : Int) (r1 : Int) (r2 : Int) (w : World) (hr0 : Kd.C (Kd.slice 3 (Kd.int .i64)) w A0 l0.length l0) (hc0 : l0.length ≤ c0) (h : semigroupref14_IndexPeriod.f k l0 a1 = some (r1, r2)) :
    Calls Try.prog 33 #[.slice A0 l0.length c0, .int .i64 a1] w fun e w' => e = .returned (.tuple #[.int .i64 r1, .int .i64 r2]) ∧ Below w.heap.size w w' := by
  have HR0 := Aside0.mk hr0
  have HC0 := Aside0.mk hc0
  (try clear hr0); (try clear hc0)
  have HB := Aside0.mk (Below.refl w.heap.size w)
  have H : ((semigroupref14_Powers.f k l0 a1).bind fun bt246 => (some (wrap64 (bt246.2 + 1), wrap64 ((bt246.1.length : Int) - bt246.2)))) = some (r1, r2) := h
  clear h
  replace H := Option.bind_eq_some_iff.mp H
  obtain ⟨⟨t246, t247⟩, A30, H⟩ := H
  replace H : (some (wrap64 (t247 + 1), wrap64 ((t246.length : Int) - t247))) = some (r1, r2) := H
  have A3 := Aside0.mk A30
  clear A30
  simp only [Option.some.injEq, Prod.mk.injEq] at H
  obtain ⟨rfl, rfl⟩ := H
  go_enter Try.func33, Try.ntmps33
  go_wp2_with (first | ((with_reducible refine gate_callee (f := 68) rfl ?_); refine goesL_ (some 11) rfl rfl Try.func68 (by kernel_rfl) rfl #[.slice A0 l0.length c0, .int .i64 a1] rfl (by (try simp only [List.map_toArray, List.map_cons, List.map_nil]); first | done | rfl | (simp only [List.length_drop, List.length_take]; rfl)) ?_; (with_reducible refine (semigroupref14_Powers.calls k _ _ l0 a1 t246 t247 _ ?side1 ?side2 A3.out).mono ?_); (case side1 => repeat (first | exact HR0.out | (with_reducible refine Kd.C_alloc ?_ _) | (with_reducible refine Kd.C_drewN ?_ _) | (with_reducible refine Kd.C_drew ?_))); (case side2 => exact HC0.out); rintro e w4 ⟨v248, rfl, ho0, hb⟩; refine ⟨_, rfl, ?_⟩; have n0_ := Aside0.mk (Kd.R_lower ho0 (below_size (by repeat (first | (with_reducible first | exact HB.out | apply below_alloc | apply pw_below_drewN | apply below_drew1) | exact HB.out)))); have n1_ := Aside0.mk (below_step (by repeat (first | (with_reducible first | exact HB.out | apply below_alloc | apply pw_below_drewN | apply below_drew1) | exact HB.out)) hb); clear HB; have HO249 := n0_; have HB := n1_; clear n0_ n1_; (try clear hb); (try clear hb2); (try clear hk); (try clear hi); (try clear ho0); obtain ⟨Ao5, co5, eo5⟩ := Kd.R_slice HO249.out; subst eo5))
  go_ret2
  exact ⟨by first | rfl | (simp [errW_none, errW_some] <;> rfl) | (simp [*, errW_none, errW_some] <;> rfl), by repeat (first | (with_reducible first | exact HB.out | apply below_alloc | apply pw_below_drewN | apply below_drew1) | exact HB.out)⟩

/-! ### semigroupref14_Omega: function 34 -/
def semigroupref14_Omega.l0 : Nat → List (List Int) → List Int → Int → Int → Option (Int)
  | 0, _, _, _, _ => none
  | k + 1, x0, x15, x16, x17 => if x17 < x16 then (if 0 ≤ x17 then (if x17 < (x15.length : Int) then (if 0 ≤ (rd x15 x17) then (if (rd x15 x17) < (x0.length : Int) then (if (rd x15 x17) < ((rd_L1 x0 (rd x15 x17)).length : Int) then (if (rd (rd_L1 x0 (rd x15 x17)) (rd x15 x17)) = (rd x15 x17) then (some (rd x15 x17)) else (semigroupref14_Omega.l0 k x0 x15 x16 (wrap64 (x17 + 1)))) else (none)) else (none)) else (none)) else (none)) else (none)) else (some (-1))
def semigroupref14_Omega.f (k : Nat) (l0 : List (List Int)) (a1 : Int) : Option (Int) := (semigroupref14_Powers.f k l0 a1).bind fun bt250 => (semigroupref14_Omega.l0 k l0 bt250.1 (bt250.1.length : Int) 0)
theorem semigroupref14_Omega.mono_l : ∀ k, (∀ y0 y1 y2 y3, LeO (semigroupref14_Omega.l0 k y0 y1 y2 y3) (semigroupref14_Omega.l0 (k + 1) y0 y1 y2 y3))
  | 0 => fun _ _ _ _ r h => by simp [semigroupref14_Omega.l0] at h
  | k + 1 => by
    have ih0 := semigroupref14_Omega.mono_l k
    · intro y0 y1 y2 y3
      unfold semigroupref14_Omega.l0
      repeat' first
      | (with_reducible exact ih0 _ _ _ _)
      | (with_reducible exact semigroupref14_Powers.mono _ _ _)
      | (with_reducible exact LeO.refl _)
      | (with_reducible exact LeO.none _)
      | (with_reducible refine LeO.ite ?_ ?_)
      | (with_reducible refine LeO.bind ?_ (fun _ => ?_))
      | exact ih0 _ _ _ _
      | exact semigroupref14_Powers.mono _ _ _
      | exact LeO.none _
      | refine LeO.ite ?_ ?_
      | refine LeO.bind ?_ (fun _ => ?_)
theorem semigroupref14_Omega.mono : ∀ a0 a1 k, LeO (semigroupref14_Omega.f k a0 a1) (semigroupref14_Omega.f (k + 1) a0 a1) := by
  intro a0 a1 k
  have ih0 := semigroupref14_Omega.mono_l k
  unfold semigroupref14_Omega.f
  repeat' first
      | (with_reducible exact ih0 _ _ _ _)
      | (with_reducible exact semigroupref14_Powers.mono _ _ _)
      | (with_reducible exact LeO.refl _)
      | (with_reducible exact LeO.none _)
      | (with_reducible refine LeO.ite ?_ ?_)
      | (with_reducible refine LeO.bind ?_ (fun _ => ?_))
      | exact ih0 _ _ _ _
      | exact semigroupref14_Powers.mono _ _ _
      | exact LeO.none _
      | refine LeO.ite ?_ ?_
      | refine LeO.bind ?_ (fun _ => ?_)
set_option maxHeartbeats 8000000 in
set_option maxRecDepth 100000 in
theorem semigroupref14_Omega.calls (k : Nat) (A0 : Option Addr) (c0 : Nat) (l0 : List (List Int)) (a1 : Int) (r : Int) (w : World) (hr0 : Kd.C (Kd.slice 3 (Kd.int .i64)) w A0 l0.length l0) (hc0 : l0.length ≤ c0) (h : semigroupref14_Omega.f k l0 a1 = some r) :
    Calls Try.prog 34 #[.slice A0 l0.length c0, .int .i64 a1] w fun e w' => e = .returned (.int .i64 r) ∧ Below w.heap.size w w' := by
  have HR0 := Aside0.mk hr0
  have HC0 := Aside0.mk hc0
  (try clear hr0); (try clear hc0)
  have HB := Aside0.mk (Below.refl w.heap.size w)
  have H : ((semigroupref14_Powers.f k l0 a1).bind fun bt250 => (semigroupref14_Omega.l0 k l0 bt250.1 (bt250.1.length : Int) 0)) = some r := h
  clear h
  replace H := Option.bind_eq_some_iff.mp H
  obtain ⟨⟨t250, t251⟩, A30, H⟩ := H
  replace H : (semigroupref14_Omega.l0 k l0 t250 (t250.length : Int) 0) = some r := H
  have A3 := Aside0.mk A30
  clear A30
  have H' := Aside0.mk H
  clear H
  go_enter Try.func34, Try.ntmps34
  go_wp2_with (first | ((with_reducible refine gate_callee (f := 68) rfl ?_); refine goesL_ (some 12) rfl rfl Try.func68 (by kernel_rfl) rfl #[.slice A0 l0.length c0, .int .i64 a1] rfl (by (try simp only [List.map_toArray, List.map_cons, List.map_nil]); first | done | rfl | (simp only [List.length_drop, List.length_take]; rfl)) ?_; (with_reducible refine (semigroupref14_Powers.calls k _ _ l0 a1 t250 t251 _ ?side1 ?side2 A3.out).mono ?_); (case side1 => repeat (first | exact HR0.out | (with_reducible refine Kd.C_alloc ?_ _) | (with_reducible refine Kd.C_drewN ?_ _) | (with_reducible refine Kd.C_drew ?_))); (case side2 => exact HC0.out); rintro e w4 ⟨v252, rfl, ho0, hb⟩; refine ⟨_, rfl, ?_⟩; have n0_ := Aside0.mk (Kd.R_lower ho0 (below_size (by repeat (first | (with_reducible first | exact HB.out | apply below_alloc | apply pw_below_drewN | apply below_drew1) | exact HB.out)))); have n1_ := Aside0.mk (below_step (by repeat (first | (with_reducible first | exact HB.out | apply below_alloc | apply pw_below_drewN | apply below_drew1) | exact HB.out)) hb); clear HB; have HO253 := n0_; have HB := n1_; clear n0_ n1_; (try clear hb); (try clear hb2); (try clear hk); (try clear hi); (try clear ho0); obtain ⟨Ao5, co5, eo5⟩ := Kd.R_slice HO253.out; subst eo5))
  go_loopg [17] k (fun kq v17 w' => ∃ (x17_1 : Int), v17 = .int .i64 x17_1 ∧ Aside0 (semigroupref14_Omega.l0 kq l0 t250 (t250.length : Int) x17_1 = some r) ∧ Aside0 (kq ≤ k) ∧ Aside0 (Kd.R (Kd.int .i64) 3 w' w.heap.size (fun _ => True) (.slice Ao5 t250.length co5) t250) ∧ Aside0 (Below w.heap.size w w'))
  case atStart => exact ⟨(0), (by first | rfl | (simp; done) | (simp [*]; done)), H', ⟨Nat.le_refl _⟩, ⟨by (with_reducible repeat (first | apply Kd.R_alloc | apply Kd.R_drewN | apply Kd.R_drew)); exact HO253.out⟩, ⟨by repeat (first | (with_reducible first | exact HB.out | apply below_alloc | apply pw_below_drewN | apply below_drew1) | exact HB.out)⟩⟩
  case round =>
    clear H'
    try clear p2
    try clear c3
    obtain ⟨x17_1, rfl, HA, HK1, HO_15, HB⟩ := hrel
    cases gk with
    | zero => exact absurd HA.out (by simp [semigroupref14_Omega.l0])
    | succ k1 =>
      have H := HA.out
      clear HA
      simp only [semigroupref14_Omega.l0] at H
      by_cases c6 : x17_1 < (t250.length : Int)
      · rw [if_pos c6] at H
        have c6b0 : decide (x17_1 < (t250.length : Int)) = true := decide_eq_true c6
        clear c6
        by_cases c7 : 0 ≤ x17_1
        · rw [if_pos c7] at H
          have c7b0 : decide (0 ≤ x17_1) = true := decide_eq_true c7
          clear c7
          by_cases c8 : x17_1 < (t250.length : Int)
          · rw [if_pos c8] at H
            have c8b0 : decide (x17_1 < (t250.length : Int)) = true := decide_eq_true c8
            clear c8
            by_cases c9 : 0 ≤ (rd t250 x17_1)
            · rw [if_pos c9] at H
              have c9b0 : decide (0 ≤ (rd t250 x17_1)) = true := decide_eq_true c9
              clear c9
              by_cases c10 : (rd t250 x17_1) < (l0.length : Int)
              · rw [if_pos c10] at H
                have c10b0 : decide ((rd t250 x17_1) < (l0.length : Int)) = true := decide_eq_true c10
                clear c10
                by_cases c11 : (rd t250 x17_1) < ((rd_L1 l0 (rd t250 x17_1)).length : Int)
                · rw [if_pos c11] at H
                  have c11b0 : decide ((rd t250 x17_1) < ((rd_L1 l0 (rd t250 x17_1)).length : Int)) = true := decide_eq_true c11
                  clear c11
                  by_cases c12 : (rd (rd_L1 l0 (rd t250 x17_1)) (rd t250 x17_1)) = (rd t250 x17_1)
                  · rw [if_pos c12] at H
                    have c12b0 : ((rd (rd_L1 l0 (rd t250 x17_1)) (rd t250 x17_1)) == (rd t250 x17_1)) = true := beq_iff_eq.mpr c12
                    have c12b1 : ((rd (rd_L1 l0 (rd t250 x17_1)) (rd t250 x17_1)) != (rd t250 x17_1)) = false := bne_eq_false_iff_eq.mpr c12
                    clear c12
                    obtain rfl := Option.some.inj H
                    have p254 : 0 ≤ (x17_1 : Int) := of_decide_eq_true (by first | (with_reducible assumption) | assumption)
                    have q254 : x17_1 < (t250.length : Int) := of_decide_eq_true (by first | (with_reducible assumption) | assumption)
                    obtain ⟨ad254, e254, hx254_0⟩ := Kd.at_int (Kd.R_reads' HO_15.out).2.2 x17_1 p254 q254
                    cases e254
                    replace p254 := eq_true p254
                    replace q254 := eq_true q254
                    have p255 : 0 ≤ ((rd t250 x17_1) : Int) := of_decide_eq_true (by first | (with_reducible assumption) | assumption)
                    have q255 : (rd t250 x17_1) < (l0.length : Int) := of_decide_eq_true (by first | (with_reducible assumption) | assumption)
                    obtain ⟨ad255, A255_0, c255_0, e255, hx255_0, hl255_0, hi255_0⟩ := at_L1 HR0.out (rd t250 x17_1) p255 q255
                    cases e255
                    replace hx255_0 := (HB.out.cell (World.block_lt_of_cell? w _ hx255_0)).trans hx255_0
                    have HR255_0 := Aside0.mk hi255_0
                    have HC255_0 := Aside0.mk hl255_0
                    (try clear hi255_0); (try clear hl255_0)
                    replace p255 := eq_true p255
                    replace q255 := eq_true q255
                    have p256 : 0 ≤ ((rd t250 x17_1) : Int) := of_decide_eq_true (by first | (with_reducible assumption) | assumption)
                    have q256 : (rd t250 x17_1) < ((rd_L1 l0 (rd t250 x17_1)).length : Int) := of_decide_eq_true (by first | (with_reducible assumption) | assumption)
                    obtain ⟨ad256, e256, hx256_0⟩ := Kd.at_int HR255_0.out (rd t250 x17_1) p256 q256
                    cases e256
                    replace hx256_0 := (HB.out.cell (World.block_lt_of_cell? w _ hx256_0)).trans hx256_0
                    replace p256 := eq_true p256
                    replace q256 := eq_true q256
                    go_wp2
                    go_ret
                    exact ⟨by first | rfl | (simp [errW_none, errW_some] <;> rfl) | (simp [*, errW_none, errW_some] <;> rfl), by repeat (first | (with_reducible first | exact HB.out | apply below_alloc | apply pw_below_drewN | apply below_drew1) | exact HB.out)⟩
                  · rw [if_neg c12] at H
                    have c12b0 : ((rd (rd_L1 l0 (rd t250 x17_1)) (rd t250 x17_1)) == (rd t250 x17_1)) = false := beq_eq_false_iff_ne.mpr c12
                    have c12b1 : ((rd (rd_L1 l0 (rd t250 x17_1)) (rd t250 x17_1)) != (rd t250 x17_1)) = true := bne_iff_ne.mpr c12
                    have H' := Aside0.mk H
                    clear H
                    have p254 : 0 ≤ (x17_1 : Int) := of_decide_eq_true (by first | (with_reducible assumption) | assumption)
                    have q254 : x17_1 < (t250.length : Int) := of_decide_eq_true (by first | (with_reducible assumption) | assumption)
                    obtain ⟨ad254, e254, hx254_0⟩ := Kd.at_int (Kd.R_reads' HO_15.out).2.2 x17_1 p254 q254
                    cases e254
                    replace p254 := eq_true p254
                    replace q254 := eq_true q254
                    have p255 : 0 ≤ ((rd t250 x17_1) : Int) := of_decide_eq_true (by first | (with_reducible assumption) | assumption)
                    have q255 : (rd t250 x17_1) < (l0.length : Int) := of_decide_eq_true (by first | (with_reducible assumption) | assumption)
                    obtain ⟨ad255, A255_0, c255_0, e255, hx255_0, hl255_0, hi255_0⟩ := at_L1 HR0.out (rd t250 x17_1) p255 q255
                    cases e255
                    replace hx255_0 := (HB.out.cell (World.block_lt_of_cell? w _ hx255_0)).trans hx255_0
                    have HR255_0 := Aside0.mk hi255_0
                    have HC255_0 := Aside0.mk hl255_0
                    (try clear hi255_0); (try clear hl255_0)
                    replace p255 := eq_true p255
                    replace q255 := eq_true q255
                    have p256 : 0 ≤ ((rd t250 x17_1) : Int) := of_decide_eq_true (by first | (with_reducible assumption) | assumption)
                    have q256 : (rd t250 x17_1) < ((rd_L1 l0 (rd t250 x17_1)).length : Int) := of_decide_eq_true (by first | (with_reducible assumption) | assumption)
                    obtain ⟨ad256, e256, hx256_0⟩ := Kd.at_int HR255_0.out (rd t250 x17_1) p256 q256
                    cases e256
                    replace hx256_0 := (HB.out.cell (World.block_lt_of_cell? w _ hx256_0)).trans hx256_0
                    replace p256 := eq_true p256
                    replace q256 := eq_true q256
                    go_wp2
                    go_roundg k1
                    case measure => have := HK1.out; omega
                    case rel => exact ⟨(wrap64 (x17_1 + 1)), (by first | rfl | (simp; done) | (simp [*]; done)), H', ⟨by have := HK1.out; omega⟩, ⟨by (with_reducible repeat (first | apply Kd.R_alloc | apply Kd.R_drewN | apply Kd.R_drew)); exact HO_15.out⟩, ⟨by repeat (first | (with_reducible first | exact HB.out | apply below_alloc | apply pw_below_drewN | apply below_drew1) | exact HB.out)⟩⟩
                · rw [if_neg c11] at H
                  exact absurd H (by simp)
              · rw [if_neg c10] at H
                exact absurd H (by simp)
            · rw [if_neg c9] at H
              exact absurd H (by simp)
          · rw [if_neg c8] at H
            exact absurd H (by simp)
        · rw [if_neg c7] at H
          exact absurd H (by simp)
      · rw [if_neg c6] at H
        have c6b0 : decide (x17_1 < (t250.length : Int)) = false := decide_eq_false c6
        clear c6
        obtain rfl := Option.some.inj H
        go_wp2
        go_ret
        exact ⟨by first | rfl | (simp [errW_none, errW_some] <;> rfl) | (simp [*, errW_none, errW_some] <;> rfl), by repeat (first | (with_reducible first | exact HB.out | apply below_alloc | apply pw_below_drewN | apply below_drew1) | exact HB.out)⟩

/-! ### semigroupref14_Power: function 35 -/
def semigroupref14_Power.f (k : Nat) (l0 : List (List Int)) (a1 : Int) (a2 : Int) : Option (Int) := (semigroupref14_Powers.f k l0 a1).bind fun bt257 => (if a2 ≤ (bt257.1.length : Int) then (if 0 ≤ (wrap64 (a2 - 1)) then (if (wrap64 (a2 - 1)) < (bt257.1.length : Int) then (some (rd bt257.1 (wrap64 (a2 - 1)))) else (none)) else (none)) else (if (wrap64 ((bt257.1.length : Int) - bt257.2)) = 0 then (none) else (if 0 ≤ (wrap64 (bt257.2 + (Int.tmod (wrap64 ((wrap64 (a2 - 1)) - bt257.2)) (wrap64 ((bt257.1.length : Int) - bt257.2))))) then (if (wrap64 (bt257.2 + (Int.tmod (wrap64 ((wrap64 (a2 - 1)) - bt257.2)) (wrap64 ((bt257.1.length : Int) - bt257.2))))) < (bt257.1.length : Int) then (some (rd bt257.1 (wrap64 (bt257.2 + (Int.tmod (wrap64 ((wrap64 (a2 - 1)) - bt257.2)) (wrap64 ((bt257.1.length : Int) - bt257.2))))))) else (none)) else (none))))
theorem semigroupref14_Power.mono : ∀ a0 a1 a2 k, LeO (semigroupref14_Power.f k a0 a1 a2) (semigroupref14_Power.f (k + 1) a0 a1 a2) := by
  intro a0 a1 a2 k
  unfold semigroupref14_Power.f
  repeat' first
      | (with_reducible exact semigroupref14_Powers.mono _ _ _)
      | (with_reducible exact LeO.refl _)
      | (with_reducible exact LeO.none _)
      | (with_reducible refine LeO.ite ?_ ?_)
      | (with_reducible refine LeO.bind ?_ (fun _ => ?_))
      | exact semigroupref14_Powers.mono _ _ _
      | exact LeO.none _
      | refine LeO.ite ?_ ?_
      | refine LeO.bind ?_ (fun _ => ?_)
set_option maxHeartbeats 8000000 in
set_option maxRecDepth 100000 in
theorem semigroupref14_Power.calls (k : Nat) (A0 : Option Addr) (c0 : Nat) (l0 : List (List Int)) (a1 : Int) (a2 : Int) (r : Int) (w : World) (hr0 : Kd.C (Kd.slice 3 (Kd.int .i64)) w A0 l0.length l0) (hc0 : l0.length ≤ c0) (h : semigroupref14_Power.f k l0 a1 a2 = some r) :
    Calls Try.prog 35 #[.slice A0 l0.length c0, .int .i64 a1, .int .i64 a2] w fun e w' => e = .returned (.int .i64 r) ∧ Below w.heap.size w w' := by
  have HR0 := Aside0.mk hr0
  have HC0 := Aside0.mk hc0
  (try clear hr0); (try clear hc0)
  have HB := Aside0.mk (Below.refl w.heap.size w)
  have H : ((semigroupref14_Powers.f k l0 a1).bind fun bt257 => (if a2 ≤ (bt257.1.length : Int) then (if 0 ≤ (wrap64 (a2 - 1)) then (if (wrap64 (a2 - 1)) < (bt257.1.length : Int) then (some (rd bt257.1 (wrap64 (a2 - 1)))) else (none)) else (none)) else (if (wrap64 ((bt257.1.length : Int) - bt257.2)) = 0 then (none) else (if 0 ≤ (wrap64 (bt257.2 + (Int.tmod (wrap64 ((wrap64 (a2 - 1)) - bt257.2)) (wrap64 ((bt257.1.length : Int) - bt257.2))))) then (if (wrap64 (bt257.2 + (Int.tmod (wrap64 ((wrap64 (a2 - 1)) - bt257.2)) (wrap64 ((bt257.1.length : Int) - bt257.2))))) < (bt257.1.length : Int) then (some (rd bt257.1 (wrap64 (bt257.2 + (Int.tmod (wrap64 ((wrap64 (a2 - 1)) - bt257.2)) (wrap64 ((bt257.1.length : Int) - bt257.2))))))) else (none)) else (none))))) = some r := h
  clear h
  replace H := Option.bind_eq_some_iff.mp H
  obtain ⟨⟨t257, t258⟩, A40, H⟩ := H
  replace H : (if a2 ≤ (t257.length : Int) then (if 0 ≤ (wrap64 (a2 - 1)) then (if (wrap64 (a2 - 1)) < (t257.length : Int) then (some (rd t257 (wrap64 (a2 - 1)))) else (none)) else (none)) else (if (wrap64 ((t257.length : Int) - t258)) = 0 then (none) else (if 0 ≤ (wrap64 (t258 + (Int.tmod (wrap64 ((wrap64 (a2 - 1)) - t258)) (wrap64 ((t257.length : Int) - t258))))) then (if (wrap64 (t258 + (Int.tmod (wrap64 ((wrap64 (a2 - 1)) - t258)) (wrap64 ((t257.length : Int) - t258))))) < (t257.length : Int) then (some (rd t257 (wrap64 (t258 + (Int.tmod (wrap64 ((wrap64 (a2 - 1)) - t258)) (wrap64 ((t257.length : Int) - t258))))))) else (none)) else (none)))) = some r := H
  have A4 := Aside0.mk A40
  clear A40
  by_cases c5 : a2 ≤ (t257.length : Int)
  · rw [if_pos c5] at H
    have c5b0 : decide (a2 ≤ (t257.length : Int)) = true := decide_eq_true c5
    clear c5
    obtain ⟨ji6, hji6⟩ : ∃ j_ : Int, (wrap64 (a2 - 1)) = j_ := ⟨_, rfl⟩
    replace H : (if 0 ≤ (ji6) then (if (ji6) < (t257.length : Int) then (some (rd t257 (ji6))) else (none)) else (none)) = some r := by first | (rw [hji6] at H; exact H) | (simp only [hji6] at H ⊢; exact H)
    (try rw [hji6] at A4)
    have hji6w : (IntKind.i64.wrap (a2 - 1)) = ji6 := (i64_w _).trans hji6
    by_cases c7 : 0 ≤ (ji6)
    · rw [if_pos c7] at H
      have c7b0 : decide (0 ≤ (ji6)) = true := decide_eq_true c7
      clear c7
      by_cases c8 : (ji6) < (t257.length : Int)
      · rw [if_pos c8] at H
        have c8b0 : decide ((ji6) < (t257.length : Int)) = true := decide_eq_true c8
        clear c8
        obtain rfl := Option.some.inj H
        go_enter Try.func35, Try.ntmps35
        go_wp2_with (first | ((with_reducible refine gate_callee (f := 68) rfl ?_); refine goesL_ (some 12) rfl rfl Try.func68 (by kernel_rfl) rfl #[.slice A0 l0.length c0, .int .i64 a1] rfl (by (try simp only [List.map_toArray, List.map_cons, List.map_nil]); first | done | rfl | (simp only [List.length_drop, List.length_take]; rfl)) ?_; (with_reducible refine (semigroupref14_Powers.calls k _ _ l0 a1 t257 t258 _ ?side1 ?side2 A4.out).mono ?_); (case side1 => repeat (first | exact HR0.out | (with_reducible refine Kd.C_alloc ?_ _) | (with_reducible refine Kd.C_drewN ?_ _) | (with_reducible refine Kd.C_drew ?_))); (case side2 => exact HC0.out); rintro e w9 ⟨v259, rfl, ho0, hb⟩; refine ⟨_, rfl, ?_⟩; have n0_ := Aside0.mk (Kd.R_lower ho0 (below_size (by repeat (first | (with_reducible first | exact HB.out | apply below_alloc | apply pw_below_drewN | apply below_drew1) | exact HB.out)))); have n1_ := Aside0.mk (below_step (by repeat (first | (with_reducible first | exact HB.out | apply below_alloc | apply pw_below_drewN | apply below_drew1) | exact HB.out)) hb); clear HB; have HO260 := n0_; have HB := n1_; clear n0_ n1_; (try clear hb); (try clear hb2); (try clear hk); (try clear hi); (try clear ho0); obtain ⟨Ao10, co10, eo10⟩ := Kd.R_slice HO260.out; subst eo10; have p261 : 0 ≤ ((ji6) : Int) := of_decide_eq_true (by first | (with_reducible assumption) | assumption); have q261 : (ji6) < (t257.length : Int) := of_decide_eq_true (by first | (with_reducible assumption) | assumption); obtain ⟨ad261, e261, hx261_0⟩ := Kd.at_int (Kd.R_reads' HO260.out).2.2 (ji6) p261 q261; cases e261; replace p261 := eq_true p261; replace q261 := eq_true q261))
        go_ret
        exact ⟨by first | rfl | (simp [errW_none, errW_some] <;> rfl) | (simp only [← hji6]; first | rfl | (simp [errW_none, errW_some] <;> rfl)) | (simp [*, errW_none, errW_some] <;> rfl), by repeat (first | (with_reducible first | exact HB.out | apply below_alloc | apply pw_below_drewN | apply below_drew1) | exact HB.out)⟩
      · rw [if_neg c8] at H
        exact absurd H (by simp)
    · rw [if_neg c7] at H
      exact absurd H (by simp)
  · rw [if_neg c5] at H
    have c5b0 : decide (a2 ≤ (t257.length : Int)) = false := decide_eq_false c5
    clear c5
    by_cases c11 : (wrap64 ((t257.length : Int) - t258)) = 0
    · rw [if_pos c11] at H
      exact absurd H (by simp)
    · rw [if_neg c11] at H
      have c11b0 : ((wrap64 ((t257.length : Int) - t258)) == 0) = false := beq_eq_false_iff_ne.mpr c11
      have c11b1 : ((wrap64 ((t257.length : Int) - t258)) != 0) = true := bne_iff_ne.mpr c11
      obtain ⟨ji12, hji12⟩ : ∃ j_ : Int, (wrap64 (t258 + (Int.tmod (wrap64 ((wrap64 (a2 - 1)) - t258)) (wrap64 ((t257.length : Int) - t258))))) = j_ := ⟨_, rfl⟩
      replace H : (if 0 ≤ (ji12) then (if (ji12) < (t257.length : Int) then (some (rd t257 (ji12))) else (none)) else (none)) = some r := by first | (rw [hji12] at H; exact H) | (simp only [hji12] at H ⊢; exact H)
      (try rw [hji12] at A4)
      have hji12w : (IntKind.i64.wrap (t258 + (Int.tmod (wrap64 ((wrap64 (a2 - 1)) - t258)) (wrap64 ((t257.length : Int) - t258))))) = ji12 := (i64_w _).trans hji12
      by_cases c13 : 0 ≤ (ji12)
      · rw [if_pos c13] at H
        have c13b0 : decide (0 ≤ (ji12)) = true := decide_eq_true c13
        clear c13
        by_cases c14 : (ji12) < (t257.length : Int)
        · rw [if_pos c14] at H
          have c14b0 : decide ((ji12) < (t257.length : Int)) = true := decide_eq_true c14
          clear c14
          obtain rfl := Option.some.inj H
          go_enter Try.func35, Try.ntmps35
          go_wp2_with (first | ((with_reducible refine gate_callee (f := 68) rfl ?_); refine goesL_ (some 12) rfl rfl Try.func68 (by kernel_rfl) rfl #[.slice A0 l0.length c0, .int .i64 a1] rfl (by (try simp only [List.map_toArray, List.map_cons, List.map_nil]); first | done | rfl | (simp only [List.length_drop, List.length_take]; rfl)) ?_; (with_reducible refine (semigroupref14_Powers.calls k _ _ l0 a1 t257 t258 _ ?side1 ?side2 A4.out).mono ?_); (case side1 => repeat (first | exact HR0.out | (with_reducible refine Kd.C_alloc ?_ _) | (with_reducible refine Kd.C_drewN ?_ _) | (with_reducible refine Kd.C_drew ?_))); (case side2 => exact HC0.out); rintro e w15 ⟨v259, rfl, ho0, hb⟩; refine ⟨_, rfl, ?_⟩; have n0_ := Aside0.mk (Kd.R_lower ho0 (below_size (by repeat (first | (with_reducible first | exact HB.out | apply below_alloc | apply pw_below_drewN | apply below_drew1) | exact HB.out)))); have n1_ := Aside0.mk (below_step (by repeat (first | (with_reducible first | exact HB.out | apply below_alloc | apply pw_below_drewN | apply below_drew1) | exact HB.out)) hb); clear HB; have HO260 := n0_; have HB := n1_; clear n0_ n1_; (try clear hb); (try clear hb2); (try clear hk); (try clear hi); (try clear ho0); obtain ⟨Ao16, co16, eo16⟩ := Kd.R_slice HO260.out; subst eo16; have p262 : 0 ≤ ((ji12) : Int) := of_decide_eq_true (by first | (with_reducible assumption) | assumption); have q262 : (ji12) < (t257.length : Int) := of_decide_eq_true (by first | (with_reducible assumption) | assumption); obtain ⟨ad262, e262, hx262_0⟩ := Kd.at_int (Kd.R_reads' HO260.out).2.2 (ji12) p262 q262; cases e262; replace p262 := eq_true p262; replace q262 := eq_true q262))
          go_ret
          exact ⟨by first | rfl | (simp [errW_none, errW_some] <;> rfl) | (simp only [← hji12]; first | rfl | (simp [errW_none, errW_some] <;> rfl)) | (simp [*, errW_none, errW_some] <;> rfl), by repeat (first | (with_reducible first | exact HB.out | apply below_alloc | apply pw_below_drewN | apply below_drew1) | exact HB.out)⟩
        · rw [if_neg c14] at H
          exact absurd H (by simp)
      · rw [if_neg c13] at H
        exact absurd H (by simp)

/-! ### semigrouplaw14_MultPowers: function 5 -/
mutual
def semigrouplaw14_MultPowers.j0 : Nat → List (List Int) → Int → Int → Bool → Option (Bool)
  | 0, _, _, _, _ => none
  | k + 1, x0, x1, x2, x20 => if x20 = true then ((semigrouplaw14_awake.f k).bind fun t264 => (some t264)) else ((mult_Power.f k x0 x1 x2).bind fun t265 => ((mult_Omega.f k x0 x1).bind fun t266 => ((mult_IndexPeriod.f k x0 x1).bind fun bt267 => ((semigroupref14_Valid.f k x0).bind fun t269 => (if t269 = true then ((semigroupref14_In.f k x0 (([x1] : List Int))).bind fun t273 => (semigrouplaw14_MultPowers.j1 k x0 x1 x2 t265 t266 bt267.1 bt267.2 (!t273))) else (semigrouplaw14_MultPowers.j1 k x0 x1 x2 t265 t266 bt267.1 bt267.2 true))))))
def semigrouplaw14_MultPowers.j1 : Nat → List (List Int) → Int → Int → Int → Int → Int → Int → Bool → Option (Bool)
  | 0, _, _, _, _, _, _, _, _ => none
  | k + 1, x0, x1, x2, x7, x8, x9, x10, x44 => if x44 = true then (if x7 = (-1) then (if x8 = (-1) then (if x9 = 0 then (if x10 = 0 then ((semigrouplaw14_awake.f k).bind fun t274 => (some t274)) else (some false)) else (some false)) else (some false)) else (some false)) else ((semigroupref14_IndexPeriod.f k x0 x1).bind fun bt275 => (if x9 = bt275.1 then (if x10 = bt275.2 then ((semigroupref14_Omega.f k x0 x1).bind fun t277 => (semigrouplaw14_MultPowers.j2 k x0 x1 x2 x7 (x8 != t277))) else (semigrouplaw14_MultPowers.j2 k x0 x1 x2 x7 true)) else (semigrouplaw14_MultPowers.j2 k x0 x1 x2 x7 true)))
def semigrouplaw14_MultPowers.j2 : Nat → List (List Int) → Int → Int → Int → Bool → Option (Bool)
  | 0, _, _, _, _, _ => none
  | k + 1, x0, x1, x2, x7, x82 => if x82 = true then (some false) else (if x2 < 1 then (if x7 = (-1) then ((semigrouplaw14_awake.f k).bind fun t278 => (some t278)) else (some false)) else ((semigroupref14_Power.f k x0 x1 x2).bind fun t279 => (if x7 = t279 then ((semigrouplaw14_awake.f k).bind fun t280 => (some t280)) else (some false))))
end
def semigrouplaw14_MultPowers.f (k : Nat) (l0 : List (List Int)) (a1 : Int) (a2 : Int) : Option (Bool) := (semigroupref14_Shape.f k l0).bind fun t263 => (if t263 = 0 then (semigrouplaw14_MultPowers.j0 k l0 a1 a2 (decide ((l0.length : Int) > 30))) else (semigrouplaw14_MultPowers.j0 k l0 a1 a2 false))
theorem semigrouplaw14_MultPowers.mono_l : ∀ k, (∀ y0 y1 y2 y3, LeO (semigrouplaw14_MultPowers.j0 k y0 y1 y2 y3) (semigrouplaw14_MultPowers.j0 (k + 1) y0 y1 y2 y3)) ∧ (∀ y0 y1 y2 y3 y4 y5 y6 y7, LeO (semigrouplaw14_MultPowers.j1 k y0 y1 y2 y3 y4 y5 y6 y7) (semigrouplaw14_MultPowers.j1 (k + 1) y0 y1 y2 y3 y4 y5 y6 y7)) ∧ (∀ y0 y1 y2 y3 y4, LeO (semigrouplaw14_MultPowers.j2 k y0 y1 y2 y3 y4) (semigrouplaw14_MultPowers.j2 (k + 1) y0 y1 y2 y3 y4))
  | 0 => ⟨fun _ _ _ _ r h => by simp [semigrouplaw14_MultPowers.j0] at h, fun _ _ _ _ _ _ _ _ r h => by simp [semigrouplaw14_MultPowers.j1] at h, fun _ _ _ _ _ r h => by simp [semigrouplaw14_MultPowers.j2] at h⟩
  | k + 1 => by
    obtain ⟨ih0, ih1, ih2⟩ := semigrouplaw14_MultPowers.mono_l k
    refine ⟨?_, ?_, ?_⟩
    · intro y0 y1 y2 y3
      unfold semigrouplaw14_MultPowers.j0
      repeat' first
      | (with_reducible exact ih0 _ _ _ _)
      | (with_reducible exact ih1 _ _ _ _ _ _ _ _)
      | (with_reducible exact ih2 _ _ _ _ _)
      | (with_reducible exact mult_IndexPeriod.mono _ _ _)
      | (with_reducible exact mult_Omega.mono _ _ _)
      | (with_reducible exact mult_Power.mono _ _ _ _)
      | (with_reducible exact semigrouplaw14_awake.mono _)
      | (with_reducible exact semigroupref14_In.mono _ _ _)
      | (with_reducible exact semigroupref14_IndexPeriod.mono _ _ _)
      | (with_reducible exact semigroupref14_Omega.mono _ _ _)
      | (with_reducible exact semigroupref14_Power.mono _ _ _ _)
      | (with_reducible exact semigroupref14_Shape.mono _ _)
      | (with_reducible exact semigroupref14_Valid.mono _ _)
      | (with_reducible exact LeO.refl _)
      | (with_reducible exact LeO.none _)
      | (with_reducible refine LeO.ite ?_ ?_)
      | (with_reducible refine LeO.bind ?_ (fun _ => ?_))
      | exact ih0 _ _ _ _
      | exact ih1 _ _ _ _ _ _ _ _
      | exact ih2 _ _ _ _ _
      | exact mult_IndexPeriod.mono _ _ _
      | exact mult_Omega.mono _ _ _
      | exact mult_Power.mono _ _ _ _
      | exact semigrouplaw14_awake.mono _
      | exact semigroupref14_In.mono _ _ _
      | exact semigroupref14_IndexPeriod.mono _ _ _
      | exact semigroupref14_Omega.mono _ _ _
      | exact semigroupref14_Power.mono _ _ _ _
      | exact semigroupref14_Shape.mono _ _
      | exact semigroupref14_Valid.mono _ _
      | exact LeO.none _
      | refine LeO.ite ?_ ?_
      | refine LeO.bind ?_ (fun _ => ?_)
    · intro y0 y1 y2 y3 y4 y5 y6 y7
      unfold semigrouplaw14_MultPowers.j1
      repeat' first
      | (with_reducible exact ih0 _ _ _ _)
      | (with_reducible exact ih1 _ _ _ _ _ _ _ _)
      | (with_reducible exact ih2 _ _ _ _ _)
      | (with_reducible exact mult_IndexPeriod.mono _ _ _)
      | (with_reducible exact mult_Omega.mono _ _ _)
      | (with_reducible exact mult_Power.mono _ _ _ _)
      | (with_reducible exact semigrouplaw14_awake.mono _)
      | (with_reducible exact semigroupref14_In.mono _ _ _)
      | (with_reducible exact semigroupref14_IndexPeriod.mono _ _ _)
      | (with_reducible exact semigroupref14_Omega.mono _ _ _)
      | (with_reducible exact semigroupref14_Power.mono _ _ _ _)
      | (with_reducible exact semigroupref14_Shape.mono _ _)
      | (with_reducible exact semigroupref14_Valid.mono _ _)
      | (with_reducible exact LeO.refl _)
      | (with_reducible exact LeO.none _)
      | (with_reducible refine LeO.ite ?_ ?_)
      | (with_reducible refine LeO.bind ?_ (fun _ => ?_))
      | exact ih0 _ _ _ _
      | exact ih1 _ _ _ _ _ _ _ _
      | exact ih2 _ _ _ _ _
      | exact mult_IndexPeriod.mono _ _ _
      | exact mult_Omega.mono _ _ _
      | exact mult_Power.mono _ _ _ _
      | exact semigrouplaw14_awake.mono _
      | exact semigroupref14_In.mono _ _ _
      | exact semigroupref14_IndexPeriod.mono _ _ _
      | exact semigroupref14_Omega.mono _ _ _
      | exact semigroupref14_Power.mono _ _ _ _
      | exact semigroupref14_Shape.mono _ _
      | exact semigroupref14_Valid.mono _ _
      | exact LeO.none _
      | refine LeO.ite ?_ ?_
      | refine LeO.bind ?_ (fun _ => ?_)
    · intro y0 y1 y2 y3 y4
      unfold semigrouplaw14_MultPowers.j2
      repeat' first
      | (with_reducible exact ih0 _ _ _ _)
      | (with_reducible exact ih1 _ _ _ _ _ _ _ _)
      | (with_reducible exact ih2 _ _ _ _ _)
      | (with_reducible exact mult_IndexPeriod.mono _ _ _)
      | (with_reducible exact mult_Omega.mono _ _ _)
      | (with_reducible exact mult_Power.mono _ _ _ _)
      | (with_reducible exact semigrouplaw14_awake.mono _)
      | (with_reducible exact semigroupref14_In.mono _ _ _)
      | (with_reducible exact semigroupref14_IndexPeriod.mono _ _ _)
      | (with_reducible exact semigroupref14_Omega.mono _ _ _)
      | (with_reducible exact semigroupref14_Power.mono _ _ _ _)
      | (with_reducible exact semigroupref14_Shape.mono _ _)
      | (with_reducible exact semigroupref14_Valid.mono _ _)
      | (with_reducible exact LeO.refl _)
      | (with_reducible exact LeO.none _)
      | (with_reducible refine LeO.ite ?_ ?_)
      | (with_reducible refine LeO.bind ?_ (fun _ => ?_))
      | exact ih0 _ _ _ _
      | exact ih1 _ _ _ _ _ _ _ _
      | exact ih2 _ _ _ _ _
      | exact mult_IndexPeriod.mono _ _ _
      | exact mult_Omega.mono _ _ _
      | exact mult_Power.mono _ _ _ _
      | exact semigrouplaw14_awake.mono _
      | exact semigroupref14_In.mono _ _ _
      | exact semigroupref14_IndexPeriod.mono _ _ _
      | exact semigroupref14_Omega.mono _ _ _
      | exact semigroupref14_Power.mono _ _ _ _
      | exact semigroupref14_Shape.mono _ _
      | exact semigroupref14_Valid.mono _ _
      | exact LeO.none _
      | refine LeO.ite ?_ ?_
      | refine LeO.bind ?_ (fun _ => ?_)
theorem semigrouplaw14_MultPowers.mono : ∀ a0 a1 a2 k, LeO (semigrouplaw14_MultPowers.f k a0 a1 a2) (semigrouplaw14_MultPowers.f (k + 1) a0 a1 a2) := by
  intro a0 a1 a2 k
  obtain ⟨ih0, ih1, ih2⟩ := semigrouplaw14_MultPowers.mono_l k
  unfold semigrouplaw14_MultPowers.f
  repeat' first
      | (with_reducible exact ih0 _ _ _ _)
      | (with_reducible exact ih1 _ _ _ _ _ _ _ _)
      | (with_reducible exact ih2 _ _ _ _ _)
      | (with_reducible exact mult_IndexPeriod.mono _ _ _)
      | (with_reducible exact mult_Omega.mono _ _ _)
      | (with_reducible exact mult_Power.mono _ _ _ _)
      | (with_reducible exact semigrouplaw14_awake.mono _)
      | (with_reducible exact semigroupref14_In.mono _ _ _)
      | (with_reducible exact semigroupref14_IndexPeriod.mono _ _ _)
      | (with_reducible exact semigroupref14_Omega.mono _ _ _)
      | (with_reducible exact semigroupref14_Power.mono _ _ _ _)
      | (with_reducible exact semigroupref14_Shape.mono _ _)
      | (with_reducible exact semigroupref14_Valid.mono _ _)
      | (with_reducible exact LeO.refl _)
      | (with_reducible exact LeO.none _)
      | (with_reducible refine LeO.ite ?_ ?_)
      | (with_reducible refine LeO.bind ?_ (fun _ => ?_))
      | exact ih0 _ _ _ _
      | exact ih1 _ _ _ _ _ _ _ _
      | exact ih2 _ _ _ _ _
      | exact mult_IndexPeriod.mono _ _ _
      | exact mult_Omega.mono _ _ _
      | exact mult_Power.mono _ _ _ _
      | exact semigrouplaw14_awake.mono _
      | exact semigroupref14_In.mono _ _ _
      | exact semigroupref14_IndexPeriod.mono _ _ _
      | exact semigroupref14_Omega.mono _ _ _
      | exact semigroupref14_Power.mono _ _ _ _
      | exact semigroupref14_Shape.mono _ _
      | exact semigroupref14_Valid.mono _ _
      | exact LeO.none _
      | refine LeO.ite ?_ ?_
      | refine LeO.bind ?_ (fun _ => ?_)
set_option maxHeartbeats 8000000 in
set_option maxRecDepth 100000 in
theorem semigrouplaw14_MultPowers.calls (k : Nat) (A0 : Option Addr) (c0 : Nat) (l0 : List (List Int)) (a1 : Int) (a2 : Int) (r : Bool) (w : World) (hr0 : Kd.C (Kd.slice 3 (Kd.int .i64)) w A0 l0.length l0) (hc0 : l0.length ≤ c0) (h : semigrouplaw14_MultPowers.f k l0 a1 a2 = some r) :
    Calls Try.prog 5 #[.slice A0 l0.length c0, .int .i64 a1, .int .i64 a2] w fun e w' => e = .returned (.bool r) ∧ Below w.heap.size w w' := by
  have HR0 := Aside0.mk hr0
  have HC0 := Aside0.mk hc0
  (try clear hr0); (try clear hc0)
  have HB := Aside0.mk (Below.refl w.heap.size w)
  have H : ((semigroupref14_Shape.f k l0).bind fun t263 => (if t263 = 0 then (semigrouplaw14_MultPowers.j0 k l0 a1 a2 (decide ((l0.length : Int) > 30))) else (semigrouplaw14_MultPowers.j0 k l0 a1 a2 false))) = some r := h
  clear h
  have HC4 := Aside0.mk H
  clear H
  go_enter Try.func5, Try.ntmps5
  go_upto_region 1 with (fail)
  go_cut [20] (fun v20 wc => ∃ (kq : Nat) (x20_3 : Bool), v20 = .bool x20_3 ∧ Aside0 (semigrouplaw14_MultPowers.j0 kq l0 a1 a2 x20_3 = some r) ∧ Aside0 (kq ≤ k) ∧ Aside0 (Below w.heap.size w wc))
  case first =>
    have H := HC4.out
    clear HC4
    replace H := Option.bind_eq_some_iff.mp H
    obtain ⟨t263, A50, H⟩ := H
    replace H : (if t263 = 0 then (semigrouplaw14_MultPowers.j0 k l0 a1 a2 (decide ((l0.length : Int) > 30))) else (semigrouplaw14_MultPowers.j0 k l0 a1 a2 false)) = some r := H
    have A5 := Aside0.mk A50
    clear A50
    by_cases c6 : t263 = 0
    · rw [if_pos c6] at H
      have c6b0 : (t263 == 0) = true := beq_iff_eq.mpr c6
      have c6b1 : (t263 != 0) = false := bne_eq_false_iff_eq.mpr c6
      clear c6
      (first | rw [c6b0] | (simp only [i64_w, i32_w]; rw [c6b0]) | skip)
      have H' := Aside0.mk H
      clear H
      go_wp2_with (first | ((with_reducible refine gate_callee (f := 23) rfl ?_); refine goesL_ (some 14) rfl rfl Try.func23 (by kernel_rfl) rfl #[.slice A0 l0.length c0] rfl (by (try simp only [List.map_toArray, List.map_cons, List.map_nil]); first | done | rfl | (simp only [List.length_drop, List.length_take]; rfl)) ?_; (with_reducible refine (semigroupref14_Shape.calls k _ _ l0 t263 _ ?side1 ?side2 A5.out).mono ?_); (case side1 => repeat (first | exact (Kd.C_below HR0.out HB.out) | (with_reducible refine Kd.C_alloc ?_ _) | (with_reducible refine Kd.C_drewN ?_ _) | (with_reducible refine Kd.C_drew ?_))); (case side2 => exact HC0.out); rintro e w' ⟨rfl, ⟨nd, rfl⟩⟩; refine ⟨_, rfl, ?_⟩))
      go_meet
      case rel => exact ⟨_, (decide ((l0.length : Int) > 30)), (by first | rfl | (simp; done) | (simp [*]; done)), H', ⟨by first | omega | exact Nat.le_refl _⟩, ⟨by repeat (first | (with_reducible first | exact HB.out | apply below_alloc | apply pw_below_drewN | apply below_drew1) | exact HB.out)⟩⟩
    · rw [if_neg c6] at H
      have c6b0 : (t263 == 0) = false := beq_eq_false_iff_ne.mpr c6
      have c6b1 : (t263 != 0) = true := bne_iff_ne.mpr c6
      (first | rw [c6b0] | (simp only [i64_w, i32_w]; rw [c6b0]) | skip)
      have H' := Aside0.mk H
      clear H
      go_wp2_with (first | ((with_reducible refine gate_callee (f := 23) rfl ?_); refine goesL_ (some 14) rfl rfl Try.func23 (by kernel_rfl) rfl #[.slice A0 l0.length c0] rfl (by (try simp only [List.map_toArray, List.map_cons, List.map_nil]); first | done | rfl | (simp only [List.length_drop, List.length_take]; rfl)) ?_; (with_reducible refine (semigroupref14_Shape.calls k _ _ l0 t263 _ ?side1 ?side2 A5.out).mono ?_); (case side1 => repeat (first | exact (Kd.C_below HR0.out HB.out) | (with_reducible refine Kd.C_alloc ?_ _) | (with_reducible refine Kd.C_drewN ?_ _) | (with_reducible refine Kd.C_drew ?_))); (case side2 => exact HC0.out); rintro e w' ⟨rfl, ⟨nd, rfl⟩⟩; refine ⟨_, rfl, ?_⟩))
      go_meet
      case rel => exact ⟨_, (false), (by first | rfl | (simp; done) | (simp [*]; done)), H', ⟨by first | omega | exact Nat.le_refl _⟩, ⟨by repeat (first | (with_reducible first | exact HB.out | apply below_alloc | apply pw_below_drewN | apply below_drew1) | exact HB.out)⟩⟩
  case rest =>
    clear HC4
    try clear c2
    try clear p2
    try clear c5
    try clear c6
    try clear c6b0
    try clear c6b1
    obtain ⟨kq, x20_3, rfl, HA, HJ3, HB⟩ := hcut
    cases kq with
    | zero => exact absurd HA.out (by simp [semigrouplaw14_MultPowers.j0])
    | succ kj3 =>
      have H := HA.out
      clear HA
      simp only [semigrouplaw14_MultPowers.j0] at H
      by_cases c7 : x20_3 = true
      · subst c7
        have H1 : ((semigrouplaw14_awake.f kj3).bind fun t264 => (some t264)) = some r := by rw [if_pos rfl] at H; exact H
        clear H
        have H := H1
        clear H1
        replace H := Option.bind_eq_some_iff.mp H
        obtain ⟨t264, A80, H⟩ := H
        replace H : (some t264) = some r := H
        have A8 := Aside0.mk A80
        clear A80
        obtain rfl := Option.some.inj H
        go_wp2_with (first | ((with_reducible refine gate_callee (f := 16) rfl ?_); refine goesL_ (some 21) rfl rfl Try.func16 (by kernel_rfl) rfl #[] rfl (by (try simp only [List.map_toArray, List.map_cons, List.map_nil]); first | done | rfl | (simp only [List.length_drop, List.length_take]; rfl)) ?_; (with_reducible refine (semigrouplaw14_awake.calls kj3  t264 _ A8.out).mono ?_); rintro e w9 ⟨rfl, hb⟩; refine ⟨_, rfl, ?_⟩; have n0_ := Aside0.mk (below_step (by repeat (first | (with_reducible first | exact HB.out | apply below_alloc | apply pw_below_drewN | apply below_drew1) | exact HB.out)) hb); clear HB; have HB := n0_; clear n0_; (try clear hb); (try clear hb2); (try clear hk); (try clear hi)))
        go_ret
        exact ⟨by first | rfl | (simp [errW_none, errW_some] <;> rfl) | (simp [*, errW_none, errW_some] <;> rfl), by repeat (first | (with_reducible first | exact HB.out | apply below_alloc | apply pw_below_drewN | apply below_drew1) | exact HB.out)⟩
      · replace c7 := Bool.eq_false_iff.mpr c7
        subst c7
        have H1 : ((mult_Power.f kj3 l0 a1 a2).bind fun t265 => ((mult_Omega.f kj3 l0 a1).bind fun t266 => ((mult_IndexPeriod.f kj3 l0 a1).bind fun bt267 => ((semigroupref14_Valid.f kj3 l0).bind fun t269 => (if t269 = true then ((semigroupref14_In.f kj3 l0 (([a1] : List Int))).bind fun t273 => (semigrouplaw14_MultPowers.j1 kj3 l0 a1 a2 t265 t266 bt267.1 bt267.2 (!t273))) else (semigrouplaw14_MultPowers.j1 kj3 l0 a1 a2 t265 t266 bt267.1 bt267.2 true)))))) = some r := by rw [if_neg (show ¬ (false = true) by decide)] at H; exact H
        clear H
        have H := H1
        clear H1
        replace H := Option.bind_eq_some_iff.mp H
        obtain ⟨t265, A100, H⟩ := H
        replace H : ((mult_Omega.f kj3 l0 a1).bind fun t266 => ((mult_IndexPeriod.f kj3 l0 a1).bind fun bt267 => ((semigroupref14_Valid.f kj3 l0).bind fun t269 => (if t269 = true then ((semigroupref14_In.f kj3 l0 (([a1] : List Int))).bind fun t273 => (semigrouplaw14_MultPowers.j1 kj3 l0 a1 a2 t265 t266 bt267.1 bt267.2 (!t273))) else (semigrouplaw14_MultPowers.j1 kj3 l0 a1 a2 t265 t266 bt267.1 bt267.2 true))))) = some r := H
        have A10 := Aside0.mk A100
        clear A100
        replace H := Option.bind_eq_some_iff.mp H
        obtain ⟨t266, A110, H⟩ := H
        replace H : ((mult_IndexPeriod.f kj3 l0 a1).bind fun bt267 => ((semigroupref14_Valid.f kj3 l0).bind fun t269 => (if t269 = true then ((semigroupref14_In.f kj3 l0 (([a1] : List Int))).bind fun t273 => (semigrouplaw14_MultPowers.j1 kj3 l0 a1 a2 t265 t266 bt267.1 bt267.2 (!t273))) else (semigrouplaw14_MultPowers.j1 kj3 l0 a1 a2 t265 t266 bt267.1 bt267.2 true)))) = some r := H
        have A11 := Aside0.mk A110
        clear A110
        replace H := Option.bind_eq_some_iff.mp H
        obtain ⟨⟨t267, t268⟩, A120, H⟩ := H
        replace H : ((semigroupref14_Valid.f kj3 l0).bind fun t269 => (if t269 = true then ((semigroupref14_In.f kj3 l0 (([a1] : List Int))).bind fun t273 => (semigrouplaw14_MultPowers.j1 kj3 l0 a1 a2 t265 t266 t267 t268 (!t273))) else (semigrouplaw14_MultPowers.j1 kj3 l0 a1 a2 t265 t266 t267 t268 true))) = some r := H
        have A12 := Aside0.mk A120
        clear A120
        have HC13 := Aside0.mk H
        clear H
        go_upto_region 5 with (first | ((with_reducible refine gate_callee (f := 29) rfl ?_); refine goesL_ (some 25) rfl rfl Try.func29 (by kernel_rfl) rfl #[.slice A0 l0.length c0, .int .i64 a1, .int .i64 a2] rfl (by (try simp only [List.map_toArray, List.map_cons, List.map_nil]); first | done | rfl | (simp only [List.length_drop, List.length_take]; rfl)) ?_; (with_reducible refine (mult_Power.calls kj3 _ _ l0 a1 a2 t265 _ ?side1 ?side2 A10.out).mono ?_); (case side1 => repeat (first | exact (Kd.C_below HR0.out HB.out) | (with_reducible refine Kd.C_alloc ?_ _) | (with_reducible refine Kd.C_drewN ?_ _) | (with_reducible refine Kd.C_drew ?_))); (case side2 => exact HC0.out); rintro e w' ⟨rfl, ⟨nd, rfl⟩⟩; refine ⟨_, rfl, ?_⟩) | ((with_reducible refine gate_callee (f := 30) rfl ?_); refine goesL_ (some 28) rfl rfl Try.func30 (by kernel_rfl) rfl #[.slice A0 l0.length c0, .int .i64 a1] rfl (by (try simp only [List.map_toArray, List.map_cons, List.map_nil]); first | done | rfl | (simp only [List.length_drop, List.length_take]; rfl)) ?_; (with_reducible refine (mult_Omega.calls kj3 _ _ l0 a1 t266 _ ?side1 ?side2 A11.out).mono ?_); (case side1 => repeat (first | exact (Kd.C_below HR0.out (by repeat (first | (with_reducible first | exact HB.out | apply below_alloc | apply pw_below_drewN | apply below_drew1) | exact HB.out))) | (with_reducible refine Kd.C_alloc ?_ _) | (with_reducible refine Kd.C_drewN ?_ _) | (with_reducible refine Kd.C_drew ?_))); (case side2 => exact HC0.out); rintro e w14 ⟨rfl, hb⟩; refine ⟨_, rfl, ?_⟩; have n0_ := Aside0.mk (below_step (by repeat (first | (with_reducible first | exact HB.out | apply below_alloc | apply pw_below_drewN | apply below_drew1) | exact HB.out)) hb); clear HB; have HB := n0_; clear n0_; (try clear hb); (try clear hb2); (try clear hk); (try clear hi)) | ((with_reducible refine gate_callee (f := 31) rfl ?_); refine goesL_ (some 32) rfl rfl Try.func31 (by kernel_rfl) rfl #[.slice A0 l0.length c0, .int .i64 a1] rfl (by (try simp only [List.map_toArray, List.map_cons, List.map_nil]); first | done | rfl | (simp only [List.length_drop, List.length_take]; rfl)) ?_; (with_reducible refine (mult_IndexPeriod.calls kj3 _ _ l0 a1 t267 t268 _ ?side1 ?side2 A12.out).mono ?_); (case side1 => repeat (first | exact (Kd.C_below HR0.out HB.out) | (with_reducible refine Kd.C_alloc ?_ _) | (with_reducible refine Kd.C_drewN ?_ _) | (with_reducible refine Kd.C_drew ?_))); (case side2 => exact HC0.out); rintro e w15 ⟨rfl, hb⟩; refine ⟨_, rfl, ?_⟩; have n0_ := Aside0.mk (below_step (by repeat (first | (with_reducible first | exact HB.out | apply below_alloc | apply pw_below_drewN | apply below_drew1) | exact HB.out)) hb); clear HB; have HB := n0_; clear n0_; (try clear hb); (try clear hb2); (try clear hk); (try clear hi)))
        (try simp only [Act.put, List.setIfInBounds_toArray, List.set_cons_zero, List.set_cons_succ])
        go_cut [44] (fun v44 wc => ∃ (kq : Nat) (x44_12 : Bool), v44 = .bool x44_12 ∧ Aside0 (semigrouplaw14_MultPowers.j1 kq l0 a1 a2 t265 t266 t267 t268 x44_12 = some r) ∧ Aside0 (kq ≤ kj3) ∧ Aside0 (Below w.heap.size w wc))
        case first =>
          have H := HC13.out
          clear HC13
          replace H := Option.bind_eq_some_iff.mp H
          obtain ⟨t269, A160, H⟩ := H
          replace H : (if t269 = true then ((semigroupref14_In.f kj3 l0 (([a1] : List Int))).bind fun t273 => (semigrouplaw14_MultPowers.j1 kj3 l0 a1 a2 t265 t266 t267 t268 (!t273))) else (semigrouplaw14_MultPowers.j1 kj3 l0 a1 a2 t265 t266 t267 t268 true)) = some r := H
          have A16 := Aside0.mk A160
          clear A160
          by_cases c17 : t269 = true
          · subst c17
            have H1 : ((semigroupref14_In.f kj3 l0 (([a1] : List Int))).bind fun t273 => (semigrouplaw14_MultPowers.j1 kj3 l0 a1 a2 t265 t266 t267 t268 (!t273))) = some r := by rw [if_pos rfl] at H; exact H
            clear H
            have H := H1
            clear H1
            obtain ⟨y270, hy270⟩ : ∃ y_ : List Int, y_ = (([a1] : List Int)) := ⟨_, rfl⟩
            replace H : ((semigroupref14_In.f kj3 l0 y270).bind fun t273 => (semigrouplaw14_MultPowers.j1 kj3 l0 a1 a2 t265 t266 t267 t268 (!t273))) = some r := by first | (rw [hy270]; with_reducible exact H) | (have H2_ := (Option.bind_some _ _).symm.trans H; rw [hy270]; with_reducible exact H2_) | (have H2_ := (Option.bind_some _ _).symm.trans H; with_reducible exact H2_) | with_reducible exact H | (rw [hy270]; exact H) | exact H
            have Ny270 := Aside0.mk hy270
            clear hy270
            replace H := Option.bind_eq_some_iff.mp H
            obtain ⟨t273, A180, H⟩ := H
            replace H : (semigrouplaw14_MultPowers.j1 kj3 l0 a1 a2 t265 t266 t267 t268 (!t273)) = some r := H
            have A18 := Aside0.mk A180
            clear A180
            have H' := Aside0.mk H
            clear H
            go_wp2_with (first | ((with_reducible refine gate_callee (f := 24) rfl ?_); refine goesL_ (some 36) rfl rfl Try.func24 (by kernel_rfl) rfl #[.slice A0 l0.length c0] rfl (by (try simp only [List.map_toArray, List.map_cons, List.map_nil]); first | done | rfl | (simp only [List.length_drop, List.length_take]; rfl)) ?_; (with_reducible refine (semigroupref14_Valid.calls kj3 _ _ l0 true _ ?side1 ?side2 A16.out).mono ?_); (case side1 => repeat (first | exact (Kd.C_below HR0.out HB.out) | (with_reducible refine Kd.C_alloc ?_ _) | (with_reducible refine Kd.C_drewN ?_ _) | (with_reducible refine Kd.C_drew ?_))); (case side2 => exact HC0.out); rintro e w' ⟨rfl, ⟨nd, rfl⟩⟩; refine ⟨_, rfl, ?_⟩) | ((with_reducible refine gate_dst (N := 41) rfl ?_); (try (refine gate_guard (by rfl) ?_; dsimp only)); refine Kd.R_lit (Kd.int .i64) _ 3 ?hg (N := 41) ?hd (xs := ([a1] : List Int)) (inner := [.int .i64 a1]) (ok := fun _ => True) (okp := fun _ => True) ?hr ?hp (fun _ hk => hk) trivial (Below.refl _ _) (Nat.le_refl _) (by simp) ?_; (case hd => rfl); (case hg => rfl); (case hr => first | (go_simp; done) | (go_simp; rfl)); (case hp => exact (Reps.one (show Kd.M (Kd.int .i64) _ _ _ a1 [.int .i64 a1] from rfl) (Reps.none _ _))); intro v271 w19 ho20 hb hg_ hnew_; (try clear hg_); (try clear hnew_); (first | rw [← Ny270.out] at ho20 | (simp only [Int.reduceToNat] at ho20; rw [← Ny270.out] at ho20)); have n0_ := Aside0.mk (Kd.R_lower ho20 (below_size (by repeat (first | (with_reducible first | exact HB.out | apply below_alloc | apply pw_below_drewN | apply below_drew1) | exact HB.out)))); have n1_ := Aside0.mk (below_step (by repeat (first | (with_reducible first | exact HB.out | apply below_alloc | apply pw_below_drewN | apply below_drew1) | exact HB.out)) hb); clear HB; have HO272 := n0_; have HB := n1_; clear n0_ n1_; (try clear hb); (try clear ho20); obtain ⟨Ao21, co21, eo21⟩ := Kd.R_slice HO272.out; subst eo21) | (go_at_call 32; (with_reducible refine (semigroupref14_In.calls kj3 _ _ l0 _ _ y270 t273 _ ?side1 ?side2 ?side3 ?side4 A18.out).mono ?_); (case side1 => repeat (first | exact (Kd.C_below HR0.out HB.out) | (with_reducible refine Kd.C_alloc ?_ _) | (with_reducible refine Kd.C_drewN ?_ _) | (with_reducible refine Kd.C_drew ?_))); (case side2 => exact HC0.out); (case side3 => repeat (first | exact (Kd.R_reads' HO272.out).2.2 | (with_reducible refine Kd.C_alloc ?_ _) | (with_reducible refine Kd.C_drewN ?_ _) | (with_reducible refine Kd.C_drew ?_))); (case side4 => exact (Kd.R_reads' HO272.out).2.1); rintro e w' ⟨rfl, ⟨nd, rfl⟩⟩))
            go_meet
            case rel => exact ⟨_, (!t273), (by first | rfl | (simp; done) | (simp [*]; done)), H', ⟨by have := HJ3.out; first | omega | exact Nat.le_refl _⟩, ⟨by repeat (first | (with_reducible first | exact HB.out | apply below_alloc | apply pw_below_drewN | apply below_drew1) | exact HB.out)⟩⟩
          · replace c17 := Bool.eq_false_iff.mpr c17
            subst c17
            have H1 : (semigrouplaw14_MultPowers.j1 kj3 l0 a1 a2 t265 t266 t267 t268 true) = some r := by rw [if_neg (show ¬ (false = true) by decide)] at H; exact H
            clear H
            have H := H1
            clear H1
            have H' := Aside0.mk H
            clear H
            go_wp2_with (first | ((with_reducible refine gate_callee (f := 24) rfl ?_); refine goesL_ (some 36) rfl rfl Try.func24 (by kernel_rfl) rfl #[.slice A0 l0.length c0] rfl (by (try simp only [List.map_toArray, List.map_cons, List.map_nil]); first | done | rfl | (simp only [List.length_drop, List.length_take]; rfl)) ?_; (with_reducible refine (semigroupref14_Valid.calls kj3 _ _ l0 false _ ?side1 ?side2 A16.out).mono ?_); (case side1 => repeat (first | exact (Kd.C_below HR0.out HB.out) | (with_reducible refine Kd.C_alloc ?_ _) | (with_reducible refine Kd.C_drewN ?_ _) | (with_reducible refine Kd.C_drew ?_))); (case side2 => exact HC0.out); rintro e w' ⟨rfl, ⟨nd, rfl⟩⟩; refine ⟨_, rfl, ?_⟩))
            go_meet
            case rel => exact ⟨_, (true), (by first | rfl | (simp; done) | (simp [*]; done)), H', ⟨by have := HJ3.out; first | omega | exact Nat.le_refl _⟩, ⟨by repeat (first | (with_reducible first | exact HB.out | apply below_alloc | apply pw_below_drewN | apply below_drew1) | exact HB.out)⟩⟩
        case rest =>
          clear HC13
          try clear c1
          try clear c2
          try clear p2
          try clear c3
          try clear c5
          try clear c6
          try clear c6b0
          try clear c6b1
          try clear c7
          try clear c16
          try clear c17
          try clear p2
          obtain ⟨kq, x44_12, rfl, HA, HJ12, HB⟩ := hcut
          cases kq with
          | zero => exact absurd HA.out (by simp [semigrouplaw14_MultPowers.j1])
          | succ kj12 =>
            have H := HA.out
            clear HA
            simp only [semigrouplaw14_MultPowers.j1] at H
            by_cases c22 : x44_12 = true
            · subst c22
              have H1 : (if t265 = (-1) then (if t266 = (-1) then (if t267 = 0 then (if t268 = 0 then ((semigrouplaw14_awake.f kj12).bind fun t274 => (some t274)) else (some false)) else (some false)) else (some false)) else (some false)) = some r := by rw [if_pos rfl] at H; exact H
              clear H
              have H := H1
              clear H1
              by_cases c23 : t265 = (-1)
              · rw [if_pos c23] at H
                have c23b0 : (t265 == (-1)) = true := beq_iff_eq.mpr c23
                have c23b1 : (t265 != (-1)) = false := bne_eq_false_iff_eq.mpr c23
                clear c23
                by_cases c24 : t266 = (-1)
                · rw [if_pos c24] at H
                  have c24b0 : (t266 == (-1)) = true := beq_iff_eq.mpr c24
                  have c24b1 : (t266 != (-1)) = false := bne_eq_false_iff_eq.mpr c24
                  clear c24
                  by_cases c25 : t267 = 0
                  · rw [if_pos c25] at H
                    have c25b0 : (t267 == 0) = true := beq_iff_eq.mpr c25
                    have c25b1 : (t267 != 0) = false := bne_eq_false_iff_eq.mpr c25
                    clear c25
                    by_cases c26 : t268 = 0
                    · rw [if_pos c26] at H
                      have c26b0 : (t268 == 0) = true := beq_iff_eq.mpr c26
                      have c26b1 : (t268 != 0) = false := bne_eq_false_iff_eq.mpr c26
                      clear c26
                      replace H := Option.bind_eq_some_iff.mp H
                      obtain ⟨t274, A270, H⟩ := H
                      replace H : (some t274) = some r := H
                      have A27 := Aside0.mk A270
                      clear A270
                      obtain rfl := Option.some.inj H
                      go_wp2_with (first | (go_at_call 16; (with_reducible refine (semigrouplaw14_awake.calls kj12  t274 _ A27.out).mono ?_); rintro e w28 ⟨rfl, hb⟩; have n0_ := Aside0.mk (below_step (by repeat (first | (with_reducible first | exact HB.out | apply below_alloc | apply pw_below_drewN | apply below_drew1) | exact HB.out)) hb); clear HB; have HB := n0_; clear n0_; (try clear hb); (try clear hb2); (try clear hk); (try clear hi)))
                      go_ret
                      exact ⟨by first | rfl | (simp [errW_none, errW_some] <;> rfl) | (simp [*, errW_none, errW_some] <;> rfl), by repeat (first | (with_reducible first | exact HB.out | apply below_alloc | apply pw_below_drewN | apply below_drew1) | exact HB.out)⟩
                    · rw [if_neg c26] at H
                      have c26b0 : (t268 == 0) = false := beq_eq_false_iff_ne.mpr c26
                      have c26b1 : (t268 != 0) = true := bne_iff_ne.mpr c26
                      obtain rfl := Option.some.inj H
                      go_wp2
                      go_ret
                      exact ⟨by first | rfl | (simp [errW_none, errW_some] <;> rfl) | (simp [*, errW_none, errW_some] <;> rfl), by repeat (first | (with_reducible first | exact HB.out | apply below_alloc | apply pw_below_drewN | apply below_drew1) | exact HB.out)⟩
                  · rw [if_neg c25] at H
                    have c25b0 : (t267 == 0) = false := beq_eq_false_iff_ne.mpr c25
                    have c25b1 : (t267 != 0) = true := bne_iff_ne.mpr c25
                    obtain rfl := Option.some.inj H
                    go_wp2
                    go_ret
                    exact ⟨by first | rfl | (simp [errW_none, errW_some] <;> rfl) | (simp [*, errW_none, errW_some] <;> rfl), by repeat (first | (with_reducible first | exact HB.out | apply below_alloc | apply pw_below_drewN | apply below_drew1) | exact HB.out)⟩
                · rw [if_neg c24] at H
                  have c24b0 : (t266 == (-1)) = false := beq_eq_false_iff_ne.mpr c24
                  have c24b1 : (t266 != (-1)) = true := bne_iff_ne.mpr c24
                  obtain rfl := Option.some.inj H
                  go_wp2
                  go_ret
                  exact ⟨by first | rfl | (simp [errW_none, errW_some] <;> rfl) | (simp [*, errW_none, errW_some] <;> rfl), by repeat (first | (with_reducible first | exact HB.out | apply below_alloc | apply pw_below_drewN | apply below_drew1) | exact HB.out)⟩
              · rw [if_neg c23] at H
                have c23b0 : (t265 == (-1)) = false := beq_eq_false_iff_ne.mpr c23
                have c23b1 : (t265 != (-1)) = true := bne_iff_ne.mpr c23
                obtain rfl := Option.some.inj H
                go_wp2
                go_ret
                exact ⟨by first | rfl | (simp [errW_none, errW_some] <;> rfl) | (simp [*, errW_none, errW_some] <;> rfl), by repeat (first | (with_reducible first | exact HB.out | apply below_alloc | apply pw_below_drewN | apply below_drew1) | exact HB.out)⟩
            · replace c22 := Bool.eq_false_iff.mpr c22
              subst c22
              have H1 : ((semigroupref14_IndexPeriod.f kj12 l0 a1).bind fun bt275 => (if t267 = bt275.1 then (if t268 = bt275.2 then ((semigroupref14_Omega.f kj12 l0 a1).bind fun t277 => (semigrouplaw14_MultPowers.j2 kj12 l0 a1 a2 t265 (t266 != t277))) else (semigrouplaw14_MultPowers.j2 kj12 l0 a1 a2 t265 true)) else (semigrouplaw14_MultPowers.j2 kj12 l0 a1 a2 t265 true))) = some r := by rw [if_neg (show ¬ (false = true) by decide)] at H; exact H
              clear H
              have H := H1
              clear H1
              replace H := Option.bind_eq_some_iff.mp H
              obtain ⟨⟨t275, t276⟩, A290, H⟩ := H
              replace H : (if t267 = t275 then (if t268 = t276 then ((semigroupref14_Omega.f kj12 l0 a1).bind fun t277 => (semigrouplaw14_MultPowers.j2 kj12 l0 a1 a2 t265 (t266 != t277))) else (semigrouplaw14_MultPowers.j2 kj12 l0 a1 a2 t265 true)) else (semigrouplaw14_MultPowers.j2 kj12 l0 a1 a2 t265 true)) = some r := H
              have A29 := Aside0.mk A290
              clear A290
              have HC30 := Aside0.mk H
              clear H
              go_upto_region 8 with (first | ((with_reducible refine gate_callee (f := 33) rfl ?_); refine goesL_ (some 65) rfl rfl Try.func33 (by kernel_rfl) rfl #[.slice A0 l0.length c0, .int .i64 a1] rfl (by (try simp only [List.map_toArray, List.map_cons, List.map_nil]); first | done | rfl | (simp only [List.length_drop, List.length_take]; rfl)) ?_; (with_reducible refine (semigroupref14_IndexPeriod.calls kj12 _ _ l0 a1 t275 t276 _ ?side1 ?side2 A29.out).mono ?_); (case side1 => repeat (first | exact (Kd.C_below HR0.out HB.out) | (with_reducible refine Kd.C_alloc ?_ _) | (with_reducible refine Kd.C_drewN ?_ _) | (with_reducible refine Kd.C_drew ?_))); (case side2 => exact HC0.out); rintro e w31 ⟨rfl, hb⟩; refine ⟨_, rfl, ?_⟩; have n0_ := Aside0.mk (below_step (by repeat (first | (with_reducible first | exact HB.out | apply below_alloc | apply pw_below_drewN | apply below_drew1) | exact HB.out)) hb); clear HB; have HB := n0_; clear n0_; (try clear hb); (try clear hb2); (try clear hk); (try clear hi)))
              (try simp only [Act.put, List.setIfInBounds_toArray, List.set_cons_zero, List.set_cons_succ])
              go_cut [82] (fun v82 wc => ∃ (kq : Nat) (x82_29 : Bool), v82 = .bool x82_29 ∧ Aside0 (semigrouplaw14_MultPowers.j2 kq l0 a1 a2 t265 x82_29 = some r) ∧ Aside0 (kq ≤ kj12) ∧ Aside0 (Below w.heap.size w wc))
              case first =>
                have H := HC30.out
                clear HC30
                by_cases c32 : t267 = t275
                · rw [if_pos c32] at H
                  have c32b0 : (t267 == t275) = true := beq_iff_eq.mpr c32
                  have c32b1 : (t267 != t275) = false := bne_eq_false_iff_eq.mpr c32
                  clear c32
                  (first | rw [c32b0] | (simp only [i64_w, i32_w]; rw [c32b0]) | skip)
                  by_cases c33 : t268 = t276
                  · rw [if_pos c33] at H
                    have c33b0 : (t268 == t276) = true := beq_iff_eq.mpr c33
                    have c33b1 : (t268 != t276) = false := bne_eq_false_iff_eq.mpr c33
                    clear c33
                    replace H := Option.bind_eq_some_iff.mp H
                    obtain ⟨t277, A340, H⟩ := H
                    replace H : (semigrouplaw14_MultPowers.j2 kj12 l0 a1 a2 t265 (t266 != t277)) = some r := H
                    have A34 := Aside0.mk A340
                    clear A340
                    have H' := Aside0.mk H
                    clear H
                    go_wp2_with (first | (go_at_call 34; (with_reducible refine (semigroupref14_Omega.calls kj12 _ _ l0 a1 t277 _ ?side1 ?side2 A34.out).mono ?_); (case side1 => repeat (first | exact (Kd.C_below HR0.out HB.out) | (with_reducible refine Kd.C_alloc ?_ _) | (with_reducible refine Kd.C_drewN ?_ _) | (with_reducible refine Kd.C_drew ?_))); (case side2 => exact HC0.out); rintro e w35 ⟨rfl, hb⟩; have n0_ := Aside0.mk (below_step (by repeat (first | (with_reducible first | exact HB.out | apply below_alloc | apply pw_below_drewN | apply below_drew1) | exact HB.out)) hb); clear HB; have HB := n0_; clear n0_; (try clear hb); (try clear hb2); (try clear hk); (try clear hi)))
                    go_meet
                    case rel => exact ⟨_, ((t266 != t277)), (by first | rfl | (simp; done) | (simp [*]; done)), H', ⟨by have := HJ3.out; have := HJ12.out; first | omega | exact Nat.le_refl _⟩, ⟨by repeat (first | (with_reducible first | exact HB.out | apply below_alloc | apply pw_below_drewN | apply below_drew1) | exact HB.out)⟩⟩
                  · rw [if_neg c33] at H
                    have c33b0 : (t268 == t276) = false := beq_eq_false_iff_ne.mpr c33
                    have c33b1 : (t268 != t276) = true := bne_iff_ne.mpr c33
                    have H' := Aside0.mk H
                    clear H
                    go_wp2
                    go_meet
                    case rel => exact ⟨_, (true), (by first | rfl | (simp; done) | (simp [*]; done)), H', ⟨by have := HJ3.out; have := HJ12.out; first | omega | exact Nat.le_refl _⟩, ⟨by repeat (first | (with_reducible first | exact HB.out | apply below_alloc | apply pw_below_drewN | apply below_drew1) | exact HB.out)⟩⟩
                · rw [if_neg c32] at H
                  have c32b0 : (t267 == t275) = false := beq_eq_false_iff_ne.mpr c32
                  have c32b1 : (t267 != t275) = true := bne_iff_ne.mpr c32
                  (first | rw [c32b0] | (simp only [i64_w, i32_w]; rw [c32b0]) | skip)
                  have H' := Aside0.mk H
                  clear H
                  go_wp2
                  go_meet
                  case rel => exact ⟨_, (true), (by first | rfl | (simp; done) | (simp [*]; done)), H', ⟨by have := HJ3.out; have := HJ12.out; first | omega | exact Nat.le_refl _⟩, ⟨by repeat (first | (with_reducible first | exact HB.out | apply below_alloc | apply pw_below_drewN | apply below_drew1) | exact HB.out)⟩⟩
              case rest =>
                clear HC30
                try clear c1
                try clear c2
                try clear p2
                try clear c3
                try clear c5
                try clear c6
                try clear c6b0
                try clear c6b1
                try clear c7
                try clear c16
                try clear c17
                try clear c22
                try clear c23
                try clear c23b0
                try clear c23b1
                try clear c24
                try clear c24b0
                try clear c24b1
                try clear c25
                try clear c25b0
                try clear c25b1
                try clear c26
                try clear c26b0
                try clear c26b1
                try clear c29
                try clear c30
                try clear c31
                try clear c32
                try clear c32b0
                try clear c32b1
                try clear c33
                try clear c33b0
                try clear c33b1
                try clear p2
                obtain ⟨kq, x82_29, rfl, HA, HJ29, HB⟩ := hcut
                cases kq with
                | zero => exact absurd HA.out (by simp [semigrouplaw14_MultPowers.j2])
                | succ kj29 =>
                  have H := HA.out
                  clear HA
                  simp only [semigrouplaw14_MultPowers.j2] at H
                  by_cases c36 : x82_29 = true
                  · subst c36
                    have H1 : (some false) = some r := by rw [if_pos rfl] at H; exact H
                    clear H
                    have H := H1
                    clear H1
                    obtain rfl := Option.some.inj H
                    go_wp2
                    go_ret
                    exact ⟨by first | rfl | (simp [errW_none, errW_some] <;> rfl) | (simp [*, errW_none, errW_some] <;> rfl), by repeat (first | (with_reducible first | exact HB.out | apply below_alloc | apply pw_below_drewN | apply below_drew1) | exact HB.out)⟩
                  · replace c36 := Bool.eq_false_iff.mpr c36
                    subst c36
                    have H1 : (if a2 < 1 then (if t265 = (-1) then ((semigrouplaw14_awake.f kj29).bind fun t278 => (some t278)) else (some false)) else ((semigroupref14_Power.f kj29 l0 a1 a2).bind fun t279 => (if t265 = t279 then ((semigrouplaw14_awake.f kj29).bind fun t280 => (some t280)) else (some false)))) = some r := by rw [if_neg (show ¬ (false = true) by decide)] at H; exact H
                    clear H
                    have H := H1
                    clear H1
                    by_cases c37 : a2 < 1
                    · rw [if_pos c37] at H
                      have c37b0 : decide (a2 < 1) = true := decide_eq_true c37
                      clear c37
                      by_cases c38 : t265 = (-1)
                      · rw [if_pos c38] at H
                        have c38b0 : (t265 == (-1)) = true := beq_iff_eq.mpr c38
                        have c38b1 : (t265 != (-1)) = false := bne_eq_false_iff_eq.mpr c38
                        clear c38
                        replace H := Option.bind_eq_some_iff.mp H
                        obtain ⟨t278, A390, H⟩ := H
                        replace H : (some t278) = some r := H
                        have A39 := Aside0.mk A390
                        clear A390
                        obtain rfl := Option.some.inj H
                        go_wp2_with (first | (go_at_call 16; (with_reducible refine (semigrouplaw14_awake.calls kj29  t278 _ A39.out).mono ?_); rintro e w40 ⟨rfl, hb⟩; have n0_ := Aside0.mk (below_step (by repeat (first | (with_reducible first | exact HB.out | apply below_alloc | apply pw_below_drewN | apply below_drew1) | exact HB.out)) hb); clear HB; have HB := n0_; clear n0_; (try clear hb); (try clear hb2); (try clear hk); (try clear hi)))
                        go_ret
                        exact ⟨by first | rfl | (simp [errW_none, errW_some] <;> rfl) | (simp [*, errW_none, errW_some] <;> rfl), by repeat (first | (with_reducible first | exact HB.out | apply below_alloc | apply pw_below_drewN | apply below_drew1) | exact HB.out)⟩
                      · rw [if_neg c38] at H
                        have c38b0 : (t265 == (-1)) = false := beq_eq_false_iff_ne.mpr c38
                        have c38b1 : (t265 != (-1)) = true := bne_iff_ne.mpr c38
                        obtain rfl := Option.some.inj H
                        go_wp2
                        go_ret
                        exact ⟨by first | rfl | (simp [errW_none, errW_some] <;> rfl) | (simp [*, errW_none, errW_some] <;> rfl), by repeat (first | (with_reducible first | exact HB.out | apply below_alloc | apply pw_below_drewN | apply below_drew1) | exact HB.out)⟩
                    · rw [if_neg c37] at H
                      have c37b0 : decide (a2 < 1) = false := decide_eq_false c37
                      clear c37
                      replace H := Option.bind_eq_some_iff.mp H
                      obtain ⟨t279, A410, H⟩ := H
                      replace H : (if t265 = t279 then ((semigrouplaw14_awake.f kj29).bind fun t280 => (some t280)) else (some false)) = some r := H
                      have A41 := Aside0.mk A410
                      clear A410
                      by_cases c42 : t265 = t279
                      · rw [if_pos c42] at H
                        have c42b0 : (t265 == t279) = true := beq_iff_eq.mpr c42
                        have c42b1 : (t265 != t279) = false := bne_eq_false_iff_eq.mpr c42
                        clear c42
                        replace H := Option.bind_eq_some_iff.mp H
                        obtain ⟨t280, A430, H⟩ := H
                        replace H : (some t280) = some r := H
                        have A43 := Aside0.mk A430
                        clear A430
                        obtain rfl := Option.some.inj H
                        go_wp2_with (first | ((with_reducible refine gate_callee (f := 35) rfl ?_); refine goesL_ (some 94) rfl rfl Try.func35 (by kernel_rfl) rfl #[.slice A0 l0.length c0, .int .i64 a1, .int .i64 a2] rfl (by (try simp only [List.map_toArray, List.map_cons, List.map_nil]); first | done | rfl | (simp only [List.length_drop, List.length_take]; rfl)) ?_; (with_reducible refine (semigroupref14_Power.calls kj29 _ _ l0 a1 a2 t279 _ ?side1 ?side2 A41.out).mono ?_); (case side1 => repeat (first | exact (Kd.C_below HR0.out HB.out) | (with_reducible refine Kd.C_alloc ?_ _) | (with_reducible refine Kd.C_drewN ?_ _) | (with_reducible refine Kd.C_drew ?_))); (case side2 => exact HC0.out); rintro e w44 ⟨rfl, hb⟩; refine ⟨_, rfl, ?_⟩; have n0_ := Aside0.mk (below_step (by repeat (first | (with_reducible first | exact HB.out | apply below_alloc | apply pw_below_drewN | apply below_drew1) | exact HB.out)) hb); clear HB; have HB := n0_; clear n0_; (try clear hb); (try clear hb2); (try clear hk); (try clear hi)) | (go_at_call 16; (with_reducible refine (semigrouplaw14_awake.calls kj29  t280 _ A43.out).mono ?_); rintro e w45 ⟨rfl, hb⟩; have n0_ := Aside0.mk (below_step (by repeat (first | (with_reducible first | exact HB.out | apply below_alloc | apply pw_below_drewN | apply below_drew1) | exact HB.out)) hb); clear HB; have HB := n0_; clear n0_; (try clear hb); (try clear hb2); (try clear hk); (try clear hi)))
                        go_ret
                        exact ⟨by first | rfl | (simp [errW_none, errW_some] <;> rfl) | (simp [*, errW_none, errW_some] <;> rfl), by repeat (first | (with_reducible first | exact HB.out | apply below_alloc | apply pw_below_drewN | apply below_drew1) | exact HB.out)⟩
                      · rw [if_neg c42] at H
                        have c42b0 : (t265 == t279) = false := beq_eq_false_iff_ne.mpr c42
                        have c42b1 : (t265 != t279) = true := bne_iff_ne.mpr c42
                        obtain rfl := Option.some.inj H
                        go_wp2_with (first | ((with_reducible refine gate_callee (f := 35) rfl ?_); refine goesL_ (some 94) rfl rfl Try.func35 (by kernel_rfl) rfl #[.slice A0 l0.length c0, .int .i64 a1, .int .i64 a2] rfl (by (try simp only [List.map_toArray, List.map_cons, List.map_nil]); first | done | rfl | (simp only [List.length_drop, List.length_take]; rfl)) ?_; (with_reducible refine (semigroupref14_Power.calls kj29 _ _ l0 a1 a2 t279 _ ?side1 ?side2 A41.out).mono ?_); (case side1 => repeat (first | exact (Kd.C_below HR0.out HB.out) | (with_reducible refine Kd.C_alloc ?_ _) | (with_reducible refine Kd.C_drewN ?_ _) | (with_reducible refine Kd.C_drew ?_))); (case side2 => exact HC0.out); rintro e w46 ⟨rfl, hb⟩; refine ⟨_, rfl, ?_⟩; have n0_ := Aside0.mk (below_step (by repeat (first | (with_reducible first | exact HB.out | apply below_alloc | apply pw_below_drewN | apply below_drew1) | exact HB.out)) hb); clear HB; have HB := n0_; clear n0_; (try clear hb); (try clear hb2); (try clear hk); (try clear hi)))
                        go_ret
                        exact ⟨by first | rfl | (simp [errW_none, errW_some] <;> rfl) | (simp [*, errW_none, errW_some] <;> rfl), by repeat (first | (with_reducible first | exact HB.out | apply below_alloc | apply pw_below_drewN | apply below_drew1) | exact HB.out)⟩

/-! ### semigrouplaw14_small: function 36 -/
def semigrouplaw14_small.f (k : Nat) (l0 : List (List Int)) (a1 : Int) : Option (Bool) := if (l0.length : Int) ≤ a1 then ((semigroupref14_Valid.f k l0).bind fun t281 => (some t281)) else (some false)
theorem semigrouplaw14_small.mono : ∀ a0 a1 k, LeO (semigrouplaw14_small.f k a0 a1) (semigrouplaw14_small.f (k + 1) a0 a1) := by
  intro a0 a1 k
  unfold semigrouplaw14_small.f
  repeat' first
      | (with_reducible exact semigroupref14_Valid.mono _ _)
      | (with_reducible exact LeO.refl _)
      | (with_reducible exact LeO.none _)
      | (with_reducible refine LeO.ite ?_ ?_)
      | (with_reducible refine LeO.bind ?_ (fun _ => ?_))
      | exact semigroupref14_Valid.mono _ _
      | exact LeO.none _
      | refine LeO.ite ?_ ?_
      | refine LeO.bind ?_ (fun _ => ?_)
set_option maxHeartbeats 8000000 in
set_option maxRecDepth 100000 in
theorem semigrouplaw14_small.calls (k : Nat) (A0 : Option Addr) (c0 : Nat) (l0 : List (List Int)) (a1 : Int) (r : Bool) (w : World) (hr0 : Kd.C (Kd.slice 3 (Kd.int .i64)) w A0 l0.length l0) (hc0 : l0.length ≤ c0) (h : semigrouplaw14_small.f k l0 a1 = some r) :
    Calls Try.prog 36 #[.slice A0 l0.length c0, .int .i64 a1] w fun e w' => e = .returned (.bool r) ∧ Drawn0 w w' := by
  have HR0 := Aside0.mk hr0
  have HC0 := Aside0.mk hc0
  (try clear hr0); (try clear hc0)
  have H : (if (l0.length : Int) ≤ a1 then ((semigroupref14_Valid.f k l0).bind fun t281 => (some t281)) else (some false)) = some r := h
  clear h
  by_cases c3 : (l0.length : Int) ≤ a1
  · rw [if_pos c3] at H
    have c3b0 : decide ((l0.length : Int) ≤ a1) = true := decide_eq_true c3
    clear c3
    replace H := Option.bind_eq_some_iff.mp H
    obtain ⟨t281, A40, H⟩ := H
    replace H : (some t281) = some r := H
    have A4 := Aside0.mk A40
    clear A40
    obtain rfl := Option.some.inj H
    go_enter Try.func36, Try.ntmps36
    go_wp2_with (first | (go_at_call 24; (with_reducible refine (semigroupref14_Valid.calls k _ _ l0 t281 _ ?side1 ?side2 A4.out).mono ?_); (case side1 => repeat (first | exact HR0.out | (with_reducible refine Kd.C_alloc ?_ _) | (with_reducible refine Kd.C_drewN ?_ _) | (with_reducible refine Kd.C_drew ?_))); (case side2 => exact HC0.out); rintro e w' ⟨rfl, ⟨nd, rfl⟩⟩))
    go_ret
    exact ⟨by first | rfl | (simp; done) | (simp [*]; done), by repeat (first | exact Drawn0.refl _ | apply Drawn0.step)⟩
  · rw [if_neg c3] at H
    have c3b0 : decide ((l0.length : Int) ≤ a1) = false := decide_eq_false c3
    clear c3
    obtain rfl := Option.some.inj H
    go_enter Try.func36, Try.ntmps36
    go_wp2
    go_ret
    exact ⟨by first | rfl | (simp; done) | (simp [*]; done), by repeat (first | exact Drawn0.refl _ | apply Drawn0.step)⟩

-- NOT PRINTED: function 6 (semigrouplaw14_MultExponents)

end Go.Proofs.Ytlhckcldeojfmaa.PAll
