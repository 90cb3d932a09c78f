-- printed for this claim by printall.sh out of the translation; Lean checks it
import Derived.Test.YtlhckcldeojfmaaPAllx0
import Derived.Test.YtlhckcldeojfmaaPAllx1
import Derived.Test.YtlhckcldeojfmaaPAllx3
import Derived.Test.YtlhckcldeojfmaaPAllx6
import Derived.Test.YtlhckcldeojfmaaPAllx10
import Derived.Test.YtlhckcldeojfmaaPAllx11
namespace Go.Proofs.Ytlhckcldeojfmaa.PAll
open Go.RowKit Go.Proofs.YtlhckcldeojfmaaW.PrintWords Go.Proofs.YtlhckcldeojfmaaW.PrintLast Go.Proofs.YtlhckcldeojfmaaW.PrintMore
attribute [local go_sem] max2_int min2_int max_two min_two max_three min_three max_four min_four   -- for this text's walks alone
set_option linter.unusedVariables false
set_option linter.unusedSimpArgs false

/-! ### semigroupref03_Members: function 70 -/
def semigroupref03_Members.l0 : Nat → List Int → List Bool → Int → Int → Option (List Int)
  | 0, _, _, _, _ => none
  | k + 1, x3, x6, x7, x8 => if x8 < x7 then (if 0 ≤ x8 then (if x8 < (x6.length : Int) then (if rdOf false x6 x8 = true then (if x3.length < 17592186044416 then (semigroupref03_Members.l0 k (x3 ++ [x8]) x6 x7 (wrap64 (x8 + 1))) else (none)) else (semigroupref03_Members.l0 k x3 x6 x7 (wrap64 (x8 + 1)))) else (none)) else (none)) else (some x3)
def semigroupref03_Members.f (k : Nat) (l0 : List Bool) : Option (List Int) := semigroupref03_Members.l0 k ([] : List Int) l0 (l0.length : Int) 0
theorem semigroupref03_Members.mono_l : ∀ k, (∀ y0 y1 y2 y3, LeO (semigroupref03_Members.l0 k y0 y1 y2 y3) (semigroupref03_Members.l0 (k + 1) y0 y1 y2 y3))
  | 0 => fun _ _ _ _ r h => by simp [semigroupref03_Members.l0] at h
  | k + 1 => by
    have ih0 := semigroupref03_Members.mono_l k
    · intro y0 y1 y2 y3
      unfold semigroupref03_Members.l0
      repeat' first
      | (with_reducible exact ih0 _ _ _ _)
      | (with_reducible exact LeO.refl _)
      | (with_reducible exact LeO.none _)
      | (with_reducible refine LeO.ite ?_ ?_)
      | (with_reducible refine LeO.bind ?_ (fun _ => ?_))
      | exact ih0 _ _ _ _
      | exact LeO.none _
      | refine LeO.ite ?_ ?_
      | refine LeO.bind ?_ (fun _ => ?_)
theorem semigroupref03_Members.mono : ∀ a0 k, LeO (semigroupref03_Members.f k a0) (semigroupref03_Members.f (k + 1) a0) := by
  intro a0 k
  have ih0 := semigroupref03_Members.mono_l k
  unfold semigroupref03_Members.f
  repeat' first
      | (with_reducible exact ih0 _ _ _ _)
      | (with_reducible exact LeO.refl _)
      | (with_reducible exact LeO.none _)
      | (with_reducible refine LeO.ite ?_ ?_)
      | (with_reducible refine LeO.bind ?_ (fun _ => ?_))
      | exact ih0 _ _ _ _
      | exact LeO.none _
      | refine LeO.ite ?_ ?_
      | refine LeO.bind ?_ (fun _ => ?_)
set_option maxHeartbeats 8000000 in
set_option maxRecDepth 100000 in
theorem semigroupref03_Members.calls (k : Nat) (A0 : Option Addr) (c0 : Nat) (l0 : List Bool) (r : List Int) (w : World) (hr0 : Kd.C Kd.bool w A0 l0.length l0) (hc0 : l0.length ≤ c0) (h : semigroupref03_Members.f k l0 = some r) :
    Calls Try.prog 70 #[.slice A0 l0.length c0] w fun e w' => ∃ v0_ : Value, e = .returned (v0_) ∧ Kd.R (Kd.int .i64) 3 w' w.heap.size (fun _ => True) v0_ r ∧ Below w.heap.size w w' := by
  have HR0 := Aside0.mk hr0
  have HC0 := Aside0.mk hc0
  (try clear hr0); (try clear hc0)
  have HB := Aside0.mk (Below.refl w.heap.size w)
  have H : (semigroupref03_Members.l0 k ([] : List Int) l0 (l0.length : Int) 0) = some r := h
  clear h
  have H' := Aside0.mk H
  clear H
  go_enter Try.func70, Try.ntmps70
  go_wp2
  go_loopg [3, 8] k (fun kq v3 v8 w' => ∃ (x3_1 : List Int) (x8_1 : Int), v8 = .int .i64 x8_1 ∧ Aside0 (semigroupref03_Members.l0 kq x3_1 l0 (l0.length : Int) x8_1 = some r) ∧ Aside0 (kq ≤ k) ∧ Aside0 (Kd.R (Kd.int .i64) 3 w' w.heap.size (fun _ => True) v3 x3_1) ∧ Aside0 (Below w.heap.size w w'))
  case atStart => exact ⟨(([] : List Int)), (0), (by first | rfl | (simp; done) | (simp [*]; done)), H', ⟨Nat.le_refl _⟩, ⟨by first | exact Kd.R_nil _ _ _ _ _ | exact Kd.N_nil _ _ _ _ _ | exact Kd.V_nil _ _ _ _ _ | exact Kd.Q_nil _ _ _ _ _ | exact Kd.S_nil _ _ _ _ _⟩, ⟨by repeat (first | (with_reducible first | exact HB.out | apply below_alloc | apply pw_below_drewN | apply below_drew1) | exact HB.out)⟩⟩
  case round =>
    clear H'
    obtain ⟨x3_1, x8_1, rfl, HA, HK1, HO_3, HB⟩ := hrel
    cases gk with
    | zero => exact absurd HA.out (by simp [semigroupref03_Members.l0])
    | succ k1 =>
      have H := HA.out
      clear HA
      simp only [semigroupref03_Members.l0] at H
      by_cases c2 : x8_1 < (l0.length : Int)
      · rw [if_pos c2] at H
        have c2b0 : decide (x8_1 < (l0.length : Int)) = true := decide_eq_true c2
        clear c2
        by_cases c3 : 0 ≤ x8_1
        · rw [if_pos c3] at H
          have c3b0 : decide (0 ≤ x8_1) = true := decide_eq_true c3
          clear c3
          by_cases c4 : x8_1 < (l0.length : Int)
          · rw [if_pos c4] at H
            have c4b0 : decide (x8_1 < (l0.length : Int)) = true := decide_eq_true c4
            clear c4
            obtain ⟨bq5, hbq5⟩ : ∃ b_ : Bool, b_ = (rdOf false l0 x8_1) := ⟨_, rfl⟩
            replace H : (if bq5 = true then (if x3_1.length < 17592186044416 then (semigroupref03_Members.l0 k1 (x3_1 ++ [x8_1]) l0 (l0.length : Int) (wrap64 (x8_1 + 1))) else (none)) else (semigroupref03_Members.l0 k1 x3_1 l0 (l0.length : Int) (wrap64 (x8_1 + 1)))) = some r := by rw [← hbq5] at H; exact H
            have Nbq5 := Aside0.mk hbq5
            clear hbq5
            by_cases c6 : bq5 = true
            · subst c6
              have H1 : (if x3_1.length < 17592186044416 then (semigroupref03_Members.l0 k1 (x3_1 ++ [x8_1]) l0 (l0.length : Int) (wrap64 (x8_1 + 1))) else (none)) = some r := by rw [if_pos rfl] at H; exact H
              clear H
              have H := H1
              clear H1
              by_cases c7 : x3_1.length < 17592186044416
              · rw [if_pos c7] at H
                have LMc7 := Aside0.mk c7
                clear c7
                obtain ⟨y379, hy379⟩ : ∃ y_ : List Int, y_ = (x3_1 ++ [x8_1]) := ⟨_, rfl⟩
                replace H : (semigroupref03_Members.l0 k1 y379 l0 (l0.length : Int) (wrap64 (x8_1 + 1))) = some r := by first | (rw [hy379]; with_reducible exact H) | (have H2_ := (Option.bind_some _ _).symm.trans H; rw [hy379]; with_reducible exact H2_) | (have H2_ := (Option.bind_some _ _).symm.trans H; with_reducible exact H2_) | with_reducible exact H | (rw [hy379]; exact H) | exact H
                have Ny379 := Aside0.mk hy379
                clear hy379
                have H' := Aside0.mk H
                clear H
                have p378 : 0 ≤ (x8_1 : Int) := of_decide_eq_true (by first | (with_reducible assumption) | assumption)
                have q378 : x8_1 < (l0.length : Int) := of_decide_eq_true (by first | (with_reducible assumption) | assumption)
                obtain ⟨ad378, e378, hx378_0⟩ := Kd.at_bool HR0.out x8_1 p378 q378
                (try rw [← Nbq5.out] at hx378_0)
                cases e378
                replace hx378_0 := (HB.out.cell (World.block_lt_of_cell? w _ hx378_0)).trans hx378_0
                replace p378 := eq_true p378
                replace q378 := eq_true q378
                go_wp2_with (first | ((with_reducible refine gate_builtin (b := .append) (xs := #[.tmp 14, .tmp 16]) rfl ?_); at_builtin; refine Kd.R_append (Kd.int .i64) (w0 := w) w.heap.size rfl (.tmp 14) (.tmp 16) 30 3 (.int .i64 0) 8 rfl Try.underlying30 info3 rfl (by decide) (by omega) u3 x3_1 x8_1 [.int .i64 x8_1] (fun _ => True) (fun _ => False) rfl rfl ?aP (fun _ hk => hk.elim) ?aF ?aO ?aB ?aS ?aL ?_; (case aP => exact rfl); (case aB => exact (by repeat (first | (with_reducible first | exact HB.out | apply below_alloc | apply pw_below_drewN | apply below_drew1) | exact HB.out))); (case aF => exact (fun _ _ => trivial)); (case aO => exact (by (with_reducible repeat (first | apply Kd.R_alloc | apply Kd.R_drewN | apply Kd.R_drew)); exact HO_3.out)); (case aS => exact (below_size (by repeat (first | (with_reducible first | exact HB.out | apply below_alloc | apply pw_below_drewN | apply below_drew1) | exact HB.out)))); (case aL => have := LMc7.out; omega); intro v380 w8 ho hb hg hat; rw [← Ny379.out] at ho; have n0_ := Aside0.mk (hb); have n1_ := Aside0.mk (ho); clear HB; clear HO_3; have HB := n0_; have HO381 := n1_; clear n0_ n1_; (try clear ho); (try clear hb); (try clear hg); (try clear hat)))
                go_roundg k1
                case measure => have := HK1.out; omega
                case rel => exact ⟨(y379), (wrap64 (x8_1 + 1)), (by first | rfl | (simp; done) | (simp [*]; done)), H', ⟨by have := HK1.out; omega⟩, ⟨by (with_reducible repeat (first | apply Kd.R_alloc | apply Kd.R_drewN | apply Kd.R_drew)); exact HO381.out⟩, ⟨by repeat (first | (with_reducible first | exact HB.out | apply below_alloc | apply pw_below_drewN | apply below_drew1) | exact HB.out)⟩⟩
              · rw [if_neg c7] at H
                exact absurd H (by simp)
            · replace c6 := Bool.eq_false_iff.mpr c6
              subst c6
              have H1 : (semigroupref03_Members.l0 k1 x3_1 l0 (l0.length : Int) (wrap64 (x8_1 + 1))) = some r := by rw [if_neg (show ¬ (false = true) by decide)] at H; exact H
              clear H
              have H := H1
              clear H1
              have H' := Aside0.mk H
              clear H
              have p378 : 0 ≤ (x8_1 : Int) := of_decide_eq_true (by first | (with_reducible assumption) | assumption)
              have q378 : x8_1 < (l0.length : Int) := of_decide_eq_true (by first | (with_reducible assumption) | assumption)
              obtain ⟨ad378, e378, hx378_0⟩ := Kd.at_bool HR0.out x8_1 p378 q378
              (try rw [← Nbq5.out] at hx378_0)
              cases e378
              replace hx378_0 := (HB.out.cell (World.block_lt_of_cell? w _ hx378_0)).trans hx378_0
              replace p378 := eq_true p378
              replace q378 := eq_true q378
              go_wp2
              go_roundg k1
              case measure => have := HK1.out; omega
              case rel => exact ⟨(x3_1), (wrap64 (x8_1 + 1)), (by first | rfl | (simp; done) | (simp [*]; done)), H', ⟨by have := HK1.out; omega⟩, ⟨by (with_reducible repeat (first | apply Kd.R_alloc | apply Kd.R_drewN | apply Kd.R_drew)); exact HO_3.out⟩, ⟨by repeat (first | (with_reducible first | exact HB.out | apply below_alloc | apply pw_below_drewN | apply below_drew1) | exact HB.out)⟩⟩
          · rw [if_neg c4] at H
            exact absurd H (by simp)
        · rw [if_neg c3] at H
          exact absurd H (by simp)
      · rw [if_neg c2] at H
        have c2b0 : decide (x8_1 < (l0.length : Int)) = false := decide_eq_false c2
        clear c2
        obtain rfl := Option.some.inj H
        go_wp2
        go_ret
        exact ⟨_, by first | rfl | (simp [errW_none, errW_some] <;> rfl) | (simp [*, errW_none, errW_some] <;> rfl), by (with_reducible repeat (first | apply Kd.R_alloc | apply Kd.R_drewN | apply Kd.R_drew)); exact HO_3.out, by repeat (first | (with_reducible first | exact HB.out | apply below_alloc | apply pw_below_drewN | apply below_drew1) | exact HB.out)⟩

/-! ### semigroupref14_Generated: function 41 -/
mutual
def semigroupref14_Generated.l0 : Nat → List (List Int) → List Bool → Bool → Option (List Int)
  | 0, _, _, _ => none
  | k + 1, x0, x5, x6 => if x6 = true then (semigroupref14_Generated.l1 k x0 x5 false (x0.length : Int) 0) else ((semigroupref03_Members.f k x5).bind fun t385 => (some t385))
def semigroupref14_Generated.l1 : Nat → List (List Int) → List Bool → Bool → Int → Int → Option (List Int)
  | 0, _, _, _, _, _ => none
  | k + 1, x0, x5, x6, x15, x16 => if x16 < x15 then (semigroupref14_Generated.l2 k x0 x5 x6 x16 x15 x16 (x0.length : Int) 0) else (semigroupref14_Generated.l0 k x0 x5 x6)
def semigroupref14_Generated.l2 : Nat → List (List Int) → List Bool → Bool → Int → Int → Int → Int → Int → Option (List Int)
  | 0, _, _, _, _, _, _, _, _ => none
  | k + 1, x0, x5, x6, x7, x15, x16, x20, x21 => if x21 < x20 then (if 0 ≤ x7 then (if x7 < (x5.length : Int) then (if rdOf false x5 x7 = true then (if 0 ≤ x21 then (if x21 < (x5.length : Int) then (if rdOf false x5 x21 = true then (if x7 < (x0.length : Int) then (if x21 < ((rd_L1 x0 x7).length : Int) then (if 0 ≤ (rd (rd_L1 x0 x7) x21) then (if (rd (rd_L1 x0 x7) x21) < (x5.length : Int) then (if (rdOf false x5 (rd (rd_L1 x0 x7) x21) = true) then (semigroupref14_Generated.l2 k x0 x5 x6 x7 x15 x16 x20 (wrap64 (x21 + 1))) else (semigroupref14_Generated.l2 k x0 (x5.set ((rd (rd_L1 x0 x7) x21) : Int).toNat true) true x7 x15 x16 x20 (wrap64 (x21 + 1)))) else (none)) else (none)) else (none)) else (none)) else (semigroupref14_Generated.l2 k x0 x5 x6 x7 x15 x16 x20 (wrap64 (x21 + 1)))) else (none)) else (none)) else (semigroupref14_Generated.l2 k x0 x5 x6 x7 x15 x16 x20 (wrap64 (x21 + 1)))) else (none)) else (none)) else (semigroupref14_Generated.l1 k x0 x5 x6 x15 (wrap64 (x16 + 1)))
end
def semigroupref14_Generated.f (k : Nat) (l0 : List (List Int)) (l1 : List Int) : Option (List Int) := (semigroupref03_Set.f k l1 (l0.length : Int)).bind fun t382 => (semigroupref14_Generated.l0 k l0 t382 true)
theorem semigroupref14_Generated.mono_l : ∀ k, (∀ y0 y1 y2, LeO (semigroupref14_Generated.l0 k y0 y1 y2) (semigroupref14_Generated.l0 (k + 1) y0 y1 y2)) ∧ (∀ y0 y1 y2 y3 y4, LeO (semigroupref14_Generated.l1 k y0 y1 y2 y3 y4) (semigroupref14_Generated.l1 (k + 1) y0 y1 y2 y3 y4)) ∧ (∀ y0 y1 y2 y3 y4 y5 y6 y7, LeO (semigroupref14_Generated.l2 k y0 y1 y2 y3 y4 y5 y6 y7) (semigroupref14_Generated.l2 (k + 1) y0 y1 y2 y3 y4 y5 y6 y7))
  | 0 => ⟨fun _ _ _ r h => by simp [semigroupref14_Generated.l0] at h, fun _ _ _ _ _ r h => by simp [semigroupref14_Generated.l1] at h, fun _ _ _ _ _ _ _ _ r h => by simp [semigroupref14_Generated.l2] at h⟩
  | k + 1 => by
    obtain ⟨ih0, ih1, ih2⟩ := semigroupref14_Generated.mono_l k
    refine ⟨?_, ?_, ?_⟩
    · intro y0 y1 y2
      unfold semigroupref14_Generated.l0
      repeat' first
      | (with_reducible exact ih0 _ _ _)
      | (with_reducible exact ih1 _ _ _ _ _)
      | (with_reducible exact ih2 _ _ _ _ _ _ _ _)
      | (with_reducible exact semigroupref03_Members.mono _ _)
      | (with_reducible exact semigroupref03_Set.mono _ _ _)
      | (with_reducible exact LeO.refl _)
      | (with_reducible exact LeO.none _)
      | (with_reducible refine LeO.ite ?_ ?_)
      | (with_reducible refine LeO.bind ?_ (fun _ => ?_))
      | exact ih0 _ _ _
      | exact ih1 _ _ _ _ _
      | exact ih2 _ _ _ _ _ _ _ _
      | exact semigroupref03_Members.mono _ _
      | exact semigroupref03_Set.mono _ _ _
      | exact LeO.none _
      | refine LeO.ite ?_ ?_
      | refine LeO.bind ?_ (fun _ => ?_)
    · intro y0 y1 y2 y3 y4
      unfold semigroupref14_Generated.l1
      repeat' first
      | (with_reducible exact ih0 _ _ _)
      | (with_reducible exact ih1 _ _ _ _ _)
      | (with_reducible exact ih2 _ _ _ _ _ _ _ _)
      | (with_reducible exact semigroupref03_Members.mono _ _)
      | (with_reducible exact semigroupref03_Set.mono _ _ _)
      | (with_reducible exact LeO.refl _)
      | (with_reducible exact LeO.none _)
      | (with_reducible refine LeO.ite ?_ ?_)
      | (with_reducible refine LeO.bind ?_ (fun _ => ?_))
      | exact ih0 _ _ _
      | exact ih1 _ _ _ _ _
      | exact ih2 _ _ _ _ _ _ _ _
      | exact semigroupref03_Members.mono _ _
      | exact semigroupref03_Set.mono _ _ _
      | exact LeO.none _
      | refine LeO.ite ?_ ?_
      | refine LeO.bind ?_ (fun _ => ?_)
    · intro y0 y1 y2 y3 y4 y5 y6 y7
      unfold semigroupref14_Generated.l2
      repeat' first
      | (with_reducible exact ih0 _ _ _)
      | (with_reducible exact ih1 _ _ _ _ _)
      | (with_reducible exact ih2 _ _ _ _ _ _ _ _)
      | (with_reducible exact semigroupref03_Members.mono _ _)
      | (with_reducible exact semigroupref03_Set.mono _ _ _)
      | (with_reducible exact LeO.refl _)
      | (with_reducible exact LeO.none _)
      | (with_reducible refine LeO.ite ?_ ?_)
      | (with_reducible refine LeO.bind ?_ (fun _ => ?_))
      | exact ih0 _ _ _
      | exact ih1 _ _ _ _ _
      | exact ih2 _ _ _ _ _ _ _ _
      | exact semigroupref03_Members.mono _ _
      | exact semigroupref03_Set.mono _ _ _
      | exact LeO.none _
      | refine LeO.ite ?_ ?_
      | refine LeO.bind ?_ (fun _ => ?_)
theorem semigroupref14_Generated.mono : ∀ a0 a1 k, LeO (semigroupref14_Generated.f k a0 a1) (semigroupref14_Generated.f (k + 1) a0 a1) := by
  intro a0 a1 k
  obtain ⟨ih0, ih1, ih2⟩ := semigroupref14_Generated.mono_l k
  unfold semigroupref14_Generated.f
  repeat' first
      | (with_reducible exact ih0 _ _ _)
      | (with_reducible exact ih1 _ _ _ _ _)
      | (with_reducible exact ih2 _ _ _ _ _ _ _ _)
      | (with_reducible exact semigroupref03_Members.mono _ _)
      | (with_reducible exact semigroupref03_Set.mono _ _ _)
      | (with_reducible exact LeO.refl _)
      | (with_reducible exact LeO.none _)
      | (with_reducible refine LeO.ite ?_ ?_)
      | (with_reducible refine LeO.bind ?_ (fun _ => ?_))
      | exact ih0 _ _ _
      | exact ih1 _ _ _ _ _
      | exact ih2 _ _ _ _ _ _ _ _
      | exact semigroupref03_Members.mono _ _
      | exact semigroupref03_Set.mono _ _ _
      | exact LeO.none _
      | refine LeO.ite ?_ ?_
      | refine LeO.bind ?_ (fun _ => ?_)
set_option maxHeartbeats 8000000 in
set_option maxRecDepth 100000 in
theorem semigroupref14_Generated.calls (k : Nat) (A0 : Option Addr) (c0 : Nat) (l0 : List (List Int)) (A1 : Option Addr) (c1 : Nat) (l1 : List Int) (r : List Int) (w : World) (hr0 : Kd.C (Kd.slice 3 (Kd.int .i64)) w A0 l0.length l0) (hc0 : l0.length ≤ c0) (hr1 : Kd.C (Kd.int .i64) w A1 l1.length l1) (hc1 : l1.length ≤ c1) (h : semigroupref14_Generated.f k l0 l1 = some r) :
    Calls Try.prog 41 #[.slice A0 l0.length c0, .slice A1 l1.length c1] w fun e w' => ∃ v0_ : Value, e = .returned (v0_) ∧ Kd.R (Kd.int .i64) 3 w' w.heap.size (fun _ => True) v0_ r ∧ Below w.heap.size w w' := by
  have HR0 := Aside0.mk hr0
  have HC0 := Aside0.mk hc0
  (try clear hr0); (try clear hc0)
  have HR1 := Aside0.mk hr1
  have HC1 := Aside0.mk hc1
  (try clear hr1); (try clear hc1)
  have HB := Aside0.mk (Below.refl w.heap.size w)
  have H : ((semigroupref03_Set.f k l1 (l0.length : Int)).bind fun t382 => (semigroupref14_Generated.l0 k l0 t382 true)) = some r := h
  clear h
  replace H := Option.bind_eq_some_iff.mp H
  obtain ⟨t382, A30, H⟩ := H
  replace H : (semigroupref14_Generated.l0 k l0 t382 true) = some r := H
  have A3 := Aside0.mk A30
  clear A30
  have H' := Aside0.mk H
  clear H
  go_enter Try.func41, Try.ntmps41
  go_wp2_with (first | ((with_reducible refine gate_callee (f := 54) rfl ?_); refine goesL_ (some 12) rfl rfl Try.func54 (by kernel_rfl) rfl #[.slice A1 l1.length c1, .int .i64 (l0.length : Int)] rfl (by (try simp only [List.map_toArray, List.map_cons, List.map_nil]); first | done | rfl | (simp only [List.length_drop, List.length_take]; rfl)) ?_; (with_reducible refine (semigroupref03_Set.calls k _ _ l1 (l0.length : Int) t382 _ ?side1 ?side2 A3.out).mono ?_); (case side1 => repeat (first | exact HR1.out | (with_reducible refine Kd.C_alloc ?_ _) | (with_reducible refine Kd.C_drewN ?_ _) | (with_reducible refine Kd.C_drew ?_))); (case side2 => exact HC1.out); rintro e w4 ⟨v383, rfl, ho0, hb⟩; refine ⟨_, rfl, ?_⟩; have n0_ := Aside0.mk (Kd.R_lower ho0 (below_size (by repeat (first | (with_reducible first | exact HB.out | apply below_alloc | apply pw_below_drewN | apply below_drew1) | exact HB.out)))); have n1_ := Aside0.mk (below_step (by repeat (first | (with_reducible first | exact HB.out | apply below_alloc | apply pw_below_drewN | apply below_drew1) | exact HB.out)) hb); clear HB; have HO384 := n0_; have HB := n1_; clear n0_ n1_; (try clear hb); (try clear hb2); (try clear hk); (try clear hi); (try clear ho0)))
  go_loopg [6] k (fun kq v6 w' => ∃ (x5_1 : List Bool) (x6_1 : Bool), v6 = .bool x6_1 ∧ Aside0 (semigroupref14_Generated.l0 kq l0 x5_1 x6_1 = some r) ∧ Aside0 (kq ≤ k) ∧ Aside0 (Kd.R Kd.bool 4 w' w.heap.size (fun _ => True) v383 x5_1) ∧ Aside0 (Below w.heap.size w w'))
  case atStart => exact ⟨(t382), (true), (by first | rfl | (simp; done) | (simp [*]; done)), H', ⟨Nat.le_refl _⟩, ⟨by (with_reducible repeat (first | apply Kd.R_alloc | apply Kd.R_drewN | apply Kd.R_drew)); exact HO384.out⟩, ⟨by repeat (first | (with_reducible first | exact HB.out | apply below_alloc | apply pw_below_drewN | apply below_drew1) | exact HB.out)⟩⟩
  case round =>
    clear H'
    try clear c1
    try clear p2
    try clear c4
    obtain ⟨x5_1, x6_1, rfl, HA, HK1, HO_5, HB⟩ := hrel
    cases gk with
    | zero => exact absurd HA.out (by simp [semigroupref14_Generated.l0])
    | succ k1 =>
      have H := HA.out
      clear HA
      simp only [semigroupref14_Generated.l0] at H
      by_cases c5 : x6_1 = true
      · subst c5
        have H1 : (semigroupref14_Generated.l1 k1 l0 x5_1 false (l0.length : Int) 0) = some r := by rw [if_pos rfl] at H; exact H
        clear H
        have H := H1
        clear H1
        have H' := Aside0.mk H
        clear H
        go_wp2
        go_loopg [6, 16] k1 (fun kq v6 v16 w' => ∃ (x5_2 : List Bool) (x6_2 : Bool) (x16_2 : Int), v6 = .bool x6_2 ∧ v16 = .int .i64 x16_2 ∧ Aside0 (semigroupref14_Generated.l1 kq l0 x5_2 x6_2 (l0.length : Int) x16_2 = some r) ∧ Aside0 (kq ≤ k1) ∧ Aside0 (Kd.R Kd.bool 4 w' w.heap.size (fun _ => True) v383 x5_2) ∧ Aside0 (Below w.heap.size w w'))
        case atStart => exact ⟨(x5_1), (false), (0), (by first | rfl | (simp; done) | (simp [*]; done)), (by first | rfl | (simp; done) | (simp [*]; done)), H', ⟨Nat.le_refl _⟩, ⟨by (with_reducible repeat (first | apply Kd.R_alloc | apply Kd.R_drewN | apply Kd.R_drew)); exact HO_5.out⟩, ⟨by repeat (first | (with_reducible first | exact HB.out | apply below_alloc | apply pw_below_drewN | apply below_drew1) | exact HB.out)⟩⟩
        case round =>
          clear H'
          try clear c1
          try clear p2
          try clear c4
          try clear c5
          try clear p2
          obtain ⟨x5_2, x6_2, x16_2, rfl, rfl, HA, HK2, HO_5, HB⟩ := hrel
          cases gk with
          | zero => exact absurd HA.out (by simp [semigroupref14_Generated.l1])
          | succ k2 =>
            have H := HA.out
            clear HA
            simp only [semigroupref14_Generated.l1] at H
            by_cases c6 : x16_2 < (l0.length : Int)
            · rw [if_pos c6] at H
              have c6b0 : decide (x16_2 < (l0.length : Int)) = true := decide_eq_true c6
              clear c6
              have H' := Aside0.mk H
              clear H
              go_wp2
              go_loopg [6, 21] k2 (fun kq v6 v21 w' => ∃ (x5_3 : List Bool) (x6_3 : Bool) (x21_3 : Int), v6 = .bool x6_3 ∧ v21 = .int .i64 x21_3 ∧ Aside0 (semigroupref14_Generated.l2 kq l0 x5_3 x6_3 x16_2 (l0.length : Int) x16_2 (l0.length : Int) x21_3 = some r) ∧ Aside0 (kq ≤ k2) ∧ Aside0 (Kd.R Kd.bool 4 w' w.heap.size (fun _ => True) v383 x5_3) ∧ Aside0 (Below w.heap.size w w'))
              case atStart => exact ⟨(x5_2), (x6_2), (0), (by first | rfl | (simp; done) | (simp [*]; done)), (by first | rfl | (simp; done) | (simp [*]; done)), H', ⟨Nat.le_refl _⟩, ⟨by (with_reducible repeat (first | apply Kd.R_alloc | apply Kd.R_drewN | apply Kd.R_drew)); exact HO_5.out⟩, ⟨by repeat (first | (with_reducible first | exact HB.out | apply below_alloc | apply pw_below_drewN | apply below_drew1) | exact HB.out)⟩⟩
              case round =>
                clear H'
                try clear c1
                try clear p2
                try clear c4
                try clear c5
                try clear c6
                try clear c6b0
                try clear p2
                obtain ⟨x5_3, x6_3, x21_3, rfl, rfl, HA, HK3, HO_5, HB⟩ := hrel
                cases gk with
                | zero => exact absurd HA.out (by simp [semigroupref14_Generated.l2])
                | succ k3 =>
                  have H := HA.out
                  clear HA
                  simp only [semigroupref14_Generated.l2] at H
                  by_cases c7 : x21_3 < (l0.length : Int)
                  · rw [if_pos c7] at H
                    have c7b0 : decide (x21_3 < (l0.length : Int)) = true := decide_eq_true c7
                    clear c7
                    by_cases c8 : 0 ≤ x16_2
                    · rw [if_pos c8] at H
                      have c8b0 : decide (0 ≤ x16_2) = true := decide_eq_true c8
                      clear c8
                      by_cases c9 : x16_2 < (x5_3.length : Int)
                      · rw [if_pos c9] at H
                        have c9b0 : decide (x16_2 < (x5_3.length : Int)) = true := decide_eq_true c9
                        clear c9
                        obtain ⟨bq10, hbq10⟩ : ∃ b_ : Bool, b_ = (rdOf false x5_3 x16_2) := ⟨_, rfl⟩
                        replace H : (if bq10 = true then (if 0 ≤ x21_3 then (if x21_3 < (x5_3.length : Int) then (if rdOf false x5_3 x21_3 = true then (if x16_2 < (l0.length : Int) then (if x21_3 < ((rd_L1 l0 x16_2).length : Int) then (if 0 ≤ (rd (rd_L1 l0 x16_2) x21_3) then (if (rd (rd_L1 l0 x16_2) x21_3) < (x5_3.length : Int) then (if (rdOf false x5_3 (rd (rd_L1 l0 x16_2) x21_3) = true) then (semigroupref14_Generated.l2 k3 l0 x5_3 x6_3 x16_2 (l0.length : Int) x16_2 (l0.length : Int) (wrap64 (x21_3 + 1))) else (semigroupref14_Generated.l2 k3 l0 (x5_3.set ((rd (rd_L1 l0 x16_2) x21_3) : Int).toNat true) true x16_2 (l0.length : Int) x16_2 (l0.length : Int) (wrap64 (x21_3 + 1)))) else (none)) else (none)) else (none)) else (none)) else (semigroupref14_Generated.l2 k3 l0 x5_3 x6_3 x16_2 (l0.length : Int) x16_2 (l0.length : Int) (wrap64 (x21_3 + 1)))) else (none)) else (none)) else (semigroupref14_Generated.l2 k3 l0 x5_3 x6_3 x16_2 (l0.length : Int) x16_2 (l0.length : Int) (wrap64 (x21_3 + 1)))) = some r := by rw [← hbq10] at H; exact H
                        have Nbq10 := Aside0.mk hbq10
                        clear hbq10
                        by_cases c11 : bq10 = true
                        · subst c11
                          have H1 : (if 0 ≤ x21_3 then (if x21_3 < (x5_3.length : Int) then (if rdOf false x5_3 x21_3 = true then (if x16_2 < (l0.length : Int) then (if x21_3 < ((rd_L1 l0 x16_2).length : Int) then (if 0 ≤ (rd (rd_L1 l0 x16_2) x21_3) then (if (rd (rd_L1 l0 x16_2) x21_3) < (x5_3.length : Int) then (if (rdOf false x5_3 (rd (rd_L1 l0 x16_2) x21_3) = true) then (semigroupref14_Generated.l2 k3 l0 x5_3 x6_3 x16_2 (l0.length : Int) x16_2 (l0.length : Int) (wrap64 (x21_3 + 1))) else (semigroupref14_Generated.l2 k3 l0 (x5_3.set ((rd (rd_L1 l0 x16_2) x21_3) : Int).toNat true) true x16_2 (l0.length : Int) x16_2 (l0.length : Int) (wrap64 (x21_3 + 1)))) else (none)) else (none)) else (none)) else (none)) else (semigroupref14_Generated.l2 k3 l0 x5_3 x6_3 x16_2 (l0.length : Int) x16_2 (l0.length : Int) (wrap64 (x21_3 + 1)))) else (none)) else (none)) = some r := by rw [if_pos rfl] at H; exact H
                          clear H
                          have H := H1
                          clear H1
                          by_cases c12 : 0 ≤ x21_3
                          · rw [if_pos c12] at H
                            have c12b0 : decide (0 ≤ x21_3) = true := decide_eq_true c12
                            clear c12
                            by_cases c13 : x21_3 < (x5_3.length : Int)
                            · rw [if_pos c13] at H
                              have c13b0 : decide (x21_3 < (x5_3.length : Int)) = true := decide_eq_true c13
                              clear c13
                              obtain ⟨bq14, hbq14⟩ : ∃ b_ : Bool, b_ = (rdOf false x5_3 x21_3) := ⟨_, rfl⟩
                              replace H : (if bq14 = true then (if x16_2 < (l0.length : Int) then (if x21_3 < ((rd_L1 l0 x16_2).length : Int) then (if 0 ≤ (rd (rd_L1 l0 x16_2) x21_3) then (if (rd (rd_L1 l0 x16_2) x21_3) < (x5_3.length : Int) then (if (rdOf false x5_3 (rd (rd_L1 l0 x16_2) x21_3) = true) then (semigroupref14_Generated.l2 k3 l0 x5_3 x6_3 x16_2 (l0.length : Int) x16_2 (l0.length : Int) (wrap64 (x21_3 + 1))) else (semigroupref14_Generated.l2 k3 l0 (x5_3.set ((rd (rd_L1 l0 x16_2) x21_3) : Int).toNat true) true x16_2 (l0.length : Int) x16_2 (l0.length : Int) (wrap64 (x21_3 + 1)))) else (none)) else (none)) else (none)) else (none)) else (semigroupref14_Generated.l2 k3 l0 x5_3 x6_3 x16_2 (l0.length : Int) x16_2 (l0.length : Int) (wrap64 (x21_3 + 1)))) = some r := by rw [← hbq14] at H; exact H
                              have Nbq14 := Aside0.mk hbq14
                              clear hbq14
                              by_cases c15 : bq14 = true
                              · subst c15
                                have H1 : (if x16_2 < (l0.length : Int) then (if x21_3 < ((rd_L1 l0 x16_2).length : Int) then (if 0 ≤ (rd (rd_L1 l0 x16_2) x21_3) then (if (rd (rd_L1 l0 x16_2) x21_3) < (x5_3.length : Int) then (if (rdOf false x5_3 (rd (rd_L1 l0 x16_2) x21_3) = true) then (semigroupref14_Generated.l2 k3 l0 x5_3 x6_3 x16_2 (l0.length : Int) x16_2 (l0.length : Int) (wrap64 (x21_3 + 1))) else (semigroupref14_Generated.l2 k3 l0 (x5_3.set ((rd (rd_L1 l0 x16_2) x21_3) : Int).toNat true) true x16_2 (l0.length : Int) x16_2 (l0.length : Int) (wrap64 (x21_3 + 1)))) else (none)) else (none)) else (none)) else (none)) = some r := by rw [if_pos rfl] at H; exact H
                                clear H
                                have H := H1
                                clear H1
                                by_cases c16 : x16_2 < (l0.length : Int)
                                · rw [if_pos c16] at H
                                  have c16b0 : decide (x16_2 < (l0.length : Int)) = true := decide_eq_true c16
                                  clear c16
                                  by_cases c17 : x21_3 < ((rd_L1 l0 x16_2).length : Int)
                                  · rw [if_pos c17] at H
                                    have c17b0 : decide (x21_3 < ((rd_L1 l0 x16_2).length : Int)) = true := decide_eq_true c17
                                    clear c17
                                    by_cases c18 : 0 ≤ (rd (rd_L1 l0 x16_2) x21_3)
                                    · rw [if_pos c18] at H
                                      have c18b0 : decide (0 ≤ (rd (rd_L1 l0 x16_2) x21_3)) = true := decide_eq_true c18
                                      clear c18
                                      by_cases c19 : (rd (rd_L1 l0 x16_2) x21_3) < (x5_3.length : Int)
                                      · rw [if_pos c19] at H
                                        have c19b0 : decide ((rd (rd_L1 l0 x16_2) x21_3) < (x5_3.length : Int)) = true := decide_eq_true c19
                                        clear c19
                                        obtain ⟨bq20, hbq20⟩ : ∃ b_ : Bool, b_ = (rdOf false x5_3 (rd (rd_L1 l0 x16_2) x21_3)) := ⟨_, rfl⟩
                                        replace H : (if (bq20 = true) then (semigroupref14_Generated.l2 k3 l0 x5_3 x6_3 x16_2 (l0.length : Int) x16_2 (l0.length : Int) (wrap64 (x21_3 + 1))) else (semigroupref14_Generated.l2 k3 l0 (x5_3.set ((rd (rd_L1 l0 x16_2) x21_3) : Int).toNat true) true x16_2 (l0.length : Int) x16_2 (l0.length : Int) (wrap64 (x21_3 + 1)))) = some r := by rw [← hbq20] at H; exact H
                                        have Nbq20 := Aside0.mk hbq20
                                        clear hbq20
                                        by_cases c21 : (bq20 = true)
                                        · subst c21
                                          have H1 : (semigroupref14_Generated.l2 k3 l0 x5_3 x6_3 x16_2 (l0.length : Int) x16_2 (l0.length : Int) (wrap64 (x21_3 + 1))) = some r := by rw [if_pos rfl] at H; exact H
                                          clear H
                                          have H := H1
                                          clear H1
                                          have H' := Aside0.mk H
                                          clear H
                                          obtain ⟨Ao22, co22, eo22⟩ := Kd.R_slice HO_5.out
                                          subst eo22
                                          have p388 : 0 ≤ (x16_2 : Int) := of_decide_eq_true (by first | (with_reducible assumption) | assumption)
                                          have q388 : x16_2 < (x5_3.length : Int) := of_decide_eq_true (by first | (with_reducible assumption) | assumption)
                                          obtain ⟨ad388, e388, hx388_0⟩ := Kd.at_bool (Kd.R_reads' HO_5.out).2.2 x16_2 p388 q388
                                          (try rw [← Nbq10.out] at hx388_0)
                                          (try rw [← Nbq14.out] at hx388_0)
                                          (try rw [← Nbq20.out] at hx388_0)
                                          cases e388
                                          replace p388 := eq_true p388
                                          replace q388 := eq_true q388
                                          have p389 : 0 ≤ (x21_3 : Int) := of_decide_eq_true (by first | (with_reducible assumption) | assumption)
                                          have q389 : x21_3 < (x5_3.length : Int) := of_decide_eq_true (by first | (with_reducible assumption) | assumption)
                                          obtain ⟨ad389, e389, hx389_0⟩ := Kd.at_bool (Kd.R_reads' HO_5.out).2.2 x21_3 p389 q389
                                          (try rw [← Nbq10.out] at hx389_0)
                                          (try rw [← Nbq14.out] at hx389_0)
                                          (try rw [← Nbq20.out] at hx389_0)
                                          obtain rfl : ad388 = ad389 := (by injection e389)
                                          replace p389 := eq_true p389
                                          replace q389 := eq_true q389
                                          have p390 : 0 ≤ (x16_2 : Int) := of_decide_eq_true (by first | (with_reducible assumption) | assumption)
                                          have q390 : x16_2 < (l0.length : Int) := of_decide_eq_true (by first | (with_reducible assumption) | assumption)
                                          obtain ⟨ad390, A390_0, c390_0, e390, hx390_0, hl390_0, hi390_0⟩ := at_L1 HR0.out x16_2 p390 q390
                                          cases e390
                                          replace hx390_0 := (HB.out.cell (World.block_lt_of_cell? w _ hx390_0)).trans hx390_0
                                          have HR390_0 := Aside0.mk hi390_0
                                          have HC390_0 := Aside0.mk hl390_0
                                          (try clear hi390_0); (try clear hl390_0)
                                          replace p390 := eq_true p390
                                          replace q390 := eq_true q390
                                          have p391 : 0 ≤ (x21_3 : Int) := of_decide_eq_true (by first | (with_reducible assumption) | assumption)
                                          have q391 : x21_3 < ((rd_L1 l0 x16_2).length : Int) := of_decide_eq_true (by first | (with_reducible assumption) | assumption)
                                          obtain ⟨ad391, e391, hx391_0⟩ := Kd.at_int HR390_0.out x21_3 p391 q391
                                          cases e391
                                          replace hx391_0 := (HB.out.cell (World.block_lt_of_cell? w _ hx391_0)).trans hx391_0
                                          replace p391 := eq_true p391
                                          replace q391 := eq_true q391
                                          have p392 : 0 ≤ ((rd (rd_L1 l0 x16_2) x21_3) : Int) := of_decide_eq_true (by first | (with_reducible assumption) | assumption)
                                          have q392 : (rd (rd_L1 l0 x16_2) x21_3) < (x5_3.length : Int) := of_decide_eq_true (by first | (with_reducible assumption) | assumption)
                                          obtain ⟨ad392, e392, hx392_0⟩ := Kd.at_bool (Kd.R_reads' HO_5.out).2.2 (rd (rd_L1 l0 x16_2) x21_3) p392 q392
                                          (try rw [← Nbq10.out] at hx392_0)
                                          (try rw [← Nbq14.out] at hx392_0)
                                          (try rw [← Nbq20.out] at hx392_0)
                                          obtain rfl : ad388 = ad392 := (by injection e392)
                                          replace p392 := eq_true p392
                                          replace q392 := eq_true q392
                                          go_wp2
                                          go_roundg k3
                                          case measure => have := HK1.out; have := HK2.out; have := HK3.out; omega
                                          case rel => exact ⟨(x5_3), (x6_3), (wrap64 (x21_3 + 1)), (by first | rfl | (simp; done) | (simp [*]; done)), (by first | rfl | (simp; done) | (simp [*]; done)), H', ⟨by have := HK1.out; have := HK2.out; have := HK3.out; omega⟩, ⟨by (with_reducible repeat (first | apply Kd.R_alloc | apply Kd.R_drewN | apply Kd.R_drew)); exact HO_5.out⟩, ⟨by repeat (first | (with_reducible first | exact HB.out | apply below_alloc | apply pw_below_drewN | apply below_drew1) | exact HB.out)⟩⟩
                                        · replace c21 := Bool.eq_false_iff.mpr c21
                                          subst c21
                                          have H1 : (semigroupref14_Generated.l2 k3 l0 (x5_3.set ((rd (rd_L1 l0 x16_2) x21_3) : Int).toNat true) true x16_2 (l0.length : Int) x16_2 (l0.length : Int) (wrap64 (x21_3 + 1))) = some r := by rw [if_neg (show ¬ (false = true) by decide)] at H; exact H
                                          clear H
                                          have H := H1
                                          clear H1
                                          obtain ⟨y395, hy395⟩ : ∃ y_ : List Bool, y_ = (x5_3.set ((rd (rd_L1 l0 x16_2) x21_3) : Int).toNat true) := ⟨_, rfl⟩
                                          replace H : (semigroupref14_Generated.l2 k3 l0 y395 true x16_2 (l0.length : Int) x16_2 (l0.length : Int) (wrap64 (x21_3 + 1))) = some r := by first | (rw [hy395]; with_reducible exact H) | (have H2_ := (Option.bind_some _ _).symm.trans H; rw [hy395]; with_reducible exact H2_) | (have H2_ := (Option.bind_some _ _).symm.trans H; with_reducible exact H2_) | with_reducible exact H | (rw [hy395]; exact H) | exact H
                                          have Ny395 := Aside0.mk hy395
                                          clear hy395
                                          have H' := Aside0.mk H
                                          clear H
                                          obtain ⟨Ao24, co24, eo24⟩ := Kd.R_slice HO_5.out
                                          subst eo24
                                          have p388 : 0 ≤ (x16_2 : Int) := of_decide_eq_true (by first | (with_reducible assumption) | assumption)
                                          have q388 : x16_2 < (x5_3.length : Int) := of_decide_eq_true (by first | (with_reducible assumption) | assumption)
                                          obtain ⟨ad388, e388, hx388_0⟩ := Kd.at_bool (Kd.R_reads' HO_5.out).2.2 x16_2 p388 q388
                                          (try rw [← Nbq10.out] at hx388_0)
                                          (try rw [← Nbq14.out] at hx388_0)
                                          (try rw [← Nbq20.out] at hx388_0)
                                          cases e388
                                          replace p388 := eq_true p388
                                          replace q388 := eq_true q388
                                          have p389 : 0 ≤ (x21_3 : Int) := of_decide_eq_true (by first | (with_reducible assumption) | assumption)
                                          have q389 : x21_3 < (x5_3.length : Int) := of_decide_eq_true (by first | (with_reducible assumption) | assumption)
                                          obtain ⟨ad389, e389, hx389_0⟩ := Kd.at_bool (Kd.R_reads' HO_5.out).2.2 x21_3 p389 q389
                                          (try rw [← Nbq10.out] at hx389_0)
                                          (try rw [← Nbq14.out] at hx389_0)
                                          (try rw [← Nbq20.out] at hx389_0)
                                          obtain rfl : ad388 = ad389 := (by injection e389)
                                          replace p389 := eq_true p389
                                          replace q389 := eq_true q389
                                          have p390 : 0 ≤ (x16_2 : Int) := of_decide_eq_true (by first | (with_reducible assumption) | assumption)
                                          have q390 : x16_2 < (l0.length : Int) := of_decide_eq_true (by first | (with_reducible assumption) | assumption)
                                          obtain ⟨ad390, A390_0, c390_0, e390, hx390_0, hl390_0, hi390_0⟩ := at_L1 HR0.out x16_2 p390 q390
                                          cases e390
                                          replace hx390_0 := (HB.out.cell (World.block_lt_of_cell? w _ hx390_0)).trans hx390_0
                                          have HR390_0 := Aside0.mk hi390_0
                                          have HC390_0 := Aside0.mk hl390_0
                                          (try clear hi390_0); (try clear hl390_0)
                                          replace p390 := eq_true p390
                                          replace q390 := eq_true q390
                                          have p391 : 0 ≤ (x21_3 : Int) := of_decide_eq_true (by first | (with_reducible assumption) | assumption)
                                          have q391 : x21_3 < ((rd_L1 l0 x16_2).length : Int) := of_decide_eq_true (by first | (with_reducible assumption) | assumption)
                                          obtain ⟨ad391, e391, hx391_0⟩ := Kd.at_int HR390_0.out x21_3 p391 q391
                                          cases e391
                                          replace hx391_0 := (HB.out.cell (World.block_lt_of_cell? w _ hx391_0)).trans hx391_0
                                          replace p391 := eq_true p391
                                          replace q391 := eq_true q391
                                          have p392 : 0 ≤ ((rd (rd_L1 l0 x16_2) x21_3) : Int) := of_decide_eq_true (by first | (with_reducible assumption) | assumption)
                                          have q392 : (rd (rd_L1 l0 x16_2) x21_3) < (x5_3.length : Int) := of_decide_eq_true (by first | (with_reducible assumption) | assumption)
                                          obtain ⟨ad392, e392, hx392_0⟩ := Kd.at_bool (Kd.R_reads' HO_5.out).2.2 (rd (rd_L1 l0 x16_2) x21_3) p392 q392
                                          (try rw [← Nbq10.out] at hx392_0)
                                          (try rw [← Nbq14.out] at hx392_0)
                                          (try rw [← Nbq20.out] at hx392_0)
                                          obtain rfl : ad388 = ad392 := (by injection e392)
                                          replace p392 := eq_true p392
                                          replace q392 := eq_true q392
                                          have p393 : 0 ≤ (x16_2 : Int) := of_decide_eq_true (by first | (with_reducible assumption) | assumption)
                                          have q393 : x16_2 < (l0.length : Int) := of_decide_eq_true (by first | (with_reducible assumption) | assumption)
                                          obtain ⟨ad393, A393_0, c393_0, e393, hx393_0, hl393_0, hi393_0⟩ := at_L1 HR0.out x16_2 p393 q393
                                          obtain rfl : ad390 = ad393 := (by injection e393)
                                          replace hx393_0 := (HB.out.cell (World.block_lt_of_cell? w _ hx393_0)).trans hx393_0
                                          have HR393_0 := Aside0.mk hi393_0
                                          have HC393_0 := Aside0.mk hl393_0
                                          (try clear hi393_0); (try clear hl393_0)
                                          replace p393 := eq_true p393
                                          replace q393 := eq_true q393
                                          have ea_ := Option.some.inj (hx390_0.symm.trans hx393_0)
                                          injection ea_ with ea_ en_ ec_
                                          subst ea_
                                          subst ec_
                                          clear en_
                                          have p394 : 0 ≤ (x21_3 : Int) := of_decide_eq_true (by first | (with_reducible assumption) | assumption)
                                          have q394 : x21_3 < ((rd_L1 l0 x16_2).length : Int) := of_decide_eq_true (by first | (with_reducible assumption) | assumption)
                                          obtain ⟨ad394, e394, hx394_0⟩ := Kd.at_int HR393_0.out x21_3 p394 q394
                                          cases e394
                                          replace hx394_0 := (HB.out.cell (World.block_lt_of_cell? w _ hx394_0)).trans hx394_0
                                          replace p394 := eq_true p394
                                          replace q394 := eq_true q394
                                          have p23 : 0 ≤ ((rd (rd_L1 l0 x16_2) x21_3) : Int) := of_decide_eq_true (by first | (with_reducible assumption) | assumption)
                                          have q23 : ((rd (rd_L1 l0 x16_2) x21_3) : Int) < ((x5_3.length : Int) : Int) := of_decide_eq_true (by first | (with_reducible assumption) | assumption)
                                          obtain ⟨go23, co23, eo23, gb23, gl23, cl23, HG23⟩ := Kd.R_form HO_5.out (by omega)
                                          (first | cases eo23 | (injection eo23 with ea_ en_ ec_; (first | subst ea_ | (injection ea_ with ea_; subst ea_)); subst ec_; clear en_))
                                          have GB23 := Aside0.mk gb23
                                          have GG23 := Aside0.mk HG23
                                          (try clear gb23); (try clear gl23); (try clear HG23)
                                          (first | simp only [add_plain] at hx388_0 | skip)
                                          (first | simp only [add_plain] at hx389_0 | skip)
                                          (first | simp only [add_plain] at hx392_0 | skip)
                                          obtain ⟨hx23_0, hf23_0⟩ := Kd.R_celln false HO_5.out ((rd (rd_L1 l0 x16_2) x21_3) : Int) p23 q23
                                          replace p23 := eq_true p23
                                          replace q23 := eq_true q23
                                          have HP25 := Kd.R_putg HO_5.out ((rd (rd_L1 l0 x16_2) x21_3) : Int) true
                                          go_wp2_with (first | ((with_reducible refine gate_store (t := 4) (p := 55) rfl ?_); refine store_event (t := 4) (p := 55) (v := ?vo_w26) (w1 := (wr.setCell ⟨go23, ((rd (rd_L1 l0 x16_2) x21_3) : Int).toNat, none⟩ (.bool true))) ?hg ?ho ?hn ?hr ?_; (case ho => rfl); (case hg => rfl); (case hn => rfl); (case hr => first | (go_simp; done) | (go_simp; rfl)); intro w26 hw; have hg : wr.grownBy w26 (some go23) := (by rw [hw]; exact HP25.2); have hp_ : Kd.R Kd.bool 4 w26 w.heap.size (fun _ => True) (.slice (some ⟨go23, 0, none⟩) x5_3.length co24) y395 := (by rw [hw, Ny395.out]; exact HP25.1); clear HP25; have n0_ := Aside0.mk (hp_); have n1_ := Aside0.mk ((by rw [hw]; exact below_set (HB.out) GB23.out : Below w.heap.size w w26)); clear HO_5; clear HB; have HO_5 := n0_; have HB := n1_; clear n0_ n1_; (try clear hg); (try clear hw); (try clear hp_)))
                                          go_roundg k3
                                          case measure => have := HK1.out; have := HK2.out; have := HK3.out; omega
                                          case rel => exact ⟨(y395), (true), (wrap64 (x21_3 + 1)), (by first | rfl | (simp; done) | (simp [*]; done)), (by first | rfl | (simp; done) | (simp [*]; done)), H', ⟨by have := HK1.out; have := HK2.out; have := HK3.out; omega⟩, ⟨by (with_reducible repeat (first | apply Kd.R_alloc | apply Kd.R_drewN | apply Kd.R_drew)); exact HO_5.out⟩, ⟨by repeat (first | (with_reducible first | exact HB.out | apply below_alloc | apply pw_below_drewN | apply below_drew1) | exact HB.out)⟩⟩
                                      · rw [if_neg c19] at H
                                        exact absurd H (by simp)
                                    · rw [if_neg c18] at H
                                      exact absurd H (by simp)
                                  · rw [if_neg c17] at H
                                    exact absurd H (by simp)
                                · rw [if_neg c16] at H
                                  exact absurd H (by simp)
                              · replace c15 := Bool.eq_false_iff.mpr c15
                                subst c15
                                have H1 : (semigroupref14_Generated.l2 k3 l0 x5_3 x6_3 x16_2 (l0.length : Int) x16_2 (l0.length : Int) (wrap64 (x21_3 + 1))) = some r := by rw [if_neg (show ¬ (false = true) by decide)] at H; exact H
                                clear H
                                have H := H1
                                clear H1
                                have H' := Aside0.mk H
                                clear H
                                obtain ⟨Ao27, co27, eo27⟩ := Kd.R_slice HO_5.out
                                subst eo27
                                have p388 : 0 ≤ (x16_2 : Int) := of_decide_eq_true (by first | (with_reducible assumption) | assumption)
                                have q388 : x16_2 < (x5_3.length : Int) := of_decide_eq_true (by first | (with_reducible assumption) | assumption)
                                obtain ⟨ad388, e388, hx388_0⟩ := Kd.at_bool (Kd.R_reads' HO_5.out).2.2 x16_2 p388 q388
                                (try rw [← Nbq10.out] at hx388_0)
                                (try rw [← Nbq14.out] at hx388_0)
                                cases e388
                                replace p388 := eq_true p388
                                replace q388 := eq_true q388
                                have p389 : 0 ≤ (x21_3 : Int) := of_decide_eq_true (by first | (with_reducible assumption) | assumption)
                                have q389 : x21_3 < (x5_3.length : Int) := of_decide_eq_true (by first | (with_reducible assumption) | assumption)
                                obtain ⟨ad389, e389, hx389_0⟩ := Kd.at_bool (Kd.R_reads' HO_5.out).2.2 x21_3 p389 q389
                                (try rw [← Nbq10.out] at hx389_0)
                                (try rw [← Nbq14.out] at hx389_0)
                                obtain rfl : ad388 = ad389 := (by injection e389)
                                replace p389 := eq_true p389
                                replace q389 := eq_true q389
                                go_wp2
                                go_roundg k3
                                case measure => have := HK1.out; have := HK2.out; have := HK3.out; omega
                                case rel => exact ⟨(x5_3), (x6_3), (wrap64 (x21_3 + 1)), (by first | rfl | (simp; done) | (simp [*]; done)), (by first | rfl | (simp; done) | (simp [*]; done)), H', ⟨by have := HK1.out; have := HK2.out; have := HK3.out; omega⟩, ⟨by (with_reducible repeat (first | apply Kd.R_alloc | apply Kd.R_drewN | apply Kd.R_drew)); exact HO_5.out⟩, ⟨by repeat (first | (with_reducible first | exact HB.out | apply below_alloc | apply pw_below_drewN | apply below_drew1) | exact HB.out)⟩⟩
                            · rw [if_neg c13] at H
                              exact absurd H (by simp)
                          · rw [if_neg c12] at H
                            exact absurd H (by simp)
                        · replace c11 := Bool.eq_false_iff.mpr c11
                          subst c11
                          have H1 : (semigroupref14_Generated.l2 k3 l0 x5_3 x6_3 x16_2 (l0.length : Int) x16_2 (l0.length : Int) (wrap64 (x21_3 + 1))) = some r := by rw [if_neg (show ¬ (false = true) by decide)] at H; exact H
                          clear H
                          have H := H1
                          clear H1
                          have H' := Aside0.mk H
                          clear H
                          obtain ⟨Ao28, co28, eo28⟩ := Kd.R_slice HO_5.out
                          subst eo28
                          have p388 : 0 ≤ (x16_2 : Int) := of_decide_eq_true (by first | (with_reducible assumption) | assumption)
                          have q388 : x16_2 < (x5_3.length : Int) := of_decide_eq_true (by first | (with_reducible assumption) | assumption)
                          obtain ⟨ad388, e388, hx388_0⟩ := Kd.at_bool (Kd.R_reads' HO_5.out).2.2 x16_2 p388 q388
                          (try rw [← Nbq10.out] at hx388_0)
                          cases e388
                          replace p388 := eq_true p388
                          replace q388 := eq_true q388
                          go_wp2
                          go_roundg k3
                          case measure => have := HK1.out; have := HK2.out; have := HK3.out; omega
                          case rel => exact ⟨(x5_3), (x6_3), (wrap64 (x21_3 + 1)), (by first | rfl | (simp; done) | (simp [*]; done)), (by first | rfl | (simp; done) | (simp [*]; done)), H', ⟨by have := HK1.out; have := HK2.out; have := HK3.out; omega⟩, ⟨by (with_reducible repeat (first | apply Kd.R_alloc | apply Kd.R_drewN | apply Kd.R_drew)); exact HO_5.out⟩, ⟨by repeat (first | (with_reducible first | exact HB.out | apply below_alloc | apply pw_below_drewN | apply below_drew1) | exact HB.out)⟩⟩
                      · rw [if_neg c9] at H
                        exact absurd H (by simp)
                    · rw [if_neg c8] at H
                      exact absurd H (by simp)
                  · rw [if_neg c7] at H
                    have c7b0 : decide (x21_3 < (l0.length : Int)) = false := decide_eq_false c7
                    clear c7
                    have H' := Aside0.mk H
                    clear H
                    go_wp2
                    go_roundg k3
                    case measure => have := HK1.out; have := HK2.out; have := HK3.out; omega
                    case rel => exact ⟨(x5_3), (x6_3), (wrap64 (x16_2 + 1)), (by first | rfl | (simp; done) | (simp [*]; done)), (by first | rfl | (simp; done) | (simp [*]; done)), H', ⟨by have := HK1.out; have := HK2.out; have := HK3.out; omega⟩, ⟨by (with_reducible repeat (first | apply Kd.R_alloc | apply Kd.R_drewN | apply Kd.R_drew)); exact HO_5.out⟩, ⟨by repeat (first | (with_reducible first | exact HB.out | apply below_alloc | apply pw_below_drewN | apply below_drew1) | exact HB.out)⟩⟩
            · rw [if_neg c6] at H
              have c6b0 : decide (x16_2 < (l0.length : Int)) = false := decide_eq_false c6
              clear c6
              have H' := Aside0.mk H
              clear H
              go_wp2
              go_roundg k2
              case measure => have := HK1.out; have := HK2.out; omega
              case rel => exact ⟨(x5_2), (x6_2), (by first | rfl | (simp; done) | (simp [*]; done)), H', ⟨by have := HK1.out; have := HK2.out; omega⟩, ⟨by (with_reducible repeat (first | apply Kd.R_alloc | apply Kd.R_drewN | apply Kd.R_drew)); exact HO_5.out⟩, ⟨by repeat (first | (with_reducible first | exact HB.out | apply below_alloc | apply pw_below_drewN | apply below_drew1) | exact HB.out)⟩⟩
      · replace c5 := Bool.eq_false_iff.mpr c5
        subst c5
        have H1 : ((semigroupref03_Members.f k1 x5_1).bind fun t385 => (some t385)) = some r := by rw [if_neg (show ¬ (false = true) by decide)] at H; exact H
        clear H
        have H := H1
        clear H1
        replace H := Option.bind_eq_some_iff.mp H
        obtain ⟨t385, A290, H⟩ := H
        replace H : (some t385) = some r := H
        have A29 := Aside0.mk A290
        clear A290
        obtain rfl := Option.some.inj H
        obtain ⟨Ao30, co30, eo30⟩ := Kd.R_slice HO_5.out
        subst eo30
        go_wp2_with (first | ((with_reducible refine gate_callee (f := 70) rfl ?_); refine goesL_ (some 59) rfl rfl Try.func70 (by kernel_rfl) rfl #[.slice Ao30 x5_1.length co30] rfl (by (try simp only [List.map_toArray, List.map_cons, List.map_nil]); first | done | rfl | (simp only [List.length_drop, List.length_take]; rfl)) ?_; (with_reducible refine (semigroupref03_Members.calls k1 _ _ x5_1 t385 _ ?side1 ?side2 A29.out).mono ?_); (case side1 => repeat (first | exact (Kd.R_reads' HO_5.out).2.2 | (with_reducible refine Kd.C_alloc ?_ _) | (with_reducible refine Kd.C_drewN ?_ _) | (with_reducible refine Kd.C_drew ?_))); (case side2 => exact (Kd.R_reads' HO_5.out).2.1); rintro e w31 ⟨v386, rfl, ho0, hb⟩; refine ⟨_, rfl, ?_⟩; have n0_ := Aside0.mk (Kd.R_below (by (with_reducible repeat (first | apply Kd.R_alloc | apply Kd.R_drewN | apply Kd.R_drew)); exact HO_5.out) hb); have n1_ := Aside0.mk (Kd.R_lower ho0 (below_size (by repeat (first | (with_reducible first | exact HB.out | apply below_alloc | apply pw_below_drewN | apply below_drew1) | exact HB.out)))); have n2_ := Aside0.mk (below_step (by repeat (first | (with_reducible first | exact HB.out | apply below_alloc | apply pw_below_drewN | apply below_drew1) | exact HB.out)) hb); clear HO_5; clear HB; have HO_5 := n0_; have HO387 := n1_; have HB := n2_; clear n0_ n1_ n2_; (try clear hb); (try clear hb2); (try clear hk); (try clear hi); (try clear ho0)))
        go_ret
        exact ⟨_, by first | rfl | (simp [errW_none, errW_some] <;> rfl) | (simp [*, errW_none, errW_some] <;> rfl), by (with_reducible repeat (first | apply Kd.R_alloc | apply Kd.R_drewN | apply Kd.R_drew)); exact HO387.out, by repeat (first | (with_reducible first | exact HB.out | apply below_alloc | apply pw_below_drewN | apply below_drew1) | exact HB.out)⟩

/-! ### semigrouplaw14_MultLight: function 8 -/
def semigrouplaw14_MultLight.j0 : Nat → List (List Int) → Bool → Bool → Option (Bool)
  | 0, _, _, _ => none
  | k + 1, x0, x5, x35 => if x35 = true then ((semigrouplaw14_awake.f k).bind fun t404 => (some t404)) else ((mult_Validate.f k x0).bind fun t405 => (if (x5 == (t405 == 0)) = true then ((semigrouplaw14_awake.f k).bind fun t406 => (some t406)) else (some false)))
def semigrouplaw14_MultLight.f (k : Nat) (l0 : List (List Int)) (l1 : List Int) : Option (Bool) := if (l0.length : Int) > 25 then ((semigrouplaw14_awake.f k).bind fun t396 => (some t396)) else ((mult_Light.f k l0 l1).bind fun t397 => ((semigroupref14_Light.f k l0 l1).bind fun t398 => (if (t397 != t398) = true then (some false) else ((semigroupref14_Shape.f k l0).bind fun t399 => (if t399 = 0 then ((semigroupref14_In.f k l0 l1).bind fun t400 => (if t400 = true then ((semigroupref14_Generated.f k l0 l1).bind fun t401 => (semigrouplaw14_MultLight.j0 k l0 t397 ((t401.length : Int) != (l0.length : Int)))) else (semigrouplaw14_MultLight.j0 k l0 t397 true))) else (semigrouplaw14_MultLight.j0 k l0 t397 true))))))
theorem semigrouplaw14_MultLight.mono_l : ∀ k, (∀ y0 y1 y2, LeO (semigrouplaw14_MultLight.j0 k y0 y1 y2) (semigrouplaw14_MultLight.j0 (k + 1) y0 y1 y2))
  | 0 => fun _ _ _ r h => by simp [semigrouplaw14_MultLight.j0] at h
  | k + 1 => by
    have ih0 := semigrouplaw14_MultLight.mono_l k
    · intro y0 y1 y2
      unfold semigrouplaw14_MultLight.j0
      repeat' first
      | (with_reducible exact ih0 _ _ _)
      | (with_reducible exact mult_Light.mono _ _ _)
      | (with_reducible exact mult_Validate.mono _ _)
      | (with_reducible exact semigrouplaw14_awake.mono _)
      | (with_reducible exact semigroupref14_Generated.mono _ _ _)
      | (with_reducible exact semigroupref14_In.mono _ _ _)
      | (with_reducible exact semigroupref14_Light.mono _ _ _)
      | (with_reducible exact semigroupref14_Shape.mono _ _)
      | (with_reducible exact LeO.refl _)
      | (with_reducible exact LeO.none _)
      | (with_reducible refine LeO.ite ?_ ?_)
      | (with_reducible refine LeO.bind ?_ (fun _ => ?_))
      | exact ih0 _ _ _
      | exact mult_Light.mono _ _ _
      | exact mult_Validate.mono _ _
      | exact semigrouplaw14_awake.mono _
      | exact semigroupref14_Generated.mono _ _ _
      | exact semigroupref14_In.mono _ _ _
      | exact semigroupref14_Light.mono _ _ _
      | exact semigroupref14_Shape.mono _ _
      | exact LeO.none _
      | refine LeO.ite ?_ ?_
      | refine LeO.bind ?_ (fun _ => ?_)
theorem semigrouplaw14_MultLight.mono : ∀ a0 a1 k, LeO (semigrouplaw14_MultLight.f k a0 a1) (semigrouplaw14_MultLight.f (k + 1) a0 a1) := by
  intro a0 a1 k
  have ih0 := semigrouplaw14_MultLight.mono_l k
  unfold semigrouplaw14_MultLight.f
  repeat' first
      | (with_reducible exact ih0 _ _ _)
      | (with_reducible exact mult_Light.mono _ _ _)
      | (with_reducible exact mult_Validate.mono _ _)
      | (with_reducible exact semigrouplaw14_awake.mono _)
      | (with_reducible exact semigroupref14_Generated.mono _ _ _)
      | (with_reducible exact semigroupref14_In.mono _ _ _)
      | (with_reducible exact semigroupref14_Light.mono _ _ _)
      | (with_reducible exact semigroupref14_Shape.mono _ _)
      | (with_reducible exact LeO.refl _)
      | (with_reducible exact LeO.none _)
      | (with_reducible refine LeO.ite ?_ ?_)
      | (with_reducible refine LeO.bind ?_ (fun _ => ?_))
      | exact ih0 _ _ _
      | exact mult_Light.mono _ _ _
      | exact mult_Validate.mono _ _
      | exact semigrouplaw14_awake.mono _
      | exact semigroupref14_Generated.mono _ _ _
      | exact semigroupref14_In.mono _ _ _
      | exact semigroupref14_Light.mono _ _ _
      | exact semigroupref14_Shape.mono _ _
      | exact LeO.none _
      | refine LeO.ite ?_ ?_
      | refine LeO.bind ?_ (fun _ => ?_)
set_option maxHeartbeats 8000000 in
set_option maxRecDepth 100000 in
theorem semigrouplaw14_MultLight.calls (k : Nat) (A0 : Option Addr) (c0 : Nat) (l0 : List (List Int)) (A1 : Option Addr) (c1 : Nat) (l1 : List Int) (r : Bool) (w : World) (hr0 : Kd.C (Kd.slice 3 (Kd.int .i64)) w A0 l0.length l0) (hc0 : l0.length ≤ c0) (hr1 : Kd.C (Kd.int .i64) w A1 l1.length l1) (hc1 : l1.length ≤ c1) (h : semigrouplaw14_MultLight.f k l0 l1 = some r) :
    Calls Try.prog 8 #[.slice A0 l0.length c0, .slice A1 l1.length c1] w fun e w' => e = .returned (.bool r) ∧ Below w.heap.size w w' := by
  have HR0 := Aside0.mk hr0
  have HC0 := Aside0.mk hc0
  (try clear hr0); (try clear hc0)
  have HR1 := Aside0.mk hr1
  have HC1 := Aside0.mk hc1
  (try clear hr1); (try clear hc1)
  have HB := Aside0.mk (Below.refl w.heap.size w)
  have H : (if (l0.length : Int) > 25 then ((semigrouplaw14_awake.f k).bind fun t396 => (some t396)) else ((mult_Light.f k l0 l1).bind fun t397 => ((semigroupref14_Light.f k l0 l1).bind fun t398 => (if (t397 != t398) = true then (some false) else ((semigroupref14_Shape.f k l0).bind fun t399 => (if t399 = 0 then ((semigroupref14_In.f k l0 l1).bind fun t400 => (if t400 = true then ((semigroupref14_Generated.f k l0 l1).bind fun t401 => (semigrouplaw14_MultLight.j0 k l0 t397 ((t401.length : Int) != (l0.length : Int)))) else (semigrouplaw14_MultLight.j0 k l0 t397 true))) else (semigrouplaw14_MultLight.j0 k l0 t397 true))))))) = some r := h
  clear h
  by_cases c3 : (l0.length : Int) > 25
  · rw [if_pos c3] at H
    have c3b0 : decide (25 < (l0.length : Int)) = true := decide_eq_true c3
    have c3b1 : decide (25 < l0.length) = true := decide_eq_true (by omega)
    clear c3
    replace H := Option.bind_eq_some_iff.mp H
    obtain ⟨t396, A40, H⟩ := H
    replace H : (some t396) = some r := H
    have A4 := Aside0.mk A40
    clear A40
    obtain rfl := Option.some.inj H
    go_enter Try.func8, Try.ntmps8
    go_wp2_with (first | ((with_reducible refine gate_callee (f := 16) rfl ?_); refine goesL_ (some 9) rfl rfl Try.func16 (by kernel_rfl) rfl #[] rfl (by (try simp only [List.map_toArray, List.map_cons, List.map_nil]); first | done | rfl | (simp only [List.length_drop, List.length_take]; rfl)) ?_; (with_reducible refine (semigrouplaw14_awake.calls k  t396 _ A4.out).mono ?_); rintro e w5 ⟨rfl, hb⟩; refine ⟨_, rfl, ?_⟩; have n0_ := Aside0.mk (below_step (by repeat (first | (with_reducible first | exact HB.out | apply below_alloc | apply pw_below_drewN | apply below_drew1) | exact HB.out)) hb); clear HB; have HB := n0_; clear n0_; (try clear hb); (try clear hb2); (try clear hk); (try clear hi)))
    go_ret
    exact ⟨by first | rfl | (simp [errW_none, errW_some] <;> rfl) | (simp [*, errW_none, errW_some] <;> rfl), by repeat (first | (with_reducible first | exact HB.out | apply below_alloc | apply pw_below_drewN | apply below_drew1) | exact HB.out)⟩
  · rw [if_neg c3] at H
    have c3b0 : decide (25 < (l0.length : Int)) = false := decide_eq_false c3
    have c3b1 : decide (25 < l0.length) = false := decide_eq_false (by omega)
    clear c3
    replace H := Option.bind_eq_some_iff.mp H
    obtain ⟨t397, A60, H⟩ := H
    replace H : ((semigroupref14_Light.f k l0 l1).bind fun t398 => (if (t397 != t398) = true then (some false) else ((semigroupref14_Shape.f k l0).bind fun t399 => (if t399 = 0 then ((semigroupref14_In.f k l0 l1).bind fun t400 => (if t400 = true then ((semigroupref14_Generated.f k l0 l1).bind fun t401 => (semigrouplaw14_MultLight.j0 k l0 t397 ((t401.length : Int) != (l0.length : Int)))) else (semigrouplaw14_MultLight.j0 k l0 t397 true))) else (semigrouplaw14_MultLight.j0 k l0 t397 true))))) = some r := H
    have A6 := Aside0.mk A60
    clear A60
    replace H := Option.bind_eq_some_iff.mp H
    obtain ⟨t398, A70, H⟩ := H
    replace H : (if (t397 != t398) = true then (some false) else ((semigroupref14_Shape.f k l0).bind fun t399 => (if t399 = 0 then ((semigroupref14_In.f k l0 l1).bind fun t400 => (if t400 = true then ((semigroupref14_Generated.f k l0 l1).bind fun t401 => (semigrouplaw14_MultLight.j0 k l0 t397 ((t401.length : Int) != (l0.length : Int)))) else (semigrouplaw14_MultLight.j0 k l0 t397 true))) else (semigrouplaw14_MultLight.j0 k l0 t397 true)))) = some r := H
    have A7 := Aside0.mk A70
    clear A70
    by_cases c8 : (t397 != t398) = true
    · rw [if_pos c8] at H
      have c8b0 : (t397 != t398) = true := c8
      (try (have c8b1 : decide (t397 = t398) = false := by simpa using c8))
      (try (have c8b2 : (t397 == t398) = false := by simpa using c8))
      (try (have c8b3 : ¬ (t397 = t398) := by simpa using c8))
      clear c8
      obtain rfl := Option.some.inj H
      go_enter Try.func8, Try.ntmps8
      go_wp2_with (first | ((with_reducible refine gate_callee (f := 39) rfl ?_); refine goesL_ (some 12) rfl rfl Try.func39 (by kernel_rfl) rfl #[.slice A0 l0.length c0, .slice A1 l1.length c1] rfl (by (try simp only [List.map_toArray, List.map_cons, List.map_nil]); first | done | rfl | (simp only [List.length_drop, List.length_take]; rfl)) ?_; (with_reducible refine (mult_Light.calls k _ _ l0 _ _ l1 t397 _ ?side1 ?side2 ?side3 ?side4 A6.out).mono ?_); (case side1 => repeat (first | exact HR0.out | (with_reducible refine Kd.C_alloc ?_ _) | (with_reducible refine Kd.C_drewN ?_ _) | (with_reducible refine Kd.C_drew ?_))); (case side2 => exact HC0.out); (case side3 => repeat (first | exact HR1.out | (with_reducible refine Kd.C_alloc ?_ _) | (with_reducible refine Kd.C_drewN ?_ _) | (with_reducible refine Kd.C_drew ?_))); (case side4 => exact HC1.out); rintro e w' ⟨rfl, ⟨nd, rfl⟩⟩; refine ⟨_, rfl, ?_⟩) | ((with_reducible refine gate_callee (f := 40) rfl ?_); refine goesL_ (some 16) rfl rfl Try.func40 (by kernel_rfl) rfl #[.slice A0 l0.length c0, .slice A1 l1.length c1] rfl (by (try simp only [List.map_toArray, List.map_cons, List.map_nil]); first | done | rfl | (simp only [List.length_drop, List.length_take]; rfl)) ?_; (with_reducible refine (semigroupref14_Light.calls k _ _ l0 _ _ l1 t398 _ ?side1 ?side2 ?side3 ?side4 A7.out).mono ?_); (case side1 => repeat (first | exact HR0.out | (with_reducible refine Kd.C_alloc ?_ _) | (with_reducible refine Kd.C_drewN ?_ _) | (with_reducible refine Kd.C_drew ?_))); (case side2 => exact HC0.out); (case side3 => repeat (first | exact HR1.out | (with_reducible refine Kd.C_alloc ?_ _) | (with_reducible refine Kd.C_drewN ?_ _) | (with_reducible refine Kd.C_drew ?_))); (case side4 => exact HC1.out); rintro e w' ⟨rfl, ⟨nd, rfl⟩⟩; refine ⟨_, rfl, ?_⟩))
      go_ret
      exact ⟨by first | rfl | (simp [errW_none, errW_some] <;> rfl) | (simp [*, errW_none, errW_some] <;> rfl), by repeat (first | (with_reducible first | exact HB.out | apply below_alloc | apply pw_below_drewN | apply below_drew1) | exact HB.out)⟩
    · rw [if_neg c8] at H
      have c8b0 : (t397 != t398) = false := by simpa using c8
      (try (have c8b1 : decide (t397 = t398) = true := by simpa using c8))
      (try (have c8b2 : (t397 == t398) = true := by simpa using c8))
      clear c8
      have HC9 := Aside0.mk H
      clear H
      go_enter Try.func8, Try.ntmps8
      go_upto_region 6 with (first | ((with_reducible refine gate_callee (f := 39) rfl ?_); refine goesL_ (some 12) rfl rfl Try.func39 (by kernel_rfl) rfl #[.slice A0 l0.length c0, .slice A1 l1.length c1] rfl (by (try simp only [List.map_toArray, List.map_cons, List.map_nil]); first | done | rfl | (simp only [List.length_drop, List.length_take]; rfl)) ?_; (with_reducible refine (mult_Light.calls k _ _ l0 _ _ l1 t397 _ ?side1 ?side2 ?side3 ?side4 A6.out).mono ?_); (case side1 => repeat (first | exact HR0.out | (with_reducible refine Kd.C_alloc ?_ _) | (with_reducible refine Kd.C_drewN ?_ _) | (with_reducible refine Kd.C_drew ?_))); (case side2 => exact HC0.out); (case side3 => repeat (first | exact HR1.out | (with_reducible refine Kd.C_alloc ?_ _) | (with_reducible refine Kd.C_drewN ?_ _) | (with_reducible refine Kd.C_drew ?_))); (case side4 => exact HC1.out); rintro e w' ⟨rfl, ⟨nd, rfl⟩⟩; refine ⟨_, rfl, ?_⟩) | ((with_reducible refine gate_callee (f := 40) rfl ?_); refine goesL_ (some 16) rfl rfl Try.func40 (by kernel_rfl) rfl #[.slice A0 l0.length c0, .slice A1 l1.length c1] rfl (by (try simp only [List.map_toArray, List.map_cons, List.map_nil]); first | done | rfl | (simp only [List.length_drop, List.length_take]; rfl)) ?_; (with_reducible refine (semigroupref14_Light.calls k _ _ l0 _ _ l1 t398 _ ?side1 ?side2 ?side3 ?side4 A7.out).mono ?_); (case side1 => repeat (first | exact HR0.out | (with_reducible refine Kd.C_alloc ?_ _) | (with_reducible refine Kd.C_drewN ?_ _) | (with_reducible refine Kd.C_drew ?_))); (case side2 => exact HC0.out); (case side3 => repeat (first | exact HR1.out | (with_reducible refine Kd.C_alloc ?_ _) | (with_reducible refine Kd.C_drewN ?_ _) | (with_reducible refine Kd.C_drew ?_))); (case side4 => exact HC1.out); rintro e w' ⟨rfl, ⟨nd, rfl⟩⟩; refine ⟨_, rfl, ?_⟩))
      (try simp only [Act.put, List.setIfInBounds_toArray, List.set_cons_zero, List.set_cons_succ])
      go_cut [35] (fun v35 wc => ∃ (kq : Nat) (x35_8 : Bool), v35 = .bool x35_8 ∧ Aside0 (semigrouplaw14_MultLight.j0 kq l0 t397 x35_8 = some r) ∧ Aside0 (kq ≤ k) ∧ Aside0 (Below w.heap.size w wc))
      case first =>
        have H := HC9.out
        clear HC9
        replace H := Option.bind_eq_some_iff.mp H
        obtain ⟨t399, A100, H⟩ := H
        replace H : (if t399 = 0 then ((semigroupref14_In.f k l0 l1).bind fun t400 => (if t400 = true then ((semigroupref14_Generated.f k l0 l1).bind fun t401 => (semigrouplaw14_MultLight.j0 k l0 t397 ((t401.length : Int) != (l0.length : Int)))) else (semigrouplaw14_MultLight.j0 k l0 t397 true))) else (semigrouplaw14_MultLight.j0 k l0 t397 true)) = some r := H
        have A10 := Aside0.mk A100
        clear A100
        by_cases c11 : t399 = 0
        · rw [if_pos c11] at H
          have c11b0 : (t399 == 0) = true := beq_iff_eq.mpr c11
          have c11b1 : (t399 != 0) = false := bne_eq_false_iff_eq.mpr c11
          clear c11
          (first | rw [c11b0] | (simp only [i64_w, i32_w]; rw [c11b0]) | skip)
          replace H := Option.bind_eq_some_iff.mp H
          obtain ⟨t400, A120, H⟩ := H
          replace H : (if t400 = true then ((semigroupref14_Generated.f k l0 l1).bind fun t401 => (semigrouplaw14_MultLight.j0 k l0 t397 ((t401.length : Int) != (l0.length : Int)))) else (semigrouplaw14_MultLight.j0 k l0 t397 true)) = some r := H
          have A12 := Aside0.mk A120
          clear A120
          by_cases c13 : t400 = true
          · subst c13
            have H1 : ((semigroupref14_Generated.f k l0 l1).bind fun t401 => (semigrouplaw14_MultLight.j0 k l0 t397 ((t401.length : Int) != (l0.length : Int)))) = some r := by rw [if_pos rfl] at H; exact H
            clear H
            have H := H1
            clear H1
            replace H := Option.bind_eq_some_iff.mp H
            obtain ⟨t401, A140, H⟩ := H
            replace H : (semigrouplaw14_MultLight.j0 k l0 t397 ((t401.length : Int) != (l0.length : Int))) = some r := H
            have A14 := Aside0.mk A140
            clear A140
            have H' := Aside0.mk H
            clear H
            go_wp2_with (first | ((with_reducible refine gate_callee (f := 23) rfl ?_); refine goesL_ (some 19) rfl rfl Try.func23 (by kernel_rfl) rfl #[.slice A0 l0.length c0] rfl (by (try simp only [List.map_toArray, List.map_cons, List.map_nil]); first | done | rfl | (simp only [List.length_drop, List.length_take]; rfl)) ?_; (with_reducible refine (semigroupref14_Shape.calls k _ _ l0 t399 _ ?side1 ?side2 A10.out).mono ?_); (case side1 => repeat (first | exact (Kd.C_below HR0.out HB.out) | (with_reducible refine Kd.C_alloc ?_ _) | (with_reducible refine Kd.C_drewN ?_ _) | (with_reducible refine Kd.C_drew ?_))); (case side2 => exact HC0.out); rintro e w' ⟨rfl, ⟨nd, rfl⟩⟩; refine ⟨_, rfl, ?_⟩) | (go_at_call 32; (with_reducible refine (semigroupref14_In.calls k _ _ l0 _ _ l1 true _ ?side1 ?side2 ?side3 ?side4 A12.out).mono ?_); (case side1 => repeat (first | exact (Kd.C_below HR0.out (by repeat (first | (with_reducible first | exact HB.out | apply below_alloc | apply pw_below_drewN | apply below_drew1) | exact HB.out))) | (with_reducible refine Kd.C_alloc ?_ _) | (with_reducible refine Kd.C_drewN ?_ _) | (with_reducible refine Kd.C_drew ?_))); (case side2 => exact HC0.out); (case side3 => repeat (first | exact (Kd.C_below HR1.out (by repeat (first | (with_reducible first | exact HB.out | apply below_alloc | apply pw_below_drewN | apply below_drew1) | exact HB.out))) | (with_reducible refine Kd.C_alloc ?_ _) | (with_reducible refine Kd.C_drewN ?_ _) | (with_reducible refine Kd.C_drew ?_))); (case side4 => exact HC1.out); rintro e w' ⟨rfl, ⟨nd, rfl⟩⟩) | (go_at_call 41; (with_reducible refine (semigroupref14_Generated.calls k _ _ l0 _ _ l1 t401 _ ?side1 ?side2 ?side3 ?side4 A14.out).mono ?_); (case side1 => repeat (first | exact (Kd.C_below HR0.out (by repeat (first | (with_reducible first | exact HB.out | apply below_alloc | apply pw_below_drewN | apply below_drew1) | exact HB.out))) | (with_reducible refine Kd.C_alloc ?_ _) | (with_reducible refine Kd.C_drewN ?_ _) | (with_reducible refine Kd.C_drew ?_))); (case side2 => exact HC0.out); (case side3 => repeat (first | exact (Kd.C_below HR1.out (by repeat (first | (with_reducible first | exact HB.out | apply below_alloc | apply pw_below_drewN | apply below_drew1) | exact HB.out))) | (with_reducible refine Kd.C_alloc ?_ _) | (with_reducible refine Kd.C_drewN ?_ _) | (with_reducible refine Kd.C_drew ?_))); (case side4 => exact HC1.out); rintro e w15 ⟨v402, rfl, ho0, hb⟩; have n0_ := Aside0.mk (Kd.R_lower ho0 (below_size (by repeat (first | (with_reducible first | exact HB.out | apply below_alloc | apply pw_below_drewN | apply below_drew1) | exact HB.out)))); have n1_ := Aside0.mk (below_step (by repeat (first | (with_reducible first | exact HB.out | apply below_alloc | apply pw_below_drewN | apply below_drew1) | exact HB.out)) hb); clear HB; have HO403 := n0_; have HB := n1_; clear n0_ n1_; (try clear hb); (try clear hb2); (try clear hk); (try clear hi); (try clear ho0); obtain ⟨Ao16, co16, eo16⟩ := Kd.R_slice HO403.out; subst eo16))
            go_meet
            case rel => exact ⟨_, (((t401.length : Int) != (l0.length : Int))), (by first | rfl | (simp; done) | (simp [*]; done)), H', ⟨by first | omega | exact Nat.le_refl _⟩, ⟨by repeat (first | (with_reducible first | exact HB.out | apply below_alloc | apply pw_below_drewN | apply below_drew1) | exact HB.out)⟩⟩
          · replace c13 := Bool.eq_false_iff.mpr c13
            subst c13
            have H1 : (semigrouplaw14_MultLight.j0 k l0 t397 true) = some r := by rw [if_neg (show ¬ (false = true) by decide)] at H; exact H
            clear H
            have H := H1
            clear H1
            have H' := Aside0.mk H
            clear H
            go_wp2_with (first | ((with_reducible refine gate_callee (f := 23) rfl ?_); refine goesL_ (some 19) rfl rfl Try.func23 (by kernel_rfl) rfl #[.slice A0 l0.length c0] rfl (by (try simp only [List.map_toArray, List.map_cons, List.map_nil]); first | done | rfl | (simp only [List.length_drop, List.length_take]; rfl)) ?_; (with_reducible refine (semigroupref14_Shape.calls k _ _ l0 t399 _ ?side1 ?side2 A10.out).mono ?_); (case side1 => repeat (first | exact (Kd.C_below HR0.out HB.out) | (with_reducible refine Kd.C_alloc ?_ _) | (with_reducible refine Kd.C_drewN ?_ _) | (with_reducible refine Kd.C_drew ?_))); (case side2 => exact HC0.out); rintro e w' ⟨rfl, ⟨nd, rfl⟩⟩; refine ⟨_, rfl, ?_⟩) | (go_at_call 32; (with_reducible refine (semigroupref14_In.calls k _ _ l0 _ _ l1 false _ ?side1 ?side2 ?side3 ?side4 A12.out).mono ?_); (case side1 => repeat (first | exact (Kd.C_below HR0.out (by repeat (first | (with_reducible first | exact HB.out | apply below_alloc | apply pw_below_drewN | apply below_drew1) | exact HB.out))) | (with_reducible refine Kd.C_alloc ?_ _) | (with_reducible refine Kd.C_drewN ?_ _) | (with_reducible refine Kd.C_drew ?_))); (case side2 => exact HC0.out); (case side3 => repeat (first | exact (Kd.C_below HR1.out (by repeat (first | (with_reducible first | exact HB.out | apply below_alloc | apply pw_below_drewN | apply below_drew1) | exact HB.out))) | (with_reducible refine Kd.C_alloc ?_ _) | (with_reducible refine Kd.C_drewN ?_ _) | (with_reducible refine Kd.C_drew ?_))); (case side4 => exact HC1.out); rintro e w' ⟨rfl, ⟨nd, rfl⟩⟩))
            go_meet
            case rel => exact ⟨_, (true), (by first | rfl | (simp; done) | (simp [*]; done)), H', ⟨by first | omega | exact Nat.le_refl _⟩, ⟨by repeat (first | (with_reducible first | exact HB.out | apply below_alloc | apply pw_below_drewN | apply below_drew1) | exact HB.out)⟩⟩
        · rw [if_neg c11] at H
          have c11b0 : (t399 == 0) = false := beq_eq_false_iff_ne.mpr c11
          have c11b1 : (t399 != 0) = true := bne_iff_ne.mpr c11
          (first | rw [c11b0] | (simp only [i64_w, i32_w]; rw [c11b0]) | skip)
          have H' := Aside0.mk H
          clear H
          go_wp2_with (first | ((with_reducible refine gate_callee (f := 23) rfl ?_); refine goesL_ (some 19) rfl rfl Try.func23 (by kernel_rfl) rfl #[.slice A0 l0.length c0] rfl (by (try simp only [List.map_toArray, List.map_cons, List.map_nil]); first | done | rfl | (simp only [List.length_drop, List.length_take]; rfl)) ?_; (with_reducible refine (semigroupref14_Shape.calls k _ _ l0 t399 _ ?side1 ?side2 A10.out).mono ?_); (case side1 => repeat (first | exact (Kd.C_below HR0.out HB.out) | (with_reducible refine Kd.C_alloc ?_ _) | (with_reducible refine Kd.C_drewN ?_ _) | (with_reducible refine Kd.C_drew ?_))); (case side2 => exact HC0.out); rintro e w' ⟨rfl, ⟨nd, rfl⟩⟩; refine ⟨_, rfl, ?_⟩))
          go_meet
          case rel => exact ⟨_, (true), (by first | rfl | (simp; done) | (simp [*]; done)), H', ⟨by first | omega | exact Nat.le_refl _⟩, ⟨by repeat (first | (with_reducible first | exact HB.out | apply below_alloc | apply pw_below_drewN | apply below_drew1) | exact HB.out)⟩⟩
      case rest =>
        clear HC9
        try clear c1
        try clear c2
        try clear p2
        try clear c3
        try clear c3b0
        try clear c3b1
        try clear c4
        try clear c8
        try clear c8b0
        try clear c8b1
        try clear c8b2
        try clear c11
        try clear c11b0
        try clear c11b1
        try clear c13
        try clear c16
        obtain ⟨kq, x35_8, rfl, HA, HJ8, HB⟩ := hcut
        cases kq with
        | zero => exact absurd HA.out (by simp [semigrouplaw14_MultLight.j0])
        | succ kj8 =>
          have H := HA.out
          clear HA
          simp only [semigrouplaw14_MultLight.j0] at H
          by_cases c17 : x35_8 = true
          · subst c17
            have H1 : ((semigrouplaw14_awake.f kj8).bind fun t404 => (some t404)) = some r := by rw [if_pos rfl] at H; exact H
            clear H
            have H := H1
            clear H1
            replace H := Option.bind_eq_some_iff.mp H
            obtain ⟨t404, A180, H⟩ := H
            replace H : (some t404) = some r := H
            have A18 := Aside0.mk A180
            clear A180
            obtain rfl := Option.some.inj H
            go_wp2_with (first | ((with_reducible refine gate_callee (f := 16) rfl ?_); refine goesL_ (some 36) rfl rfl Try.func16 (by kernel_rfl) rfl #[] rfl (by (try simp only [List.map_toArray, List.map_cons, List.map_nil]); first | done | rfl | (simp only [List.length_drop, List.length_take]; rfl)) ?_; (with_reducible refine (semigrouplaw14_awake.calls kj8  t404 _ A18.out).mono ?_); rintro e w19 ⟨rfl, hb⟩; refine ⟨_, rfl, ?_⟩; have n0_ := Aside0.mk (below_step (by repeat (first | (with_reducible first | exact HB.out | apply below_alloc | apply pw_below_drewN | apply below_drew1) | exact HB.out)) hb); clear HB; have HB := n0_; clear n0_; (try clear hb); (try clear hb2); (try clear hk); (try clear hi)))
            go_ret
            exact ⟨by first | rfl | (simp [errW_none, errW_some] <;> rfl) | (simp [*, errW_none, errW_some] <;> rfl), by repeat (first | (with_reducible first | exact HB.out | apply below_alloc | apply pw_below_drewN | apply below_drew1) | exact HB.out)⟩
          · replace c17 := Bool.eq_false_iff.mpr c17
            subst c17
            have H1 : ((mult_Validate.f kj8 l0).bind fun t405 => (if (t397 == (t405 == 0)) = true then ((semigrouplaw14_awake.f kj8).bind fun t406 => (some t406)) else (some false))) = some r := by rw [if_neg (show ¬ (false = true) by decide)] at H; exact H
            clear H
            have H := H1
            clear H1
            replace H := Option.bind_eq_some_iff.mp H
            obtain ⟨t405, A200, H⟩ := H
            replace H : (if (t397 == (t405 == 0)) = true then ((semigrouplaw14_awake.f kj8).bind fun t406 => (some t406)) else (some false)) = some r := H
            have A20 := Aside0.mk A200
            clear A200
            by_cases c21 : (t397 == (t405 == 0)) = true
            · rw [if_pos c21] at H
              have c21b0 : (t397 == (t405 == 0)) = true := c21
              (try (have c21b1 : decide (t397 = (t405 == 0)) = true := by simpa using c21))
              (try (have c21b2 : (t397 == (t405 == 0)) = true := by simpa using c21))
              clear c21
              replace H := Option.bind_eq_some_iff.mp H
              obtain ⟨t406, A220, H⟩ := H
              replace H : (some t406) = some r := H
              have A22 := Aside0.mk A220
              clear A220
              obtain rfl := Option.some.inj H
              go_wp2_with (first | ((with_reducible refine gate_callee (f := 19) rfl ?_); refine goesL_ (some 39) rfl rfl Try.func19 (by kernel_rfl) rfl #[.slice A0 l0.length c0] rfl (by (try simp only [List.map_toArray, List.map_cons, List.map_nil]); first | done | rfl | (simp only [List.length_drop, List.length_take]; rfl)) ?_; (with_reducible refine (mult_Validate.calls kj8 _ _ l0 t405 _ ?side1 ?side2 A20.out).mono ?_); (case side1 => repeat (first | exact (Kd.C_below HR0.out HB.out) | (with_reducible refine Kd.C_alloc ?_ _) | (with_reducible refine Kd.C_drewN ?_ _) | (with_reducible refine Kd.C_drew ?_))); (case side2 => exact HC0.out); rintro e w' ⟨rfl, ⟨nd, rfl⟩⟩; refine ⟨_, rfl, ?_⟩) | (go_at_call 16; (with_reducible refine (semigrouplaw14_awake.calls kj8  t406 _ A22.out).mono ?_); rintro e w23 ⟨rfl, hb⟩; have n0_ := Aside0.mk (below_step (by repeat (first | (with_reducible first | exact HB.out | apply below_alloc | apply pw_below_drewN | apply below_drew1) | exact HB.out)) hb); clear HB; have HB := n0_; clear n0_; (try clear hb); (try clear hb2); (try clear hk); (try clear hi)))
              go_ret
              exact ⟨by first | rfl | (simp [errW_none, errW_some] <;> rfl) | (simp [*, errW_none, errW_some] <;> rfl), by repeat (first | (with_reducible first | exact HB.out | apply below_alloc | apply pw_below_drewN | apply below_drew1) | exact HB.out)⟩
            · rw [if_neg c21] at H
              have c21b0 : (t397 == (t405 == 0)) = false := by simpa using c21
              (try (have c21b1 : decide (t397 = (t405 == 0)) = false := by simpa using c21))
              (try (have c21b2 : (t397 == (t405 == 0)) = false := by simpa using c21))
              (try (have c21b3 : ¬ (t397 = (t405 == 0)) := by simpa using c21))
              clear c21
              obtain rfl := Option.some.inj H
              go_wp2_with (first | ((with_reducible refine gate_callee (f := 19) rfl ?_); refine goesL_ (some 39) rfl rfl Try.func19 (by kernel_rfl) rfl #[.slice A0 l0.length c0] rfl (by (try simp only [List.map_toArray, List.map_cons, List.map_nil]); first | done | rfl | (simp only [List.length_drop, List.length_take]; rfl)) ?_; (with_reducible refine (mult_Validate.calls kj8 _ _ l0 t405 _ ?side1 ?side2 A20.out).mono ?_); (case side1 => repeat (first | exact (Kd.C_below HR0.out HB.out) | (with_reducible refine Kd.C_alloc ?_ _) | (with_reducible refine Kd.C_drewN ?_ _) | (with_reducible refine Kd.C_drew ?_))); (case side2 => exact HC0.out); rintro e w' ⟨rfl, ⟨nd, rfl⟩⟩; refine ⟨_, rfl, ?_⟩))
              go_ret
              exact ⟨by first | rfl | (simp [errW_none, errW_some] <;> rfl) | (simp [*, errW_none, errW_some] <;> rfl), by repeat (first | (with_reducible first | exact HB.out | apply below_alloc | apply pw_below_drewN | apply below_drew1) | exact HB.out)⟩

end Go.Proofs.Ytlhckcldeojfmaa.PAll
