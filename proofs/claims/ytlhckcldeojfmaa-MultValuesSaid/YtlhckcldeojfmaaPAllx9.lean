-- printed for this claim by printall.sh out of the translation; Lean checks it
import Derived.Test.YtlhckcldeojfmaaPAllx0
import Derived.Test.YtlhckcldeojfmaaPAllx3
import Derived.Test.YtlhckcldeojfmaaPAllx8
namespace Go.Proofs.Ytlhckcldeojfmaa.PAll
open Go.RowKit Go.Proofs.YtlhckcldeojfmaaW.PrintWords Go.Proofs.YtlhckcldeojfmaaW.PrintLast Go.Proofs.YtlhckcldeojfmaaW.PrintMore
attribute [local go_sem] max2_int min2_int max_two min_two max_three min_three max_four min_four   -- for this text's walks alone
set_option linter.unusedVariables false
set_option linter.unusedSimpArgs false

/-! ### semigrouplaw14_zeros: function 38 -/
def semigrouplaw14_zeros.l0 : Nat → Int → List (List Int) → Int → Option ((List (List Int)))
  | 0, _, _, _ => none
  | k + 1, x0, x3, x4 => if x4 < x0 then (if 0 ≤ x0 then (if (x0 : Int).toNat ≤ 35184372088832 then (if x3.length < 5864062014805 then (semigrouplaw14_zeros.l0 k x0 (x3 ++ [(List.replicate (x0 : Int).toNat 0)]) (wrap64 (x4 + 1))) else (none)) else (none)) else (none)) else (some x3)
def semigrouplaw14_zeros.f (k : Nat) (a0 : Int) : Option ((List (List Int))) := semigrouplaw14_zeros.l0 k a0 ([] : List (List Int)) 0
theorem semigrouplaw14_zeros.mono_l : ∀ k, (∀ y0 y1 y2, LeO (semigrouplaw14_zeros.l0 k y0 y1 y2) (semigrouplaw14_zeros.l0 (k + 1) y0 y1 y2))
  | 0 => fun _ _ _ r h => by simp [semigrouplaw14_zeros.l0] at h
  | k + 1 => by
    have ih0 := semigrouplaw14_zeros.mono_l k
    · intro y0 y1 y2
      unfold semigrouplaw14_zeros.l0
      repeat' first
      | (with_reducible exact ih0 _ _ _)
      | (with_reducible exact LeO.refl _)
      | (with_reducible exact LeO.none _)
      | (with_reducible refine LeO.ite ?_ ?_)
      | (with_reducible refine LeO.bind ?_ (fun _ => ?_))
      | exact ih0 _ _ _
      | exact LeO.none _
      | refine LeO.ite ?_ ?_
      | refine LeO.bind ?_ (fun _ => ?_)
theorem semigrouplaw14_zeros.mono : ∀ a0 k, LeO (semigrouplaw14_zeros.f k a0) (semigrouplaw14_zeros.f (k + 1) a0) := by
  intro a0 k
  have ih0 := semigrouplaw14_zeros.mono_l k
  unfold semigrouplaw14_zeros.f
  repeat' first
      | (with_reducible exact ih0 _ _ _)
      | (with_reducible exact LeO.refl _)
      | (with_reducible exact LeO.none _)
      | (with_reducible refine LeO.ite ?_ ?_)
      | (with_reducible refine LeO.bind ?_ (fun _ => ?_))
      | exact ih0 _ _ _
      | exact LeO.none _
      | refine LeO.ite ?_ ?_
      | refine LeO.bind ?_ (fun _ => ?_)
set_option maxHeartbeats 8000000 in
set_option maxRecDepth 100000 in
theorem semigrouplaw14_zeros.calls (k : Nat) (a0 : Int) (r : List (List Int)) (w : World) (h : semigrouplaw14_zeros.f k a0 = some r) :
    Calls Try.prog 38 #[.int .i64 a0] w fun e w' => ∃ v0_ : Value, e = .returned (v0_) ∧ Kd.S (Kd.slice 3 (Kd.int .i64)) 30 w' w.heap.size (fun _ => True) v0_ r ∧ Below w.heap.size w w' := by
  have HB := Aside0.mk (Below.refl w.heap.size w)
  have H : (semigrouplaw14_zeros.l0 k a0 ([] : List (List Int)) 0) = some r := h
  clear h
  have H' := Aside0.mk H
  clear H
  go_enter Try.func38, Try.ntmps38
  go_wp2
  go_loopg [3, 4] k (fun kq v3 v4 w' => ∃ (x3_1 : List (List Int)) (x4_1 : Int), v4 = .int .i64 x4_1 ∧ Aside0 (semigrouplaw14_zeros.l0 kq a0 x3_1 x4_1 = some r) ∧ Aside0 (kq ≤ k) ∧ Aside0 (Kd.S (Kd.slice 3 (Kd.int .i64)) 30 w' w.heap.size (fun _ => True) v3 x3_1) ∧ Aside0 (Below w.heap.size w w'))
  case atStart => exact ⟨(([] : List (List Int))), (0), (by first | rfl | (simp; done) | (simp [*]; done)), H', ⟨Nat.le_refl _⟩, ⟨by first | exact Kd.S_nil _ _ _ _ _ | exact Kd.N_nil _ _ _ _ _ | exact Kd.V_nil _ _ _ _ _ | exact Kd.Q_nil _ _ _ _ _ | exact Kd.R_nil _ _ _ _ _⟩, ⟨by repeat (first | (with_reducible first | exact HB.out | apply below_alloc | apply pw_below_drewN | apply below_drew1) | exact HB.out)⟩⟩
  case round =>
    clear H'
    obtain ⟨x3_1, x4_1, rfl, HA, HK1, HO_3, HB⟩ := hrel
    cases gk with
    | zero => exact absurd HA.out (by simp [semigrouplaw14_zeros.l0])
    | succ k1 =>
      have H := HA.out
      clear HA
      simp only [semigrouplaw14_zeros.l0] at H
      by_cases c2 : x4_1 < a0
      · rw [if_pos c2] at H
        have c2b0 : decide (x4_1 < a0) = true := decide_eq_true c2
        clear c2
        by_cases c3 : 0 ≤ a0
        · rw [if_pos c3] at H
          have c3b0 := eq_true c3
          have c3b1 : decide (0 ≤ a0) = true := decide_eq_true c3
          clear c3
          by_cases c4 : (a0 : Int).toNat ≤ 35184372088832
          · rw [if_pos c4] at H
            have c4b0 := eq_true c4
            have c4b1 : decide ((a0 : Int).toNat ≤ 35184372088832) = true := decide_eq_true c4
            clear c4
            obtain ⟨y333, hy333⟩ : ∃ y_ : List Int, y_ = (List.replicate (a0 : Int).toNat 0) := ⟨_, rfl⟩
            replace H : (if x3_1.length < 5864062014805 then (semigrouplaw14_zeros.l0 k1 a0 (x3_1 ++ [y333]) (wrap64 (x4_1 + 1))) else (none)) = some r := by first | (rw [hy333]; with_reducible exact H) | (have H2_ := (Option.bind_some _ _).symm.trans H; rw [hy333]; with_reducible exact H2_) | (have H2_ := (Option.bind_some _ _).symm.trans H; with_reducible exact H2_) | with_reducible exact H | (rw [hy333]; exact H) | exact H
            have Ny333 := Aside0.mk hy333
            clear hy333
            by_cases c5 : x3_1.length < 5864062014805
            · rw [if_pos c5] at H
              have LMc5 := Aside0.mk c5
              clear c5
              obtain ⟨y336, hy336⟩ : ∃ y_ : List (List Int), y_ = (x3_1 ++ [y333]) := ⟨_, rfl⟩
              replace H : (semigrouplaw14_zeros.l0 k1 a0 y336 (wrap64 (x4_1 + 1))) = some r := by first | (rw [hy336]; with_reducible exact H) | (have H2_ := (Option.bind_some _ _).symm.trans H; rw [hy336]; with_reducible exact H2_) | (have H2_ := (Option.bind_some _ _).symm.trans H; with_reducible exact H2_) | with_reducible exact H | (rw [hy336]; exact H) | exact H
              have Ny336 := Aside0.mk hy336
              clear hy336
              have H' := Aside0.mk H
              clear H
              go_wp2_with (first | ((with_reducible refine gate_dst (N := 12) rfl ?_); refine Kd.R_make (Kd.int .i64) _ 3 rfl (N := 12) rfl 30 _ _ rfl a0 rfl rfl Try.underlying30 (.int .i64 0) 8 info3 rfl (by decide) (by omega) 0 (ok := fun _ => True) (okp := fun _ => True) rfl (fun _ hk => hk) trivial (of_decide_eq_true (by first | (with_reducible assumption) | assumption)) (Nat.le_trans (Nat.mul_le_mul_right _ (of_decide_eq_true (by first | (with_reducible assumption) | assumption) : a0.toNat ≤ 35184372088832)) (by omega)) (Below.refl _ _) (Nat.le_refl _) ?_; intro v334 w6 ho7 hb hg_ hnew_; (try clear hg_); (try clear hnew_); (first | rw [← Ny333.out] at ho7 | (simp only [Int.reduceToNat] at ho7; rw [← Ny333.out] at ho7)); have n0_ := Aside0.mk (Kd.S_elder' (by (with_reducible repeat (first | apply Kd.S_alloc | apply Kd.S_drewN | apply Kd.S_drew)); exact HO_3.out) (Kd.R_base ho7) hb); have n1_ := Aside0.mk (Kd.R_lower ho7 (below_size (by repeat (first | (with_reducible first | exact HB.out | apply below_alloc | apply pw_below_drewN | apply below_drew1) | exact HB.out)))); have n2_ := Aside0.mk (below_step (by repeat (first | (with_reducible first | exact HB.out | apply below_alloc | apply pw_below_drewN | apply below_drew1) | exact HB.out)) hb); clear HO_3; clear HB; have HO_3 := n0_; have HO335 := n1_; have HB := n2_; clear n0_ n1_ n2_; (try clear hb); (try clear ho7); obtain ⟨Ao9, co9, eo9⟩ := Kd.R_slice HO335.out; subst eo9) | ((with_reducible refine gate_builtin (b := .append) (xs := #[.tmp 10, .tmp 13]) rfl ?_); at_builtin; refine Kd.S_append (Kd.slice 3 (Kd.int .i64)) (w0 := w) w.heap.size rfl (.tmp 10) (.tmp 13) 22 30 (.slice none 0 0) 24 rfl Try.underlying22 info30 rfl (by decide) (by omega) u3 x3_1 y333 [.slice Ao9 y333.length co9] (fun _ => True) (fun k_ => some k_ = (.slice Ao9 y333.length co9 : Value).ownBlock) rfl rfl ?aP (fun k_ hk_ => ((Kd.R_mono (ok' := fun k_ => ((fun _ => True)) k_ ∧ some k_ ≠ (u3 : Value).ownBlock) (Kd.R_apart' (HO335.out) (Kd.S_typed HO_3.out) (by decide)) (fun k_ hk => ⟨trivial, hk.2⟩))).1 k_ hk_.symm) ?aF ?aO ?aB ?aS ?aL ?_; (case aP => exact Kd.M_row (Kd.R_mono (Kd.R_tight rfl (Kd.R_mono (ok' := fun k_ => ((fun _ => True)) k_ ∧ some k_ ≠ (u3 : Value).ownBlock) (Kd.R_apart' (HO335.out) (Kd.S_typed HO_3.out) (by decide)) (fun k_ hk => ⟨trivial, hk.2⟩))) (fun _ h_ => h_))); (case aB => exact (by repeat (first | (with_reducible first | exact HB.out | apply below_alloc | apply pw_below_drewN | apply below_drew1) | exact HB.out))); (case aF => exact (fun _ _ => trivial)); (case aO => exact (by (with_reducible repeat (first | apply Kd.S_alloc | apply Kd.S_drewN | apply Kd.S_drew)); exact Kd.S_mono HO_3.out (fun k_ hk => ⟨trivial, fun e_ => hk.2 e_⟩))); (case aS => exact (below_size (by repeat (first | (with_reducible first | exact HB.out | apply below_alloc | apply pw_below_drewN | apply below_drew1) | exact HB.out)))); (case aL => have := LMc5.out; omega); intro v337 w8 ho hb hg hat; rw [← Ny336.out] at ho; have n0_ := Aside0.mk (hb); have n1_ := Aside0.mk (ho); clear HB; clear HO_3; clear HO335; have HB := n0_; have HO338 := n1_; clear n0_ n1_; (try clear ho); (try clear hb); (try clear hg); (try clear hat)))
              go_roundg k1
              case measure => have := HK1.out; omega
              case rel => exact ⟨(y336), (wrap64 (x4_1 + 1)), (by first | rfl | (simp; done) | (simp [*]; done)), H', ⟨by have := HK1.out; omega⟩, ⟨by (with_reducible repeat (first | apply Kd.S_alloc | apply Kd.S_drewN | apply Kd.S_drew)); exact HO338.out⟩, ⟨by repeat (first | (with_reducible first | exact HB.out | apply below_alloc | apply pw_below_drewN | apply below_drew1) | exact HB.out)⟩⟩
            · rw [if_neg c5] at H
              exact absurd H (by simp)
          · rw [if_neg c4] at H
            exact absurd H (by simp)
        · rw [if_neg c3] at H
          exact absurd H (by simp)
      · rw [if_neg c2] at H
        have c2b0 : decide (x4_1 < a0) = false := decide_eq_false c2
        clear c2
        obtain rfl := Option.some.inj H
        go_wp2
        go_ret
        exact ⟨_, by first | rfl | (simp [errW_none, errW_some] <;> rfl) | (simp [*, errW_none, errW_some] <;> rfl), by (with_reducible repeat (first | apply Kd.S_alloc | apply Kd.S_drewN | apply Kd.S_drew)); exact HO_3.out, by repeat (first | (with_reducible first | exact HB.out | apply below_alloc | apply pw_below_drewN | apply below_drew1) | exact HB.out)⟩

/-! ### semigrouplaw14_MultLimits: function 7 -/
def semigrouplaw14_MultLimits.f (k : Nat) (a0 : Int) (a1 : Int) : Option (Bool) := (semigrouplaw14_zeros.f k (wrap64 ((Int.tmod (wrap64 (a0)) 30) + 1))).bind fun t339 => ((semigrouplaw14_zeros.f k (wrap64 ((Int.tmod (wrap64 (a1)) 30) + 1))).bind fun t342 => ((mult_Direct.f k t339 t342).bind fun t345 => (if (wrap64 ((wrap64 ((Int.tmod (wrap64 (a0)) 30) + 1)) * (wrap64 ((Int.tmod (wrap64 (a1)) 30) + 1)))) > 400 then (if (t345.length : Int) = 0 then ((semigrouplaw14_awake.f k).bind fun t348 => (some t348)) else (some false)) else (if (t345.length : Int) = (wrap64 ((wrap64 ((Int.tmod (wrap64 (a0)) 30) + 1)) * (wrap64 ((Int.tmod (wrap64 (a1)) 30) + 1)))) then ((semigrouplaw14_awake.f k).bind fun t349 => (some t349)) else (some false)))))
theorem semigrouplaw14_MultLimits.mono : ∀ a0 a1 k, LeO (semigrouplaw14_MultLimits.f k a0 a1) (semigrouplaw14_MultLimits.f (k + 1) a0 a1) := by
  intro a0 a1 k
  unfold semigrouplaw14_MultLimits.f
  repeat' first
      | (with_reducible exact mult_Direct.mono _ _ _)
      | (with_reducible exact semigrouplaw14_awake.mono _)
      | (with_reducible exact semigrouplaw14_zeros.mono _ _)
      | (with_reducible exact LeO.refl _)
      | (with_reducible exact LeO.none _)
      | (with_reducible refine LeO.ite ?_ ?_)
      | (with_reducible refine LeO.bind ?_ (fun _ => ?_))
      | exact mult_Direct.mono _ _ _
      | exact semigrouplaw14_awake.mono _
      | exact semigrouplaw14_zeros.mono _ _
      | exact LeO.none _
      | refine LeO.ite ?_ ?_
      | refine LeO.bind ?_ (fun _ => ?_)
set_option maxHeartbeats 8000000 in
set_option maxRecDepth 100000 in
theorem semigrouplaw14_MultLimits.calls (k : Nat) (a0 : Int) (a1 : Int) (r : Bool) (w : World) (h : semigrouplaw14_MultLimits.f k a0 a1 = some r) :
    Calls Try.prog 7 #[.int .u8 a0, .int .u8 a1] w fun e w' => e = .returned (.bool r) ∧ Below w.heap.size w w' := by
  have HB := Aside0.mk (Below.refl w.heap.size w)
  have H : ((semigrouplaw14_zeros.f k (wrap64 ((Int.tmod (wrap64 (a0)) 30) + 1))).bind fun t339 => ((semigrouplaw14_zeros.f k (wrap64 ((Int.tmod (wrap64 (a1)) 30) + 1))).bind fun t342 => ((mult_Direct.f k t339 t342).bind fun t345 => (if (wrap64 ((wrap64 ((Int.tmod (wrap64 (a0)) 30) + 1)) * (wrap64 ((Int.tmod (wrap64 (a1)) 30) + 1)))) > 400 then (if (t345.length : Int) = 0 then ((semigrouplaw14_awake.f k).bind fun t348 => (some t348)) else (some false)) else (if (t345.length : Int) = (wrap64 ((wrap64 ((Int.tmod (wrap64 (a0)) 30) + 1)) * (wrap64 ((Int.tmod (wrap64 (a1)) 30) + 1)))) then ((semigrouplaw14_awake.f k).bind fun t349 => (some t349)) else (some false)))))) = some r := h
  clear h
  replace H := Option.bind_eq_some_iff.mp H
  obtain ⟨t339, A30, H⟩ := H
  replace H : ((semigrouplaw14_zeros.f k (wrap64 ((Int.tmod (wrap64 (a1)) 30) + 1))).bind fun t342 => ((mult_Direct.f k t339 t342).bind fun t345 => (if (wrap64 ((wrap64 ((Int.tmod (wrap64 (a0)) 30) + 1)) * (wrap64 ((Int.tmod (wrap64 (a1)) 30) + 1)))) > 400 then (if (t345.length : Int) = 0 then ((semigrouplaw14_awake.f k).bind fun t348 => (some t348)) else (some false)) else (if (t345.length : Int) = (wrap64 ((wrap64 ((Int.tmod (wrap64 (a0)) 30) + 1)) * (wrap64 ((Int.tmod (wrap64 (a1)) 30) + 1)))) then ((semigrouplaw14_awake.f k).bind fun t349 => (some t349)) else (some false))))) = some r := H
  have A3 := Aside0.mk A30
  clear A30
  replace H := Option.bind_eq_some_iff.mp H
  obtain ⟨t342, A40, H⟩ := H
  replace H : ((mult_Direct.f k t339 t342).bind fun t345 => (if (wrap64 ((wrap64 ((Int.tmod (wrap64 (a0)) 30) + 1)) * (wrap64 ((Int.tmod (wrap64 (a1)) 30) + 1)))) > 400 then (if (t345.length : Int) = 0 then ((semigrouplaw14_awake.f k).bind fun t348 => (some t348)) else (some false)) else (if (t345.length : Int) = (wrap64 ((wrap64 ((Int.tmod (wrap64 (a0)) 30) + 1)) * (wrap64 ((Int.tmod (wrap64 (a1)) 30) + 1)))) then ((semigrouplaw14_awake.f k).bind fun t349 => (some t349)) else (some false)))) = some r := H
  have A4 := Aside0.mk A40
  clear A40
  replace H := Option.bind_eq_some_iff.mp H
  obtain ⟨t345, A50, H⟩ := H
  replace H : (if (wrap64 ((wrap64 ((Int.tmod (wrap64 (a0)) 30) + 1)) * (wrap64 ((Int.tmod (wrap64 (a1)) 30) + 1)))) > 400 then (if (t345.length : Int) = 0 then ((semigrouplaw14_awake.f k).bind fun t348 => (some t348)) else (some false)) else (if (t345.length : Int) = (wrap64 ((wrap64 ((Int.tmod (wrap64 (a0)) 30) + 1)) * (wrap64 ((Int.tmod (wrap64 (a1)) 30) + 1)))) then ((semigrouplaw14_awake.f k).bind fun t349 => (some t349)) else (some false))) = some r := H
  have A5 := Aside0.mk A50
  clear A50
  by_cases c6 : (wrap64 ((wrap64 ((Int.tmod (wrap64 (a0)) 30) + 1)) * (wrap64 ((Int.tmod (wrap64 (a1)) 30) + 1)))) > 400
  · rw [if_pos c6] at H
    have c6b0 : decide (400 < (wrap64 ((wrap64 ((Int.tmod (wrap64 (a0)) 30) + 1)) * (wrap64 ((Int.tmod (wrap64 (a1)) 30) + 1))))) = true := decide_eq_true c6
    clear c6
    by_cases c7 : (t345.length : Int) = 0
    · rw [if_pos c7] at H
      have c7b0 : ((t345.length : Int) == 0) = true := beq_iff_eq.mpr c7
      have c7b1 : ((t345.length : Int) != 0) = false := bne_eq_false_iff_eq.mpr c7
      clear c7
      replace H := Option.bind_eq_some_iff.mp H
      obtain ⟨t348, A80, H⟩ := H
      replace H : (some t348) = some r := H
      have A8 := Aside0.mk A80
      clear A80
      obtain rfl := Option.some.inj H
      go_enter Try.func7, Try.ntmps7
      go_wp2_with (first | ((with_reducible refine gate_callee (f := 38) rfl ?_); refine goesL_ (some 17) rfl rfl Try.func38 (by kernel_rfl) rfl #[.int .i64 (wrap64 ((Int.tmod (wrap64 (a0)) 30) + 1))] rfl (by (try simp only [List.map_toArray, List.map_cons, List.map_nil]); first | done | rfl | (simp only [List.length_drop, List.length_take]; rfl)) ?_; (with_reducible refine (semigrouplaw14_zeros.calls k (wrap64 ((Int.tmod (wrap64 (a0)) 30) + 1)) t339 _ A3.out).mono ?_); rintro e w9 ⟨v340, rfl, ho0, hb⟩; refine ⟨_, rfl, ?_⟩; have n0_ := Aside0.mk (Kd.S_lower ho0 (below_size (by repeat (first | (with_reducible first | exact HB.out | apply below_alloc | apply pw_below_drewN | apply below_drew1) | exact HB.out)))); have n1_ := Aside0.mk (below_step (by repeat (first | (with_reducible first | exact HB.out | apply below_alloc | apply pw_below_drewN | apply below_drew1) | exact HB.out)) hb); clear HB; have HO341 := n0_; have HB := n1_; clear n0_ n1_; (try clear hb); (try clear hb2); (try clear hk); (try clear hi); (try clear ho0)) | ((with_reducible refine gate_callee (f := 38) rfl ?_); refine goesL_ (some 19) rfl rfl Try.func38 (by kernel_rfl) rfl #[.int .i64 (wrap64 ((Int.tmod (wrap64 (a1)) 30) + 1))] rfl (by (try simp only [List.map_toArray, List.map_cons, List.map_nil]); first | done | rfl | (simp only [List.length_drop, List.length_take]; rfl)) ?_; (with_reducible refine (semigrouplaw14_zeros.calls k (wrap64 ((Int.tmod (wrap64 (a1)) 30) + 1)) t342 _ A4.out).mono ?_); rintro e w10 ⟨v343, rfl, ho0, hb⟩; refine ⟨_, rfl, ?_⟩; have n0_ := Aside0.mk (Kd.S_elder' (by (with_reducible repeat (first | apply Kd.S_alloc | apply Kd.S_drewN | apply Kd.S_drew)); exact HO341.out) (Kd.S_base ho0) hb); have n1_ := Aside0.mk (Kd.S_lower (Kd.S_new' ho0 (Kd.S_lt (by (with_reducible repeat (first | apply Kd.S_alloc | apply Kd.S_drewN | apply Kd.S_drew)); exact HO341.out))) (below_size (by repeat (first | (with_reducible first | exact HB.out | apply below_alloc | apply pw_below_drewN | apply below_drew1) | exact HB.out)))); have n2_ := Aside0.mk (below_step (by repeat (first | (with_reducible first | exact HB.out | apply below_alloc | apply pw_below_drewN | apply below_drew1) | exact HB.out)) hb); clear HO341; clear HB; have HO341 := n0_; have HO344 := n1_; have HB := n2_; clear n0_ n1_ n2_; (try clear hb); (try clear hb2); (try clear hk); (try clear hi); (try clear ho0); obtain ⟨Ao11, co11, eo11⟩ := Kd.S_slice HO341.out; subst eo11; obtain ⟨Ao12, co12, eo12⟩ := Kd.S_slice HO344.out; subst eo12) | ((with_reducible refine gate_callee (f := 37) rfl ?_); refine goesL_ (some 20) rfl rfl Try.func37 (by kernel_rfl) rfl #[.slice Ao11 t339.length co11, .slice Ao12 t342.length co12] rfl (by (try simp only [List.map_toArray, List.map_cons, List.map_nil]); first | done | rfl | (simp only [List.length_drop, List.length_take]; rfl)) ?_; (with_reducible refine (mult_Direct.calls k _ _ t339 _ _ t342 t345 _ ?side1 ?side2 ?side3 ?side4 A5.out).mono ?_); (case side1 => repeat (first | exact (Kd.S_reads' HO341.out).2.2 | (with_reducible refine Kd.C_alloc ?_ _) | (with_reducible refine Kd.C_drewN ?_ _) | (with_reducible refine Kd.C_drew ?_))); (case side2 => exact (Kd.S_reads' HO341.out).2.1); (case side3 => repeat (first | exact (Kd.S_reads' HO344.out).2.2 | (with_reducible refine Kd.C_alloc ?_ _) | (with_reducible refine Kd.C_drewN ?_ _) | (with_reducible refine Kd.C_drew ?_))); (case side4 => exact (Kd.S_reads' HO344.out).2.1); rintro e w13 ⟨v346, rfl, ho0, hb⟩; refine ⟨_, rfl, ?_⟩; have n0_ := Aside0.mk (Kd.S_elder' (by (with_reducible repeat (first | apply Kd.S_alloc | apply Kd.S_drewN | apply Kd.S_drew)); exact HO341.out) (Kd.S_base ho0) hb); have n1_ := Aside0.mk (Kd.S_elder' (by (with_reducible repeat (first | apply Kd.S_alloc | apply Kd.S_drewN | apply Kd.S_drew)); exact HO344.out) (Kd.S_base ho0) hb); have n2_ := Aside0.mk (Kd.S_lower (Kd.S_new' (Kd.S_new' ho0 (Kd.S_lt (by (with_reducible repeat (first | apply Kd.S_alloc | apply Kd.S_drewN | apply Kd.S_drew)); exact HO341.out))) (Kd.S_lt (by (with_reducible repeat (first | apply Kd.S_alloc | apply Kd.S_drewN | apply Kd.S_drew)); exact HO344.out))) (below_size (by repeat (first | (with_reducible first | exact HB.out | apply below_alloc | apply pw_below_drewN | apply below_drew1) | exact HB.out)))); have n3_ := Aside0.mk (below_step (by repeat (first | (with_reducible first | exact HB.out | apply below_alloc | apply pw_below_drewN | apply below_drew1) | exact HB.out)) hb); clear HO341; clear HO344; clear HB; have HO341 := n0_; have HO344 := n1_; have HO347 := n2_; have HB := n3_; clear n0_ n1_ n2_ n3_; (try clear hb); (try clear hb2); (try clear hk); (try clear hi); (try clear ho0); obtain ⟨Ao14, co14, eo14⟩ := Kd.S_slice HO347.out; subst eo14) | (go_at_call 16; (with_reducible refine (semigrouplaw14_awake.calls k  t348 _ A8.out).mono ?_); rintro e w15 ⟨rfl, hb⟩; have n0_ := Aside0.mk (Kd.S_below (by (with_reducible repeat (first | apply Kd.S_alloc | apply Kd.S_drewN | apply Kd.S_drew)); exact HO341.out) hb); have n1_ := Aside0.mk (Kd.S_below (by (with_reducible repeat (first | apply Kd.S_alloc | apply Kd.S_drewN | apply Kd.S_drew)); exact HO344.out) hb); have n2_ := Aside0.mk (Kd.S_below (by (with_reducible repeat (first | apply Kd.S_alloc | apply Kd.S_drewN | apply Kd.S_drew)); exact HO347.out) hb); have n3_ := Aside0.mk (below_step (by repeat (first | (with_reducible first | exact HB.out | apply below_alloc | apply pw_below_drewN | apply below_drew1) | exact HB.out)) hb); clear HO341; clear HO344; clear HO347; clear HB; have HO341 := n0_; have HO344 := n1_; have HO347 := n2_; have HB := n3_; clear n0_ n1_ n2_ n3_; (try clear hb); (try clear hb2); (try clear hk); (try clear hi)))
      go_ret
      exact ⟨by first | rfl | (simp [errW_none, errW_some] <;> rfl) | (simp [*, errW_none, errW_some] <;> rfl), by repeat (first | (with_reducible first | exact HB.out | apply below_alloc | apply pw_below_drewN | apply below_drew1) | exact HB.out)⟩
    · rw [if_neg c7] at H
      have c7b0 : ((t345.length : Int) == 0) = false := beq_eq_false_iff_ne.mpr c7
      have c7b1 : ((t345.length : Int) != 0) = true := bne_iff_ne.mpr c7
      have c7b2 : ¬ (t345 = []) := fun h_ => c7 (by rw [h_]; rfl)
      obtain rfl := Option.some.inj H
      go_enter Try.func7, Try.ntmps7
      go_wp2_with (first | ((with_reducible refine gate_callee (f := 38) rfl ?_); refine goesL_ (some 17) rfl rfl Try.func38 (by kernel_rfl) rfl #[.int .i64 (wrap64 ((Int.tmod (wrap64 (a0)) 30) + 1))] rfl (by (try simp only [List.map_toArray, List.map_cons, List.map_nil]); first | done | rfl | (simp only [List.length_drop, List.length_take]; rfl)) ?_; (with_reducible refine (semigrouplaw14_zeros.calls k (wrap64 ((Int.tmod (wrap64 (a0)) 30) + 1)) t339 _ A3.out).mono ?_); rintro e w16 ⟨v340, rfl, ho0, hb⟩; refine ⟨_, rfl, ?_⟩; have n0_ := Aside0.mk (Kd.S_lower ho0 (below_size (by repeat (first | (with_reducible first | exact HB.out | apply below_alloc | apply pw_below_drewN | apply below_drew1) | exact HB.out)))); have n1_ := Aside0.mk (below_step (by repeat (first | (with_reducible first | exact HB.out | apply below_alloc | apply pw_below_drewN | apply below_drew1) | exact HB.out)) hb); clear HB; have HO341 := n0_; have HB := n1_; clear n0_ n1_; (try clear hb); (try clear hb2); (try clear hk); (try clear hi); (try clear ho0)) | ((with_reducible refine gate_callee (f := 38) rfl ?_); refine goesL_ (some 19) rfl rfl Try.func38 (by kernel_rfl) rfl #[.int .i64 (wrap64 ((Int.tmod (wrap64 (a1)) 30) + 1))] rfl (by (try simp only [List.map_toArray, List.map_cons, List.map_nil]); first | done | rfl | (simp only [List.length_drop, List.length_take]; rfl)) ?_; (with_reducible refine (semigrouplaw14_zeros.calls k (wrap64 ((Int.tmod (wrap64 (a1)) 30) + 1)) t342 _ A4.out).mono ?_); rintro e w17 ⟨v343, rfl, ho0, hb⟩; refine ⟨_, rfl, ?_⟩; have n0_ := Aside0.mk (Kd.S_elder' (by (with_reducible repeat (first | apply Kd.S_alloc | apply Kd.S_drewN | apply Kd.S_drew)); exact HO341.out) (Kd.S_base ho0) hb); have n1_ := Aside0.mk (Kd.S_lower (Kd.S_new' ho0 (Kd.S_lt (by (with_reducible repeat (first | apply Kd.S_alloc | apply Kd.S_drewN | apply Kd.S_drew)); exact HO341.out))) (below_size (by repeat (first | (with_reducible first | exact HB.out | apply below_alloc | apply pw_below_drewN | apply below_drew1) | exact HB.out)))); have n2_ := Aside0.mk (below_step (by repeat (first | (with_reducible first | exact HB.out | apply below_alloc | apply pw_below_drewN | apply below_drew1) | exact HB.out)) hb); clear HO341; clear HB; have HO341 := n0_; have HO344 := n1_; have HB := n2_; clear n0_ n1_ n2_; (try clear hb); (try clear hb2); (try clear hk); (try clear hi); (try clear ho0); obtain ⟨Ao18, co18, eo18⟩ := Kd.S_slice HO341.out; subst eo18; obtain ⟨Ao19, co19, eo19⟩ := Kd.S_slice HO344.out; subst eo19) | ((with_reducible refine gate_callee (f := 37) rfl ?_); refine goesL_ (some 20) rfl rfl Try.func37 (by kernel_rfl) rfl #[.slice Ao18 t339.length co18, .slice Ao19 t342.length co19] rfl (by (try simp only [List.map_toArray, List.map_cons, List.map_nil]); first | done | rfl | (simp only [List.length_drop, List.length_take]; rfl)) ?_; (with_reducible refine (mult_Direct.calls k _ _ t339 _ _ t342 t345 _ ?side1 ?side2 ?side3 ?side4 A5.out).mono ?_); (case side1 => repeat (first | exact (Kd.S_reads' HO341.out).2.2 | (with_reducible refine Kd.C_alloc ?_ _) | (with_reducible refine Kd.C_drewN ?_ _) | (with_reducible refine Kd.C_drew ?_))); (case side2 => exact (Kd.S_reads' HO341.out).2.1); (case side3 => repeat (first | exact (Kd.S_reads' HO344.out).2.2 | (with_reducible refine Kd.C_alloc ?_ _) | (with_reducible refine Kd.C_drewN ?_ _) | (with_reducible refine Kd.C_drew ?_))); (case side4 => exact (Kd.S_reads' HO344.out).2.1); rintro e w20 ⟨v346, rfl, ho0, hb⟩; refine ⟨_, rfl, ?_⟩; have n0_ := Aside0.mk (Kd.S_elder' (by (with_reducible repeat (first | apply Kd.S_alloc | apply Kd.S_drewN | apply Kd.S_drew)); exact HO341.out) (Kd.S_base ho0) hb); have n1_ := Aside0.mk (Kd.S_elder' (by (with_reducible repeat (first | apply Kd.S_alloc | apply Kd.S_drewN | apply Kd.S_drew)); exact HO344.out) (Kd.S_base ho0) hb); have n2_ := Aside0.mk (Kd.S_lower (Kd.S_new' (Kd.S_new' ho0 (Kd.S_lt (by (with_reducible repeat (first | apply Kd.S_alloc | apply Kd.S_drewN | apply Kd.S_drew)); exact HO341.out))) (Kd.S_lt (by (with_reducible repeat (first | apply Kd.S_alloc | apply Kd.S_drewN | apply Kd.S_drew)); exact HO344.out))) (below_size (by repeat (first | (with_reducible first | exact HB.out | apply below_alloc | apply pw_below_drewN | apply below_drew1) | exact HB.out)))); have n3_ := Aside0.mk (below_step (by repeat (first | (with_reducible first | exact HB.out | apply below_alloc | apply pw_below_drewN | apply below_drew1) | exact HB.out)) hb); clear HO341; clear HO344; clear HB; have HO341 := n0_; have HO344 := n1_; have HO347 := n2_; have HB := n3_; clear n0_ n1_ n2_ n3_; (try clear hb); (try clear hb2); (try clear hk); (try clear hi); (try clear ho0); obtain ⟨Ao21, co21, eo21⟩ := Kd.S_slice HO347.out; subst eo21))
      go_ret
      exact ⟨by first | rfl | (simp [errW_none, errW_some] <;> rfl) | (simp [*, errW_none, errW_some] <;> rfl), by repeat (first | (with_reducible first | exact HB.out | apply below_alloc | apply pw_below_drewN | apply below_drew1) | exact HB.out)⟩
  · rw [if_neg c6] at H
    have c6b0 : decide (400 < (wrap64 ((wrap64 ((Int.tmod (wrap64 (a0)) 30) + 1)) * (wrap64 ((Int.tmod (wrap64 (a1)) 30) + 1))))) = false := decide_eq_false c6
    clear c6
    by_cases c22 : (t345.length : Int) = (wrap64 ((wrap64 ((Int.tmod (wrap64 (a0)) 30) + 1)) * (wrap64 ((Int.tmod (wrap64 (a1)) 30) + 1))))
    · rw [if_pos c22] at H
      have c22b0 : ((t345.length : Int) == (wrap64 ((wrap64 ((Int.tmod (wrap64 (a0)) 30) + 1)) * (wrap64 ((Int.tmod (wrap64 (a1)) 30) + 1))))) = true := beq_iff_eq.mpr c22
      have c22b1 : ((t345.length : Int) != (wrap64 ((wrap64 ((Int.tmod (wrap64 (a0)) 30) + 1)) * (wrap64 ((Int.tmod (wrap64 (a1)) 30) + 1))))) = false := bne_eq_false_iff_eq.mpr c22
      clear c22
      replace H := Option.bind_eq_some_iff.mp H
      obtain ⟨t349, A230, H⟩ := H
      replace H : (some t349) = some r := H
      have A23 := Aside0.mk A230
      clear A230
      obtain rfl := Option.some.inj H
      go_enter Try.func7, Try.ntmps7
      go_wp2_with (first | ((with_reducible refine gate_callee (f := 38) rfl ?_); refine goesL_ (some 17) rfl rfl Try.func38 (by kernel_rfl) rfl #[.int .i64 (wrap64 ((Int.tmod (wrap64 (a0)) 30) + 1))] rfl (by (try simp only [List.map_toArray, List.map_cons, List.map_nil]); first | done | rfl | (simp only [List.length_drop, List.length_take]; rfl)) ?_; (with_reducible refine (semigrouplaw14_zeros.calls k (wrap64 ((Int.tmod (wrap64 (a0)) 30) + 1)) t339 _ A3.out).mono ?_); rintro e w24 ⟨v340, rfl, ho0, hb⟩; refine ⟨_, rfl, ?_⟩; have n0_ := Aside0.mk (Kd.S_lower ho0 (below_size (by repeat (first | (with_reducible first | exact HB.out | apply below_alloc | apply pw_below_drewN | apply below_drew1) | exact HB.out)))); have n1_ := Aside0.mk (below_step (by repeat (first | (with_reducible first | exact HB.out | apply below_alloc | apply pw_below_drewN | apply below_drew1) | exact HB.out)) hb); clear HB; have HO341 := n0_; have HB := n1_; clear n0_ n1_; (try clear hb); (try clear hb2); (try clear hk); (try clear hi); (try clear ho0)) | ((with_reducible refine gate_callee (f := 38) rfl ?_); refine goesL_ (some 19) rfl rfl Try.func38 (by kernel_rfl) rfl #[.int .i64 (wrap64 ((Int.tmod (wrap64 (a1)) 30) + 1))] rfl (by (try simp only [List.map_toArray, List.map_cons, List.map_nil]); first | done | rfl | (simp only [List.length_drop, List.length_take]; rfl)) ?_; (with_reducible refine (semigrouplaw14_zeros.calls k (wrap64 ((Int.tmod (wrap64 (a1)) 30) + 1)) t342 _ A4.out).mono ?_); rintro e w25 ⟨v343, rfl, ho0, hb⟩; refine ⟨_, rfl, ?_⟩; have n0_ := Aside0.mk (Kd.S_elder' (by (with_reducible repeat (first | apply Kd.S_alloc | apply Kd.S_drewN | apply Kd.S_drew)); exact HO341.out) (Kd.S_base ho0) hb); have n1_ := Aside0.mk (Kd.S_lower (Kd.S_new' ho0 (Kd.S_lt (by (with_reducible repeat (first | apply Kd.S_alloc | apply Kd.S_drewN | apply Kd.S_drew)); exact HO341.out))) (below_size (by repeat (first | (with_reducible first | exact HB.out | apply below_alloc | apply pw_below_drewN | apply below_drew1) | exact HB.out)))); have n2_ := Aside0.mk (below_step (by repeat (first | (with_reducible first | exact HB.out | apply below_alloc | apply pw_below_drewN | apply below_drew1) | exact HB.out)) hb); clear HO341; clear HB; have HO341 := n0_; have HO344 := n1_; have HB := n2_; clear n0_ n1_ n2_; (try clear hb); (try clear hb2); (try clear hk); (try clear hi); (try clear ho0); obtain ⟨Ao26, co26, eo26⟩ := Kd.S_slice HO341.out; subst eo26; obtain ⟨Ao27, co27, eo27⟩ := Kd.S_slice HO344.out; subst eo27) | ((with_reducible refine gate_callee (f := 37) rfl ?_); refine goesL_ (some 20) rfl rfl Try.func37 (by kernel_rfl) rfl #[.slice Ao26 t339.length co26, .slice Ao27 t342.length co27] rfl (by (try simp only [List.map_toArray, List.map_cons, List.map_nil]); first | done | rfl | (simp only [List.length_drop, List.length_take]; rfl)) ?_; (with_reducible refine (mult_Direct.calls k _ _ t339 _ _ t342 t345 _ ?side1 ?side2 ?side3 ?side4 A5.out).mono ?_); (case side1 => repeat (first | exact (Kd.S_reads' HO341.out).2.2 | (with_reducible refine Kd.C_alloc ?_ _) | (with_reducible refine Kd.C_drewN ?_ _) | (with_reducible refine Kd.C_drew ?_))); (case side2 => exact (Kd.S_reads' HO341.out).2.1); (case side3 => repeat (first | exact (Kd.S_reads' HO344.out).2.2 | (with_reducible refine Kd.C_alloc ?_ _) | (with_reducible refine Kd.C_drewN ?_ _) | (with_reducible refine Kd.C_drew ?_))); (case side4 => exact (Kd.S_reads' HO344.out).2.1); rintro e w28 ⟨v346, rfl, ho0, hb⟩; refine ⟨_, rfl, ?_⟩; have n0_ := Aside0.mk (Kd.S_elder' (by (with_reducible repeat (first | apply Kd.S_alloc | apply Kd.S_drewN | apply Kd.S_drew)); exact HO341.out) (Kd.S_base ho0) hb); have n1_ := Aside0.mk (Kd.S_elder' (by (with_reducible repeat (first | apply Kd.S_alloc | apply Kd.S_drewN | apply Kd.S_drew)); exact HO344.out) (Kd.S_base ho0) hb); have n2_ := Aside0.mk (Kd.S_lower (Kd.S_new' (Kd.S_new' ho0 (Kd.S_lt (by (with_reducible repeat (first | apply Kd.S_alloc | apply Kd.S_drewN | apply Kd.S_drew)); exact HO341.out))) (Kd.S_lt (by (with_reducible repeat (first | apply Kd.S_alloc | apply Kd.S_drewN | apply Kd.S_drew)); exact HO344.out))) (below_size (by repeat (first | (with_reducible first | exact HB.out | apply below_alloc | apply pw_below_drewN | apply below_drew1) | exact HB.out)))); have n3_ := Aside0.mk (below_step (by repeat (first | (with_reducible first | exact HB.out | apply below_alloc | apply pw_below_drewN | apply below_drew1) | exact HB.out)) hb); clear HO341; clear HO344; clear HB; have HO341 := n0_; have HO344 := n1_; have HO347 := n2_; have HB := n3_; clear n0_ n1_ n2_ n3_; (try clear hb); (try clear hb2); (try clear hk); (try clear hi); (try clear ho0); obtain ⟨Ao29, co29, eo29⟩ := Kd.S_slice HO347.out; subst eo29) | (go_at_call 16; (with_reducible refine (semigrouplaw14_awake.calls k  t349 _ A23.out).mono ?_); rintro e w30 ⟨rfl, hb⟩; have n0_ := Aside0.mk (Kd.S_below (by (with_reducible repeat (first | apply Kd.S_alloc | apply Kd.S_drewN | apply Kd.S_drew)); exact HO341.out) hb); have n1_ := Aside0.mk (Kd.S_below (by (with_reducible repeat (first | apply Kd.S_alloc | apply Kd.S_drewN | apply Kd.S_drew)); exact HO344.out) hb); have n2_ := Aside0.mk (Kd.S_below (by (with_reducible repeat (first | apply Kd.S_alloc | apply Kd.S_drewN | apply Kd.S_drew)); exact HO347.out) hb); have n3_ := Aside0.mk (below_step (by repeat (first | (with_reducible first | exact HB.out | apply below_alloc | apply pw_below_drewN | apply below_drew1) | exact HB.out)) hb); clear HO341; clear HO344; clear HO347; clear HB; have HO341 := n0_; have HO344 := n1_; have HO347 := n2_; have HB := n3_; clear n0_ n1_ n2_ n3_; (try clear hb); (try clear hb2); (try clear hk); (try clear hi)))
      go_ret
      exact ⟨by first | rfl | (simp [errW_none, errW_some] <;> rfl) | (simp [*, errW_none, errW_some] <;> rfl), by repeat (first | (with_reducible first | exact HB.out | apply below_alloc | apply pw_below_drewN | apply below_drew1) | exact HB.out)⟩
    · rw [if_neg c22] at H
      have c22b0 : ((t345.length : Int) == (wrap64 ((wrap64 ((Int.tmod (wrap64 (a0)) 30) + 1)) * (wrap64 ((Int.tmod (wrap64 (a1)) 30) + 1))))) = false := beq_eq_false_iff_ne.mpr c22
      have c22b1 : ((t345.length : Int) != (wrap64 ((wrap64 ((Int.tmod (wrap64 (a0)) 30) + 1)) * (wrap64 ((Int.tmod (wrap64 (a1)) 30) + 1))))) = true := bne_iff_ne.mpr c22
      obtain rfl := Option.some.inj H
      go_enter Try.func7, Try.ntmps7
      go_wp2_with (first | ((with_reducible refine gate_callee (f := 38) rfl ?_); refine goesL_ (some 17) rfl rfl Try.func38 (by kernel_rfl) rfl #[.int .i64 (wrap64 ((Int.tmod (wrap64 (a0)) 30) + 1))] rfl (by (try simp only [List.map_toArray, List.map_cons, List.map_nil]); first | done | rfl | (simp only [List.length_drop, List.length_take]; rfl)) ?_; (with_reducible refine (semigrouplaw14_zeros.calls k (wrap64 ((Int.tmod (wrap64 (a0)) 30) + 1)) t339 _ A3.out).mono ?_); rintro e w31 ⟨v340, rfl, ho0, hb⟩; refine ⟨_, rfl, ?_⟩; have n0_ := Aside0.mk (Kd.S_lower ho0 (below_size (by repeat (first | (with_reducible first | exact HB.out | apply below_alloc | apply pw_below_drewN | apply below_drew1) | exact HB.out)))); have n1_ := Aside0.mk (below_step (by repeat (first | (with_reducible first | exact HB.out | apply below_alloc | apply pw_below_drewN | apply below_drew1) | exact HB.out)) hb); clear HB; have HO341 := n0_; have HB := n1_; clear n0_ n1_; (try clear hb); (try clear hb2); (try clear hk); (try clear hi); (try clear ho0)) | ((with_reducible refine gate_callee (f := 38) rfl ?_); refine goesL_ (some 19) rfl rfl Try.func38 (by kernel_rfl) rfl #[.int .i64 (wrap64 ((Int.tmod (wrap64 (a1)) 30) + 1))] rfl (by (try simp only [List.map_toArray, List.map_cons, List.map_nil]); first | done | rfl | (simp only [List.length_drop, List.length_take]; rfl)) ?_; (with_reducible refine (semigrouplaw14_zeros.calls k (wrap64 ((Int.tmod (wrap64 (a1)) 30) + 1)) t342 _ A4.out).mono ?_); rintro e w32 ⟨v343, rfl, ho0, hb⟩; refine ⟨_, rfl, ?_⟩; have n0_ := Aside0.mk (Kd.S_elder' (by (with_reducible repeat (first | apply Kd.S_alloc | apply Kd.S_drewN | apply Kd.S_drew)); exact HO341.out) (Kd.S_base ho0) hb); have n1_ := Aside0.mk (Kd.S_lower (Kd.S_new' ho0 (Kd.S_lt (by (with_reducible repeat (first | apply Kd.S_alloc | apply Kd.S_drewN | apply Kd.S_drew)); exact HO341.out))) (below_size (by repeat (first | (with_reducible first | exact HB.out | apply below_alloc | apply pw_below_drewN | apply below_drew1) | exact HB.out)))); have n2_ := Aside0.mk (below_step (by repeat (first | (with_reducible first | exact HB.out | apply below_alloc | apply pw_below_drewN | apply below_drew1) | exact HB.out)) hb); clear HO341; clear HB; have HO341 := n0_; have HO344 := n1_; have HB := n2_; clear n0_ n1_ n2_; (try clear hb); (try clear hb2); (try clear hk); (try clear hi); (try clear ho0); obtain ⟨Ao33, co33, eo33⟩ := Kd.S_slice HO341.out; subst eo33; obtain ⟨Ao34, co34, eo34⟩ := Kd.S_slice HO344.out; subst eo34) | ((with_reducible refine gate_callee (f := 37) rfl ?_); refine goesL_ (some 20) rfl rfl Try.func37 (by kernel_rfl) rfl #[.slice Ao33 t339.length co33, .slice Ao34 t342.length co34] rfl (by (try simp only [List.map_toArray, List.map_cons, List.map_nil]); first | done | rfl | (simp only [List.length_drop, List.length_take]; rfl)) ?_; (with_reducible refine (mult_Direct.calls k _ _ t339 _ _ t342 t345 _ ?side1 ?side2 ?side3 ?side4 A5.out).mono ?_); (case side1 => repeat (first | exact (Kd.S_reads' HO341.out).2.2 | (with_reducible refine Kd.C_alloc ?_ _) | (with_reducible refine Kd.C_drewN ?_ _) | (with_reducible refine Kd.C_drew ?_))); (case side2 => exact (Kd.S_reads' HO341.out).2.1); (case side3 => repeat (first | exact (Kd.S_reads' HO344.out).2.2 | (with_reducible refine Kd.C_alloc ?_ _) | (with_reducible refine Kd.C_drewN ?_ _) | (with_reducible refine Kd.C_drew ?_))); (case side4 => exact (Kd.S_reads' HO344.out).2.1); rintro e w35 ⟨v346, rfl, ho0, hb⟩; refine ⟨_, rfl, ?_⟩; have n0_ := Aside0.mk (Kd.S_elder' (by (with_reducible repeat (first | apply Kd.S_alloc | apply Kd.S_drewN | apply Kd.S_drew)); exact HO341.out) (Kd.S_base ho0) hb); have n1_ := Aside0.mk (Kd.S_elder' (by (with_reducible repeat (first | apply Kd.S_alloc | apply Kd.S_drewN | apply Kd.S_drew)); exact HO344.out) (Kd.S_base ho0) hb); have n2_ := Aside0.mk (Kd.S_lower (Kd.S_new' (Kd.S_new' ho0 (Kd.S_lt (by (with_reducible repeat (first | apply Kd.S_alloc | apply Kd.S_drewN | apply Kd.S_drew)); exact HO341.out))) (Kd.S_lt (by (with_reducible repeat (first | apply Kd.S_alloc | apply Kd.S_drewN | apply Kd.S_drew)); exact HO344.out))) (below_size (by repeat (first | (with_reducible first | exact HB.out | apply below_alloc | apply pw_below_drewN | apply below_drew1) | exact HB.out)))); have n3_ := Aside0.mk (below_step (by repeat (first | (with_reducible first | exact HB.out | apply below_alloc | apply pw_below_drewN | apply below_drew1) | exact HB.out)) hb); clear HO341; clear HO344; clear HB; have HO341 := n0_; have HO344 := n1_; have HO347 := n2_; have HB := n3_; clear n0_ n1_ n2_ n3_; (try clear hb); (try clear hb2); (try clear hk); (try clear hi); (try clear ho0); obtain ⟨Ao36, co36, eo36⟩ := Kd.S_slice HO347.out; subst eo36))
      go_ret
      exact ⟨by first | rfl | (simp [errW_none, errW_some] <;> rfl) | (simp [*, errW_none, errW_some] <;> rfl), by repeat (first | (with_reducible first | exact HB.out | apply below_alloc | apply pw_below_drewN | apply below_drew1) | exact HB.out)⟩

/-- THE ONE PURE STATEMENT of semigrouplaw14_MultLimits: yours. -/
def semigrouplaw14_MultLimits.Pure : Prop := ∀ (a0 : Int) (a1 : Int), (Lit.int .u8 a0).wf = true → (Lit.int .u8 a1).wf = true → ∃ k, semigrouplaw14_MultLimits.f k a0 a1 = some true
theorem semigrouplaw14_MultLimits.walk (P : semigrouplaw14_MultLimits.Pure) (a0 : Int) (a1 : Int) (w : World) (w0 : (Lit.int .u8 a0).wf = true) (w1 : (Lit.int .u8 a1).wf = true) :
    Calls Try.prog 7 #[.int .u8 a0, .int .u8 a1] w fun e w' => e = .returned (.bool true) ∧ Below w.heap.size w w' := by
  obtain ⟨k, h⟩ := P a0 a1 w0 w1
  refine (semigrouplaw14_MultLimits.calls k a0 a1 true w h).mono ?_
  rintro e w' ⟨rfl, hd⟩
  exact ⟨rfl, hd⟩

/-! ### mult_elements: function 69 -/
def mult_elements.l0 : Nat → List (List Int) → List Int → Int → Int → Option (Bool)
  | 0, _, _, _, _ => none
  | k + 1, x0, x7, x8, x9 => if x9 < x8 then (if 0 ≤ x9 then (if x9 < (x7.length : Int) then (if (rd x7 x9) < 0 then (some false) else (if (rd x7 x9) ≥ (x0.length : Int) then (some false) else (mult_elements.l0 k x0 x7 x8 (wrap64 (x9 + 1))))) else (none)) else (none)) else (some true)
def mult_elements.f (k : Nat) (l0 : List (List Int)) (l1 : List Int) : Option (Bool) := mult_elements.l0 k l0 l1 (l1.length : Int) 0
theorem mult_elements.mono_l : ∀ k, (∀ y0 y1 y2 y3, LeO (mult_elements.l0 k y0 y1 y2 y3) (mult_elements.l0 (k + 1) y0 y1 y2 y3))
  | 0 => fun _ _ _ _ r h => by simp [mult_elements.l0] at h
  | k + 1 => by
    have ih0 := mult_elements.mono_l k
    · intro y0 y1 y2 y3
      unfold mult_elements.l0
      repeat' first
      | (with_reducible exact ih0 _ _ _ _)
      | (with_reducible exact LeO.refl _)
      | (with_reducible exact LeO.none _)
      | (with_reducible refine LeO.ite ?_ ?_)
      | (with_reducible refine LeO.bind ?_ (fun _ => ?_))
      | exact ih0 _ _ _ _
      | exact LeO.none _
      | refine LeO.ite ?_ ?_
      | refine LeO.bind ?_ (fun _ => ?_)
theorem mult_elements.mono : ∀ a0 a1 k, LeO (mult_elements.f k a0 a1) (mult_elements.f (k + 1) a0 a1) := by
  intro a0 a1 k
  have ih0 := mult_elements.mono_l k
  unfold mult_elements.f
  repeat' first
      | (with_reducible exact ih0 _ _ _ _)
      | (with_reducible exact LeO.refl _)
      | (with_reducible exact LeO.none _)
      | (with_reducible refine LeO.ite ?_ ?_)
      | (with_reducible refine LeO.bind ?_ (fun _ => ?_))
      | exact ih0 _ _ _ _
      | exact LeO.none _
      | refine LeO.ite ?_ ?_
      | refine LeO.bind ?_ (fun _ => ?_)
set_option maxHeartbeats 8000000 in
set_option maxRecDepth 100000 in
theorem mult_elements.calls (k : Nat) (A0 : Option Addr) (c0 : Nat) (l0 : List (List Int)) (A1 : Option Addr) (c1 : Nat) (l1 : List Int) (r : Bool) (w : World) (hr0 : Kd.C (Kd.slice 3 (Kd.int .i64)) w A0 l0.length l0) (hc0 : l0.length ≤ c0) (hr1 : Kd.C (Kd.int .i64) w A1 l1.length l1) (hc1 : l1.length ≤ c1) (h : mult_elements.f k l0 l1 = some r) :
    Calls Try.prog 69 #[.slice A0 l0.length c0, .slice A1 l1.length c1] w fun e w' => e = .returned (.bool r) ∧ Drawn0 w w' := by
  have HR0 := Aside0.mk hr0
  have HC0 := Aside0.mk hc0
  (try clear hr0); (try clear hc0)
  have HR1 := Aside0.mk hr1
  have HC1 := Aside0.mk hc1
  (try clear hr1); (try clear hc1)
  have H : (mult_elements.l0 k l0 l1 (l1.length : Int) 0) = some r := h
  clear h
  have H' := Aside0.mk H
  clear H
  go_enter Try.func69, Try.ntmps69
  go_wp2
  go_loopg [9] k (fun kq v9 w' => ∃ (x9_1 : Int), v9 = .int .i64 x9_1 ∧ Aside0 (mult_elements.l0 kq l0 l1 (l1.length : Int) x9_1 = some r) ∧ Aside0 (kq ≤ k) ∧ Drawn0 w w')
  case atStart => exact ⟨(0), (by first | rfl | (simp; done) | (simp [*]; done)), H', ⟨Nat.le_refl _⟩, by repeat (first | exact Drawn0.refl _ | apply Drawn0.step)⟩
  case round =>
    clear H'
    try clear c1
    try clear p2
    obtain ⟨x9_1, rfl, HA, HK1, ⟨m1, rfl⟩⟩ := hrel
    cases gk with
    | zero => exact absurd HA.out (by simp [mult_elements.l0])
    | succ k1 =>
      have H := HA.out
      clear HA
      simp only [mult_elements.l0] at H
      by_cases c3 : x9_1 < (l1.length : Int)
      · rw [if_pos c3] at H
        have c3b0 : decide (x9_1 < (l1.length : Int)) = true := decide_eq_true c3
        clear c3
        by_cases c4 : 0 ≤ x9_1
        · rw [if_pos c4] at H
          have c4b0 : decide (0 ≤ x9_1) = true := decide_eq_true c4
          clear c4
          by_cases c5 : x9_1 < (l1.length : Int)
          · rw [if_pos c5] at H
            have c5b0 : decide (x9_1 < (l1.length : Int)) = true := decide_eq_true c5
            clear c5
            by_cases c6 : (rd l1 x9_1) < 0
            · rw [if_pos c6] at H
              have c6b0 : decide ((rd l1 x9_1) < 0) = true := decide_eq_true c6
              clear c6
              obtain rfl := Option.some.inj H
              have p350 : 0 ≤ (x9_1 : Int) := of_decide_eq_true (by first | (with_reducible assumption) | assumption)
              have q350 : x9_1 < (l1.length : Int) := of_decide_eq_true (by first | (with_reducible assumption) | assumption)
              obtain ⟨ad350, e350, hx350_0⟩ := Kd.at_int HR1.out x9_1 p350 q350
              cases e350
              replace p350 := eq_true p350
              replace q350 := eq_true q350
              go_wp2
              go_ret
              exact ⟨by first | rfl | (simp; done) | (simp [*]; done), by repeat (first | exact Drawn0.refl _ | apply Drawn0.step)⟩
            · rw [if_neg c6] at H
              have c6b0 : decide ((rd l1 x9_1) < 0) = false := decide_eq_false c6
              clear c6
              by_cases c7 : (rd l1 x9_1) ≥ (l0.length : Int)
              · rw [if_pos c7] at H
                have c7b0 : decide ((l0.length : Int) ≤ (rd l1 x9_1)) = true := decide_eq_true c7
                clear c7
                obtain rfl := Option.some.inj H
                have p350 : 0 ≤ (x9_1 : Int) := of_decide_eq_true (by first | (with_reducible assumption) | assumption)
                have q350 : x9_1 < (l1.length : Int) := of_decide_eq_true (by first | (with_reducible assumption) | assumption)
                obtain ⟨ad350, e350, hx350_0⟩ := Kd.at_int HR1.out x9_1 p350 q350
                cases e350
                replace p350 := eq_true p350
                replace q350 := eq_true q350
                go_wp2
                go_ret
                exact ⟨by first | rfl | (simp; done) | (simp [*]; done), by repeat (first | exact Drawn0.refl _ | apply Drawn0.step)⟩
              · rw [if_neg c7] at H
                have c7b0 : decide ((l0.length : Int) ≤ (rd l1 x9_1)) = false := decide_eq_false c7
                clear c7
                have H' := Aside0.mk H
                clear H
                have p350 : 0 ≤ (x9_1 : Int) := of_decide_eq_true (by first | (with_reducible assumption) | assumption)
                have q350 : x9_1 < (l1.length : Int) := of_decide_eq_true (by first | (with_reducible assumption) | assumption)
                obtain ⟨ad350, e350, hx350_0⟩ := Kd.at_int HR1.out x9_1 p350 q350
                cases e350
                replace p350 := eq_true p350
                replace q350 := eq_true q350
                go_wp2
                go_roundg k1
                case measure => have := HK1.out; omega
                case rel => exact ⟨(wrap64 (x9_1 + 1)), (by first | rfl | (simp; done) | (simp [*]; done)), H', ⟨by have := HK1.out; omega⟩, by repeat (first | exact Drawn0.refl _ | apply Drawn0.step)⟩
          · rw [if_neg c5] at H
            exact absurd H (by simp)
        · rw [if_neg c4] at H
          exact absurd H (by simp)
      · rw [if_neg c3] at H
        have c3b0 : decide (x9_1 < (l1.length : Int)) = false := decide_eq_false c3
        clear c3
        obtain rfl := Option.some.inj H
        go_wp2
        go_ret
        exact ⟨by first | rfl | (simp; done) | (simp [*]; done), by repeat (first | exact Drawn0.refl _ | apply Drawn0.step)⟩

end Go.Proofs.Ytlhckcldeojfmaa.PAll
