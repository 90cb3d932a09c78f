-- printed for this claim out of the translation; Lean checks it
import Derived.Test.YtlhckcldeojfmaaKMultGeneratesP2
namespace Go.Proofs.Ytlhckcldeojfmaa.PAll
open Go.RowKit Go.Proofs.YtlhckcldeojfmaaW.PrintWords Go.Proofs.YtlhckcldeojfmaaW.PrintLast Go.Proofs.YtlhckcldeojfmaaW.PrintMore
attribute [local go_sem] max2_int min2_int max_two min_two max_three min_three max_four min_four   -- for this text's walks alone
set_option linter.unusedVariables false
set_option linter.unusedSimpArgs false
/-! ### semigrouplaw14_MultGenerates: function 12 -/
mutual
def semigrouplaw14_MultGenerates.j0 : Nat → List (List Int) → List Int → List Int → Bool → Option (Bool)
 | 0, _, _, _, _ => none
 | k + 1, x0, x1, x2, x19 => if x19 = true then ((semigrouplaw14_awake.f k).bind fun t647 => (some t647)) else ((mult_Generated.f k x0 x1).bind fun t648 => ((mult_Sub.f k x0 x2).bind fun bt651 => ((semigroupref14_Sub.f k x0 x2).bind fun bt655 => (if bt651.2 = bt655.2 then ((semigroupref03_SameRows.f k bt651.1 bt655.1).bind fun t659 => (semigrouplaw14_MultGenerates.j1 k x0 x1 t648 (!t659))) else (semigrouplaw14_MultGenerates.j1 k x0 x1 t648 true)))))
def semigrouplaw14_MultGenerates.j1 : Nat → List (List Int) → List Int → List Int → Bool → Option (Bool)
 | 0, _, _, _, _ => none
 | k + 1, x0, x1, x7, x44 => if x44 = true then (some false) else ((semigroupref14_Valid.f k x0).bind fun t660 => (if t660 = true then ((semigroupref14_In.f k x0 x1).bind fun t661 => (semigrouplaw14_MultGenerates.j2 k x0 x1 x7 (!t661))) else (semigrouplaw14_MultGenerates.j2 k x0 x1 x7 true)))
def semigrouplaw14_MultGenerates.j2 : Nat → List (List Int) → List Int → List Int → Bool → Option (Bool)
 | 0, _, _, _, _ => none
 | k + 1, x0, x1, x7, x53 => if x53 = true then (if (x7.length : Int) = 0 then ((semigrouplaw14_awake.f k).bind fun t662 => (some t662)) else (some false)) else ((semigroupref14_Generated.f k x0 x1).bind fun t663 => ((semigroupref03_Same.f k x7 t663).bind fun t666 => (if t666 = true then ((semigrouplaw14_awake.f k).bind fun t667 => (some t667)) else (some false))))
end
def semigrouplaw14_MultGenerates.f (k : Nat) (l0 : List (List Int)) (l1 : List Int) (l2 : List Int) : Option (Bool) := (semigroupref14_Shape.f k l0).bind fun t646 => (if t646 = 0 then (semigrouplaw14_MultGenerates.j0 k l0 l1 l2 (decide ((l0.length : Int) > 20))) else (semigrouplaw14_MultGenerates.j0 k l0 l1 l2 false))
theorem semigrouplaw14_MultGenerates.mono_l : ∀ k, (∀ y0 y1 y2 y3, LeO (semigrouplaw14_MultGenerates.j0 k y0 y1 y2 y3) (semigrouplaw14_MultGenerates.j0 (k + 1) y0 y1 y2 y3)) ∧ (∀ y0 y1 y2 y3, LeO (semigrouplaw14_MultGenerates.j1 k y0 y1 y2 y3) (semigrouplaw14_MultGenerates.j1 (k + 1) y0 y1 y2 y3)) ∧ (∀ y0 y1 y2 y3, LeO (semigrouplaw14_MultGenerates.j2 k y0 y1 y2 y3) (semigrouplaw14_MultGenerates.j2 (k + 1) y0 y1 y2 y3))
 | 0 => ⟨fun _ _ _ _ r h => by simp [semigrouplaw14_MultGenerates.j0] at h, fun _ _ _ _ r h => by simp [semigrouplaw14_MultGenerates.j1] at h, fun _ _ _ _ r h => by simp [semigrouplaw14_MultGenerates.j2] at h⟩
 | k + 1 => by
  obtain ⟨ih0, ih1, ih2⟩ := semigrouplaw14_MultGenerates.mono_l k
  refine ⟨?_, ?_, ?_⟩
  ·intro y0 y1 y2 y3
   unfold semigrouplaw14_MultGenerates.j0
   repeat' first
   | (with_reducible exact ih0 _ _ _ _)
   | (with_reducible exact ih1 _ _ _ _)
   | (with_reducible exact ih2 _ _ _ _)
   | (with_reducible exact mult_Generated.mono _ _ _)
   | (with_reducible exact mult_Sub.mono _ _ _)
   | (with_reducible exact semigrouplaw14_awake.mono _)
   | (with_reducible exact semigroupref03_Same.mono _ _ _)
   | (with_reducible exact semigroupref03_SameRows.mono _ _ _)
   | (with_reducible exact semigroupref14_Generated.mono _ _ _)
   | (with_reducible exact semigroupref14_In.mono _ _ _)
   | (with_reducible exact semigroupref14_Shape.mono _ _)
   | (with_reducible exact semigroupref14_Sub.mono _ _ _)
   | (with_reducible exact semigroupref14_Valid.mono _ _)
   | (with_reducible exact LeO.refl _)
   | (with_reducible exact LeO.none _)
   | (with_reducible refine LeO.ite ?_ ?_)
   | (with_reducible refine LeO.bind ?_ (fun _ => ?_))
   | exact ih0 _ _ _ _
   | exact ih1 _ _ _ _
   | exact ih2 _ _ _ _
   | exact mult_Generated.mono _ _ _
   | exact mult_Sub.mono _ _ _
   | exact semigrouplaw14_awake.mono _
   | exact semigroupref03_Same.mono _ _ _
   | exact semigroupref03_SameRows.mono _ _ _
   | exact semigroupref14_Generated.mono _ _ _
   | exact semigroupref14_In.mono _ _ _
   | exact semigroupref14_Shape.mono _ _
   | exact semigroupref14_Sub.mono _ _ _
   | exact semigroupref14_Valid.mono _ _
   | exact LeO.none _
   | refine LeO.ite ?_ ?_
   | refine LeO.bind ?_ (fun _ => ?_)
  ·intro y0 y1 y2 y3
   unfold semigrouplaw14_MultGenerates.j1
   repeat' first
   | (with_reducible exact ih0 _ _ _ _)
   | (with_reducible exact ih1 _ _ _ _)
   | (with_reducible exact ih2 _ _ _ _)
   | (with_reducible exact mult_Generated.mono _ _ _)
   | (with_reducible exact mult_Sub.mono _ _ _)
   | (with_reducible exact semigrouplaw14_awake.mono _)
   | (with_reducible exact semigroupref03_Same.mono _ _ _)
   | (with_reducible exact semigroupref03_SameRows.mono _ _ _)
   | (with_reducible exact semigroupref14_Generated.mono _ _ _)
   | (with_reducible exact semigroupref14_In.mono _ _ _)
   | (with_reducible exact semigroupref14_Shape.mono _ _)
   | (with_reducible exact semigroupref14_Sub.mono _ _ _)
   | (with_reducible exact semigroupref14_Valid.mono _ _)
   | (with_reducible exact LeO.refl _)
   | (with_reducible exact LeO.none _)
   | (with_reducible refine LeO.ite ?_ ?_)
   | (with_reducible refine LeO.bind ?_ (fun _ => ?_))
   | exact ih0 _ _ _ _
   | exact ih1 _ _ _ _
   | exact ih2 _ _ _ _
   | exact mult_Generated.mono _ _ _
   | exact mult_Sub.mono _ _ _
   | exact semigrouplaw14_awake.mono _
   | exact semigroupref03_Same.mono _ _ _
   | exact semigroupref03_SameRows.mono _ _ _
   | exact semigroupref14_Generated.mono _ _ _
   | exact semigroupref14_In.mono _ _ _
   | exact semigroupref14_Shape.mono _ _
   | exact semigroupref14_Sub.mono _ _ _
   | exact semigroupref14_Valid.mono _ _
   | exact LeO.none _
   | refine LeO.ite ?_ ?_
   | refine LeO.bind ?_ (fun _ => ?_)
  ·intro y0 y1 y2 y3
   unfold semigrouplaw14_MultGenerates.j2
   repeat' first
   | (with_reducible exact ih0 _ _ _ _)
   | (with_reducible exact ih1 _ _ _ _)
   | (with_reducible exact ih2 _ _ _ _)
   | (with_reducible exact mult_Generated.mono _ _ _)
   | (with_reducible exact mult_Sub.mono _ _ _)
   | (with_reducible exact semigrouplaw14_awake.mono _)
   | (with_reducible exact semigroupref03_Same.mono _ _ _)
   | (with_reducible exact semigroupref03_SameRows.mono _ _ _)
   | (with_reducible exact semigroupref14_Generated.mono _ _ _)
   | (with_reducible exact semigroupref14_In.mono _ _ _)
   | (with_reducible exact semigroupref14_Shape.mono _ _)
   | (with_reducible exact semigroupref14_Sub.mono _ _ _)
   | (with_reducible exact semigroupref14_Valid.mono _ _)
   | (with_reducible exact LeO.refl _)
   | (with_reducible exact LeO.none _)
   | (with_reducible refine LeO.ite ?_ ?_)
   | (with_reducible refine LeO.bind ?_ (fun _ => ?_))
   | exact ih0 _ _ _ _
   | exact ih1 _ _ _ _
   | exact ih2 _ _ _ _
   | exact mult_Generated.mono _ _ _
   | exact mult_Sub.mono _ _ _
   | exact semigrouplaw14_awake.mono _
   | exact semigroupref03_Same.mono _ _ _
   | exact semigroupref03_SameRows.mono _ _ _
   | exact semigroupref14_Generated.mono _ _ _
   | exact semigroupref14_In.mono _ _ _
   | exact semigroupref14_Shape.mono _ _
   | exact semigroupref14_Sub.mono _ _ _
   | exact semigroupref14_Valid.mono _ _
   | exact LeO.none _
   | refine LeO.ite ?_ ?_
   | refine LeO.bind ?_ (fun _ => ?_)
theorem semigrouplaw14_MultGenerates.mono : ∀ a0 a1 a2 k, LeO (semigrouplaw14_MultGenerates.f k a0 a1 a2) (semigrouplaw14_MultGenerates.f (k + 1) a0 a1 a2) := by
 intro a0 a1 a2 k
 obtain ⟨ih0, ih1, ih2⟩ := semigrouplaw14_MultGenerates.mono_l k
 unfold semigrouplaw14_MultGenerates.f
 repeat' first
   | (with_reducible exact ih0 _ _ _ _)
   | (with_reducible exact ih1 _ _ _ _)
   | (with_reducible exact ih2 _ _ _ _)
   | (with_reducible exact mult_Generated.mono _ _ _)
   | (with_reducible exact mult_Sub.mono _ _ _)
   | (with_reducible exact semigrouplaw14_awake.mono _)
   | (with_reducible exact semigroupref03_Same.mono _ _ _)
   | (with_reducible exact semigroupref03_SameRows.mono _ _ _)
   | (with_reducible exact semigroupref14_Generated.mono _ _ _)
   | (with_reducible exact semigroupref14_In.mono _ _ _)
   | (with_reducible exact semigroupref14_Shape.mono _ _)
   | (with_reducible exact semigroupref14_Sub.mono _ _ _)
   | (with_reducible exact semigroupref14_Valid.mono _ _)
   | (with_reducible exact LeO.refl _)
   | (with_reducible exact LeO.none _)
   | (with_reducible refine LeO.ite ?_ ?_)
   | (with_reducible refine LeO.bind ?_ (fun _ => ?_))
   | exact ih0 _ _ _ _
   | exact ih1 _ _ _ _
   | exact ih2 _ _ _ _
   | exact mult_Generated.mono _ _ _
   | exact mult_Sub.mono _ _ _
   | exact semigrouplaw14_awake.mono _
   | exact semigroupref03_Same.mono _ _ _
   | exact semigroupref03_SameRows.mono _ _ _
   | exact semigroupref14_Generated.mono _ _ _
   | exact semigroupref14_In.mono _ _ _
   | exact semigroupref14_Shape.mono _ _
   | exact semigroupref14_Sub.mono _ _ _
   | exact semigroupref14_Valid.mono _ _
   | exact LeO.none _
   | refine LeO.ite ?_ ?_
   | refine LeO.bind ?_ (fun _ => ?_)
set_option maxHeartbeats 8000000 in
set_option maxRecDepth 100000 in
theorem semigrouplaw14_MultGenerates.calls (k : Nat) (A0 : Option Addr) (c0 : Nat) (l0 : List (List Int)) (A1 : Option Addr) (c1 : Nat) (l1 : List Int) (A2 : Option Addr) (c2 : Nat) (l2 : List Int) (r : Bool) (w : World) (hr0 : Kd.C (Kd.slice 3 (Kd.int .i64)) w A0 l0.length l0) (hc0 : l0.length ≤ c0) (hr1 : Kd.C (Kd.int .i64) w A1 l1.length l1) (hc1 : l1.length ≤ c1) (hr2 : Kd.C (Kd.int .i64) w A2 l2.length l2) (hc2 : l2.length ≤ c2) (h : semigrouplaw14_MultGenerates.f k l0 l1 l2 = some r) :
  Calls Try.prog 12 #[.slice A0 l0.length c0, .slice A1 l1.length c1, .slice A2 l2.length c2] w fun e w' => e = .returned (.bool r) ∧ Below w.heap.size w w' := by
 have HR0 := Aside0.mk hr0
 have HC0 := Aside0.mk hc0
 (try clear hr0); (try clear hc0)
 have HR1 := Aside0.mk hr1
 have HC1 := Aside0.mk hc1
 (try clear hr1); (try clear hc1)
 have HR2 := Aside0.mk hr2
 have HC2 := Aside0.mk hc2
 (try clear hr2); (try clear hc2)
 have HB := Aside0.mk (Below.refl w.heap.size w)
 have H : ((semigroupref14_Shape.f k l0).bind fun t646 => (if t646 = 0 then (semigrouplaw14_MultGenerates.j0 k l0 l1 l2 (decide ((l0.length : Int) > 20))) else (semigrouplaw14_MultGenerates.j0 k l0 l1 l2 false))) = some r := h
 clear h
 have HC4 := Aside0.mk H
 clear H
 go_enter Try.func12, Try.ntmps12
 go_upto_region 1 with (fail)
 go_cut [19] (fun v19 wc => ∃ (kq : Nat) (x19_3 : Bool), v19 = .bool x19_3 ∧ Aside0 (semigrouplaw14_MultGenerates.j0 kq l0 l1 l2 x19_3 = some r) ∧ Aside0 (kq ≤ k) ∧ Aside0 (Below w.heap.size w wc))
 case first =>
  have H := HC4.out
  clear HC4
  replace H := Option.bind_eq_some_iff.mp H
  obtain ⟨t646, A50, H⟩ := H
  replace H : (if t646 = 0 then (semigrouplaw14_MultGenerates.j0 k l0 l1 l2 (decide ((l0.length : Int) > 20))) else (semigrouplaw14_MultGenerates.j0 k l0 l1 l2 false)) = some r := H
  have A5 := Aside0.mk A50
  clear A50
  by_cases c6 : t646 = 0
  ·rw [if_pos c6] at H
   have c6b0 : (t646 == 0) = true := beq_iff_eq.mpr c6
   have c6b1 : (t646 != 0) = false := bne_eq_false_iff_eq.mpr c6
   clear c6
   (first | rw [c6b0] | (simp only [i64_w, i32_w]; rw [c6b0]) | skip)
   have H' := Aside0.mk H
   clear H
   go_wp2_with (first | ((with_reducible refine gate_callee (f := 23) rfl ?_); refine goesL_ (some 13) rfl rfl Try.func23 (by kernel_rfl) rfl #[.slice A0 l0.length c0] rfl (by (try simp only [List.map_toArray, List.map_cons, List.map_nil]); first | done | rfl | (simp only [List.length_drop, List.length_take]; rfl)) ?_; (with_reducible refine (semigroupref14_Shape.calls k _ _ l0 t646 _ ?side1 ?side2 A5.out).mono ?_); (case side1 => repeat (first | exact (Kd.C_below HR0.out HB.out) | (with_reducible refine Kd.C_alloc ?_ _) | (with_reducible refine Kd.C_drewN ?_ _) | (with_reducible refine Kd.C_drew ?_))); (case side2 => exact HC0.out); rintro e w' ⟨rfl, ⟨nd, rfl⟩⟩; refine ⟨_, rfl, ?_⟩))
   go_meet
   case rel => exact ⟨_, (decide ((l0.length : Int) > 20)), (by first | rfl | (simp; done) | (simp [*]; done)), H', ⟨by first | omega | exact Nat.le_refl _⟩, ⟨by repeat (first | (with_reducible first | exact HB.out | apply below_alloc | apply pw_below_drewN | apply below_drew1) | exact HB.out)⟩⟩
  ·rw [if_neg c6] at H
   have c6b0 : (t646 == 0) = false := beq_eq_false_iff_ne.mpr c6
   have c6b1 : (t646 != 0) = true := bne_iff_ne.mpr c6
   (first | rw [c6b0] | (simp only [i64_w, i32_w]; rw [c6b0]) | skip)
   have H' := Aside0.mk H
   clear H
   go_wp2_with (first | ((with_reducible refine gate_callee (f := 23) rfl ?_); refine goesL_ (some 13) rfl rfl Try.func23 (by kernel_rfl) rfl #[.slice A0 l0.length c0] rfl (by (try simp only [List.map_toArray, List.map_cons, List.map_nil]); first | done | rfl | (simp only [List.length_drop, List.length_take]; rfl)) ?_; (with_reducible refine (semigroupref14_Shape.calls k _ _ l0 t646 _ ?side1 ?side2 A5.out).mono ?_); (case side1 => repeat (first | exact (Kd.C_below HR0.out HB.out) | (with_reducible refine Kd.C_alloc ?_ _) | (with_reducible refine Kd.C_drewN ?_ _) | (with_reducible refine Kd.C_drew ?_))); (case side2 => exact HC0.out); rintro e w' ⟨rfl, ⟨nd, rfl⟩⟩; refine ⟨_, rfl, ?_⟩))
   go_meet
   case rel => exact ⟨_, (false), (by first | rfl | (simp; done) | (simp [*]; done)), H', ⟨by first | omega | exact Nat.le_refl _⟩, ⟨by repeat (first | (with_reducible first | exact HB.out | apply below_alloc | apply pw_below_drewN | apply below_drew1) | exact HB.out)⟩⟩
 case rest =>
  clear HC4
  try clear c1
  try clear c2
  try clear p2
  try clear c6
  try clear c6b0
  try clear c6b1
  obtain ⟨kq, x19_3, rfl, HA, HJ3, HB⟩ := hcut
  cases kq with
  | zero => exact absurd HA.out (by simp [semigrouplaw14_MultGenerates.j0])
  | succ kj3 =>
   have H := HA.out
   clear HA
   simp only [semigrouplaw14_MultGenerates.j0] at H
   by_cases c7 : x19_3 = true
   ·subst c7
    have H1 : ((semigrouplaw14_awake.f kj3).bind fun t647 => (some t647)) = some r := by rw [if_pos rfl] at H; exact H
    clear H
    have H := H1
    clear H1
    replace H := Option.bind_eq_some_iff.mp H
    obtain ⟨t647, A80, H⟩ := H
    replace H : (some t647) = some r := H
    have A8 := Aside0.mk A80
    clear A80
    obtain rfl := Option.some.inj H
    go_wp2_with (first | ((with_reducible refine gate_callee (f := 16) rfl ?_); refine goesL_ (some 20) rfl rfl Try.func16 (by kernel_rfl) rfl #[] rfl (by (try simp only [List.map_toArray, List.map_cons, List.map_nil]); first | done | rfl | (simp only [List.length_drop, List.length_take]; rfl)) ?_; (with_reducible refine (semigrouplaw14_awake.calls kj3  t647 _ A8.out).mono ?_); rintro e w9 ⟨rfl, hb⟩; refine ⟨_, rfl, ?_⟩; have n0_ := Aside0.mk (below_step (by repeat (first | (with_reducible first | exact HB.out | apply below_alloc | apply pw_below_drewN | apply below_drew1) | exact HB.out)) hb); clear HB; have HB := n0_; clear n0_; (try clear hb); (try clear hb2); (try clear hk); (try clear hi)))
    go_ret
    exact ⟨by first | rfl | (simp [errW_none, errW_some] <;> rfl) | (simp [*, errW_none, errW_some] <;> rfl), by repeat (first | (with_reducible first | exact HB.out | apply below_alloc | apply pw_below_drewN | apply below_drew1) | exact HB.out)⟩
   ·replace c7 := Bool.eq_false_iff.mpr c7
    subst c7
    have H1 : ((mult_Generated.f kj3 l0 l1).bind fun t648 => ((mult_Sub.f kj3 l0 l2).bind fun bt651 => ((semigroupref14_Sub.f kj3 l0 l2).bind fun bt655 => (if bt651.2 = bt655.2 then ((semigroupref03_SameRows.f kj3 bt651.1 bt655.1).bind fun t659 => (semigrouplaw14_MultGenerates.j1 kj3 l0 l1 t648 (!t659))) else (semigrouplaw14_MultGenerates.j1 kj3 l0 l1 t648 true))))) = some r := by rw [if_neg (show ¬ (false = true) by decide)] at H; exact H
    clear H
    have H := H1
    clear H1
    replace H := Option.bind_eq_some_iff.mp H
    obtain ⟨t648, A100, H⟩ := H
    replace H : ((mult_Sub.f kj3 l0 l2).bind fun bt651 => ((semigroupref14_Sub.f kj3 l0 l2).bind fun bt655 => (if bt651.2 = bt655.2 then ((semigroupref03_SameRows.f kj3 bt651.1 bt655.1).bind fun t659 => (semigrouplaw14_MultGenerates.j1 kj3 l0 l1 t648 (!t659))) else (semigrouplaw14_MultGenerates.j1 kj3 l0 l1 t648 true)))) = some r := H
    have A10 := Aside0.mk A100
    clear A100
    replace H := Option.bind_eq_some_iff.mp H
    obtain ⟨⟨t651, t652⟩, A110, H⟩ := H
    replace H : ((semigroupref14_Sub.f kj3 l0 l2).bind fun bt655 => (if t652 = bt655.2 then ((semigroupref03_SameRows.f kj3 t651 bt655.1).bind fun t659 => (semigrouplaw14_MultGenerates.j1 kj3 l0 l1 t648 (!t659))) else (semigrouplaw14_MultGenerates.j1 kj3 l0 l1 t648 true))) = some r := H
    have A11 := Aside0.mk A110
    clear A110
    replace H := Option.bind_eq_some_iff.mp H
    obtain ⟨⟨t655, t656⟩, A120, H⟩ := H
    replace H : (if t652 = t656 then ((semigroupref03_SameRows.f kj3 t651 t655).bind fun t659 => (semigrouplaw14_MultGenerates.j1 kj3 l0 l1 t648 (!t659))) else (semigrouplaw14_MultGenerates.j1 kj3 l0 l1 t648 true)) = some r := H
    have A12 := Aside0.mk A120
    clear A120
    have HC13 := Aside0.mk H
    clear H
    go_upto_region 6 with (first | ((with_reducible refine gate_callee (f := 51) rfl ?_); refine goesL_ (some 23) rfl rfl Try.func51 (by kernel_rfl) rfl #[.slice A0 l0.length c0, .slice A1 l1.length c1] rfl (by (try simp only [List.map_toArray, List.map_cons, List.map_nil]); first | done | rfl | (simp only [List.length_drop, List.length_take]; rfl)) ?_; (with_reducible refine (mult_Generated.calls kj3 _ _ l0 _ _ l1 t648 _ ?side1 ?side2 ?side3 ?side4 A10.out).mono ?_); (case side1 => repeat (first | exact (Kd.C_below HR0.out HB.out) | (with_reducible refine Kd.C_alloc ?_ _) | (with_reducible refine Kd.C_drewN ?_ _) | (with_reducible refine Kd.C_drew ?_))); (case side2 => exact HC0.out); (case side3 => repeat (first | exact (Kd.C_below HR1.out HB.out) | (with_reducible refine Kd.C_alloc ?_ _) | (with_reducible refine Kd.C_drewN ?_ _) | (with_reducible refine Kd.C_drew ?_))); (case side4 => exact HC1.out); rintro e w14 ⟨v649, rfl, ho0, hb⟩; refine ⟨_, rfl, ?_⟩; have n0_ := Aside0.mk (Kd.R_lower ho0 (below_size (by repeat (first | (with_reducible first | exact HB.out | apply below_alloc | apply pw_below_drewN | apply below_drew1) | exact HB.out)))); have n1_ := Aside0.mk (below_step (by repeat (first | (with_reducible first | exact HB.out | apply below_alloc | apply pw_below_drewN | apply below_drew1) | exact HB.out)) hb); clear HB; have HO650 := n0_; have HB := n1_; clear n0_ n1_; (try clear hb); (try clear hb2); (try clear hk); (try clear hi); (try clear ho0)) | ((with_reducible refine gate_callee (f := 52) rfl ?_); refine goesL_ (some 27) rfl rfl Try.func52 (by kernel_rfl) rfl #[.slice A0 l0.length c0, .slice A2 l2.length c2] rfl (by (try simp only [List.map_toArray, List.map_cons, List.map_nil]); first | done | rfl | (simp only [List.length_drop, List.length_take]; rfl)) ?_; (with_reducible refine (mult_Sub.calls kj3 _ _ l0 _ _ l2 t651 t652 _ ?side1 ?side2 ?side3 ?side4 A11.out).mono ?_); (case side1 => repeat (first | exact (Kd.C_below HR0.out HB.out) | (with_reducible refine Kd.C_alloc ?_ _) | (with_reducible refine Kd.C_drewN ?_ _) | (with_reducible refine Kd.C_drew ?_))); (case side2 => exact HC0.out); (case side3 => repeat (first | exact (Kd.C_below HR2.out HB.out) | (with_reducible refine Kd.C_alloc ?_ _) | (with_reducible refine Kd.C_drewN ?_ _) | (with_reducible refine Kd.C_drew ?_))); (case side4 => exact HC2.out); rintro e w15 ⟨v653, rfl, ho0, hb⟩; refine ⟨_, rfl, ?_⟩; have n0_ := Aside0.mk (Kd.R_below (by (with_reducible repeat (first | apply Kd.R_alloc | apply Kd.R_drewN | apply Kd.R_drew)); exact HO650.out) hb); have n1_ := Aside0.mk (Kd.S_lower (Kd.S_new' ho0 (Kd.R_lt (by (with_reducible repeat (first | apply Kd.R_alloc | apply Kd.R_drewN | apply Kd.R_drew)); exact HO650.out))) (below_size (by repeat (first | (with_reducible first | exact HB.out | apply below_alloc | apply pw_below_drewN | apply below_drew1) | exact HB.out)))); have n2_ := Aside0.mk (below_step (by repeat (first | (with_reducible first | exact HB.out | apply below_alloc | apply pw_below_drewN | apply below_drew1) | exact HB.out)) hb); clear HO650; clear HB; have HO650 := n0_; have HO654 := n1_; have HB := n2_; clear n0_ n1_ n2_; (try clear hb); (try clear hb2); (try clear hk); (try clear hi); (try clear ho0)) | ((with_reducible refine gate_callee (f := 53) rfl ?_); refine goesL_ (some 33) rfl rfl Try.func53 (by kernel_rfl) rfl #[.slice A0 l0.length c0, .slice A2 l2.length c2] rfl (by (try simp only [List.map_toArray, List.map_cons, List.map_nil]); first | done | rfl | (simp only [List.length_drop, List.length_take]; rfl)) ?_; (with_reducible refine (semigroupref14_Sub.calls kj3 _ _ l0 _ _ l2 t655 t656 _ ?side1 ?side2 ?side3 ?side4 A12.out).mono ?_); (case side1 => repeat (first | exact (Kd.C_below HR0.out HB.out) | (with_reducible refine Kd.C_alloc ?_ _) | (with_reducible refine Kd.C_drewN ?_ _) | (with_reducible refine Kd.C_drew ?_))); (case side2 => exact HC0.out); (case side3 => repeat (first | exact (Kd.C_below HR2.out HB.out) | (with_reducible refine Kd.C_alloc ?_ _) | (with_reducible refine Kd.C_drewN ?_ _) | (with_reducible refine Kd.C_drew ?_))); (case side4 => exact HC2.out); rintro e w16 ⟨v657, rfl, ho0, hb⟩; refine ⟨_, rfl, ?_⟩; have n0_ := Aside0.mk (Kd.R_below (by (with_reducible repeat (first | apply Kd.R_alloc | apply Kd.R_drewN | apply Kd.R_drew)); exact HO650.out) hb); have n1_ := Aside0.mk (Kd.S_elder' (by (with_reducible repeat (first | apply Kd.S_alloc | apply Kd.S_drewN | apply Kd.S_drew)); exact HO654.out) (by first | exact Kd.N_base ho0 | exact Kd.S_base ho0 | exact Kd.R_base ho0) hb); have n2_ := Aside0.mk (Kd.S_lower (Kd.S_new' (Kd.S_new' ho0 (Kd.R_lt (by (with_reducible repeat (first | apply Kd.R_alloc | apply Kd.R_drewN | apply Kd.R_drew)); exact HO650.out))) (Kd.S_lt (by (with_reducible repeat (first | apply Kd.S_alloc | apply Kd.S_drewN | apply Kd.S_drew)); exact HO654.out))) (below_size (by repeat (first | (with_reducible first | exact HB.out | apply below_alloc | apply pw_below_drewN | apply below_drew1) | exact HB.out)))); have n3_ := Aside0.mk (below_step (by repeat (first | (with_reducible first | exact HB.out | apply below_alloc | apply pw_below_drewN | apply below_drew1) | exact HB.out)) hb); clear HO650; clear HO654; clear HB; have HO650 := n0_; have HO654 := n1_; have HO658 := n2_; have HB := n3_; clear n0_ n1_ n2_ n3_; (try clear hb); (try clear hb2); (try clear hk); (try clear hi); (try clear ho0)))
    (try simp only [Act.put, List.setIfInBounds_toArray, List.set_cons_zero, List.set_cons_succ])
    go_cut [44] (fun v44 wc => ∃ (kq : Nat) (x44_12 : Bool), v44 = .bool x44_12 ∧ Aside0 (semigrouplaw14_MultGenerates.j1 kq l0 l1 t648 x44_12 = some r) ∧ Aside0 (kq ≤ kj3) ∧ Aside0 (Kd.R (Kd.int .i64) 3 wc w.heap.size (fun _ => True) v649 t648) ∧ Aside0 (Below w.heap.size w wc))
    case first =>
     have H := HC13.out
     clear HC13
     by_cases c17 : t652 = t656
     ·rw [if_pos c17] at H
      have c17b0 : (t652 == t656) = true := beq_iff_eq.mpr c17
      have c17b1 : (t652 != t656) = false := bne_eq_false_iff_eq.mpr c17
      clear c17
      (first | rw [c17b0] | (simp only [i64_w, i32_w]; rw [c17b0]) | skip)
      replace H := Option.bind_eq_some_iff.mp H
      obtain ⟨t659, A180, H⟩ := H
      replace H : (semigrouplaw14_MultGenerates.j1 kj3 l0 l1 t648 (!t659)) = some r := H
      have A18 := Aside0.mk A180
      clear A180
      have H' := Aside0.mk H
      clear H
      obtain ⟨Ao19, co19, eo19⟩ := Kd.S_slice HO654.out
      subst eo19
      obtain ⟨Ao20, co20, eo20⟩ := Kd.S_slice HO658.out
      subst eo20
      go_wp2_with (first | (go_at_call 47; (with_reducible refine (semigroupref03_SameRows.calls kj3 _ _ t651 _ _ t655 t659 _ ?side1 ?side2 ?side3 ?side4 A18.out).mono ?_); (case side1 => repeat (first | exact (Kd.S_reads' HO654.out).2.2 | (with_reducible refine Kd.C_alloc ?_ _) | (with_reducible refine Kd.C_drewN ?_ _) | (with_reducible refine Kd.C_drew ?_))); (case side2 => exact (Kd.S_reads' HO654.out).2.1); (case side3 => repeat (first | exact (Kd.S_reads' HO658.out).2.2 | (with_reducible refine Kd.C_alloc ?_ _) | (with_reducible refine Kd.C_drewN ?_ _) | (with_reducible refine Kd.C_drew ?_))); (case side4 => exact (Kd.S_reads' HO658.out).2.1); rintro e w' ⟨rfl, ⟨nd, rfl⟩⟩))
      go_meet
      case rel => exact ⟨_, (!t659), (by first | rfl | (simp; done) | (simp [*]; done)), H', ⟨by have := HJ3.out; first | omega | exact Nat.le_refl _⟩, ⟨by (with_reducible repeat (first | apply Kd.R_alloc | apply Kd.R_drewN | apply Kd.R_drew)); exact HO650.out⟩, ⟨by repeat (first | (with_reducible first | exact HB.out | apply below_alloc | apply pw_below_drewN | apply below_drew1) | exact HB.out)⟩⟩
     ·rw [if_neg c17] at H
      have c17b0 : (t652 == t656) = false := beq_eq_false_iff_ne.mpr c17
      have c17b1 : (t652 != t656) = true := bne_iff_ne.mpr c17
      (first | rw [c17b0] | (simp only [i64_w, i32_w]; rw [c17b0]) | skip)
      have H' := Aside0.mk H
      clear H
      go_wp2
      go_meet
      case rel => exact ⟨_, (true), (by first | rfl | (simp; done) | (simp [*]; done)), H', ⟨by have := HJ3.out; first | omega | exact Nat.le_refl _⟩, ⟨by (with_reducible repeat (first | apply Kd.R_alloc | apply Kd.R_drewN | apply Kd.R_drew)); exact HO650.out⟩, ⟨by repeat (first | (with_reducible first | exact HB.out | apply below_alloc | apply pw_below_drewN | apply below_drew1) | exact HB.out)⟩⟩
    case rest =>
     clear HC13
     try clear c1
     try clear c2
     try clear p2
     try clear c5
     try clear c6
     try clear c6b0
     try clear c6b1
     try clear c7
     try clear c12
     try clear c16
     try clear c17
     try clear c17b0
     try clear c17b1
     try clear p2
     obtain ⟨kq, x44_12, rfl, HA, HJ12, HO_7, HB⟩ := hcut
     cases kq with
     | zero => exact absurd HA.out (by simp [semigrouplaw14_MultGenerates.j1])
     | succ kj12 =>
      have H := HA.out
      clear HA
      simp only [semigrouplaw14_MultGenerates.j1] at H
      by_cases c21 : x44_12 = true
      ·subst c21
       have H1 : (some false) = some r := by rw [if_pos rfl] at H; exact H
       clear H
       have H := H1
       clear H1
       obtain rfl := Option.some.inj H
       go_wp2
       go_ret
       exact ⟨by first | rfl | (simp [errW_none, errW_some] <;> rfl) | (simp [*, errW_none, errW_some] <;> rfl), by repeat (first | (with_reducible first | exact HB.out | apply below_alloc | apply pw_below_drewN | apply below_drew1) | exact HB.out)⟩
      ·replace c21 := Bool.eq_false_iff.mpr c21
       subst c21
       have H1 : ((semigroupref14_Valid.f kj12 l0).bind fun t660 => (if t660 = true then ((semigroupref14_In.f kj12 l0 l1).bind fun t661 => (semigrouplaw14_MultGenerates.j2 kj12 l0 l1 t648 (!t661))) else (semigrouplaw14_MultGenerates.j2 kj12 l0 l1 t648 true))) = some r := by rw [if_neg (show ¬ (false = true) by decide)] at H; exact H
       clear H
       have H := H1
       clear H1
       have HC22 := Aside0.mk H
       clear H
       go_upto_region 8 with (fail)
       go_cut [53] (fun v53 wc => ∃ (kq : Nat) (x53_21 : Bool), v53 = .bool x53_21 ∧ Aside0 (semigrouplaw14_MultGenerates.j2 kq l0 l1 t648 x53_21 = some r) ∧ Aside0 (kq ≤ kj12) ∧ Aside0 (Kd.R (Kd.int .i64) 3 wc w.heap.size (fun _ => True) v649 t648) ∧ Aside0 (Below w.heap.size w wc))
       case first =>
        have H := HC22.out
        clear HC22
        replace H := Option.bind_eq_some_iff.mp H
        obtain ⟨t660, A230, H⟩ := H
        replace H : (if t660 = true then ((semigroupref14_In.f kj12 l0 l1).bind fun t661 => (semigrouplaw14_MultGenerates.j2 kj12 l0 l1 t648 (!t661))) else (semigrouplaw14_MultGenerates.j2 kj12 l0 l1 t648 true)) = some r := H
        have A23 := Aside0.mk A230
        clear A230
        by_cases c24 : t660 = true
        ·subst c24
         have H1 : ((semigroupref14_In.f kj12 l0 l1).bind fun t661 => (semigrouplaw14_MultGenerates.j2 kj12 l0 l1 t648 (!t661))) = some r := by rw [if_pos rfl] at H; exact H
         clear H
         have H := H1
         clear H1
         replace H := Option.bind_eq_some_iff.mp H
         obtain ⟨t661, A250, H⟩ := H
         replace H : (semigrouplaw14_MultGenerates.j2 kj12 l0 l1 t648 (!t661)) = some r := H
         have A25 := Aside0.mk A250
         clear A250
         have H' := Aside0.mk H
         clear H
         go_wp2_with (first | ((with_reducible refine gate_callee (f := 24) rfl ?_); refine goesL_ (some 46) rfl rfl Try.func24 (by kernel_rfl) rfl #[.slice A0 l0.length c0] rfl (by (try simp only [List.map_toArray, List.map_cons, List.map_nil]); first | done | rfl | (simp only [List.length_drop, List.length_take]; rfl)) ?_; (with_reducible refine (semigroupref14_Valid.calls kj12 _ _ l0 true _ ?side1 ?side2 A23.out).mono ?_); (case side1 => repeat (first | exact (Kd.C_below HR0.out HB.out) | (with_reducible refine Kd.C_alloc ?_ _) | (with_reducible refine Kd.C_drewN ?_ _) | (with_reducible refine Kd.C_drew ?_))); (case side2 => exact HC0.out); rintro e w' ⟨rfl, ⟨nd, rfl⟩⟩; refine ⟨_, rfl, ?_⟩) | (go_at_call 32; (with_reducible refine (semigroupref14_In.calls kj12 _ _ l0 _ _ l1 t661 _ ?side1 ?side2 ?side3 ?side4 A25.out).mono ?_); (case side1 => repeat (first | exact (Kd.C_below HR0.out (by repeat (first | (with_reducible first | exact HB.out | apply below_alloc | apply pw_below_drewN | apply below_drew1) | exact HB.out))) | (with_reducible refine Kd.C_alloc ?_ _) | (with_reducible refine Kd.C_drewN ?_ _) | (with_reducible refine Kd.C_drew ?_))); (case side2 => exact HC0.out); (case side3 => repeat (first | exact (Kd.C_below HR1.out (by repeat (first | (with_reducible first | exact HB.out | apply below_alloc | apply pw_below_drewN | apply below_drew1) | exact HB.out))) | (with_reducible refine Kd.C_alloc ?_ _) | (with_reducible refine Kd.C_drewN ?_ _) | (with_reducible refine Kd.C_drew ?_))); (case side4 => exact HC1.out); rintro e w' ⟨rfl, ⟨nd, rfl⟩⟩))
         go_meet
         case rel => exact ⟨_, (!t661), (by first | rfl | (simp; done) | (simp [*]; done)), H', ⟨by have := HJ3.out; have := HJ12.out; first | omega | exact Nat.le_refl _⟩, ⟨by (with_reducible repeat (first | apply Kd.R_alloc | apply Kd.R_drewN | apply Kd.R_drew)); exact HO_7.out⟩, ⟨by repeat (first | (with_reducible first | exact HB.out | apply below_alloc | apply pw_below_drewN | apply below_drew1) | exact HB.out)⟩⟩
        ·replace c24 := Bool.eq_false_iff.mpr c24
         subst c24
         have H1 : (semigrouplaw14_MultGenerates.j2 kj12 l0 l1 t648 true) = some r := by rw [if_neg (show ¬ (false = true) by decide)] at H; exact H
         clear H
         have H := H1
         clear H1
         have H' := Aside0.mk H
         clear H
         go_wp2_with (first | ((with_reducible refine gate_callee (f := 24) rfl ?_); refine goesL_ (some 46) rfl rfl Try.func24 (by kernel_rfl) rfl #[.slice A0 l0.length c0] rfl (by (try simp only [List.map_toArray, List.map_cons, List.map_nil]); first | done | rfl | (simp only [List.length_drop, List.length_take]; rfl)) ?_; (with_reducible refine (semigroupref14_Valid.calls kj12 _ _ l0 false _ ?side1 ?side2 A23.out).mono ?_); (case side1 => repeat (first | exact (Kd.C_below HR0.out HB.out) | (with_reducible refine Kd.C_alloc ?_ _) | (with_reducible refine Kd.C_drewN ?_ _) | (with_reducible refine Kd.C_drew ?_))); (case side2 => exact HC0.out); rintro e w' ⟨rfl, ⟨nd, rfl⟩⟩; refine ⟨_, rfl, ?_⟩))
         go_meet
         case rel => exact ⟨_, (true), (by first | rfl | (simp; done) | (simp [*]; done)), H', ⟨by have := HJ3.out; have := HJ12.out; first | omega | exact Nat.le_refl _⟩, ⟨by (with_reducible repeat (first | apply Kd.R_alloc | apply Kd.R_drewN | apply Kd.R_drew)); exact HO_7.out⟩, ⟨by repeat (first | (with_reducible first | exact HB.out | apply below_alloc | apply pw_below_drewN | apply below_drew1) | exact HB.out)⟩⟩
       case rest =>
        clear HC22
        try clear c1
        try clear c2
        try clear p2
        try clear c5
        try clear c6
        try clear c6b0
        try clear c6b1
        try clear c7
        try clear c12
        try clear c16
        try clear c17
        try clear c17b0
        try clear c17b1
        try clear c21
        try clear c23
        try clear c24
        try clear p2
        obtain ⟨kq, x53_21, rfl, HA, HJ21, HO_7, HB⟩ := hcut
        cases kq with
        | zero => exact absurd HA.out (by simp [semigrouplaw14_MultGenerates.j2])
        | succ kj21 =>
         have H := HA.out
         clear HA
         simp only [semigrouplaw14_MultGenerates.j2] at H
         by_cases c26 : x53_21 = true
         ·subst c26
          have H1 : (if (t648.length : Int) = 0 then ((semigrouplaw14_awake.f kj21).bind fun t662 => (some t662)) else (some false)) = some r := by rw [if_pos rfl] at H; exact H
          clear H
          have H := H1
          clear H1
          by_cases c27 : (t648.length : Int) = 0
          ·rw [if_pos c27] at H
           have c27b0 : ((t648.length : Int) == 0) = true := beq_iff_eq.mpr c27
           have c27b1 : ((t648.length : Int) != 0) = false := bne_eq_false_iff_eq.mpr c27
           clear c27
           replace H := Option.bind_eq_some_iff.mp H
           obtain ⟨t662, A280, H⟩ := H
           replace H : (some t662) = some r := H
           have A28 := Aside0.mk A280
           clear A280
           obtain rfl := Option.some.inj H
           obtain ⟨Ao29, co29, eo29⟩ := Kd.R_slice HO_7.out
           subst eo29
           go_wp2_with (first | (go_at_call 16; (with_reducible refine (semigrouplaw14_awake.calls kj21  t662 _ A28.out).mono ?_); rintro e w30 ⟨rfl, hb⟩; have n0_ := Aside0.mk (Kd.R_below (by (with_reducible repeat (first | apply Kd.R_alloc | apply Kd.R_drewN | apply Kd.R_drew)); exact HO_7.out) hb); have n1_ := Aside0.mk (below_step (by repeat (first | (with_reducible first | exact HB.out | apply below_alloc | apply pw_below_drewN | apply below_drew1) | exact HB.out)) hb); clear HO_7; clear HB; have HO_7 := n0_; have HB := n1_; clear n0_ n1_; (try clear hb); (try clear hb2); (try clear hk); (try clear hi)))
           go_ret
           exact ⟨by first | rfl | (simp [errW_none, errW_some] <;> rfl) | (simp [*, errW_none, errW_some] <;> rfl), by repeat (first | (with_reducible first | exact HB.out | apply below_alloc | apply pw_below_drewN | apply below_drew1) | exact HB.out)⟩
          ·rw [if_neg c27] at H
           have c27b0 : ((t648.length : Int) == 0) = false := beq_eq_false_iff_ne.mpr c27
           have c27b1 : ((t648.length : Int) != 0) = true := bne_iff_ne.mpr c27
           have c27b2 : ¬ (t648 = []) := fun h_ => c27 (by rw [h_]; rfl)
           obtain rfl := Option.some.inj H
           obtain ⟨Ao31, co31, eo31⟩ := Kd.R_slice HO_7.out
           subst eo31
           go_wp2
           go_ret
           exact ⟨by first | rfl | (simp [errW_none, errW_some] <;> rfl) | (simp [*, errW_none, errW_some] <;> rfl), by repeat (first | (with_reducible first | exact HB.out | apply below_alloc | apply pw_below_drewN | apply below_drew1) | exact HB.out)⟩
         ·replace c26 := Bool.eq_false_iff.mpr c26
          subst c26
          have H1 : ((semigroupref14_Generated.f kj21 l0 l1).bind fun t663 => ((semigroupref03_Same.f kj21 t648 t663).bind fun t666 => (if t666 = true then ((semigrouplaw14_awake.f kj21).bind fun t667 => (some t667)) else (some false)))) = some r := by rw [if_neg (show ¬ (false = true) by decide)] at H; exact H
          clear H
          have H := H1
          clear H1
          replace H := Option.bind_eq_some_iff.mp H
          obtain ⟨t663, A320, H⟩ := H
          replace H : ((semigroupref03_Same.f kj21 t648 t663).bind fun t666 => (if t666 = true then ((semigrouplaw14_awake.f kj21).bind fun t667 => (some t667)) else (some false))) = some r := H
          have A32 := Aside0.mk A320
          clear A320
          replace H := Option.bind_eq_some_iff.mp H
          obtain ⟨t666, A330, H⟩ := H
          replace H : (if t666 = true then ((semigrouplaw14_awake.f kj21).bind fun t667 => (some t667)) else (some false)) = some r := H
          have A33 := Aside0.mk A330
          clear A330
          by_cases c34 : t666 = true
          ·subst c34
           have H1 : ((semigrouplaw14_awake.f kj21).bind fun t667 => (some t667)) = some r := by rw [if_pos rfl] at H; exact H
           clear H
           have H := H1
           clear H1
           replace H := Option.bind_eq_some_iff.mp H
           obtain ⟨t667, A350, H⟩ := H
           replace H : (some t667) = some r := H
           have A35 := Aside0.mk A350
           clear A350
           obtain rfl := Option.some.inj H
           go_wp2_with (first | ((with_reducible refine gate_callee (f := 41) rfl ?_); refine goesL_ (some 63) rfl rfl Try.func41 (by kernel_rfl) rfl #[.slice A0 l0.length c0, .slice A1 l1.length c1] rfl (by (try simp only [List.map_toArray, List.map_cons, List.map_nil]); first | done | rfl | (simp only [List.length_drop, List.length_take]; rfl)) ?_; (with_reducible refine (semigroupref14_Generated.calls kj21 _ _ l0 _ _ l1 t663 _ ?side1 ?side2 ?side3 ?side4 A32.out).mono ?_); (case side1 => repeat (first | exact (Kd.C_below HR0.out HB.out) | (with_reducible refine Kd.C_alloc ?_ _) | (with_reducible refine Kd.C_drewN ?_ _) | (with_reducible refine Kd.C_drew ?_))); (case side2 => exact HC0.out); (case side3 => repeat (first | exact (Kd.C_below HR1.out HB.out) | (with_reducible refine Kd.C_alloc ?_ _) | (with_reducible refine Kd.C_drewN ?_ _) | (with_reducible refine Kd.C_drew ?_))); (case side4 => exact HC1.out); rintro e w36 ⟨v664, rfl, ho0, hb⟩; refine ⟨_, rfl, ?_⟩; have n0_ := Aside0.mk (Kd.R_elder' (by (with_reducible repeat (first | apply Kd.R_alloc | apply Kd.R_drewN | apply Kd.R_drew)); exact HO_7.out) (by first | exact Kd.N_base ho0 | exact Kd.S_base ho0 | exact Kd.R_base ho0) hb); have n1_ := Aside0.mk (Kd.R_lower (Kd.R_new' ho0 (Kd.R_lt (by (with_reducible repeat (first | apply Kd.R_alloc | apply Kd.R_drewN | apply Kd.R_drew)); exact HO_7.out))) (below_size (by repeat (first | (with_reducible first | exact HB.out | apply below_alloc | apply pw_below_drewN | apply below_drew1) | exact HB.out)))); have n2_ := Aside0.mk (below_step (by repeat (first | (with_reducible first | exact HB.out | apply below_alloc | apply pw_below_drewN | apply below_drew1) | exact HB.out)) hb); clear HO_7; clear HB; have HO_7 := n0_; have HO665 := n1_; have HB := n2_; clear n0_ n1_ n2_; (try clear hb); (try clear hb2); (try clear hk); (try clear hi); (try clear ho0); obtain ⟨Ao37, co37, eo37⟩ := Kd.R_slice HO_7.out; subst eo37; obtain ⟨Ao38, co38, eo38⟩ := Kd.R_slice HO665.out; subst eo38) | ((with_reducible refine gate_callee (f := 27) rfl ?_); refine goesL_ (some 64) rfl rfl Try.func27 (by kernel_rfl) rfl #[.slice Ao37 t648.length co37, .slice Ao38 t663.length co38] rfl (by (try simp only [List.map_toArray, List.map_cons, List.map_nil]); first | done | rfl | (simp only [List.length_drop, List.length_take]; rfl)) ?_; (with_reducible refine (semigroupref03_Same.calls kj21 _ _ t648 _ _ t663 true _ ?side1 ?side2 ?side3 ?side4 A33.out).mono ?_); (case side1 => repeat (first | exact (Kd.R_reads' HO_7.out).2.2 | (with_reducible refine Kd.C_alloc ?_ _) | (with_reducible refine Kd.C_drewN ?_ _) | (with_reducible refine Kd.C_drew ?_))); (case side2 => exact (Kd.R_reads' HO_7.out).2.1); (case side3 => repeat (first | exact (Kd.R_reads' HO665.out).2.2 | (with_reducible refine Kd.C_alloc ?_ _) | (with_reducible refine Kd.C_drewN ?_ _) | (with_reducible refine Kd.C_drew ?_))); (case side4 => exact (Kd.R_reads' HO665.out).2.1); rintro e w' ⟨rfl, ⟨nd, rfl⟩⟩; refine ⟨_, rfl, ?_⟩) | (go_at_call 16; (with_reducible refine (semigrouplaw14_awake.calls kj21  t667 _ A35.out).mono ?_); rintro e w39 ⟨rfl, hb⟩; have n0_ := Aside0.mk (Kd.R_below (by (with_reducible repeat (first | apply Kd.R_alloc | apply Kd.R_drewN | apply Kd.R_drew)); exact HO_7.out) hb); have n1_ := Aside0.mk (Kd.R_below (by (with_reducible repeat (first | apply Kd.R_alloc | apply Kd.R_drewN | apply Kd.R_drew)); exact HO665.out) hb); have n2_ := Aside0.mk (below_step (by repeat (first | (with_reducible first | exact HB.out | apply below_alloc | apply pw_below_drewN | apply below_drew1) | exact HB.out)) hb); clear HO_7; clear HO665; clear HB; have HO_7 := n0_; have HO665 := n1_; have HB := n2_; clear n0_ n1_ n2_; (try clear hb); (try clear hb2); (try clear hk); (try clear hi)))
           go_ret
           exact ⟨by first | rfl | (simp [errW_none, errW_some] <;> rfl) | (simp [*, errW_none, errW_some] <;> rfl), by repeat (first | (with_reducible first | exact HB.out | apply below_alloc | apply pw_below_drewN | apply below_drew1) | exact HB.out)⟩
          ·replace c34 := Bool.eq_false_iff.mpr c34
           subst c34
           have H1 : (some false) = some r := by rw [if_neg (show ¬ (false = true) by decide)] at H; exact H
           clear H
           have H := H1
           clear H1
           obtain rfl := Option.some.inj H
           go_wp2_with (first | ((with_reducible refine gate_callee (f := 41) rfl ?_); refine goesL_ (some 63) rfl rfl Try.func41 (by kernel_rfl) rfl #[.slice A0 l0.length c0, .slice A1 l1.length c1] rfl (by (try simp only [List.map_toArray, List.map_cons, List.map_nil]); first | done | rfl | (simp only [List.length_drop, List.length_take]; rfl)) ?_; (with_reducible refine (semigroupref14_Generated.calls kj21 _ _ l0 _ _ l1 t663 _ ?side1 ?side2 ?side3 ?side4 A32.out).mono ?_); (case side1 => repeat (first | exact (Kd.C_below HR0.out HB.out) | (with_reducible refine Kd.C_alloc ?_ _) | (with_reducible refine Kd.C_drewN ?_ _) | (with_reducible refine Kd.C_drew ?_))); (case side2 => exact HC0.out); (case side3 => repeat (first | exact (Kd.C_below HR1.out HB.out) | (with_reducible refine Kd.C_alloc ?_ _) | (with_reducible refine Kd.C_drewN ?_ _) | (with_reducible refine Kd.C_drew ?_))); (case side4 => exact HC1.out); rintro e w40 ⟨v664, rfl, ho0, hb⟩; refine ⟨_, rfl, ?_⟩; have n0_ := Aside0.mk (Kd.R_elder' (by (with_reducible repeat (first | apply Kd.R_alloc | apply Kd.R_drewN | apply Kd.R_drew)); exact HO_7.out) (by first | exact Kd.N_base ho0 | exact Kd.S_base ho0 | exact Kd.R_base ho0) hb); have n1_ := Aside0.mk (Kd.R_lower (Kd.R_new' ho0 (Kd.R_lt (by (with_reducible repeat (first | apply Kd.R_alloc | apply Kd.R_drewN | apply Kd.R_drew)); exact HO_7.out))) (below_size (by repeat (first | (with_reducible first | exact HB.out | apply below_alloc | apply pw_below_drewN | apply below_drew1) | exact HB.out)))); have n2_ := Aside0.mk (below_step (by repeat (first | (with_reducible first | exact HB.out | apply below_alloc | apply pw_below_drewN | apply below_drew1) | exact HB.out)) hb); clear HO_7; clear HB; have HO_7 := n0_; have HO665 := n1_; have HB := n2_; clear n0_ n1_ n2_; (try clear hb); (try clear hb2); (try clear hk); (try clear hi); (try clear ho0); obtain ⟨Ao41, co41, eo41⟩ := Kd.R_slice HO_7.out; subst eo41; obtain ⟨Ao42, co42, eo42⟩ := Kd.R_slice HO665.out; subst eo42) | ((with_reducible refine gate_callee (f := 27) rfl ?_); refine goesL_ (some 64) rfl rfl Try.func27 (by kernel_rfl) rfl #[.slice Ao41 t648.length co41, .slice Ao42 t663.length co42] rfl (by (try simp only [List.map_toArray, List.map_cons, List.map_nil]); first | done | rfl | (simp only [List.length_drop, List.length_take]; rfl)) ?_; (with_reducible refine (semigroupref03_Same.calls kj21 _ _ t648 _ _ t663 false _ ?side1 ?side2 ?side3 ?side4 A33.out).mono ?_); (case side1 => repeat (first | exact (Kd.R_reads' HO_7.out).2.2 | (with_reducible refine Kd.C_alloc ?_ _) | (with_reducible refine Kd.C_drewN ?_ _) | (with_reducible refine Kd.C_drew ?_))); (case side2 => exact (Kd.R_reads' HO_7.out).2.1); (case side3 => repeat (first | exact (Kd.R_reads' HO665.out).2.2 | (with_reducible refine Kd.C_alloc ?_ _) | (with_reducible refine Kd.C_drewN ?_ _) | (with_reducible refine Kd.C_drew ?_))); (case side4 => exact (Kd.R_reads' HO665.out).2.1); rintro e w' ⟨rfl, ⟨nd, rfl⟩⟩; refine ⟨_, rfl, ?_⟩))
           go_ret
           exact ⟨by first | rfl | (simp [errW_none, errW_some] <;> rfl) | (simp [*, errW_none, errW_some] <;> rfl), by repeat (first | (with_reducible first | exact HB.out | apply below_alloc | apply pw_below_drewN | apply below_drew1) | exact HB.out)⟩


end Go.Proofs.Ytlhckcldeojfmaa.PAll
