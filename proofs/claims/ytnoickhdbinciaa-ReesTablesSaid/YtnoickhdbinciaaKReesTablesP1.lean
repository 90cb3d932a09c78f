-- printed for this claim out of the translation; Lean checks it
import Derived.Test.YtnoickhdbinciaaKReesTablesPAllx0
namespace Go.Proofs.Ytnoickhdbinciaa.PAll
open Go.RowKit Go.Proofs.YtnoickhdbinciaaW.PrintWords Go.Proofs.YtnoickhdbinciaaW.PrintLast Go.Proofs.YtnoickhdbinciaaW.PrintMore
attribute [local go_sem] max2_int min2_int max_two min_two max_three min_three max_four min_four   -- for this text's walks alone
set_option linter.unusedVariables false
set_option linter.unusedSimpArgs false
set_option hygiene false
macro "q_hb" : term => `((by repeat (first | (with_reducible first | exact HB.out | apply below_alloc | apply pw_below_drewN | apply below_drew1) | exact HB.out)))
macro "q_bs" : term => `((below_size q_hb))
macro "q_bk" : tactic => `(tactic| (with_reducible repeat (first | refine blk_drewN ?_ _ | refine blk_drew ?_ | refine blk_alloc ?_ _)))
macro "q_as" : term => `((by first | (with_reducible assumption) | assumption))
macro "q_ml" : term => `((by (try simp only [List.map_toArray, List.map_cons, List.map_nil]); first | done | rfl | (simp only [List.length_drop, List.length_take]; rfl)))
macro "q_nn" : tactic => `(tactic| (with_reducible repeat (first | apply Kd.N_alloc | apply Kd.N_drewN | apply Kd.N_drew)))
macro "q_nr" : tactic => `(tactic| (with_reducible repeat (first | apply Kd.R_alloc | apply Kd.R_drewN | apply Kd.R_drew)))
macro "q_ns" : tactic => `(tactic| (with_reducible repeat (first | apply Kd.S_alloc | apply Kd.S_drewN | apply Kd.S_drew)))
macro "q_hr" : tactic => `(tactic| (case hr => first | (go_simp; done) | (go_simp; rfl)))
macro "q_rs" : term => `((by first | rfl | (simp; done) | (simp [*]; done)))
macro "q_ho" : term => `((any_of HT_.out (by kernel_rfl)))
macro "q_to" : term => `((take_ofW HT_.out HW_.out (by kernel_rfl)))
macro "q_en" : tactic => `(tactic| (simp [*, errW_none, errW_some] <;> rfl))
macro "q_em" : tactic => `(tactic| (simp [errW_none, errW_some] <;> rfl))
macro "q_hs" x:ident : term => `((by repeat (first | (with_reducible first | exact HB.out | apply below_alloc | apply pw_below_drewN | apply below_drew1 | refine below_set ?_ $x) | exact HB.out)))
macro "q_cc" x:term:max : tactic => `(tactic| repeat (first | exact $x | (with_reducible refine Kd.C_alloc ?_ _) | (with_reducible refine Kd.C_drewN ?_ _) | (with_reducible refine Kd.C_drew ?_)))
macro "q_si" : tactic => `(tactic| simp only [Act.put, List.setIfInBounds_toArray, List.set_cons_zero, List.set_cons_succ, i64_w, i32_w])
syntax "q_x" (ppSpace colGt ident)* : tactic
macro_rules
  | `(tactic| q_x) => `(tactic| skip)
  | `(tactic| q_x $a $b*) => `(tactic| ((try clear $a); q_x $b*))
macro "q_t" a:ident b:ident : tactic => `(tactic| (replace $a := eq_true $a; replace $b := eq_true $b))
macro "q_id" : term => `((fun _ _ _ h => h))
set_option hygiene true
/-! ### semigroupref14_Shape: function 43 -/
mutual
def semigroupref14_Shape.l0 : Nat → List (List Int) → List (List Int) → Int → Int → Option (Int)
 | 0, _, _, _, _ => none
 | k + 1, x0, x13, x14, x15 => if x15 < x14 then (if 0 ≤ x15 then (if x15 < (x13.length : Int) then (if ((rd_L1 x13 x15).length : Int) = (x0.length : Int) then (semigroupref14_Shape.l1 k x0 x13 x14 x15 (rd_L1 x13 x15) ((rd_L1 x13 x15).length : Int) 0) else (some 4)) else (none)) else (none)) else (some 0)
def semigroupref14_Shape.l1 : Nat → List (List Int) → List (List Int) → Int → Int → List Int → Int → Int → Option (Int)
 | 0, _, _, _, _, _, _, _ => none
 | k + 1, x0, x13, x14, x15, x24, x25, x26 => if x26 < x25 then (if 0 ≤ x26 then (if x26 < (x24.length : Int) then (if (rd x24 x26) < 0 then (some 4) else (if (rd x24 x26) ≥ (x0.length : Int) then (some 4) else (semigroupref14_Shape.l1 k x0 x13 x14 x15 x24 x25 (wrap64 (x26 + 1))))) else (none)) else (none)) else (semigroupref14_Shape.l0 k x0 x13 x14 (wrap64 (x15 + 1)))
end
def semigroupref14_Shape.f (k : Nat) (l0 : List (List Int)) : Option (Int) := if (l0.length : Int) > 400 then (some 3) else (if (l0.length : Int) = 0 then (some 4) else (semigroupref14_Shape.l0 k l0 l0 (l0.length : Int) 0))
theorem semigroupref14_Shape.mono_l : ∀ k, (∀ y0 y1 y2 y3, LeO (semigroupref14_Shape.l0 k y0 y1 y2 y3) (semigroupref14_Shape.l0 (k + 1) y0 y1 y2 y3)) ∧ (∀ y0 y1 y2 y3 y4 y5 y6, LeO (semigroupref14_Shape.l1 k y0 y1 y2 y3 y4 y5 y6) (semigroupref14_Shape.l1 (k + 1) y0 y1 y2 y3 y4 y5 y6))
 | 0 => ⟨fun _ _ _ _ r h => by simp [semigroupref14_Shape.l0] at h, fun _ _ _ _ _ _ _ r h => by simp [semigroupref14_Shape.l1] at h⟩
 | k + 1 => by
  obtain ⟨ih0, ih1⟩ := semigroupref14_Shape.mono_l k
  refine ⟨?_, ?_⟩
  ·intro y0 y1 y2 y3
   unfold semigroupref14_Shape.l0
   repeat' first
   | (with_reducible exact ih0 _ _ _ _)
   | (with_reducible exact ih1 _ _ _ _ _ _ _)
   | (with_reducible exact LeO.refl _)
   | (with_reducible exact LeO.none _)
   | (with_reducible refine LeO.ite ?_ ?_)
   | (with_reducible refine LeO.bind ?_ (fun _ => ?_))
   | exact ih0 _ _ _ _
   | exact ih1 _ _ _ _ _ _ _
   | exact LeO.none _
   | refine LeO.ite ?_ ?_
   | refine LeO.bind ?_ (fun _ => ?_)
  ·intro y0 y1 y2 y3 y4 y5 y6
   unfold semigroupref14_Shape.l1
   repeat' first
   | (with_reducible exact ih0 _ _ _ _)
   | (with_reducible exact ih1 _ _ _ _ _ _ _)
   | (with_reducible exact LeO.refl _)
   | (with_reducible exact LeO.none _)
   | (with_reducible refine LeO.ite ?_ ?_)
   | (with_reducible refine LeO.bind ?_ (fun _ => ?_))
   | exact ih0 _ _ _ _
   | exact ih1 _ _ _ _ _ _ _
   | exact LeO.none _
   | refine LeO.ite ?_ ?_
   | refine LeO.bind ?_ (fun _ => ?_)
theorem semigroupref14_Shape.mono : ∀ a0 k, LeO (semigroupref14_Shape.f k a0) (semigroupref14_Shape.f (k + 1) a0) := by
 intro a0 k
 obtain ⟨ih0, ih1⟩ := semigroupref14_Shape.mono_l k
 unfold semigroupref14_Shape.f
 repeat' first
   | (with_reducible exact ih0 _ _ _ _)
   | (with_reducible exact ih1 _ _ _ _ _ _ _)
   | (with_reducible exact LeO.refl _)
   | (with_reducible exact LeO.none _)
   | (with_reducible refine LeO.ite ?_ ?_)
   | (with_reducible refine LeO.bind ?_ (fun _ => ?_))
   | exact ih0 _ _ _ _
   | exact ih1 _ _ _ _ _ _ _
   | exact LeO.none _
   | refine LeO.ite ?_ ?_
   | refine LeO.bind ?_ (fun _ => ?_)
set_option maxHeartbeats 8000000 in
set_option maxRecDepth 100000 in
theorem semigroupref14_Shape.calls (k : Nat) (A0 : Option Addr) (c0 : Nat) (l0 : List (List Int)) (r : Int) (w : World) (hr0 : Kd.C (Kd.slice 3 (Kd.int .i64)) w A0 l0.length l0) (hc0 : l0.length ≤ c0) (h : semigroupref14_Shape.f k l0 = some r) :
  Calls Try.prog 43 #[.slice A0 l0.length c0] w fun e w' => e = .returned (.int .i64 r) ∧ Drawn0 w w' := by
 have HR0 := Aside0.mk hr0
 have HC0 := Aside0.mk hc0
 (try clear hr0); (try clear hc0)
 have H : (if (l0.length : Int) > 400 then (some 3) else (if (l0.length : Int) = 0 then (some 4) else (semigroupref14_Shape.l0 k l0 l0 (l0.length : Int) 0))) = some r := h
 clear h
 by_cases c2 : (l0.length : Int) > 400
 ·rw [if_pos c2] at H
  have c2b0 : decide (400 < (l0.length : Int)) = true := decide_eq_true c2
  have c2b1 : decide (400 < l0.length) = true := decide_eq_true (by omega)
  clear c2
  obtain rfl := Option.some.inj H
  go_enter Try.func43, Try.ntmps43
  go_wp2
  go_ret
  exact ⟨by first | rfl | (simp; done) | (simp [*]; done), by repeat (first | exact Drawn0.refl _ | apply Drawn0.step)⟩
 ·rw [if_neg c2] at H
  have c2b0 : decide (400 < (l0.length : Int)) = false := decide_eq_false c2
  have c2b1 : decide (400 < l0.length) = false := decide_eq_false (by omega)
  clear c2
  by_cases c3 : (l0.length : Int) = 0
  ·rw [if_pos c3] at H
   have c3b0 : ((l0.length : Int) == 0) = true := beq_iff_eq.mpr c3
   have c3b1 : ((l0.length : Int) != 0) = false := bne_eq_false_iff_eq.mpr c3
   clear c3
   obtain rfl := Option.some.inj H
   go_enter Try.func43, Try.ntmps43
   go_wp2
   go_ret
   exact ⟨by first | rfl | (simp; done) | (simp [*]; done), by repeat (first | exact Drawn0.refl _ | apply Drawn0.step)⟩
  ·rw [if_neg c3] at H
   have c3b0 : ((l0.length : Int) == 0) = false := beq_eq_false_iff_ne.mpr c3
   have c3b1 : ((l0.length : Int) != 0) = true := bne_iff_ne.mpr c3
   have c3b2 : ¬ (l0 = []) := fun h_ => c3 (by rw [h_]; rfl)
   have H' := Aside0.mk H
   clear H
   go_enter Try.func43, Try.ntmps43
   go_wp2
   go_loopg [15] k (fun kq v15 w' => ∃ (x15_1 : Int), v15 = .int .i64 x15_1 ∧ Aside0 (semigroupref14_Shape.l0 kq l0 l0 (l0.length : Int) x15_1 = some r) ∧ Aside0 (kq ≤ k) ∧ Drawn0 w w')
   case atStart => exact ⟨(0), q_rs, H', ⟨Nat.le_refl _⟩, by repeat (first | exact Drawn0.refl _ | apply Drawn0.step)⟩
   case round =>
    clear H'
    q_x c2 c2b0 c2b1 p2 c3 c3b0 c3b1 c3b2
    obtain ⟨x15_1, rfl, HA, HK1, ⟨m1, rfl⟩⟩ := hrel
    cases gk with
    | zero => exact absurd HA.out (by simp [semigroupref14_Shape.l0])
    | succ k1 =>
     have H := HA.out
     clear HA
     simp only [semigroupref14_Shape.l0] at H
     by_cases c4 : x15_1 < (l0.length : Int)
     ·rw [if_pos c4] at H
      have c4b0 : decide (x15_1 < (l0.length : Int)) = true := decide_eq_true c4
      clear c4
      by_cases c5 : 0 ≤ x15_1
      ·rw [if_pos c5] at H
       have c5b0 : decide (0 ≤ x15_1) = true := decide_eq_true c5
       clear c5
       by_cases c6 : x15_1 < (l0.length : Int)
       ·rw [if_pos c6] at H
        have c6b0 : decide (x15_1 < (l0.length : Int)) = true := decide_eq_true c6
        clear c6
        by_cases c7 : ((rd_L1 l0 x15_1).length : Int) = (l0.length : Int)
        ·rw [if_pos c7] at H
         have c7b0 : (((rd_L1 l0 x15_1).length : Int) == (l0.length : Int)) = true := beq_iff_eq.mpr c7
         have c7b1 : (((rd_L1 l0 x15_1).length : Int) != (l0.length : Int)) = false := bne_eq_false_iff_eq.mpr c7
         have c7b2 : ((rd_L1 l0 x15_1).length == l0.length) = true := by first | simpa using c7 | (simp at c7 ⊢; omega)
         clear c7
         have H' := Aside0.mk H
         clear H
         have p101 : 0 ≤ (x15_1 : Int) := of_decide_eq_true q_as
         have q101 : x15_1 < (l0.length : Int) := of_decide_eq_true q_as
         obtain ⟨ad101, A101_0, c101_0, e101, hx101_0, hl101_0, hi101_0⟩ := at_L1 HR0.out x15_1 p101 q101
         cases e101
         have HR101_0 := Aside0.mk hi101_0
         have HC101_0 := Aside0.mk hl101_0
         (try clear hi101_0); (try clear hl101_0)
         q_t p101 q101
         go_wp2
         go_loopg [26] k1 (fun kq v26 w' => ∃ (x26_2 : Int), v26 = .int .i64 x26_2 ∧ Aside0 (semigroupref14_Shape.l1 kq l0 l0 (l0.length : Int) x15_1 (rd_L1 l0 x15_1) ((rd_L1 l0 x15_1).length : Int) x26_2 = some r) ∧ Aside0 (kq ≤ k1) ∧ Drawn0 w w')
         case atStart => exact ⟨(0), q_rs, H', ⟨Nat.le_refl _⟩, by repeat (first | exact Drawn0.refl _ | apply Drawn0.step)⟩
         case round =>
          clear H'
          q_x c1 p1 q1 hx1 c2 c2b0 c2b1 p2 c3 c3b0 c3b1 c3b2 c4 c4b0 c5 c5b0 c6 c6b0 c7 c7b0 c7b1 c7b2 hx101_0 p101 p2 q101
          obtain ⟨x26_2, rfl, HA, HK2, ⟨m2, rfl⟩⟩ := hrel
          cases gk with
          | zero => exact absurd HA.out (by simp [semigroupref14_Shape.l1])
          | succ k2 =>
           have H := HA.out
           clear HA
           simp only [semigroupref14_Shape.l1] at H
           by_cases c8 : x26_2 < ((rd_L1 l0 x15_1).length : Int)
           ·rw [if_pos c8] at H
            have c8b0 : decide (x26_2 < ((rd_L1 l0 x15_1).length : Int)) = true := decide_eq_true c8
            clear c8
            by_cases c9 : 0 ≤ x26_2
            ·rw [if_pos c9] at H
             have c9b0 : decide (0 ≤ x26_2) = true := decide_eq_true c9
             clear c9
             by_cases c10 : x26_2 < ((rd_L1 l0 x15_1).length : Int)
             ·rw [if_pos c10] at H
              have c10b0 : decide (x26_2 < ((rd_L1 l0 x15_1).length : Int)) = true := decide_eq_true c10
              clear c10
              by_cases c11 : (rd (rd_L1 l0 x15_1) x26_2) < 0
              ·rw [if_pos c11] at H
               have c11b0 : decide ((rd (rd_L1 l0 x15_1) x26_2) < 0) = true := decide_eq_true c11
               clear c11
               obtain rfl := Option.some.inj H
               have p102 : 0 ≤ (x26_2 : Int) := of_decide_eq_true q_as
               have q102 : x26_2 < ((rd_L1 l0 x15_1).length : Int) := of_decide_eq_true q_as
               obtain ⟨ad102, e102, hx102_0⟩ := Kd.at_int HR101_0.out x26_2 p102 q102
               cases e102
               q_t p102 q102
               go_wp2
               go_ret
               exact ⟨by first | rfl | (simp; done) | (simp [*]; done), by repeat (first | exact Drawn0.refl _ | apply Drawn0.step)⟩
              ·rw [if_neg c11] at H
               have c11b0 : decide ((rd (rd_L1 l0 x15_1) x26_2) < 0) = false := decide_eq_false c11
               clear c11
               by_cases c12 : (rd (rd_L1 l0 x15_1) x26_2) ≥ (l0.length : Int)
               ·rw [if_pos c12] at H
                have c12b0 : decide ((l0.length : Int) ≤ (rd (rd_L1 l0 x15_1) x26_2)) = true := decide_eq_true c12
                clear c12
                obtain rfl := Option.some.inj H
                have p102 : 0 ≤ (x26_2 : Int) := of_decide_eq_true q_as
                have q102 : x26_2 < ((rd_L1 l0 x15_1).length : Int) := of_decide_eq_true q_as
                obtain ⟨ad102, e102, hx102_0⟩ := Kd.at_int HR101_0.out x26_2 p102 q102
                cases e102
                q_t p102 q102
                go_wp2
                go_ret
                exact ⟨by first | rfl | (simp; done) | (simp [*]; done), by repeat (first | exact Drawn0.refl _ | apply Drawn0.step)⟩
               ·rw [if_neg c12] at H
                have c12b0 : decide ((l0.length : Int) ≤ (rd (rd_L1 l0 x15_1) x26_2)) = false := decide_eq_false c12
                clear c12
                have H' := Aside0.mk H
                clear H
                have p102 : 0 ≤ (x26_2 : Int) := of_decide_eq_true q_as
                have q102 : x26_2 < ((rd_L1 l0 x15_1).length : Int) := of_decide_eq_true q_as
                obtain ⟨ad102, e102, hx102_0⟩ := Kd.at_int HR101_0.out x26_2 p102 q102
                cases e102
                q_t p102 q102
                go_wp2
                go_roundg k2
                case measure => have := HK1.out; have := HK2.out; omega
                case rel => exact ⟨(wrap64 (x26_2 + 1)), q_rs, H', ⟨by have := HK1.out; have := HK2.out; omega⟩, by repeat (first | exact Drawn0.refl _ | apply Drawn0.step)⟩
             ·rw [if_neg c10] at H
              exact absurd H (by simp)
            ·rw [if_neg c9] at H
             exact absurd H (by simp)
           ·rw [if_neg c8] at H
            have c8b0 : decide (x26_2 < ((rd_L1 l0 x15_1).length : Int)) = false := decide_eq_false c8
            clear c8
            have H' := Aside0.mk H
            clear H
            go_wp2
            go_roundg k2
            case measure => have := HK1.out; have := HK2.out; omega
            case rel => exact ⟨(wrap64 (x15_1 + 1)), q_rs, H', ⟨by have := HK1.out; have := HK2.out; omega⟩, by repeat (first | exact Drawn0.refl _ | apply Drawn0.step)⟩
        ·rw [if_neg c7] at H
         have c7b0 : (((rd_L1 l0 x15_1).length : Int) == (l0.length : Int)) = false := beq_eq_false_iff_ne.mpr c7
         have c7b1 : (((rd_L1 l0 x15_1).length : Int) != (l0.length : Int)) = true := bne_iff_ne.mpr c7
         have c7b2 : ((rd_L1 l0 x15_1).length == l0.length) = false := by first | simpa using c7 | (simp at c7 ⊢; omega)
         obtain rfl := Option.some.inj H
         have p101 : 0 ≤ (x15_1 : Int) := of_decide_eq_true q_as
         have q101 : x15_1 < (l0.length : Int) := of_decide_eq_true q_as
         obtain ⟨ad101, A101_0, c101_0, e101, hx101_0, hl101_0, hi101_0⟩ := at_L1 HR0.out x15_1 p101 q101
         cases e101
         have HR101_0 := Aside0.mk hi101_0
         have HC101_0 := Aside0.mk hl101_0
         (try clear hi101_0); (try clear hl101_0)
         q_t p101 q101
         go_wp2
         go_ret
         exact ⟨by first | rfl | (simp; done) | (simp [*]; done), by repeat (first | exact Drawn0.refl _ | apply Drawn0.step)⟩
       ·rw [if_neg c6] at H
        exact absurd H (by simp)
      ·rw [if_neg c5] at H
       exact absurd H (by simp)
     ·rw [if_neg c4] at H
      have c4b0 : decide (x15_1 < (l0.length : Int)) = false := decide_eq_false c4
      clear c4
      obtain rfl := Option.some.inj H
      go_wp2
      go_ret
      exact ⟨by first | rfl | (simp; done) | (simp [*]; done), by repeat (first | exact Drawn0.refl _ | apply Drawn0.step)⟩

/-! ### semigrouplaw17_large: function 13 -/
def semigrouplaw17_large.f (k : Nat) (l0 : List (List Int)) (a1 : Int) : Option (Bool) := if (l0.length : Int) > a1 then ((semigroupref14_Shape.f k l0).bind fun t103 => (some (t103 == 0))) else (some false)
theorem semigrouplaw17_large.mono : ∀ a0 a1 k, LeO (semigrouplaw17_large.f k a0 a1) (semigrouplaw17_large.f (k + 1) a0 a1) := by
 intro a0 a1 k
 unfold semigrouplaw17_large.f
 repeat' first
   | (with_reducible exact semigroupref14_Shape.mono _ _)
   | (with_reducible exact LeO.refl _)
   | (with_reducible exact LeO.none _)
   | (with_reducible refine LeO.ite ?_ ?_)
   | (with_reducible refine LeO.bind ?_ (fun _ => ?_))
   | exact semigroupref14_Shape.mono _ _
   | exact LeO.none _
   | refine LeO.ite ?_ ?_
   | refine LeO.bind ?_ (fun _ => ?_)
set_option maxHeartbeats 8000000 in
set_option maxRecDepth 100000 in
theorem semigrouplaw17_large.calls (k : Nat) (A0 : Option Addr) (c0 : Nat) (l0 : List (List Int)) (a1 : Int) (r : Bool) (w : World) (hr0 : Kd.C (Kd.slice 3 (Kd.int .i64)) w A0 l0.length l0) (hc0 : l0.length ≤ c0) (h : semigrouplaw17_large.f k l0 a1 = some r) :
  Calls Try.prog 13 #[.slice A0 l0.length c0, .int .i64 a1] w fun e w' => e = .returned (.bool r) ∧ Drawn0 w w' := by
 have HR0 := Aside0.mk hr0
 have HC0 := Aside0.mk hc0
 (try clear hr0); (try clear hc0)
 have H : (if (l0.length : Int) > a1 then ((semigroupref14_Shape.f k l0).bind fun t103 => (some (t103 == 0))) else (some false)) = some r := h
 clear h
 by_cases c3 : (l0.length : Int) > a1
 ·rw [if_pos c3] at H
  have c3b0 : decide (a1 < (l0.length : Int)) = true := decide_eq_true c3
  clear c3
  replace H := Option.bind_eq_some_iff.mp H
  obtain ⟨t103, A40, H⟩ := H
  replace H : (some (t103 == 0)) = some r := H
  have A4 := Aside0.mk A40
  clear A40
  obtain rfl := Option.some.inj H
  go_enter Try.func13, Try.ntmps13
  go_wp2_with (first | (go_at_call 43; (with_reducible refine (semigroupref14_Shape.calls k _ _ l0 t103 _ ?side1 ?side2 A4.out).mono ?_); (case side1 => q_cc HR0.out); (case side2 => exact HC0.out); rintro e w' ⟨rfl, ⟨nd, rfl⟩⟩))
  go_ret
  exact ⟨by first | rfl | (simp; done) | (simp [*]; done), by repeat (first | exact Drawn0.refl _ | apply Drawn0.step)⟩
 ·rw [if_neg c3] at H
  have c3b0 : decide (a1 < (l0.length : Int)) = false := decide_eq_false c3
  clear c3
  obtain rfl := Option.some.inj H
  go_enter Try.func13, Try.ntmps13
  go_wp2
  go_ret
  exact ⟨by first | rfl | (simp; done) | (simp [*]; done), by repeat (first | exact Drawn0.refl _ | apply Drawn0.step)⟩

/-! ### rees_zero: function 59 -/
def rees_zero.f (l0_0 : List (List Int)) (a0_1 : Int) (a0_2 : Int) (l0_3 : List (List Int)) (a0_4 : Bool) : Option (Int) := if a0_4 = true then (some 1) else (some 0)
set_option maxHeartbeats 8000000 in
set_option maxRecDepth 100000 in
theorem rees_zero.calls (A0_0 : Option Addr) (c0_0 : Nat) (l0_0 : List (List Int)) (a0_1 : Int) (a0_2 : Int) (A0_3 : Option Addr) (c0_3 : Nat) (l0_3 : List (List Int)) (a0_4 : Bool) (r : Int) (w : World) (hr0_0 : Kd.C (Kd.slice 3 (Kd.int .i64)) w A0_0 l0_0.length l0_0) (hc0_0 : l0_0.length ≤ c0_0) (hr0_3 : Kd.C (Kd.slice 3 (Kd.int .i64)) w A0_3 l0_3.length l0_3) (hc0_3 : l0_3.length ≤ c0_3) (h : rees_zero.f l0_0 a0_1 a0_2 l0_3 a0_4 = some r) :
  Calls Try.prog 59 #[.agg #[.slice A0_0 l0_0.length c0_0, .int .i64 a0_1, .int .i64 a0_2, .slice A0_3 l0_3.length c0_3, .bool a0_4]] w fun e w' => e = .returned (.int .i64 r) ∧ Below w.heap.size w w' := by
 have hu24 := Try.underlying24
 have HR0_0 := Aside0.mk hr0_0
 have HC0_0 := Aside0.mk hc0_0
 (try clear hr0_0); (try clear hc0_0)
 have HR0_3 := Aside0.mk hr0_3
 have HC0_3 := Aside0.mk hc0_3
 (try clear hr0_3); (try clear hc0_3)
 have HB := Aside0.mk (Below.refl w.heap.size w)
 have H : (if a0_4 = true then (some 1) else (some 0)) = some r := h
 clear h
 by_cases c2 : a0_4 = true
 ·subst c2
  have H1 : (some 1) = some r := by rw [if_pos rfl] at H; exact H
  clear H
  have H := H1
  clear H1
  obtain rfl := Option.some.inj H
  go_enter Try.func59, Try.ntmps59
  go_wp2_with (first | ((with_reducible refine gate_dst (N := 1) rfl ?_); refine box_event ?hg (N := 1) ?hd (cs := #[.slice A0_0 l0_0.length c0_0, .int .i64 a0_1, .int .i64 a0_2, .slice A0_3 l0_3.length c0_3, .bool true]) (t := 24) ?hr ?_; (case hd => rfl); (case hg => rfl); q_hr; intro gb104 hg w3 hbox hb; have n0_ := Aside0.mk (below_step q_hb hb); have n1_ := Aside0.mk (hbox); have n2_ := Aside0.mk ((by rw [hg]; exact q_bs : w.heap.size ≤ gb104)); have n3_ := Aside0.mk ((by rw [hg]; exact q_bs : w.heap.size ≤ gb104)); clear HB; have HB := n0_; have BK104 := n1_; have GW104 := n2_; have GE104 := n3_; clear n0_ n1_ n2_ n3_; (q_x hb hbox hg); have hcz4_0 : w3.cell? ⟨gb104, 0, none⟩ = some (.slice A0_0 l0_0.length c0_0) := (blk_cell BK104.out 0).trans rfl; have hcz4_1 : w3.cell? ⟨gb104, 1, none⟩ = some (.int .i64 a0_1) := (blk_cell BK104.out 1).trans rfl; have hcz4_2 : w3.cell? ⟨gb104, 2, none⟩ = some (.int .i64 a0_2) := (blk_cell BK104.out 2).trans rfl; have hcz4_3 : w3.cell? ⟨gb104, 3, none⟩ = some (.slice A0_3 l0_3.length c0_3) := (blk_cell BK104.out 3).trans rfl; have hcz4_4 : w3.cell? ⟨gb104, 4, none⟩ = some (.bool true) := (blk_cell BK104.out 4).trans rfl; have hfz4_0 := blk_frozen BK104.out 0; have hfz4_1 := blk_frozen BK104.out 1; have hfz4_2 := blk_frozen BK104.out 2; have hfz4_3 := blk_frozen BK104.out 3; have hfz4_4 := blk_frozen BK104.out 4))
  go_ret
  exact ⟨by first | rfl | q_em | q_en, by repeat (first | (with_reducible first | exact HB.out | apply below_alloc | apply pw_below_drewN | apply below_drew1 | refine below_set ?_ GE104.out) | exact HB.out)⟩
 ·replace c2 := Bool.eq_false_iff.mpr c2
  subst c2
  have H1 : (some 0) = some r := by rw [if_neg (show ¬ (false = true) by decide)] at H; exact H
  clear H
  have H := H1
  clear H1
  obtain rfl := Option.some.inj H
  go_enter Try.func59, Try.ntmps59
  go_wp2_with (first | ((with_reducible refine gate_dst (N := 1) rfl ?_); refine box_event ?hg (N := 1) ?hd (cs := #[.slice A0_0 l0_0.length c0_0, .int .i64 a0_1, .int .i64 a0_2, .slice A0_3 l0_3.length c0_3, .bool false]) (t := 24) ?hr ?_; (case hd => rfl); (case hg => rfl); q_hr; intro gb104 hg w5 hbox hb; have n0_ := Aside0.mk (below_step q_hb hb); have n1_ := Aside0.mk (hbox); have n2_ := Aside0.mk ((by rw [hg]; exact q_bs : w.heap.size ≤ gb104)); have n3_ := Aside0.mk ((by rw [hg]; exact q_bs : w.heap.size ≤ gb104)); clear HB; have HB := n0_; have BK104 := n1_; have GW104 := n2_; have GE104 := n3_; clear n0_ n1_ n2_ n3_; (q_x hb hbox hg); have hcz6_0 : w5.cell? ⟨gb104, 0, none⟩ = some (.slice A0_0 l0_0.length c0_0) := (blk_cell BK104.out 0).trans rfl; have hcz6_1 : w5.cell? ⟨gb104, 1, none⟩ = some (.int .i64 a0_1) := (blk_cell BK104.out 1).trans rfl; have hcz6_2 : w5.cell? ⟨gb104, 2, none⟩ = some (.int .i64 a0_2) := (blk_cell BK104.out 2).trans rfl; have hcz6_3 : w5.cell? ⟨gb104, 3, none⟩ = some (.slice A0_3 l0_3.length c0_3) := (blk_cell BK104.out 3).trans rfl; have hcz6_4 : w5.cell? ⟨gb104, 4, none⟩ = some (.bool false) := (blk_cell BK104.out 4).trans rfl; have hfz6_0 := blk_frozen BK104.out 0; have hfz6_1 := blk_frozen BK104.out 1; have hfz6_2 := blk_frozen BK104.out 2; have hfz6_3 := blk_frozen BK104.out 3; have hfz6_4 := blk_frozen BK104.out 4))
  go_ret
  exact ⟨by first | rfl | q_em | q_en, by repeat (first | (with_reducible first | exact HB.out | apply below_alloc | apply pw_below_drewN | apply below_drew1 | refine below_set ?_ GE104.out) | exact HB.out)⟩

/-! ### rees_size: function 47 -/
def rees_size.f (l0_0 : List (List Int)) (a0_1 : Int) (a0_2 : Int) (l0_3 : List (List Int)) (a0_4 : Bool) : Option (Int) := if a0_1 > 400 then (some 401) else (if a0_2 > 400 then (some 401) else ((rees_zero.f l0_0 a0_1 a0_2 l0_3 a0_4).bind fun t106 => (some (wrap64 ((wrap64 ((wrap64 (a0_1 * a0_2)) * (l0_0.length : Int))) + t106)))))
def rees_size.T3 : Bool × List (List Nat × List Nat) := (true, [([], []), ([0], [0]), ([], []), ([2], [2]), ([1, 3], [1, 3]), ([], []), ([5], [5]), ([6], [6]), ([4, 7], [4, 7]), ([], []), ([9], [9]), ([8, 10], [8, 10]), ([11, 10, 0, 1, 2, 3, 4, 5, 6, 7, 8, 9, 10, 11], [11])])
def rees_size.B3 : List Nat := [0, 1, 0, 4, 15, 0, 32, 96, 255, 0, 512, 2047, 4095]
theorem rees_size.tab3 : rtab .any (opsOf Try.f47 3) = rees_size.T3 := by kernel_rfl
theorem rees_size.bits3 : waitsOk rees_size.T3.2 rees_size.B3 = true := by kernel_rfl
set_option maxHeartbeats 8000000 in
set_option maxRecDepth 100000 in
theorem rees_size.calls (A0_0 : Option Addr) (c0_0 : Nat) (l0_0 : List (List Int)) (a0_1 : Int) (a0_2 : Int) (A0_3 : Option Addr) (c0_3 : Nat) (l0_3 : List (List Int)) (a0_4 : Bool) (r : Int) (w : World) (hr0_0 : Kd.C (Kd.slice 3 (Kd.int .i64)) w A0_0 l0_0.length l0_0) (hc0_0 : l0_0.length ≤ c0_0) (hr0_3 : Kd.C (Kd.slice 3 (Kd.int .i64)) w A0_3 l0_3.length l0_3) (hc0_3 : l0_3.length ≤ c0_3) (h : rees_size.f l0_0 a0_1 a0_2 l0_3 a0_4 = some r) :
  Calls Try.prog 47 #[.agg #[.slice A0_0 l0_0.length c0_0, .int .i64 a0_1, .int .i64 a0_2, .slice A0_3 l0_3.length c0_3, .bool a0_4]] w fun e w' => e = .returned (.int .i64 r) ∧ Below w.heap.size w w' := by
 have hu24 := Try.underlying24
 have HR0_0 := Aside0.mk hr0_0
 have HC0_0 := Aside0.mk hc0_0
 (try clear hr0_0); (try clear hc0_0)
 have HR0_3 := Aside0.mk hr0_3
 have HC0_3 := Aside0.mk hc0_3
 (try clear hr0_3); (try clear hc0_3)
 have HB := Aside0.mk (Below.refl w.heap.size w)
 have H : (if a0_1 > 400 then (some 401) else (if a0_2 > 400 then (some 401) else ((rees_zero.f l0_0 a0_1 a0_2 l0_3 a0_4).bind fun t106 => (some (wrap64 ((wrap64 ((wrap64 (a0_1 * a0_2)) * (l0_0.length : Int))) + t106)))))) = some r := h
 clear h
 by_cases c2 : a0_1 > 400
 ·rw [if_pos c2] at H
  have c2b0 : decide (400 < a0_1) = true := decide_eq_true c2
  clear c2
  obtain rfl := Option.some.inj H
  go_enter Try.func47, Try.ntmps47
  go_wp2_with (first | ((with_reducible refine gate_dst (N := 1) rfl ?_); refine box_event ?hg (N := 1) ?hd (cs := #[.slice A0_0 l0_0.length c0_0, .int .i64 a0_1, .int .i64 a0_2, .slice A0_3 l0_3.length c0_3, .bool a0_4]) (t := 24) ?hr ?_; (case hd => rfl); (case hg => rfl); q_hr; intro gb105 hg w3 hbox hb; have n0_ := Aside0.mk (below_step q_hb hb); have n1_ := Aside0.mk (hbox); have n2_ := Aside0.mk ((by rw [hg]; exact q_bs : w.heap.size ≤ gb105)); have n3_ := Aside0.mk ((by rw [hg]; exact q_bs : w.heap.size ≤ gb105)); clear HB; have HB := n0_; have BK105 := n1_; have GW105 := n2_; have GE105 := n3_; clear n0_ n1_ n2_ n3_; (q_x hb hbox hg); have hcz4_0 : w3.cell? ⟨gb105, 0, none⟩ = some (.slice A0_0 l0_0.length c0_0) := (blk_cell BK105.out 0).trans rfl; have hcz4_1 : w3.cell? ⟨gb105, 1, none⟩ = some (.int .i64 a0_1) := (blk_cell BK105.out 1).trans rfl; have hcz4_2 : w3.cell? ⟨gb105, 2, none⟩ = some (.int .i64 a0_2) := (blk_cell BK105.out 2).trans rfl; have hcz4_3 : w3.cell? ⟨gb105, 3, none⟩ = some (.slice A0_3 l0_3.length c0_3) := (blk_cell BK105.out 3).trans rfl; have hcz4_4 : w3.cell? ⟨gb105, 4, none⟩ = some (.bool a0_4) := (blk_cell BK105.out 4).trans rfl; have hfz4_0 := blk_frozen BK105.out 0; have hfz4_1 := blk_frozen BK105.out 1; have hfz4_2 := blk_frozen BK105.out 2; have hfz4_3 := blk_frozen BK105.out 3; have hfz4_4 := blk_frozen BK105.out 4))
  go_ret
  exact ⟨by first | rfl | q_em | q_en, by repeat (first | (with_reducible first | exact HB.out | apply below_alloc | apply pw_below_drewN | apply below_drew1 | refine below_set ?_ GE105.out) | exact HB.out)⟩
 ·rw [if_neg c2] at H
  have c2b0 : decide (400 < a0_1) = false := decide_eq_false c2
  clear c2
  by_cases c5 : a0_2 > 400
  ·rw [if_pos c5] at H
   have c5b0 : decide (400 < a0_2) = true := decide_eq_true c5
   clear c5
   obtain rfl := Option.some.inj H
   go_enter Try.func47, Try.ntmps47
   go_wp2_with (first | ((with_reducible refine gate_dst (N := 1) rfl ?_); refine box_event ?hg (N := 1) ?hd (cs := #[.slice A0_0 l0_0.length c0_0, .int .i64 a0_1, .int .i64 a0_2, .slice A0_3 l0_3.length c0_3, .bool a0_4]) (t := 24) ?hr ?_; (case hd => rfl); (case hg => rfl); q_hr; intro gb105 hg w6 hbox hb; have n0_ := Aside0.mk (below_step q_hb hb); have n1_ := Aside0.mk (hbox); have n2_ := Aside0.mk ((by rw [hg]; exact q_bs : w.heap.size ≤ gb105)); have n3_ := Aside0.mk ((by rw [hg]; exact q_bs : w.heap.size ≤ gb105)); clear HB; have HB := n0_; have BK105 := n1_; have GW105 := n2_; have GE105 := n3_; clear n0_ n1_ n2_ n3_; (q_x hb hbox hg); have hcz7_0 : w6.cell? ⟨gb105, 0, none⟩ = some (.slice A0_0 l0_0.length c0_0) := (blk_cell BK105.out 0).trans rfl; have hcz7_1 : w6.cell? ⟨gb105, 1, none⟩ = some (.int .i64 a0_1) := (blk_cell BK105.out 1).trans rfl; have hcz7_2 : w6.cell? ⟨gb105, 2, none⟩ = some (.int .i64 a0_2) := (blk_cell BK105.out 2).trans rfl; have hcz7_3 : w6.cell? ⟨gb105, 3, none⟩ = some (.slice A0_3 l0_3.length c0_3) := (blk_cell BK105.out 3).trans rfl; have hcz7_4 : w6.cell? ⟨gb105, 4, none⟩ = some (.bool a0_4) := (blk_cell BK105.out 4).trans rfl; have hfz7_0 := blk_frozen BK105.out 0; have hfz7_1 := blk_frozen BK105.out 1; have hfz7_2 := blk_frozen BK105.out 2; have hfz7_3 := blk_frozen BK105.out 3; have hfz7_4 := blk_frozen BK105.out 4))
   go_ret
   exact ⟨by first | rfl | q_em | q_en, by repeat (first | (with_reducible first | exact HB.out | apply below_alloc | apply pw_below_drewN | apply below_drew1 | refine below_set ?_ GE105.out) | exact HB.out)⟩
  ·rw [if_neg c5] at H
   have c5b0 : decide (400 < a0_2) = false := decide_eq_false c5
   clear c5
   replace H := Option.bind_eq_some_iff.mp H
   obtain ⟨t106, A80, H⟩ := H
   replace H : (some (wrap64 ((wrap64 ((wrap64 (a0_1 * a0_2)) * (l0_0.length : Int))) + t106))) = some r := H
   have A8 := Aside0.mk A80
   clear A80
   obtain rfl := Option.some.inj H
   go_enter Try.func47, Try.ntmps47
   try go_wp2_with (first | ((with_reducible refine gate_dst (N := 1) rfl ?_); refine box_event ?hg (N := 1) ?hd (cs := #[.slice A0_0 l0_0.length c0_0, .int .i64 a0_1, .int .i64 a0_2, .slice A0_3 l0_3.length c0_3, .bool a0_4]) (t := 24) ?hr ?_; (case hd => rfl); (case hg => rfl); q_hr; intro gb105 hg w9 hbox hb; have n0_ := Aside0.mk (below_step q_hb hb); have n1_ := Aside0.mk (hbox); have n2_ := Aside0.mk ((by rw [hg]; exact q_bs : w.heap.size ≤ gb105)); have n3_ := Aside0.mk ((by rw [hg]; exact q_bs : w.heap.size ≤ gb105)); clear HB; have HB := n0_; have BK105 := n1_; have GW105 := n2_; have GE105 := n3_; clear n0_ n1_ n2_ n3_; (q_x hb hbox hg); have hcz10_0 : w9.cell? ⟨gb105, 0, none⟩ = some (.slice A0_0 l0_0.length c0_0) := (blk_cell BK105.out 0).trans rfl; have hcz10_1 : w9.cell? ⟨gb105, 1, none⟩ = some (.int .i64 a0_1) := (blk_cell BK105.out 1).trans rfl; have hcz10_2 : w9.cell? ⟨gb105, 2, none⟩ = some (.int .i64 a0_2) := (blk_cell BK105.out 2).trans rfl; have hcz10_3 : w9.cell? ⟨gb105, 3, none⟩ = some (.slice A0_3 l0_3.length c0_3) := (blk_cell BK105.out 3).trans rfl; have hcz10_4 : w9.cell? ⟨gb105, 4, none⟩ = some (.bool a0_4) := (blk_cell BK105.out 4).trans rfl; have hfz10_0 := blk_frozen BK105.out 0; have hfz10_1 := blk_frozen BK105.out 1; have hfz10_2 := blk_frozen BK105.out 2; have hfz10_3 := blk_frozen BK105.out 3; have hfz10_4 := blk_frozen BK105.out 4))
   have n0_ := Aside0.mk (blk_drew BK105.out)
   have n1_ := Aside0.mk (below_drew1 HB.out)
   clear HB BK105
   have BK105 := n0_
   have HB := n1_
   clear n0_ n1_
   refine start_ (n := 13) (S := fun w' => w'.cell? ⟨gb105, 0, none⟩ = some (.slice A0_0 l0_0.length c0_0) ∧ w'.cell? ⟨gb105, 1, none⟩ = some (.int .i64 a0_1) ∧ w'.cell? ⟨gb105, 2, none⟩ = some (.int .i64 a0_2) ∧ w'.cell? ⟨gb105, 3, none⟩ = some (.slice A0_3 l0_3.length c0_3) ∧ w'.cell? ⟨gb105, 4, none⟩ = some (.bool a0_4)) (ds := []) #[false, false, false, false, false, false, false, false, false, false, false, false, false] (by kernel_rfl) rfl rfl ⟨(blk_cell BK105.out 0).trans rfl, (blk_cell BK105.out 1).trans rfl, (blk_cell BK105.out 2).trans rfl, (blk_cell BK105.out 3).trans rfl, (blk_cell BK105.out 4).trans rfl⟩ (fun hHeld => ?_); refine with_tabW rees_size.tab3 rees_size.bits3 (fun HT_ HW_ => ?_)
   generalize w9.drew = w11 at BK105 HB hHeld ⊢
   refine pure_ (i := 0) (N := some 11) (v := ?_) (a' := ?_) #[true, false, false, false, false, false, false, false, false, false, false, false, false] rfl rfl q_ho q_id (Or.inl ⟨by rfl, ?_⟩) ?_ ?_
   rotate_left
   ·intro w'
    go_simp
    with_reducible rfl
   rotate_left
   ·q_si
    rfl
   refine pure_ (i := 2) (N := some 13) (v := ?_) (a' := ?_) #[true, false, true, false, false, false, false, false, false, false, false, false, false] rfl rfl q_ho q_id (Or.inl ⟨by rfl, ?_⟩) ?_ ?_
   rotate_left
   ·intro w'
    go_simp
    with_reducible rfl
   rotate_left
   ·q_si
    rfl
   refine pure_ (i := 5) (N := some 16) (v := ?_) (a' := ?_) #[true, false, true, false, false, true, false, false, false, false, false, false, false] rfl rfl q_ho q_id (Or.inl ⟨by rfl, ?_⟩) ?_ ?_
   rotate_left
   ·intro w'
    go_simp
    with_reducible rfl
   rotate_left
   ·q_si
    rfl
   refine take_ (i := 1) (N := some 12) (v := ?_) (a' := ?_) #[true, true, true, false, false, true, false, false, false, false, false, false, false] rfl rfl q_to q_id (Or.inl ⟨by rfl, ?_⟩) hHeld ?_ ?_
   rotate_left
   ·rintro w' ⟨s0, s1, s2, s3, s4⟩
    go_simp
    with_reducible rfl
   rotate_left
   ·q_si
    rfl
   refine take_ (i := 3) (N := some 14) (v := ?_) (a' := ?_) #[true, true, true, true, false, true, false, false, false, false, false, false, false] rfl rfl q_to q_id (Or.inl ⟨by rfl, ?_⟩) hHeld ?_ ?_
   rotate_left
   ·rintro w' ⟨s0, s1, s2, s3, s4⟩
    go_simp
    with_reducible rfl
   rotate_left
   ·q_si
    rfl
   refine pure_ (i := 4) (N := some 15) (v := ?_) (a' := ?_) #[true, true, true, true, true, true, false, false, false, false, false, false, false] rfl rfl q_ho q_id (Or.inl ⟨by rfl, ?_⟩) ?_ ?_
   rotate_left
   ·intro w'
    go_simp
    with_reducible rfl
   rotate_left
   ·q_si
    rfl
   refine take_ (i := 6) (N := some 17) (v := ?_) (a' := ?_) #[true, true, true, true, true, true, true, false, false, false, false, false, false] rfl rfl q_to q_id (Or.inl ⟨by rfl, ?_⟩) hHeld ?_ ?_
   rotate_left
   ·rintro w' ⟨s0, s1, s2, s3, s4⟩
    go_simp
    with_reducible rfl
   rotate_left
   ·q_si
    rfl
   refine pure_ (i := 7) (N := some 18) (v := ?_) (a' := ?_) #[true, true, true, true, true, true, true, true, false, false, false, false, false] rfl rfl q_ho q_id (Or.inl ⟨by rfl, ?_⟩) ?_ ?_
   rotate_left
   ·intro w'
    go_simp
    with_reducible rfl
   rotate_left
   ·q_si
    rfl
   refine pure_ (i := 8) (N := some 19) (v := ?_) (a' := ?_) #[true, true, true, true, true, true, true, true, true, false, false, false, false] rfl rfl q_ho q_id (Or.inl ⟨by rfl, ?_⟩) ?_ ?_
   rotate_left
   ·intro w'
    go_simp
    with_reducible rfl
   rotate_left
   ·q_si
    rfl
   refine take_ (i := 9) (N := some 20) (v := ?_) (a' := ?_) #[true, true, true, true, true, true, true, true, true, true, false, false, false] rfl rfl q_to q_id (Or.inl ⟨by rfl, ?_⟩) hHeld ?_ ?_
   rotate_left
   ·rintro w' ⟨s0, s1, s2, s3, s4⟩
    go_simp
    with_reducible rfl
   rotate_left
   ·q_si
    rfl
   refine one_ (i := 10) (N := some 21) #[true, true, true, true, true, true, true, true, true, true, true, false, false] rfl rfl (one_of HT_.out (by kernel_rfl)) (by decide) (fun K hK => ?_)
   refine goes_ Try.func59 (by kernel_rfl) rfl #[.agg #[.slice A0_0 l0_0.length c0_0, .int .i64 a0_1, .int .i64 a0_2, .slice A0_3 l0_3.length c0_3, .bool a0_4]] (by rfl) rfl rfl q_ml ?_
   with_reducible refine (rees_zero.calls _ _ l0_0 a0_1 a0_2 _ _ l0_3 a0_4 t106 _ ?side1 ?side2 ?side3 ?side4 A8.out).mono ?_
   (case side1 => q_cc (Kd.C_below HR0_0.out HB.out))
   (case side2 => exact HC0_0.out)
   (case side3 => q_cc (Kd.C_below HR0_3.out HB.out))
   (case side4 => exact HC0_3.out)
   rintro e w12 ⟨rfl, hb⟩
   refine ⟨_, rfl, ?_⟩
   have n0_ := Aside0.mk (blk_below (g := gb105) (o := .cells #[.slice A0_0 l0_0.length c0_0, .int .i64 a0_1, .int .i64 a0_2, .slice A0_3 l0_3.length c0_3, .bool a0_4] 24 (0, 0)) (by q_bk; exact BK105.out) hb)
   have n1_ := Aside0.mk (below_step (q_hs GE105.out) hb)
   clear HB BK105
   have BK105 := n0_
   have HB := n1_
   clear n0_ n1_
   (try clear hb)
   (try clear hb2)
   (try clear hk)
   (try clear hi)
   refine hK.out _ _ ⟨(blk_cell BK105.out 0).trans rfl, (blk_cell BK105.out 1).trans rfl, (blk_cell BK105.out 2).trans rfl, (blk_cell BK105.out 3).trans rfl, (blk_cell BK105.out 4).trans rfl⟩ (fun hHeld => ?_)
   clear hK K
   refine norm_ (a' := ?_) ?_ ?_
   rotate_left
   ·show Act.put _ (some 21) _ = _
    simp only [Act.put, List.setIfInBounds_toArray, List.set_cons_zero, List.set_cons_succ, i64_w, i32_w]
    rfl
   refine pure_ (i := 11) (N := some 22) (v := ?_) (a' := ?_) #[true, true, true, true, true, true, true, true, true, true, true, true, false] rfl rfl q_ho q_id (Or.inl ⟨by rfl, ?_⟩) ?_ ?_
   rotate_left
   ·intro w'
    go_simp
    with_reducible rfl
   rotate_left
   ·q_si
    rfl
   refine pure_ (i := 12) (N := some 2) (v := ?_) (a' := ?_) #[true, true, true, true, true, true, true, true, true, true, true, true, true] rfl rfl q_ho q_id (Or.inl ⟨by rfl, ?_⟩) ?_ ?_
   rotate_left
   ·intro w'
    go_simp
    with_reducible rfl
   rotate_left
   ·q_si
    rfl
   refine done_ (done_of HT_.out (by kernel_rfl)) ?_
   try go_wp2
   go_ret
   exact ⟨by first | rfl | q_em | q_en, by repeat (first | (with_reducible first | exact HB.out | apply below_alloc | apply pw_below_drewN | apply below_drew1 | refine below_set ?_ GE105.out) | exact HB.out)⟩

/-! ### mult_shape: function 49 -/
mutual
def mult_shape.l0 : Nat → List (List Int) → List (List Int) → Int → Int → Option (Int)
 | 0, _, _, _, _ => none
 | k + 1, x0, x15, x16, x17 => if x17 < x16 then (if 0 ≤ x17 then (if x17 < (x15.length : Int) then (if ((rd_L1 x15 x17).length : Int) = (x0.length : Int) then (mult_shape.l1 k x0 x15 x16 x17 (rd_L1 x15 x17) ((rd_L1 x15 x17).length : Int) 0) else (some 4)) else (none)) else (none)) else (some 0)
def mult_shape.l1 : Nat → List (List Int) → List (List Int) → Int → Int → List Int → Int → Int → Option (Int)
 | 0, _, _, _, _, _, _, _ => none
 | k + 1, x0, x15, x16, x17, x26, x27, x28 => if x28 < x27 then (if 0 ≤ x28 then (if x28 < (x26.length : Int) then (if (rd x26 x28) < 0 then (some 4) else (if (rd x26 x28) ≥ (x0.length : Int) then (some 4) else (mult_shape.l1 k x0 x15 x16 x17 x26 x27 (wrap64 (x28 + 1))))) else (none)) else (none)) else (mult_shape.l0 k x0 x15 x16 (wrap64 (x17 + 1)))
end
def mult_shape.f (k : Nat) (l0 : List (List Int)) : Option (Int) := if (l0.length : Int) > 400 then (some 3) else (if (l0.length : Int) = 0 then (some 4) else (mult_shape.l0 k l0 l0 (l0.length : Int) 0))
theorem mult_shape.mono_l : ∀ k, (∀ y0 y1 y2 y3, LeO (mult_shape.l0 k y0 y1 y2 y3) (mult_shape.l0 (k + 1) y0 y1 y2 y3)) ∧ (∀ y0 y1 y2 y3 y4 y5 y6, LeO (mult_shape.l1 k y0 y1 y2 y3 y4 y5 y6) (mult_shape.l1 (k + 1) y0 y1 y2 y3 y4 y5 y6))
 | 0 => ⟨fun _ _ _ _ r h => by simp [mult_shape.l0] at h, fun _ _ _ _ _ _ _ r h => by simp [mult_shape.l1] at h⟩
 | k + 1 => by
  obtain ⟨ih0, ih1⟩ := mult_shape.mono_l k
  refine ⟨?_, ?_⟩
  ·intro y0 y1 y2 y3
   unfold mult_shape.l0
   repeat' first
   | (with_reducible exact ih0 _ _ _ _)
   | (with_reducible exact ih1 _ _ _ _ _ _ _)
   | (with_reducible exact LeO.refl _)
   | (with_reducible exact LeO.none _)
   | (with_reducible refine LeO.ite ?_ ?_)
   | (with_reducible refine LeO.bind ?_ (fun _ => ?_))
   | exact ih0 _ _ _ _
   | exact ih1 _ _ _ _ _ _ _
   | exact LeO.none _
   | refine LeO.ite ?_ ?_
   | refine LeO.bind ?_ (fun _ => ?_)
  ·intro y0 y1 y2 y3 y4 y5 y6
   unfold mult_shape.l1
   repeat' first
   | (with_reducible exact ih0 _ _ _ _)
   | (with_reducible exact ih1 _ _ _ _ _ _ _)
   | (with_reducible exact LeO.refl _)
   | (with_reducible exact LeO.none _)
   | (with_reducible refine LeO.ite ?_ ?_)
   | (with_reducible refine LeO.bind ?_ (fun _ => ?_))
   | exact ih0 _ _ _ _
   | exact ih1 _ _ _ _ _ _ _
   | exact LeO.none _
   | refine LeO.ite ?_ ?_
   | refine LeO.bind ?_ (fun _ => ?_)
theorem mult_shape.mono : ∀ a0 k, LeO (mult_shape.f k a0) (mult_shape.f (k + 1) a0) := by
 intro a0 k
 obtain ⟨ih0, ih1⟩ := mult_shape.mono_l k
 unfold mult_shape.f
 repeat' first
   | (with_reducible exact ih0 _ _ _ _)
   | (with_reducible exact ih1 _ _ _ _ _ _ _)
   | (with_reducible exact LeO.refl _)
   | (with_reducible exact LeO.none _)
   | (with_reducible refine LeO.ite ?_ ?_)
   | (with_reducible refine LeO.bind ?_ (fun _ => ?_))
   | exact ih0 _ _ _ _
   | exact ih1 _ _ _ _ _ _ _
   | exact LeO.none _
   | refine LeO.ite ?_ ?_
   | refine LeO.bind ?_ (fun _ => ?_)
set_option maxHeartbeats 8000000 in
set_option maxRecDepth 100000 in
theorem mult_shape.calls (k : Nat) (A0 : Option Addr) (c0 : Nat) (l0 : List (List Int)) (r : Int) (w : World) (hr0 : Kd.C (Kd.slice 3 (Kd.int .i64)) w A0 l0.length l0) (hc0 : l0.length ≤ c0) (h : mult_shape.f k l0 = some r) :
  Calls Try.prog 49 #[.slice A0 l0.length c0] w fun e w' => e = .returned (.int .i64 r) ∧ Drawn0 w w' := by
 have HR0 := Aside0.mk hr0
 have HC0 := Aside0.mk hc0
 (try clear hr0); (try clear hc0)
 have H : (if (l0.length : Int) > 400 then (some 3) else (if (l0.length : Int) = 0 then (some 4) else (mult_shape.l0 k l0 l0 (l0.length : Int) 0))) = some r := h
 clear h
 by_cases c2 : (l0.length : Int) > 400
 ·rw [if_pos c2] at H
  have c2b0 : decide (400 < (l0.length : Int)) = true := decide_eq_true c2
  have c2b1 : decide (400 < l0.length) = true := decide_eq_true (by omega)
  clear c2
  obtain rfl := Option.some.inj H
  go_enter Try.func49, Try.ntmps49
  go_wp2
  go_ret
  exact ⟨by first | rfl | (simp; done) | (simp [*]; done), by repeat (first | exact Drawn0.refl _ | apply Drawn0.step)⟩
 ·rw [if_neg c2] at H
  have c2b0 : decide (400 < (l0.length : Int)) = false := decide_eq_false c2
  have c2b1 : decide (400 < l0.length) = false := decide_eq_false (by omega)
  clear c2
  by_cases c3 : (l0.length : Int) = 0
  ·rw [if_pos c3] at H
   have c3b0 : ((l0.length : Int) == 0) = true := beq_iff_eq.mpr c3
   have c3b1 : ((l0.length : Int) != 0) = false := bne_eq_false_iff_eq.mpr c3
   clear c3
   obtain rfl := Option.some.inj H
   go_enter Try.func49, Try.ntmps49
   go_wp2
   go_ret
   exact ⟨by first | rfl | (simp; done) | (simp [*]; done), by repeat (first | exact Drawn0.refl _ | apply Drawn0.step)⟩
  ·rw [if_neg c3] at H
   have c3b0 : ((l0.length : Int) == 0) = false := beq_eq_false_iff_ne.mpr c3
   have c3b1 : ((l0.length : Int) != 0) = true := bne_iff_ne.mpr c3
   have c3b2 : ¬ (l0 = []) := fun h_ => c3 (by rw [h_]; rfl)
   have H' := Aside0.mk H
   clear H
   go_enter Try.func49, Try.ntmps49
   go_wp2
   go_loopg [17] k (fun kq v17 w' => ∃ (x17_1 : Int), v17 = .int .i64 x17_1 ∧ Aside0 (mult_shape.l0 kq l0 l0 (l0.length : Int) x17_1 = some r) ∧ Aside0 (kq ≤ k) ∧ Drawn0 w w')
   case atStart => exact ⟨(0), q_rs, H', ⟨Nat.le_refl _⟩, by repeat (first | exact Drawn0.refl _ | apply Drawn0.step)⟩
   case round =>
    clear H'
    q_x c2 c2b0 c2b1 p2 c3 c3b0 c3b1 c3b2
    obtain ⟨x17_1, rfl, HA, HK1, ⟨m1, rfl⟩⟩ := hrel
    cases gk with
    | zero => exact absurd HA.out (by simp [mult_shape.l0])
    | succ k1 =>
     have H := HA.out
     clear HA
     simp only [mult_shape.l0] at H
     by_cases c4 : x17_1 < (l0.length : Int)
     ·rw [if_pos c4] at H
      have c4b0 : decide (x17_1 < (l0.length : Int)) = true := decide_eq_true c4
      clear c4
      by_cases c5 : 0 ≤ x17_1
      ·rw [if_pos c5] at H
       have c5b0 : decide (0 ≤ x17_1) = true := decide_eq_true c5
       clear c5
       by_cases c6 : x17_1 < (l0.length : Int)
       ·rw [if_pos c6] at H
        have c6b0 : decide (x17_1 < (l0.length : Int)) = true := decide_eq_true c6
        clear c6
        by_cases c7 : ((rd_L1 l0 x17_1).length : Int) = (l0.length : Int)
        ·rw [if_pos c7] at H
         have c7b0 : (((rd_L1 l0 x17_1).length : Int) == (l0.length : Int)) = true := beq_iff_eq.mpr c7
         have c7b1 : (((rd_L1 l0 x17_1).length : Int) != (l0.length : Int)) = false := bne_eq_false_iff_eq.mpr c7
         have c7b2 : ((rd_L1 l0 x17_1).length == l0.length) = true := by first | simpa using c7 | (simp at c7 ⊢; omega)
         clear c7
         have H' := Aside0.mk H
         clear H
         have p107 : 0 ≤ (x17_1 : Int) := of_decide_eq_true q_as
         have q107 : x17_1 < (l0.length : Int) := of_decide_eq_true q_as
         obtain ⟨ad107, A107_0, c107_0, e107, hx107_0, hl107_0, hi107_0⟩ := at_L1 HR0.out x17_1 p107 q107
         cases e107
         have HR107_0 := Aside0.mk hi107_0
         have HC107_0 := Aside0.mk hl107_0
         (try clear hi107_0); (try clear hl107_0)
         q_t p107 q107
         go_wp2
         go_loopg [28] k1 (fun kq v28 w' => ∃ (x28_2 : Int), v28 = .int .i64 x28_2 ∧ Aside0 (mult_shape.l1 kq l0 l0 (l0.length : Int) x17_1 (rd_L1 l0 x17_1) ((rd_L1 l0 x17_1).length : Int) x28_2 = some r) ∧ Aside0 (kq ≤ k1) ∧ Drawn0 w w')
         case atStart => exact ⟨(0), q_rs, H', ⟨Nat.le_refl _⟩, by repeat (first | exact Drawn0.refl _ | apply Drawn0.step)⟩
         case round =>
          clear H'
          q_x c1 p1 q1 hx1 c2 c2b0 c2b1 p2 c3 c3b0 c3b1 c3b2 c4 c4b0 c5 c5b0 c6 c6b0 c7 c7b0 c7b1 c7b2 hx107_0 p107 p2 q107
          obtain ⟨x28_2, rfl, HA, HK2, ⟨m2, rfl⟩⟩ := hrel
          cases gk with
          | zero => exact absurd HA.out (by simp [mult_shape.l1])
          | succ k2 =>
           have H := HA.out
           clear HA
           simp only [mult_shape.l1] at H
           by_cases c8 : x28_2 < ((rd_L1 l0 x17_1).length : Int)
           ·rw [if_pos c8] at H
            have c8b0 : decide (x28_2 < ((rd_L1 l0 x17_1).length : Int)) = true := decide_eq_true c8
            clear c8
            by_cases c9 : 0 ≤ x28_2
            ·rw [if_pos c9] at H
             have c9b0 : decide (0 ≤ x28_2) = true := decide_eq_true c9
             clear c9
             by_cases c10 : x28_2 < ((rd_L1 l0 x17_1).length : Int)
             ·rw [if_pos c10] at H
              have c10b0 : decide (x28_2 < ((rd_L1 l0 x17_1).length : Int)) = true := decide_eq_true c10
              clear c10
              by_cases c11 : (rd (rd_L1 l0 x17_1) x28_2) < 0
              ·rw [if_pos c11] at H
               have c11b0 : decide ((rd (rd_L1 l0 x17_1) x28_2) < 0) = true := decide_eq_true c11
               clear c11
               obtain rfl := Option.some.inj H
               have p108 : 0 ≤ (x28_2 : Int) := of_decide_eq_true q_as
               have q108 : x28_2 < ((rd_L1 l0 x17_1).length : Int) := of_decide_eq_true q_as
               obtain ⟨ad108, e108, hx108_0⟩ := Kd.at_int HR107_0.out x28_2 p108 q108
               cases e108
               q_t p108 q108
               go_wp2
               go_ret
               exact ⟨by first | rfl | (simp; done) | (simp [*]; done), by repeat (first | exact Drawn0.refl _ | apply Drawn0.step)⟩
              ·rw [if_neg c11] at H
               have c11b0 : decide ((rd (rd_L1 l0 x17_1) x28_2) < 0) = false := decide_eq_false c11
               clear c11
               by_cases c12 : (rd (rd_L1 l0 x17_1) x28_2) ≥ (l0.length : Int)
               ·rw [if_pos c12] at H
                have c12b0 : decide ((l0.length : Int) ≤ (rd (rd_L1 l0 x17_1) x28_2)) = true := decide_eq_true c12
                clear c12
                obtain rfl := Option.some.inj H
                have p108 : 0 ≤ (x28_2 : Int) := of_decide_eq_true q_as
                have q108 : x28_2 < ((rd_L1 l0 x17_1).length : Int) := of_decide_eq_true q_as
                obtain ⟨ad108, e108, hx108_0⟩ := Kd.at_int HR107_0.out x28_2 p108 q108
                cases e108
                q_t p108 q108
                go_wp2
                go_ret
                exact ⟨by first | rfl | (simp; done) | (simp [*]; done), by repeat (first | exact Drawn0.refl _ | apply Drawn0.step)⟩
               ·rw [if_neg c12] at H
                have c12b0 : decide ((l0.length : Int) ≤ (rd (rd_L1 l0 x17_1) x28_2)) = false := decide_eq_false c12
                clear c12
                have H' := Aside0.mk H
                clear H
                have p108 : 0 ≤ (x28_2 : Int) := of_decide_eq_true q_as
                have q108 : x28_2 < ((rd_L1 l0 x17_1).length : Int) := of_decide_eq_true q_as
                obtain ⟨ad108, e108, hx108_0⟩ := Kd.at_int HR107_0.out x28_2 p108 q108
                cases e108
                q_t p108 q108
                go_wp2
                go_roundg k2
                case measure => have := HK1.out; have := HK2.out; omega
                case rel => exact ⟨(wrap64 (x28_2 + 1)), q_rs, H', ⟨by have := HK1.out; have := HK2.out; omega⟩, by repeat (first | exact Drawn0.refl _ | apply Drawn0.step)⟩
             ·rw [if_neg c10] at H
              exact absurd H (by simp)
            ·rw [if_neg c9] at H
             exact absurd H (by simp)
           ·rw [if_neg c8] at H
            have c8b0 : decide (x28_2 < ((rd_L1 l0 x17_1).length : Int)) = false := decide_eq_false c8
            clear c8
            have H' := Aside0.mk H
            clear H
            go_wp2
            go_roundg k2
            case measure => have := HK1.out; have := HK2.out; omega
            case rel => exact ⟨(wrap64 (x17_1 + 1)), q_rs, H', ⟨by have := HK1.out; have := HK2.out; omega⟩, by repeat (first | exact Drawn0.refl _ | apply Drawn0.step)⟩
        ·rw [if_neg c7] at H
         have c7b0 : (((rd_L1 l0 x17_1).length : Int) == (l0.length : Int)) = false := beq_eq_false_iff_ne.mpr c7
         have c7b1 : (((rd_L1 l0 x17_1).length : Int) != (l0.length : Int)) = true := bne_iff_ne.mpr c7
         have c7b2 : ((rd_L1 l0 x17_1).length == l0.length) = false := by first | simpa using c7 | (simp at c7 ⊢; omega)
         obtain rfl := Option.some.inj H
         have p107 : 0 ≤ (x17_1 : Int) := of_decide_eq_true q_as
         have q107 : x17_1 < (l0.length : Int) := of_decide_eq_true q_as
         obtain ⟨ad107, A107_0, c107_0, e107, hx107_0, hl107_0, hi107_0⟩ := at_L1 HR0.out x17_1 p107 q107
         cases e107
         have HR107_0 := Aside0.mk hi107_0
         have HC107_0 := Aside0.mk hl107_0
         (try clear hi107_0); (try clear hl107_0)
         q_t p107 q107
         go_wp2
         go_ret
         exact ⟨by first | rfl | (simp; done) | (simp [*]; done), by repeat (first | exact Drawn0.refl _ | apply Drawn0.step)⟩
       ·rw [if_neg c6] at H
        exact absurd H (by simp)
      ·rw [if_neg c5] at H
       exact absurd H (by simp)
     ·rw [if_neg c4] at H
      have c4b0 : decide (x17_1 < (l0.length : Int)) = false := decide_eq_false c4
      clear c4
      obtain rfl := Option.some.inj H
      go_wp2
      go_ret
      exact ⟨by first | rfl | (simp; done) | (simp [*]; done), by repeat (first | exact Drawn0.refl _ | apply Drawn0.step)⟩

/-! ### mult_failing: function 50 -/
mutual
def mult_failing.l0 : Nat → List (List Int) → Int → Int → Option (Int × Int × Int × Bool)
 | 0, _, _, _ => none
 | k + 1, x0, x10, x11 => if x11 < x10 then (mult_failing.l1 k x0 x11 x10 x11 (x0.length : Int) 0) else (some (0, 0, 0, false))
def mult_failing.l1 : Nat → List (List Int) → Int → Int → Int → Int → Int → Option (Int × Int × Int × Bool)
 | 0, _, _, _, _, _, _ => none
 | k + 1, x0, x6, x10, x11, x15, x16 => if x16 < x15 then (mult_failing.l2 k x0 x6 x16 x10 x11 x15 x16 (x0.length : Int) 0) else (mult_failing.l0 k x0 x10 (wrap64 (x11 + 1)))
def mult_failing.l2 : Nat → List (List Int) → Int → Int → Int → Int → Int → Int → Int → Int → Option (Int × Int × Int × Bool)
 | 0, _, _, _, _, _, _, _, _, _ => none
 | k + 1, x0, x6, x7, x10, x11, x15, x16, x20, x21 => if x21 < x20 then (if 0 ≤ x6 then (if x6 < (x0.length : Int) then (if 0 ≤ x7 then (if x7 < ((rd_L1 x0 x6).length : Int) then (if 0 ≤ (rd (rd_L1 x0 x6) x7) then (if (rd (rd_L1 x0 x6) x7) < (x0.length : Int) then (if 0 ≤ x21 then (if x21 < ((rd_L1 x0 (rd (rd_L1 x0 x6) x7)).length : Int) then (if x7 < (x0.length : Int) then (if x21 < ((rd_L1 x0 x7).length : Int) then (if 0 ≤ (rd (rd_L1 x0 x7) x21) then (if (rd (rd_L1 x0 x7) x21) < ((rd_L1 x0 x6).length : Int) then (if (rd (rd_L1 x0 (rd (rd_L1 x0 x6) x7)) x21) = (rd (rd_L1 x0 x6) (rd (rd_L1 x0 x7) x21)) then (mult_failing.l2 k x0 x6 x7 x10 x11 x15 x16 x20 (wrap64 (x21 + 1))) else (some (x6, x7, x21, true))) else (none)) else (none)) else (none)) else (none)) else (none)) else (none)) else (none)) else (none)) else (none)) else (none)) else (none)) else (none)) else (mult_failing.l1 k x0 x6 x10 x11 x15 (wrap64 (x16 + 1)))
end
def mult_failing.f (k : Nat) (l0 : List (List Int)) : Option (Int × Int × Int × Bool) := mult_failing.l0 k l0 (l0.length : Int) 0
theorem mult_failing.mono_l : ∀ k, (∀ y0 y1 y2, LeO (mult_failing.l0 k y0 y1 y2) (mult_failing.l0 (k + 1) y0 y1 y2)) ∧ (∀ y0 y1 y2 y3 y4 y5, LeO (mult_failing.l1 k y0 y1 y2 y3 y4 y5) (mult_failing.l1 (k + 1) y0 y1 y2 y3 y4 y5)) ∧ (∀ y0 y1 y2 y3 y4 y5 y6 y7 y8, LeO (mult_failing.l2 k y0 y1 y2 y3 y4 y5 y6 y7 y8) (mult_failing.l2 (k + 1) y0 y1 y2 y3 y4 y5 y6 y7 y8))
 | 0 => ⟨fun _ _ _ r h => by simp [mult_failing.l0] at h, fun _ _ _ _ _ _ r h => by simp [mult_failing.l1] at h, fun _ _ _ _ _ _ _ _ _ r h => by simp [mult_failing.l2] at h⟩
 | k + 1 => by
  obtain ⟨ih0, ih1, ih2⟩ := mult_failing.mono_l k
  refine ⟨?_, ?_, ?_⟩
  ·intro y0 y1 y2
   unfold mult_failing.l0
   repeat' first
   | (with_reducible exact ih0 _ _ _)
   | (with_reducible exact ih1 _ _ _ _ _ _)
   | (with_reducible exact ih2 _ _ _ _ _ _ _ _ _)
   | (with_reducible exact LeO.refl _)
   | (with_reducible exact LeO.none _)
   | (with_reducible refine LeO.ite ?_ ?_)
   | (with_reducible refine LeO.bind ?_ (fun _ => ?_))
   | exact ih0 _ _ _
   | exact ih1 _ _ _ _ _ _
   | exact ih2 _ _ _ _ _ _ _ _ _
   | exact LeO.none _
   | refine LeO.ite ?_ ?_
   | refine LeO.bind ?_ (fun _ => ?_)
  ·intro y0 y1 y2 y3 y4 y5
   unfold mult_failing.l1
   repeat' first
   | (with_reducible exact ih0 _ _ _)
   | (with_reducible exact ih1 _ _ _ _ _ _)
   | (with_reducible exact ih2 _ _ _ _ _ _ _ _ _)
   | (with_reducible exact LeO.refl _)
   | (with_reducible exact LeO.none _)
   | (with_reducible refine LeO.ite ?_ ?_)
   | (with_reducible refine LeO.bind ?_ (fun _ => ?_))
   | exact ih0 _ _ _
   | exact ih1 _ _ _ _ _ _
   | exact ih2 _ _ _ _ _ _ _ _ _
   | exact LeO.none _
   | refine LeO.ite ?_ ?_
   | refine LeO.bind ?_ (fun _ => ?_)
  ·intro y0 y1 y2 y3 y4 y5 y6 y7 y8
   unfold mult_failing.l2
   repeat' first
   | (with_reducible exact ih0 _ _ _)
   | (with_reducible exact ih1 _ _ _ _ _ _)
   | (with_reducible exact ih2 _ _ _ _ _ _ _ _ _)
   | (with_reducible exact LeO.refl _)
   | (with_reducible exact LeO.none _)
   | (with_reducible refine LeO.ite ?_ ?_)
   | (with_reducible refine LeO.bind ?_ (fun _ => ?_))
   | exact ih0 _ _ _
   | exact ih1 _ _ _ _ _ _
   | exact ih2 _ _ _ _ _ _ _ _ _
   | exact LeO.none _
   | refine LeO.ite ?_ ?_
   | refine LeO.bind ?_ (fun _ => ?_)
theorem mult_failing.mono : ∀ a0 k, LeO (mult_failing.f k a0) (mult_failing.f (k + 1) a0) := by
 intro a0 k
 obtain ⟨ih0, ih1, ih2⟩ := mult_failing.mono_l k
 unfold mult_failing.f
 repeat' first
   | (with_reducible exact ih0 _ _ _)
   | (with_reducible exact ih1 _ _ _ _ _ _)
   | (with_reducible exact ih2 _ _ _ _ _ _ _ _ _)
   | (with_reducible exact LeO.refl _)
   | (with_reducible exact LeO.none _)
   | (with_reducible refine LeO.ite ?_ ?_)
   | (with_reducible refine LeO.bind ?_ (fun _ => ?_))
   | exact ih0 _ _ _
   | exact ih1 _ _ _ _ _ _
   | exact ih2 _ _ _ _ _ _ _ _ _
   | exact LeO.none _
   | refine LeO.ite ?_ ?_
   | refine LeO.bind ?_ (fun _ => ?_)
set_option maxHeartbeats 8000000 in
set_option maxRecDepth 100000 in
theorem mult_failing.calls (k : Nat) (A0 : Option Addr) (c0 : Nat) (l0 : List (List Int)) (r1 : Int) (r2 : Int) (r3 : Int) (r4 : Bool) (w : World) (hr0 : Kd.C (Kd.slice 3 (Kd.int .i64)) w A0 l0.length l0) (hc0 : l0.length ≤ c0) (h : mult_failing.f k l0 = some (r1, r2, r3, r4)) :
  Calls Try.prog 50 #[.slice A0 l0.length c0] w fun e w' => e = .returned (.tuple #[.int .i64 r1, .int .i64 r2, .int .i64 r3, .bool r4]) ∧ Drawn0 w w' := by
 have HR0 := Aside0.mk hr0
 have HC0 := Aside0.mk hc0
 (try clear hr0); (try clear hc0)
 have H : (mult_failing.l0 k l0 (l0.length : Int) 0) = some (r1, r2, r3, r4) := h
 clear h
 have H' := Aside0.mk H
 clear H
 go_enter Try.func50, Try.ntmps50
 go_wp2
 repeat (go_quiet (fail); try go_wp2)
 go_loopg [11] k (fun kq v11 w' => ∃ (x11_1 : Int), v11 = .int .i64 x11_1 ∧ Aside0 (mult_failing.l0 kq l0 (l0.length : Int) x11_1 = some (r1, r2, r3, r4)) ∧ Aside0 (kq ≤ k) ∧ Drawn0 w w')
 case atStart => exact ⟨(0), q_rs, H', ⟨Nat.le_refl _⟩, by repeat (first | exact Drawn0.refl _ | apply Drawn0.step)⟩
 case round =>
  clear H'
  obtain ⟨x11_1, rfl, HA, HK1, ⟨m1, rfl⟩⟩ := hrel
  cases gk with
  | zero => exact absurd HA.out (by simp [mult_failing.l0])
  | succ k1 =>
   have H := HA.out
   clear HA
   simp only [mult_failing.l0] at H
   by_cases c2 : x11_1 < (l0.length : Int)
   ·rw [if_pos c2] at H
    have c2b0 : decide (x11_1 < (l0.length : Int)) = true := decide_eq_true c2
    clear c2
    have H' := Aside0.mk H
    clear H
    go_wp2
    repeat (go_quiet (fail); try go_wp2)
    go_loopg [16] k1 (fun kq v16 w' => ∃ (x16_2 : Int), v16 = .int .i64 x16_2 ∧ Aside0 (mult_failing.l1 kq l0 x11_1 (l0.length : Int) x11_1 (l0.length : Int) x16_2 = some (r1, r2, r3, r4)) ∧ Aside0 (kq ≤ k1) ∧ Drawn0 w w')
    case atStart => exact ⟨(0), q_rs, H', ⟨Nat.le_refl _⟩, by repeat (first | exact Drawn0.refl _ | apply Drawn0.step)⟩
    case round =>
     clear H'
     q_x c2 c2b0 p2
     obtain ⟨x16_2, rfl, HA, HK2, ⟨m2, rfl⟩⟩ := hrel
     cases gk with
     | zero => exact absurd HA.out (by simp [mult_failing.l1])
     | succ k2 =>
      have H := HA.out
      clear HA
      simp only [mult_failing.l1] at H
      by_cases c3 : x16_2 < (l0.length : Int)
      ·rw [if_pos c3] at H
       have c3b0 : decide (x16_2 < (l0.length : Int)) = true := decide_eq_true c3
       clear c3
       have H' := Aside0.mk H
       clear H
       go_wp2
       repeat (go_quiet (fail); try go_wp2)
       go_loopg [21] k2 (fun kq v21 w' => ∃ (x21_3 : Int), v21 = .int .i64 x21_3 ∧ Aside0 (mult_failing.l2 kq l0 x11_1 x16_2 (l0.length : Int) x11_1 (l0.length : Int) x16_2 (l0.length : Int) x21_3 = some (r1, r2, r3, r4)) ∧ Aside0 (kq ≤ k2) ∧ Drawn0 w w')
       case atStart => exact ⟨(0), q_rs, H', ⟨Nat.le_refl _⟩, by repeat (first | exact Drawn0.refl _ | apply Drawn0.step)⟩
       case round =>
        clear H'
        q_x c2 c2b0 p2 c3 c3b0 p2
        obtain ⟨x21_3, rfl, HA, HK3, ⟨m3, rfl⟩⟩ := hrel
        cases gk with
        | zero => exact absurd HA.out (by simp [mult_failing.l2])
        | succ k3 =>
         have H := HA.out
         clear HA
         simp only [mult_failing.l2] at H
         by_cases c4 : x21_3 < (l0.length : Int)
         ·rw [if_pos c4] at H
          have c4b0 : decide (x21_3 < (l0.length : Int)) = true := decide_eq_true c4
          clear c4
          by_cases c5 : 0 ≤ x11_1
          ·rw [if_pos c5] at H
           have c5b0 : decide (0 ≤ x11_1) = true := decide_eq_true c5
           clear c5
           by_cases c6 : x11_1 < (l0.length : Int)
           ·rw [if_pos c6] at H
            have c6b0 : decide (x11_1 < (l0.length : Int)) = true := decide_eq_true c6
            clear c6
            by_cases c7 : 0 ≤ x16_2
            ·rw [if_pos c7] at H
             have c7b0 : decide (0 ≤ x16_2) = true := decide_eq_true c7
             clear c7
             by_cases c8 : x16_2 < ((rd_L1 l0 x11_1).length : Int)
             ·rw [if_pos c8] at H
              have c8b0 : decide (x16_2 < ((rd_L1 l0 x11_1).length : Int)) = true := decide_eq_true c8
              clear c8
              by_cases c9 : 0 ≤ (rd (rd_L1 l0 x11_1) x16_2)
              ·rw [if_pos c9] at H
               have c9b0 : decide (0 ≤ (rd (rd_L1 l0 x11_1) x16_2)) = true := decide_eq_true c9
               clear c9
               by_cases c10 : (rd (rd_L1 l0 x11_1) x16_2) < (l0.length : Int)
               ·rw [if_pos c10] at H
                have c10b0 : decide ((rd (rd_L1 l0 x11_1) x16_2) < (l0.length : Int)) = true := decide_eq_true c10
                clear c10
                by_cases c11 : 0 ≤ x21_3
                ·rw [if_pos c11] at H
                 have c11b0 : decide (0 ≤ x21_3) = true := decide_eq_true c11
                 clear c11
                 by_cases c12 : x21_3 < ((rd_L1 l0 (rd (rd_L1 l0 x11_1) x16_2)).length : Int)
                 ·rw [if_pos c12] at H
                  have c12b0 : decide (x21_3 < ((rd_L1 l0 (rd (rd_L1 l0 x11_1) x16_2)).length : Int)) = true := decide_eq_true c12
                  clear c12
                  by_cases c13 : x16_2 < (l0.length : Int)
                  ·rw [if_pos c13] at H
                   have c13b0 : decide (x16_2 < (l0.length : Int)) = true := decide_eq_true c13
                   clear c13
                   by_cases c14 : x21_3 < ((rd_L1 l0 x16_2).length : Int)
                   ·rw [if_pos c14] at H
                    have c14b0 : decide (x21_3 < ((rd_L1 l0 x16_2).length : Int)) = true := decide_eq_true c14
                    clear c14
                    by_cases c15 : 0 ≤ (rd (rd_L1 l0 x16_2) x21_3)
                    ·rw [if_pos c15] at H
                     have c15b0 : decide (0 ≤ (rd (rd_L1 l0 x16_2) x21_3)) = true := decide_eq_true c15
                     clear c15
                     by_cases c16 : (rd (rd_L1 l0 x16_2) x21_3) < ((rd_L1 l0 x11_1).length : Int)
                     ·rw [if_pos c16] at H
                      have c16b0 : decide ((rd (rd_L1 l0 x16_2) x21_3) < ((rd_L1 l0 x11_1).length : Int)) = true := decide_eq_true c16
                      clear c16
                      by_cases c17 : (rd (rd_L1 l0 (rd (rd_L1 l0 x11_1) x16_2)) x21_3) = (rd (rd_L1 l0 x11_1) (rd (rd_L1 l0 x16_2) x21_3))
                      ·rw [if_pos c17] at H
                       have c17b0 : ((rd (rd_L1 l0 (rd (rd_L1 l0 x11_1) x16_2)) x21_3) == (rd (rd_L1 l0 x11_1) (rd (rd_L1 l0 x16_2) x21_3))) = true := beq_iff_eq.mpr c17
                       have c17b1 : ((rd (rd_L1 l0 (rd (rd_L1 l0 x11_1) x16_2)) x21_3) != (rd (rd_L1 l0 x11_1) (rd (rd_L1 l0 x16_2) x21_3))) = false := bne_eq_false_iff_eq.mpr c17
                       clear c17
                       have H' := Aside0.mk H
                       clear H
                       have p109 : 0 ≤ (x11_1 : Int) := of_decide_eq_true q_as
                       have q109 : x11_1 < (l0.length : Int) := of_decide_eq_true q_as
                       obtain ⟨ad109, A109_0, c109_0, e109, hx109_0, hl109_0, hi109_0⟩ := at_L1 HR0.out x11_1 p109 q109
                       cases e109
                       have HR109_0 := Aside0.mk hi109_0
                       have HC109_0 := Aside0.mk hl109_0
                       (try clear hi109_0); (try clear hl109_0)
                       q_t p109 q109
                       have p110 : 0 ≤ (x16_2 : Int) := of_decide_eq_true q_as
                       have q110 : x16_2 < ((rd_L1 l0 x11_1).length : Int) := of_decide_eq_true q_as
                       obtain ⟨ad110, e110, hx110_0⟩ := Kd.at_int HR109_0.out x16_2 p110 q110
                       cases e110
                       q_t p110 q110
                       have p111 : 0 ≤ ((rd (rd_L1 l0 x11_1) x16_2) : Int) := of_decide_eq_true q_as
                       have q111 : (rd (rd_L1 l0 x11_1) x16_2) < (l0.length : Int) := of_decide_eq_true q_as
                       obtain ⟨ad111, A111_0, c111_0, e111, hx111_0, hl111_0, hi111_0⟩ := at_L1 HR0.out (rd (rd_L1 l0 x11_1) x16_2) p111 q111
                       obtain rfl : ad109 = ad111 := (by injection e111)
                       have HR111_0 := Aside0.mk hi111_0
                       have HC111_0 := Aside0.mk hl111_0
                       (try clear hi111_0); (try clear hl111_0)
                       q_t p111 q111
                       have p112 : 0 ≤ (x21_3 : Int) := of_decide_eq_true q_as
                       have q112 : x21_3 < ((rd_L1 l0 (rd (rd_L1 l0 x11_1) x16_2)).length : Int) := of_decide_eq_true q_as
                       obtain ⟨ad112, e112, hx112_0⟩ := Kd.at_int HR111_0.out x21_3 p112 q112
                       cases e112
                       q_t p112 q112
                       have p113 : 0 ≤ (x11_1 : Int) := of_decide_eq_true q_as
                       have q113 : x11_1 < (l0.length : Int) := of_decide_eq_true q_as
                       obtain ⟨ad113, A113_0, c113_0, e113, hx113_0, hl113_0, hi113_0⟩ := at_L1 HR0.out x11_1 p113 q113
                       obtain rfl : ad109 = ad113 := (by injection e113)
                       have HR113_0 := Aside0.mk hi113_0
                       have HC113_0 := Aside0.mk hl113_0
                       (try clear hi113_0); (try clear hl113_0)
                       q_t p113 q113
                       have ea_ := Option.some.inj (hx109_0.symm.trans hx113_0)
                       injection ea_ with ea_ en_ ec_
                       subst ea_
                       subst ec_
                       clear en_
                       have p114 : 0 ≤ (x16_2 : Int) := of_decide_eq_true q_as
                       have q114 : x16_2 < (l0.length : Int) := of_decide_eq_true q_as
                       obtain ⟨ad114, A114_0, c114_0, e114, hx114_0, hl114_0, hi114_0⟩ := at_L1 HR0.out x16_2 p114 q114
                       obtain rfl : ad109 = ad114 := (by injection e114)
                       have HR114_0 := Aside0.mk hi114_0
                       have HC114_0 := Aside0.mk hl114_0
                       (try clear hi114_0); (try clear hl114_0)
                       q_t p114 q114
                       have p115 : 0 ≤ (x21_3 : Int) := of_decide_eq_true q_as
                       have q115 : x21_3 < ((rd_L1 l0 x16_2).length : Int) := of_decide_eq_true q_as
                       obtain ⟨ad115, e115, hx115_0⟩ := Kd.at_int HR114_0.out x21_3 p115 q115
                       cases e115
                       q_t p115 q115
                       have p116 : 0 ≤ ((rd (rd_L1 l0 x16_2) x21_3) : Int) := of_decide_eq_true q_as
                       have q116 : (rd (rd_L1 l0 x16_2) x21_3) < ((rd_L1 l0 x11_1).length : Int) := of_decide_eq_true q_as
                       obtain ⟨ad116, e116, hx116_0⟩ := Kd.at_int HR113_0.out (rd (rd_L1 l0 x16_2) x21_3) p116 q116
                       cases e116
                       q_t p116 q116
                       go_wp2
                       repeat (go_quiet (fail); try go_wp2)
                       go_roundg k3
                       case measure => have := HK1.out; have := HK2.out; have := HK3.out; omega
                       case rel => exact ⟨(wrap64 (x21_3 + 1)), q_rs, H', ⟨by have := HK1.out; have := HK2.out; have := HK3.out; omega⟩, by repeat (first | exact Drawn0.refl _ | apply Drawn0.step)⟩
                      ·rw [if_neg c17] at H
                       have c17b0 : ((rd (rd_L1 l0 (rd (rd_L1 l0 x11_1) x16_2)) x21_3) == (rd (rd_L1 l0 x11_1) (rd (rd_L1 l0 x16_2) x21_3))) = false := beq_eq_false_iff_ne.mpr c17
                       have c17b1 : ((rd (rd_L1 l0 (rd (rd_L1 l0 x11_1) x16_2)) x21_3) != (rd (rd_L1 l0 x11_1) (rd (rd_L1 l0 x16_2) x21_3))) = true := bne_iff_ne.mpr c17
                       simp only [Option.some.injEq, Prod.mk.injEq] at H
                       obtain ⟨rfl, rfl, rfl, rfl⟩ := H
                       have p109 : 0 ≤ (x11_1 : Int) := of_decide_eq_true q_as
                       have q109 : x11_1 < (l0.length : Int) := of_decide_eq_true q_as
                       obtain ⟨ad109, A109_0, c109_0, e109, hx109_0, hl109_0, hi109_0⟩ := at_L1 HR0.out x11_1 p109 q109
                       cases e109
                       have HR109_0 := Aside0.mk hi109_0
                       have HC109_0 := Aside0.mk hl109_0
                       (try clear hi109_0); (try clear hl109_0)
                       q_t p109 q109
                       have p110 : 0 ≤ (x16_2 : Int) := of_decide_eq_true q_as
                       have q110 : x16_2 < ((rd_L1 l0 x11_1).length : Int) := of_decide_eq_true q_as
                       obtain ⟨ad110, e110, hx110_0⟩ := Kd.at_int HR109_0.out x16_2 p110 q110
                       cases e110
                       q_t p110 q110
                       have p111 : 0 ≤ ((rd (rd_L1 l0 x11_1) x16_2) : Int) := of_decide_eq_true q_as
                       have q111 : (rd (rd_L1 l0 x11_1) x16_2) < (l0.length : Int) := of_decide_eq_true q_as
                       obtain ⟨ad111, A111_0, c111_0, e111, hx111_0, hl111_0, hi111_0⟩ := at_L1 HR0.out (rd (rd_L1 l0 x11_1) x16_2) p111 q111
                       obtain rfl : ad109 = ad111 := (by injection e111)
                       have HR111_0 := Aside0.mk hi111_0
                       have HC111_0 := Aside0.mk hl111_0
                       (try clear hi111_0); (try clear hl111_0)
                       q_t p111 q111
                       have p112 : 0 ≤ (x21_3 : Int) := of_decide_eq_true q_as
                       have q112 : x21_3 < ((rd_L1 l0 (rd (rd_L1 l0 x11_1) x16_2)).length : Int) := of_decide_eq_true q_as
                       obtain ⟨ad112, e112, hx112_0⟩ := Kd.at_int HR111_0.out x21_3 p112 q112
                       cases e112
                       q_t p112 q112
                       have p113 : 0 ≤ (x11_1 : Int) := of_decide_eq_true q_as
                       have q113 : x11_1 < (l0.length : Int) := of_decide_eq_true q_as
                       obtain ⟨ad113, A113_0, c113_0, e113, hx113_0, hl113_0, hi113_0⟩ := at_L1 HR0.out x11_1 p113 q113
                       obtain rfl : ad109 = ad113 := (by injection e113)
                       have HR113_0 := Aside0.mk hi113_0
                       have HC113_0 := Aside0.mk hl113_0
                       (try clear hi113_0); (try clear hl113_0)
                       q_t p113 q113
                       have ea_ := Option.some.inj (hx109_0.symm.trans hx113_0)
                       injection ea_ with ea_ en_ ec_
                       subst ea_
                       subst ec_
                       clear en_
                       have p114 : 0 ≤ (x16_2 : Int) := of_decide_eq_true q_as
                       have q114 : x16_2 < (l0.length : Int) := of_decide_eq_true q_as
                       obtain ⟨ad114, A114_0, c114_0, e114, hx114_0, hl114_0, hi114_0⟩ := at_L1 HR0.out x16_2 p114 q114
                       obtain rfl : ad109 = ad114 := (by injection e114)
                       have HR114_0 := Aside0.mk hi114_0
                       have HC114_0 := Aside0.mk hl114_0
                       (try clear hi114_0); (try clear hl114_0)
                       q_t p114 q114
                       have p115 : 0 ≤ (x21_3 : Int) := of_decide_eq_true q_as
                       have q115 : x21_3 < ((rd_L1 l0 x16_2).length : Int) := of_decide_eq_true q_as
                       obtain ⟨ad115, e115, hx115_0⟩ := Kd.at_int HR114_0.out x21_3 p115 q115
                       cases e115
                       q_t p115 q115
                       have p116 : 0 ≤ ((rd (rd_L1 l0 x16_2) x21_3) : Int) := of_decide_eq_true q_as
                       have q116 : (rd (rd_L1 l0 x16_2) x21_3) < ((rd_L1 l0 x11_1).length : Int) := of_decide_eq_true q_as
                       obtain ⟨ad116, e116, hx116_0⟩ := Kd.at_int HR113_0.out (rd (rd_L1 l0 x16_2) x21_3) p116 q116
                       cases e116
                       q_t p116 q116
                       go_wp2
                       repeat (go_quiet (fail); try go_wp2)
                       refine bodyPost_ret (results_list (rs := [.tmp 2, .tmp 3, .tmp 4, .tmp 5]) rfl (by simp) (.tmp (.tmp (.tmp (.tmp .nil))))) rfl ?_
                       exact ⟨by first | rfl | (simp; done) | (simp [*]; done), by repeat (first | exact Drawn0.refl _ | apply Drawn0.step)⟩
                     ·rw [if_neg c16] at H
                      exact absurd H (by simp)
                    ·rw [if_neg c15] at H
                     exact absurd H (by simp)
                   ·rw [if_neg c14] at H
                    exact absurd H (by simp)
                  ·rw [if_neg c13] at H
                   exact absurd H (by simp)
                 ·rw [if_neg c12] at H
                  exact absurd H (by simp)
                ·rw [if_neg c11] at H
                 exact absurd H (by simp)
               ·rw [if_neg c10] at H
                exact absurd H (by simp)
              ·rw [if_neg c9] at H
               exact absurd H (by simp)
             ·rw [if_neg c8] at H
              exact absurd H (by simp)
            ·rw [if_neg c7] at H
             exact absurd H (by simp)
           ·rw [if_neg c6] at H
            exact absurd H (by simp)
          ·rw [if_neg c5] at H
           exact absurd H (by simp)
         ·rw [if_neg c4] at H
          have c4b0 : decide (x21_3 < (l0.length : Int)) = false := decide_eq_false c4
          clear c4
          have H' := Aside0.mk H
          clear H
          go_wp2
          repeat (go_quiet (fail); try go_wp2)
          go_roundg k3
          case measure => have := HK1.out; have := HK2.out; have := HK3.out; omega
          case rel => exact ⟨(wrap64 (x16_2 + 1)), q_rs, H', ⟨by have := HK1.out; have := HK2.out; have := HK3.out; omega⟩, by repeat (first | exact Drawn0.refl _ | apply Drawn0.step)⟩
      ·rw [if_neg c3] at H
       have c3b0 : decide (x16_2 < (l0.length : Int)) = false := decide_eq_false c3
       clear c3
       have H' := Aside0.mk H
       clear H
       go_wp2
       repeat (go_quiet (fail); try go_wp2)
       go_roundg k2
       case measure => have := HK1.out; have := HK2.out; omega
       case rel => exact ⟨(wrap64 (x11_1 + 1)), q_rs, H', ⟨by have := HK1.out; have := HK2.out; omega⟩, by repeat (first | exact Drawn0.refl _ | apply Drawn0.step)⟩
   ·rw [if_neg c2] at H
    have c2b0 : decide (x11_1 < (l0.length : Int)) = false := decide_eq_false c2
    clear c2
    simp only [Option.some.injEq, Prod.mk.injEq] at H
    obtain ⟨rfl, rfl, rfl, rfl⟩ := H
    go_wp2
    repeat (go_quiet (fail); try go_wp2)
    refine bodyPost_ret (results_list (rs := [.tmp 2, .tmp 3, .tmp 4, .tmp 5]) rfl (by simp) (.tmp (.tmp (.tmp (.tmp .nil))))) rfl ?_
    exact ⟨by first | rfl | (simp; done) | (simp [*]; done), by repeat (first | exact Drawn0.refl _ | apply Drawn0.step)⟩

/-! ### mult_Validate: function 20 -/
def mult_Validate.f (k : Nat) (l0 : List (List Int)) : Option (Int) := (mult_shape.f k l0).bind fun t117 => (if t117 = 0 then ((mult_failing.f k l0).bind fun bt118 => (if bt118.2.2.2 = true then (some 5) else (some 0))) else (some t117))
theorem mult_Validate.mono : ∀ a0 k, LeO (mult_Validate.f k a0) (mult_Validate.f (k + 1) a0) := by
 intro a0 k
 unfold mult_Validate.f
 repeat' first
   | (with_reducible exact mult_failing.mono _ _)
   | (with_reducible exact mult_shape.mono _ _)
   | (with_reducible exact LeO.refl _)
   | (with_reducible exact LeO.none _)
   | (with_reducible refine LeO.ite ?_ ?_)
   | (with_reducible refine LeO.bind ?_ (fun _ => ?_))
   | exact mult_failing.mono _ _
   | exact mult_shape.mono _ _
   | exact LeO.none _
   | refine LeO.ite ?_ ?_
   | refine LeO.bind ?_ (fun _ => ?_)
set_option maxHeartbeats 8000000 in
set_option maxRecDepth 100000 in
theorem mult_Validate.calls (k : Nat) (A0 : Option Addr) (c0 : Nat) (l0 : List (List Int)) (r : Int) (w : World) (hr0 : Kd.C (Kd.slice 3 (Kd.int .i64)) w A0 l0.length l0) (hc0 : l0.length ≤ c0) (h : mult_Validate.f k l0 = some r) :
  Calls Try.prog 20 #[.slice A0 l0.length c0] w fun e w' => e = .returned (.int .i64 r) ∧ Drawn0 w w' := by
 have HR0 := Aside0.mk hr0
 have HC0 := Aside0.mk hc0
 (try clear hr0); (try clear hc0)
 have H : ((mult_shape.f k l0).bind fun t117 => (if t117 = 0 then ((mult_failing.f k l0).bind fun bt118 => (if bt118.2.2.2 = true then (some 5) else (some 0))) else (some t117))) = some r := h
 clear h
 replace H := Option.bind_eq_some_iff.mp H
 obtain ⟨t117, A20, H⟩ := H
 replace H : (if t117 = 0 then ((mult_failing.f k l0).bind fun bt118 => (if bt118.2.2.2 = true then (some 5) else (some 0))) else (some t117)) = some r := H
 have A2 := Aside0.mk A20
 clear A20
 by_cases c3 : t117 = 0
 ·rw [if_pos c3] at H
  have c3b0 : (t117 == 0) = true := beq_iff_eq.mpr c3
  have c3b1 : (t117 != 0) = false := bne_eq_false_iff_eq.mpr c3
  clear c3
  replace H := Option.bind_eq_some_iff.mp H
  obtain ⟨⟨t118, t119, t120, t121⟩, A40, H⟩ := H
  replace H : (if t121 = true then (some 5) else (some 0)) = some r := H
  have A4 := Aside0.mk A40
  clear A40
  by_cases c5 : t121 = true
  ·subst c5
   have H1 : (some 5) = some r := by rw [if_pos rfl] at H; exact H
   clear H
   have H := H1
   clear H1
   obtain rfl := Option.some.inj H
   go_enter Try.func20, Try.ntmps20
   go_wp2_with (first | ((with_reducible refine gate_callee (f := 49) rfl ?_); refine goesL_ (some 9) rfl rfl Try.func49 (by kernel_rfl) rfl #[.slice A0 l0.length c0] rfl q_ml ?_; (with_reducible refine (mult_shape.calls k _ _ l0 t117 _ ?side1 ?side2 A2.out).mono ?_); (case side1 => q_cc HR0.out); (case side2 => exact HC0.out); rintro e w' ⟨rfl, ⟨nd, rfl⟩⟩; refine ⟨_, rfl, ?_⟩) | ((with_reducible refine gate_callee (f := 50) rfl ?_); refine goesL_ (some 15) rfl rfl Try.func50 (by kernel_rfl) rfl #[.slice A0 l0.length c0] rfl q_ml ?_; (with_reducible refine (mult_failing.calls k _ _ l0 t118 t119 t120 true _ ?side1 ?side2 A4.out).mono ?_); (case side1 => q_cc HR0.out); (case side2 => exact HC0.out); rintro e w' ⟨rfl, ⟨nd, rfl⟩⟩; refine ⟨_, rfl, ?_⟩))
   go_ret
   exact ⟨by first | rfl | (simp; done) | (simp [*]; done), by repeat (first | exact Drawn0.refl _ | apply Drawn0.step)⟩
  ·replace c5 := Bool.eq_false_iff.mpr c5
   subst c5
   have H1 : (some 0) = some r := by rw [if_neg (show ¬ (false = true) by decide)] at H; exact H
   clear H
   have H := H1
   clear H1
   obtain rfl := Option.some.inj H
   go_enter Try.func20, Try.ntmps20
   go_wp2_with (first | ((with_reducible refine gate_callee (f := 49) rfl ?_); refine goesL_ (some 9) rfl rfl Try.func49 (by kernel_rfl) rfl #[.slice A0 l0.length c0] rfl q_ml ?_; (with_reducible refine (mult_shape.calls k _ _ l0 t117 _ ?side1 ?side2 A2.out).mono ?_); (case side1 => q_cc HR0.out); (case side2 => exact HC0.out); rintro e w' ⟨rfl, ⟨nd, rfl⟩⟩; refine ⟨_, rfl, ?_⟩) | ((with_reducible refine gate_callee (f := 50) rfl ?_); refine goesL_ (some 15) rfl rfl Try.func50 (by kernel_rfl) rfl #[.slice A0 l0.length c0] rfl q_ml ?_; (with_reducible refine (mult_failing.calls k _ _ l0 t118 t119 t120 false _ ?side1 ?side2 A4.out).mono ?_); (case side1 => q_cc HR0.out); (case side2 => exact HC0.out); rintro e w' ⟨rfl, ⟨nd, rfl⟩⟩; refine ⟨_, rfl, ?_⟩))
   go_ret
   exact ⟨by first | rfl | (simp; done) | (simp [*]; done), by repeat (first | exact Drawn0.refl _ | apply Drawn0.step)⟩
 ·rw [if_neg c3] at H
  have c3b0 : (t117 == 0) = false := beq_eq_false_iff_ne.mpr c3
  have c3b1 : (t117 != 0) = true := bne_iff_ne.mpr c3
  obtain rfl := Option.some.inj H
  go_enter Try.func20, Try.ntmps20
  go_wp2_with (first | ((with_reducible refine gate_callee (f := 49) rfl ?_); refine goesL_ (some 9) rfl rfl Try.func49 (by kernel_rfl) rfl #[.slice A0 l0.length c0] rfl q_ml ?_; (with_reducible refine (mult_shape.calls k _ _ l0 t117 _ ?side1 ?side2 A2.out).mono ?_); (case side1 => q_cc HR0.out); (case side2 => exact HC0.out); rintro e w' ⟨rfl, ⟨nd, rfl⟩⟩; refine ⟨_, rfl, ?_⟩))
  go_ret
  exact ⟨by first | rfl | (simp; done) | (simp [*]; done), by repeat (first | exact Drawn0.refl _ | apply Drawn0.step)⟩

/-! ### group_inverses: function 79 -/
mutual
def group_inverses.j2 : Nat → List (List Int) → Int → Option (Int × List Int × Bool)
 | 0, _, _ => none
 | k + 1, x0, x5 => if x5 < 0 then (some (0, ([] : List Int), false)) else (if 0 ≤ (x0.length : Int) then (if ((x0.length : Int) : Int).toNat ≤ 35184372088832 then (group_inverses.l2 k x0 x5 (List.replicate ((x0.length : Int) : Int).toNat 0) (x0.length : Int) 0) else (none)) else (none))
def group_inverses.l2 : Nat → List (List Int) → Int → List Int → Int → Int → Option (Int × List Int × Bool)
 | 0, _, _, _, _, _ => none
 | k + 1, x0, x5, x9, x55, x56 => if x56 < x55 then (if 0 ≤ x56 then (if x56 < (x9.length : Int) then (group_inverses.l3 k x0 x5 (x9.set (x56 : Int).toNat (-1)) x56 x55 x56 (x0.length : Int) 0) else (none)) else (none)) else (some (x5, x9, true))
def group_inverses.l3 : Nat → List (List Int) → Int → List Int → Int → Int → Int → Int → Int → Option (Int × List Int × Bool)
 | 0, _, _, _, _, _, _, _, _ => none
 | k + 1, x0, x5, x9, x10, x55, x56, x63, x64 => if x64 < x63 then (if 0 ≤ x10 then (if x10 < (x0.length : Int) then (if 0 ≤ x64 then (if x64 < ((rd_L1 x0 x10).length : Int) then (if (rd (rd_L1 x0 x10) x64) = x5 then (if x64 < (x0.length : Int) then (if x10 < ((rd_L1 x0 x64).length : Int) then (if (rd (rd_L1 x0 x64) x10) = x5 then (if x10 < (x9.length : Int) then (group_inverses.l3 k x0 x5 (x9.set (x10 : Int).toNat x64) x10 x55 x56 x63 (wrap64 (x64 + 1))) else (none)) else (group_inverses.l3 k x0 x5 x9 x10 x55 x56 x63 (wrap64 (x64 + 1)))) else (none)) else (none)) else (group_inverses.l3 k x0 x5 x9 x10 x55 x56 x63 (wrap64 (x64 + 1)))) else (none)) else (none)) else (none)) else (none)) else (if 0 ≤ x10 then (if x10 < (x9.length : Int) then (if (rd x9 x10) < 0 then (some (0, ([] : List Int), false)) else (group_inverses.l2 k x0 x5 x9 x55 (wrap64 (x56 + 1)))) else (none)) else (none))
def group_inverses.l0 : Nat → List (List Int) → Int → Int → Int → Option (Int × List Int × Bool)
 | 0, _, _, _, _ => none
 | k + 1, x0, x5, x13, x14 => if x14 < x13 then (group_inverses.l1 k x0 x5 x14 true x13 x14 (x0.length : Int) 0) else (group_inverses.j2 k x0 x5)
def group_inverses.l1 : Nat → List (List Int) → Int → Int → Bool → Int → Int → Int → Int → Option (Int × List Int × Bool)
 | 0, _, _, _, _, _, _, _, _ => none
 | k + 1, x0, x5, x6, x7, x13, x14, x18, x19 => if x19 < x18 then (if x7 = true then (if 0 ≤ x6 then (if x6 < (x0.length : Int) then (if 0 ≤ x19 then (if x19 < ((rd_L1 x0 x6).length : Int) then (if (rd (rd_L1 x0 x6) x19) = x19 then (if x19 < (x0.length : Int) then (if x6 < ((rd_L1 x0 x19).length : Int) then (group_inverses.l1 k x0 x5 x6 ((rd (rd_L1 x0 x19) x6) == x19) x13 x14 x18 (wrap64 (x19 + 1))) else (none)) else (none)) else (group_inverses.l1 k x0 x5 x6 false x13 x14 x18 (wrap64 (x19 + 1)))) else (none)) else (none)) else (none)) else (none)) else (group_inverses.l1 k x0 x5 x6 false x13 x14 x18 (wrap64 (x19 + 1)))) else (if x7 = true then (group_inverses.j2 k x0 x6) else (group_inverses.l0 k x0 x5 x13 (wrap64 (x14 + 1))))
end
def group_inverses.f (k : Nat) (l0 : List (List Int)) : Option (Int × List Int × Bool) := group_inverses.l0 k l0 (-1) (l0.length : Int) 0
theorem group_inverses.mono_l : ∀ k, (∀ y0 y1, LeO (group_inverses.j2 k y0 y1) (group_inverses.j2 (k + 1) y0 y1)) ∧ (∀ y0 y1 y2 y3 y4, LeO (group_inverses.l2 k y0 y1 y2 y3 y4) (group_inverses.l2 (k + 1) y0 y1 y2 y3 y4)) ∧ (∀ y0 y1 y2 y3 y4 y5 y6 y7, LeO (group_inverses.l3 k y0 y1 y2 y3 y4 y5 y6 y7) (group_inverses.l3 (k + 1) y0 y1 y2 y3 y4 y5 y6 y7)) ∧ (∀ y0 y1 y2 y3, LeO (group_inverses.l0 k y0 y1 y2 y3) (group_inverses.l0 (k + 1) y0 y1 y2 y3)) ∧ (∀ y0 y1 y2 y3 y4 y5 y6 y7, LeO (group_inverses.l1 k y0 y1 y2 y3 y4 y5 y6 y7) (group_inverses.l1 (k + 1) y0 y1 y2 y3 y4 y5 y6 y7))
 | 0 => ⟨fun _ _ r h => by simp [group_inverses.j2] at h, fun _ _ _ _ _ r h => by simp [group_inverses.l2] at h, fun _ _ _ _ _ _ _ _ r h => by simp [group_inverses.l3] at h, fun _ _ _ _ r h => by simp [group_inverses.l0] at h, fun _ _ _ _ _ _ _ _ r h => by simp [group_inverses.l1] at h⟩
 | k + 1 => by
  obtain ⟨ih0, ih1, ih2, ih3, ih4⟩ := group_inverses.mono_l k
  refine ⟨?_, ?_, ?_, ?_, ?_⟩
  ·intro y0 y1
   unfold group_inverses.j2
   repeat' first
   | (with_reducible exact ih0 _ _)
   | (with_reducible exact ih1 _ _ _ _ _)
   | (with_reducible exact ih2 _ _ _ _ _ _ _ _)
   | (with_reducible exact ih3 _ _ _ _)
   | (with_reducible exact ih4 _ _ _ _ _ _ _ _)
   | (with_reducible exact LeO.refl _)
   | (with_reducible exact LeO.none _)
   | (with_reducible refine LeO.ite ?_ ?_)
   | (with_reducible refine LeO.bind ?_ (fun _ => ?_))
   | exact ih0 _ _
   | exact ih1 _ _ _ _ _
   | exact ih2 _ _ _ _ _ _ _ _
   | exact ih3 _ _ _ _
   | exact ih4 _ _ _ _ _ _ _ _
   | exact LeO.none _
   | refine LeO.ite ?_ ?_
   | refine LeO.bind ?_ (fun _ => ?_)
  ·intro y0 y1 y2 y3 y4
   unfold group_inverses.l2
   repeat' first
   | (with_reducible exact ih0 _ _)
   | (with_reducible exact ih1 _ _ _ _ _)
   | (with_reducible exact ih2 _ _ _ _ _ _ _ _)
   | (with_reducible exact ih3 _ _ _ _)
   | (with_reducible exact ih4 _ _ _ _ _ _ _ _)
   | (with_reducible exact LeO.refl _)
   | (with_reducible exact LeO.none _)
   | (with_reducible refine LeO.ite ?_ ?_)
   | (with_reducible refine LeO.bind ?_ (fun _ => ?_))
   | exact ih0 _ _
   | exact ih1 _ _ _ _ _
   | exact ih2 _ _ _ _ _ _ _ _
   | exact ih3 _ _ _ _
   | exact ih4 _ _ _ _ _ _ _ _
   | exact LeO.none _
   | refine LeO.ite ?_ ?_
   | refine LeO.bind ?_ (fun _ => ?_)
  ·intro y0 y1 y2 y3 y4 y5 y6 y7
   unfold group_inverses.l3
   repeat' first
   | (with_reducible exact ih0 _ _)
   | (with_reducible exact ih1 _ _ _ _ _)
   | (with_reducible exact ih2 _ _ _ _ _ _ _ _)
   | (with_reducible exact ih3 _ _ _ _)
   | (with_reducible exact ih4 _ _ _ _ _ _ _ _)
   | (with_reducible exact LeO.refl _)
   | (with_reducible exact LeO.none _)
   | (with_reducible refine LeO.ite ?_ ?_)
   | (with_reducible refine LeO.bind ?_ (fun _ => ?_))
   | exact ih0 _ _
   | exact ih1 _ _ _ _ _
   | exact ih2 _ _ _ _ _ _ _ _
   | exact ih3 _ _ _ _
   | exact ih4 _ _ _ _ _ _ _ _
   | exact LeO.none _
   | refine LeO.ite ?_ ?_
   | refine LeO.bind ?_ (fun _ => ?_)
  ·intro y0 y1 y2 y3
   unfold group_inverses.l0
   repeat' first
   | (with_reducible exact ih0 _ _)
   | (with_reducible exact ih1 _ _ _ _ _)
   | (with_reducible exact ih2 _ _ _ _ _ _ _ _)
   | (with_reducible exact ih3 _ _ _ _)
   | (with_reducible exact ih4 _ _ _ _ _ _ _ _)
   | (with_reducible exact LeO.refl _)
   | (with_reducible exact LeO.none _)
   | (with_reducible refine LeO.ite ?_ ?_)
   | (with_reducible refine LeO.bind ?_ (fun _ => ?_))
   | exact ih0 _ _
   | exact ih1 _ _ _ _ _
   | exact ih2 _ _ _ _ _ _ _ _
   | exact ih3 _ _ _ _
   | exact ih4 _ _ _ _ _ _ _ _
   | exact LeO.none _
   | refine LeO.ite ?_ ?_
   | refine LeO.bind ?_ (fun _ => ?_)
  ·intro y0 y1 y2 y3 y4 y5 y6 y7
   unfold group_inverses.l1
   repeat' first
   | (with_reducible exact ih0 _ _)
   | (with_reducible exact ih1 _ _ _ _ _)
   | (with_reducible exact ih2 _ _ _ _ _ _ _ _)
   | (with_reducible exact ih3 _ _ _ _)
   | (with_reducible exact ih4 _ _ _ _ _ _ _ _)
   | (with_reducible exact LeO.refl _)
   | (with_reducible exact LeO.none _)
   | (with_reducible refine LeO.ite ?_ ?_)
   | (with_reducible refine LeO.bind ?_ (fun _ => ?_))
   | exact ih0 _ _
   | exact ih1 _ _ _ _ _
   | exact ih2 _ _ _ _ _ _ _ _
   | exact ih3 _ _ _ _
   | exact ih4 _ _ _ _ _ _ _ _
   | exact LeO.none _
   | refine LeO.ite ?_ ?_
   | refine LeO.bind ?_ (fun _ => ?_)
theorem group_inverses.mono : ∀ a0 k, LeO (group_inverses.f k a0) (group_inverses.f (k + 1) a0) := by
 intro a0 k
 obtain ⟨ih0, ih1, ih2, ih3, ih4⟩ := group_inverses.mono_l k
 unfold group_inverses.f
 repeat' first
   | (with_reducible exact ih0 _ _)
   | (with_reducible exact ih1 _ _ _ _ _)
   | (with_reducible exact ih2 _ _ _ _ _ _ _ _)
   | (with_reducible exact ih3 _ _ _ _)
   | (with_reducible exact ih4 _ _ _ _ _ _ _ _)
   | (with_reducible exact LeO.refl _)
   | (with_reducible exact LeO.none _)
   | (with_reducible refine LeO.ite ?_ ?_)
   | (with_reducible refine LeO.bind ?_ (fun _ => ?_))
   | exact ih0 _ _
   | exact ih1 _ _ _ _ _
   | exact ih2 _ _ _ _ _ _ _ _
   | exact ih3 _ _ _ _
   | exact ih4 _ _ _ _ _ _ _ _
   | exact LeO.none _
   | refine LeO.ite ?_ ?_
   | refine LeO.bind ?_ (fun _ => ?_)
set_option maxHeartbeats 8000000 in
set_option maxRecDepth 100000 in
theorem group_inverses.calls (k : Nat) (A0 : Option Addr) (c0 : Nat) (l0 : List (List Int)) (r1 : Int) (r2 : List Int) (r3 : Bool) (w : World) (hr0 : Kd.C (Kd.slice 3 (Kd.int .i64)) w A0 l0.length l0) (hc0 : l0.length ≤ c0) (h : group_inverses.f k l0 = some (r1, r2, r3)) :
  Calls Try.prog 79 #[.slice A0 l0.length c0] w fun e w' => ∃ v1_ : Value, e = .returned (.tuple #[.int .i64 r1, v1_, .bool r3]) ∧ Kd.R (Kd.int .i64) 3 w' w.heap.size (fun _ => True) v1_ r2 ∧ Below w.heap.size w w' := by
 have HR0 := Aside0.mk hr0
 have HC0 := Aside0.mk hc0
 (try clear hr0); (try clear hc0)
 have HB := Aside0.mk (Below.refl w.heap.size w)
 have H : (group_inverses.l0 k l0 (-1) (l0.length : Int) 0) = some (r1, r2, r3) := h
 clear h
 have HC2 := Aside0.mk H
 clear H
 go_enter Try.func79, Try.ntmps79
 go_upto_block 0 with (fail)
 go_cut [5] (fun v5 wc => ∃ (kq : Nat) (x5_1 : Int), v5 = .int .i64 x5_1 ∧ Aside0 (group_inverses.j2 kq l0 x5_1 = some (r1, r2, r3)) ∧ Aside0 (kq ≤ k) ∧ Aside0 (Below w.heap.size w wc))
 case first =>
  have H := HC2.out
  clear HC2
  have H' := Aside0.mk H
  clear H
  go_wp2
  go_loopg [5, 14] k (fun kq v5 v14 w' => ∃ (x5_1 : Int) (x14_1 : Int), v5 = .int .i64 x5_1 ∧ v14 = .int .i64 x14_1 ∧ Aside0 (group_inverses.l0 kq l0 x5_1 (l0.length : Int) x14_1 = some (r1, r2, r3)) ∧ Aside0 (kq ≤ k) ∧ Aside0 (Below w.heap.size w w'))
  case atStart => exact ⟨((-1)), (0), q_rs, q_rs, H', ⟨Nat.le_refl _⟩, ⟨by repeat (first | (with_reducible first | exact HB.out | apply below_alloc | apply pw_below_drewN | apply below_drew1) | exact HB.out)⟩⟩
  case round =>
   clear H'
   try clear p2
   obtain ⟨x5_1, x14_1, rfl, rfl, HA, HK1, HB⟩ := hrel
   cases gk with
   | zero => exact absurd HA.out (by simp [group_inverses.l0])
   | succ k1 =>
    have H := HA.out
    clear HA
    simp only [group_inverses.l0] at H
    by_cases c3 : x14_1 < (l0.length : Int)
    ·rw [if_pos c3] at H
     have c3b0 : decide (x14_1 < (l0.length : Int)) = true := decide_eq_true c3
     clear c3
     (first | rw [c3b0] | (simp only [i64_w, i32_w]; rw [c3b0]) | skip)
     have H' := Aside0.mk H
     clear H
     go_wp2
     go_loopg [7, 19] k1 (fun kq v7 v19 w' => ∃ (x7_2 : Bool) (x19_2 : Int), v7 = .bool x7_2 ∧ v19 = .int .i64 x19_2 ∧ Aside0 (group_inverses.l1 kq l0 x5_1 x14_1 x7_2 (l0.length : Int) x14_1 (l0.length : Int) x19_2 = some (r1, r2, r3)) ∧ Aside0 (kq ≤ k1) ∧ Aside0 (Below w.heap.size w w'))
     case atStart => exact ⟨(true), (0), q_rs, q_rs, H', ⟨Nat.le_refl _⟩, ⟨by repeat (first | (with_reducible first | exact HB.out | apply below_alloc | apply pw_below_drewN | apply below_drew1) | exact HB.out)⟩⟩
     case round =>
      clear H'
      q_x p2 c3 c3b0 p2
      obtain ⟨x7_2, x19_2, rfl, rfl, HA, HK2, HB⟩ := hrel
      cases gk with
      | zero => exact absurd HA.out (by simp [group_inverses.l1])
      | succ k2 =>
       have H := HA.out
       clear HA
       simp only [group_inverses.l1] at H
       by_cases c4 : x19_2 < (l0.length : Int)
       ·rw [if_pos c4] at H
        have c4b0 : decide (x19_2 < (l0.length : Int)) = true := decide_eq_true c4
        clear c4
        by_cases c5 : x7_2 = true
        ·subst c5
         have H1 : (if 0 ≤ x14_1 then (if x14_1 < (l0.length : Int) then (if 0 ≤ x19_2 then (if x19_2 < ((rd_L1 l0 x14_1).length : Int) then (if (rd (rd_L1 l0 x14_1) x19_2) = x19_2 then (if x19_2 < (l0.length : Int) then (if x14_1 < ((rd_L1 l0 x19_2).length : Int) then (group_inverses.l1 k2 l0 x5_1 x14_1 ((rd (rd_L1 l0 x19_2) x14_1) == x19_2) (l0.length : Int) x14_1 (l0.length : Int) (wrap64 (x19_2 + 1))) else (none)) else (none)) else (group_inverses.l1 k2 l0 x5_1 x14_1 false (l0.length : Int) x14_1 (l0.length : Int) (wrap64 (x19_2 + 1)))) else (none)) else (none)) else (none)) else (none)) = some (r1, r2, r3) := by rw [if_pos rfl] at H; exact H
         clear H
         have H := H1
         clear H1
         by_cases c6 : 0 ≤ x14_1
         ·rw [if_pos c6] at H
          have c6b0 : decide (0 ≤ x14_1) = true := decide_eq_true c6
          clear c6
          by_cases c7 : x14_1 < (l0.length : Int)
          ·rw [if_pos c7] at H
           have c7b0 : decide (x14_1 < (l0.length : Int)) = true := decide_eq_true c7
           clear c7
           by_cases c8 : 0 ≤ x19_2
           ·rw [if_pos c8] at H
            have c8b0 : decide (0 ≤ x19_2) = true := decide_eq_true c8
            clear c8
            by_cases c9 : x19_2 < ((rd_L1 l0 x14_1).length : Int)
            ·rw [if_pos c9] at H
             have c9b0 : decide (x19_2 < ((rd_L1 l0 x14_1).length : Int)) = true := decide_eq_true c9
             clear c9
             by_cases c10 : (rd (rd_L1 l0 x14_1) x19_2) = x19_2
             ·rw [if_pos c10] at H
              have c10b0 : ((rd (rd_L1 l0 x14_1) x19_2) == x19_2) = true := beq_iff_eq.mpr c10
              have c10b1 : ((rd (rd_L1 l0 x14_1) x19_2) != x19_2) = false := bne_eq_false_iff_eq.mpr c10
              clear c10
              by_cases c11 : x19_2 < (l0.length : Int)
              ·rw [if_pos c11] at H
               have c11b0 : decide (x19_2 < (l0.length : Int)) = true := decide_eq_true c11
               clear c11
               by_cases c12 : x14_1 < ((rd_L1 l0 x19_2).length : Int)
               ·rw [if_pos c12] at H
                have c12b0 : decide (x14_1 < ((rd_L1 l0 x19_2).length : Int)) = true := decide_eq_true c12
                clear c12
                have H' := Aside0.mk H
                clear H
                have p122 : 0 ≤ (x14_1 : Int) := of_decide_eq_true q_as
                have q122 : x14_1 < (l0.length : Int) := of_decide_eq_true q_as
                obtain ⟨ad122, A122_0, c122_0, e122, hx122_0, hl122_0, hi122_0⟩ := at_L1 HR0.out x14_1 p122 q122
                cases e122
                replace hx122_0 := (HB.out.cell (World.block_lt_of_cell? w _ hx122_0)).trans hx122_0
                have HR122_0 := Aside0.mk hi122_0
                have HC122_0 := Aside0.mk hl122_0
                (try clear hi122_0); (try clear hl122_0)
                q_t p122 q122
                have p123 : 0 ≤ (x19_2 : Int) := of_decide_eq_true q_as
                have q123 : x19_2 < ((rd_L1 l0 x14_1).length : Int) := of_decide_eq_true q_as
                obtain ⟨ad123, e123, hx123_0⟩ := Kd.at_int HR122_0.out x19_2 p123 q123
                cases e123
                replace hx123_0 := (HB.out.cell (World.block_lt_of_cell? w _ hx123_0)).trans hx123_0
                q_t p123 q123
                have p124 : 0 ≤ (x19_2 : Int) := of_decide_eq_true q_as
                have q124 : x19_2 < (l0.length : Int) := of_decide_eq_true q_as
                obtain ⟨ad124, A124_0, c124_0, e124, hx124_0, hl124_0, hi124_0⟩ := at_L1 HR0.out x19_2 p124 q124
                obtain rfl : ad122 = ad124 := (by injection e124)
                replace hx124_0 := (HB.out.cell (World.block_lt_of_cell? w _ hx124_0)).trans hx124_0
                have HR124_0 := Aside0.mk hi124_0
                have HC124_0 := Aside0.mk hl124_0
                (try clear hi124_0); (try clear hl124_0)
                q_t p124 q124
                have p125 : 0 ≤ (x14_1 : Int) := of_decide_eq_true q_as
                have q125 : x14_1 < ((rd_L1 l0 x19_2).length : Int) := of_decide_eq_true q_as
                obtain ⟨ad125, e125, hx125_0⟩ := Kd.at_int HR124_0.out x14_1 p125 q125
                cases e125
                replace hx125_0 := (HB.out.cell (World.block_lt_of_cell? w _ hx125_0)).trans hx125_0
                q_t p125 q125
                go_wp2
                go_roundg k2
                case measure => have := HK1.out; have := HK2.out; omega
                case rel => exact ⟨(((rd (rd_L1 l0 x19_2) x14_1) == x19_2)), (wrap64 (x19_2 + 1)), q_rs, q_rs, H', ⟨by have := HK1.out; have := HK2.out; omega⟩, ⟨by repeat (first | (with_reducible first | exact HB.out | apply below_alloc | apply pw_below_drewN | apply below_drew1) | exact HB.out)⟩⟩
               ·rw [if_neg c12] at H
                exact absurd H (by simp)
              ·rw [if_neg c11] at H
               exact absurd H (by simp)
             ·rw [if_neg c10] at H
              have c10b0 : ((rd (rd_L1 l0 x14_1) x19_2) == x19_2) = false := beq_eq_false_iff_ne.mpr c10
              have c10b1 : ((rd (rd_L1 l0 x14_1) x19_2) != x19_2) = true := bne_iff_ne.mpr c10
              have H' := Aside0.mk H
              clear H
              have p122 : 0 ≤ (x14_1 : Int) := of_decide_eq_true q_as
              have q122 : x14_1 < (l0.length : Int) := of_decide_eq_true q_as
              obtain ⟨ad122, A122_0, c122_0, e122, hx122_0, hl122_0, hi122_0⟩ := at_L1 HR0.out x14_1 p122 q122
              cases e122
              replace hx122_0 := (HB.out.cell (World.block_lt_of_cell? w _ hx122_0)).trans hx122_0
              have HR122_0 := Aside0.mk hi122_0
              have HC122_0 := Aside0.mk hl122_0
              (try clear hi122_0); (try clear hl122_0)
              q_t p122 q122
              have p123 : 0 ≤ (x19_2 : Int) := of_decide_eq_true q_as
              have q123 : x19_2 < ((rd_L1 l0 x14_1).length : Int) := of_decide_eq_true q_as
              obtain ⟨ad123, e123, hx123_0⟩ := Kd.at_int HR122_0.out x19_2 p123 q123
              cases e123
              replace hx123_0 := (HB.out.cell (World.block_lt_of_cell? w _ hx123_0)).trans hx123_0
              q_t p123 q123
              go_wp2
              go_roundg k2
              case measure => have := HK1.out; have := HK2.out; omega
              case rel => exact ⟨(false), (wrap64 (x19_2 + 1)), q_rs, q_rs, H', ⟨by have := HK1.out; have := HK2.out; omega⟩, ⟨by repeat (first | (with_reducible first | exact HB.out | apply below_alloc | apply pw_below_drewN | apply below_drew1) | exact HB.out)⟩⟩
            ·rw [if_neg c9] at H
             exact absurd H (by simp)
           ·rw [if_neg c8] at H
            exact absurd H (by simp)
          ·rw [if_neg c7] at H
           exact absurd H (by simp)
         ·rw [if_neg c6] at H
          exact absurd H (by simp)
        ·replace c5 := Bool.eq_false_iff.mpr c5
         subst c5
         have H1 : (group_inverses.l1 k2 l0 x5_1 x14_1 false (l0.length : Int) x14_1 (l0.length : Int) (wrap64 (x19_2 + 1))) = some (r1, r2, r3) := by rw [if_neg (show ¬ (false = true) by decide)] at H; exact H
         clear H
         have H := H1
         clear H1
         have H' := Aside0.mk H
         clear H
         go_wp2
         go_roundg k2
         case measure => have := HK1.out; have := HK2.out; omega
         case rel => exact ⟨(false), (wrap64 (x19_2 + 1)), q_rs, q_rs, H', ⟨by have := HK1.out; have := HK2.out; omega⟩, ⟨by repeat (first | (with_reducible first | exact HB.out | apply below_alloc | apply pw_below_drewN | apply below_drew1) | exact HB.out)⟩⟩
       ·rw [if_neg c4] at H
        have c4b0 : decide (x19_2 < (l0.length : Int)) = false := decide_eq_false c4
        clear c4
        by_cases c13 : x7_2 = true
        ·subst c13
         have H1 : (group_inverses.j2 k2 l0 x14_1) = some (r1, r2, r3) := by rw [if_pos rfl] at H; exact H
         clear H
         have H := H1
         clear H1
         have H' := Aside0.mk H
         clear H
         go_wp2
         go_meet
         case rel => exact ⟨_, (x14_1), q_rs, H', ⟨by have := HK1.out; have := HK2.out; first | omega | exact Nat.le_refl _⟩, ⟨by repeat (first | (with_reducible first | exact HB.out | apply below_alloc | apply pw_below_drewN | apply below_drew1) | exact HB.out)⟩⟩
        ·replace c13 := Bool.eq_false_iff.mpr c13
         subst c13
         have H1 : (group_inverses.l0 k2 l0 x5_1 (l0.length : Int) (wrap64 (x14_1 + 1))) = some (r1, r2, r3) := by rw [if_neg (show ¬ (false = true) by decide)] at H; exact H
         clear H
         have H := H1
         clear H1
         have H' := Aside0.mk H
         clear H
         go_wp2
         go_roundg k2
         case measure => have := HK1.out; have := HK2.out; omega
         case rel => exact ⟨(x5_1), (wrap64 (x14_1 + 1)), q_rs, q_rs, H', ⟨by have := HK1.out; have := HK2.out; omega⟩, ⟨by repeat (first | (with_reducible first | exact HB.out | apply below_alloc | apply pw_below_drewN | apply below_drew1) | exact HB.out)⟩⟩
    ·rw [if_neg c3] at H
     have c3b0 : decide (x14_1 < (l0.length : Int)) = false := decide_eq_false c3
     clear c3
     (first | rw [c3b0] | (simp only [i64_w, i32_w]; rw [c3b0]) | skip)
     have H' := Aside0.mk H
     clear H
     go_wp2
     go_meet
     case rel => exact ⟨_, (x5_1), q_rs, H', ⟨by have := HK1.out; first | omega | exact Nat.le_refl _⟩, ⟨by repeat (first | (with_reducible first | exact HB.out | apply below_alloc | apply pw_below_drewN | apply below_drew1) | exact HB.out)⟩⟩
 case rest =>
  clear HC2
  q_x c1 p1 q1 hx1 p2 c3 c3b0 c4 c4b0 c5 c6 c6b0 p6 c7 c7b0 c8 c8b0 c9 c9b0 c10 c10b0 c10b1 c11 c11b0 c12 c12b0 p12 q12 hx12 c13 hx122_0 hx123_0 hx124_0 hx125_0 p122 p123 p124 p125 p2 q122 q123 q124 q125
  obtain ⟨kq, x5_1, rfl, HA, HJ1, HB⟩ := hcut
  cases kq with
  | zero => exact absurd HA.out (by simp [group_inverses.j2])
  | succ kj1 =>
   have H := HA.out
   clear HA
   simp only [group_inverses.j2] at H
   by_cases c14 : x5_1 < 0
   ·rw [if_pos c14] at H
    have c14b0 : decide (x5_1 < 0) = true := decide_eq_true c14
    clear c14
    simp only [Option.some.injEq, Prod.mk.injEq] at H
    obtain ⟨rfl, rfl, rfl⟩ := H
    go_wp2
    go_ret3
    exact ⟨_, by first | rfl | q_em | q_en, by first | exact Kd.R_nil _ _ _ _ _ | exact Kd.N_nil _ _ _ _ _ | exact Kd.V_nil _ _ _ _ _ | exact Kd.Q_nil _ _ _ _ _ | exact Kd.S_nil _ _ _ _ _, by repeat (first | (with_reducible first | exact HB.out | apply below_alloc | apply pw_below_drewN | apply below_drew1) | exact HB.out)⟩
   ·rw [if_neg c14] at H
    have c14b0 : decide (x5_1 < 0) = false := decide_eq_false c14
    clear c14
    by_cases c15 : 0 ≤ (l0.length : Int)
    ·rw [if_pos c15] at H
     have c15b0 := eq_true c15
     have c15b1 : decide (0 ≤ (l0.length : Int)) = true := decide_eq_true c15
     clear c15
     by_cases c16 : ((l0.length : Int) : Int).toNat ≤ 35184372088832
     ·rw [if_pos c16] at H
      have c16b0 := eq_true c16
      have c16b1 : decide (((l0.length : Int) : Int).toNat ≤ 35184372088832) = true := decide_eq_true c16
      clear c16
      obtain ⟨y126, hy126⟩ : ∃ y_ : List Int, y_ = (List.replicate ((l0.length : Int) : Int).toNat 0) := ⟨_, rfl⟩
      replace H : (group_inverses.l2 kj1 l0 x5_1 y126 (l0.length : Int) 0) = some (r1, r2, r3) := by first | (rw [hy126]; with_reducible exact H) | (have H2_ := (Option.bind_some _ _).symm.trans H; rw [hy126]; with_reducible exact H2_) | (have H2_ := (Option.bind_some _ _).symm.trans H; with_reducible exact H2_) | with_reducible exact H | (rw [hy126]; exact H) | exact H
      have Ny126 := Aside0.mk hy126
      clear hy126
      have H' := Aside0.mk H
      clear H
      go_wp2_with (first | ((with_reducible refine gate_dst (N := 53) rfl ?_); refine Kd.R_make (Kd.int .i64) _ 3 rfl (N := 53) rfl 39 _ _ rfl (l0.length : Int) rfl rfl Try.underlying39 (.int .i64 0) 8 info3 rfl (by decide) (by omega) 0 (ok := fun _ => True) (okp := fun _ => True) rfl (fun _ hk => hk) trivial (of_decide_eq_true q_as) (Nat.le_trans (Nat.mul_le_mul_right _ (of_decide_eq_true q_as : (l0.length : Int).toNat ≤ 35184372088832)) (by omega)) (Below.refl _ _) (Nat.le_refl _) ?_; intro v127 w17 ho18 hb hg_ hnew_; (q_x hg_ hnew_); (first | rw [← Ny126.out] at ho18 | (simp only [Int.reduceToNat] at ho18; rw [← Ny126.out] at ho18)); have n0_ := Aside0.mk (Kd.R_lower ho18 q_bs); have n1_ := Aside0.mk (below_step q_hb hb); clear HB; have HO128 := n0_; have HB := n1_; clear n0_ n1_; (try clear hb); (try clear ho18)))
      go_loopg [56] kj1 (fun kq v56 w' => ∃ (x9_2 : List Int) (x56_2 : Int), v56 = .int .i64 x56_2 ∧ Aside0 (group_inverses.l2 kq l0 x5_1 x9_2 (l0.length : Int) x56_2 = some (r1, r2, r3)) ∧ Aside0 (kq ≤ kj1) ∧ Aside0 (Kd.R (Kd.int .i64) 3 w' w.heap.size (fun _ => True) v127 x9_2) ∧ Aside0 (Below w.heap.size w w'))
      case atStart => exact ⟨(y126), (0), q_rs, H', ⟨Nat.le_refl _⟩, ⟨by q_nr; exact HO128.out⟩, ⟨by repeat (first | (with_reducible first | exact HB.out | apply below_alloc | apply pw_below_drewN | apply below_drew1) | exact HB.out)⟩⟩
      case round =>
       clear H'
       q_x c1 p1 q1 hx1 p2 c3 c3b0 c4 c4b0 c5 c6 c6b0 p6 c7 c7b0 c8 c8b0 c9 c9b0 c10 c10b0 c10b1 c11 c11b0 c12 c12b0 p12 q12 hx12 c13 c14 c14b0 c15 c15b0 c15b1 c16 c16b0 c16b1 hx122_0 hx123_0 hx124_0 hx125_0 p1 p12 p122 p123 p124 p125 p2 p6 q1 q12 q122 q123 q124 q125
       obtain ⟨x9_2, x56_2, rfl, HA, HK2, HO_9, HB⟩ := hrel
       cases gk with
       | zero => exact absurd HA.out (by simp [group_inverses.l2])
       | succ k2 =>
        have H := HA.out
        clear HA
        simp only [group_inverses.l2] at H
        by_cases c19 : x56_2 < (l0.length : Int)
        ·rw [if_pos c19] at H
         have c19b0 : decide (x56_2 < (l0.length : Int)) = true := decide_eq_true c19
         clear c19
         by_cases c20 : 0 ≤ x56_2
         ·rw [if_pos c20] at H
          have c20b0 : decide (0 ≤ x56_2) = true := decide_eq_true c20
          clear c20
          by_cases c21 : x56_2 < (x9_2.length : Int)
          ·rw [if_pos c21] at H
           have c21b0 : decide (x56_2 < (x9_2.length : Int)) = true := decide_eq_true c21
           clear c21
           obtain ⟨y129, hy129⟩ : ∃ y_ : List Int, y_ = (x9_2.set (x56_2 : Int).toNat (-1)) := ⟨_, rfl⟩
           replace H : (group_inverses.l3 k2 l0 x5_1 y129 x56_2 (l0.length : Int) x56_2 (l0.length : Int) 0) = some (r1, r2, r3) := by first | (rw [hy129]; with_reducible exact H) | (have H2_ := (Option.bind_some _ _).symm.trans H; rw [hy129]; with_reducible exact H2_) | (have H2_ := (Option.bind_some _ _).symm.trans H; with_reducible exact H2_) | with_reducible exact H | (rw [hy129]; exact H) | exact H
           have Ny129 := Aside0.mk hy129
           clear hy129
           have H' := Aside0.mk H
           clear H
           have p22 : 0 ≤ (x56_2 : Int) := of_decide_eq_true q_as
           have q22 : (x56_2 : Int) < ((x9_2.length : Int) : Int) := of_decide_eq_true q_as
           obtain ⟨go22, co22, eo22, gb22, gl22, cl22, HG22⟩ := Kd.R_form HO_9.out (by omega)
           (first | cases eo22 | (injection eo22 with ea_ en_ ec_; (first | subst ea_ | (injection ea_ with ea_; subst ea_)); subst ec_; clear en_))
           have GB22 := Aside0.mk gb22
           have GG22 := Aside0.mk HG22
           (q_x gb22 gl22); (try clear HG22)
           obtain ⟨hx22_0, hf22_0⟩ := Kd.R_celln 0 HO_9.out (x56_2 : Int) p22 q22
           q_t p22 q22
           have HP23 := Kd.R_putg HO_9.out (x56_2 : Int) (-1)
           go_wp2_with (first | ((with_reducible refine gate_store (t := 3) (p := 61) rfl ?_); refine store_event (t := 3) (p := 61) (v := ?vo_w24) (w1 := (wr.setCell ⟨go22, (x56_2 : Int).toNat, none⟩ (.int .i64 (-1)))) ?hg ?ho ?hn ?hr ?_; (case ho => rfl); (case hg => rfl); (case hn => rfl); q_hr; intro w24 hw; have hg : wr.grownBy w24 (some go22) := (by rw [hw]; exact HP23.2); have hp_ : Kd.R (Kd.int .i64) 3 w24 w.heap.size (fun _ => True) (.slice (some ⟨go22, 0, none⟩) x9_2.length co22) y129 := (by rw [hw, Ny129.out]; exact HP23.1); clear HP23; have n0_ := Aside0.mk (hp_); have n1_ := Aside0.mk ((by rw [hw]; exact below_set (HB.out) GB22.out : Below w.heap.size w w24)); clear HO_9; clear HB; have HO_9 := n0_; have HB := n1_; clear n0_ n1_; (q_x hg hw); (try clear hp_)))
           go_loopg [64] k2 (fun kq v64 w' => ∃ (x9_3 : List Int) (x64_3 : Int), v64 = .int .i64 x64_3 ∧ Aside0 (group_inverses.l3 kq l0 x5_1 x9_3 x56_2 (l0.length : Int) x56_2 (l0.length : Int) x64_3 = some (r1, r2, r3)) ∧ Aside0 (kq ≤ k2) ∧ Aside0 (Kd.R (Kd.int .i64) 3 w' w.heap.size (fun _ => True) (.slice (some ⟨go22, 0, none⟩) x9_2.length co22) x9_3) ∧ Aside0 (Below w.heap.size w w'))
           case atStart => exact ⟨(y129), (0), q_rs, H', ⟨Nat.le_refl _⟩, ⟨by q_nr; exact HO_9.out⟩, ⟨by repeat (first | (with_reducible first | exact HB.out | apply below_alloc | apply pw_below_drewN | apply below_drew1) | exact HB.out)⟩⟩
           case round =>
            clear H'
            q_x c1 p1 q1 hx1 c2 p2 q2 hx2 hf2 c3 c3b0 c4 c4b0 c5 c6 c6b0 p6 c7 c7b0 c8 c8b0 c9 c9b0 c10 c10b0 c10b1 c11 c11b0 c12 c12b0 p12 q12 hx12 c13 c14 c14b0 c15 c15b0 c15b1 c16 c16b0 c16b1 c19 c19b0 c20 c20b0 c21 c21b0 p22 q22 hx22 hf22 hx122_0 hx123_0 hx124_0 hx125_0 hx22_0 p1 p12 p122 p123 p124 p125 p2 p22 p6 q1 q12 q122 q123 q124 q125 q22
            obtain ⟨x9_3, x64_3, rfl, HA, HK3, HO_9, HB⟩ := hrel
            have hl9_3 := (Kd.R_reads' HO_9.out).1
            rw [hl9_3] at HO_9
            (try simp only [hl9_3])
            cases gk with
            | zero => exact absurd HA.out (by simp [group_inverses.l3])
            | succ k3 =>
             have H := HA.out
             clear HA
             simp only [group_inverses.l3] at H
             by_cases c25 : x64_3 < (l0.length : Int)
             ·rw [if_pos c25] at H
              have c25b0 : decide (x64_3 < (l0.length : Int)) = true := decide_eq_true c25
              (try (have c25b0z := c25b0; simp only [hl9_3] at c25b0z))
              clear c25
              by_cases c26 : 0 ≤ x56_2
              ·rw [if_pos c26] at H
               have c26b0 : decide (0 ≤ x56_2) = true := decide_eq_true c26
               clear c26
               by_cases c27 : x56_2 < (l0.length : Int)
               ·rw [if_pos c27] at H
                have c27b0 : decide (x56_2 < (l0.length : Int)) = true := decide_eq_true c27
                (try (have c27b0z := c27b0; simp only [hl9_3] at c27b0z))
                clear c27
                by_cases c28 : 0 ≤ x64_3
                ·rw [if_pos c28] at H
                 have c28b0 : decide (0 ≤ x64_3) = true := decide_eq_true c28
                 clear c28
                 by_cases c29 : x64_3 < ((rd_L1 l0 x56_2).length : Int)
                 ·rw [if_pos c29] at H
                  have c29b0 : decide (x64_3 < ((rd_L1 l0 x56_2).length : Int)) = true := decide_eq_true c29
                  (try (have c29b0z := c29b0; simp only [hl9_3] at c29b0z))
                  clear c29
                  by_cases c30 : (rd (rd_L1 l0 x56_2) x64_3) = x5_1
                  ·rw [if_pos c30] at H
                   have c30b0 : ((rd (rd_L1 l0 x56_2) x64_3) == x5_1) = true := beq_iff_eq.mpr c30
                   have c30b1 : ((rd (rd_L1 l0 x56_2) x64_3) != x5_1) = false := bne_eq_false_iff_eq.mpr c30
                   clear c30
                   by_cases c31 : x64_3 < (l0.length : Int)
                   ·rw [if_pos c31] at H
                    have c31b0 : decide (x64_3 < (l0.length : Int)) = true := decide_eq_true c31
                    (try (have c31b0z := c31b0; simp only [hl9_3] at c31b0z))
                    clear c31
                    by_cases c32 : x56_2 < ((rd_L1 l0 x64_3).length : Int)
                    ·rw [if_pos c32] at H
                     have c32b0 : decide (x56_2 < ((rd_L1 l0 x64_3).length : Int)) = true := decide_eq_true c32
                     (try (have c32b0z := c32b0; simp only [hl9_3] at c32b0z))
                     clear c32
                     by_cases c33 : (rd (rd_L1 l0 x64_3) x56_2) = x5_1
                     ·rw [if_pos c33] at H
                      have c33b0 : ((rd (rd_L1 l0 x64_3) x56_2) == x5_1) = true := beq_iff_eq.mpr c33
                      have c33b1 : ((rd (rd_L1 l0 x64_3) x56_2) != x5_1) = false := bne_eq_false_iff_eq.mpr c33
                      clear c33
                      by_cases c34 : x56_2 < (x9_3.length : Int)
                      ·rw [if_pos c34] at H
                       have c34b0 : decide (x56_2 < (x9_3.length : Int)) = true := decide_eq_true c34
                       (try (have c34b0z := c34b0; simp only [hl9_3] at c34b0z))
                       clear c34
                       obtain ⟨y134, hy134⟩ : ∃ y_ : List Int, y_ = (x9_3.set (x56_2 : Int).toNat x64_3) := ⟨_, rfl⟩
                       replace H : (group_inverses.l3 k3 l0 x5_1 y134 x56_2 (l0.length : Int) x56_2 (l0.length : Int) (wrap64 (x64_3 + 1))) = some (r1, r2, r3) := by first | (rw [hy134]; with_reducible exact H) | (have H2_ := (Option.bind_some _ _).symm.trans H; rw [hy134]; with_reducible exact H2_) | (have H2_ := (Option.bind_some _ _).symm.trans H; with_reducible exact H2_) | with_reducible exact H | (rw [hy134]; exact H) | exact H
                       have Ny134 := Aside0.mk hy134
                       clear hy134
                       have H' := Aside0.mk H
                       clear H
                       have p130 : 0 ≤ (x56_2 : Int) := of_decide_eq_true q_as
                       have q130 : x56_2 < (l0.length : Int) := of_decide_eq_true q_as
                       obtain ⟨ad130, A130_0, c130_0, e130, hx130_0, hl130_0, hi130_0⟩ := at_L1 HR0.out x56_2 p130 q130
                       cases e130
                       replace hx130_0 := (HB.out.cell (World.block_lt_of_cell? w _ hx130_0)).trans hx130_0
                       have HR130_0 := Aside0.mk hi130_0
                       have HC130_0 := Aside0.mk hl130_0
                       (try clear hi130_0); (try clear hl130_0)
                       q_t p130 q130
                       have p131 : 0 ≤ (x64_3 : Int) := of_decide_eq_true q_as
                       have q131 : x64_3 < ((rd_L1 l0 x56_2).length : Int) := of_decide_eq_true q_as
                       obtain ⟨ad131, e131, hx131_0⟩ := Kd.at_int HR130_0.out x64_3 p131 q131
                       cases e131
                       replace hx131_0 := (HB.out.cell (World.block_lt_of_cell? w _ hx131_0)).trans hx131_0
                       q_t p131 q131
                       have p132 : 0 ≤ (x64_3 : Int) := of_decide_eq_true q_as
                       have q132 : x64_3 < (l0.length : Int) := of_decide_eq_true q_as
                       obtain ⟨ad132, A132_0, c132_0, e132, hx132_0, hl132_0, hi132_0⟩ := at_L1 HR0.out x64_3 p132 q132
                       obtain rfl : ad130 = ad132 := (by injection e132)
                       replace hx132_0 := (HB.out.cell (World.block_lt_of_cell? w _ hx132_0)).trans hx132_0
                       have HR132_0 := Aside0.mk hi132_0
                       have HC132_0 := Aside0.mk hl132_0
                       (try clear hi132_0); (try clear hl132_0)
                       q_t p132 q132
                       have p133 : 0 ≤ (x56_2 : Int) := of_decide_eq_true q_as
                       have q133 : x56_2 < ((rd_L1 l0 x64_3).length : Int) := of_decide_eq_true q_as
                       obtain ⟨ad133, e133, hx133_0⟩ := Kd.at_int HR132_0.out x56_2 p133 q133
                       cases e133
                       replace hx133_0 := (HB.out.cell (World.block_lt_of_cell? w _ hx133_0)).trans hx133_0
                       q_t p133 q133
                       have p35 : 0 ≤ (x56_2 : Int) := of_decide_eq_true q_as
                       have q35 : (x56_2 : Int) < ((x9_3.length : Int) : Int) := of_decide_eq_true q_as
                       obtain ⟨hx35_0, hf35_0⟩ := Kd.R_celln 0 HO_9.out (x56_2 : Int) p35 q35
                       q_t p35 q35
                       have HP36 := Kd.R_putg HO_9.out (x56_2 : Int) x64_3
                       go_wp2_with (first | ((with_reducible refine gate_store (t := 3) (p := 90) rfl ?_); refine store_event (t := 3) (p := 90) (v := ?vo_w37) (w1 := (wr.setCell ⟨go22, (x56_2 : Int).toNat, none⟩ (.int .i64 x64_3))) ?hg ?ho ?hn ?hr ?_; (case ho => rfl); (case hg => rfl); (case hn => rfl); q_hr; intro w37 hw; have hg : wr.grownBy w37 (some go22) := (by rw [hw]; exact HP36.2); have hp_ : Kd.R (Kd.int .i64) 3 w37 w.heap.size (fun _ => True) (.slice (some ⟨go22, 0, none⟩) x9_3.length co22) y134 := (by rw [hw, Ny134.out]; exact HP36.1); clear HP36; have n0_ := Aside0.mk (hp_); have n1_ := Aside0.mk ((by rw [hw]; exact below_set (HB.out) GB22.out : Below w.heap.size w w37)); clear HO_9; clear HB; have HO_9 := n0_; have HB := n1_; clear n0_ n1_; (q_x hg hw); (try clear hp_)))
                       (try simp only [← hl9_3])
                       go_roundg k3
                       case measure => have := HJ1.out; have := HK2.out; have := HK3.out; omega
                       case rel => exact ⟨(y134), (wrap64 (x64_3 + 1)), q_rs, H', ⟨by have := HJ1.out; have := HK2.out; have := HK3.out; omega⟩, ⟨by (try simp only [hl9_3]); q_nr; exact HO_9.out⟩, ⟨by repeat (first | (with_reducible first | exact HB.out | apply below_alloc | apply pw_below_drewN | apply below_drew1) | exact HB.out)⟩⟩
                      ·rw [if_neg c34] at H
                       exact absurd H (by simp)
                     ·rw [if_neg c33] at H
                      have c33b0 : ((rd (rd_L1 l0 x64_3) x56_2) == x5_1) = false := beq_eq_false_iff_ne.mpr c33
                      have c33b1 : ((rd (rd_L1 l0 x64_3) x56_2) != x5_1) = true := bne_iff_ne.mpr c33
                      have H' := Aside0.mk H
                      clear H
                      have p130 : 0 ≤ (x56_2 : Int) := of_decide_eq_true q_as
                      have q130 : x56_2 < (l0.length : Int) := of_decide_eq_true q_as
                      obtain ⟨ad130, A130_0, c130_0, e130, hx130_0, hl130_0, hi130_0⟩ := at_L1 HR0.out x56_2 p130 q130
                      cases e130
                      replace hx130_0 := (HB.out.cell (World.block_lt_of_cell? w _ hx130_0)).trans hx130_0
                      have HR130_0 := Aside0.mk hi130_0
                      have HC130_0 := Aside0.mk hl130_0
                      (try clear hi130_0); (try clear hl130_0)
                      q_t p130 q130
                      have p131 : 0 ≤ (x64_3 : Int) := of_decide_eq_true q_as
                      have q131 : x64_3 < ((rd_L1 l0 x56_2).length : Int) := of_decide_eq_true q_as
                      obtain ⟨ad131, e131, hx131_0⟩ := Kd.at_int HR130_0.out x64_3 p131 q131
                      cases e131
                      replace hx131_0 := (HB.out.cell (World.block_lt_of_cell? w _ hx131_0)).trans hx131_0
                      q_t p131 q131
                      have p132 : 0 ≤ (x64_3 : Int) := of_decide_eq_true q_as
                      have q132 : x64_3 < (l0.length : Int) := of_decide_eq_true q_as
                      obtain ⟨ad132, A132_0, c132_0, e132, hx132_0, hl132_0, hi132_0⟩ := at_L1 HR0.out x64_3 p132 q132
                      obtain rfl : ad130 = ad132 := (by injection e132)
                      replace hx132_0 := (HB.out.cell (World.block_lt_of_cell? w _ hx132_0)).trans hx132_0
                      have HR132_0 := Aside0.mk hi132_0
                      have HC132_0 := Aside0.mk hl132_0
                      (try clear hi132_0); (try clear hl132_0)
                      q_t p132 q132
                      have p133 : 0 ≤ (x56_2 : Int) := of_decide_eq_true q_as
                      have q133 : x56_2 < ((rd_L1 l0 x64_3).length : Int) := of_decide_eq_true q_as
                      obtain ⟨ad133, e133, hx133_0⟩ := Kd.at_int HR132_0.out x56_2 p133 q133
                      cases e133
                      replace hx133_0 := (HB.out.cell (World.block_lt_of_cell? w _ hx133_0)).trans hx133_0
                      q_t p133 q133
                      go_wp2
                      (try simp only [← hl9_3])
                      go_roundg k3
                      case measure => have := HJ1.out; have := HK2.out; have := HK3.out; omega
                      case rel => exact ⟨(x9_3), (wrap64 (x64_3 + 1)), q_rs, H', ⟨by have := HJ1.out; have := HK2.out; have := HK3.out; omega⟩, ⟨by (try simp only [hl9_3]); q_nr; exact HO_9.out⟩, ⟨by repeat (first | (with_reducible first | exact HB.out | apply below_alloc | apply pw_below_drewN | apply below_drew1) | exact HB.out)⟩⟩
                    ·rw [if_neg c32] at H
                     exact absurd H (by simp)
                   ·rw [if_neg c31] at H
                    exact absurd H (by simp)
                  ·rw [if_neg c30] at H
                   have c30b0 : ((rd (rd_L1 l0 x56_2) x64_3) == x5_1) = false := beq_eq_false_iff_ne.mpr c30
                   have c30b1 : ((rd (rd_L1 l0 x56_2) x64_3) != x5_1) = true := bne_iff_ne.mpr c30
                   have H' := Aside0.mk H
                   clear H
                   have p130 : 0 ≤ (x56_2 : Int) := of_decide_eq_true q_as
                   have q130 : x56_2 < (l0.length : Int) := of_decide_eq_true q_as
                   obtain ⟨ad130, A130_0, c130_0, e130, hx130_0, hl130_0, hi130_0⟩ := at_L1 HR0.out x56_2 p130 q130
                   cases e130
                   replace hx130_0 := (HB.out.cell (World.block_lt_of_cell? w _ hx130_0)).trans hx130_0
                   have HR130_0 := Aside0.mk hi130_0
                   have HC130_0 := Aside0.mk hl130_0
                   (try clear hi130_0); (try clear hl130_0)
                   q_t p130 q130
                   have p131 : 0 ≤ (x64_3 : Int) := of_decide_eq_true q_as
                   have q131 : x64_3 < ((rd_L1 l0 x56_2).length : Int) := of_decide_eq_true q_as
                   obtain ⟨ad131, e131, hx131_0⟩ := Kd.at_int HR130_0.out x64_3 p131 q131
                   cases e131
                   replace hx131_0 := (HB.out.cell (World.block_lt_of_cell? w _ hx131_0)).trans hx131_0
                   q_t p131 q131
                   go_wp2
                   (try simp only [← hl9_3])
                   go_roundg k3
                   case measure => have := HJ1.out; have := HK2.out; have := HK3.out; omega
                   case rel => exact ⟨(x9_3), (wrap64 (x64_3 + 1)), q_rs, H', ⟨by have := HJ1.out; have := HK2.out; have := HK3.out; omega⟩, ⟨by (try simp only [hl9_3]); q_nr; exact HO_9.out⟩, ⟨by repeat (first | (with_reducible first | exact HB.out | apply below_alloc | apply pw_below_drewN | apply below_drew1) | exact HB.out)⟩⟩
                 ·rw [if_neg c29] at H
                  exact absurd H (by simp)
                ·rw [if_neg c28] at H
                 exact absurd H (by simp)
               ·rw [if_neg c27] at H
                exact absurd H (by simp)
              ·rw [if_neg c26] at H
               exact absurd H (by simp)
             ·rw [if_neg c25] at H
              have c25b0 : decide (x64_3 < (l0.length : Int)) = false := decide_eq_false c25
              (try (have c25b0z := c25b0; simp only [hl9_3] at c25b0z))
              clear c25
              by_cases c38 : 0 ≤ x56_2
              ·rw [if_pos c38] at H
               have c38b0 : decide (0 ≤ x56_2) = true := decide_eq_true c38
               clear c38
               by_cases c39 : x56_2 < (x9_3.length : Int)
               ·rw [if_pos c39] at H
                have c39b0 : decide (x56_2 < (x9_3.length : Int)) = true := decide_eq_true c39
                (try (have c39b0z := c39b0; simp only [hl9_3] at c39b0z))
                clear c39
                by_cases c40 : (rd x9_3 x56_2) < 0
                ·rw [if_pos c40] at H
                 have c40b0 : decide ((rd x9_3 x56_2) < 0) = true := decide_eq_true c40
                 clear c40
                 simp only [Option.some.injEq, Prod.mk.injEq] at H
                 obtain ⟨rfl, rfl, rfl⟩ := H
                 have p135 : 0 ≤ (x56_2 : Int) := of_decide_eq_true q_as
                 have q135 : x56_2 < (x9_3.length : Int) := of_decide_eq_true q_as
                 obtain ⟨ad135, e135, hx135_0⟩ := Kd.at_int (Kd.R_reads' HO_9.out).2.2 x56_2 p135 q135
                 obtain rfl : (⟨go22, 0, none⟩ : Addr) = ad135 := (by injection e135)
                 (first | simp only [add_plain] at hx135_0 | simp only [add_at] at hx135_0 | simp only [Addr.add, Nat.zero_add] at hx135_0 | skip)
                 q_t p135 q135
                 go_wp2
                 go_ret3
                 exact ⟨_, by first | rfl | q_em | q_en, by first | exact Kd.R_nil _ _ _ _ _ | exact Kd.N_nil _ _ _ _ _ | exact Kd.V_nil _ _ _ _ _ | exact Kd.Q_nil _ _ _ _ _ | exact Kd.S_nil _ _ _ _ _, by repeat (first | (with_reducible first | exact HB.out | apply below_alloc | apply pw_below_drewN | apply below_drew1) | exact HB.out)⟩
                ·rw [if_neg c40] at H
                 have c40b0 : decide ((rd x9_3 x56_2) < 0) = false := decide_eq_false c40
                 clear c40
                 have H' := Aside0.mk H
                 clear H
                 have p135 : 0 ≤ (x56_2 : Int) := of_decide_eq_true q_as
                 have q135 : x56_2 < (x9_3.length : Int) := of_decide_eq_true q_as
                 obtain ⟨ad135, e135, hx135_0⟩ := Kd.at_int (Kd.R_reads' HO_9.out).2.2 x56_2 p135 q135
                 obtain rfl : (⟨go22, 0, none⟩ : Addr) = ad135 := (by injection e135)
                 (first | simp only [add_plain] at hx135_0 | simp only [add_at] at hx135_0 | simp only [Addr.add, Nat.zero_add] at hx135_0 | skip)
                 q_t p135 q135
                 go_wp2
                 (try simp only [← hl9_3])
                 go_roundg k3
                 case measure => have := HJ1.out; have := HK2.out; have := HK3.out; omega
                 case rel => exact ⟨(x9_3), (wrap64 (x56_2 + 1)), q_rs, H', ⟨by have := HJ1.out; have := HK2.out; have := HK3.out; omega⟩, ⟨by (try simp only [hl9_3]); q_nr; exact HO_9.out⟩, ⟨by repeat (first | (with_reducible first | exact HB.out | apply below_alloc | apply pw_below_drewN | apply below_drew1) | exact HB.out)⟩⟩
               ·rw [if_neg c39] at H
                exact absurd H (by simp)
              ·rw [if_neg c38] at H
               exact absurd H (by simp)
          ·rw [if_neg c21] at H
           exact absurd H (by simp)
         ·rw [if_neg c20] at H
          exact absurd H (by simp)
        ·rw [if_neg c19] at H
         have c19b0 : decide (x56_2 < (l0.length : Int)) = false := decide_eq_false c19
         clear c19
         simp only [Option.some.injEq, Prod.mk.injEq] at H
         obtain ⟨rfl, rfl, rfl⟩ := H
         go_wp2
         go_ret3
         exact ⟨_, by first | rfl | q_em | q_en, by q_nr; exact HO_9.out, by repeat (first | (with_reducible first | exact HB.out | apply below_alloc | apply pw_below_drewN | apply below_drew1) | exact HB.out)⟩
     ·rw [if_neg c16] at H
      exact absurd H (by simp)
    ·rw [if_neg c15] at H
     exact absurd H (by simp)

/-! ### group_of: function 65 -/
def group_of.f (k : Nat) (l0 : List (List Int)) : Option ((List (List Int)) × Int × List Int × Bool) := (mult_Validate.f k l0).bind fun t137 => (if t137 = 0 then ((group_inverses.f k l0).bind fun bt138 => (some (l0, bt138.1, bt138.2.1, bt138.2.2))) else (some (([] : List (List Int)), 0, ([] : List Int), false)))
theorem group_of.mono : ∀ a0 k, LeO (group_of.f k a0) (group_of.f (k + 1) a0) := by
 intro a0 k
 unfold group_of.f
 repeat' first
   | (with_reducible exact group_inverses.mono _ _)
   | (with_reducible exact mult_Validate.mono _ _)
   | (with_reducible exact LeO.refl _)
   | (with_reducible exact LeO.none _)
   | (with_reducible refine LeO.ite ?_ ?_)
   | (with_reducible refine LeO.bind ?_ (fun _ => ?_))
   | exact group_inverses.mono _ _
   | exact mult_Validate.mono _ _
   | exact LeO.none _
   | refine LeO.ite ?_ ?_
   | refine LeO.bind ?_ (fun _ => ?_)
set_option maxHeartbeats 8000000 in
set_option maxRecDepth 100000 in
theorem group_of.calls (k : Nat) (P0_ : Nat → Prop) (A0 : Option Addr) (c0 : Nat) (l0 : List (List Int)) (r1 : List (List Int)) (r2 : Int) (r3 : List Int) (r4 : Bool) (w : World) (hs0 : Kd.V (Kd.slice 3 (Kd.int .i64)) 39 w w.heap.size (fun k_ => P0_ k_) (.slice A0 l0.length c0) l0) (h : group_of.f k l0 = some (r1, r2, r3, r4)) :
  Calls Try.prog 65 #[.slice A0 l0.length c0] w fun e w' => ∃ v0_ v2_ : Value, e = .returned (.tuple #[.agg #[v0_, .int .i64 r2, v2_], .bool r4]) ∧ Kd.V (Kd.slice 3 (Kd.int .i64)) 39 w' w.heap.size (fun k_ => (P0_ k_ ∨ w.heap.size ≤ k_) ∧ some k_ ≠ (v2_ : Value).ownBlock) v0_ r1 ∧ Kd.R (Kd.int .i64) 3 w' w.heap.size (fun k_ => (w.heap.size ≤ k_)) v2_ r3 ∧ Below w.heap.size w w' := by
 have hu78 := Try.underlying78
 have HO0 := Aside0.mk (show Kd.V (Kd.slice 3 (Kd.int .i64)) 39 w w.heap.size (fun k_ => (P0_ k_ ∨ w.heap.size ≤ k_)) (.slice A0 l0.length c0) l0 from Kd.V_mono hs0 (fun k_ hk => .inl hk))
 have HB := Aside0.mk (Below.refl w.heap.size w)
 have H : ((mult_Validate.f k l0).bind fun t137 => (if t137 = 0 then ((group_inverses.f k l0).bind fun bt138 => (some (l0, bt138.1, bt138.2.1, bt138.2.2))) else (some (([] : List (List Int)), 0, ([] : List Int), false)))) = some (r1, r2, r3, r4) := h
 clear h
 replace H := Option.bind_eq_some_iff.mp H
 obtain ⟨t137, A20, H⟩ := H
 replace H : (if t137 = 0 then ((group_inverses.f k l0).bind fun bt138 => (some (l0, bt138.1, bt138.2.1, bt138.2.2))) else (some (([] : List (List Int)), 0, ([] : List Int), false))) = some (r1, r2, r3, r4) := H
 have A2 := Aside0.mk A20
 clear A20
 by_cases c3 : t137 = 0
 ·rw [if_pos c3] at H
  have c3b0 : (t137 == 0) = true := beq_iff_eq.mpr c3
  have c3b1 : (t137 != 0) = false := bne_eq_false_iff_eq.mpr c3
  clear c3
  replace H := Option.bind_eq_some_iff.mp H
  obtain ⟨⟨t138, t139, t140⟩, A40, H⟩ := H
  replace H : (some (l0, t138, t139, t140)) = some (r1, r2, r3, r4) := H
  have A4 := Aside0.mk A40
  clear A40
  simp only [Option.some.injEq, Prod.mk.injEq] at H
  obtain ⟨rfl, rfl, rfl, rfl⟩ := H
  go_enter Try.func65, Try.ntmps65
  go_wp2_with (first | ((with_reducible refine gate_dst (N := 2) rfl ?_); refine box_event ?hg (N := 2) ?hd (cs := #[.slice none 0 0, .int .i64 0, .slice none 0 0]) (t := 78) ?hr ?_; (case hd => rfl); (case hg => rfl); q_hr; intro gb136 hg w5 hbox hb; have n0_ := Aside0.mk (Kd.V_below (Kd.V_elderB (by (with_reducible repeat (first | apply Kd.V_alloc | apply Kd.V_drewN | apply Kd.V_drew)); exact HO0.out) gb136 (Nat.le_of_eq hg.symm)) hb); have n1_ := Aside0.mk (below_step q_hb hb); have n2_ := Aside0.mk (hbox); have n3_ := Aside0.mk ((by rw [hg]; exact q_bs : w.heap.size ≤ gb136)); have n4_ := Aside0.mk ((by rw [hg]; exact q_bs : w.heap.size ≤ gb136)); clear HO0; clear HB; have HO0 := n0_; have HB := n1_; have BK136 := n2_; have GW136 := n3_; have GE136 := n4_; clear n0_ n1_ n2_ n3_ n4_; (q_x hb hbox); (try clear hg)) | ((with_reducible refine gate_callee (f := 20) rfl ?_); refine goesL_ (some 8) rfl rfl Try.func20 (by kernel_rfl) rfl #[.slice A0 l0.length c0] rfl q_ml ?_; (with_reducible refine (mult_Validate.calls k _ _ l0 t137 _ ?side1 ?side2 A2.out).mono ?_); (case side1 => repeat (first | exact (Kd.V_reads' HO0.out).2.2 | (with_reducible refine Kd.C_alloc ?_ _) | (with_reducible refine Kd.C_drewN ?_ _) | (with_reducible refine Kd.C_drew ?_))); (case side2 => exact (Kd.V_reads' HO0.out).2.1); rintro e w' ⟨rfl, ⟨nd, rfl⟩⟩; refine ⟨_, rfl, ?_⟩; (try (rw [drewN_self w5]; generalize hq_ : World.drewN w5 _ = w5; have n0_ : Aside0 (Kd.V (Kd.slice 3 (Kd.int .i64)) 39 w5 w.heap.size (fun k_ => (P0_ k_ ∨ w.heap.size ≤ k_) ∧ k_ ≠ gb136) (.slice A0 l0.length c0) l0) := ⟨by rw [← hq_]; exact (by (with_reducible repeat (first | apply Kd.V_alloc | apply Kd.V_drewN | apply Kd.V_drew)); exact HO0.out)⟩; have n1_ : Aside0 (w5.heap[gb136]? = some (.cells #[.slice none 0 0, .int .i64 0, .slice none 0 0] 78 (0, 0))) := ⟨by rw [← hq_]; exact (by q_bk; exact BK136.out)⟩; have n2_ : Aside0 (Below w.heap.size w w5) := ⟨by rw [← hq_]; exact (q_hs GE136.out)⟩; clear HO0 BK136 HB hq_; have HO0 := n0_; have BK136 := n1_; have HB := n2_; clear n0_ n1_ n2_))) | ((with_reducible refine gate_callee (f := 79) rfl ?_); refine goesL_ (some 13) rfl rfl Try.func79 (by kernel_rfl) rfl #[.slice A0 l0.length c0] rfl q_ml ?_; (with_reducible refine (group_inverses.calls k _ _ l0 t138 t139 t140 _ ?side1 ?side2 A4.out).mono ?_); (case side1 => repeat (first | exact (Kd.V_reads' HO0.out).2.2 | (with_reducible refine Kd.C_alloc ?_ _) | (with_reducible refine Kd.C_drewN ?_ _) | (with_reducible refine Kd.C_drew ?_))); (case side2 => exact (Kd.V_reads' HO0.out).2.1); rintro e w6 ⟨v141, rfl, ho0, hb⟩; refine ⟨_, rfl, ?_⟩; have n0_ := Aside0.mk (Kd.V_elder' (by (with_reducible repeat (first | apply Kd.V_alloc | apply Kd.V_drewN | apply Kd.V_drew)); exact HO0.out) (Kd.R_base ho0) hb); have n1_ := Aside0.mk (Kd.R_lower (Kd.R_newM (M := fun k_ => (w.heap.size ≤ k_)) ho0 (below_size (q_hs GE136.out)) (fun k_ h_ => h_)) (below_size (q_hs GE136.out))); have n2_ := Aside0.mk (blk_below (g := gb136) (o := .cells #[.slice none 0 0, .int .i64 0, .slice none 0 0] 78 (0, 0)) (by q_bk; exact BK136.out) hb); have n3_ := Aside0.mk (below_step (q_hs GE136.out) hb); clear HO0; clear BK136; clear HB; have HO0 := n0_; have HO142 := n1_; have BK136 := n2_; have HB := n3_; clear n0_ n1_ n2_ n3_; (q_x hb hb2 hk hi ho0); obtain ⟨Ao7, co7, eo7⟩ := Kd.R_slice HO142.out; subst eo7; have hcz8_0 : w6.cell? ⟨gb136, 0, none⟩ = some (.slice none 0 0) := (blk_cell BK136.out 0).trans rfl; have hcz8_1 : w6.cell? ⟨gb136, 1, none⟩ = some (.int .i64 0) := (blk_cell BK136.out 1).trans rfl; have hcz8_2 : w6.cell? ⟨gb136, 2, none⟩ = some (.slice none 0 0) := (blk_cell BK136.out 2).trans rfl; have hfz8_0 := blk_frozen BK136.out 0; have hfz8_1 := blk_frozen BK136.out 1; have hfz8_2 := blk_frozen BK136.out 2))
  refine bodyPost_ret (results_ct rfl _ _ gb136 78 #[.slice A0 l0.length c0, .int .i64 t138, .slice Ao7 t139.length co7] (0, 0) _ rfl (by q_bk; refine blk_put (cs := #[.slice A0 l0.length c0, .int .i64 t138, .slice none 0 0]) ?_ 2 _ rfl; q_bk; refine blk_put (cs := #[.slice A0 l0.length c0, .int .i64 0, .slice none 0 0]) ?_ 1 _ rfl; q_bk; refine blk_put (cs := #[.slice none 0 0, .int .i64 0, .slice none 0 0]) ?_ 0 _ rfl; q_bk; exact BK136.out) Try.underlying78 rfl (by kernel_rfl)) rfl ?_
  exact ⟨_, _, by first | rfl | q_em | q_en, by (with_reducible repeat (first | apply Kd.V_alloc | apply Kd.V_drewN | apply Kd.V_drew)); exact Kd.V_mono (Kd.V_far (p := ⟨gb136, 2, none⟩) (Kd.V_far (p := ⟨gb136, 1, none⟩) (Kd.V_far (p := ⟨gb136, 0, none⟩) (Kd.V_mono HO0.out (fun k_ hk => (⟨hk, hk.1.2⟩ : _ ∧ k_ ≠ gb136))) (fun _ hk => hk.2) (.slice A0 l0.length c0)) (fun _ hk => hk.2) (.int .i64 t138)) (fun _ hk => hk.2) (.slice Ao7 t139.length co7)) (fun _ hk => ⟨hk.1.1.1, hk.1.2⟩), by q_nr; exact Kd.R_mono (Kd.R_far (p := ⟨gb136, 2, none⟩) (Kd.R_far (p := ⟨gb136, 1, none⟩) (Kd.R_far (p := ⟨gb136, 0, none⟩) (Kd.R_types HO142.out BK136.out (by decide)) (fun _ hk => hk.2) (.slice A0 l0.length c0)) (fun _ hk => hk.2) (.int .i64 t138)) (fun _ hk => hk.2) (.slice Ao7 t139.length co7)) (fun _ hk => hk.1.1), by repeat (first | (with_reducible first | exact HB.out | apply below_alloc | apply pw_below_drewN | apply below_drew1 | refine below_set ?_ GE136.out) | exact HB.out)⟩
 ·rw [if_neg c3] at H
  have c3b0 : (t137 == 0) = false := beq_eq_false_iff_ne.mpr c3
  have c3b1 : (t137 != 0) = true := bne_iff_ne.mpr c3
  simp only [Option.some.injEq, Prod.mk.injEq] at H
  obtain ⟨rfl, rfl, rfl, rfl⟩ := H
  go_enter Try.func65, Try.ntmps65
  go_wp2_with (first | ((with_reducible refine gate_dst (N := 2) rfl ?_); refine box_event ?hg (N := 2) ?hd (cs := #[.slice none 0 0, .int .i64 0, .slice none 0 0]) (t := 78) ?hr ?_; (case hd => rfl); (case hg => rfl); q_hr; intro gb136 hg w9 hbox hb; have n0_ := Aside0.mk (Kd.V_below (Kd.V_elderB (by (with_reducible repeat (first | apply Kd.V_alloc | apply Kd.V_drewN | apply Kd.V_drew)); exact HO0.out) gb136 (Nat.le_of_eq hg.symm)) hb); have n1_ := Aside0.mk (below_step q_hb hb); have n2_ := Aside0.mk (hbox); have n3_ := Aside0.mk ((by rw [hg]; exact q_bs : w.heap.size ≤ gb136)); have n4_ := Aside0.mk ((by rw [hg]; exact q_bs : w.heap.size ≤ gb136)); clear HO0; clear HB; have HO0 := n0_; have HB := n1_; have BK136 := n2_; have GW136 := n3_; have GE136 := n4_; clear n0_ n1_ n2_ n3_ n4_; (q_x hb hbox); (try clear hg)) | ((with_reducible refine gate_callee (f := 20) rfl ?_); refine goesL_ (some 8) rfl rfl Try.func20 (by kernel_rfl) rfl #[.slice A0 l0.length c0] rfl q_ml ?_; (with_reducible refine (mult_Validate.calls k _ _ l0 t137 _ ?side1 ?side2 A2.out).mono ?_); (case side1 => repeat (first | exact (Kd.V_reads' HO0.out).2.2 | (with_reducible refine Kd.C_alloc ?_ _) | (with_reducible refine Kd.C_drewN ?_ _) | (with_reducible refine Kd.C_drew ?_))); (case side2 => exact (Kd.V_reads' HO0.out).2.1); rintro e w' ⟨rfl, ⟨nd, rfl⟩⟩; refine ⟨_, rfl, ?_⟩; (try (rw [drewN_self w9]; generalize hq_ : World.drewN w9 _ = w9; have n0_ : Aside0 (Kd.V (Kd.slice 3 (Kd.int .i64)) 39 w9 w.heap.size (fun k_ => (P0_ k_ ∨ w.heap.size ≤ k_) ∧ k_ ≠ gb136) (.slice A0 l0.length c0) l0) := ⟨by rw [← hq_]; exact (by (with_reducible repeat (first | apply Kd.V_alloc | apply Kd.V_drewN | apply Kd.V_drew)); exact HO0.out)⟩; have n1_ : Aside0 (w9.heap[gb136]? = some (.cells #[.slice none 0 0, .int .i64 0, .slice none 0 0] 78 (0, 0))) := ⟨by rw [← hq_]; exact (by q_bk; exact BK136.out)⟩; have n2_ : Aside0 (Below w.heap.size w w9) := ⟨by rw [← hq_]; exact (q_hs GE136.out)⟩; clear HO0 BK136 HB hq_; have HO0 := n0_; have BK136 := n1_; have HB := n2_; clear n0_ n1_ n2_)); have hcz10_0 : w9.cell? ⟨gb136, 0, none⟩ = some (.slice none 0 0) := (blk_cell BK136.out 0).trans rfl; have hcz10_1 : w9.cell? ⟨gb136, 1, none⟩ = some (.int .i64 0) := (blk_cell BK136.out 1).trans rfl; have hcz10_2 : w9.cell? ⟨gb136, 2, none⟩ = some (.slice none 0 0) := (blk_cell BK136.out 2).trans rfl; have hfz10_0 := blk_frozen BK136.out 0; have hfz10_1 := blk_frozen BK136.out 1; have hfz10_2 := blk_frozen BK136.out 2))
  refine bodyPost_ret (results_ct rfl _ _ gb136 78 #[.slice none 0 0, .int .i64 0, .slice none 0 0] (0, 0) _ rfl (by q_bk; refine blk_put (cs := #[.slice none 0 0, .int .i64 0, .slice none 0 0]) ?_ 2 _ rfl; q_bk; refine blk_put (cs := #[.slice none 0 0, .int .i64 0, .slice none 0 0]) ?_ 1 _ rfl; q_bk; refine blk_put (cs := #[.slice none 0 0, .int .i64 0, .slice none 0 0]) ?_ 0 _ rfl; q_bk; exact BK136.out) Try.underlying78 rfl (by kernel_rfl)) rfl ?_
  exact ⟨_, _, by first | rfl | q_em | q_en, (by first | exact Kd.V_nil _ _ _ _ _ | exact Kd.V_mono (Kd.V_nil _ _ _ _ _) (fun k_ hk => hk)), by first | exact Kd.R_nil _ _ _ _ _ | exact ⟨fun _ => 0, Kd.R_nil _ _ _ _ _⟩ | exact ⟨fun _ => 0, Kd.R_nil _ _ _ _ _⟩ | exact Kd.N_nil _ _ _ _ _ | exact Kd.V_nil _ _ _ _ _ | exact Kd.Q_nil _ _ _ _ _ | exact Kd.S_nil _ _ _ _ _, by repeat (first | (with_reducible first | exact HB.out | apply below_alloc | apply pw_below_drewN | apply below_drew1 | refine below_set ?_ GE136.out) | exact HB.out)⟩

/-! ### group_IsGroup: function 51 -/
def group_IsGroup.f (k : Nat) (l0 : List (List Int)) : Option (Bool) := (group_of.f k l0).bind fun bt143 => (some bt143.2.2.2)
theorem group_IsGroup.mono : ∀ a0 k, LeO (group_IsGroup.f k a0) (group_IsGroup.f (k + 1) a0) := by
 intro a0 k
 unfold group_IsGroup.f
 repeat' first
   | (with_reducible exact group_of.mono _ _)
   | (with_reducible exact LeO.refl _)
   | (with_reducible exact LeO.none _)
   | (with_reducible refine LeO.ite ?_ ?_)
   | (with_reducible refine LeO.bind ?_ (fun _ => ?_))
   | exact group_of.mono _ _
   | exact LeO.none _
   | refine LeO.ite ?_ ?_
   | refine LeO.bind ?_ (fun _ => ?_)
set_option maxHeartbeats 8000000 in
set_option maxRecDepth 100000 in
theorem group_IsGroup.calls (k : Nat) (A0 : Option Addr) (c0 : Nat) (l0 : List (List Int)) (r : Bool) (w : World) (hr0 : Kd.C (Kd.slice 3 (Kd.int .i64)) w A0 l0.length l0) (hc0 : l0.length ≤ c0) (h : group_IsGroup.f k l0 = some r) :
  Calls Try.prog 51 #[.slice A0 l0.length c0] w fun e w' => e = .returned (.bool r) ∧ Below w.heap.size w w' := by
 have hu78 := Try.underlying78
 have HR0 := Aside0.mk hr0
 have HC0 := Aside0.mk hc0
 (try clear hr0); (try clear hc0)
 have HB := Aside0.mk (Below.refl w.heap.size w)
 have H : ((group_of.f k l0).bind fun bt143 => (some bt143.2.2.2)) = some r := h
 clear h
 replace H := Option.bind_eq_some_iff.mp H
 obtain ⟨⟨t143, t146, t147, t150⟩, A20, H⟩ := H
 replace H : (some t150) = some r := H
 have A2 := Aside0.mk A20
 clear A20
 obtain rfl := Option.some.inj H
 go_enter Try.func51, Try.ntmps51
 go_wp2_with (first | ((with_reducible refine gate_callee (f := 65) rfl ?_); refine goesL_ (some 7) rfl rfl Try.func65 (by kernel_rfl) rfl #[.slice A0 l0.length c0] rfl q_ml ?_; (with_reducible refine (group_of.calls k (fun k_ => k_ < w.heap.size) _ _ l0 t143 t146 t147 t150 _ ?side1 A2.out).mono ?_); (case side1 => exact Kd.V_mk HC0.out (Kd.F_below (Kd.C_F (Kd.heap_slice 3 (Kd.heap_int .i64)) HR0.out) q_hb)); rintro e w3 ⟨v144, v148, rfl, ho0, ho1, hb⟩; refine ⟨_, rfl, ?_⟩; have n0_ := Aside0.mk (Kd.V_lower (Kd.V_mono (ok' := fun k_ => some k_ ≠ (v148 : Value).ownBlock) ho0 (fun k_ hk_ => hk_.2)) q_bs); have n1_ := Aside0.mk (Kd.R_lower (Kd.R_mono (ok' := fun k_ => True) ho1 (fun _ hk_ => trivial)) q_bs); have n2_ := Aside0.mk (below_step q_hb hb); clear HB; have HO145 := n0_; have HO149 := n1_; have HB := n2_; clear n0_ n1_ n2_; (q_x hb hb2 hk hi ho0); (try clear ho1)) | ((with_reducible refine gate_dst (N := 3) rfl ?_); refine box_event ?hg (N := 3) ?hd (cs := #[.slice none 0 0, .int .i64 0, .slice none 0 0]) (t := 78) ?hr ?_; (case hd => rfl); (case hg => rfl); q_hr; intro gb151 hg w4 hbox hb; have n0_ := Aside0.mk (Kd.V_below (Kd.V_elderB (by (with_reducible repeat (first | apply Kd.V_alloc | apply Kd.V_drewN | apply Kd.V_drew)); exact HO145.out) gb151 (Nat.le_of_eq hg.symm)) hb); have n1_ := Aside0.mk (Kd.R_below (by q_nr; exact HO149.out) hb); have n2_ := Aside0.mk (below_step q_hb hb); have n3_ := Aside0.mk (hbox); have n4_ := Aside0.mk ((by rw [hg]; exact q_bs : w.heap.size ≤ gb151)); have n5_ := Aside0.mk ((by rw [hg]; exact q_bs : w.heap.size ≤ gb151)); clear HO145; clear HO149; clear HB; have HO145 := n0_; have HO149 := n1_; have HB := n2_; have BK151 := n3_; have GW151 := n4_; have GE151 := n5_; clear n0_ n1_ n2_ n3_ n4_ n5_; (q_x hb hbox hg); obtain ⟨Ao5, co5, eo5⟩ := Kd.V_slice HO145.out; subst eo5; have hcz6_0 : w4.cell? ⟨gb151, 0, none⟩ = some (.slice none 0 0) := (blk_cell BK151.out 0).trans rfl; have hcz6_1 : w4.cell? ⟨gb151, 1, none⟩ = some (.int .i64 0) := (blk_cell BK151.out 1).trans rfl; have hcz6_2 : w4.cell? ⟨gb151, 2, none⟩ = some (.slice none 0 0) := (blk_cell BK151.out 2).trans rfl; have hfz6_0 := blk_frozen BK151.out 0; have hfz6_1 := blk_frozen BK151.out 1; have hfz6_2 := blk_frozen BK151.out 2; obtain ⟨Ao7, co7, eo7⟩ := Kd.R_slice HO149.out; subst eo7))
 go_ret
 exact ⟨by first | rfl | q_em | q_en, by repeat (first | (with_reducible first | exact HB.out | apply below_alloc | apply pw_below_drewN | apply below_drew1 | refine below_set ?_ GE151.out) | exact HB.out)⟩

/-! ### rees_Validate: function 21 -/
mutual
def rees_Validate.j0 : Nat → Bool → List (List Int) → Int → Int → List (List Int) → Bool → Option (Int)
 | 0, _, _, _, _, _, _ => none
 | k + 1, x28, x153000, x153001, x153002, x153003, x153004 => if x28 = true then (some 4) else (rees_Validate.l0 k x153003 (x153003.length : Int) 0 x153000 x153001 x153002 x153003 x153004)
def rees_Validate.l0 : Nat → List (List Int) → Int → Int → List (List Int) → Int → Int → List (List Int) → Bool → Option (Int)
 | 0, _, _, _, _, _, _, _, _ => none
 | k + 1, x30, x31, x32, x153000, x153001, x153002, x153003, x153004 => if x32 < x31 then (if 0 ≤ x32 then (if x32 < (x30.length : Int) then (if ((rd_L1 x30 x32).length : Int) = x153001 then (rees_Validate.l1 k x30 x31 x32 (rd_L1 x30 x32) ((rd_L1 x30 x32).length : Int) 0 x153000 x153001 x153002 x153003 x153004) else (some 4)) else (none)) else (none)) else ((rees_size.f x153000 x153001 x153002 x153003 x153004).bind fun t154 => (if t154 > 400 then (some 3) else (some 0)))
def rees_Validate.l1 : Nat → List (List Int) → Int → Int → List Int → Int → Int → List (List Int) → Int → Int → List (List Int) → Bool → Option (Int)
 | 0, _, _, _, _, _, _, _, _, _, _, _ => none
 | k + 1, x30, x31, x32, x41, x42, x43, x153000, x153001, x153002, x153003, x153004 => if x43 < x42 then (if 0 ≤ x43 then (if x43 < (x41.length : Int) then (if (rd x41 x43) < (-1) then (some 4) else (if (rd x41 x43) ≥ (x153000.length : Int) then (some 4) else (if (rd x41 x43) < 0 then (if x153004 = true then (rees_Validate.l1 k x30 x31 x32 x41 x42 (wrap64 (x43 + 1)) x153000 x153001 x153002 x153003 x153004) else (some 4)) else (rees_Validate.l1 k x30 x31 x32 x41 x42 (wrap64 (x43 + 1)) x153000 x153001 x153002 x153003 x153004)))) else (none)) else (none)) else (rees_Validate.l0 k x30 x31 (wrap64 (x32 + 1)) x153000 x153001 x153002 x153003 x153004)
end
def rees_Validate.f (k : Nat) (l0_0 : List (List Int)) (a0_1 : Int) (a0_2 : Int) (l0_3 : List (List Int)) (a0_4 : Bool) : Option (Int) := (group_IsGroup.f k l0_0).bind fun t153 => (if t153 = true then (if a0_1 < 1 then (rees_Validate.j0 k true l0_0 a0_1 a0_2 l0_3 a0_4) else (if a0_2 < 1 then (rees_Validate.j0 k true l0_0 a0_1 a0_2 l0_3 a0_4) else (rees_Validate.j0 k ((l0_3.length : Int) != a0_2) l0_0 a0_1 a0_2 l0_3 a0_4))) else (rees_Validate.j0 k true l0_0 a0_1 a0_2 l0_3 a0_4))
theorem rees_Validate.mono_l : ∀ k, (∀ y0 y1 y2 y3 y4 y5, LeO (rees_Validate.j0 k y0 y1 y2 y3 y4 y5) (rees_Validate.j0 (k + 1) y0 y1 y2 y3 y4 y5)) ∧ (∀ y0 y1 y2 y3 y4 y5 y6 y7, LeO (rees_Validate.l0 k y0 y1 y2 y3 y4 y5 y6 y7) (rees_Validate.l0 (k + 1) y0 y1 y2 y3 y4 y5 y6 y7)) ∧ (∀ y0 y1 y2 y3 y4 y5 y6 y7 y8 y9 y10, LeO (rees_Validate.l1 k y0 y1 y2 y3 y4 y5 y6 y7 y8 y9 y10) (rees_Validate.l1 (k + 1) y0 y1 y2 y3 y4 y5 y6 y7 y8 y9 y10))
 | 0 => ⟨fun _ _ _ _ _ _ r h => by simp [rees_Validate.j0] at h, fun _ _ _ _ _ _ _ _ r h => by simp [rees_Validate.l0] at h, fun _ _ _ _ _ _ _ _ _ _ _ r h => by simp [rees_Validate.l1] at h⟩
 | k + 1 => by
  obtain ⟨ih0, ih1, ih2⟩ := rees_Validate.mono_l k
  refine ⟨?_, ?_, ?_⟩
  ·intro y0 y1 y2 y3 y4 y5
   unfold rees_Validate.j0
   repeat' first
   | (with_reducible exact ih0 _ _ _ _ _ _)
   | (with_reducible exact ih1 _ _ _ _ _ _ _ _)
   | (with_reducible exact ih2 _ _ _ _ _ _ _ _ _ _ _)
   | (with_reducible exact group_IsGroup.mono _ _)
   | (with_reducible exact LeO.refl _)
   | (with_reducible exact LeO.none _)
   | (with_reducible refine LeO.ite ?_ ?_)
   | (with_reducible refine LeO.bind ?_ (fun _ => ?_))
   | exact ih0 _ _ _ _ _ _
   | exact ih1 _ _ _ _ _ _ _ _
   | exact ih2 _ _ _ _ _ _ _ _ _ _ _
   | exact group_IsGroup.mono _ _
   | exact LeO.none _
   | refine LeO.ite ?_ ?_
   | refine LeO.bind ?_ (fun _ => ?_)
  ·intro y0 y1 y2 y3 y4 y5 y6 y7
   unfold rees_Validate.l0
   repeat' first
   | (with_reducible exact ih0 _ _ _ _ _ _)
   | (with_reducible exact ih1 _ _ _ _ _ _ _ _)
   | (with_reducible exact ih2 _ _ _ _ _ _ _ _ _ _ _)
   | (with_reducible exact group_IsGroup.mono _ _)
   | (with_reducible exact LeO.refl _)
   | (with_reducible exact LeO.none _)
   | (with_reducible refine LeO.ite ?_ ?_)
   | (with_reducible refine LeO.bind ?_ (fun _ => ?_))
   | exact ih0 _ _ _ _ _ _
   | exact ih1 _ _ _ _ _ _ _ _
   | exact ih2 _ _ _ _ _ _ _ _ _ _ _
   | exact group_IsGroup.mono _ _
   | exact LeO.none _
   | refine LeO.ite ?_ ?_
   | refine LeO.bind ?_ (fun _ => ?_)
  ·intro y0 y1 y2 y3 y4 y5 y6 y7 y8 y9 y10
   unfold rees_Validate.l1
   repeat' first
   | (with_reducible exact ih0 _ _ _ _ _ _)
   | (with_reducible exact ih1 _ _ _ _ _ _ _ _)
   | (with_reducible exact ih2 _ _ _ _ _ _ _ _ _ _ _)
   | (with_reducible exact group_IsGroup.mono _ _)
   | (with_reducible exact LeO.refl _)
   | (with_reducible exact LeO.none _)
   | (with_reducible refine LeO.ite ?_ ?_)
   | (with_reducible refine LeO.bind ?_ (fun _ => ?_))
   | exact ih0 _ _ _ _ _ _
   | exact ih1 _ _ _ _ _ _ _ _
   | exact ih2 _ _ _ _ _ _ _ _ _ _ _
   | exact group_IsGroup.mono _ _
   | exact LeO.none _
   | refine LeO.ite ?_ ?_
   | refine LeO.bind ?_ (fun _ => ?_)
theorem rees_Validate.mono : ∀ a0 a1 a2 a3 a4 k, LeO (rees_Validate.f k a0 a1 a2 a3 a4) (rees_Validate.f (k + 1) a0 a1 a2 a3 a4) := by
 intro a0 a1 a2 a3 a4 k
 obtain ⟨ih0, ih1, ih2⟩ := rees_Validate.mono_l k
 unfold rees_Validate.f
 repeat' first
   | (with_reducible exact ih0 _ _ _ _ _ _)
   | (with_reducible exact ih1 _ _ _ _ _ _ _ _)
   | (with_reducible exact ih2 _ _ _ _ _ _ _ _ _ _ _)
   | (with_reducible exact group_IsGroup.mono _ _)
   | (with_reducible exact LeO.refl _)
   | (with_reducible exact LeO.none _)
   | (with_reducible refine LeO.ite ?_ ?_)
   | (with_reducible refine LeO.bind ?_ (fun _ => ?_))
   | exact ih0 _ _ _ _ _ _
   | exact ih1 _ _ _ _ _ _ _ _
   | exact ih2 _ _ _ _ _ _ _ _ _ _ _
   | exact group_IsGroup.mono _ _
   | exact LeO.none _
   | refine LeO.ite ?_ ?_
   | refine LeO.bind ?_ (fun _ => ?_)
set_option maxHeartbeats 8000000 in
set_option maxRecDepth 100000 in
theorem rees_Validate.calls (k : Nat) (A0_0 : Option Addr) (c0_0 : Nat) (l0_0 : List (List Int)) (a0_1 : Int) (a0_2 : Int) (A0_3 : Option Addr) (c0_3 : Nat) (l0_3 : List (List Int)) (a0_4 : Bool) (r : Int) (w : World) (hr0_0 : Kd.C (Kd.slice 3 (Kd.int .i64)) w A0_0 l0_0.length l0_0) (hc0_0 : l0_0.length ≤ c0_0) (hr0_3 : Kd.C (Kd.slice 3 (Kd.int .i64)) w A0_3 l0_3.length l0_3) (hc0_3 : l0_3.length ≤ c0_3) (h : rees_Validate.f k l0_0 a0_1 a0_2 l0_3 a0_4 = some r) :
  Calls Try.prog 21 #[.agg #[.slice A0_0 l0_0.length c0_0, .int .i64 a0_1, .int .i64 a0_2, .slice A0_3 l0_3.length c0_3, .bool a0_4]] w fun e w' => e = .returned (.int .i64 r) ∧ Below w.heap.size w w' := by
 have hu24 := Try.underlying24
 have HR0_0 := Aside0.mk hr0_0
 have HC0_0 := Aside0.mk hc0_0
 (try clear hr0_0); (try clear hc0_0)
 have HR0_3 := Aside0.mk hr0_3
 have HC0_3 := Aside0.mk hc0_3
 (try clear hr0_3); (try clear hc0_3)
 have HB := Aside0.mk (Below.refl w.heap.size w)
 have H : ((group_IsGroup.f k l0_0).bind fun t153 => (if t153 = true then (if a0_1 < 1 then (rees_Validate.j0 k true l0_0 a0_1 a0_2 l0_3 a0_4) else (if a0_2 < 1 then (rees_Validate.j0 k true l0_0 a0_1 a0_2 l0_3 a0_4) else (rees_Validate.j0 k ((l0_3.length : Int) != a0_2) l0_0 a0_1 a0_2 l0_3 a0_4))) else (rees_Validate.j0 k true l0_0 a0_1 a0_2 l0_3 a0_4))) = some r := h
 clear h
 have HC2 := Aside0.mk H
 clear H
 go_enter Try.func21, Try.ntmps21
 go_upto_region 1 with (first | ((with_reducible refine gate_dst (N := 1) rfl ?_); (try (refine gate_guard (by rfl) ?_; dsimp only)); refine box_event ?hg (N := 1) ?hd (cs := #[.slice A0_0 l0_0.length c0_0, .int .i64 a0_1, .int .i64 a0_2, .slice A0_3 l0_3.length c0_3, .bool a0_4]) (t := 24) ?hr ?_; (case hd => rfl); (case hg => rfl); q_hr; intro gb152 hg w3 hbox hb; have n0_ := Aside0.mk (below_step q_hb hb); have n1_ := Aside0.mk (hbox); have n2_ := Aside0.mk ((by rw [hg]; exact q_bs : w.heap.size ≤ gb152)); have n3_ := Aside0.mk ((by rw [hg]; exact q_bs : w.heap.size ≤ gb152)); clear HB; have HB := n0_; have BK152 := n1_; have GW152 := n2_; have GE152 := n3_; clear n0_ n1_ n2_ n3_; (q_x hb hbox); (try clear hg)))
 (try simp only [Act.put, List.setIfInBounds_toArray, List.set_cons_zero, List.set_cons_succ])
 go_cut [28] (fun v28 wc => ∃ (kq : Nat) (x28_1 : Bool), v28 = .bool x28_1 ∧ Aside0 (rees_Validate.j0 kq x28_1 l0_0 a0_1 a0_2 l0_3 a0_4 = some r) ∧ Aside0 (kq ≤ k) ∧ Aside0 (wc.heap[gb152]? = some (.cells #[(.slice A0_0 l0_0.length c0_0), .int .i64 a0_1, .int .i64 a0_2, (.slice A0_3 l0_3.length c0_3), .bool a0_4] 24 (0, 0))) ∧ Aside0 (Below w.heap.size w wc))
 case first =>
  have H := HC2.out
  clear HC2
  replace H := Option.bind_eq_some_iff.mp H
  obtain ⟨t153, A40, H⟩ := H
  replace H : (if t153 = true then (if a0_1 < 1 then (rees_Validate.j0 k true l0_0 a0_1 a0_2 l0_3 a0_4) else (if a0_2 < 1 then (rees_Validate.j0 k true l0_0 a0_1 a0_2 l0_3 a0_4) else (rees_Validate.j0 k ((l0_3.length : Int) != a0_2) l0_0 a0_1 a0_2 l0_3 a0_4))) else (rees_Validate.j0 k true l0_0 a0_1 a0_2 l0_3 a0_4)) = some r := H
  have A4 := Aside0.mk A40
  clear A40
  by_cases c5 : t153 = true
  ·subst c5
   have H1 : (if a0_1 < 1 then (rees_Validate.j0 k true l0_0 a0_1 a0_2 l0_3 a0_4) else (if a0_2 < 1 then (rees_Validate.j0 k true l0_0 a0_1 a0_2 l0_3 a0_4) else (rees_Validate.j0 k ((l0_3.length : Int) != a0_2) l0_0 a0_1 a0_2 l0_3 a0_4))) = some r := by rw [if_pos rfl] at H; exact H
   clear H
   have H := H1
   clear H1
   by_cases c6 : a0_1 < 1
   ·rw [if_pos c6] at H
    have c6b0 : decide (a0_1 < 1) = true := decide_eq_true c6
    clear c6
    (first | rw [c6b0] | (simp only [i64_w, i32_w]; rw [c6b0]) | skip)
    have H' := Aside0.mk H
    clear H
    have hcz7_0 : w3.cell? ⟨gb152, 0, none⟩ = some (.slice A0_0 l0_0.length c0_0) := (blk_cell BK152.out 0).trans rfl
    have hcz7_1 : w3.cell? ⟨gb152, 1, none⟩ = some (.int .i64 a0_1) := (blk_cell BK152.out 1).trans rfl
    have hcz7_2 : w3.cell? ⟨gb152, 2, none⟩ = some (.int .i64 a0_2) := (blk_cell BK152.out 2).trans rfl
    have hcz7_3 : w3.cell? ⟨gb152, 3, none⟩ = some (.slice A0_3 l0_3.length c0_3) := (blk_cell BK152.out 3).trans rfl
    have hcz7_4 : w3.cell? ⟨gb152, 4, none⟩ = some (.bool a0_4) := (blk_cell BK152.out 4).trans rfl
    have hfz7_0 := blk_frozen BK152.out 0
    have hfz7_1 := blk_frozen BK152.out 1
    have hfz7_2 := blk_frozen BK152.out 2
    have hfz7_3 := blk_frozen BK152.out 3
    have hfz7_4 := blk_frozen BK152.out 4
    go_wp2_with (first | ((with_reducible refine gate_callee (f := 51) rfl ?_); refine goesL_ (some 9) rfl rfl Try.func51 (by kernel_rfl) rfl #[.slice A0_0 l0_0.length c0_0] rfl q_ml ?_; (with_reducible refine (group_IsGroup.calls k _ _ l0_0 true _ ?side1 ?side2 A4.out).mono ?_); (case side1 => q_cc (Kd.C_below HR0_0.out HB.out)); (case side2 => exact HC0_0.out); rintro e w8 ⟨rfl, hb⟩; refine ⟨_, rfl, ?_⟩; have n0_ := Aside0.mk (blk_below (g := gb152) (o := .cells #[.slice A0_0 l0_0.length c0_0, .int .i64 a0_1, .int .i64 a0_2, .slice A0_3 l0_3.length c0_3, .bool a0_4] 24 (0, 0)) (by q_bk; exact BK152.out) hb); have n1_ := Aside0.mk (below_step (q_hs GE152.out) hb); clear BK152; clear HB; have BK152 := n0_; have HB := n1_; clear n0_ n1_; (q_x hb hb2 hk hi); have hcz9_0 : w8.cell? ⟨gb152, 0, none⟩ = some (.slice A0_0 l0_0.length c0_0) := (blk_cell BK152.out 0).trans rfl; have hcz9_1 : w8.cell? ⟨gb152, 1, none⟩ = some (.int .i64 a0_1) := (blk_cell BK152.out 1).trans rfl; have hcz9_2 : w8.cell? ⟨gb152, 2, none⟩ = some (.int .i64 a0_2) := (blk_cell BK152.out 2).trans rfl; have hcz9_3 : w8.cell? ⟨gb152, 3, none⟩ = some (.slice A0_3 l0_3.length c0_3) := (blk_cell BK152.out 3).trans rfl; have hcz9_4 : w8.cell? ⟨gb152, 4, none⟩ = some (.bool a0_4) := (blk_cell BK152.out 4).trans rfl; have hfz9_0 := blk_frozen BK152.out 0; have hfz9_1 := blk_frozen BK152.out 1; have hfz9_2 := blk_frozen BK152.out 2; have hfz9_3 := blk_frozen BK152.out 3; have hfz9_4 := blk_frozen BK152.out 4))
    go_meet
    case rel => exact ⟨_, (true), q_rs, H', ⟨by first | omega | exact Nat.le_refl _⟩, ⟨by q_bk; exact BK152.out⟩, ⟨by repeat (first | (with_reducible first | exact HB.out | apply below_alloc | apply pw_below_drewN | apply below_drew1 | refine below_set ?_ GE152.out) | exact HB.out)⟩⟩
   ·rw [if_neg c6] at H
    have c6b0 : decide (a0_1 < 1) = false := decide_eq_false c6
    clear c6
    (first | rw [c6b0] | (simp only [i64_w, i32_w]; rw [c6b0]) | skip)
    by_cases c10 : a0_2 < 1
    ·rw [if_pos c10] at H
     have c10b0 : decide (a0_2 < 1) = true := decide_eq_true c10
     clear c10
     have H' := Aside0.mk H
     clear H
     have hcz11_0 : w3.cell? ⟨gb152, 0, none⟩ = some (.slice A0_0 l0_0.length c0_0) := (blk_cell BK152.out 0).trans rfl
     have hcz11_1 : w3.cell? ⟨gb152, 1, none⟩ = some (.int .i64 a0_1) := (blk_cell BK152.out 1).trans rfl
     have hcz11_2 : w3.cell? ⟨gb152, 2, none⟩ = some (.int .i64 a0_2) := (blk_cell BK152.out 2).trans rfl
     have hcz11_3 : w3.cell? ⟨gb152, 3, none⟩ = some (.slice A0_3 l0_3.length c0_3) := (blk_cell BK152.out 3).trans rfl
     have hcz11_4 : w3.cell? ⟨gb152, 4, none⟩ = some (.bool a0_4) := (blk_cell BK152.out 4).trans rfl
     have hfz11_0 := blk_frozen BK152.out 0
     have hfz11_1 := blk_frozen BK152.out 1
     have hfz11_2 := blk_frozen BK152.out 2
     have hfz11_3 := blk_frozen BK152.out 3
     have hfz11_4 := blk_frozen BK152.out 4
     go_wp2_with (first | ((with_reducible refine gate_callee (f := 51) rfl ?_); refine goesL_ (some 9) rfl rfl Try.func51 (by kernel_rfl) rfl #[.slice A0_0 l0_0.length c0_0] rfl q_ml ?_; (with_reducible refine (group_IsGroup.calls k _ _ l0_0 true _ ?side1 ?side2 A4.out).mono ?_); (case side1 => q_cc (Kd.C_below HR0_0.out HB.out)); (case side2 => exact HC0_0.out); rintro e w12 ⟨rfl, hb⟩; refine ⟨_, rfl, ?_⟩; have n0_ := Aside0.mk (blk_below (g := gb152) (o := .cells #[.slice A0_0 l0_0.length c0_0, .int .i64 a0_1, .int .i64 a0_2, .slice A0_3 l0_3.length c0_3, .bool a0_4] 24 (0, 0)) (by q_bk; exact BK152.out) hb); have n1_ := Aside0.mk (below_step (q_hs GE152.out) hb); clear BK152; clear HB; have BK152 := n0_; have HB := n1_; clear n0_ n1_; (q_x hb hb2 hk hi); have hcz13_0 : w12.cell? ⟨gb152, 0, none⟩ = some (.slice A0_0 l0_0.length c0_0) := (blk_cell BK152.out 0).trans rfl; have hcz13_1 : w12.cell? ⟨gb152, 1, none⟩ = some (.int .i64 a0_1) := (blk_cell BK152.out 1).trans rfl; have hcz13_2 : w12.cell? ⟨gb152, 2, none⟩ = some (.int .i64 a0_2) := (blk_cell BK152.out 2).trans rfl; have hcz13_3 : w12.cell? ⟨gb152, 3, none⟩ = some (.slice A0_3 l0_3.length c0_3) := (blk_cell BK152.out 3).trans rfl; have hcz13_4 : w12.cell? ⟨gb152, 4, none⟩ = some (.bool a0_4) := (blk_cell BK152.out 4).trans rfl; have hfz13_0 := blk_frozen BK152.out 0; have hfz13_1 := blk_frozen BK152.out 1; have hfz13_2 := blk_frozen BK152.out 2; have hfz13_3 := blk_frozen BK152.out 3; have hfz13_4 := blk_frozen BK152.out 4))
     go_meet
     case rel => exact ⟨_, (true), q_rs, H', ⟨by first | omega | exact Nat.le_refl _⟩, ⟨by q_bk; exact BK152.out⟩, ⟨by repeat (first | (with_reducible first | exact HB.out | apply below_alloc | apply pw_below_drewN | apply below_drew1 | refine below_set ?_ GE152.out) | exact HB.out)⟩⟩
    ·rw [if_neg c10] at H
     have c10b0 : decide (a0_2 < 1) = false := decide_eq_false c10
     clear c10
     have H' := Aside0.mk H
     clear H
     have hcz14_0 : w3.cell? ⟨gb152, 0, none⟩ = some (.slice A0_0 l0_0.length c0_0) := (blk_cell BK152.out 0).trans rfl
     have hcz14_1 : w3.cell? ⟨gb152, 1, none⟩ = some (.int .i64 a0_1) := (blk_cell BK152.out 1).trans rfl
     have hcz14_2 : w3.cell? ⟨gb152, 2, none⟩ = some (.int .i64 a0_2) := (blk_cell BK152.out 2).trans rfl
     have hcz14_3 : w3.cell? ⟨gb152, 3, none⟩ = some (.slice A0_3 l0_3.length c0_3) := (blk_cell BK152.out 3).trans rfl
     have hcz14_4 : w3.cell? ⟨gb152, 4, none⟩ = some (.bool a0_4) := (blk_cell BK152.out 4).trans rfl
     have hfz14_0 := blk_frozen BK152.out 0
     have hfz14_1 := blk_frozen BK152.out 1
     have hfz14_2 := blk_frozen BK152.out 2
     have hfz14_3 := blk_frozen BK152.out 3
     have hfz14_4 := blk_frozen BK152.out 4
     go_wp2_with (first | ((with_reducible refine gate_callee (f := 51) rfl ?_); refine goesL_ (some 9) rfl rfl Try.func51 (by kernel_rfl) rfl #[.slice A0_0 l0_0.length c0_0] rfl q_ml ?_; (with_reducible refine (group_IsGroup.calls k _ _ l0_0 true _ ?side1 ?side2 A4.out).mono ?_); (case side1 => q_cc (Kd.C_below HR0_0.out HB.out)); (case side2 => exact HC0_0.out); rintro e w15 ⟨rfl, hb⟩; refine ⟨_, rfl, ?_⟩; have n0_ := Aside0.mk (blk_below (g := gb152) (o := .cells #[.slice A0_0 l0_0.length c0_0, .int .i64 a0_1, .int .i64 a0_2, .slice A0_3 l0_3.length c0_3, .bool a0_4] 24 (0, 0)) (by q_bk; exact BK152.out) hb); have n1_ := Aside0.mk (below_step (q_hs GE152.out) hb); clear BK152; clear HB; have BK152 := n0_; have HB := n1_; clear n0_ n1_; (q_x hb hb2 hk hi); have hcz16_0 : w15.cell? ⟨gb152, 0, none⟩ = some (.slice A0_0 l0_0.length c0_0) := (blk_cell BK152.out 0).trans rfl; have hcz16_1 : w15.cell? ⟨gb152, 1, none⟩ = some (.int .i64 a0_1) := (blk_cell BK152.out 1).trans rfl; have hcz16_2 : w15.cell? ⟨gb152, 2, none⟩ = some (.int .i64 a0_2) := (blk_cell BK152.out 2).trans rfl; have hcz16_3 : w15.cell? ⟨gb152, 3, none⟩ = some (.slice A0_3 l0_3.length c0_3) := (blk_cell BK152.out 3).trans rfl; have hcz16_4 : w15.cell? ⟨gb152, 4, none⟩ = some (.bool a0_4) := (blk_cell BK152.out 4).trans rfl; have hfz16_0 := blk_frozen BK152.out 0; have hfz16_1 := blk_frozen BK152.out 1; have hfz16_2 := blk_frozen BK152.out 2; have hfz16_3 := blk_frozen BK152.out 3; have hfz16_4 := blk_frozen BK152.out 4))
     go_meet
     case rel => exact ⟨_, (((l0_3.length : Int) != a0_2)), q_rs, H', ⟨by first | omega | exact Nat.le_refl _⟩, ⟨by q_bk; exact BK152.out⟩, ⟨by repeat (first | (with_reducible first | exact HB.out | apply below_alloc | apply pw_below_drewN | apply below_drew1 | refine below_set ?_ GE152.out) | exact HB.out)⟩⟩
  ·replace c5 := Bool.eq_false_iff.mpr c5
   subst c5
   have H1 : (rees_Validate.j0 k true l0_0 a0_1 a0_2 l0_3 a0_4) = some r := by rw [if_neg (show ¬ (false = true) by decide)] at H; exact H
   clear H
   have H := H1
   clear H1
   have H' := Aside0.mk H
   clear H
   have hcz17_0 : w3.cell? ⟨gb152, 0, none⟩ = some (.slice A0_0 l0_0.length c0_0) := (blk_cell BK152.out 0).trans rfl
   have hcz17_1 : w3.cell? ⟨gb152, 1, none⟩ = some (.int .i64 a0_1) := (blk_cell BK152.out 1).trans rfl
   have hcz17_2 : w3.cell? ⟨gb152, 2, none⟩ = some (.int .i64 a0_2) := (blk_cell BK152.out 2).trans rfl
   have hcz17_3 : w3.cell? ⟨gb152, 3, none⟩ = some (.slice A0_3 l0_3.length c0_3) := (blk_cell BK152.out 3).trans rfl
   have hcz17_4 : w3.cell? ⟨gb152, 4, none⟩ = some (.bool a0_4) := (blk_cell BK152.out 4).trans rfl
   have hfz17_0 := blk_frozen BK152.out 0
   have hfz17_1 := blk_frozen BK152.out 1
   have hfz17_2 := blk_frozen BK152.out 2
   have hfz17_3 := blk_frozen BK152.out 3
   have hfz17_4 := blk_frozen BK152.out 4
   go_wp2_with (first | ((with_reducible refine gate_callee (f := 51) rfl ?_); refine goesL_ (some 9) rfl rfl Try.func51 (by kernel_rfl) rfl #[.slice A0_0 l0_0.length c0_0] rfl q_ml ?_; (with_reducible refine (group_IsGroup.calls k _ _ l0_0 false _ ?side1 ?side2 A4.out).mono ?_); (case side1 => q_cc (Kd.C_below HR0_0.out HB.out)); (case side2 => exact HC0_0.out); rintro e w18 ⟨rfl, hb⟩; refine ⟨_, rfl, ?_⟩; have n0_ := Aside0.mk (blk_below (g := gb152) (o := .cells #[.slice A0_0 l0_0.length c0_0, .int .i64 a0_1, .int .i64 a0_2, .slice A0_3 l0_3.length c0_3, .bool a0_4] 24 (0, 0)) (by q_bk; exact BK152.out) hb); have n1_ := Aside0.mk (below_step (q_hs GE152.out) hb); clear BK152; clear HB; have BK152 := n0_; have HB := n1_; clear n0_ n1_; (q_x hb hb2 hk); (try clear hi)))
   go_meet
   case rel => exact ⟨_, (true), q_rs, H', ⟨by first | omega | exact Nat.le_refl _⟩, ⟨by q_bk; exact BK152.out⟩, ⟨by repeat (first | (with_reducible first | exact HB.out | apply below_alloc | apply pw_below_drewN | apply below_drew1 | refine below_set ?_ GE152.out) | exact HB.out)⟩⟩
 case rest =>
  clear HC2
  q_x c1 c2 p2 c5 c6 c6b0 c10 c10b0 hcz11_0 hcz11_1 hcz11_2 hcz11_3 hcz11_4 hcz13_0 hcz13_1 hcz13_2 hcz13_3 hcz13_4 hcz14_0 hcz14_1 hcz14_2 hcz14_3 hcz14_4 hcz16_0 hcz16_1 hcz16_2 hcz16_3 hcz16_4 hcz17_0 hcz17_1 hcz17_2 hcz17_3 hcz17_4 hcz7_0 hcz7_1 hcz7_2 hcz7_3 hcz7_4 hcz9_0 hcz9_1 hcz9_2 hcz9_3 hcz9_4 hfz11_0 hfz11_1 hfz11_2 hfz11_3 hfz11_4 hfz13_0 hfz13_1 hfz13_2 hfz13_3 hfz13_4 hfz14_0 hfz14_1 hfz14_2 hfz14_3 hfz14_4 hfz16_0 hfz16_1 hfz16_2 hfz16_3 hfz16_4 hfz17_0 hfz17_1 hfz17_2 hfz17_3 hfz17_4 hfz7_0 hfz7_1 hfz7_2 hfz7_3 hfz7_4 hfz9_0 hfz9_1 hfz9_2 hfz9_3 hfz9_4
  obtain ⟨kq, x28_1, rfl, HA, HJ1, BK152, HB⟩ := hcut
  cases kq with
  | zero => exact absurd HA.out (by simp [rees_Validate.j0])
  | succ kj1 =>
   have H := HA.out
   clear HA
   simp only [rees_Validate.j0] at H
   by_cases c19 : x28_1 = true
   ·subst c19
    have H1 : (some 4) = some r := by rw [if_pos rfl] at H; exact H
    clear H
    have H := H1
    clear H1
    obtain rfl := Option.some.inj H
    go_wp2
    go_ret
    exact ⟨by first | rfl | q_em | q_en, by repeat (first | (with_reducible first | exact HB.out | apply below_alloc | apply pw_below_drewN | apply below_drew1 | refine below_set ?_ GE152.out) | exact HB.out)⟩
   ·replace c19 := Bool.eq_false_iff.mpr c19
    subst c19
    have H1 : (rees_Validate.l0 kj1 l0_3 (l0_3.length : Int) 0 l0_0 a0_1 a0_2 l0_3 a0_4) = some r := by rw [if_neg (show ¬ (false = true) by decide)] at H; exact H
    clear H
    have H := H1
    clear H1
    have H' := Aside0.mk H
    clear H
    have hcz20_0 : wc.cell? ⟨gb152, 0, none⟩ = some (.slice A0_0 l0_0.length c0_0) := (blk_cell BK152.out 0).trans rfl
    have hcz20_1 : wc.cell? ⟨gb152, 1, none⟩ = some (.int .i64 a0_1) := (blk_cell BK152.out 1).trans rfl
    have hcz20_2 : wc.cell? ⟨gb152, 2, none⟩ = some (.int .i64 a0_2) := (blk_cell BK152.out 2).trans rfl
    have hcz20_3 : wc.cell? ⟨gb152, 3, none⟩ = some (.slice A0_3 l0_3.length c0_3) := (blk_cell BK152.out 3).trans rfl
    have hcz20_4 : wc.cell? ⟨gb152, 4, none⟩ = some (.bool a0_4) := (blk_cell BK152.out 4).trans rfl
    have hfz20_0 := blk_frozen BK152.out 0
    have hfz20_1 := blk_frozen BK152.out 1
    have hfz20_2 := blk_frozen BK152.out 2
    have hfz20_3 := blk_frozen BK152.out 3
    have hfz20_4 := blk_frozen BK152.out 4
    go_wp2
    go_loopg [32] kj1 (fun kq v32 w' => ∃ (x32_2 : Int), v32 = .int .i64 x32_2 ∧ Aside0 (rees_Validate.l0 kq l0_3 (l0_3.length : Int) x32_2 l0_0 a0_1 a0_2 l0_3 a0_4 = some r) ∧ Aside0 (kq ≤ kj1) ∧ Aside0 (w'.heap[gb152]? = some (.cells #[(.slice A0_0 l0_0.length c0_0), .int .i64 a0_1, .int .i64 a0_2, (.slice A0_3 l0_3.length c0_3), .bool a0_4] 24 (0, 0))) ∧ Aside0 (Below w.heap.size w w'))
    case atStart => exact ⟨(0), q_rs, H', ⟨Nat.le_refl _⟩, ⟨by q_bk; exact BK152.out⟩, ⟨by repeat (first | (with_reducible first | exact HB.out | apply below_alloc | apply pw_below_drewN | apply below_drew1 | refine below_set ?_ GE152.out) | exact HB.out)⟩⟩
    case round =>
     clear H'
     q_x c1 c2 p2 c5 c6 c6b0 c10 c10b0 c19 hcz11_0 hcz11_1 hcz11_2 hcz11_3 hcz11_4 hcz13_0 hcz13_1 hcz13_2 hcz13_3 hcz13_4 hcz14_0 hcz14_1 hcz14_2 hcz14_3 hcz14_4 hcz16_0 hcz16_1 hcz16_2 hcz16_3 hcz16_4 hcz17_0 hcz17_1 hcz17_2 hcz17_3 hcz17_4 hcz20_0 hcz20_1 hcz20_2 hcz20_3 hcz20_4 hcz7_0 hcz7_1 hcz7_2 hcz7_3 hcz7_4 hcz9_0 hcz9_1 hcz9_2 hcz9_3 hcz9_4 hfz11_0 hfz11_1 hfz11_2 hfz11_3 hfz11_4 hfz13_0 hfz13_1 hfz13_2 hfz13_3 hfz13_4 hfz14_0 hfz14_1 hfz14_2 hfz14_3 hfz14_4 hfz16_0 hfz16_1 hfz16_2 hfz16_3 hfz16_4 hfz17_0 hfz17_1 hfz17_2 hfz17_3 hfz17_4 hfz20_0 hfz20_1 hfz20_2 hfz20_3 hfz20_4 hfz7_0 hfz7_1 hfz7_2 hfz7_3 hfz7_4 hfz9_0 hfz9_1 hfz9_2 hfz9_3 hfz9_4 p2
     obtain ⟨x32_2, rfl, HA, HK2, BK152, HB⟩ := hrel
     cases gk with
     | zero => exact absurd HA.out (by simp [rees_Validate.l0])
     | succ k2 =>
      have H := HA.out
      clear HA
      simp only [rees_Validate.l0] at H
      by_cases c21 : x32_2 < (l0_3.length : Int)
      ·rw [if_pos c21] at H
       have c21b0 : decide (x32_2 < (l0_3.length : Int)) = true := decide_eq_true c21
       clear c21
       by_cases c22 : 0 ≤ x32_2
       ·rw [if_pos c22] at H
        have c22b0 : decide (0 ≤ x32_2) = true := decide_eq_true c22
        clear c22
        by_cases c23 : x32_2 < (l0_3.length : Int)
        ·rw [if_pos c23] at H
         have c23b0 : decide (x32_2 < (l0_3.length : Int)) = true := decide_eq_true c23
         clear c23
         by_cases c24 : ((rd_L1 l0_3 x32_2).length : Int) = a0_1
         ·rw [if_pos c24] at H
          have c24b0 : (((rd_L1 l0_3 x32_2).length : Int) == a0_1) = true := beq_iff_eq.mpr c24
          have c24b1 : (((rd_L1 l0_3 x32_2).length : Int) != a0_1) = false := bne_eq_false_iff_eq.mpr c24
          clear c24
          have H' := Aside0.mk H
          clear H
          have p155 : 0 ≤ (x32_2 : Int) := of_decide_eq_true q_as
          have q155 : x32_2 < (l0_3.length : Int) := of_decide_eq_true q_as
          obtain ⟨ad155, A155_0, c155_0, e155, hx155_0, hl155_0, hi155_0⟩ := at_L1 HR0_3.out x32_2 p155 q155
          cases e155
          replace hx155_0 := (HB.out.cell (World.block_lt_of_cell? w _ hx155_0)).trans hx155_0
          have HR155_0 := Aside0.mk hi155_0
          have HC155_0 := Aside0.mk hl155_0
          (try clear hi155_0); (try clear hl155_0)
          q_t p155 q155
          have hcz25_0 : wr.cell? ⟨gb152, 0, none⟩ = some (.slice A0_0 l0_0.length c0_0) := (blk_cell BK152.out 0).trans rfl
          have hcz25_1 : wr.cell? ⟨gb152, 1, none⟩ = some (.int .i64 a0_1) := (blk_cell BK152.out 1).trans rfl
          have hcz25_2 : wr.cell? ⟨gb152, 2, none⟩ = some (.int .i64 a0_2) := (blk_cell BK152.out 2).trans rfl
          have hcz25_3 : wr.cell? ⟨gb152, 3, none⟩ = some (.slice (some ad155) l0_3.length c0_3) := (blk_cell BK152.out 3).trans rfl
          have hcz25_4 : wr.cell? ⟨gb152, 4, none⟩ = some (.bool a0_4) := (blk_cell BK152.out 4).trans rfl
          have hfz25_0 := blk_frozen BK152.out 0
          have hfz25_1 := blk_frozen BK152.out 1
          have hfz25_2 := blk_frozen BK152.out 2
          have hfz25_3 := blk_frozen BK152.out 3
          have hfz25_4 := blk_frozen BK152.out 4
          go_wp2
          go_loopg [43] k2 (fun kq v43 w' => ∃ (x43_3 : Int), v43 = .int .i64 x43_3 ∧ Aside0 (rees_Validate.l1 kq l0_3 (l0_3.length : Int) x32_2 (rd_L1 l0_3 x32_2) ((rd_L1 l0_3 x32_2).length : Int) x43_3 l0_0 a0_1 a0_2 l0_3 a0_4 = some r) ∧ Aside0 (kq ≤ k2) ∧ Aside0 (w'.heap[gb152]? = some (.cells #[(.slice A0_0 l0_0.length c0_0), .int .i64 a0_1, .int .i64 a0_2, (.slice (some ad155) l0_3.length c0_3), .bool a0_4] 24 (0, 0))) ∧ Aside0 (Below w.heap.size w w'))
          case atStart => exact ⟨(0), q_rs, H', ⟨Nat.le_refl _⟩, ⟨by q_bk; exact BK152.out⟩, ⟨by repeat (first | (with_reducible first | exact HB.out | apply below_alloc | apply pw_below_drewN | apply below_drew1 | refine below_set ?_ GE152.out) | exact HB.out)⟩⟩
          case round =>
           clear H'
           q_x c1 p1 q1 hx1 c2 p2 c5 c6 c6b0 c10 c10b0 c15 p15 q15 hx15 c19 c21 c21b0 c22 c22b0 c23 c23b0 c24 c24b0 c24b1 hcz11_0 hcz11_1 hcz11_2 hcz11_3 hcz11_4 hcz13_0 hcz13_1 hcz13_2 hcz13_3 hcz13_4 hcz14_0 hcz14_1 hcz14_2 hcz14_3 hcz14_4 hcz16_0 hcz16_1 hcz16_2 hcz16_3 hcz16_4 hcz17_0 hcz17_1 hcz17_2 hcz17_3 hcz17_4 hcz20_0 hcz20_1 hcz20_2 hcz20_3 hcz20_4 hcz25_0 hcz25_1 hcz25_2 hcz25_3 hcz25_4 hcz7_0 hcz7_1 hcz7_2 hcz7_3 hcz7_4 hcz9_0 hcz9_1 hcz9_2 hcz9_3 hcz9_4 hfz11_0 hfz11_1 hfz11_2 hfz11_3 hfz11_4 hfz13_0 hfz13_1 hfz13_2 hfz13_3 hfz13_4 hfz14_0 hfz14_1 hfz14_2 hfz14_3 hfz14_4 hfz16_0 hfz16_1 hfz16_2 hfz16_3 hfz16_4 hfz17_0 hfz17_1 hfz17_2 hfz17_3 hfz17_4 hfz20_0 hfz20_1 hfz20_2 hfz20_3 hfz20_4 hfz25_0 hfz25_1 hfz25_2 hfz25_3 hfz25_4 hfz7_0 hfz7_1 hfz7_2 hfz7_3 hfz7_4 hfz9_0 hfz9_1 hfz9_2 hfz9_3 hfz9_4 hx155_0 p155 p2 q155
           obtain ⟨x43_3, rfl, HA, HK3, BK152, HB⟩ := hrel
           cases gk with
           | zero => exact absurd HA.out (by simp [rees_Validate.l1])
           | succ k3 =>
            have H := HA.out
            clear HA
            simp only [rees_Validate.l1] at H
            by_cases c26 : x43_3 < ((rd_L1 l0_3 x32_2).length : Int)
            ·rw [if_pos c26] at H
             have c26b0 : decide (x43_3 < ((rd_L1 l0_3 x32_2).length : Int)) = true := decide_eq_true c26
             clear c26
             by_cases c27 : 0 ≤ x43_3
             ·rw [if_pos c27] at H
              have c27b0 : decide (0 ≤ x43_3) = true := decide_eq_true c27
              clear c27
              by_cases c28 : x43_3 < ((rd_L1 l0_3 x32_2).length : Int)
              ·rw [if_pos c28] at H
               have c28b0 : decide (x43_3 < ((rd_L1 l0_3 x32_2).length : Int)) = true := decide_eq_true c28
               clear c28
               by_cases c29 : (rd (rd_L1 l0_3 x32_2) x43_3) < (-1)
               ·rw [if_pos c29] at H
                have c29b0 : decide ((rd (rd_L1 l0_3 x32_2) x43_3) < (-1)) = true := decide_eq_true c29
                clear c29
                obtain rfl := Option.some.inj H
                have p156 : 0 ≤ (x43_3 : Int) := of_decide_eq_true q_as
                have q156 : x43_3 < ((rd_L1 l0_3 x32_2).length : Int) := of_decide_eq_true q_as
                obtain ⟨ad156, e156, hx156_0⟩ := Kd.at_int HR155_0.out x43_3 p156 q156
                cases e156
                replace hx156_0 := (HB.out.cell (World.block_lt_of_cell? w _ hx156_0)).trans hx156_0
                q_t p156 q156
                go_wp2
                go_ret
                exact ⟨by first | rfl | q_em | q_en, by repeat (first | (with_reducible first | exact HB.out | apply below_alloc | apply pw_below_drewN | apply below_drew1 | refine below_set ?_ GE152.out) | exact HB.out)⟩
               ·rw [if_neg c29] at H
                have c29b0 : decide ((rd (rd_L1 l0_3 x32_2) x43_3) < (-1)) = false := decide_eq_false c29
                clear c29
                by_cases c30 : (rd (rd_L1 l0_3 x32_2) x43_3) ≥ (l0_0.length : Int)
                ·rw [if_pos c30] at H
                 have c30b0 : decide ((l0_0.length : Int) ≤ (rd (rd_L1 l0_3 x32_2) x43_3)) = true := decide_eq_true c30
                 clear c30
                 obtain rfl := Option.some.inj H
                 have p156 : 0 ≤ (x43_3 : Int) := of_decide_eq_true q_as
                 have q156 : x43_3 < ((rd_L1 l0_3 x32_2).length : Int) := of_decide_eq_true q_as
                 obtain ⟨ad156, e156, hx156_0⟩ := Kd.at_int HR155_0.out x43_3 p156 q156
                 cases e156
                 replace hx156_0 := (HB.out.cell (World.block_lt_of_cell? w _ hx156_0)).trans hx156_0
                 q_t p156 q156
                 have hcz31_0 : wr.cell? ⟨gb152, 0, none⟩ = some (.slice A0_0 l0_0.length c0_0) := (blk_cell BK152.out 0).trans rfl
                 have hcz31_1 : wr.cell? ⟨gb152, 1, none⟩ = some (.int .i64 a0_1) := (blk_cell BK152.out 1).trans rfl
                 have hcz31_2 : wr.cell? ⟨gb152, 2, none⟩ = some (.int .i64 a0_2) := (blk_cell BK152.out 2).trans rfl
                 have hcz31_3 : wr.cell? ⟨gb152, 3, none⟩ = some (.slice (some ad155) l0_3.length c0_3) := (blk_cell BK152.out 3).trans rfl
                 have hcz31_4 : wr.cell? ⟨gb152, 4, none⟩ = some (.bool a0_4) := (blk_cell BK152.out 4).trans rfl
                 have hfz31_0 := blk_frozen BK152.out 0
                 have hfz31_1 := blk_frozen BK152.out 1
                 have hfz31_2 := blk_frozen BK152.out 2
                 have hfz31_3 := blk_frozen BK152.out 3
                 have hfz31_4 := blk_frozen BK152.out 4
                 go_wp2
                 go_ret
                 exact ⟨by first | rfl | q_em | q_en, by repeat (first | (with_reducible first | exact HB.out | apply below_alloc | apply pw_below_drewN | apply below_drew1 | refine below_set ?_ GE152.out) | exact HB.out)⟩
                ·rw [if_neg c30] at H
                 have c30b0 : decide ((l0_0.length : Int) ≤ (rd (rd_L1 l0_3 x32_2) x43_3)) = false := decide_eq_false c30
                 clear c30
                 by_cases c32 : (rd (rd_L1 l0_3 x32_2) x43_3) < 0
                 ·rw [if_pos c32] at H
                  have c32b0 : decide ((rd (rd_L1 l0_3 x32_2) x43_3) < 0) = true := decide_eq_true c32
                  clear c32
                  by_cases c33 : a0_4 = true
                  ·subst c33
                   have H1 : (rees_Validate.l1 k3 l0_3 (l0_3.length : Int) x32_2 (rd_L1 l0_3 x32_2) ((rd_L1 l0_3 x32_2).length : Int) (wrap64 (x43_3 + 1)) l0_0 a0_1 a0_2 l0_3 true) = some r := by rw [if_pos rfl] at H; exact H
                   clear H
                   have H := H1
                   clear H1
                   have H' := Aside0.mk H
                   clear H
                   have p156 : 0 ≤ (x43_3 : Int) := of_decide_eq_true q_as
                   have q156 : x43_3 < ((rd_L1 l0_3 x32_2).length : Int) := of_decide_eq_true q_as
                   obtain ⟨ad156, e156, hx156_0⟩ := Kd.at_int HR155_0.out x43_3 p156 q156
                   cases e156
                   replace hx156_0 := (HB.out.cell (World.block_lt_of_cell? w _ hx156_0)).trans hx156_0
                   q_t p156 q156
                   have hcz34_0 : wr.cell? ⟨gb152, 0, none⟩ = some (.slice A0_0 l0_0.length c0_0) := (blk_cell BK152.out 0).trans rfl
                   have hcz34_1 : wr.cell? ⟨gb152, 1, none⟩ = some (.int .i64 a0_1) := (blk_cell BK152.out 1).trans rfl
                   have hcz34_2 : wr.cell? ⟨gb152, 2, none⟩ = some (.int .i64 a0_2) := (blk_cell BK152.out 2).trans rfl
                   have hcz34_3 : wr.cell? ⟨gb152, 3, none⟩ = some (.slice (some ad155) l0_3.length c0_3) := (blk_cell BK152.out 3).trans rfl
                   have hcz34_4 : wr.cell? ⟨gb152, 4, none⟩ = some (.bool true) := (blk_cell BK152.out 4).trans rfl
                   have hfz34_0 := blk_frozen BK152.out 0
                   have hfz34_1 := blk_frozen BK152.out 1
                   have hfz34_2 := blk_frozen BK152.out 2
                   have hfz34_3 := blk_frozen BK152.out 3
                   have hfz34_4 := blk_frozen BK152.out 4
                   go_wp2
                   go_roundg k3
                   case measure => have := HJ1.out; have := HK2.out; have := HK3.out; omega
                   case rel => exact ⟨(wrap64 (x43_3 + 1)), q_rs, H', ⟨by have := HJ1.out; have := HK2.out; have := HK3.out; omega⟩, ⟨by q_bk; exact BK152.out⟩, ⟨by repeat (first | (with_reducible first | exact HB.out | apply below_alloc | apply pw_below_drewN | apply below_drew1 | refine below_set ?_ GE152.out) | exact HB.out)⟩⟩
                  ·replace c33 := Bool.eq_false_iff.mpr c33
                   subst c33
                   have H1 : (some 4) = some r := by rw [if_neg (show ¬ (false = true) by decide)] at H; exact H
                   clear H
                   have H := H1
                   clear H1
                   obtain rfl := Option.some.inj H
                   have p156 : 0 ≤ (x43_3 : Int) := of_decide_eq_true q_as
                   have q156 : x43_3 < ((rd_L1 l0_3 x32_2).length : Int) := of_decide_eq_true q_as
                   obtain ⟨ad156, e156, hx156_0⟩ := Kd.at_int HR155_0.out x43_3 p156 q156
                   cases e156
                   replace hx156_0 := (HB.out.cell (World.block_lt_of_cell? w _ hx156_0)).trans hx156_0
                   q_t p156 q156
                   have hcz35_0 : wr.cell? ⟨gb152, 0, none⟩ = some (.slice A0_0 l0_0.length c0_0) := (blk_cell BK152.out 0).trans rfl
                   have hcz35_1 : wr.cell? ⟨gb152, 1, none⟩ = some (.int .i64 a0_1) := (blk_cell BK152.out 1).trans rfl
                   have hcz35_2 : wr.cell? ⟨gb152, 2, none⟩ = some (.int .i64 a0_2) := (blk_cell BK152.out 2).trans rfl
                   have hcz35_3 : wr.cell? ⟨gb152, 3, none⟩ = some (.slice (some ad155) l0_3.length c0_3) := (blk_cell BK152.out 3).trans rfl
                   have hcz35_4 : wr.cell? ⟨gb152, 4, none⟩ = some (.bool false) := (blk_cell BK152.out 4).trans rfl
                   have hfz35_0 := blk_frozen BK152.out 0
                   have hfz35_1 := blk_frozen BK152.out 1
                   have hfz35_2 := blk_frozen BK152.out 2
                   have hfz35_3 := blk_frozen BK152.out 3
                   have hfz35_4 := blk_frozen BK152.out 4
                   go_wp2
                   go_ret
                   exact ⟨by first | rfl | q_em | q_en, by repeat (first | (with_reducible first | exact HB.out | apply below_alloc | apply pw_below_drewN | apply below_drew1 | refine below_set ?_ GE152.out) | exact HB.out)⟩
                 ·rw [if_neg c32] at H
                  have c32b0 : decide ((rd (rd_L1 l0_3 x32_2) x43_3) < 0) = false := decide_eq_false c32
                  clear c32
                  have H' := Aside0.mk H
                  clear H
                  have p156 : 0 ≤ (x43_3 : Int) := of_decide_eq_true q_as
                  have q156 : x43_3 < ((rd_L1 l0_3 x32_2).length : Int) := of_decide_eq_true q_as
                  obtain ⟨ad156, e156, hx156_0⟩ := Kd.at_int HR155_0.out x43_3 p156 q156
                  cases e156
                  replace hx156_0 := (HB.out.cell (World.block_lt_of_cell? w _ hx156_0)).trans hx156_0
                  q_t p156 q156
                  have hcz36_0 : wr.cell? ⟨gb152, 0, none⟩ = some (.slice A0_0 l0_0.length c0_0) := (blk_cell BK152.out 0).trans rfl
                  have hcz36_1 : wr.cell? ⟨gb152, 1, none⟩ = some (.int .i64 a0_1) := (blk_cell BK152.out 1).trans rfl
                  have hcz36_2 : wr.cell? ⟨gb152, 2, none⟩ = some (.int .i64 a0_2) := (blk_cell BK152.out 2).trans rfl
                  have hcz36_3 : wr.cell? ⟨gb152, 3, none⟩ = some (.slice (some ad155) l0_3.length c0_3) := (blk_cell BK152.out 3).trans rfl
                  have hcz36_4 : wr.cell? ⟨gb152, 4, none⟩ = some (.bool a0_4) := (blk_cell BK152.out 4).trans rfl
                  have hfz36_0 := blk_frozen BK152.out 0
                  have hfz36_1 := blk_frozen BK152.out 1
                  have hfz36_2 := blk_frozen BK152.out 2
                  have hfz36_3 := blk_frozen BK152.out 3
                  have hfz36_4 := blk_frozen BK152.out 4
                  go_wp2
                  go_roundg k3
                  case measure => have := HJ1.out; have := HK2.out; have := HK3.out; omega
                  case rel => exact ⟨(wrap64 (x43_3 + 1)), q_rs, H', ⟨by have := HJ1.out; have := HK2.out; have := HK3.out; omega⟩, ⟨by q_bk; exact BK152.out⟩, ⟨by repeat (first | (with_reducible first | exact HB.out | apply below_alloc | apply pw_below_drewN | apply below_drew1 | refine below_set ?_ GE152.out) | exact HB.out)⟩⟩
              ·rw [if_neg c28] at H
               exact absurd H (by simp)
             ·rw [if_neg c27] at H
              exact absurd H (by simp)
            ·rw [if_neg c26] at H
             have c26b0 : decide (x43_3 < ((rd_L1 l0_3 x32_2).length : Int)) = false := decide_eq_false c26
             clear c26
             have H' := Aside0.mk H
             clear H
             go_wp2
             go_roundg k3
             case measure => have := HJ1.out; have := HK2.out; have := HK3.out; omega
             case rel => exact ⟨(wrap64 (x32_2 + 1)), q_rs, H', ⟨by have := HJ1.out; have := HK2.out; have := HK3.out; omega⟩, ⟨by q_bk; exact BK152.out⟩, ⟨by repeat (first | (with_reducible first | exact HB.out | apply below_alloc | apply pw_below_drewN | apply below_drew1 | refine below_set ?_ GE152.out) | exact HB.out)⟩⟩
         ·rw [if_neg c24] at H
          have c24b0 : (((rd_L1 l0_3 x32_2).length : Int) == a0_1) = false := beq_eq_false_iff_ne.mpr c24
          have c24b1 : (((rd_L1 l0_3 x32_2).length : Int) != a0_1) = true := bne_iff_ne.mpr c24
          obtain rfl := Option.some.inj H
          have p155 : 0 ≤ (x32_2 : Int) := of_decide_eq_true q_as
          have q155 : x32_2 < (l0_3.length : Int) := of_decide_eq_true q_as
          obtain ⟨ad155, A155_0, c155_0, e155, hx155_0, hl155_0, hi155_0⟩ := at_L1 HR0_3.out x32_2 p155 q155
          cases e155
          replace hx155_0 := (HB.out.cell (World.block_lt_of_cell? w _ hx155_0)).trans hx155_0
          have HR155_0 := Aside0.mk hi155_0
          have HC155_0 := Aside0.mk hl155_0
          (try clear hi155_0); (try clear hl155_0)
          q_t p155 q155
          have hcz37_0 : wr.cell? ⟨gb152, 0, none⟩ = some (.slice A0_0 l0_0.length c0_0) := (blk_cell BK152.out 0).trans rfl
          have hcz37_1 : wr.cell? ⟨gb152, 1, none⟩ = some (.int .i64 a0_1) := (blk_cell BK152.out 1).trans rfl
          have hcz37_2 : wr.cell? ⟨gb152, 2, none⟩ = some (.int .i64 a0_2) := (blk_cell BK152.out 2).trans rfl
          have hcz37_3 : wr.cell? ⟨gb152, 3, none⟩ = some (.slice (some ad155) l0_3.length c0_3) := (blk_cell BK152.out 3).trans rfl
          have hcz37_4 : wr.cell? ⟨gb152, 4, none⟩ = some (.bool a0_4) := (blk_cell BK152.out 4).trans rfl
          have hfz37_0 := blk_frozen BK152.out 0
          have hfz37_1 := blk_frozen BK152.out 1
          have hfz37_2 := blk_frozen BK152.out 2
          have hfz37_3 := blk_frozen BK152.out 3
          have hfz37_4 := blk_frozen BK152.out 4
          go_wp2
          go_ret
          exact ⟨by first | rfl | q_em | q_en, by repeat (first | (with_reducible first | exact HB.out | apply below_alloc | apply pw_below_drewN | apply below_drew1 | refine below_set ?_ GE152.out) | exact HB.out)⟩
        ·rw [if_neg c23] at H
         exact absurd H (by simp)
       ·rw [if_neg c22] at H
        exact absurd H (by simp)
      ·rw [if_neg c21] at H
       have c21b0 : decide (x32_2 < (l0_3.length : Int)) = false := decide_eq_false c21
       clear c21
       replace H := Option.bind_eq_some_iff.mp H
       obtain ⟨t154, A380, H⟩ := H
       replace H : (if t154 > 400 then (some 3) else (some 0)) = some r := H
       have A38 := Aside0.mk A380
       clear A380
       by_cases c39 : t154 > 400
       ·rw [if_pos c39] at H
        have c39b0 : decide (400 < t154) = true := decide_eq_true c39
        clear c39
        obtain rfl := Option.some.inj H
        have hcz40_0 : wr.cell? ⟨gb152, 0, none⟩ = some (.slice A0_0 l0_0.length c0_0) := (blk_cell BK152.out 0).trans rfl
        have hcz40_1 : wr.cell? ⟨gb152, 1, none⟩ = some (.int .i64 a0_1) := (blk_cell BK152.out 1).trans rfl
        have hcz40_2 : wr.cell? ⟨gb152, 2, none⟩ = some (.int .i64 a0_2) := (blk_cell BK152.out 2).trans rfl
        have hcz40_3 : wr.cell? ⟨gb152, 3, none⟩ = some (.slice A0_3 l0_3.length c0_3) := (blk_cell BK152.out 3).trans rfl
        have hcz40_4 : wr.cell? ⟨gb152, 4, none⟩ = some (.bool a0_4) := (blk_cell BK152.out 4).trans rfl
        have hfz40_0 := blk_frozen BK152.out 0
        have hfz40_1 := blk_frozen BK152.out 1
        have hfz40_2 := blk_frozen BK152.out 2
        have hfz40_3 := blk_frozen BK152.out 3
        have hfz40_4 := blk_frozen BK152.out 4
        go_wp2_with (first | ((with_reducible refine gate_callee (f := 47) rfl ?_); refine goesL_ (some 68) rfl rfl Try.func47 (by kernel_rfl) rfl #[.agg #[.slice A0_0 l0_0.length c0_0, .int .i64 a0_1, .int .i64 a0_2, .slice A0_3 l0_3.length c0_3, .bool a0_4]] rfl q_ml ?_; (with_reducible refine (rees_size.calls _ _ l0_0 a0_1 a0_2 _ _ l0_3 a0_4 t154 _ ?side1 ?side2 ?side3 ?side4 A38.out).mono ?_); (case side1 => q_cc (Kd.C_below HR0_0.out HB.out)); (case side2 => exact HC0_0.out); (case side3 => q_cc (Kd.C_below HR0_3.out HB.out)); (case side4 => exact HC0_3.out); rintro e w41 ⟨rfl, hb⟩; refine ⟨_, rfl, ?_⟩; have n0_ := Aside0.mk (blk_below (g := gb152) (o := .cells #[.slice A0_0 l0_0.length c0_0, .int .i64 a0_1, .int .i64 a0_2, .slice A0_3 l0_3.length c0_3, .bool a0_4] 24 (0, 0)) (by q_bk; exact BK152.out) hb); have n1_ := Aside0.mk (below_step (q_hs GE152.out) hb); clear BK152; clear HB; have BK152 := n0_; have HB := n1_; clear n0_ n1_; (q_x hb hb2 hk); (try clear hi)))
        go_ret
        exact ⟨by first | rfl | q_em | q_en, by repeat (first | (with_reducible first | exact HB.out | apply below_alloc | apply pw_below_drewN | apply below_drew1 | refine below_set ?_ GE152.out) | exact HB.out)⟩
       ·rw [if_neg c39] at H
        have c39b0 : decide (400 < t154) = false := decide_eq_false c39
        clear c39
        obtain rfl := Option.some.inj H
        have hcz42_0 : wr.cell? ⟨gb152, 0, none⟩ = some (.slice A0_0 l0_0.length c0_0) := (blk_cell BK152.out 0).trans rfl
        have hcz42_1 : wr.cell? ⟨gb152, 1, none⟩ = some (.int .i64 a0_1) := (blk_cell BK152.out 1).trans rfl
        have hcz42_2 : wr.cell? ⟨gb152, 2, none⟩ = some (.int .i64 a0_2) := (blk_cell BK152.out 2).trans rfl
        have hcz42_3 : wr.cell? ⟨gb152, 3, none⟩ = some (.slice A0_3 l0_3.length c0_3) := (blk_cell BK152.out 3).trans rfl
        have hcz42_4 : wr.cell? ⟨gb152, 4, none⟩ = some (.bool a0_4) := (blk_cell BK152.out 4).trans rfl
        have hfz42_0 := blk_frozen BK152.out 0
        have hfz42_1 := blk_frozen BK152.out 1
        have hfz42_2 := blk_frozen BK152.out 2
        have hfz42_3 := blk_frozen BK152.out 3
        have hfz42_4 := blk_frozen BK152.out 4
        go_wp2_with (first | ((with_reducible refine gate_callee (f := 47) rfl ?_); refine goesL_ (some 68) rfl rfl Try.func47 (by kernel_rfl) rfl #[.agg #[.slice A0_0 l0_0.length c0_0, .int .i64 a0_1, .int .i64 a0_2, .slice A0_3 l0_3.length c0_3, .bool a0_4]] rfl q_ml ?_; (with_reducible refine (rees_size.calls _ _ l0_0 a0_1 a0_2 _ _ l0_3 a0_4 t154 _ ?side1 ?side2 ?side3 ?side4 A38.out).mono ?_); (case side1 => q_cc (Kd.C_below HR0_0.out HB.out)); (case side2 => exact HC0_0.out); (case side3 => q_cc (Kd.C_below HR0_3.out HB.out)); (case side4 => exact HC0_3.out); rintro e w43 ⟨rfl, hb⟩; refine ⟨_, rfl, ?_⟩; have n0_ := Aside0.mk (blk_below (g := gb152) (o := .cells #[.slice A0_0 l0_0.length c0_0, .int .i64 a0_1, .int .i64 a0_2, .slice A0_3 l0_3.length c0_3, .bool a0_4] 24 (0, 0)) (by q_bk; exact BK152.out) hb); have n1_ := Aside0.mk (below_step (q_hs GE152.out) hb); clear BK152; clear HB; have BK152 := n0_; have HB := n1_; clear n0_ n1_; (q_x hb hb2 hk); (try clear hi)))
        go_ret
        exact ⟨by first | rfl | q_em | q_en, by repeat (first | (with_reducible first | exact HB.out | apply below_alloc | apply pw_below_drewN | apply below_drew1 | refine below_set ?_ GE152.out) | exact HB.out)⟩

/-! ### rees_number: function 53 -/
def rees_number.f (l0_0 : List (List Int)) (a0_1 : Int) (a0_2 : Int) (l0_3 : List (List Int)) (a0_4 : Bool) (a1 : Int) (a2 : Int) (a3 : Int) : Option (Int) := (rees_zero.f l0_0 a0_1 a0_2 l0_3 a0_4).bind fun t158 => (some (wrap64 ((wrap64 ((wrap64 ((wrap64 ((wrap64 (a1 * (l0_0.length : Int))) + a2)) * a0_2)) + a3)) + t158)))
def rees_number.T1 : Bool × List (List Nat × List Nat) := (true, [([], []), ([], []), ([1], [1]), ([2], [2]), ([0, 3], [0, 3]), ([], []), ([4, 5], [4, 5]), ([], []), ([7], [7]), ([6, 8], [6, 8]), ([], []), ([9, 10], [9, 10]), ([], []), ([12], [12]), ([11, 13], [11, 13]), ([14, 13, 0, 1, 2, 3, 4, 5, 6, 7, 8, 9, 10, 11, 12, 13, 14], [14])])
def rees_number.B1 : List Nat := [0, 0, 2, 6, 15, 0, 63, 0, 128, 511, 0, 2047, 0, 4096, 16383, 32767]
theorem rees_number.tab1 : rtab .any (opsOf Try.f53 1) = rees_number.T1 := by kernel_rfl
theorem rees_number.bits1 : waitsOk rees_number.T1.2 rees_number.B1 = true := by kernel_rfl
set_option maxHeartbeats 8000000 in
set_option maxRecDepth 100000 in
theorem rees_number.calls (A0_0 : Option Addr) (c0_0 : Nat) (l0_0 : List (List Int)) (a0_1 : Int) (a0_2 : Int) (A0_3 : Option Addr) (c0_3 : Nat) (l0_3 : List (List Int)) (a0_4 : Bool) (a1 : Int) (a2 : Int) (a3 : Int) (r : Int) (w : World) (hr0_0 : Kd.C (Kd.slice 3 (Kd.int .i64)) w A0_0 l0_0.length l0_0) (hc0_0 : l0_0.length ≤ c0_0) (hr0_3 : Kd.C (Kd.slice 3 (Kd.int .i64)) w A0_3 l0_3.length l0_3) (hc0_3 : l0_3.length ≤ c0_3) (h : rees_number.f l0_0 a0_1 a0_2 l0_3 a0_4 a1 a2 a3 = some r) :
  Calls Try.prog 53 #[.agg #[.slice A0_0 l0_0.length c0_0, .int .i64 a0_1, .int .i64 a0_2, .slice A0_3 l0_3.length c0_3, .bool a0_4], .int .i64 a1, .int .i64 a2, .int .i64 a3] w fun e w' => e = .returned (.int .i64 r) ∧ Below w.heap.size w w' := by
 have hu24 := Try.underlying24
 have HR0_0 := Aside0.mk hr0_0
 have HC0_0 := Aside0.mk hc0_0
 (try clear hr0_0); (try clear hc0_0)
 have HR0_3 := Aside0.mk hr0_3
 have HC0_3 := Aside0.mk hc0_3
 (try clear hr0_3); (try clear hc0_3)
 have HB := Aside0.mk (Below.refl w.heap.size w)
 have H : ((rees_zero.f l0_0 a0_1 a0_2 l0_3 a0_4).bind fun t158 => (some (wrap64 ((wrap64 ((wrap64 ((wrap64 ((wrap64 (a1 * (l0_0.length : Int))) + a2)) * a0_2)) + a3)) + t158)))) = some r := h
 clear h
 replace H := Option.bind_eq_some_iff.mp H
 obtain ⟨t158, A50, H⟩ := H
 replace H : (some (wrap64 ((wrap64 ((wrap64 ((wrap64 ((wrap64 (a1 * (l0_0.length : Int))) + a2)) * a0_2)) + a3)) + t158))) = some r := H
 have A5 := Aside0.mk A50
 clear A50
 obtain rfl := Option.some.inj H
 go_enter Try.func53, Try.ntmps53
 try go_wp2_with (first | ((with_reducible refine gate_dst (N := 4) rfl ?_); refine box_event ?hg (N := 4) ?hd (cs := #[.slice A0_0 l0_0.length c0_0, .int .i64 a0_1, .int .i64 a0_2, .slice A0_3 l0_3.length c0_3, .bool a0_4]) (t := 24) ?hr ?_; (case hd => rfl); (case hg => rfl); q_hr; intro gb157 hg w6 hbox hb; have n0_ := Aside0.mk (below_step q_hb hb); have n1_ := Aside0.mk (hbox); have n2_ := Aside0.mk ((by rw [hg]; exact q_bs : w.heap.size ≤ gb157)); have n3_ := Aside0.mk ((by rw [hg]; exact q_bs : w.heap.size ≤ gb157)); clear HB; have HB := n0_; have BK157 := n1_; have GW157 := n2_; have GE157 := n3_; clear n0_ n1_ n2_ n3_; (q_x hb hbox); (try clear hg)))
 have n0_ := Aside0.mk (blk_drew BK157.out)
 have n1_ := Aside0.mk (below_drew1 HB.out)
 clear HB BK157
 have BK157 := n0_
 have HB := n1_
 clear n0_ n1_
 refine start_ (n := 16) (S := fun w' => w'.cell? ⟨gb157, 0, none⟩ = some (.slice A0_0 l0_0.length c0_0) ∧ w'.cell? ⟨gb157, 1, none⟩ = some (.int .i64 a0_1) ∧ w'.cell? ⟨gb157, 2, none⟩ = some (.int .i64 a0_2) ∧ w'.cell? ⟨gb157, 3, none⟩ = some (.slice A0_3 l0_3.length c0_3) ∧ w'.cell? ⟨gb157, 4, none⟩ = some (.bool a0_4)) (ds := []) #[false, false, false, false, false, false, false, false, false, false, false, false, false, false, false, false] (by kernel_rfl) rfl rfl ⟨(blk_cell BK157.out 0).trans rfl, (blk_cell BK157.out 1).trans rfl, (blk_cell BK157.out 2).trans rfl, (blk_cell BK157.out 3).trans rfl, (blk_cell BK157.out 4).trans rfl⟩ (fun hHeld => ?_); refine with_tabW rees_number.tab1 rees_number.bits1 (fun HT_ HW_ => ?_)
 generalize w6.drew = w7 at BK157 HB hHeld ⊢
 refine pure_ (i := 0) (N := some 9) (v := ?_) (a' := ?_) #[true, false, false, false, false, false, false, false, false, false, false, false, false, false, false, false] rfl rfl q_ho q_id (Or.inl ⟨by rfl, ?_⟩) ?_ ?_
 rotate_left
 ·intro w'
  go_simp
  with_reducible rfl
 rotate_left
 ·q_si
  rfl
 refine pure_ (i := 1) (N := some 10) (v := ?_) (a' := ?_) #[true, true, false, false, false, false, false, false, false, false, false, false, false, false, false, false] rfl rfl q_ho q_id (Or.inl ⟨by rfl, ?_⟩) ?_ ?_
 rotate_left
 ·intro w'
  go_simp
  with_reducible rfl
 rotate_left
 ·q_si
  rfl
 refine pure_ (i := 5) (N := some 14) (v := ?_) (a' := ?_) #[true, true, false, false, false, true, false, false, false, false, false, false, false, false, false, false] rfl rfl q_ho q_id (Or.inl ⟨by rfl, ?_⟩) ?_ ?_
 rotate_left
 ·intro w'
  go_simp
  with_reducible rfl
 rotate_left
 ·q_si
  rfl
 refine pure_ (i := 7) (N := some 16) (v := ?_) (a' := ?_) #[true, true, false, false, false, true, false, true, false, false, false, false, false, false, false, false] rfl rfl q_ho q_id (Or.inl ⟨by rfl, ?_⟩) ?_ ?_
 rotate_left
 ·intro w'
  go_simp
  with_reducible rfl
 rotate_left
 ·q_si
  rfl
 refine pure_ (i := 10) (N := some 19) (v := ?_) (a' := ?_) #[true, true, false, false, false, true, false, true, false, false, true, false, false, false, false, false] rfl rfl q_ho q_id (Or.inl ⟨by rfl, ?_⟩) ?_ ?_
 rotate_left
 ·intro w'
  go_simp
  with_reducible rfl
 rotate_left
 ·q_si
  rfl
 refine take_ (i := 2) (N := some 11) (v := ?_) (a' := ?_) #[true, true, true, false, false, true, false, true, false, false, true, false, false, false, false, false] rfl rfl q_to q_id (Or.inl ⟨by rfl, ?_⟩) hHeld ?_ ?_
 rotate_left
 ·rintro w' ⟨s0, s1, s2, s3, s4⟩
  go_simp
  with_reducible rfl
 rotate_left
 ·q_si
  rfl
 refine pure_ (i := 3) (N := some 12) (v := ?_) (a' := ?_) #[true, true, true, true, false, true, false, true, false, false, true, false, false, false, false, false] rfl rfl q_ho q_id (Or.inl ⟨by rfl, ?_⟩) ?_ ?_
 rotate_left
 ·intro w'
  go_simp
  with_reducible rfl
 rotate_left
 ·q_si
  rfl
 refine pure_ (i := 4) (N := some 13) (v := ?_) (a' := ?_) #[true, true, true, true, true, true, false, true, false, false, true, false, false, false, false, false] rfl rfl q_ho q_id (Or.inl ⟨by rfl, ?_⟩) ?_ ?_
 rotate_left
 ·intro w'
  go_simp
  with_reducible rfl
 rotate_left
 ·q_si
  rfl
 refine pure_ (i := 6) (N := some 15) (v := ?_) (a' := ?_) #[true, true, true, true, true, true, true, true, false, false, true, false, false, false, false, false] rfl rfl q_ho q_id (Or.inl ⟨by rfl, ?_⟩) ?_ ?_
 rotate_left
 ·intro w'
  go_simp
  with_reducible rfl
 rotate_left
 ·q_si
  rfl
 refine take_ (i := 8) (N := some 17) (v := ?_) (a' := ?_) #[true, true, true, true, true, true, true, true, true, false, true, false, false, false, false, false] rfl rfl q_to q_id (Or.inl ⟨by rfl, ?_⟩) hHeld ?_ ?_
 rotate_left
 ·rintro w' ⟨s0, s1, s2, s3, s4⟩
  go_simp
  with_reducible rfl
 rotate_left
 ·q_si
  rfl
 refine pure_ (i := 9) (N := some 18) (v := ?_) (a' := ?_) #[true, true, true, true, true, true, true, true, true, true, true, false, false, false, false, false] rfl rfl q_ho q_id (Or.inl ⟨by rfl, ?_⟩) ?_ ?_
 rotate_left
 ·intro w'
  go_simp
  with_reducible rfl
 rotate_left
 ·q_si
  rfl
 refine pure_ (i := 11) (N := some 20) (v := ?_) (a' := ?_) #[true, true, true, true, true, true, true, true, true, true, true, true, false, false, false, false] rfl rfl q_ho q_id (Or.inl ⟨by rfl, ?_⟩) ?_ ?_
 rotate_left
 ·intro w'
  go_simp
  with_reducible rfl
 rotate_left
 ·q_si
  rfl
 refine take_ (i := 12) (N := some 21) (v := ?_) (a' := ?_) #[true, true, true, true, true, true, true, true, true, true, true, true, true, false, false, false] rfl rfl q_to q_id (Or.inl ⟨by rfl, ?_⟩) hHeld ?_ ?_
 rotate_left
 ·rintro w' ⟨s0, s1, s2, s3, s4⟩
  go_simp
  with_reducible rfl
 rotate_left
 ·q_si
  rfl
 refine one_ (i := 13) (N := some 22) #[true, true, true, true, true, true, true, true, true, true, true, true, true, true, false, false] rfl rfl (one_of HT_.out (by kernel_rfl)) (by decide) (fun K hK => ?_)
 refine goes_ Try.func59 (by kernel_rfl) rfl #[.agg #[.slice A0_0 l0_0.length c0_0, .int .i64 a0_1, .int .i64 a0_2, .slice A0_3 l0_3.length c0_3, .bool a0_4]] (by rfl) rfl rfl q_ml ?_
 with_reducible refine (rees_zero.calls _ _ l0_0 a0_1 a0_2 _ _ l0_3 a0_4 t158 _ ?side1 ?side2 ?side3 ?side4 A5.out).mono ?_
 (case side1 => q_cc (Kd.C_below HR0_0.out HB.out))
 (case side2 => exact HC0_0.out)
 (case side3 => q_cc (Kd.C_below HR0_3.out HB.out))
 (case side4 => exact HC0_3.out)
 rintro e w8 ⟨rfl, hb⟩
 refine ⟨_, rfl, ?_⟩
 have n0_ := Aside0.mk (blk_below (g := gb157) (o := .cells #[.slice A0_0 l0_0.length c0_0, .int .i64 a0_1, .int .i64 a0_2, .slice A0_3 l0_3.length c0_3, .bool a0_4] 24 (0, 0)) (by q_bk; exact BK157.out) hb)
 have n1_ := Aside0.mk (below_step (q_hs GE157.out) hb)
 clear HB BK157
 have BK157 := n0_
 have HB := n1_
 clear n0_ n1_
 (try clear hb)
 (try clear hb2)
 (try clear hk)
 (try clear hi)
 refine hK.out _ _ ⟨(blk_cell BK157.out 0).trans rfl, (blk_cell BK157.out 1).trans rfl, (blk_cell BK157.out 2).trans rfl, (blk_cell BK157.out 3).trans rfl, (blk_cell BK157.out 4).trans rfl⟩ (fun hHeld => ?_)
 clear hK K
 refine norm_ (a' := ?_) ?_ ?_
 rotate_left
 ·show Act.put _ (some 22) _ = _
  simp only [Act.put, List.setIfInBounds_toArray, List.set_cons_zero, List.set_cons_succ, i64_w, i32_w]
  rfl
 refine pure_ (i := 14) (N := some 23) (v := ?_) (a' := ?_) #[true, true, true, true, true, true, true, true, true, true, true, true, true, true, true, false] rfl rfl q_ho q_id (Or.inl ⟨by rfl, ?_⟩) ?_ ?_
 rotate_left
 ·intro w'
  go_simp
  with_reducible rfl
 rotate_left
 ·q_si
  rfl
 refine pure_ (i := 15) (N := some 8) (v := ?_) (a' := ?_) #[true, true, true, true, true, true, true, true, true, true, true, true, true, true, true, true] rfl rfl q_ho q_id (Or.inl ⟨by rfl, ?_⟩) ?_ ?_
 rotate_left
 ·intro w'
  go_simp
  with_reducible rfl
 rotate_left
 ·q_si
  rfl
 refine done_ (done_of HT_.out (by kernel_rfl)) ?_
 try go_wp2
 go_ret
 exact ⟨by first | rfl | q_em | q_en, by repeat (first | (with_reducible first | exact HB.out | apply below_alloc | apply pw_below_drewN | apply below_drew1 | refine below_set ?_ GE157.out) | exact HB.out)⟩


end Go.Proofs.Ytnoickhdbinciaa.PAll
