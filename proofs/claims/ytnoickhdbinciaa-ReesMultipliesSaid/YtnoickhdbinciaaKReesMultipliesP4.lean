-- printed for this claim out of the translation; Lean checks it
import Derived.Test.YtnoickhdbinciaaKReesMultipliesP3
namespace Go.Proofs.Ytnoickhdbinciaa.PAll
open Go.RowKit Go.Proofs.YtnoickhdbinciaaW.PrintWords Go.Proofs.YtnoickhdbinciaaW.PrintLast Go.Proofs.YtnoickhdbinciaaW.PrintMore
attribute [local go_sem] max2_int min2_int max_two min_two max_three min_three max_four min_four   -- for this text's walks alone
set_option linter.unusedVariables false
set_option linter.unusedSimpArgs false
/-! ### semigroupref17_Mul: function 28 -/
mutual
def semigroupref17_Mul.j0 : Nat → Int → Int → Bool → List (List Int) → Int → Int → List (List Int) → Bool → Option (Int)
 | 0, _, _, _, _, _, _, _, _ => none
 | k + 1, x1, x2, x29, x290000, x290001, x290002, x290003, x290004 => if x29 = true then (some (-1)) else ((semigroupref17_base.f x290000 x290001 x290002 x290003 x290004).bind fun t292 => ((semigroupref17_base.f x290000 x290001 x290002 x290003 x290004).bind fun t293 => (if (wrap64 (x1 - t292)) < 0 then (semigroupref17_Mul.j1 k (wrap64 (x1 - t292)) (wrap64 (x2 - t293)) true x290000 x290001 x290002 x290003 x290004) else (semigroupref17_Mul.j1 k (wrap64 (x1 - t292)) (wrap64 (x2 - t293)) (decide ((wrap64 (x2 - t293)) < 0)) x290000 x290001 x290002 x290003 x290004))))
def semigroupref17_Mul.j1 : Nat → Int → Int → Bool → List (List Int) → Int → Int → List (List Int) → Bool → Option (Int)
 | 0, _, _, _, _, _, _, _, _ => none
 | k + 1, x7, x8, x43, x290000, x290001, x290002, x290003, x290004 => if x43 = true then (some 0) else (if x290002 = 0 then (none) else (if 0 ≤ (Int.tmod x7 x290002) then (if (Int.tmod x7 x290002) < (x290003.length : Int) then (if (x290000.length : Int) = 0 then (none) else (if 0 ≤ (wrap64 (Int.tdiv (wrap64 (Int.tdiv x8 x290002)) (x290000.length : Int))) then (if (wrap64 (Int.tdiv (wrap64 (Int.tdiv x8 x290002)) (x290000.length : Int))) < ((rd_L1 x290003 (Int.tmod x7 x290002)).length : Int) then (if (rd (rd_L1 x290003 (Int.tmod x7 x290002)) (wrap64 (Int.tdiv (wrap64 (Int.tdiv x8 x290002)) (x290000.length : Int)))) < 0 then (some 0) else (if 0 ≤ (Int.tmod (wrap64 (Int.tdiv x7 x290002)) (x290000.length : Int)) then (if (Int.tmod (wrap64 (Int.tdiv x7 x290002)) (x290000.length : Int)) < (x290000.length : Int) then (if 0 ≤ (rd (rd_L1 x290003 (Int.tmod x7 x290002)) (wrap64 (Int.tdiv (wrap64 (Int.tdiv x8 x290002)) (x290000.length : Int)))) then (if (rd (rd_L1 x290003 (Int.tmod x7 x290002)) (wrap64 (Int.tdiv (wrap64 (Int.tdiv x8 x290002)) (x290000.length : Int)))) < ((rd_L1 x290000 (Int.tmod (wrap64 (Int.tdiv x7 x290002)) (x290000.length : Int))).length : Int) then (if 0 ≤ (rd (rd_L1 x290000 (Int.tmod (wrap64 (Int.tdiv x7 x290002)) (x290000.length : Int))) (rd (rd_L1 x290003 (Int.tmod x7 x290002)) (wrap64 (Int.tdiv (wrap64 (Int.tdiv x8 x290002)) (x290000.length : Int))))) then (if (rd (rd_L1 x290000 (Int.tmod (wrap64 (Int.tdiv x7 x290002)) (x290000.length : Int))) (rd (rd_L1 x290003 (Int.tmod x7 x290002)) (wrap64 (Int.tdiv (wrap64 (Int.tdiv x8 x290002)) (x290000.length : Int))))) < (x290000.length : Int) then (if 0 ≤ (Int.tmod (wrap64 (Int.tdiv x8 x290002)) (x290000.length : Int)) then (if (Int.tmod (wrap64 (Int.tdiv x8 x290002)) (x290000.length : Int)) < ((rd_L1 x290000 (rd (rd_L1 x290000 (Int.tmod (wrap64 (Int.tdiv x7 x290002)) (x290000.length : Int))) (rd (rd_L1 x290003 (Int.tmod x7 x290002)) (wrap64 (Int.tdiv (wrap64 (Int.tdiv x8 x290002)) (x290000.length : Int)))))).length : Int) then ((semigroupref17_Number.f x290000 x290001 x290002 x290003 x290004 (wrap64 (Int.tdiv (wrap64 (Int.tdiv x7 x290002)) (x290000.length : Int))) (rd (rd_L1 x290000 (rd (rd_L1 x290000 (Int.tmod (wrap64 (Int.tdiv x7 x290002)) (x290000.length : Int))) (rd (rd_L1 x290003 (Int.tmod x7 x290002)) (wrap64 (Int.tdiv (wrap64 (Int.tdiv x8 x290002)) (x290000.length : Int)))))) (Int.tmod (wrap64 (Int.tdiv x8 x290002)) (x290000.length : Int))) (Int.tmod x8 x290002)).bind fun t300 => (some t300)) else (none)) else (none)) else (none)) else (none)) else (none)) else (none)) else (none)) else (none))) else (none)) else (none))) else (none)) else (none)))
end
def semigroupref17_Mul.f (k : Nat) (l0_0 : List (List Int)) (a0_1 : Int) (a0_2 : Int) (l0_3 : List (List Int)) (a0_4 : Bool) (a1 : Int) (a2 : Int) : Option (Int) := if a1 < 0 then (semigroupref17_Mul.j0 k a1 a2 true l0_0 a0_1 a0_2 l0_3 a0_4) else ((semigroupref17_Size.f l0_0 a0_1 a0_2 l0_3 a0_4).bind fun t290 => (if a1 ≥ t290 then (semigroupref17_Mul.j0 k a1 a2 true l0_0 a0_1 a0_2 l0_3 a0_4) else (if a2 < 0 then (semigroupref17_Mul.j0 k a1 a2 true l0_0 a0_1 a0_2 l0_3 a0_4) else ((semigroupref17_Size.f l0_0 a0_1 a0_2 l0_3 a0_4).bind fun t291 => (semigroupref17_Mul.j0 k a1 a2 (decide (a2 ≥ t291)) l0_0 a0_1 a0_2 l0_3 a0_4)))))
theorem semigroupref17_Mul.mono_l : ∀ k, (∀ y0 y1 y2 y3 y4 y5 y6 y7, LeO (semigroupref17_Mul.j0 k y0 y1 y2 y3 y4 y5 y6 y7) (semigroupref17_Mul.j0 (k + 1) y0 y1 y2 y3 y4 y5 y6 y7)) ∧ (∀ y0 y1 y2 y3 y4 y5 y6 y7, LeO (semigroupref17_Mul.j1 k y0 y1 y2 y3 y4 y5 y6 y7) (semigroupref17_Mul.j1 (k + 1) y0 y1 y2 y3 y4 y5 y6 y7))
 | 0 => ⟨fun _ _ _ _ _ _ _ _ r h => by simp [semigroupref17_Mul.j0] at h, fun _ _ _ _ _ _ _ _ r h => by simp [semigroupref17_Mul.j1] at h⟩
 | k + 1 => by
  obtain ⟨ih0, ih1⟩ := semigroupref17_Mul.mono_l k
  refine ⟨?_, ?_⟩
  ·intro y0 y1 y2 y3 y4 y5 y6 y7
   unfold semigroupref17_Mul.j0
   repeat' first
   | (with_reducible exact ih0 _ _ _ _ _ _ _ _)
   | (with_reducible exact ih1 _ _ _ _ _ _ _ _)
   | (with_reducible exact LeO.refl _)
   | (with_reducible exact LeO.none _)
   | (with_reducible refine LeO.ite ?_ ?_)
   | (with_reducible refine LeO.bind ?_ (fun _ => ?_))
   | exact ih0 _ _ _ _ _ _ _ _
   | exact ih1 _ _ _ _ _ _ _ _
   | exact LeO.none _
   | refine LeO.ite ?_ ?_
   | refine LeO.bind ?_ (fun _ => ?_)
  ·intro y0 y1 y2 y3 y4 y5 y6 y7
   unfold semigroupref17_Mul.j1
   repeat' first
   | (with_reducible exact ih0 _ _ _ _ _ _ _ _)
   | (with_reducible exact ih1 _ _ _ _ _ _ _ _)
   | (with_reducible exact LeO.refl _)
   | (with_reducible exact LeO.none _)
   | (with_reducible refine LeO.ite ?_ ?_)
   | (with_reducible refine LeO.bind ?_ (fun _ => ?_))
   | exact ih0 _ _ _ _ _ _ _ _
   | exact ih1 _ _ _ _ _ _ _ _
   | exact LeO.none _
   | refine LeO.ite ?_ ?_
   | refine LeO.bind ?_ (fun _ => ?_)
theorem semigroupref17_Mul.mono : ∀ a0 a1 a2 a3 a4 a5 a6 k, LeO (semigroupref17_Mul.f k a0 a1 a2 a3 a4 a5 a6) (semigroupref17_Mul.f (k + 1) a0 a1 a2 a3 a4 a5 a6) := by
 intro a0 a1 a2 a3 a4 a5 a6 k
 obtain ⟨ih0, ih1⟩ := semigroupref17_Mul.mono_l k
 unfold semigroupref17_Mul.f
 repeat' first
   | (with_reducible exact ih0 _ _ _ _ _ _ _ _)
   | (with_reducible exact ih1 _ _ _ _ _ _ _ _)
   | (with_reducible exact LeO.refl _)
   | (with_reducible exact LeO.none _)
   | (with_reducible refine LeO.ite ?_ ?_)
   | (with_reducible refine LeO.bind ?_ (fun _ => ?_))
   | exact ih0 _ _ _ _ _ _ _ _
   | exact ih1 _ _ _ _ _ _ _ _
   | exact LeO.none _
   | refine LeO.ite ?_ ?_
   | refine LeO.bind ?_ (fun _ => ?_)
def semigroupref17_Mul.T3 : Bool × List (List Nat × List Nat) := (true, [([], []), ([], []), ([1], [1]), ([0, 2], [0, 2]), ([], []), ([], []), ([5, 2], [5]), ([4, 6], [4, 6]), ([3, 6, 0, 1, 2, 3], [3]), ([7, 8, 0, 1, 2, 3, 4, 5, 6, 7, 8], [7])])
def semigroupref17_Mul.B3 : List Nat := [0, 0, 2, 7, 0, 0, 38, 118, 111, 511]
theorem semigroupref17_Mul.tab3 : rtab .any (opsOf Try.f28 3) = semigroupref17_Mul.T3 := by kernel_rfl
theorem semigroupref17_Mul.bits3 : waitsOk semigroupref17_Mul.T3.2 semigroupref17_Mul.B3 = true := by kernel_rfl
def semigroupref17_Mul.T7 : Bool × List (List Nat × List Nat) := (true, [([], []), ([0], [0]), ([], []), ([], []), ([3], [3]), ([2, 4], [2, 4]), ([1, 5], [1, 5]), ([6], [6]), ([], []), ([], []), ([9], [9]), ([8, 10], [8, 10]), ([], []), ([11, 12], [11, 12]), ([7, 13], [7, 13]), ([14], [14]), ([15, 0, 1, 2, 3, 4, 5, 6, 7, 8, 9, 10, 11, 12, 13, 14, 15], [15])])
def semigroupref17_Mul.B7 : List Nat := [0, 1, 0, 0, 8, 28, 63, 127, 0, 0, 512, 1792, 0, 7936, 16383, 32767, 65535]
theorem semigroupref17_Mul.tab7 : rtab .any (opsOf Try.f28 7) = semigroupref17_Mul.T7 := by kernel_rfl
theorem semigroupref17_Mul.bits7 : waitsOk semigroupref17_Mul.T7.2 semigroupref17_Mul.B7 = true := by kernel_rfl
def semigroupref17_Mul.T10 : Bool × List (List Nat × List Nat) := (true, [([], []), ([0], [0]), ([], []), ([2], [2]), ([], []), ([], []), ([5], [5]), ([4, 6], [4, 6]), ([], []), ([7, 8], [7, 8]), ([3, 9], [3, 9]), ([10], [10]), ([], []), ([11, 12], [11, 12]), ([13], [13]), ([1, 14], [1, 14]), ([15], [15]), ([], []), ([], []), ([18], [18]), ([17, 19], [17, 19]), ([], []), ([20, 21], [20, 21]), ([16, 22], [16, 22]), ([23], [23]), ([24, 0, 1, 2, 3, 4, 5, 6, 7, 8, 9, 10, 11, 12, 13, 14, 15, 16, 17, 18, 19, 20, 21, 22, 23, 24], [24])])
def semigroupref17_Mul.B10 : List Nat := [0, 1, 0, 4, 0, 0, 32, 112, 0, 496, 1020, 2044, 0, 8188, 16380, 32767, 65535, 0, 0, 262144, 917504, 0, 4063232, 8388607, 16777215, 33554431]
theorem semigroupref17_Mul.tab10 : rtab .any (opsOf Try.f28 10) = semigroupref17_Mul.T10 := by kernel_rfl
theorem semigroupref17_Mul.bits10 : waitsOk semigroupref17_Mul.T10.2 semigroupref17_Mul.B10 = true := by kernel_rfl
def semigroupref17_Mul.T11 : Bool × List (List Nat × List Nat) := (true, [([], []), ([], []), ([], []), ([2], [2]), ([1, 3], [1, 3]), ([], []), ([4, 5], [4, 5]), ([], []), ([], []), ([], []), ([9], [9]), ([8, 10], [8, 10]), ([0, 6, 7, 11], [0, 6, 7, 11]), ([12, 12, 0, 1, 2, 3, 4, 5, 6, 7, 8, 9, 10, 11, 12], [12])])
def semigroupref17_Mul.B11 : List Nat := [0, 0, 0, 4, 14, 0, 62, 0, 0, 0, 512, 1792, 4095, 8191]
theorem semigroupref17_Mul.tab11 : rtab .any (opsOf Try.f28 11) = semigroupref17_Mul.T11 := by kernel_rfl
theorem semigroupref17_Mul.bits11 : waitsOk semigroupref17_Mul.T11.2 semigroupref17_Mul.B11 = true := by kernel_rfl
set_option maxHeartbeats 8000000 in
set_option maxRecDepth 100000 in
theorem semigroupref17_Mul.calls (k : Nat) (A0_0 : Option Addr) (c0_0 : Nat) (l0_0 : List (List Int)) (a0_1 : Int) (a0_2 : Int) (A0_3 : Option Addr) (c0_3 : Nat) (l0_3 : List (List Int)) (a0_4 : Bool) (a1 : Int) (a2 : Int) (r : Int) (w : World) (hr0_0 : Kd.C (Kd.slice 3 (Kd.int .i64)) w A0_0 l0_0.length l0_0) (hc0_0 : l0_0.length ≤ c0_0) (hr0_3 : Kd.C (Kd.slice 3 (Kd.int .i64)) w A0_3 l0_3.length l0_3) (hc0_3 : l0_3.length ≤ c0_3) (h : semigroupref17_Mul.f k l0_0 a0_1 a0_2 l0_3 a0_4 a1 a2 = some r) :
  Calls Try.prog 28 #[.agg #[.slice A0_0 l0_0.length c0_0, .int .i64 a0_1, .int .i64 a0_2, .slice A0_3 l0_3.length c0_3, .bool a0_4], .int .i64 a1, .int .i64 a2] w fun e w' => e = .returned (.int .i64 r) ∧ Below w.heap.size w w' := by
 have hu24 := Try.underlying24
 have HR0_0 := Aside0.mk hr0_0
 have HC0_0 := Aside0.mk hc0_0
 (try clear hr0_0); (try clear hc0_0)
 have HR0_3 := Aside0.mk hr0_3
 have HC0_3 := Aside0.mk hc0_3
 (try clear hr0_3); (try clear hc0_3)
 have HB := Aside0.mk (Below.refl w.heap.size w)
 have H : (if a1 < 0 then (semigroupref17_Mul.j0 k a1 a2 true l0_0 a0_1 a0_2 l0_3 a0_4) else ((semigroupref17_Size.f l0_0 a0_1 a0_2 l0_3 a0_4).bind fun t290 => (if a1 ≥ t290 then (semigroupref17_Mul.j0 k a1 a2 true l0_0 a0_1 a0_2 l0_3 a0_4) else (if a2 < 0 then (semigroupref17_Mul.j0 k a1 a2 true l0_0 a0_1 a0_2 l0_3 a0_4) else ((semigroupref17_Size.f l0_0 a0_1 a0_2 l0_3 a0_4).bind fun t291 => (semigroupref17_Mul.j0 k a1 a2 (decide (a2 ≥ t291)) l0_0 a0_1 a0_2 l0_3 a0_4)))))) = some r := h
 clear h
 have HC4 := Aside0.mk H
 clear H
 go_enter Try.func28, Try.ntmps28
 go_upto_region 1 with (first | ((with_reducible refine gate_dst (N := 3) rfl ?_); refine box_event ?hg (N := 3) ?hd (cs := #[.slice A0_0 l0_0.length c0_0, .int .i64 a0_1, .int .i64 a0_2, .slice A0_3 l0_3.length c0_3, .bool a0_4]) (t := 24) ?hr ?_; (case hd => rfl); (case hg => rfl); q_hr; intro gb289 hg w5 hbox hb; have n0_ := Aside0.mk (below_step q_hb hb); have n1_ := Aside0.mk (hbox); have n2_ := Aside0.mk ((by rw [hg]; exact q_bs : w.heap.size ≤ gb289)); have n3_ := Aside0.mk ((by rw [hg]; exact q_bs : w.heap.size ≤ gb289)); clear HB; have HB := n0_; have BK289 := n1_; have GW289 := n2_; have GE289 := n3_; clear n0_ n1_ n2_ n3_; (q_x hb hbox); (try clear hg)))
 (try simp only [Act.put, List.setIfInBounds_toArray, List.set_cons_zero, List.set_cons_succ])
 go_cut [29] (fun v29 wc => ∃ (kq : Nat) (x29_3 : Bool), v29 = .bool x29_3 ∧ Aside0 (semigroupref17_Mul.j0 kq a1 a2 x29_3 l0_0 a0_1 a0_2 l0_3 a0_4 = some r) ∧ Aside0 (kq ≤ k) ∧ Aside0 (wc.heap[gb289]? = some (.cells #[(.slice A0_0 l0_0.length c0_0), .int .i64 a0_1, .int .i64 a0_2, (.slice A0_3 l0_3.length c0_3), .bool a0_4] 24 (0, 0))) ∧ Aside0 (Below w.heap.size w wc))
 case first =>
  have H := HC4.out
  clear HC4
  by_cases c6 : a1 < 0
  ·rw [if_pos c6] at H
   have c6b0 : decide (a1 < 0) = true := decide_eq_true c6
   clear c6
   (first | rw [c6b0] | (simp only [i64_w, i32_w]; rw [c6b0]) | skip)
   have H' := Aside0.mk H
   clear H
   go_wp2
   go_meet
   case rel => exact ⟨_, (true), q_rs, H', ⟨by first | omega | exact Nat.le_refl _⟩, ⟨by q_bk; exact BK289.out⟩, ⟨by repeat (first | (with_reducible first | exact HB.out | apply below_alloc | apply pw_below_drewN | apply below_drew1 | refine below_set ?_ GE289.out) | exact HB.out)⟩⟩
  ·rw [if_neg c6] at H
   have c6b0 : decide (a1 < 0) = false := decide_eq_false c6
   clear c6
   (first | rw [c6b0] | (simp only [i64_w, i32_w]; rw [c6b0]) | skip)
   replace H := Option.bind_eq_some_iff.mp H
   obtain ⟨t290, A70, H⟩ := H
   replace H : (if a1 ≥ t290 then (semigroupref17_Mul.j0 k a1 a2 true l0_0 a0_1 a0_2 l0_3 a0_4) else (if a2 < 0 then (semigroupref17_Mul.j0 k a1 a2 true l0_0 a0_1 a0_2 l0_3 a0_4) else ((semigroupref17_Size.f l0_0 a0_1 a0_2 l0_3 a0_4).bind fun t291 => (semigroupref17_Mul.j0 k a1 a2 (decide (a2 ≥ t291)) l0_0 a0_1 a0_2 l0_3 a0_4)))) = some r := H
   have A7 := Aside0.mk A70
   clear A70
   by_cases c8 : a1 ≥ t290
   ·rw [if_pos c8] at H
    have c8b0 : decide (t290 ≤ a1) = true := decide_eq_true c8
    clear c8
    have H' := Aside0.mk H
    clear H
    have hcz9_0 : w5.cell? ⟨gb289, 0, none⟩ = some (.slice A0_0 l0_0.length c0_0) := (blk_cell BK289.out 0).trans rfl
    have hcz9_1 : w5.cell? ⟨gb289, 1, none⟩ = some (.int .i64 a0_1) := (blk_cell BK289.out 1).trans rfl
    have hcz9_2 : w5.cell? ⟨gb289, 2, none⟩ = some (.int .i64 a0_2) := (blk_cell BK289.out 2).trans rfl
    have hcz9_3 : w5.cell? ⟨gb289, 3, none⟩ = some (.slice A0_3 l0_3.length c0_3) := (blk_cell BK289.out 3).trans rfl
    have hcz9_4 : w5.cell? ⟨gb289, 4, none⟩ = some (.bool a0_4) := (blk_cell BK289.out 4).trans rfl
    have hfz9_0 := blk_frozen BK289.out 0
    have hfz9_1 := blk_frozen BK289.out 1
    have hfz9_2 := blk_frozen BK289.out 2
    have hfz9_3 := blk_frozen BK289.out 3
    have hfz9_4 := blk_frozen BK289.out 4
    go_wp2_with (first | (go_at_call 16; (with_reducible refine (semigroupref17_Size.calls _ _ l0_0 a0_1 a0_2 _ _ l0_3 a0_4 t290 _ ?side1 ?side2 ?side3 ?side4 A7.out).mono ?_); (case side1 => q_cc (Kd.C_below HR0_0.out HB.out)); (case side2 => exact HC0_0.out); (case side3 => q_cc (Kd.C_below HR0_3.out HB.out)); (case side4 => exact HC0_3.out); rintro e w10 ⟨rfl, hb⟩; have n0_ := Aside0.mk (blk_below (g := gb289) (o := .cells #[.slice A0_0 l0_0.length c0_0, .int .i64 a0_1, .int .i64 a0_2, .slice A0_3 l0_3.length c0_3, .bool a0_4] 24 (0, 0)) (by q_bk; exact BK289.out) hb); have n1_ := Aside0.mk (below_step (q_hs GE289.out) hb); clear BK289; clear HB; have BK289 := n0_; have HB := n1_; clear n0_ n1_; (q_x hb hb2 hk); (try clear hi)))
    go_meet
    case rel => exact ⟨_, (true), q_rs, H', ⟨by first | omega | exact Nat.le_refl _⟩, ⟨by q_bk; exact BK289.out⟩, ⟨by repeat (first | (with_reducible first | exact HB.out | apply below_alloc | apply pw_below_drewN | apply below_drew1 | refine below_set ?_ GE289.out) | exact HB.out)⟩⟩
   ·rw [if_neg c8] at H
    have c8b0 : decide (t290 ≤ a1) = false := decide_eq_false c8
    clear c8
    by_cases c11 : a2 < 0
    ·rw [if_pos c11] at H
     have c11b0 : decide (a2 < 0) = true := decide_eq_true c11
     clear c11
     have H' := Aside0.mk H
     clear H
     have hcz12_0 : w5.cell? ⟨gb289, 0, none⟩ = some (.slice A0_0 l0_0.length c0_0) := (blk_cell BK289.out 0).trans rfl
     have hcz12_1 : w5.cell? ⟨gb289, 1, none⟩ = some (.int .i64 a0_1) := (blk_cell BK289.out 1).trans rfl
     have hcz12_2 : w5.cell? ⟨gb289, 2, none⟩ = some (.int .i64 a0_2) := (blk_cell BK289.out 2).trans rfl
     have hcz12_3 : w5.cell? ⟨gb289, 3, none⟩ = some (.slice A0_3 l0_3.length c0_3) := (blk_cell BK289.out 3).trans rfl
     have hcz12_4 : w5.cell? ⟨gb289, 4, none⟩ = some (.bool a0_4) := (blk_cell BK289.out 4).trans rfl
     have hfz12_0 := blk_frozen BK289.out 0
     have hfz12_1 := blk_frozen BK289.out 1
     have hfz12_2 := blk_frozen BK289.out 2
     have hfz12_3 := blk_frozen BK289.out 3
     have hfz12_4 := blk_frozen BK289.out 4
     go_wp2_with (first | (go_at_call 16; (with_reducible refine (semigroupref17_Size.calls _ _ l0_0 a0_1 a0_2 _ _ l0_3 a0_4 t290 _ ?side1 ?side2 ?side3 ?side4 A7.out).mono ?_); (case side1 => q_cc (Kd.C_below HR0_0.out HB.out)); (case side2 => exact HC0_0.out); (case side3 => q_cc (Kd.C_below HR0_3.out HB.out)); (case side4 => exact HC0_3.out); rintro e w13 ⟨rfl, hb⟩; have n0_ := Aside0.mk (blk_below (g := gb289) (o := .cells #[.slice A0_0 l0_0.length c0_0, .int .i64 a0_1, .int .i64 a0_2, .slice A0_3 l0_3.length c0_3, .bool a0_4] 24 (0, 0)) (by q_bk; exact BK289.out) hb); have n1_ := Aside0.mk (below_step (q_hs GE289.out) hb); clear BK289; clear HB; have BK289 := n0_; have HB := n1_; clear n0_ n1_; (q_x hb hb2 hk); (try clear hi)))
     go_meet
     case rel => exact ⟨_, (true), q_rs, H', ⟨by first | omega | exact Nat.le_refl _⟩, ⟨by q_bk; exact BK289.out⟩, ⟨by repeat (first | (with_reducible first | exact HB.out | apply below_alloc | apply pw_below_drewN | apply below_drew1 | refine below_set ?_ GE289.out) | exact HB.out)⟩⟩
    ·rw [if_neg c11] at H
     have c11b0 : decide (a2 < 0) = false := decide_eq_false c11
     clear c11
     replace H := Option.bind_eq_some_iff.mp H
     obtain ⟨t291, A140, H⟩ := H
     obtain rfl : t290 = t291 := Option.some.inj (A7.out.symm.trans A140)
     replace H : (semigroupref17_Mul.j0 k a1 a2 (decide (a2 ≥ t290)) l0_0 a0_1 a0_2 l0_3 a0_4) = some r := H
     have A14 := Aside0.mk A140
     clear A140
     have H' := Aside0.mk H
     clear H
     have hcz15_0 : w5.cell? ⟨gb289, 0, none⟩ = some (.slice A0_0 l0_0.length c0_0) := (blk_cell BK289.out 0).trans rfl
     have hcz15_1 : w5.cell? ⟨gb289, 1, none⟩ = some (.int .i64 a0_1) := (blk_cell BK289.out 1).trans rfl
     have hcz15_2 : w5.cell? ⟨gb289, 2, none⟩ = some (.int .i64 a0_2) := (blk_cell BK289.out 2).trans rfl
     have hcz15_3 : w5.cell? ⟨gb289, 3, none⟩ = some (.slice A0_3 l0_3.length c0_3) := (blk_cell BK289.out 3).trans rfl
     have hcz15_4 : w5.cell? ⟨gb289, 4, none⟩ = some (.bool a0_4) := (blk_cell BK289.out 4).trans rfl
     have hfz15_0 := blk_frozen BK289.out 0
     have hfz15_1 := blk_frozen BK289.out 1
     have hfz15_2 := blk_frozen BK289.out 2
     have hfz15_3 := blk_frozen BK289.out 3
     have hfz15_4 := blk_frozen BK289.out 4
     go_wp2_with (first | (go_at_call 16; (with_reducible refine (semigroupref17_Size.calls _ _ l0_0 a0_1 a0_2 _ _ l0_3 a0_4 t290 _ ?side1 ?side2 ?side3 ?side4 A7.out).mono ?_); (case side1 => q_cc (Kd.C_below HR0_0.out HB.out)); (case side2 => exact HC0_0.out); (case side3 => q_cc (Kd.C_below HR0_3.out HB.out)); (case side4 => exact HC0_3.out); rintro e w16 ⟨rfl, hb⟩; have n0_ := Aside0.mk (blk_below (g := gb289) (o := .cells #[.slice A0_0 l0_0.length c0_0, .int .i64 a0_1, .int .i64 a0_2, .slice A0_3 l0_3.length c0_3, .bool a0_4] 24 (0, 0)) (by q_bk; exact BK289.out) hb); have n1_ := Aside0.mk (below_step (q_hs GE289.out) hb); clear BK289; clear HB; have BK289 := n0_; have HB := n1_; clear n0_ n1_; (q_x hb hb2 hk hi); have hcz17_0 : w16.cell? ⟨gb289, 0, none⟩ = some (.slice A0_0 l0_0.length c0_0) := (blk_cell BK289.out 0).trans rfl; have hcz17_1 : w16.cell? ⟨gb289, 1, none⟩ = some (.int .i64 a0_1) := (blk_cell BK289.out 1).trans rfl; have hcz17_2 : w16.cell? ⟨gb289, 2, none⟩ = some (.int .i64 a0_2) := (blk_cell BK289.out 2).trans rfl; have hcz17_3 : w16.cell? ⟨gb289, 3, none⟩ = some (.slice A0_3 l0_3.length c0_3) := (blk_cell BK289.out 3).trans rfl; have hcz17_4 : w16.cell? ⟨gb289, 4, none⟩ = some (.bool a0_4) := (blk_cell BK289.out 4).trans rfl; have hfz17_0 := blk_frozen BK289.out 0; have hfz17_1 := blk_frozen BK289.out 1; have hfz17_2 := blk_frozen BK289.out 2; have hfz17_3 := blk_frozen BK289.out 3; have hfz17_4 := blk_frozen BK289.out 4) | (go_at_call 16; (with_reducible refine (semigroupref17_Size.calls _ _ l0_0 a0_1 a0_2 _ _ l0_3 a0_4 t290 _ ?side1 ?side2 ?side3 ?side4 A14.out).mono ?_); (case side1 => q_cc (Kd.C_below HR0_0.out HB.out)); (case side2 => exact HC0_0.out); (case side3 => q_cc (Kd.C_below HR0_3.out HB.out)); (case side4 => exact HC0_3.out); rintro e w18 ⟨rfl, hb⟩; have n0_ := Aside0.mk (blk_below (g := gb289) (o := .cells #[.slice A0_0 l0_0.length c0_0, .int .i64 a0_1, .int .i64 a0_2, .slice A0_3 l0_3.length c0_3, .bool a0_4] 24 (0, 0)) (by q_bk; exact BK289.out) hb); have n1_ := Aside0.mk (below_step (q_hs GE289.out) hb); clear BK289; clear HB; have BK289 := n0_; have HB := n1_; clear n0_ n1_; (q_x hb hb2 hk); (try clear hi)))
     go_meet
     case rel => exact ⟨_, (decide (a2 ≥ t290)), q_rs, H', ⟨by first | omega | exact Nat.le_refl _⟩, ⟨by q_bk; exact BK289.out⟩, ⟨by repeat (first | (with_reducible first | exact HB.out | apply below_alloc | apply pw_below_drewN | apply below_drew1 | refine below_set ?_ GE289.out) | exact HB.out)⟩⟩
 case rest =>
  clear HC4
  q_x c1 c2 p2 c6 c6b0 c8 c8b0 c11 c11b0 hcz12_0 hcz12_1 hcz12_2 hcz12_3 hcz12_4 hcz15_0 hcz15_1 hcz15_2 hcz15_3 hcz15_4 hcz17_0 hcz17_1 hcz17_2 hcz17_3 hcz17_4 hcz9_0 hcz9_1 hcz9_2 hcz9_3 hcz9_4 hfz12_0 hfz12_1 hfz12_2 hfz12_3 hfz12_4 hfz15_0 hfz15_1 hfz15_2 hfz15_3 hfz15_4 hfz17_0 hfz17_1 hfz17_2 hfz17_3 hfz17_4 hfz9_0 hfz9_1 hfz9_2 hfz9_3 hfz9_4
  obtain ⟨kq, x29_3, rfl, HA, HJ3, BK289, HB⟩ := hcut
  cases kq with
  | zero => exact absurd HA.out (by simp [semigroupref17_Mul.j0])
  | succ kj3 =>
   have H := HA.out
   clear HA
   simp only [semigroupref17_Mul.j0] at H
   by_cases c19 : x29_3 = true
   ·subst c19
    have H1 : (some (-1)) = some r := by rw [if_pos rfl] at H; exact H
    clear H
    have H := H1
    clear H1
    obtain rfl := Option.some.inj H
    go_wp2
    go_ret
    exact ⟨by first | rfl | q_em | q_en, by repeat (first | (with_reducible first | exact HB.out | apply below_alloc | apply pw_below_drewN | apply below_drew1 | refine below_set ?_ GE289.out) | exact HB.out)⟩
   ·replace c19 := Bool.eq_false_iff.mpr c19
    subst c19
    have H1 : ((semigroupref17_base.f l0_0 a0_1 a0_2 l0_3 a0_4).bind fun t292 => ((semigroupref17_base.f l0_0 a0_1 a0_2 l0_3 a0_4).bind fun t293 => (if (wrap64 (a1 - t292)) < 0 then (semigroupref17_Mul.j1 kj3 (wrap64 (a1 - t292)) (wrap64 (a2 - t293)) true l0_0 a0_1 a0_2 l0_3 a0_4) else (semigroupref17_Mul.j1 kj3 (wrap64 (a1 - t292)) (wrap64 (a2 - t293)) (decide ((wrap64 (a2 - t293)) < 0)) l0_0 a0_1 a0_2 l0_3 a0_4)))) = some r := by rw [if_neg (show ¬ (false = true) by decide)] at H; exact H
    clear H
    have H := H1
    clear H1
    replace H := Option.bind_eq_some_iff.mp H
    obtain ⟨t292, A200, H⟩ := H
    replace H : ((semigroupref17_base.f l0_0 a0_1 a0_2 l0_3 a0_4).bind fun t293 => (if (wrap64 (a1 - t292)) < 0 then (semigroupref17_Mul.j1 kj3 (wrap64 (a1 - t292)) (wrap64 (a2 - t293)) true l0_0 a0_1 a0_2 l0_3 a0_4) else (semigroupref17_Mul.j1 kj3 (wrap64 (a1 - t292)) (wrap64 (a2 - t293)) (decide ((wrap64 (a2 - t293)) < 0)) l0_0 a0_1 a0_2 l0_3 a0_4))) = some r := H
    have A20 := Aside0.mk A200
    clear A200
    replace H := Option.bind_eq_some_iff.mp H
    obtain ⟨t293, A210, H⟩ := H
    replace H : (if (wrap64 (a1 - t292)) < 0 then (semigroupref17_Mul.j1 kj3 (wrap64 (a1 - t292)) (wrap64 (a2 - t293)) true l0_0 a0_1 a0_2 l0_3 a0_4) else (semigroupref17_Mul.j1 kj3 (wrap64 (a1 - t292)) (wrap64 (a2 - t293)) (decide ((wrap64 (a2 - t293)) < 0)) l0_0 a0_1 a0_2 l0_3 a0_4)) = some r := H
    have A21 := Aside0.mk A210
    clear A210
    have HC22 := Aside0.mk H
    clear H
    try go_wp2
    have n0_ := Aside0.mk (blk_drew BK289.out)
    have n1_ := Aside0.mk (below_drew1 HB.out)
    clear HB BK289
    have BK289 := n0_
    have HB := n1_
    clear n0_ n1_
    refine start_ (n := 10) (S := fun w' => w'.cell? ⟨gb289, 0, none⟩ = some (.slice A0_0 l0_0.length c0_0) ∧ w'.cell? ⟨gb289, 1, none⟩ = some (.int .i64 a0_1) ∧ w'.cell? ⟨gb289, 2, none⟩ = some (.int .i64 a0_2) ∧ w'.cell? ⟨gb289, 3, none⟩ = some (.slice A0_3 l0_3.length c0_3) ∧ w'.cell? ⟨gb289, 4, none⟩ = some (.bool a0_4)) (ds := []) #[false, false, false, false, false, false, false, false, false, false] (by kernel_rfl) rfl rfl ⟨(blk_cell BK289.out 0).trans rfl, (blk_cell BK289.out 1).trans rfl, (blk_cell BK289.out 2).trans rfl, (blk_cell BK289.out 3).trans rfl, (blk_cell BK289.out 4).trans rfl⟩ (fun hHeld => ?_); refine with_tabW semigroupref17_Mul.tab3 semigroupref17_Mul.bits3 (fun HT_ HW_ => ?_)
    generalize wc.drew = w23 at BK289 HB hHeld ⊢
    refine pure_ (i := 0) (N := some 30) (v := ?_) (a' := ?_) #[true, false, false, false, false, false, false, false, false, false] rfl rfl q_ho q_id (Or.inl ⟨by rfl, ?_⟩) ?_ ?_
    rotate_left
    ·intro w'
     go_simp
     with_reducible rfl
    rotate_left
    ·q_si
     rfl
    refine pure_ (i := 4) (N := some 34) (v := ?_) (a' := ?_) #[true, false, false, false, true, false, false, false, false, false] rfl rfl q_ho q_id (Or.inl ⟨by rfl, ?_⟩) ?_ ?_
    rotate_left
    ·intro w'
     go_simp
     with_reducible rfl
    rotate_left
    ·q_si
     rfl
    refine take_ (i := 1) (N := some 31) (v := ?_) (a' := ?_) #[true, true, false, false, true, false, false, false, false, false] rfl rfl q_to q_id (Or.inl ⟨by rfl, ?_⟩) hHeld ?_ ?_
    rotate_left
    ·rintro w' ⟨s0, s1, s2, s3, s4⟩
     go_simp
     with_reducible rfl
    rotate_left
    ·q_si
     rfl
    refine take_ (i := 5) (N := some 35) (v := ?_) (a' := ?_) #[true, true, false, false, true, true, false, false, false, false] rfl rfl q_to q_id (Or.inl ⟨by rfl, ?_⟩) hHeld ?_ ?_
    rotate_left
    ·rintro w' ⟨s0, s1, s2, s3, s4⟩
     go_simp
     with_reducible rfl
    rotate_left
    ·q_si
     rfl
    refine one_ (i := 2) (N := some 32) #[true, true, true, false, true, true, false, false, false, false] rfl rfl (one_of HT_.out (by kernel_rfl)) (by decide) (fun K hK => ?_)
    refine goes_ Try.func46 (by kernel_rfl) rfl #[.agg #[.slice A0_0 l0_0.length c0_0, .int .i64 a0_1, .int .i64 a0_2, .slice A0_3 l0_3.length c0_3, .bool a0_4]] (by rfl) rfl rfl q_ml ?_
    with_reducible refine (semigroupref17_base.calls _ _ l0_0 a0_1 a0_2 _ _ l0_3 a0_4 t292 _ ?side1 ?side2 ?side3 ?side4 A20.out).mono ?_
    (case side1 => q_cc (Kd.C_below HR0_0.out HB.out))
    (case side2 => exact HC0_0.out)
    (case side3 => q_cc (Kd.C_below HR0_3.out HB.out))
    (case side4 => exact HC0_3.out)
    rintro e w24 ⟨rfl, hb⟩
    refine ⟨_, rfl, ?_⟩
    have n0_ := Aside0.mk (blk_below (g := gb289) (o := .cells #[.slice A0_0 l0_0.length c0_0, .int .i64 a0_1, .int .i64 a0_2, .slice A0_3 l0_3.length c0_3, .bool a0_4] 24 (0, 0)) (by q_bk; exact BK289.out) hb)
    have n1_ := Aside0.mk (below_step (q_hs GE289.out) hb)
    clear HB BK289
    have BK289 := n0_
    have HB := n1_
    clear n0_ n1_
    (try clear hb)
    (try clear hb2)
    (try clear hk)
    (try clear hi)
    refine hK.out _ _ ⟨(blk_cell BK289.out 0).trans rfl, (blk_cell BK289.out 1).trans rfl, (blk_cell BK289.out 2).trans rfl, (blk_cell BK289.out 3).trans rfl, (blk_cell BK289.out 4).trans rfl⟩ (fun hHeld => ?_)
    clear hK K
    refine norm_ (a' := ?_) ?_ ?_
    rotate_left
    ·show Act.put _ (some 32) _ = _
     simp only [Act.put, List.setIfInBounds_toArray, List.set_cons_zero, List.set_cons_succ, i64_w, i32_w]
     rfl
    refine pure_ (i := 3) (N := some 33) (v := ?_) (a' := ?_) #[true, true, true, true, true, true, false, false, false, false] rfl rfl q_ho q_id (Or.inl ⟨by rfl, ?_⟩) ?_ ?_
    rotate_left
    ·intro w'
     go_simp
     with_reducible rfl
    rotate_left
    ·q_si
     rfl
    refine one_ (i := 6) (N := some 36) #[true, true, true, true, true, true, true, false, false, false] rfl rfl (one_of HT_.out (by kernel_rfl)) (by decide) (fun K hK => ?_)
    refine goes_ Try.func46 (by kernel_rfl) rfl #[.agg #[.slice A0_0 l0_0.length c0_0, .int .i64 a0_1, .int .i64 a0_2, .slice A0_3 l0_3.length c0_3, .bool a0_4]] (by rfl) rfl rfl q_ml ?_
    with_reducible refine (semigroupref17_base.calls _ _ l0_0 a0_1 a0_2 _ _ l0_3 a0_4 t293 _ ?side1 ?side2 ?side3 ?side4 A21.out).mono ?_
    (case side1 => q_cc (Kd.C_below HR0_0.out HB.out))
    (case side2 => exact HC0_0.out)
    (case side3 => q_cc (Kd.C_below HR0_3.out HB.out))
    (case side4 => exact HC0_3.out)
    rintro e w25 ⟨rfl, hb⟩
    refine ⟨_, rfl, ?_⟩
    have n0_ := Aside0.mk (blk_below (g := gb289) (o := .cells #[.slice A0_0 l0_0.length c0_0, .int .i64 a0_1, .int .i64 a0_2, .slice A0_3 l0_3.length c0_3, .bool a0_4] 24 (0, 0)) (by q_bk; exact BK289.out) hb)
    have n1_ := Aside0.mk (below_step (q_hs GE289.out) hb)
    clear HB BK289
    have BK289 := n0_
    have HB := n1_
    clear n0_ n1_
    (try clear hb)
    (try clear hb2)
    (try clear hk)
    (try clear hi)
    refine hK.out _ _ ⟨(blk_cell BK289.out 0).trans rfl, (blk_cell BK289.out 1).trans rfl, (blk_cell BK289.out 2).trans rfl, (blk_cell BK289.out 3).trans rfl, (blk_cell BK289.out 4).trans rfl⟩ (fun hHeld => ?_)
    clear hK K
    refine norm_ (a' := ?_) ?_ ?_
    rotate_left
    ·show Act.put _ (some 36) _ = _
     simp only [Act.put, List.setIfInBounds_toArray, List.set_cons_zero, List.set_cons_succ, i64_w, i32_w]
     rfl
    refine pure_ (i := 7) (N := some 37) (v := ?_) (a' := ?_) #[true, true, true, true, true, true, true, true, false, false] rfl rfl q_ho q_id (Or.inl ⟨by rfl, ?_⟩) ?_ ?_
    rotate_left
    ·intro w'
     go_simp
     with_reducible rfl
    rotate_left
    ·q_si
     rfl
    refine pure_ (i := 8) (N := some 7) (v := ?_) (a' := ?_) #[true, true, true, true, true, true, true, true, true, false] rfl rfl q_ho q_id (Or.inl ⟨by rfl, ?_⟩) ?_ ?_
    rotate_left
    ·intro w'
     go_simp
     with_reducible rfl
    rotate_left
    ·q_si
     rfl
    refine pure_ (i := 9) (N := some 8) (v := ?_) (a' := ?_) #[true, true, true, true, true, true, true, true, true, true] rfl rfl q_ho q_id (Or.inl ⟨by rfl, ?_⟩) ?_ ?_
    rotate_left
    ·intro w'
     go_simp
     with_reducible rfl
    rotate_left
    ·q_si
     rfl
    refine done_ (done_of HT_.out (by kernel_rfl)) ?_
    go_upto_region 4 with (fail)
    go_cut [43] (fun v43 wc => ∃ (kq : Nat) (x43_21 : Bool), v43 = .bool x43_21 ∧ Aside0 (semigroupref17_Mul.j1 kq (wrap64 (a1 - t292)) (wrap64 (a2 - t293)) x43_21 l0_0 a0_1 a0_2 l0_3 a0_4 = some r) ∧ Aside0 (kq ≤ kj3) ∧ Aside0 (wc.heap[gb289]? = some (.cells #[(.slice A0_0 l0_0.length c0_0), .int .i64 a0_1, .int .i64 a0_2, (.slice A0_3 l0_3.length c0_3), .bool a0_4] 24 (0, 0))) ∧ Aside0 (Below w.heap.size w wc))
    case first =>
     have H := HC22.out
     clear HC22
     by_cases c26 : (wrap64 (a1 - t292)) < 0
     ·rw [if_pos c26] at H
      have c26b0 : decide ((wrap64 (a1 - t292)) < 0) = true := decide_eq_true c26
      clear c26
      (first | rw [c26b0] | (simp only [i64_w, i32_w]; rw [c26b0]) | skip)
      have H' := Aside0.mk H
      clear H
      go_wp2
      go_meet
      case rel => exact ⟨_, (true), q_rs, H', ⟨by have := HJ3.out; first | omega | exact Nat.le_refl _⟩, ⟨by q_bk; exact BK289.out⟩, ⟨by repeat (first | (with_reducible first | exact HB.out | apply below_alloc | apply pw_below_drewN | apply below_drew1 | refine below_set ?_ GE289.out) | exact HB.out)⟩⟩
     ·rw [if_neg c26] at H
      have c26b0 : decide ((wrap64 (a1 - t292)) < 0) = false := decide_eq_false c26
      clear c26
      (first | rw [c26b0] | (simp only [i64_w, i32_w]; rw [c26b0]) | skip)
      have H' := Aside0.mk H
      clear H
      go_wp2
      go_meet
      case rel => exact ⟨_, (decide ((wrap64 (a2 - t293)) < 0)), q_rs, H', ⟨by have := HJ3.out; first | omega | exact Nat.le_refl _⟩, ⟨by q_bk; exact BK289.out⟩, ⟨by repeat (first | (with_reducible first | exact HB.out | apply below_alloc | apply pw_below_drewN | apply below_drew1 | refine below_set ?_ GE289.out) | exact HB.out)⟩⟩
    case rest =>
     clear HC22
     q_x c1 c2 p2 c4 c6 c6b0 p6 c8 c8b0 c11 c11b0 c19 c26 c26b0 hcz12_0 hcz12_1 hcz12_2 hcz12_3 hcz12_4 hcz15_0 hcz15_1 hcz15_2 hcz15_3 hcz15_4 hcz17_0 hcz17_1 hcz17_2 hcz17_3 hcz17_4 hcz9_0 hcz9_1 hcz9_2 hcz9_3 hcz9_4 hfz12_0 hfz12_1 hfz12_2 hfz12_3 hfz12_4 hfz15_0 hfz15_1 hfz15_2 hfz15_3 hfz15_4 hfz17_0 hfz17_1 hfz17_2 hfz17_3 hfz17_4 hfz9_0 hfz9_1 hfz9_2 hfz9_3 hfz9_4 p2
     obtain ⟨kq, x43_21, rfl, HA, HJ21, BK289, HB⟩ := hcut
     cases kq with
     | zero => exact absurd HA.out (by simp [semigroupref17_Mul.j1])
     | succ kj21 =>
      have H := HA.out
      clear HA
      simp only [semigroupref17_Mul.j1] at H
      by_cases c27 : x43_21 = true
      ·subst c27
       have H1 : (some 0) = some r := by rw [if_pos rfl] at H; exact H
       clear H
       have H := H1
       clear H1
       obtain rfl := Option.some.inj H
       go_wp2
       go_ret
       exact ⟨by first | rfl | q_em | q_en, by repeat (first | (with_reducible first | exact HB.out | apply below_alloc | apply pw_below_drewN | apply below_drew1 | refine below_set ?_ GE289.out) | exact HB.out)⟩
      ·replace c27 := Bool.eq_false_iff.mpr c27
       subst c27
       have H1 : (if a0_2 = 0 then (none) else (if 0 ≤ (Int.tmod (wrap64 (a1 - t292)) a0_2) then (if (Int.tmod (wrap64 (a1 - t292)) a0_2) < (l0_3.length : Int) then (if (l0_0.length : Int) = 0 then (none) else (if 0 ≤ (wrap64 (Int.tdiv (wrap64 (Int.tdiv (wrap64 (a2 - t293)) a0_2)) (l0_0.length : Int))) then (if (wrap64 (Int.tdiv (wrap64 (Int.tdiv (wrap64 (a2 - t293)) a0_2)) (l0_0.length : Int))) < ((rd_L1 l0_3 (Int.tmod (wrap64 (a1 - t292)) a0_2)).length : Int) then (if (rd (rd_L1 l0_3 (Int.tmod (wrap64 (a1 - t292)) a0_2)) (wrap64 (Int.tdiv (wrap64 (Int.tdiv (wrap64 (a2 - t293)) a0_2)) (l0_0.length : Int)))) < 0 then (some 0) else (if 0 ≤ (Int.tmod (wrap64 (Int.tdiv (wrap64 (a1 - t292)) a0_2)) (l0_0.length : Int)) then (if (Int.tmod (wrap64 (Int.tdiv (wrap64 (a1 - t292)) a0_2)) (l0_0.length : Int)) < (l0_0.length : Int) then (if 0 ≤ (rd (rd_L1 l0_3 (Int.tmod (wrap64 (a1 - t292)) a0_2)) (wrap64 (Int.tdiv (wrap64 (Int.tdiv (wrap64 (a2 - t293)) a0_2)) (l0_0.length : Int)))) then (if (rd (rd_L1 l0_3 (Int.tmod (wrap64 (a1 - t292)) a0_2)) (wrap64 (Int.tdiv (wrap64 (Int.tdiv (wrap64 (a2 - t293)) a0_2)) (l0_0.length : Int)))) < ((rd_L1 l0_0 (Int.tmod (wrap64 (Int.tdiv (wrap64 (a1 - t292)) a0_2)) (l0_0.length : Int))).length : Int) then (if 0 ≤ (rd (rd_L1 l0_0 (Int.tmod (wrap64 (Int.tdiv (wrap64 (a1 - t292)) a0_2)) (l0_0.length : Int))) (rd (rd_L1 l0_3 (Int.tmod (wrap64 (a1 - t292)) a0_2)) (wrap64 (Int.tdiv (wrap64 (Int.tdiv (wrap64 (a2 - t293)) a0_2)) (l0_0.length : Int))))) then (if (rd (rd_L1 l0_0 (Int.tmod (wrap64 (Int.tdiv (wrap64 (a1 - t292)) a0_2)) (l0_0.length : Int))) (rd (rd_L1 l0_3 (Int.tmod (wrap64 (a1 - t292)) a0_2)) (wrap64 (Int.tdiv (wrap64 (Int.tdiv (wrap64 (a2 - t293)) a0_2)) (l0_0.length : Int))))) < (l0_0.length : Int) then (if 0 ≤ (Int.tmod (wrap64 (Int.tdiv (wrap64 (a2 - t293)) a0_2)) (l0_0.length : Int)) then (if (Int.tmod (wrap64 (Int.tdiv (wrap64 (a2 - t293)) a0_2)) (l0_0.length : Int)) < ((rd_L1 l0_0 (rd (rd_L1 l0_0 (Int.tmod (wrap64 (Int.tdiv (wrap64 (a1 - t292)) a0_2)) (l0_0.length : Int))) (rd (rd_L1 l0_3 (Int.tmod (wrap64 (a1 - t292)) a0_2)) (wrap64 (Int.tdiv (wrap64 (Int.tdiv (wrap64 (a2 - t293)) a0_2)) (l0_0.length : Int)))))).length : Int) then ((semigroupref17_Number.f l0_0 a0_1 a0_2 l0_3 a0_4 (wrap64 (Int.tdiv (wrap64 (Int.tdiv (wrap64 (a1 - t292)) a0_2)) (l0_0.length : Int))) (rd (rd_L1 l0_0 (rd (rd_L1 l0_0 (Int.tmod (wrap64 (Int.tdiv (wrap64 (a1 - t292)) a0_2)) (l0_0.length : Int))) (rd (rd_L1 l0_3 (Int.tmod (wrap64 (a1 - t292)) a0_2)) (wrap64 (Int.tdiv (wrap64 (Int.tdiv (wrap64 (a2 - t293)) a0_2)) (l0_0.length : Int)))))) (Int.tmod (wrap64 (Int.tdiv (wrap64 (a2 - t293)) a0_2)) (l0_0.length : Int))) (Int.tmod (wrap64 (a2 - t293)) a0_2)).bind fun t300 => (some t300)) else (none)) else (none)) else (none)) else (none)) else (none)) else (none)) else (none)) else (none))) else (none)) else (none))) else (none)) else (none))) = some r := by rw [if_neg (show ¬ (false = true) by decide)] at H; exact H
       clear H
       have H := H1
       clear H1
       by_cases c28 : a0_2 = 0
       ·rw [if_pos c28] at H
        exact absurd H (by simp)
       ·rw [if_neg c28] at H
        have c28b0 : (a0_2 == 0) = false := beq_eq_false_iff_ne.mpr c28
        have c28b1 : (a0_2 != 0) = true := bne_iff_ne.mpr c28
        obtain ⟨ji29, hji29⟩ : ∃ j_ : Int, (Int.tmod (wrap64 (a1 - t292)) a0_2) = j_ := ⟨_, rfl⟩
        replace H : (if 0 ≤ (ji29) then (if (ji29) < (l0_3.length : Int) then (if (l0_0.length : Int) = 0 then (none) else (if 0 ≤ (wrap64 (Int.tdiv (wrap64 (Int.tdiv (wrap64 (a2 - t293)) a0_2)) (l0_0.length : Int))) then (if (wrap64 (Int.tdiv (wrap64 (Int.tdiv (wrap64 (a2 - t293)) a0_2)) (l0_0.length : Int))) < ((rd_L1 l0_3 (ji29)).length : Int) then (if (rd (rd_L1 l0_3 (ji29)) (wrap64 (Int.tdiv (wrap64 (Int.tdiv (wrap64 (a2 - t293)) a0_2)) (l0_0.length : Int)))) < 0 then (some 0) else (if 0 ≤ (Int.tmod (wrap64 (Int.tdiv (wrap64 (a1 - t292)) a0_2)) (l0_0.length : Int)) then (if (Int.tmod (wrap64 (Int.tdiv (wrap64 (a1 - t292)) a0_2)) (l0_0.length : Int)) < (l0_0.length : Int) then (if 0 ≤ (rd (rd_L1 l0_3 (ji29)) (wrap64 (Int.tdiv (wrap64 (Int.tdiv (wrap64 (a2 - t293)) a0_2)) (l0_0.length : Int)))) then (if (rd (rd_L1 l0_3 (ji29)) (wrap64 (Int.tdiv (wrap64 (Int.tdiv (wrap64 (a2 - t293)) a0_2)) (l0_0.length : Int)))) < ((rd_L1 l0_0 (Int.tmod (wrap64 (Int.tdiv (wrap64 (a1 - t292)) a0_2)) (l0_0.length : Int))).length : Int) then (if 0 ≤ (rd (rd_L1 l0_0 (Int.tmod (wrap64 (Int.tdiv (wrap64 (a1 - t292)) a0_2)) (l0_0.length : Int))) (rd (rd_L1 l0_3 (ji29)) (wrap64 (Int.tdiv (wrap64 (Int.tdiv (wrap64 (a2 - t293)) a0_2)) (l0_0.length : Int))))) then (if (rd (rd_L1 l0_0 (Int.tmod (wrap64 (Int.tdiv (wrap64 (a1 - t292)) a0_2)) (l0_0.length : Int))) (rd (rd_L1 l0_3 (ji29)) (wrap64 (Int.tdiv (wrap64 (Int.tdiv (wrap64 (a2 - t293)) a0_2)) (l0_0.length : Int))))) < (l0_0.length : Int) then (if 0 ≤ (Int.tmod (wrap64 (Int.tdiv (wrap64 (a2 - t293)) a0_2)) (l0_0.length : Int)) then (if (Int.tmod (wrap64 (Int.tdiv (wrap64 (a2 - t293)) a0_2)) (l0_0.length : Int)) < ((rd_L1 l0_0 (rd (rd_L1 l0_0 (Int.tmod (wrap64 (Int.tdiv (wrap64 (a1 - t292)) a0_2)) (l0_0.length : Int))) (rd (rd_L1 l0_3 (ji29)) (wrap64 (Int.tdiv (wrap64 (Int.tdiv (wrap64 (a2 - t293)) a0_2)) (l0_0.length : Int)))))).length : Int) then ((semigroupref17_Number.f l0_0 a0_1 a0_2 l0_3 a0_4 (wrap64 (Int.tdiv (wrap64 (Int.tdiv (wrap64 (a1 - t292)) a0_2)) (l0_0.length : Int))) (rd (rd_L1 l0_0 (rd (rd_L1 l0_0 (Int.tmod (wrap64 (Int.tdiv (wrap64 (a1 - t292)) a0_2)) (l0_0.length : Int))) (rd (rd_L1 l0_3 (ji29)) (wrap64 (Int.tdiv (wrap64 (Int.tdiv (wrap64 (a2 - t293)) a0_2)) (l0_0.length : Int)))))) (Int.tmod (wrap64 (Int.tdiv (wrap64 (a2 - t293)) a0_2)) (l0_0.length : Int))) (Int.tmod (wrap64 (a2 - t293)) a0_2)).bind fun t300 => (some t300)) else (none)) else (none)) else (none)) else (none)) else (none)) else (none)) else (none)) else (none))) else (none)) else (none))) else (none)) else (none)) = some r := by first | (rw [hji29] at H; exact H) | (simp only [hji29] at H ⊢; exact H)
        by_cases c30 : 0 ≤ (ji29)
        ·rw [if_pos c30] at H
         have c30b0 : decide (0 ≤ (ji29)) = true := decide_eq_true c30
         clear c30
         by_cases c31 : (ji29) < (l0_3.length : Int)
         ·rw [if_pos c31] at H
          have c31b0 : decide ((ji29) < (l0_3.length : Int)) = true := decide_eq_true c31
          clear c31
          by_cases c32 : (l0_0.length : Int) = 0
          ·rw [if_pos c32] at H
           exact absurd H (by simp)
          ·rw [if_neg c32] at H
           have c32b0 : ((l0_0.length : Int) == 0) = false := beq_eq_false_iff_ne.mpr c32
           have c32b1 : ((l0_0.length : Int) != 0) = true := bne_iff_ne.mpr c32
           have c32b2 : ¬ (l0_0 = []) := fun h_ => c32 (by rw [h_]; rfl)
           obtain ⟨ji33, hji33⟩ : ∃ j_ : Int, (wrap64 (Int.tdiv (wrap64 (Int.tdiv (wrap64 (a2 - t293)) a0_2)) (l0_0.length : Int))) = j_ := ⟨_, rfl⟩
           replace H : (if 0 ≤ (ji33) then (if (ji33) < ((rd_L1 l0_3 (ji29)).length : Int) then (if (rd (rd_L1 l0_3 (ji29)) (ji33)) < 0 then (some 0) else (if 0 ≤ (Int.tmod (wrap64 (Int.tdiv (wrap64 (a1 - t292)) a0_2)) (l0_0.length : Int)) then (if (Int.tmod (wrap64 (Int.tdiv (wrap64 (a1 - t292)) a0_2)) (l0_0.length : Int)) < (l0_0.length : Int) then (if 0 ≤ (rd (rd_L1 l0_3 (ji29)) (ji33)) then (if (rd (rd_L1 l0_3 (ji29)) (ji33)) < ((rd_L1 l0_0 (Int.tmod (wrap64 (Int.tdiv (wrap64 (a1 - t292)) a0_2)) (l0_0.length : Int))).length : Int) then (if 0 ≤ (rd (rd_L1 l0_0 (Int.tmod (wrap64 (Int.tdiv (wrap64 (a1 - t292)) a0_2)) (l0_0.length : Int))) (rd (rd_L1 l0_3 (ji29)) (ji33))) then (if (rd (rd_L1 l0_0 (Int.tmod (wrap64 (Int.tdiv (wrap64 (a1 - t292)) a0_2)) (l0_0.length : Int))) (rd (rd_L1 l0_3 (ji29)) (ji33))) < (l0_0.length : Int) then (if 0 ≤ (Int.tmod (wrap64 (Int.tdiv (wrap64 (a2 - t293)) a0_2)) (l0_0.length : Int)) then (if (Int.tmod (wrap64 (Int.tdiv (wrap64 (a2 - t293)) a0_2)) (l0_0.length : Int)) < ((rd_L1 l0_0 (rd (rd_L1 l0_0 (Int.tmod (wrap64 (Int.tdiv (wrap64 (a1 - t292)) a0_2)) (l0_0.length : Int))) (rd (rd_L1 l0_3 (ji29)) (ji33)))).length : Int) then ((semigroupref17_Number.f l0_0 a0_1 a0_2 l0_3 a0_4 (wrap64 (Int.tdiv (wrap64 (Int.tdiv (wrap64 (a1 - t292)) a0_2)) (l0_0.length : Int))) (rd (rd_L1 l0_0 (rd (rd_L1 l0_0 (Int.tmod (wrap64 (Int.tdiv (wrap64 (a1 - t292)) a0_2)) (l0_0.length : Int))) (rd (rd_L1 l0_3 (ji29)) (ji33)))) (Int.tmod (wrap64 (Int.tdiv (wrap64 (a2 - t293)) a0_2)) (l0_0.length : Int))) (Int.tmod (wrap64 (a2 - t293)) a0_2)).bind fun t300 => (some t300)) else (none)) else (none)) else (none)) else (none)) else (none)) else (none)) else (none)) else (none))) else (none)) else (none)) = some r := by first | (rw [hji33] at H; exact H) | (simp only [hji33] at H ⊢; exact H)
           have hji33w : (IntKind.i64.wrap (Int.tdiv (wrap64 (Int.tdiv (wrap64 (a2 - t293)) a0_2)) (l0_0.length : Int))) = ji33 := (i64_w _).trans hji33
           by_cases c34 : 0 ≤ (ji33)
           ·rw [if_pos c34] at H
            have c34b0 : decide (0 ≤ (ji33)) = true := decide_eq_true c34
            clear c34
            by_cases c35 : (ji33) < ((rd_L1 l0_3 (ji29)).length : Int)
            ·rw [if_pos c35] at H
             have c35b0 : decide ((ji33) < ((rd_L1 l0_3 (ji29)).length : Int)) = true := decide_eq_true c35
             clear c35
             by_cases c36 : (rd (rd_L1 l0_3 (ji29)) (ji33)) < 0
             ·rw [if_pos c36] at H
              have c36b0 : decide ((rd (rd_L1 l0_3 (ji29)) (ji33)) < 0) = true := decide_eq_true c36
              clear c36
              obtain rfl := Option.some.inj H
              have hcz37_0 : wc.cell? ⟨gb289, 0, none⟩ = some (.slice A0_0 l0_0.length c0_0) := (blk_cell BK289.out 0).trans rfl
              have hcz37_1 : wc.cell? ⟨gb289, 1, none⟩ = some (.int .i64 a0_1) := (blk_cell BK289.out 1).trans rfl
              have hcz37_2 : wc.cell? ⟨gb289, 2, none⟩ = some (.int .i64 a0_2) := (blk_cell BK289.out 2).trans rfl
              have hcz37_3 : wc.cell? ⟨gb289, 3, none⟩ = some (.slice A0_3 l0_3.length c0_3) := (blk_cell BK289.out 3).trans rfl
              have hcz37_4 : wc.cell? ⟨gb289, 4, none⟩ = some (.bool a0_4) := (blk_cell BK289.out 4).trans rfl
              have hfz37_0 := blk_frozen BK289.out 0
              have hfz37_1 := blk_frozen BK289.out 1
              have hfz37_2 := blk_frozen BK289.out 2
              have hfz37_3 := blk_frozen BK289.out 3
              have hfz37_4 := blk_frozen BK289.out 4
              try go_wp2
              have n0_ := Aside0.mk (blk_drew BK289.out)
              have n1_ := Aside0.mk (below_drew1 HB.out)
              clear HB BK289
              have BK289 := n0_
              have HB := n1_
              clear n0_ n1_
              have p294 : 0 ≤ ((ji29) : Int) := of_decide_eq_true q_as
              have q294 : (ji29) < (l0_3.length : Int) := of_decide_eq_true q_as
              obtain ⟨ad294, A294_0, c294_0, e294, hx294_0, hl294_0, hi294_0⟩ := at_L1 HR0_3.out (ji29) p294 q294
              have hw294_0 := hx294_0
              cases e294
              replace hx294_0 := (HB.out.cell (World.block_lt_of_cell? w _ hx294_0)).trans hx294_0
              have HR294_0 := Aside0.mk hi294_0
              have HC294_0 := Aside0.mk hl294_0
              (try clear hi294_0); (try clear hl294_0)
              q_t p294 q294
              have p295 : 0 ≤ ((ji33) : Int) := of_decide_eq_true q_as
              have q295 : (ji33) < ((rd_L1 l0_3 (ji29)).length : Int) := of_decide_eq_true q_as
              obtain ⟨ad295, e295, hx295_0⟩ := Kd.at_int HR294_0.out (ji33) p295 q295
              have hw295_0 := hx295_0
              cases e295
              replace hx295_0 := (HB.out.cell (World.block_lt_of_cell? w _ hx295_0)).trans hx295_0
              q_t p295 q295
              refine start_ (n := 17) (S := fun w' => w'.cell? ⟨gb289, 0, none⟩ = some (.slice A0_0 l0_0.length c0_0) ∧ w'.cell? ⟨gb289, 1, none⟩ = some (.int .i64 a0_1) ∧ w'.cell? ⟨gb289, 2, none⟩ = some (.int .i64 a0_2) ∧ w'.cell? ⟨gb289, 3, none⟩ = some (.slice (some ad294) l0_3.length c0_3) ∧ w'.cell? ⟨gb289, 4, none⟩ = some (.bool a0_4) ∧ w'.cell? (ad294.add ((ji29)).toNat) = some (.slice (some ad295) (rd_L1 l0_3 (ji29)).length c294_0) ∧ w'.cell? (ad295.add ((ji33)).toNat) = some (.int .i64 (rd (rd_L1 l0_3 (ji29)) (ji33)))) (ds := []) #[false, false, false, false, false, false, false, false, false, false, false, false, false, false, false, false, false] (by kernel_rfl) rfl rfl ⟨(blk_cell BK289.out 0).trans rfl, (blk_cell BK289.out 1).trans rfl, (blk_cell BK289.out 2).trans rfl, (blk_cell BK289.out 3).trans rfl, (blk_cell BK289.out 4).trans rfl, ((HB.out.cell (World.block_lt_of_cell? w _ hw294_0)).trans hw294_0), ((HB.out.cell (World.block_lt_of_cell? w _ hw295_0)).trans hw295_0)⟩ (fun hHeld => ?_); refine with_tabW semigroupref17_Mul.tab7 semigroupref17_Mul.bits7 (fun HT_ HW_ => ?_)
              generalize wc.drew = w38 at BK289 HB HR294_0 hx294_0 hx295_0 hHeld ⊢
              refine pure_ (i := 0) (N := some 47) (v := ?_) (a' := ?_) #[true, false, false, false, false, false, false, false, false, false, false, false, false, false, false, false, false] rfl rfl q_ho q_id (Or.inl ⟨by rfl, ?_⟩) ?_ ?_
              rotate_left
              ·intro w'
               go_simp
               with_reducible rfl
              rotate_left
              ·q_si
               rfl
              refine pure_ (i := 2) (N := some 49) (v := ?_) (a' := ?_) #[true, false, true, false, false, false, false, false, false, false, false, false, false, false, false, false, false] rfl rfl q_ho q_id (Or.inl ⟨by rfl, ?_⟩) ?_ ?_
              rotate_left
              ·intro w'
               go_simp
               with_reducible rfl
              rotate_left
              ·q_si
               rfl
              refine pure_ (i := 3) (N := some 50) (v := ?_) (a' := ?_) #[true, false, true, true, false, false, false, false, false, false, false, false, false, false, false, false, false] rfl rfl q_ho q_id (Or.inl ⟨by rfl, ?_⟩) ?_ ?_
              rotate_left
              ·intro w'
               go_simp
               with_reducible rfl
              rotate_left
              ·q_si
               rfl
              refine pure_ (i := 8) (N := some 55) (v := ?_) (a' := ?_) #[true, false, true, true, false, false, false, false, true, false, false, false, false, false, false, false, false] rfl rfl q_ho q_id (Or.inl ⟨by rfl, ?_⟩) ?_ ?_
              rotate_left
              ·intro w'
               go_simp
               with_reducible rfl
              rotate_left
              ·q_si
               rfl
              refine pure_ (i := 9) (N := some 56) (v := ?_) (a' := ?_) #[true, false, true, true, false, false, false, false, true, true, false, false, false, false, false, false, false] rfl rfl q_ho q_id (Or.inl ⟨by rfl, ?_⟩) ?_ ?_
              rotate_left
              ·intro w'
               go_simp
               with_reducible rfl
              rotate_left
              ·q_si
               rfl
              refine pure_ (i := 12) (N := some 59) (v := ?_) (a' := ?_) #[true, false, true, true, false, false, false, false, true, true, false, false, true, false, false, false, false] rfl rfl q_ho q_id (Or.inl ⟨by rfl, ?_⟩) ?_ ?_
              rotate_left
              ·intro w'
               go_simp
               with_reducible rfl
              rotate_left
              ·q_si
               rfl
              refine take_ (i := 1) (N := some 48) (v := ?_) (a' := ?_) #[true, true, true, true, false, false, false, false, true, true, false, false, true, false, false, false, false] rfl rfl q_to q_id (Or.inl ⟨by rfl, ?_⟩) hHeld ?_ ?_
              rotate_left
              ·rintro w' ⟨s0, s1, s2, s3, s4, s5, s6⟩
               go_simp
               with_reducible rfl
              rotate_left
              ·q_si
               rfl
              refine take_ (i := 4) (N := some 51) (v := ?_) (a' := ?_) #[true, true, true, true, true, false, false, false, true, true, false, false, true, false, false, false, false] rfl rfl q_to q_id (Or.inl ⟨by rfl, ?_⟩) hHeld ?_ ?_
              rotate_left
              ·rintro w' ⟨s0, s1, s2, s3, s4, s5, s6⟩
               go_simp
               with_reducible rfl
              rotate_left
              ·q_si
               rfl
              refine pure_ (i := 5) (N := some 52) (v := ?_) (a' := ?_) #[true, true, true, true, true, true, false, false, true, true, false, false, true, false, false, false, false] rfl rfl q_ho q_id (Or.inl ⟨by rfl, ?_⟩) ?_ ?_
              rotate_left
              ·intro w'
               go_simp
               with_reducible rfl
              rotate_left
              ·q_si
               rfl
              refine pure_ (i := 6) (N := some 53) (v := ?_) (a' := ?_) #[true, true, true, true, true, true, true, false, true, true, false, false, true, false, false, false, false] rfl rfl q_ho q_id (Or.inl ⟨by rfl, ?_⟩) ?_ ?_
              rotate_left
              ·intro w'
               go_simp
               with_reducible rfl
              rotate_left
              ·q_si
               rfl
              refine take_ (i := 7) (N := some 54) (v := ?_) (a' := ?_) #[true, true, true, true, true, true, true, true, true, true, false, false, true, false, false, false, false] rfl rfl q_to q_id (Or.inl ⟨by rfl, ?_⟩) hHeld ?_ ?_
              rotate_left
              ·rintro w' ⟨s0, s1, s2, s3, s4, s5, s6⟩
               go_simp
               with_reducible rfl
              rotate_left
              ·q_si
               rfl
              refine take_ (i := 10) (N := some 57) (v := ?_) (a' := ?_) #[true, true, true, true, true, true, true, true, true, true, true, false, true, false, false, false, false] rfl rfl q_to q_id (Or.inl ⟨by rfl, ?_⟩) hHeld ?_ ?_
              rotate_left
              ·rintro w' ⟨s0, s1, s2, s3, s4, s5, s6⟩
               go_simp
               with_reducible rfl
              rotate_left
              ·q_si
               rfl
              refine pure_ (i := 11) (N := some 58) (v := ?_) (a' := ?_) #[true, true, true, true, true, true, true, true, true, true, true, true, true, false, false, false, false] rfl rfl q_ho q_id (Or.inl ⟨by rfl, ?_⟩) ?_ ?_
              rotate_left
              ·intro w'
               go_simp
               with_reducible rfl
              rotate_left
              ·q_si
               rfl
              refine pure_ (i := 13) (N := some 60) (v := ?_) (a' := ?_) #[true, true, true, true, true, true, true, true, true, true, true, true, true, true, false, false, false] rfl rfl q_ho q_id (Or.inl ⟨by rfl, ?_⟩) ?_ ?_
              rotate_left
              ·intro w'
               go_simp
               with_reducible rfl
              rotate_left
              ·q_si
               rfl
              refine pure_ (i := 14) (N := some 61) (v := ?_) (a' := ?_) #[true, true, true, true, true, true, true, true, true, true, true, true, true, true, true, false, false] rfl rfl q_ho q_id (Or.inl ⟨by rfl, ?_⟩) ?_ ?_
              rotate_left
              ·intro w'
               go_simp
               with_reducible rfl
              rotate_left
              ·q_si
               rfl
              refine take_ (i := 15) (N := some 62) (v := ?_) (a' := ?_) #[true, true, true, true, true, true, true, true, true, true, true, true, true, true, true, true, false] rfl rfl q_to q_id (Or.inl ⟨by rfl, ?_⟩) hHeld ?_ ?_
              rotate_left
              ·rintro w' ⟨s0, s1, s2, s3, s4, s5, s6⟩
               go_simp
               with_reducible rfl
              rotate_left
              ·q_si
               rfl
              refine pure_ (i := 16) (N := some 10) (v := ?_) (a' := ?_) #[true, true, true, true, true, true, true, true, true, true, true, true, true, true, true, true, true] rfl rfl q_ho q_id (Or.inl ⟨by rfl, ?_⟩) ?_ ?_
              rotate_left
              ·intro w'
               go_simp
               with_reducible rfl
              rotate_left
              ·q_si
               rfl
              refine done_ (done_of HT_.out (by kernel_rfl)) ?_
              try go_wp2
              go_ret
              exact ⟨by first | rfl | q_em | (simp only [← hji29, ← hji33]; first | rfl | q_em) | q_en, by repeat (first | (with_reducible first | exact HB.out | apply below_alloc | apply pw_below_drewN | apply below_drew1 | refine below_set ?_ GE289.out) | exact HB.out)⟩
             ·rw [if_neg c36] at H
              have c36b0 : decide ((rd (rd_L1 l0_3 (ji29)) (ji33)) < 0) = false := decide_eq_false c36
              clear c36
              obtain ⟨ji39, hji39⟩ : ∃ j_ : Int, (Int.tmod (wrap64 (Int.tdiv (wrap64 (a1 - t292)) a0_2)) (l0_0.length : Int)) = j_ := ⟨_, rfl⟩
              replace H : (if 0 ≤ (ji39) then (if (ji39) < (l0_0.length : Int) then (if 0 ≤ (rd (rd_L1 l0_3 (ji29)) (ji33)) then (if (rd (rd_L1 l0_3 (ji29)) (ji33)) < ((rd_L1 l0_0 (ji39)).length : Int) then (if 0 ≤ (rd (rd_L1 l0_0 (ji39)) (rd (rd_L1 l0_3 (ji29)) (ji33))) then (if (rd (rd_L1 l0_0 (ji39)) (rd (rd_L1 l0_3 (ji29)) (ji33))) < (l0_0.length : Int) then (if 0 ≤ (Int.tmod (wrap64 (Int.tdiv (wrap64 (a2 - t293)) a0_2)) (l0_0.length : Int)) then (if (Int.tmod (wrap64 (Int.tdiv (wrap64 (a2 - t293)) a0_2)) (l0_0.length : Int)) < ((rd_L1 l0_0 (rd (rd_L1 l0_0 (ji39)) (rd (rd_L1 l0_3 (ji29)) (ji33)))).length : Int) then ((semigroupref17_Number.f l0_0 a0_1 a0_2 l0_3 a0_4 (wrap64 (Int.tdiv (wrap64 (Int.tdiv (wrap64 (a1 - t292)) a0_2)) (l0_0.length : Int))) (rd (rd_L1 l0_0 (rd (rd_L1 l0_0 (ji39)) (rd (rd_L1 l0_3 (ji29)) (ji33)))) (Int.tmod (wrap64 (Int.tdiv (wrap64 (a2 - t293)) a0_2)) (l0_0.length : Int))) (Int.tmod (wrap64 (a2 - t293)) a0_2)).bind fun t300 => (some t300)) else (none)) else (none)) else (none)) else (none)) else (none)) else (none)) else (none)) else (none)) = some r := by first | (rw [hji39] at H; exact H) | (simp only [hji39] at H ⊢; exact H)
              by_cases c40 : 0 ≤ (ji39)
              ·rw [if_pos c40] at H
               have c40b0 : decide (0 ≤ (ji39)) = true := decide_eq_true c40
               clear c40
               by_cases c41 : (ji39) < (l0_0.length : Int)
               ·rw [if_pos c41] at H
                have c41b0 : decide ((ji39) < (l0_0.length : Int)) = true := decide_eq_true c41
                clear c41
                by_cases c42 : 0 ≤ (rd (rd_L1 l0_3 (ji29)) (ji33))
                ·rw [if_pos c42] at H
                 have c42b0 : decide (0 ≤ (rd (rd_L1 l0_3 (ji29)) (ji33))) = true := decide_eq_true c42
                 clear c42
                 by_cases c43 : (rd (rd_L1 l0_3 (ji29)) (ji33)) < ((rd_L1 l0_0 (ji39)).length : Int)
                 ·rw [if_pos c43] at H
                  have c43b0 : decide ((rd (rd_L1 l0_3 (ji29)) (ji33)) < ((rd_L1 l0_0 (ji39)).length : Int)) = true := decide_eq_true c43
                  clear c43
                  by_cases c44 : 0 ≤ (rd (rd_L1 l0_0 (ji39)) (rd (rd_L1 l0_3 (ji29)) (ji33)))
                  ·rw [if_pos c44] at H
                   have c44b0 : decide (0 ≤ (rd (rd_L1 l0_0 (ji39)) (rd (rd_L1 l0_3 (ji29)) (ji33)))) = true := decide_eq_true c44
                   clear c44
                   by_cases c45 : (rd (rd_L1 l0_0 (ji39)) (rd (rd_L1 l0_3 (ji29)) (ji33))) < (l0_0.length : Int)
                   ·rw [if_pos c45] at H
                    have c45b0 : decide ((rd (rd_L1 l0_0 (ji39)) (rd (rd_L1 l0_3 (ji29)) (ji33))) < (l0_0.length : Int)) = true := decide_eq_true c45
                    clear c45
                    obtain ⟨ji46, hji46⟩ : ∃ j_ : Int, (Int.tmod (wrap64 (Int.tdiv (wrap64 (a2 - t293)) a0_2)) (l0_0.length : Int)) = j_ := ⟨_, rfl⟩
                    replace H : (if 0 ≤ (ji46) then (if (ji46) < ((rd_L1 l0_0 (rd (rd_L1 l0_0 (ji39)) (rd (rd_L1 l0_3 (ji29)) (ji33)))).length : Int) then ((semigroupref17_Number.f l0_0 a0_1 a0_2 l0_3 a0_4 (wrap64 (Int.tdiv (wrap64 (Int.tdiv (wrap64 (a1 - t292)) a0_2)) (l0_0.length : Int))) (rd (rd_L1 l0_0 (rd (rd_L1 l0_0 (ji39)) (rd (rd_L1 l0_3 (ji29)) (ji33)))) (ji46)) (Int.tmod (wrap64 (a2 - t293)) a0_2)).bind fun t300 => (some t300)) else (none)) else (none)) = some r := by first | (rw [hji46] at H; exact H) | (simp only [hji46] at H ⊢; exact H)
                    by_cases c47 : 0 ≤ (ji46)
                    ·rw [if_pos c47] at H
                     have c47b0 : decide (0 ≤ (ji46)) = true := decide_eq_true c47
                     clear c47
                     by_cases c48 : (ji46) < ((rd_L1 l0_0 (rd (rd_L1 l0_0 (ji39)) (rd (rd_L1 l0_3 (ji29)) (ji33)))).length : Int)
                     ·rw [if_pos c48] at H
                      have c48b0 : decide ((ji46) < ((rd_L1 l0_0 (rd (rd_L1 l0_0 (ji39)) (rd (rd_L1 l0_3 (ji29)) (ji33)))).length : Int)) = true := decide_eq_true c48
                      clear c48
                      replace H := Option.bind_eq_some_iff.mp H
                      obtain ⟨t300, A490, H⟩ := H
                      replace H : (some t300) = some r := H
                      have A49 := Aside0.mk A490
                      clear A490
                      obtain rfl := Option.some.inj H
                      have hcz50_0 : wc.cell? ⟨gb289, 0, none⟩ = some (.slice A0_0 l0_0.length c0_0) := (blk_cell BK289.out 0).trans rfl
                      have hcz50_1 : wc.cell? ⟨gb289, 1, none⟩ = some (.int .i64 a0_1) := (blk_cell BK289.out 1).trans rfl
                      have hcz50_2 : wc.cell? ⟨gb289, 2, none⟩ = some (.int .i64 a0_2) := (blk_cell BK289.out 2).trans rfl
                      have hcz50_3 : wc.cell? ⟨gb289, 3, none⟩ = some (.slice A0_3 l0_3.length c0_3) := (blk_cell BK289.out 3).trans rfl
                      have hcz50_4 : wc.cell? ⟨gb289, 4, none⟩ = some (.bool a0_4) := (blk_cell BK289.out 4).trans rfl
                      have hfz50_0 := blk_frozen BK289.out 0
                      have hfz50_1 := blk_frozen BK289.out 1
                      have hfz50_2 := blk_frozen BK289.out 2
                      have hfz50_3 := blk_frozen BK289.out 3
                      have hfz50_4 := blk_frozen BK289.out 4
                      try go_wp2
                      have n0_ := Aside0.mk (blk_drew BK289.out)
                      have n1_ := Aside0.mk (below_drew1 HB.out)
                      clear HB BK289
                      have BK289 := n0_
                      have HB := n1_
                      clear n0_ n1_
                      have p294 : 0 ≤ ((ji29) : Int) := of_decide_eq_true q_as
                      have q294 : (ji29) < (l0_3.length : Int) := of_decide_eq_true q_as
                      obtain ⟨ad294, A294_0, c294_0, e294, hx294_0, hl294_0, hi294_0⟩ := at_L1 HR0_3.out (ji29) p294 q294
                      have hw294_0 := hx294_0
                      cases e294
                      replace hx294_0 := (HB.out.cell (World.block_lt_of_cell? w _ hx294_0)).trans hx294_0
                      have HR294_0 := Aside0.mk hi294_0
                      have HC294_0 := Aside0.mk hl294_0
                      (try clear hi294_0); (try clear hl294_0)
                      q_t p294 q294
                      have p295 : 0 ≤ ((ji33) : Int) := of_decide_eq_true q_as
                      have q295 : (ji33) < ((rd_L1 l0_3 (ji29)).length : Int) := of_decide_eq_true q_as
                      obtain ⟨ad295, e295, hx295_0⟩ := Kd.at_int HR294_0.out (ji33) p295 q295
                      have hw295_0 := hx295_0
                      cases e295
                      replace hx295_0 := (HB.out.cell (World.block_lt_of_cell? w _ hx295_0)).trans hx295_0
                      q_t p295 q295
                      refine start_ (n := 17) (S := fun w' => w'.cell? ⟨gb289, 0, none⟩ = some (.slice A0_0 l0_0.length c0_0) ∧ w'.cell? ⟨gb289, 1, none⟩ = some (.int .i64 a0_1) ∧ w'.cell? ⟨gb289, 2, none⟩ = some (.int .i64 a0_2) ∧ w'.cell? ⟨gb289, 3, none⟩ = some (.slice (some ad294) l0_3.length c0_3) ∧ w'.cell? ⟨gb289, 4, none⟩ = some (.bool a0_4) ∧ w'.cell? (ad294.add ((ji29)).toNat) = some (.slice (some ad295) (rd_L1 l0_3 (ji29)).length c294_0) ∧ w'.cell? (ad295.add ((ji33)).toNat) = some (.int .i64 (rd (rd_L1 l0_3 (ji29)) (ji33)))) (ds := []) #[false, false, false, false, false, false, false, false, false, false, false, false, false, false, false, false, false] (by kernel_rfl) rfl rfl ⟨(blk_cell BK289.out 0).trans rfl, (blk_cell BK289.out 1).trans rfl, (blk_cell BK289.out 2).trans rfl, (blk_cell BK289.out 3).trans rfl, (blk_cell BK289.out 4).trans rfl, ((HB.out.cell (World.block_lt_of_cell? w _ hw294_0)).trans hw294_0), ((HB.out.cell (World.block_lt_of_cell? w _ hw295_0)).trans hw295_0)⟩ (fun hHeld => ?_); refine with_tabW semigroupref17_Mul.tab7 semigroupref17_Mul.bits7 (fun HT_ HW_ => ?_)
                      generalize wc.drew = w51 at BK289 HB HR294_0 hx294_0 hx295_0 hHeld ⊢
                      refine pure_ (i := 0) (N := some 47) (v := ?_) (a' := ?_) #[true, false, false, false, false, false, false, false, false, false, false, false, false, false, false, false, false] rfl rfl q_ho q_id (Or.inl ⟨by rfl, ?_⟩) ?_ ?_
                      rotate_left
                      ·intro w'
                       go_simp
                       with_reducible rfl
                      rotate_left
                      ·q_si
                       rfl
                      refine pure_ (i := 2) (N := some 49) (v := ?_) (a' := ?_) #[true, false, true, false, false, false, false, false, false, false, false, false, false, false, false, false, false] rfl rfl q_ho q_id (Or.inl ⟨by rfl, ?_⟩) ?_ ?_
                      rotate_left
                      ·intro w'
                       go_simp
                       with_reducible rfl
                      rotate_left
                      ·q_si
                       rfl
                      refine pure_ (i := 3) (N := some 50) (v := ?_) (a' := ?_) #[true, false, true, true, false, false, false, false, false, false, false, false, false, false, false, false, false] rfl rfl q_ho q_id (Or.inl ⟨by rfl, ?_⟩) ?_ ?_
                      rotate_left
                      ·intro w'
                       go_simp
                       with_reducible rfl
                      rotate_left
                      ·q_si
                       rfl
                      refine pure_ (i := 8) (N := some 55) (v := ?_) (a' := ?_) #[true, false, true, true, false, false, false, false, true, false, false, false, false, false, false, false, false] rfl rfl q_ho q_id (Or.inl ⟨by rfl, ?_⟩) ?_ ?_
                      rotate_left
                      ·intro w'
                       go_simp
                       with_reducible rfl
                      rotate_left
                      ·q_si
                       rfl
                      refine pure_ (i := 9) (N := some 56) (v := ?_) (a' := ?_) #[true, false, true, true, false, false, false, false, true, true, false, false, false, false, false, false, false] rfl rfl q_ho q_id (Or.inl ⟨by rfl, ?_⟩) ?_ ?_
                      rotate_left
                      ·intro w'
                       go_simp
                       with_reducible rfl
                      rotate_left
                      ·q_si
                       rfl
                      refine pure_ (i := 12) (N := some 59) (v := ?_) (a' := ?_) #[true, false, true, true, false, false, false, false, true, true, false, false, true, false, false, false, false] rfl rfl q_ho q_id (Or.inl ⟨by rfl, ?_⟩) ?_ ?_
                      rotate_left
                      ·intro w'
                       go_simp
                       with_reducible rfl
                      rotate_left
                      ·q_si
                       rfl
                      refine take_ (i := 1) (N := some 48) (v := ?_) (a' := ?_) #[true, true, true, true, false, false, false, false, true, true, false, false, true, false, false, false, false] rfl rfl q_to q_id (Or.inl ⟨by rfl, ?_⟩) hHeld ?_ ?_
                      rotate_left
                      ·rintro w' ⟨s0, s1, s2, s3, s4, s5, s6⟩
                       go_simp
                       with_reducible rfl
                      rotate_left
                      ·q_si
                       rfl
                      refine take_ (i := 4) (N := some 51) (v := ?_) (a' := ?_) #[true, true, true, true, true, false, false, false, true, true, false, false, true, false, false, false, false] rfl rfl q_to q_id (Or.inl ⟨by rfl, ?_⟩) hHeld ?_ ?_
                      rotate_left
                      ·rintro w' ⟨s0, s1, s2, s3, s4, s5, s6⟩
                       go_simp
                       with_reducible rfl
                      rotate_left
                      ·q_si
                       rfl
                      refine pure_ (i := 5) (N := some 52) (v := ?_) (a' := ?_) #[true, true, true, true, true, true, false, false, true, true, false, false, true, false, false, false, false] rfl rfl q_ho q_id (Or.inl ⟨by rfl, ?_⟩) ?_ ?_
                      rotate_left
                      ·intro w'
                       go_simp
                       with_reducible rfl
                      rotate_left
                      ·q_si
                       rfl
                      refine pure_ (i := 6) (N := some 53) (v := ?_) (a' := ?_) #[true, true, true, true, true, true, true, false, true, true, false, false, true, false, false, false, false] rfl rfl q_ho q_id (Or.inl ⟨by rfl, ?_⟩) ?_ ?_
                      rotate_left
                      ·intro w'
                       go_simp
                       with_reducible rfl
                      rotate_left
                      ·q_si
                       rfl
                      refine take_ (i := 7) (N := some 54) (v := ?_) (a' := ?_) #[true, true, true, true, true, true, true, true, true, true, false, false, true, false, false, false, false] rfl rfl q_to q_id (Or.inl ⟨by rfl, ?_⟩) hHeld ?_ ?_
                      rotate_left
                      ·rintro w' ⟨s0, s1, s2, s3, s4, s5, s6⟩
                       go_simp
                       with_reducible rfl
                      rotate_left
                      ·q_si
                       rfl
                      refine take_ (i := 10) (N := some 57) (v := ?_) (a' := ?_) #[true, true, true, true, true, true, true, true, true, true, true, false, true, false, false, false, false] rfl rfl q_to q_id (Or.inl ⟨by rfl, ?_⟩) hHeld ?_ ?_
                      rotate_left
                      ·rintro w' ⟨s0, s1, s2, s3, s4, s5, s6⟩
                       go_simp
                       with_reducible rfl
                      rotate_left
                      ·q_si
                       rfl
                      refine pure_ (i := 11) (N := some 58) (v := ?_) (a' := ?_) #[true, true, true, true, true, true, true, true, true, true, true, true, true, false, false, false, false] rfl rfl q_ho q_id (Or.inl ⟨by rfl, ?_⟩) ?_ ?_
                      rotate_left
                      ·intro w'
                       go_simp
                       with_reducible rfl
                      rotate_left
                      ·q_si
                       rfl
                      refine pure_ (i := 13) (N := some 60) (v := ?_) (a' := ?_) #[true, true, true, true, true, true, true, true, true, true, true, true, true, true, false, false, false] rfl rfl q_ho q_id (Or.inl ⟨by rfl, ?_⟩) ?_ ?_
                      rotate_left
                      ·intro w'
                       go_simp
                       with_reducible rfl
                      rotate_left
                      ·q_si
                       rfl
                      refine pure_ (i := 14) (N := some 61) (v := ?_) (a' := ?_) #[true, true, true, true, true, true, true, true, true, true, true, true, true, true, true, false, false] rfl rfl q_ho q_id (Or.inl ⟨by rfl, ?_⟩) ?_ ?_
                      rotate_left
                      ·intro w'
                       go_simp
                       with_reducible rfl
                      rotate_left
                      ·q_si
                       rfl
                      refine take_ (i := 15) (N := some 62) (v := ?_) (a' := ?_) #[true, true, true, true, true, true, true, true, true, true, true, true, true, true, true, true, false] rfl rfl q_to q_id (Or.inl ⟨by rfl, ?_⟩) hHeld ?_ ?_
                      rotate_left
                      ·rintro w' ⟨s0, s1, s2, s3, s4, s5, s6⟩
                       go_simp
                       with_reducible rfl
                      rotate_left
                      ·q_si
                       rfl
                      refine pure_ (i := 16) (N := some 10) (v := ?_) (a' := ?_) #[true, true, true, true, true, true, true, true, true, true, true, true, true, true, true, true, true] rfl rfl q_ho q_id (Or.inl ⟨by rfl, ?_⟩) ?_ ?_
                      rotate_left
                      ·intro w'
                       go_simp
                       with_reducible rfl
                      rotate_left
                      ·q_si
                       rfl
                      refine done_ (done_of HT_.out (by kernel_rfl)) ?_
                      try go_wp2
                      have n0_ := Aside0.mk (blk_drew BK289.out)
                      have n1_ := Aside0.mk (below_drew1 HB.out)
                      clear HB BK289
                      have BK289 := n0_
                      have HB := n1_
                      clear n0_ n1_
                      have p296 : 0 ≤ ((ji39) : Int) := of_decide_eq_true q_as
                      have q296 : (ji39) < (l0_0.length : Int) := of_decide_eq_true q_as
                      obtain ⟨ad296, A296_0, c296_0, e296, hx296_0, hl296_0, hi296_0⟩ := at_L1 HR0_0.out (ji39) p296 q296
                      have hw296_0 := hx296_0
                      cases e296
                      replace hx296_0 := (HB.out.cell (World.block_lt_of_cell? w _ hx296_0)).trans hx296_0
                      have HR296_0 := Aside0.mk hi296_0
                      have HC296_0 := Aside0.mk hl296_0
                      (try clear hi296_0); (try clear hl296_0)
                      q_t p296 q296
                      have p297 : 0 ≤ ((rd (rd_L1 l0_3 (ji29)) (ji33)) : Int) := of_decide_eq_true q_as
                      have q297 : (rd (rd_L1 l0_3 (ji29)) (ji33)) < ((rd_L1 l0_0 (ji39)).length : Int) := of_decide_eq_true q_as
                      obtain ⟨ad297, e297, hx297_0⟩ := Kd.at_int HR296_0.out (rd (rd_L1 l0_3 (ji29)) (ji33)) p297 q297
                      have hw297_0 := hx297_0
                      cases e297
                      replace hx297_0 := (HB.out.cell (World.block_lt_of_cell? w _ hx297_0)).trans hx297_0
                      q_t p297 q297
                      have p298 : 0 ≤ ((rd (rd_L1 l0_0 (ji39)) (rd (rd_L1 l0_3 (ji29)) (ji33))) : Int) := of_decide_eq_true q_as
                      have q298 : (rd (rd_L1 l0_0 (ji39)) (rd (rd_L1 l0_3 (ji29)) (ji33))) < (l0_0.length : Int) := of_decide_eq_true q_as
                      obtain ⟨ad298, A298_0, c298_0, e298, hx298_0, hl298_0, hi298_0⟩ := at_L1 HR0_0.out (rd (rd_L1 l0_0 (ji39)) (rd (rd_L1 l0_3 (ji29)) (ji33))) p298 q298
                      have hw298_0 := hx298_0
                      obtain rfl : ad296 = ad298 := (by injection e298)
                      replace hx298_0 := (HB.out.cell (World.block_lt_of_cell? w _ hx298_0)).trans hx298_0
                      have HR298_0 := Aside0.mk hi298_0
                      have HC298_0 := Aside0.mk hl298_0
                      (try clear hi298_0); (try clear hl298_0)
                      q_t p298 q298
                      have p299 : 0 ≤ ((ji46) : Int) := of_decide_eq_true q_as
                      have q299 : (ji46) < ((rd_L1 l0_0 (rd (rd_L1 l0_0 (ji39)) (rd (rd_L1 l0_3 (ji29)) (ji33)))).length : Int) := of_decide_eq_true q_as
                      obtain ⟨ad299, e299, hx299_0⟩ := Kd.at_int HR298_0.out (ji46) p299 q299
                      have hw299_0 := hx299_0
                      cases e299
                      replace hx299_0 := (HB.out.cell (World.block_lt_of_cell? w _ hx299_0)).trans hx299_0
                      q_t p299 q299
                      refine start_ (n := 26) (S := fun w' => w'.cell? ⟨gb289, 0, none⟩ = some (.slice (some ad296) l0_0.length c0_0) ∧ w'.cell? ⟨gb289, 1, none⟩ = some (.int .i64 a0_1) ∧ w'.cell? ⟨gb289, 2, none⟩ = some (.int .i64 a0_2) ∧ w'.cell? ⟨gb289, 3, none⟩ = some (.slice (some ad294) l0_3.length c0_3) ∧ w'.cell? ⟨gb289, 4, none⟩ = some (.bool a0_4) ∧ w'.cell? (ad296.add ((ji39)).toNat) = some (.slice (some ad297) (rd_L1 l0_0 (ji39)).length c296_0) ∧ w'.cell? (ad297.add ((rd (rd_L1 l0_3 (ji29)) (ji33))).toNat) = some (.int .i64 (rd (rd_L1 l0_0 (ji39)) (rd (rd_L1 l0_3 (ji29)) (ji33)))) ∧ w'.cell? (ad296.add ((rd (rd_L1 l0_0 (ji39)) (rd (rd_L1 l0_3 (ji29)) (ji33)))).toNat) = some (.slice (some ad299) (rd_L1 l0_0 (rd (rd_L1 l0_0 (ji39)) (rd (rd_L1 l0_3 (ji29)) (ji33)))).length c298_0) ∧ w'.cell? (ad299.add ((ji46)).toNat) = some (.int .i64 (rd (rd_L1 l0_0 (rd (rd_L1 l0_0 (ji39)) (rd (rd_L1 l0_3 (ji29)) (ji33)))) (ji46)))) (ds := []) #[false, false, false, false, false, false, false, false, false, false, false, false, false, false, false, false, false, false, false, false, false, false, false, false, false, false] (by kernel_rfl) rfl rfl ⟨(blk_cell BK289.out 0).trans rfl, (blk_cell BK289.out 1).trans rfl, (blk_cell BK289.out 2).trans rfl, (blk_cell BK289.out 3).trans rfl, (blk_cell BK289.out 4).trans rfl, ((HB.out.cell (World.block_lt_of_cell? w _ hw296_0)).trans hw296_0), ((HB.out.cell (World.block_lt_of_cell? w _ hw297_0)).trans hw297_0), ((HB.out.cell (World.block_lt_of_cell? w _ hw298_0)).trans hw298_0), ((HB.out.cell (World.block_lt_of_cell? w _ hw299_0)).trans hw299_0)⟩ (fun hHeld => ?_); refine with_tabW semigroupref17_Mul.tab10 semigroupref17_Mul.bits10 (fun HT_ HW_ => ?_)
                      generalize w51.drew = w52 at BK289 HB HR296_0 HR298_0 hx296_0 hx297_0 hx298_0 hx299_0 hHeld ⊢
                      refine pure_ (i := 0) (N := some 65) (v := ?_) (a' := ?_) #[true, false, false, false, false, false, false, false, false, false, false, false, false, false, false, false, false, false, false, false, false, false, false, false, false, false] rfl rfl q_ho q_id (Or.inl ⟨by rfl, ?_⟩) ?_ ?_
                      rotate_left
                      ·intro w'
                       go_simp
                       with_reducible rfl
                      rotate_left
                      ·q_si
                       rfl
                      refine pure_ (i := 2) (N := some 67) (v := ?_) (a' := ?_) #[true, false, true, false, false, false, false, false, false, false, false, false, false, false, false, false, false, false, false, false, false, false, false, false, false, false] rfl rfl q_ho q_id (Or.inl ⟨by rfl, ?_⟩) ?_ ?_
                      rotate_left
                      ·intro w'
                       go_simp
                       with_reducible rfl
                      rotate_left
                      ·q_si
                       rfl
                      refine pure_ (i := 4) (N := some 69) (v := ?_) (a' := ?_) #[true, false, true, false, true, false, false, false, false, false, false, false, false, false, false, false, false, false, false, false, false, false, false, false, false, false] rfl rfl q_ho q_id (Or.inl ⟨by rfl, ?_⟩) ?_ ?_
                      rotate_left
                      ·intro w'
                       go_simp
                       with_reducible rfl
                      rotate_left
                      ·q_si
                       rfl
                      refine pure_ (i := 5) (N := some 70) (v := ?_) (a' := ?_) #[true, false, true, false, true, true, false, false, false, false, false, false, false, false, false, false, false, false, false, false, false, false, false, false, false, false] rfl rfl q_ho q_id (Or.inl ⟨by rfl, ?_⟩) ?_ ?_
                      rotate_left
                      ·intro w'
                       go_simp
                       with_reducible rfl
                      rotate_left
                      ·q_si
                       rfl
                      refine pure_ (i := 8) (N := some 73) (v := ?_) (a' := ?_) #[true, false, true, false, true, true, false, false, true, false, false, false, false, false, false, false, false, false, false, false, false, false, false, false, false, false] rfl rfl q_ho q_id (Or.inl ⟨by rfl, ?_⟩) ?_ ?_
                      rotate_left
                      ·intro w'
                       go_simp
                       with_reducible rfl
                      rotate_left
                      ·q_si
                       rfl
                      refine pure_ (i := 12) (N := some 77) (v := ?_) (a' := ?_) #[true, false, true, false, true, true, false, false, true, false, false, false, true, false, false, false, false, false, false, false, false, false, false, false, false, false] rfl rfl q_ho q_id (Or.inl ⟨by rfl, ?_⟩) ?_ ?_
                      rotate_left
                      ·intro w'
                       go_simp
                       with_reducible rfl
                      rotate_left
                      ·q_si
                       rfl
                      refine pure_ (i := 17) (N := some 82) (v := ?_) (a' := ?_) #[true, false, true, false, true, true, false, false, true, false, false, false, true, false, false, false, false, true, false, false, false, false, false, false, false, false] rfl rfl q_ho q_id (Or.inl ⟨by rfl, ?_⟩) ?_ ?_
                      rotate_left
                      ·intro w'
                       go_simp
                       with_reducible rfl
                      rotate_left
                      ·q_si
                       rfl
                      refine pure_ (i := 18) (N := some 83) (v := ?_) (a' := ?_) #[true, false, true, false, true, true, false, false, true, false, false, false, true, false, false, false, false, true, true, false, false, false, false, false, false, false] rfl rfl q_ho q_id (Or.inl ⟨by rfl, ?_⟩) ?_ ?_
                      rotate_left
                      ·intro w'
                       go_simp
                       with_reducible rfl
                      rotate_left
                      ·q_si
                       rfl
                      refine pure_ (i := 21) (N := some 86) (v := ?_) (a' := ?_) #[true, false, true, false, true, true, false, false, true, false, false, false, true, false, false, false, false, true, true, false, false, true, false, false, false, false] rfl rfl q_ho q_id (Or.inl ⟨by rfl, ?_⟩) ?_ ?_
                      rotate_left
                      ·intro w'
                       go_simp
                       with_reducible rfl
                      rotate_left
                      ·q_si
                       rfl
                      refine take_ (i := 1) (N := some 66) (v := ?_) (a' := ?_) #[true, true, true, false, true, true, false, false, true, false, false, false, true, false, false, false, false, true, true, false, false, true, false, false, false, false] rfl rfl q_to q_id (Or.inl ⟨by rfl, ?_⟩) hHeld ?_ ?_
                      rotate_left
                      ·rintro w' ⟨s0, s1, s2, s3, s4, s5, s6, s7, s8⟩
                       go_simp
                       with_reducible rfl
                      rotate_left
                      ·q_si
                       rfl
                      refine take_ (i := 3) (N := some 68) (v := ?_) (a' := ?_) #[true, true, true, true, true, true, false, false, true, false, false, false, true, false, false, false, false, true, true, false, false, true, false, false, false, false] rfl rfl q_to q_id (Or.inl ⟨by rfl, ?_⟩) hHeld ?_ ?_
                      rotate_left
                      ·rintro w' ⟨s0, s1, s2, s3, s4, s5, s6, s7, s8⟩
                       go_simp
                       with_reducible rfl
                      rotate_left
                      ·q_si
                       rfl
                      refine take_ (i := 6) (N := some 71) (v := ?_) (a' := ?_) #[true, true, true, true, true, true, true, false, true, false, false, false, true, false, false, false, false, true, true, false, false, true, false, false, false, false] rfl rfl q_to q_id (Or.inl ⟨by rfl, ?_⟩) hHeld ?_ ?_
                      rotate_left
                      ·rintro w' ⟨s0, s1, s2, s3, s4, s5, s6, s7, s8⟩
                       go_simp
                       with_reducible rfl
                      rotate_left
                      ·q_si
                       rfl
                      refine pure_ (i := 7) (N := some 72) (v := ?_) (a' := ?_) #[true, true, true, true, true, true, true, true, true, false, false, false, true, false, false, false, false, true, true, false, false, true, false, false, false, false] rfl rfl q_ho q_id (Or.inl ⟨by rfl, ?_⟩) ?_ ?_
                      rotate_left
                      ·intro w'
                       go_simp
                       with_reducible rfl
                      rotate_left
                      ·q_si
                       rfl
                      refine pure_ (i := 9) (N := some 74) (v := ?_) (a' := ?_) #[true, true, true, true, true, true, true, true, true, true, false, false, true, false, false, false, false, true, true, false, false, true, false, false, false, false] rfl rfl q_ho q_id (Or.inl ⟨by rfl, ?_⟩) ?_ ?_
                      rotate_left
                      ·intro w'
                       go_simp
                       with_reducible rfl
                      rotate_left
                      ·q_si
                       rfl
                      refine pure_ (i := 10) (N := some 75) (v := ?_) (a' := ?_) #[true, true, true, true, true, true, true, true, true, true, true, false, true, false, false, false, false, true, true, false, false, true, false, false, false, false] rfl rfl q_ho q_id (Or.inl ⟨by rfl, ?_⟩) ?_ ?_
                      rotate_left
                      ·intro w'
                       go_simp
                       with_reducible rfl
                      rotate_left
                      ·q_si
                       rfl
                      refine take_ (i := 11) (N := some 76) (v := ?_) (a' := ?_) #[true, true, true, true, true, true, true, true, true, true, true, true, true, false, false, false, false, true, true, false, false, true, false, false, false, false] rfl rfl q_to q_id (Or.inl ⟨by rfl, ?_⟩) hHeld ?_ ?_
                      rotate_left
                      ·rintro w' ⟨s0, s1, s2, s3, s4, s5, s6, s7, s8⟩
                       go_simp
                       with_reducible rfl
                      rotate_left
                      ·q_si
                       rfl
                      refine pure_ (i := 13) (N := some 78) (v := ?_) (a' := ?_) #[true, true, true, true, true, true, true, true, true, true, true, true, true, true, false, false, false, true, true, false, false, true, false, false, false, false] rfl rfl q_ho q_id (Or.inl ⟨by rfl, ?_⟩) ?_ ?_
                      rotate_left
                      ·intro w'
                       go_simp
                       with_reducible rfl
                      rotate_left
                      ·q_si
                       rfl
                      refine take_ (i := 14) (N := some 79) (v := ?_) (a' := ?_) #[true, true, true, true, true, true, true, true, true, true, true, true, true, true, true, false, false, true, true, false, false, true, false, false, false, false] rfl rfl q_to q_id (Or.inl ⟨by rfl, ?_⟩) hHeld ?_ ?_
                      rotate_left
                      ·rintro w' ⟨s0, s1, s2, s3, s4, s5, s6, s7, s8⟩
                       go_simp
                       with_reducible rfl
                      rotate_left
                      ·q_si
                       rfl
                      refine pure_ (i := 15) (N := some 80) (v := ?_) (a' := ?_) #[true, true, true, true, true, true, true, true, true, true, true, true, true, true, true, true, false, true, true, false, false, true, false, false, false, false] rfl rfl q_ho q_id (Or.inl ⟨by rfl, ?_⟩) ?_ ?_
                      rotate_left
                      ·intro w'
                       go_simp
                       with_reducible rfl
                      rotate_left
                      ·q_si
                       rfl
                      refine take_ (i := 16) (N := some 81) (v := ?_) (a' := ?_) #[true, true, true, true, true, true, true, true, true, true, true, true, true, true, true, true, true, true, true, false, false, true, false, false, false, false] rfl rfl q_to q_id (Or.inl ⟨by rfl, ?_⟩) hHeld ?_ ?_
                      rotate_left
                      ·rintro w' ⟨s0, s1, s2, s3, s4, s5, s6, s7, s8⟩
                       go_simp
                       with_reducible rfl
                      rotate_left
                      ·q_si
                       rfl
                      refine take_ (i := 19) (N := some 84) (v := ?_) (a' := ?_) #[true, true, true, true, true, true, true, true, true, true, true, true, true, true, true, true, true, true, true, true, false, true, false, false, false, false] rfl rfl q_to q_id (Or.inl ⟨by rfl, ?_⟩) hHeld ?_ ?_
                      rotate_left
                      ·rintro w' ⟨s0, s1, s2, s3, s4, s5, s6, s7, s8⟩
                       go_simp
                       with_reducible rfl
                      rotate_left
                      ·q_si
                       rfl
                      refine pure_ (i := 20) (N := some 85) (v := ?_) (a' := ?_) #[true, true, true, true, true, true, true, true, true, true, true, true, true, true, true, true, true, true, true, true, true, true, false, false, false, false] rfl rfl q_ho q_id (Or.inl ⟨by rfl, ?_⟩) ?_ ?_
                      rotate_left
                      ·intro w'
                       go_simp
                       with_reducible rfl
                      rotate_left
                      ·q_si
                       rfl
                      refine pure_ (i := 22) (N := some 87) (v := ?_) (a' := ?_) #[true, true, true, true, true, true, true, true, true, true, true, true, true, true, true, true, true, true, true, true, true, true, true, false, false, false] rfl rfl q_ho q_id (Or.inl ⟨by rfl, ?_⟩) ?_ ?_
                      rotate_left
                      ·intro w'
                       go_simp
                       with_reducible rfl
                      rotate_left
                      ·q_si
                       rfl
                      refine pure_ (i := 23) (N := some 88) (v := ?_) (a' := ?_) #[true, true, true, true, true, true, true, true, true, true, true, true, true, true, true, true, true, true, true, true, true, true, true, true, false, false] rfl rfl q_ho q_id (Or.inl ⟨by rfl, ?_⟩) ?_ ?_
                      rotate_left
                      ·intro w'
                       go_simp
                       with_reducible rfl
                      rotate_left
                      ·q_si
                       rfl
                      refine take_ (i := 24) (N := some 89) (v := ?_) (a' := ?_) #[true, true, true, true, true, true, true, true, true, true, true, true, true, true, true, true, true, true, true, true, true, true, true, true, true, false] rfl rfl q_to q_id (Or.inl ⟨by rfl, ?_⟩) hHeld ?_ ?_
                      rotate_left
                      ·rintro w' ⟨s0, s1, s2, s3, s4, s5, s6, s7, s8⟩
                       go_simp
                       with_reducible rfl
                      rotate_left
                      ·q_si
                       rfl
                      refine pure_ (i := 25) (N := some 11) (v := ?_) (a' := ?_) #[true, true, true, true, true, true, true, true, true, true, true, true, true, true, true, true, true, true, true, true, true, true, true, true, true, true] rfl rfl q_ho q_id (Or.inl ⟨by rfl, ?_⟩) ?_ ?_
                      rotate_left
                      ·intro w'
                       go_simp
                       with_reducible rfl
                      rotate_left
                      ·q_si
                       rfl
                      refine done_ (done_of HT_.out (by kernel_rfl)) ?_
                      try go_wp2
                      have n0_ := Aside0.mk (blk_drew BK289.out)
                      have n1_ := Aside0.mk (below_drew1 HB.out)
                      clear HB BK289
                      have BK289 := n0_
                      have HB := n1_
                      clear n0_ n1_
                      refine start_ (n := 14) (S := fun w' => w'.cell? ⟨gb289, 0, none⟩ = some (.slice (some ad296) l0_0.length c0_0) ∧ w'.cell? ⟨gb289, 1, none⟩ = some (.int .i64 a0_1) ∧ w'.cell? ⟨gb289, 2, none⟩ = some (.int .i64 a0_2) ∧ w'.cell? ⟨gb289, 3, none⟩ = some (.slice (some ad294) l0_3.length c0_3) ∧ w'.cell? ⟨gb289, 4, none⟩ = some (.bool a0_4)) (ds := []) #[false, false, false, false, false, false, false, false, false, false, false, false, false, false] (by kernel_rfl) rfl rfl ⟨(blk_cell BK289.out 0).trans rfl, (blk_cell BK289.out 1).trans rfl, (blk_cell BK289.out 2).trans rfl, (blk_cell BK289.out 3).trans rfl, (blk_cell BK289.out 4).trans rfl⟩ (fun hHeld => ?_); refine with_tabW semigroupref17_Mul.tab11 semigroupref17_Mul.bits11 (fun HT_ HW_ => ?_)
                      generalize w52.drew = w53 at BK289 HB hHeld ⊢
                      refine pure_ (i := 1) (N := some 91) (v := ?_) (a' := ?_) #[false, true, false, false, false, false, false, false, false, false, false, false, false, false] rfl rfl q_ho q_id (Or.inl ⟨by rfl, ?_⟩) ?_ ?_
                      rotate_left
                      ·intro w'
                       go_simp
                       with_reducible rfl
                      rotate_left
                      ·q_si
                       rfl
                      refine pure_ (i := 2) (N := some 92) (v := ?_) (a' := ?_) #[false, true, true, false, false, false, false, false, false, false, false, false, false, false] rfl rfl q_ho q_id (Or.inl ⟨by rfl, ?_⟩) ?_ ?_
                      rotate_left
                      ·intro w'
                       go_simp
                       with_reducible rfl
                      rotate_left
                      ·q_si
                       rfl
                      refine pure_ (i := 5) (N := some 95) (v := ?_) (a' := ?_) #[false, true, true, false, false, true, false, false, false, false, false, false, false, false] rfl rfl q_ho q_id (Or.inl ⟨by rfl, ?_⟩) ?_ ?_
                      rotate_left
                      ·intro w'
                       go_simp
                       with_reducible rfl
                      rotate_left
                      ·q_si
                       rfl
                      refine pure_ (i := 7) (N := some 97) (v := ?_) (a' := ?_) #[false, true, true, false, false, true, false, true, false, false, false, false, false, false] rfl rfl q_ho q_id (Or.inl ⟨by rfl, ?_⟩) ?_ ?_
                      rotate_left
                      ·intro w'
                       go_simp
                       with_reducible rfl
                      rotate_left
                      ·q_si
                       rfl
                      refine pure_ (i := 8) (N := some 98) (v := ?_) (a' := ?_) #[false, true, true, false, false, true, false, true, true, false, false, false, false, false] rfl rfl q_ho q_id (Or.inl ⟨by rfl, ?_⟩) ?_ ?_
                      rotate_left
                      ·intro w'
                       go_simp
                       with_reducible rfl
                      rotate_left
                      ·q_si
                       rfl
                      refine pure_ (i := 9) (N := some 99) (v := ?_) (a' := ?_) #[false, true, true, false, false, true, false, true, true, true, false, false, false, false] rfl rfl q_ho q_id (Or.inl ⟨by rfl, ?_⟩) ?_ ?_
                      rotate_left
                      ·intro w'
                       go_simp
                       with_reducible rfl
                      rotate_left
                      ·q_si
                       rfl
                      refine take_ (i := 0) (N := some 90) (v := ?_) (a' := ?_) #[true, true, true, false, false, true, false, true, true, true, false, false, false, false] rfl rfl q_to q_id (Or.inl ⟨by rfl, ?_⟩) hHeld ?_ ?_
                      rotate_left
                      ·rintro w' ⟨s0, s1, s2, s3, s4⟩
                       go_simp
                       with_reducible rfl
                      rotate_left
                      ·q_si
                       rfl
                      refine take_ (i := 3) (N := some 93) (v := ?_) (a' := ?_) #[true, true, true, true, false, true, false, true, true, true, false, false, false, false] rfl rfl q_to q_id (Or.inl ⟨by rfl, ?_⟩) hHeld ?_ ?_
                      rotate_left
                      ·rintro w' ⟨s0, s1, s2, s3, s4⟩
                       go_simp
                       with_reducible rfl
                      rotate_left
                      ·q_si
                       rfl
                      refine pure_ (i := 4) (N := some 94) (v := ?_) (a' := ?_) #[true, true, true, true, true, true, false, true, true, true, false, false, false, false] rfl rfl q_ho q_id (Or.inl ⟨by rfl, ?_⟩) ?_ ?_
                      rotate_left
                      ·intro w'
                       go_simp
                       with_reducible rfl
                      rotate_left
                      ·q_si
                       rfl
                      refine pure_ (i := 6) (N := some 96) (v := ?_) (a' := ?_) #[true, true, true, true, true, true, true, true, true, true, false, false, false, false] rfl rfl q_ho q_id (Or.inl ⟨by rfl, ?_⟩) ?_ ?_
                      rotate_left
                      ·intro w'
                       go_simp
                       with_reducible rfl
                      rotate_left
                      ·q_si
                       rfl
                      refine take_ (i := 10) (N := some 100) (v := ?_) (a' := ?_) #[true, true, true, true, true, true, true, true, true, true, true, false, false, false] rfl rfl q_to q_id (Or.inl ⟨by rfl, ?_⟩) hHeld ?_ ?_
                      rotate_left
                      ·rintro w' ⟨s0, s1, s2, s3, s4⟩
                       go_simp
                       with_reducible rfl
                      rotate_left
                      ·q_si
                       rfl
                      refine pure_ (i := 11) (N := some 101) (v := ?_) (a' := ?_) #[true, true, true, true, true, true, true, true, true, true, true, true, false, false] rfl rfl q_ho q_id (Or.inl ⟨by rfl, ?_⟩) ?_ ?_
                      rotate_left
                      ·intro w'
                       go_simp
                       with_reducible rfl
                      rotate_left
                      ·q_si
                       rfl
                      refine one_ (i := 12) (N := some 102) #[true, true, true, true, true, true, true, true, true, true, true, true, true, false] rfl rfl (one_of HT_.out (by kernel_rfl)) (by decide) (fun K hK => ?_)
                      refine goes_ Try.func27 (by kernel_rfl) rfl #[.agg #[.slice (some ad296) l0_0.length c0_0, .int .i64 a0_1, .int .i64 a0_2, .slice (some ad294) l0_3.length c0_3, .bool a0_4], .int .i64 (wrap64 (Int.tdiv (wrap64 (Int.tdiv (wrap64 (a1 - t292)) a0_2)) (l0_0.length : Int))), .int .i64 (rd (rd_L1 l0_0 (rd (rd_L1 l0_0 (ji39)) (rd (rd_L1 l0_3 (ji29)) (ji33)))) (ji46)), .int .i64 (Int.tmod (wrap64 (a2 - t293)) a0_2)] (by rfl) rfl rfl (by (try simp only [List.map_toArray, List.map_cons, List.map_nil]); first | done | (simp only [hji29, hji33, hji39, hji46]; rfl) | rfl | (simp only [List.length_drop, List.length_take]; rfl)) ?_
                      with_reducible refine (semigroupref17_Number.calls _ _ l0_0 a0_1 a0_2 _ _ l0_3 a0_4 (wrap64 (Int.tdiv (wrap64 (Int.tdiv (wrap64 (a1 - t292)) a0_2)) (l0_0.length : Int))) (rd (rd_L1 l0_0 (rd (rd_L1 l0_0 (ji39)) (rd (rd_L1 l0_3 (ji29)) (ji33)))) (ji46)) (Int.tmod (wrap64 (a2 - t293)) a0_2) t300 _ ?side1 ?side2 ?side3 ?side4 A49.out).mono ?_
                      (case side1 => q_cc (Kd.C_below HR0_0.out HB.out))
                      (case side2 => exact HC0_0.out)
                      (case side3 => q_cc (Kd.C_below HR0_3.out HB.out))
                      (case side4 => exact HC0_3.out)
                      rintro e w54 ⟨rfl, hb⟩
                      refine ⟨_, rfl, ?_⟩
                      have n0_ := Aside0.mk (blk_below (g := gb289) (o := .cells #[.slice (some ad296) l0_0.length c0_0, .int .i64 a0_1, .int .i64 a0_2, .slice (some ad294) l0_3.length c0_3, .bool a0_4] 24 (0, 0)) (by q_bk; exact BK289.out) hb)
                      have n1_ := Aside0.mk (below_step (q_hs GE289.out) hb)
                      clear HB BK289
                      have BK289 := n0_
                      have HB := n1_
                      clear n0_ n1_
                      (try clear hb)
                      (try clear hb2)
                      (try clear hk)
                      (try clear hi)
                      refine hK.out _ _ ⟨(blk_cell BK289.out 0).trans rfl, (blk_cell BK289.out 1).trans rfl, (blk_cell BK289.out 2).trans rfl, (blk_cell BK289.out 3).trans rfl, (blk_cell BK289.out 4).trans rfl⟩ (fun hHeld => ?_)
                      clear hK K
                      refine norm_ (a' := ?_) ?_ ?_
                      rotate_left
                      ·show Act.put _ (some 102) _ = _
                       simp only [Act.put, List.setIfInBounds_toArray, List.set_cons_zero, List.set_cons_succ, i64_w, i32_w]
                       rfl
                      refine pure_ (i := 13) (N := some 6) (v := ?_) (a' := ?_) #[true, true, true, true, true, true, true, true, true, true, true, true, true, true] rfl rfl q_ho q_id (Or.inl ⟨by rfl, ?_⟩) ?_ ?_
                      rotate_left
                      ·intro w'
                       go_simp
                       with_reducible rfl
                      rotate_left
                      ·q_si
                       rfl
                      refine done_ (done_of HT_.out (by kernel_rfl)) ?_
                      try go_wp2
                      go_ret
                      exact ⟨by first | rfl | q_em | (simp only [← hji29, ← hji33, ← hji39, ← hji46]; first | rfl | q_em) | q_en, by repeat (first | (with_reducible first | exact HB.out | apply below_alloc | apply pw_below_drewN | apply below_drew1 | refine below_set ?_ GE289.out) | exact HB.out)⟩
                     ·rw [if_neg c48] at H
                      exact absurd H (by simp)
                    ·rw [if_neg c47] at H
                     exact absurd H (by simp)
                   ·rw [if_neg c45] at H
                    exact absurd H (by simp)
                  ·rw [if_neg c44] at H
                   exact absurd H (by simp)
                 ·rw [if_neg c43] at H
                  exact absurd H (by simp)
                ·rw [if_neg c42] at H
                 exact absurd H (by simp)
               ·rw [if_neg c41] at H
                exact absurd H (by simp)
              ·rw [if_neg c40] at H
               exact absurd H (by simp)
            ·rw [if_neg c35] at H
             exact absurd H (by simp)
           ·rw [if_neg c34] at H
            exact absurd H (by simp)
         ·rw [if_neg c31] at H
          exact absurd H (by simp)
        ·rw [if_neg c30] at H
         exact absurd H (by simp)

/-! ### rees_Number: function 25 -/
def rees_Number.f (k : Nat) (l0_0 : List (List Int)) (a0_1 : Int) (a0_2 : Int) (l0_3 : List (List Int)) (a0_4 : Bool) (a1 : Int) (a2 : Int) (a3 : Int) : Option (Int) := (rees_Validate.f k l0_0 a0_1 a0_2 l0_3 a0_4).bind fun t360 => (if t360 = 0 then (if a1 < 0 then (some (-1)) else (if a1 ≥ a0_1 then (some (-1)) else (if a2 < 0 then (some (-1)) else (if a2 ≥ (l0_0.length : Int) then (some (-1)) else (if a3 < 0 then (some (-1)) else (if a3 ≥ a0_2 then (some (-1)) else ((rees_number.f l0_0 a0_1 a0_2 l0_3 a0_4 a1 a2 a3).bind fun t361 => (some t361)))))))) else (some (-1)))
theorem rees_Number.mono : ∀ a0 a1 a2 a3 a4 a5 a6 a7 k, LeO (rees_Number.f k a0 a1 a2 a3 a4 a5 a6 a7) (rees_Number.f (k + 1) a0 a1 a2 a3 a4 a5 a6 a7) := by
 intro a0 a1 a2 a3 a4 a5 a6 a7 k
 unfold rees_Number.f
 repeat' first
   | (with_reducible exact rees_Validate.mono _ _ _ _ _ _)
   | (with_reducible exact LeO.refl _)
   | (with_reducible exact LeO.none _)
   | (with_reducible refine LeO.ite ?_ ?_)
   | (with_reducible refine LeO.bind ?_ (fun _ => ?_))
   | exact rees_Validate.mono _ _ _ _ _ _
   | exact LeO.none _
   | refine LeO.ite ?_ ?_
   | refine LeO.bind ?_ (fun _ => ?_)
set_option maxHeartbeats 8000000 in
set_option maxRecDepth 100000 in
theorem rees_Number.calls (k : Nat) (A0_0 : Option Addr) (c0_0 : Nat) (l0_0 : List (List Int)) (a0_1 : Int) (a0_2 : Int) (A0_3 : Option Addr) (c0_3 : Nat) (l0_3 : List (List Int)) (a0_4 : Bool) (a1 : Int) (a2 : Int) (a3 : Int) (r : Int) (w : World) (hr0_0 : Kd.C (Kd.slice 3 (Kd.int .i64)) w A0_0 l0_0.length l0_0) (hc0_0 : l0_0.length ≤ c0_0) (hr0_3 : Kd.C (Kd.slice 3 (Kd.int .i64)) w A0_3 l0_3.length l0_3) (hc0_3 : l0_3.length ≤ c0_3) (h : rees_Number.f k l0_0 a0_1 a0_2 l0_3 a0_4 a1 a2 a3 = some r) :
  Calls Try.prog 25 #[.agg #[.slice A0_0 l0_0.length c0_0, .int .i64 a0_1, .int .i64 a0_2, .slice A0_3 l0_3.length c0_3, .bool a0_4], .int .i64 a1, .int .i64 a2, .int .i64 a3] w fun e w' => e = .returned (.int .i64 r) ∧ Below w.heap.size w w' := by
 have hu24 := Try.underlying24
 have HR0_0 := Aside0.mk hr0_0
 have HC0_0 := Aside0.mk hc0_0
 (try clear hr0_0); (try clear hc0_0)
 have HR0_3 := Aside0.mk hr0_3
 have HC0_3 := Aside0.mk hc0_3
 (try clear hr0_3); (try clear hc0_3)
 have HB := Aside0.mk (Below.refl w.heap.size w)
 have H : ((rees_Validate.f k l0_0 a0_1 a0_2 l0_3 a0_4).bind fun t360 => (if t360 = 0 then (if a1 < 0 then (some (-1)) else (if a1 ≥ a0_1 then (some (-1)) else (if a2 < 0 then (some (-1)) else (if a2 ≥ (l0_0.length : Int) then (some (-1)) else (if a3 < 0 then (some (-1)) else (if a3 ≥ a0_2 then (some (-1)) else ((rees_number.f l0_0 a0_1 a0_2 l0_3 a0_4 a1 a2 a3).bind fun t361 => (some t361)))))))) else (some (-1)))) = some r := h
 clear h
 replace H := Option.bind_eq_some_iff.mp H
 obtain ⟨t360, A50, H⟩ := H
 replace H : (if t360 = 0 then (if a1 < 0 then (some (-1)) else (if a1 ≥ a0_1 then (some (-1)) else (if a2 < 0 then (some (-1)) else (if a2 ≥ (l0_0.length : Int) then (some (-1)) else (if a3 < 0 then (some (-1)) else (if a3 ≥ a0_2 then (some (-1)) else ((rees_number.f l0_0 a0_1 a0_2 l0_3 a0_4 a1 a2 a3).bind fun t361 => (some t361)))))))) else (some (-1))) = some r := H
 have A5 := Aside0.mk A50
 clear A50
 by_cases c6 : t360 = 0
 ·rw [if_pos c6] at H
  have c6b0 : (t360 == 0) = true := beq_iff_eq.mpr c6
  have c6b1 : (t360 != 0) = false := bne_eq_false_iff_eq.mpr c6
  clear c6
  by_cases c7 : a1 < 0
  ·rw [if_pos c7] at H
   have c7b0 : decide (a1 < 0) = true := decide_eq_true c7
   clear c7
   obtain rfl := Option.some.inj H
   go_enter Try.func25, Try.ntmps25
   go_wp2_with (first | ((with_reducible refine gate_dst (N := 4) rfl ?_); (try (refine gate_guard (by rfl) ?_; dsimp only)); refine box_event ?hg (N := 4) ?hd (cs := #[.slice A0_0 l0_0.length c0_0, .int .i64 a0_1, .int .i64 a0_2, .slice A0_3 l0_3.length c0_3, .bool a0_4]) (t := 24) ?hr ?_; (case hd => rfl); (case hg => rfl); q_hr; intro gb359 hg w8 hbox hb; have n0_ := Aside0.mk (below_step q_hb hb); have n1_ := Aside0.mk (hbox); have n2_ := Aside0.mk ((by rw [hg]; exact q_bs : w.heap.size ≤ gb359)); have n3_ := Aside0.mk ((by rw [hg]; exact q_bs : w.heap.size ≤ gb359)); clear HB; have HB := n0_; have BK359 := n1_; have GW359 := n2_; have GE359 := n3_; clear n0_ n1_ n2_ n3_; (q_x hb hbox hg); have hcz9_0 : w8.cell? ⟨gb359, 0, none⟩ = some (.slice A0_0 l0_0.length c0_0) := (blk_cell BK359.out 0).trans rfl; have hcz9_1 : w8.cell? ⟨gb359, 1, none⟩ = some (.int .i64 a0_1) := (blk_cell BK359.out 1).trans rfl; have hcz9_2 : w8.cell? ⟨gb359, 2, none⟩ = some (.int .i64 a0_2) := (blk_cell BK359.out 2).trans rfl; have hcz9_3 : w8.cell? ⟨gb359, 3, none⟩ = some (.slice A0_3 l0_3.length c0_3) := (blk_cell BK359.out 3).trans rfl; have hcz9_4 : w8.cell? ⟨gb359, 4, none⟩ = some (.bool a0_4) := (blk_cell BK359.out 4).trans rfl; have hfz9_0 := blk_frozen BK359.out 0; have hfz9_1 := blk_frozen BK359.out 1; have hfz9_2 := blk_frozen BK359.out 2; have hfz9_3 := blk_frozen BK359.out 3; have hfz9_4 := blk_frozen BK359.out 4) | ((with_reducible refine gate_callee (f := 21) rfl ?_); refine goesL_ (some 10) rfl rfl Try.func21 (by kernel_rfl) rfl #[.agg #[.slice A0_0 l0_0.length c0_0, .int .i64 a0_1, .int .i64 a0_2, .slice A0_3 l0_3.length c0_3, .bool a0_4]] rfl q_ml ?_; (with_reducible refine (rees_Validate.calls k _ _ l0_0 a0_1 a0_2 _ _ l0_3 a0_4 t360 _ ?side1 ?side2 ?side3 ?side4 A5.out).mono ?_); (case side1 => q_cc (Kd.C_below HR0_0.out HB.out)); (case side2 => exact HC0_0.out); (case side3 => q_cc (Kd.C_below HR0_3.out HB.out)); (case side4 => exact HC0_3.out); rintro e w10 ⟨rfl, hb⟩; refine ⟨_, rfl, ?_⟩; have n0_ := Aside0.mk (blk_below (g := gb359) (o := .cells #[.slice A0_0 l0_0.length c0_0, .int .i64 a0_1, .int .i64 a0_2, .slice A0_3 l0_3.length c0_3, .bool a0_4] 24 (0, 0)) (by q_bk; exact BK359.out) hb); have n1_ := Aside0.mk (below_step (q_hs GE359.out) hb); clear BK359; clear HB; have BK359 := n0_; have HB := n1_; clear n0_ n1_; (q_x hb hb2 hk); (try clear hi)))
   go_ret
   exact ⟨by first | rfl | q_em | q_en, by repeat (first | (with_reducible first | exact HB.out | apply below_alloc | apply pw_below_drewN | apply below_drew1 | refine below_set ?_ GE359.out) | exact HB.out)⟩
  ·rw [if_neg c7] at H
   have c7b0 : decide (a1 < 0) = false := decide_eq_false c7
   clear c7
   by_cases c11 : a1 ≥ a0_1
   ·rw [if_pos c11] at H
    have c11b0 : decide (a0_1 ≤ a1) = true := decide_eq_true c11
    clear c11
    obtain rfl := Option.some.inj H
    go_enter Try.func25, Try.ntmps25
    go_wp2_with (first | ((with_reducible refine gate_dst (N := 4) rfl ?_); (try (refine gate_guard (by rfl) ?_; dsimp only)); refine box_event ?hg (N := 4) ?hd (cs := #[.slice A0_0 l0_0.length c0_0, .int .i64 a0_1, .int .i64 a0_2, .slice A0_3 l0_3.length c0_3, .bool a0_4]) (t := 24) ?hr ?_; (case hd => rfl); (case hg => rfl); q_hr; intro gb359 hg w12 hbox hb; have n0_ := Aside0.mk (below_step q_hb hb); have n1_ := Aside0.mk (hbox); have n2_ := Aside0.mk ((by rw [hg]; exact q_bs : w.heap.size ≤ gb359)); have n3_ := Aside0.mk ((by rw [hg]; exact q_bs : w.heap.size ≤ gb359)); clear HB; have HB := n0_; have BK359 := n1_; have GW359 := n2_; have GE359 := n3_; clear n0_ n1_ n2_ n3_; (q_x hb hbox hg); have hcz13_0 : w12.cell? ⟨gb359, 0, none⟩ = some (.slice A0_0 l0_0.length c0_0) := (blk_cell BK359.out 0).trans rfl; have hcz13_1 : w12.cell? ⟨gb359, 1, none⟩ = some (.int .i64 a0_1) := (blk_cell BK359.out 1).trans rfl; have hcz13_2 : w12.cell? ⟨gb359, 2, none⟩ = some (.int .i64 a0_2) := (blk_cell BK359.out 2).trans rfl; have hcz13_3 : w12.cell? ⟨gb359, 3, none⟩ = some (.slice A0_3 l0_3.length c0_3) := (blk_cell BK359.out 3).trans rfl; have hcz13_4 : w12.cell? ⟨gb359, 4, none⟩ = some (.bool a0_4) := (blk_cell BK359.out 4).trans rfl; have hfz13_0 := blk_frozen BK359.out 0; have hfz13_1 := blk_frozen BK359.out 1; have hfz13_2 := blk_frozen BK359.out 2; have hfz13_3 := blk_frozen BK359.out 3; have hfz13_4 := blk_frozen BK359.out 4) | ((with_reducible refine gate_callee (f := 21) rfl ?_); refine goesL_ (some 10) rfl rfl Try.func21 (by kernel_rfl) rfl #[.agg #[.slice A0_0 l0_0.length c0_0, .int .i64 a0_1, .int .i64 a0_2, .slice A0_3 l0_3.length c0_3, .bool a0_4]] rfl q_ml ?_; (with_reducible refine (rees_Validate.calls k _ _ l0_0 a0_1 a0_2 _ _ l0_3 a0_4 t360 _ ?side1 ?side2 ?side3 ?side4 A5.out).mono ?_); (case side1 => q_cc (Kd.C_below HR0_0.out HB.out)); (case side2 => exact HC0_0.out); (case side3 => q_cc (Kd.C_below HR0_3.out HB.out)); (case side4 => exact HC0_3.out); rintro e w14 ⟨rfl, hb⟩; refine ⟨_, rfl, ?_⟩; have n0_ := Aside0.mk (blk_below (g := gb359) (o := .cells #[.slice A0_0 l0_0.length c0_0, .int .i64 a0_1, .int .i64 a0_2, .slice A0_3 l0_3.length c0_3, .bool a0_4] 24 (0, 0)) (by q_bk; exact BK359.out) hb); have n1_ := Aside0.mk (below_step (q_hs GE359.out) hb); clear BK359; clear HB; have BK359 := n0_; have HB := n1_; clear n0_ n1_; (q_x hb hb2 hk hi); have hcz15_0 : w14.cell? ⟨gb359, 0, none⟩ = some (.slice A0_0 l0_0.length c0_0) := (blk_cell BK359.out 0).trans rfl; have hcz15_1 : w14.cell? ⟨gb359, 1, none⟩ = some (.int .i64 a0_1) := (blk_cell BK359.out 1).trans rfl; have hcz15_2 : w14.cell? ⟨gb359, 2, none⟩ = some (.int .i64 a0_2) := (blk_cell BK359.out 2).trans rfl; have hcz15_3 : w14.cell? ⟨gb359, 3, none⟩ = some (.slice A0_3 l0_3.length c0_3) := (blk_cell BK359.out 3).trans rfl; have hcz15_4 : w14.cell? ⟨gb359, 4, none⟩ = some (.bool a0_4) := (blk_cell BK359.out 4).trans rfl; have hfz15_0 := blk_frozen BK359.out 0; have hfz15_1 := blk_frozen BK359.out 1; have hfz15_2 := blk_frozen BK359.out 2; have hfz15_3 := blk_frozen BK359.out 3; have hfz15_4 := blk_frozen BK359.out 4))
    go_ret
    exact ⟨by first | rfl | q_em | q_en, by repeat (first | (with_reducible first | exact HB.out | apply below_alloc | apply pw_below_drewN | apply below_drew1 | refine below_set ?_ GE359.out) | exact HB.out)⟩
   ·rw [if_neg c11] at H
    have c11b0 : decide (a0_1 ≤ a1) = false := decide_eq_false c11
    clear c11
    by_cases c16 : a2 < 0
    ·rw [if_pos c16] at H
     have c16b0 : decide (a2 < 0) = true := decide_eq_true c16
     clear c16
     obtain rfl := Option.some.inj H
     go_enter Try.func25, Try.ntmps25
     go_wp2_with (first | ((with_reducible refine gate_dst (N := 4) rfl ?_); (try (refine gate_guard (by rfl) ?_; dsimp only)); refine box_event ?hg (N := 4) ?hd (cs := #[.slice A0_0 l0_0.length c0_0, .int .i64 a0_1, .int .i64 a0_2, .slice A0_3 l0_3.length c0_3, .bool a0_4]) (t := 24) ?hr ?_; (case hd => rfl); (case hg => rfl); q_hr; intro gb359 hg w17 hbox hb; have n0_ := Aside0.mk (below_step q_hb hb); have n1_ := Aside0.mk (hbox); have n2_ := Aside0.mk ((by rw [hg]; exact q_bs : w.heap.size ≤ gb359)); have n3_ := Aside0.mk ((by rw [hg]; exact q_bs : w.heap.size ≤ gb359)); clear HB; have HB := n0_; have BK359 := n1_; have GW359 := n2_; have GE359 := n3_; clear n0_ n1_ n2_ n3_; (q_x hb hbox hg); have hcz18_0 : w17.cell? ⟨gb359, 0, none⟩ = some (.slice A0_0 l0_0.length c0_0) := (blk_cell BK359.out 0).trans rfl; have hcz18_1 : w17.cell? ⟨gb359, 1, none⟩ = some (.int .i64 a0_1) := (blk_cell BK359.out 1).trans rfl; have hcz18_2 : w17.cell? ⟨gb359, 2, none⟩ = some (.int .i64 a0_2) := (blk_cell BK359.out 2).trans rfl; have hcz18_3 : w17.cell? ⟨gb359, 3, none⟩ = some (.slice A0_3 l0_3.length c0_3) := (blk_cell BK359.out 3).trans rfl; have hcz18_4 : w17.cell? ⟨gb359, 4, none⟩ = some (.bool a0_4) := (blk_cell BK359.out 4).trans rfl; have hfz18_0 := blk_frozen BK359.out 0; have hfz18_1 := blk_frozen BK359.out 1; have hfz18_2 := blk_frozen BK359.out 2; have hfz18_3 := blk_frozen BK359.out 3; have hfz18_4 := blk_frozen BK359.out 4) | ((with_reducible refine gate_callee (f := 21) rfl ?_); refine goesL_ (some 10) rfl rfl Try.func21 (by kernel_rfl) rfl #[.agg #[.slice A0_0 l0_0.length c0_0, .int .i64 a0_1, .int .i64 a0_2, .slice A0_3 l0_3.length c0_3, .bool a0_4]] rfl q_ml ?_; (with_reducible refine (rees_Validate.calls k _ _ l0_0 a0_1 a0_2 _ _ l0_3 a0_4 t360 _ ?side1 ?side2 ?side3 ?side4 A5.out).mono ?_); (case side1 => q_cc (Kd.C_below HR0_0.out HB.out)); (case side2 => exact HC0_0.out); (case side3 => q_cc (Kd.C_below HR0_3.out HB.out)); (case side4 => exact HC0_3.out); rintro e w19 ⟨rfl, hb⟩; refine ⟨_, rfl, ?_⟩; have n0_ := Aside0.mk (blk_below (g := gb359) (o := .cells #[.slice A0_0 l0_0.length c0_0, .int .i64 a0_1, .int .i64 a0_2, .slice A0_3 l0_3.length c0_3, .bool a0_4] 24 (0, 0)) (by q_bk; exact BK359.out) hb); have n1_ := Aside0.mk (below_step (q_hs GE359.out) hb); clear BK359; clear HB; have BK359 := n0_; have HB := n1_; clear n0_ n1_; (q_x hb hb2 hk hi); have hcz20_0 : w19.cell? ⟨gb359, 0, none⟩ = some (.slice A0_0 l0_0.length c0_0) := (blk_cell BK359.out 0).trans rfl; have hcz20_1 : w19.cell? ⟨gb359, 1, none⟩ = some (.int .i64 a0_1) := (blk_cell BK359.out 1).trans rfl; have hcz20_2 : w19.cell? ⟨gb359, 2, none⟩ = some (.int .i64 a0_2) := (blk_cell BK359.out 2).trans rfl; have hcz20_3 : w19.cell? ⟨gb359, 3, none⟩ = some (.slice A0_3 l0_3.length c0_3) := (blk_cell BK359.out 3).trans rfl; have hcz20_4 : w19.cell? ⟨gb359, 4, none⟩ = some (.bool a0_4) := (blk_cell BK359.out 4).trans rfl; have hfz20_0 := blk_frozen BK359.out 0; have hfz20_1 := blk_frozen BK359.out 1; have hfz20_2 := blk_frozen BK359.out 2; have hfz20_3 := blk_frozen BK359.out 3; have hfz20_4 := blk_frozen BK359.out 4))
     go_ret
     exact ⟨by first | rfl | q_em | q_en, by repeat (first | (with_reducible first | exact HB.out | apply below_alloc | apply pw_below_drewN | apply below_drew1 | refine below_set ?_ GE359.out) | exact HB.out)⟩
    ·rw [if_neg c16] at H
     have c16b0 : decide (a2 < 0) = false := decide_eq_false c16
     clear c16
     by_cases c21 : a2 ≥ (l0_0.length : Int)
     ·rw [if_pos c21] at H
      have c21b0 : decide ((l0_0.length : Int) ≤ a2) = true := decide_eq_true c21
      clear c21
      obtain rfl := Option.some.inj H
      go_enter Try.func25, Try.ntmps25
      go_wp2_with (first | ((with_reducible refine gate_dst (N := 4) rfl ?_); (try (refine gate_guard (by rfl) ?_; dsimp only)); refine box_event ?hg (N := 4) ?hd (cs := #[.slice A0_0 l0_0.length c0_0, .int .i64 a0_1, .int .i64 a0_2, .slice A0_3 l0_3.length c0_3, .bool a0_4]) (t := 24) ?hr ?_; (case hd => rfl); (case hg => rfl); q_hr; intro gb359 hg w22 hbox hb; have n0_ := Aside0.mk (below_step q_hb hb); have n1_ := Aside0.mk (hbox); have n2_ := Aside0.mk ((by rw [hg]; exact q_bs : w.heap.size ≤ gb359)); have n3_ := Aside0.mk ((by rw [hg]; exact q_bs : w.heap.size ≤ gb359)); clear HB; have HB := n0_; have BK359 := n1_; have GW359 := n2_; have GE359 := n3_; clear n0_ n1_ n2_ n3_; (q_x hb hbox hg); have hcz23_0 : w22.cell? ⟨gb359, 0, none⟩ = some (.slice A0_0 l0_0.length c0_0) := (blk_cell BK359.out 0).trans rfl; have hcz23_1 : w22.cell? ⟨gb359, 1, none⟩ = some (.int .i64 a0_1) := (blk_cell BK359.out 1).trans rfl; have hcz23_2 : w22.cell? ⟨gb359, 2, none⟩ = some (.int .i64 a0_2) := (blk_cell BK359.out 2).trans rfl; have hcz23_3 : w22.cell? ⟨gb359, 3, none⟩ = some (.slice A0_3 l0_3.length c0_3) := (blk_cell BK359.out 3).trans rfl; have hcz23_4 : w22.cell? ⟨gb359, 4, none⟩ = some (.bool a0_4) := (blk_cell BK359.out 4).trans rfl; have hfz23_0 := blk_frozen BK359.out 0; have hfz23_1 := blk_frozen BK359.out 1; have hfz23_2 := blk_frozen BK359.out 2; have hfz23_3 := blk_frozen BK359.out 3; have hfz23_4 := blk_frozen BK359.out 4) | ((with_reducible refine gate_callee (f := 21) rfl ?_); refine goesL_ (some 10) rfl rfl Try.func21 (by kernel_rfl) rfl #[.agg #[.slice A0_0 l0_0.length c0_0, .int .i64 a0_1, .int .i64 a0_2, .slice A0_3 l0_3.length c0_3, .bool a0_4]] rfl q_ml ?_; (with_reducible refine (rees_Validate.calls k _ _ l0_0 a0_1 a0_2 _ _ l0_3 a0_4 t360 _ ?side1 ?side2 ?side3 ?side4 A5.out).mono ?_); (case side1 => q_cc (Kd.C_below HR0_0.out HB.out)); (case side2 => exact HC0_0.out); (case side3 => q_cc (Kd.C_below HR0_3.out HB.out)); (case side4 => exact HC0_3.out); rintro e w24 ⟨rfl, hb⟩; refine ⟨_, rfl, ?_⟩; have n0_ := Aside0.mk (blk_below (g := gb359) (o := .cells #[.slice A0_0 l0_0.length c0_0, .int .i64 a0_1, .int .i64 a0_2, .slice A0_3 l0_3.length c0_3, .bool a0_4] 24 (0, 0)) (by q_bk; exact BK359.out) hb); have n1_ := Aside0.mk (below_step (q_hs GE359.out) hb); clear BK359; clear HB; have BK359 := n0_; have HB := n1_; clear n0_ n1_; (q_x hb hb2 hk hi); have hcz25_0 : w24.cell? ⟨gb359, 0, none⟩ = some (.slice A0_0 l0_0.length c0_0) := (blk_cell BK359.out 0).trans rfl; have hcz25_1 : w24.cell? ⟨gb359, 1, none⟩ = some (.int .i64 a0_1) := (blk_cell BK359.out 1).trans rfl; have hcz25_2 : w24.cell? ⟨gb359, 2, none⟩ = some (.int .i64 a0_2) := (blk_cell BK359.out 2).trans rfl; have hcz25_3 : w24.cell? ⟨gb359, 3, none⟩ = some (.slice A0_3 l0_3.length c0_3) := (blk_cell BK359.out 3).trans rfl; have hcz25_4 : w24.cell? ⟨gb359, 4, none⟩ = some (.bool a0_4) := (blk_cell BK359.out 4).trans rfl; have hfz25_0 := blk_frozen BK359.out 0; have hfz25_1 := blk_frozen BK359.out 1; have hfz25_2 := blk_frozen BK359.out 2; have hfz25_3 := blk_frozen BK359.out 3; have hfz25_4 := blk_frozen BK359.out 4))
      go_ret
      exact ⟨by first | rfl | q_em | q_en, by repeat (first | (with_reducible first | exact HB.out | apply below_alloc | apply pw_below_drewN | apply below_drew1 | refine below_set ?_ GE359.out) | exact HB.out)⟩
     ·rw [if_neg c21] at H
      have c21b0 : decide ((l0_0.length : Int) ≤ a2) = false := decide_eq_false c21
      clear c21
      by_cases c26 : a3 < 0
      ·rw [if_pos c26] at H
       have c26b0 : decide (a3 < 0) = true := decide_eq_true c26
       clear c26
       obtain rfl := Option.some.inj H
       go_enter Try.func25, Try.ntmps25
       go_wp2_with (first | ((with_reducible refine gate_dst (N := 4) rfl ?_); (try (refine gate_guard (by rfl) ?_; dsimp only)); refine box_event ?hg (N := 4) ?hd (cs := #[.slice A0_0 l0_0.length c0_0, .int .i64 a0_1, .int .i64 a0_2, .slice A0_3 l0_3.length c0_3, .bool a0_4]) (t := 24) ?hr ?_; (case hd => rfl); (case hg => rfl); q_hr; intro gb359 hg w27 hbox hb; have n0_ := Aside0.mk (below_step q_hb hb); have n1_ := Aside0.mk (hbox); have n2_ := Aside0.mk ((by rw [hg]; exact q_bs : w.heap.size ≤ gb359)); have n3_ := Aside0.mk ((by rw [hg]; exact q_bs : w.heap.size ≤ gb359)); clear HB; have HB := n0_; have BK359 := n1_; have GW359 := n2_; have GE359 := n3_; clear n0_ n1_ n2_ n3_; (q_x hb hbox hg); have hcz28_0 : w27.cell? ⟨gb359, 0, none⟩ = some (.slice A0_0 l0_0.length c0_0) := (blk_cell BK359.out 0).trans rfl; have hcz28_1 : w27.cell? ⟨gb359, 1, none⟩ = some (.int .i64 a0_1) := (blk_cell BK359.out 1).trans rfl; have hcz28_2 : w27.cell? ⟨gb359, 2, none⟩ = some (.int .i64 a0_2) := (blk_cell BK359.out 2).trans rfl; have hcz28_3 : w27.cell? ⟨gb359, 3, none⟩ = some (.slice A0_3 l0_3.length c0_3) := (blk_cell BK359.out 3).trans rfl; have hcz28_4 : w27.cell? ⟨gb359, 4, none⟩ = some (.bool a0_4) := (blk_cell BK359.out 4).trans rfl; have hfz28_0 := blk_frozen BK359.out 0; have hfz28_1 := blk_frozen BK359.out 1; have hfz28_2 := blk_frozen BK359.out 2; have hfz28_3 := blk_frozen BK359.out 3; have hfz28_4 := blk_frozen BK359.out 4) | ((with_reducible refine gate_callee (f := 21) rfl ?_); refine goesL_ (some 10) rfl rfl Try.func21 (by kernel_rfl) rfl #[.agg #[.slice A0_0 l0_0.length c0_0, .int .i64 a0_1, .int .i64 a0_2, .slice A0_3 l0_3.length c0_3, .bool a0_4]] rfl q_ml ?_; (with_reducible refine (rees_Validate.calls k _ _ l0_0 a0_1 a0_2 _ _ l0_3 a0_4 t360 _ ?side1 ?side2 ?side3 ?side4 A5.out).mono ?_); (case side1 => q_cc (Kd.C_below HR0_0.out HB.out)); (case side2 => exact HC0_0.out); (case side3 => q_cc (Kd.C_below HR0_3.out HB.out)); (case side4 => exact HC0_3.out); rintro e w29 ⟨rfl, hb⟩; refine ⟨_, rfl, ?_⟩; have n0_ := Aside0.mk (blk_below (g := gb359) (o := .cells #[.slice A0_0 l0_0.length c0_0, .int .i64 a0_1, .int .i64 a0_2, .slice A0_3 l0_3.length c0_3, .bool a0_4] 24 (0, 0)) (by q_bk; exact BK359.out) hb); have n1_ := Aside0.mk (below_step (q_hs GE359.out) hb); clear BK359; clear HB; have BK359 := n0_; have HB := n1_; clear n0_ n1_; (q_x hb hb2 hk hi); have hcz30_0 : w29.cell? ⟨gb359, 0, none⟩ = some (.slice A0_0 l0_0.length c0_0) := (blk_cell BK359.out 0).trans rfl; have hcz30_1 : w29.cell? ⟨gb359, 1, none⟩ = some (.int .i64 a0_1) := (blk_cell BK359.out 1).trans rfl; have hcz30_2 : w29.cell? ⟨gb359, 2, none⟩ = some (.int .i64 a0_2) := (blk_cell BK359.out 2).trans rfl; have hcz30_3 : w29.cell? ⟨gb359, 3, none⟩ = some (.slice A0_3 l0_3.length c0_3) := (blk_cell BK359.out 3).trans rfl; have hcz30_4 : w29.cell? ⟨gb359, 4, none⟩ = some (.bool a0_4) := (blk_cell BK359.out 4).trans rfl; have hfz30_0 := blk_frozen BK359.out 0; have hfz30_1 := blk_frozen BK359.out 1; have hfz30_2 := blk_frozen BK359.out 2; have hfz30_3 := blk_frozen BK359.out 3; have hfz30_4 := blk_frozen BK359.out 4))
       go_ret
       exact ⟨by first | rfl | q_em | q_en, by repeat (first | (with_reducible first | exact HB.out | apply below_alloc | apply pw_below_drewN | apply below_drew1 | refine below_set ?_ GE359.out) | exact HB.out)⟩
      ·rw [if_neg c26] at H
       have c26b0 : decide (a3 < 0) = false := decide_eq_false c26
       clear c26
       by_cases c31 : a3 ≥ a0_2
       ·rw [if_pos c31] at H
        have c31b0 : decide (a0_2 ≤ a3) = true := decide_eq_true c31
        clear c31
        obtain rfl := Option.some.inj H
        go_enter Try.func25, Try.ntmps25
        go_wp2_with (first | ((with_reducible refine gate_dst (N := 4) rfl ?_); (try (refine gate_guard (by rfl) ?_; dsimp only)); refine box_event ?hg (N := 4) ?hd (cs := #[.slice A0_0 l0_0.length c0_0, .int .i64 a0_1, .int .i64 a0_2, .slice A0_3 l0_3.length c0_3, .bool a0_4]) (t := 24) ?hr ?_; (case hd => rfl); (case hg => rfl); q_hr; intro gb359 hg w32 hbox hb; have n0_ := Aside0.mk (below_step q_hb hb); have n1_ := Aside0.mk (hbox); have n2_ := Aside0.mk ((by rw [hg]; exact q_bs : w.heap.size ≤ gb359)); have n3_ := Aside0.mk ((by rw [hg]; exact q_bs : w.heap.size ≤ gb359)); clear HB; have HB := n0_; have BK359 := n1_; have GW359 := n2_; have GE359 := n3_; clear n0_ n1_ n2_ n3_; (q_x hb hbox hg); have hcz33_0 : w32.cell? ⟨gb359, 0, none⟩ = some (.slice A0_0 l0_0.length c0_0) := (blk_cell BK359.out 0).trans rfl; have hcz33_1 : w32.cell? ⟨gb359, 1, none⟩ = some (.int .i64 a0_1) := (blk_cell BK359.out 1).trans rfl; have hcz33_2 : w32.cell? ⟨gb359, 2, none⟩ = some (.int .i64 a0_2) := (blk_cell BK359.out 2).trans rfl; have hcz33_3 : w32.cell? ⟨gb359, 3, none⟩ = some (.slice A0_3 l0_3.length c0_3) := (blk_cell BK359.out 3).trans rfl; have hcz33_4 : w32.cell? ⟨gb359, 4, none⟩ = some (.bool a0_4) := (blk_cell BK359.out 4).trans rfl; have hfz33_0 := blk_frozen BK359.out 0; have hfz33_1 := blk_frozen BK359.out 1; have hfz33_2 := blk_frozen BK359.out 2; have hfz33_3 := blk_frozen BK359.out 3; have hfz33_4 := blk_frozen BK359.out 4) | ((with_reducible refine gate_callee (f := 21) rfl ?_); refine goesL_ (some 10) rfl rfl Try.func21 (by kernel_rfl) rfl #[.agg #[.slice A0_0 l0_0.length c0_0, .int .i64 a0_1, .int .i64 a0_2, .slice A0_3 l0_3.length c0_3, .bool a0_4]] rfl q_ml ?_; (with_reducible refine (rees_Validate.calls k _ _ l0_0 a0_1 a0_2 _ _ l0_3 a0_4 t360 _ ?side1 ?side2 ?side3 ?side4 A5.out).mono ?_); (case side1 => q_cc (Kd.C_below HR0_0.out HB.out)); (case side2 => exact HC0_0.out); (case side3 => q_cc (Kd.C_below HR0_3.out HB.out)); (case side4 => exact HC0_3.out); rintro e w34 ⟨rfl, hb⟩; refine ⟨_, rfl, ?_⟩; have n0_ := Aside0.mk (blk_below (g := gb359) (o := .cells #[.slice A0_0 l0_0.length c0_0, .int .i64 a0_1, .int .i64 a0_2, .slice A0_3 l0_3.length c0_3, .bool a0_4] 24 (0, 0)) (by q_bk; exact BK359.out) hb); have n1_ := Aside0.mk (below_step (q_hs GE359.out) hb); clear BK359; clear HB; have BK359 := n0_; have HB := n1_; clear n0_ n1_; (q_x hb hb2 hk hi); have hcz35_0 : w34.cell? ⟨gb359, 0, none⟩ = some (.slice A0_0 l0_0.length c0_0) := (blk_cell BK359.out 0).trans rfl; have hcz35_1 : w34.cell? ⟨gb359, 1, none⟩ = some (.int .i64 a0_1) := (blk_cell BK359.out 1).trans rfl; have hcz35_2 : w34.cell? ⟨gb359, 2, none⟩ = some (.int .i64 a0_2) := (blk_cell BK359.out 2).trans rfl; have hcz35_3 : w34.cell? ⟨gb359, 3, none⟩ = some (.slice A0_3 l0_3.length c0_3) := (blk_cell BK359.out 3).trans rfl; have hcz35_4 : w34.cell? ⟨gb359, 4, none⟩ = some (.bool a0_4) := (blk_cell BK359.out 4).trans rfl; have hfz35_0 := blk_frozen BK359.out 0; have hfz35_1 := blk_frozen BK359.out 1; have hfz35_2 := blk_frozen BK359.out 2; have hfz35_3 := blk_frozen BK359.out 3; have hfz35_4 := blk_frozen BK359.out 4))
        go_ret
        exact ⟨by first | rfl | q_em | q_en, by repeat (first | (with_reducible first | exact HB.out | apply below_alloc | apply pw_below_drewN | apply below_drew1 | refine below_set ?_ GE359.out) | exact HB.out)⟩
       ·rw [if_neg c31] at H
        have c31b0 : decide (a0_2 ≤ a3) = false := decide_eq_false c31
        clear c31
        replace H := Option.bind_eq_some_iff.mp H
        obtain ⟨t361, A360, H⟩ := H
        replace H : (some t361) = some r := H
        have A36 := Aside0.mk A360
        clear A360
        obtain rfl := Option.some.inj H
        go_enter Try.func25, Try.ntmps25
        go_wp2_with (first | ((with_reducible refine gate_dst (N := 4) rfl ?_); (try (refine gate_guard (by rfl) ?_; dsimp only)); refine box_event ?hg (N := 4) ?hd (cs := #[.slice A0_0 l0_0.length c0_0, .int .i64 a0_1, .int .i64 a0_2, .slice A0_3 l0_3.length c0_3, .bool a0_4]) (t := 24) ?hr ?_; (case hd => rfl); (case hg => rfl); q_hr; intro gb359 hg w37 hbox hb; have n0_ := Aside0.mk (below_step q_hb hb); have n1_ := Aside0.mk (hbox); have n2_ := Aside0.mk ((by rw [hg]; exact q_bs : w.heap.size ≤ gb359)); have n3_ := Aside0.mk ((by rw [hg]; exact q_bs : w.heap.size ≤ gb359)); clear HB; have HB := n0_; have BK359 := n1_; have GW359 := n2_; have GE359 := n3_; clear n0_ n1_ n2_ n3_; (q_x hb hbox hg); have hcz38_0 : w37.cell? ⟨gb359, 0, none⟩ = some (.slice A0_0 l0_0.length c0_0) := (blk_cell BK359.out 0).trans rfl; have hcz38_1 : w37.cell? ⟨gb359, 1, none⟩ = some (.int .i64 a0_1) := (blk_cell BK359.out 1).trans rfl; have hcz38_2 : w37.cell? ⟨gb359, 2, none⟩ = some (.int .i64 a0_2) := (blk_cell BK359.out 2).trans rfl; have hcz38_3 : w37.cell? ⟨gb359, 3, none⟩ = some (.slice A0_3 l0_3.length c0_3) := (blk_cell BK359.out 3).trans rfl; have hcz38_4 : w37.cell? ⟨gb359, 4, none⟩ = some (.bool a0_4) := (blk_cell BK359.out 4).trans rfl; have hfz38_0 := blk_frozen BK359.out 0; have hfz38_1 := blk_frozen BK359.out 1; have hfz38_2 := blk_frozen BK359.out 2; have hfz38_3 := blk_frozen BK359.out 3; have hfz38_4 := blk_frozen BK359.out 4) | ((with_reducible refine gate_callee (f := 21) rfl ?_); refine goesL_ (some 10) rfl rfl Try.func21 (by kernel_rfl) rfl #[.agg #[.slice A0_0 l0_0.length c0_0, .int .i64 a0_1, .int .i64 a0_2, .slice A0_3 l0_3.length c0_3, .bool a0_4]] rfl q_ml ?_; (with_reducible refine (rees_Validate.calls k _ _ l0_0 a0_1 a0_2 _ _ l0_3 a0_4 t360 _ ?side1 ?side2 ?side3 ?side4 A5.out).mono ?_); (case side1 => q_cc (Kd.C_below HR0_0.out HB.out)); (case side2 => exact HC0_0.out); (case side3 => q_cc (Kd.C_below HR0_3.out HB.out)); (case side4 => exact HC0_3.out); rintro e w39 ⟨rfl, hb⟩; refine ⟨_, rfl, ?_⟩; have n0_ := Aside0.mk (blk_below (g := gb359) (o := .cells #[.slice A0_0 l0_0.length c0_0, .int .i64 a0_1, .int .i64 a0_2, .slice A0_3 l0_3.length c0_3, .bool a0_4] 24 (0, 0)) (by q_bk; exact BK359.out) hb); have n1_ := Aside0.mk (below_step (q_hs GE359.out) hb); clear BK359; clear HB; have BK359 := n0_; have HB := n1_; clear n0_ n1_; (q_x hb hb2 hk hi); have hcz40_0 : w39.cell? ⟨gb359, 0, none⟩ = some (.slice A0_0 l0_0.length c0_0) := (blk_cell BK359.out 0).trans rfl; have hcz40_1 : w39.cell? ⟨gb359, 1, none⟩ = some (.int .i64 a0_1) := (blk_cell BK359.out 1).trans rfl; have hcz40_2 : w39.cell? ⟨gb359, 2, none⟩ = some (.int .i64 a0_2) := (blk_cell BK359.out 2).trans rfl; have hcz40_3 : w39.cell? ⟨gb359, 3, none⟩ = some (.slice A0_3 l0_3.length c0_3) := (blk_cell BK359.out 3).trans rfl; have hcz40_4 : w39.cell? ⟨gb359, 4, none⟩ = some (.bool a0_4) := (blk_cell BK359.out 4).trans rfl; have hfz40_0 := blk_frozen BK359.out 0; have hfz40_1 := blk_frozen BK359.out 1; have hfz40_2 := blk_frozen BK359.out 2; have hfz40_3 := blk_frozen BK359.out 3; have hfz40_4 := blk_frozen BK359.out 4) | ((with_reducible refine gate_callee (f := 53) rfl ?_); refine goesL_ (some 47) rfl rfl Try.func53 (by kernel_rfl) rfl #[.agg #[.slice A0_0 l0_0.length c0_0, .int .i64 a0_1, .int .i64 a0_2, .slice A0_3 l0_3.length c0_3, .bool a0_4], .int .i64 a1, .int .i64 a2, .int .i64 a3] rfl q_ml ?_; (with_reducible refine (rees_number.calls _ _ l0_0 a0_1 a0_2 _ _ l0_3 a0_4 a1 a2 a3 t361 _ ?side1 ?side2 ?side3 ?side4 A36.out).mono ?_); (case side1 => q_cc (Kd.C_below HR0_0.out HB.out)); (case side2 => exact HC0_0.out); (case side3 => q_cc (Kd.C_below HR0_3.out HB.out)); (case side4 => exact HC0_3.out); rintro e w41 ⟨rfl, hb⟩; refine ⟨_, rfl, ?_⟩; have n0_ := Aside0.mk (blk_below (g := gb359) (o := .cells #[.slice A0_0 l0_0.length c0_0, .int .i64 a0_1, .int .i64 a0_2, .slice A0_3 l0_3.length c0_3, .bool a0_4] 24 (0, 0)) (by q_bk; exact BK359.out) hb); have n1_ := Aside0.mk (below_step (q_hs GE359.out) hb); clear BK359; clear HB; have BK359 := n0_; have HB := n1_; clear n0_ n1_; (q_x hb hb2 hk); (try clear hi)))
        go_ret
        exact ⟨by first | rfl | q_em | q_en, by repeat (first | (with_reducible first | exact HB.out | apply below_alloc | apply pw_below_drewN | apply below_drew1 | refine below_set ?_ GE359.out) | exact HB.out)⟩
 ·rw [if_neg c6] at H
  have c6b0 : (t360 == 0) = false := beq_eq_false_iff_ne.mpr c6
  have c6b1 : (t360 != 0) = true := bne_iff_ne.mpr c6
  obtain rfl := Option.some.inj H
  go_enter Try.func25, Try.ntmps25
  go_wp2_with (first | ((with_reducible refine gate_dst (N := 4) rfl ?_); (try (refine gate_guard (by rfl) ?_; dsimp only)); refine box_event ?hg (N := 4) ?hd (cs := #[.slice A0_0 l0_0.length c0_0, .int .i64 a0_1, .int .i64 a0_2, .slice A0_3 l0_3.length c0_3, .bool a0_4]) (t := 24) ?hr ?_; (case hd => rfl); (case hg => rfl); q_hr; intro gb359 hg w42 hbox hb; have n0_ := Aside0.mk (below_step q_hb hb); have n1_ := Aside0.mk (hbox); have n2_ := Aside0.mk ((by rw [hg]; exact q_bs : w.heap.size ≤ gb359)); have n3_ := Aside0.mk ((by rw [hg]; exact q_bs : w.heap.size ≤ gb359)); clear HB; have HB := n0_; have BK359 := n1_; have GW359 := n2_; have GE359 := n3_; clear n0_ n1_ n2_ n3_; (q_x hb hbox hg); have hcz43_0 : w42.cell? ⟨gb359, 0, none⟩ = some (.slice A0_0 l0_0.length c0_0) := (blk_cell BK359.out 0).trans rfl; have hcz43_1 : w42.cell? ⟨gb359, 1, none⟩ = some (.int .i64 a0_1) := (blk_cell BK359.out 1).trans rfl; have hcz43_2 : w42.cell? ⟨gb359, 2, none⟩ = some (.int .i64 a0_2) := (blk_cell BK359.out 2).trans rfl; have hcz43_3 : w42.cell? ⟨gb359, 3, none⟩ = some (.slice A0_3 l0_3.length c0_3) := (blk_cell BK359.out 3).trans rfl; have hcz43_4 : w42.cell? ⟨gb359, 4, none⟩ = some (.bool a0_4) := (blk_cell BK359.out 4).trans rfl; have hfz43_0 := blk_frozen BK359.out 0; have hfz43_1 := blk_frozen BK359.out 1; have hfz43_2 := blk_frozen BK359.out 2; have hfz43_3 := blk_frozen BK359.out 3; have hfz43_4 := blk_frozen BK359.out 4) | ((with_reducible refine gate_callee (f := 21) rfl ?_); refine goesL_ (some 10) rfl rfl Try.func21 (by kernel_rfl) rfl #[.agg #[.slice A0_0 l0_0.length c0_0, .int .i64 a0_1, .int .i64 a0_2, .slice A0_3 l0_3.length c0_3, .bool a0_4]] rfl q_ml ?_; (with_reducible refine (rees_Validate.calls k _ _ l0_0 a0_1 a0_2 _ _ l0_3 a0_4 t360 _ ?side1 ?side2 ?side3 ?side4 A5.out).mono ?_); (case side1 => q_cc (Kd.C_below HR0_0.out HB.out)); (case side2 => exact HC0_0.out); (case side3 => q_cc (Kd.C_below HR0_3.out HB.out)); (case side4 => exact HC0_3.out); rintro e w44 ⟨rfl, hb⟩; refine ⟨_, rfl, ?_⟩; have n0_ := Aside0.mk (blk_below (g := gb359) (o := .cells #[.slice A0_0 l0_0.length c0_0, .int .i64 a0_1, .int .i64 a0_2, .slice A0_3 l0_3.length c0_3, .bool a0_4] 24 (0, 0)) (by q_bk; exact BK359.out) hb); have n1_ := Aside0.mk (below_step (q_hs GE359.out) hb); clear BK359; clear HB; have BK359 := n0_; have HB := n1_; clear n0_ n1_; (q_x hb hb2 hk); (try clear hi)))
  go_ret
  exact ⟨by first | rfl | q_em | q_en, by repeat (first | (with_reducible first | exact HB.out | apply below_alloc | apply pw_below_drewN | apply below_drew1 | refine below_set ?_ GE359.out) | exact HB.out)⟩

/-! ### rees_Mul: function 26 -/
def rees_Mul.f (k : Nat) (l0_0 : List (List Int)) (a0_1 : Int) (a0_2 : Int) (l0_3 : List (List Int)) (a0_4 : Bool) (a1 : Int) (a2 : Int) : Option (Int) := (rees_Validate.f k l0_0 a0_1 a0_2 l0_3 a0_4).bind fun t363 => (if t363 = 0 then (if a1 < 0 then (some (-1)) else ((rees_size.f l0_0 a0_1 a0_2 l0_3 a0_4).bind fun t364 => (if a1 ≥ t364 then (some (-1)) else (if a2 < 0 then (some (-1)) else ((rees_size.f l0_0 a0_1 a0_2 l0_3 a0_4).bind fun t365 => (if a2 ≥ t365 then (some (-1)) else ((rees_mul.f k l0_0 a0_1 a0_2 l0_3 a0_4 a1 a2).bind fun t366 => (some t366)))))))) else (some (-1)))
theorem rees_Mul.mono : ∀ a0 a1 a2 a3 a4 a5 a6 k, LeO (rees_Mul.f k a0 a1 a2 a3 a4 a5 a6) (rees_Mul.f (k + 1) a0 a1 a2 a3 a4 a5 a6) := by
 intro a0 a1 a2 a3 a4 a5 a6 k
 unfold rees_Mul.f
 repeat' first
   | (with_reducible exact rees_Validate.mono _ _ _ _ _ _)
   | (with_reducible exact rees_mul.mono _ _ _ _ _ _ _ _)
   | (with_reducible exact LeO.refl _)
   | (with_reducible exact LeO.none _)
   | (with_reducible refine LeO.ite ?_ ?_)
   | (with_reducible refine LeO.bind ?_ (fun _ => ?_))
   | exact rees_Validate.mono _ _ _ _ _ _
   | exact rees_mul.mono _ _ _ _ _ _ _ _
   | exact LeO.none _
   | refine LeO.ite ?_ ?_
   | refine LeO.bind ?_ (fun _ => ?_)
set_option maxHeartbeats 8000000 in
set_option maxRecDepth 100000 in
theorem rees_Mul.calls (k : Nat) (A0_0 : Option Addr) (c0_0 : Nat) (l0_0 : List (List Int)) (a0_1 : Int) (a0_2 : Int) (A0_3 : Option Addr) (c0_3 : Nat) (l0_3 : List (List Int)) (a0_4 : Bool) (a1 : Int) (a2 : Int) (r : Int) (w : World) (hr0_0 : Kd.C (Kd.slice 3 (Kd.int .i64)) w A0_0 l0_0.length l0_0) (hc0_0 : l0_0.length ≤ c0_0) (hr0_3 : Kd.C (Kd.slice 3 (Kd.int .i64)) w A0_3 l0_3.length l0_3) (hc0_3 : l0_3.length ≤ c0_3) (h : rees_Mul.f k l0_0 a0_1 a0_2 l0_3 a0_4 a1 a2 = some r) :
  Calls Try.prog 26 #[.agg #[.slice A0_0 l0_0.length c0_0, .int .i64 a0_1, .int .i64 a0_2, .slice A0_3 l0_3.length c0_3, .bool a0_4], .int .i64 a1, .int .i64 a2] w fun e w' => e = .returned (.int .i64 r) ∧ Below w.heap.size w w' := by
 have hu24 := Try.underlying24
 have HR0_0 := Aside0.mk hr0_0
 have HC0_0 := Aside0.mk hc0_0
 (try clear hr0_0); (try clear hc0_0)
 have HR0_3 := Aside0.mk hr0_3
 have HC0_3 := Aside0.mk hc0_3
 (try clear hr0_3); (try clear hc0_3)
 have HB := Aside0.mk (Below.refl w.heap.size w)
 have H : ((rees_Validate.f k l0_0 a0_1 a0_2 l0_3 a0_4).bind fun t363 => (if t363 = 0 then (if a1 < 0 then (some (-1)) else ((rees_size.f l0_0 a0_1 a0_2 l0_3 a0_4).bind fun t364 => (if a1 ≥ t364 then (some (-1)) else (if a2 < 0 then (some (-1)) else ((rees_size.f l0_0 a0_1 a0_2 l0_3 a0_4).bind fun t365 => (if a2 ≥ t365 then (some (-1)) else ((rees_mul.f k l0_0 a0_1 a0_2 l0_3 a0_4 a1 a2).bind fun t366 => (some t366)))))))) else (some (-1)))) = some r := h
 clear h
 replace H := Option.bind_eq_some_iff.mp H
 obtain ⟨t363, A40, H⟩ := H
 replace H : (if t363 = 0 then (if a1 < 0 then (some (-1)) else ((rees_size.f l0_0 a0_1 a0_2 l0_3 a0_4).bind fun t364 => (if a1 ≥ t364 then (some (-1)) else (if a2 < 0 then (some (-1)) else ((rees_size.f l0_0 a0_1 a0_2 l0_3 a0_4).bind fun t365 => (if a2 ≥ t365 then (some (-1)) else ((rees_mul.f k l0_0 a0_1 a0_2 l0_3 a0_4 a1 a2).bind fun t366 => (some t366)))))))) else (some (-1))) = some r := H
 have A4 := Aside0.mk A40
 clear A40
 by_cases c5 : t363 = 0
 ·rw [if_pos c5] at H
  have c5b0 : (t363 == 0) = true := beq_iff_eq.mpr c5
  have c5b1 : (t363 != 0) = false := bne_eq_false_iff_eq.mpr c5
  clear c5
  by_cases c6 : a1 < 0
  ·rw [if_pos c6] at H
   have c6b0 : decide (a1 < 0) = true := decide_eq_true c6
   clear c6
   obtain rfl := Option.some.inj H
   go_enter Try.func26, Try.ntmps26
   go_wp2_with (first | ((with_reducible refine gate_dst (N := 3) rfl ?_); refine box_event ?hg (N := 3) ?hd (cs := #[.slice A0_0 l0_0.length c0_0, .int .i64 a0_1, .int .i64 a0_2, .slice A0_3 l0_3.length c0_3, .bool a0_4]) (t := 24) ?hr ?_; (case hd => rfl); (case hg => rfl); q_hr; intro gb362 hg w7 hbox hb; have n0_ := Aside0.mk (below_step q_hb hb); have n1_ := Aside0.mk (hbox); have n2_ := Aside0.mk ((by rw [hg]; exact q_bs : w.heap.size ≤ gb362)); have n3_ := Aside0.mk ((by rw [hg]; exact q_bs : w.heap.size ≤ gb362)); clear HB; have HB := n0_; have BK362 := n1_; have GW362 := n2_; have GE362 := n3_; clear n0_ n1_ n2_ n3_; (q_x hb hbox hg); have hcz8_0 : w7.cell? ⟨gb362, 0, none⟩ = some (.slice A0_0 l0_0.length c0_0) := (blk_cell BK362.out 0).trans rfl; have hcz8_1 : w7.cell? ⟨gb362, 1, none⟩ = some (.int .i64 a0_1) := (blk_cell BK362.out 1).trans rfl; have hcz8_2 : w7.cell? ⟨gb362, 2, none⟩ = some (.int .i64 a0_2) := (blk_cell BK362.out 2).trans rfl; have hcz8_3 : w7.cell? ⟨gb362, 3, none⟩ = some (.slice A0_3 l0_3.length c0_3) := (blk_cell BK362.out 3).trans rfl; have hcz8_4 : w7.cell? ⟨gb362, 4, none⟩ = some (.bool a0_4) := (blk_cell BK362.out 4).trans rfl; have hfz8_0 := blk_frozen BK362.out 0; have hfz8_1 := blk_frozen BK362.out 1; have hfz8_2 := blk_frozen BK362.out 2; have hfz8_3 := blk_frozen BK362.out 3; have hfz8_4 := blk_frozen BK362.out 4) | ((with_reducible refine gate_callee (f := 21) rfl ?_); refine goesL_ (some 8) rfl rfl Try.func21 (by kernel_rfl) rfl #[.agg #[.slice A0_0 l0_0.length c0_0, .int .i64 a0_1, .int .i64 a0_2, .slice A0_3 l0_3.length c0_3, .bool a0_4]] rfl q_ml ?_; (with_reducible refine (rees_Validate.calls k _ _ l0_0 a0_1 a0_2 _ _ l0_3 a0_4 t363 _ ?side1 ?side2 ?side3 ?side4 A4.out).mono ?_); (case side1 => q_cc (Kd.C_below HR0_0.out HB.out)); (case side2 => exact HC0_0.out); (case side3 => q_cc (Kd.C_below HR0_3.out HB.out)); (case side4 => exact HC0_3.out); rintro e w9 ⟨rfl, hb⟩; refine ⟨_, rfl, ?_⟩; have n0_ := Aside0.mk (blk_below (g := gb362) (o := .cells #[.slice A0_0 l0_0.length c0_0, .int .i64 a0_1, .int .i64 a0_2, .slice A0_3 l0_3.length c0_3, .bool a0_4] 24 (0, 0)) (by q_bk; exact BK362.out) hb); have n1_ := Aside0.mk (below_step (q_hs GE362.out) hb); clear BK362; clear HB; have BK362 := n0_; have HB := n1_; clear n0_ n1_; (q_x hb hb2 hk); (try clear hi)))
   go_ret
   exact ⟨by first | rfl | q_em | q_en, by repeat (first | (with_reducible first | exact HB.out | apply below_alloc | apply pw_below_drewN | apply below_drew1 | refine below_set ?_ GE362.out) | exact HB.out)⟩
  ·rw [if_neg c6] at H
   have c6b0 : decide (a1 < 0) = false := decide_eq_false c6
   clear c6
   replace H := Option.bind_eq_some_iff.mp H
   obtain ⟨t364, A100, H⟩ := H
   replace H : (if a1 ≥ t364 then (some (-1)) else (if a2 < 0 then (some (-1)) else ((rees_size.f l0_0 a0_1 a0_2 l0_3 a0_4).bind fun t365 => (if a2 ≥ t365 then (some (-1)) else ((rees_mul.f k l0_0 a0_1 a0_2 l0_3 a0_4 a1 a2).bind fun t366 => (some t366)))))) = some r := H
   have A10 := Aside0.mk A100
   clear A100
   by_cases c11 : a1 ≥ t364
   ·rw [if_pos c11] at H
    have c11b0 : decide (t364 ≤ a1) = true := decide_eq_true c11
    clear c11
    obtain rfl := Option.some.inj H
    go_enter Try.func26, Try.ntmps26
    go_wp2_with (first | ((with_reducible refine gate_dst (N := 3) rfl ?_); refine box_event ?hg (N := 3) ?hd (cs := #[.slice A0_0 l0_0.length c0_0, .int .i64 a0_1, .int .i64 a0_2, .slice A0_3 l0_3.length c0_3, .bool a0_4]) (t := 24) ?hr ?_; (case hd => rfl); (case hg => rfl); q_hr; intro gb362 hg w12 hbox hb; have n0_ := Aside0.mk (below_step q_hb hb); have n1_ := Aside0.mk (hbox); have n2_ := Aside0.mk ((by rw [hg]; exact q_bs : w.heap.size ≤ gb362)); have n3_ := Aside0.mk ((by rw [hg]; exact q_bs : w.heap.size ≤ gb362)); clear HB; have HB := n0_; have BK362 := n1_; have GW362 := n2_; have GE362 := n3_; clear n0_ n1_ n2_ n3_; (q_x hb hbox hg); have hcz13_0 : w12.cell? ⟨gb362, 0, none⟩ = some (.slice A0_0 l0_0.length c0_0) := (blk_cell BK362.out 0).trans rfl; have hcz13_1 : w12.cell? ⟨gb362, 1, none⟩ = some (.int .i64 a0_1) := (blk_cell BK362.out 1).trans rfl; have hcz13_2 : w12.cell? ⟨gb362, 2, none⟩ = some (.int .i64 a0_2) := (blk_cell BK362.out 2).trans rfl; have hcz13_3 : w12.cell? ⟨gb362, 3, none⟩ = some (.slice A0_3 l0_3.length c0_3) := (blk_cell BK362.out 3).trans rfl; have hcz13_4 : w12.cell? ⟨gb362, 4, none⟩ = some (.bool a0_4) := (blk_cell BK362.out 4).trans rfl; have hfz13_0 := blk_frozen BK362.out 0; have hfz13_1 := blk_frozen BK362.out 1; have hfz13_2 := blk_frozen BK362.out 2; have hfz13_3 := blk_frozen BK362.out 3; have hfz13_4 := blk_frozen BK362.out 4) | ((with_reducible refine gate_callee (f := 21) rfl ?_); refine goesL_ (some 8) rfl rfl Try.func21 (by kernel_rfl) rfl #[.agg #[.slice A0_0 l0_0.length c0_0, .int .i64 a0_1, .int .i64 a0_2, .slice A0_3 l0_3.length c0_3, .bool a0_4]] rfl q_ml ?_; (with_reducible refine (rees_Validate.calls k _ _ l0_0 a0_1 a0_2 _ _ l0_3 a0_4 t363 _ ?side1 ?side2 ?side3 ?side4 A4.out).mono ?_); (case side1 => q_cc (Kd.C_below HR0_0.out HB.out)); (case side2 => exact HC0_0.out); (case side3 => q_cc (Kd.C_below HR0_3.out HB.out)); (case side4 => exact HC0_3.out); rintro e w14 ⟨rfl, hb⟩; refine ⟨_, rfl, ?_⟩; have n0_ := Aside0.mk (blk_below (g := gb362) (o := .cells #[.slice A0_0 l0_0.length c0_0, .int .i64 a0_1, .int .i64 a0_2, .slice A0_3 l0_3.length c0_3, .bool a0_4] 24 (0, 0)) (by q_bk; exact BK362.out) hb); have n1_ := Aside0.mk (below_step (q_hs GE362.out) hb); clear BK362; clear HB; have BK362 := n0_; have HB := n1_; clear n0_ n1_; (q_x hb hb2 hk hi); have hcz15_0 : w14.cell? ⟨gb362, 0, none⟩ = some (.slice A0_0 l0_0.length c0_0) := (blk_cell BK362.out 0).trans rfl; have hcz15_1 : w14.cell? ⟨gb362, 1, none⟩ = some (.int .i64 a0_1) := (blk_cell BK362.out 1).trans rfl; have hcz15_2 : w14.cell? ⟨gb362, 2, none⟩ = some (.int .i64 a0_2) := (blk_cell BK362.out 2).trans rfl; have hcz15_3 : w14.cell? ⟨gb362, 3, none⟩ = some (.slice A0_3 l0_3.length c0_3) := (blk_cell BK362.out 3).trans rfl; have hcz15_4 : w14.cell? ⟨gb362, 4, none⟩ = some (.bool a0_4) := (blk_cell BK362.out 4).trans rfl; have hfz15_0 := blk_frozen BK362.out 0; have hfz15_1 := blk_frozen BK362.out 1; have hfz15_2 := blk_frozen BK362.out 2; have hfz15_3 := blk_frozen BK362.out 3; have hfz15_4 := blk_frozen BK362.out 4) | (go_at_call 47; (with_reducible refine (rees_size.calls _ _ l0_0 a0_1 a0_2 _ _ l0_3 a0_4 t364 _ ?side1 ?side2 ?side3 ?side4 A10.out).mono ?_); (case side1 => q_cc (Kd.C_below HR0_0.out HB.out)); (case side2 => exact HC0_0.out); (case side3 => q_cc (Kd.C_below HR0_3.out HB.out)); (case side4 => exact HC0_3.out); rintro e w16 ⟨rfl, hb⟩; have n0_ := Aside0.mk (blk_below (g := gb362) (o := .cells #[.slice A0_0 l0_0.length c0_0, .int .i64 a0_1, .int .i64 a0_2, .slice A0_3 l0_3.length c0_3, .bool a0_4] 24 (0, 0)) (by q_bk; exact BK362.out) hb); have n1_ := Aside0.mk (below_step (q_hs GE362.out) hb); clear BK362; clear HB; have BK362 := n0_; have HB := n1_; clear n0_ n1_; (q_x hb hb2 hk); (try clear hi)))
    go_ret
    exact ⟨by first | rfl | q_em | q_en, by repeat (first | (with_reducible first | exact HB.out | apply below_alloc | apply pw_below_drewN | apply below_drew1 | refine below_set ?_ GE362.out) | exact HB.out)⟩
   ·rw [if_neg c11] at H
    have c11b0 : decide (t364 ≤ a1) = false := decide_eq_false c11
    clear c11
    by_cases c17 : a2 < 0
    ·rw [if_pos c17] at H
     have c17b0 : decide (a2 < 0) = true := decide_eq_true c17
     clear c17
     obtain rfl := Option.some.inj H
     go_enter Try.func26, Try.ntmps26
     go_wp2_with (first | ((with_reducible refine gate_dst (N := 3) rfl ?_); refine box_event ?hg (N := 3) ?hd (cs := #[.slice A0_0 l0_0.length c0_0, .int .i64 a0_1, .int .i64 a0_2, .slice A0_3 l0_3.length c0_3, .bool a0_4]) (t := 24) ?hr ?_; (case hd => rfl); (case hg => rfl); q_hr; intro gb362 hg w18 hbox hb; have n0_ := Aside0.mk (below_step q_hb hb); have n1_ := Aside0.mk (hbox); have n2_ := Aside0.mk ((by rw [hg]; exact q_bs : w.heap.size ≤ gb362)); have n3_ := Aside0.mk ((by rw [hg]; exact q_bs : w.heap.size ≤ gb362)); clear HB; have HB := n0_; have BK362 := n1_; have GW362 := n2_; have GE362 := n3_; clear n0_ n1_ n2_ n3_; (q_x hb hbox hg); have hcz19_0 : w18.cell? ⟨gb362, 0, none⟩ = some (.slice A0_0 l0_0.length c0_0) := (blk_cell BK362.out 0).trans rfl; have hcz19_1 : w18.cell? ⟨gb362, 1, none⟩ = some (.int .i64 a0_1) := (blk_cell BK362.out 1).trans rfl; have hcz19_2 : w18.cell? ⟨gb362, 2, none⟩ = some (.int .i64 a0_2) := (blk_cell BK362.out 2).trans rfl; have hcz19_3 : w18.cell? ⟨gb362, 3, none⟩ = some (.slice A0_3 l0_3.length c0_3) := (blk_cell BK362.out 3).trans rfl; have hcz19_4 : w18.cell? ⟨gb362, 4, none⟩ = some (.bool a0_4) := (blk_cell BK362.out 4).trans rfl; have hfz19_0 := blk_frozen BK362.out 0; have hfz19_1 := blk_frozen BK362.out 1; have hfz19_2 := blk_frozen BK362.out 2; have hfz19_3 := blk_frozen BK362.out 3; have hfz19_4 := blk_frozen BK362.out 4) | ((with_reducible refine gate_callee (f := 21) rfl ?_); refine goesL_ (some 8) rfl rfl Try.func21 (by kernel_rfl) rfl #[.agg #[.slice A0_0 l0_0.length c0_0, .int .i64 a0_1, .int .i64 a0_2, .slice A0_3 l0_3.length c0_3, .bool a0_4]] rfl q_ml ?_; (with_reducible refine (rees_Validate.calls k _ _ l0_0 a0_1 a0_2 _ _ l0_3 a0_4 t363 _ ?side1 ?side2 ?side3 ?side4 A4.out).mono ?_); (case side1 => q_cc (Kd.C_below HR0_0.out HB.out)); (case side2 => exact HC0_0.out); (case side3 => q_cc (Kd.C_below HR0_3.out HB.out)); (case side4 => exact HC0_3.out); rintro e w20 ⟨rfl, hb⟩; refine ⟨_, rfl, ?_⟩; have n0_ := Aside0.mk (blk_below (g := gb362) (o := .cells #[.slice A0_0 l0_0.length c0_0, .int .i64 a0_1, .int .i64 a0_2, .slice A0_3 l0_3.length c0_3, .bool a0_4] 24 (0, 0)) (by q_bk; exact BK362.out) hb); have n1_ := Aside0.mk (below_step (q_hs GE362.out) hb); clear BK362; clear HB; have BK362 := n0_; have HB := n1_; clear n0_ n1_; (q_x hb hb2 hk hi); have hcz21_0 : w20.cell? ⟨gb362, 0, none⟩ = some (.slice A0_0 l0_0.length c0_0) := (blk_cell BK362.out 0).trans rfl; have hcz21_1 : w20.cell? ⟨gb362, 1, none⟩ = some (.int .i64 a0_1) := (blk_cell BK362.out 1).trans rfl; have hcz21_2 : w20.cell? ⟨gb362, 2, none⟩ = some (.int .i64 a0_2) := (blk_cell BK362.out 2).trans rfl; have hcz21_3 : w20.cell? ⟨gb362, 3, none⟩ = some (.slice A0_3 l0_3.length c0_3) := (blk_cell BK362.out 3).trans rfl; have hcz21_4 : w20.cell? ⟨gb362, 4, none⟩ = some (.bool a0_4) := (blk_cell BK362.out 4).trans rfl; have hfz21_0 := blk_frozen BK362.out 0; have hfz21_1 := blk_frozen BK362.out 1; have hfz21_2 := blk_frozen BK362.out 2; have hfz21_3 := blk_frozen BK362.out 3; have hfz21_4 := blk_frozen BK362.out 4) | (go_at_call 47; (with_reducible refine (rees_size.calls _ _ l0_0 a0_1 a0_2 _ _ l0_3 a0_4 t364 _ ?side1 ?side2 ?side3 ?side4 A10.out).mono ?_); (case side1 => q_cc (Kd.C_below HR0_0.out HB.out)); (case side2 => exact HC0_0.out); (case side3 => q_cc (Kd.C_below HR0_3.out HB.out)); (case side4 => exact HC0_3.out); rintro e w22 ⟨rfl, hb⟩; have n0_ := Aside0.mk (blk_below (g := gb362) (o := .cells #[.slice A0_0 l0_0.length c0_0, .int .i64 a0_1, .int .i64 a0_2, .slice A0_3 l0_3.length c0_3, .bool a0_4] 24 (0, 0)) (by q_bk; exact BK362.out) hb); have n1_ := Aside0.mk (below_step (q_hs GE362.out) hb); clear BK362; clear HB; have BK362 := n0_; have HB := n1_; clear n0_ n1_; (q_x hb hb2 hk); (try clear hi)))
     go_ret
     exact ⟨by first | rfl | q_em | q_en, by repeat (first | (with_reducible first | exact HB.out | apply below_alloc | apply pw_below_drewN | apply below_drew1 | refine below_set ?_ GE362.out) | exact HB.out)⟩
    ·rw [if_neg c17] at H
     have c17b0 : decide (a2 < 0) = false := decide_eq_false c17
     clear c17
     replace H := Option.bind_eq_some_iff.mp H
     obtain ⟨t365, A230, H⟩ := H
     replace H : (if a2 ≥ t365 then (some (-1)) else ((rees_mul.f k l0_0 a0_1 a0_2 l0_3 a0_4 a1 a2).bind fun t366 => (some t366))) = some r := H
     have A23 := Aside0.mk A230
     have Et365 := Aside0.mk (Option.some.inj (A23.out.symm.trans A10.out))
     clear A230
     by_cases c24 : a2 ≥ t365
     ·rw [if_pos c24] at H
      have c24b0 : decide (t365 ≤ a2) = true := decide_eq_true c24
      (try (have c24b0y := c24b0; rw [Et365.out] at c24b0y))
      clear c24
      obtain rfl := Option.some.inj H
      go_enter Try.func26, Try.ntmps26
      go_wp2_with (first | ((with_reducible refine gate_dst (N := 3) rfl ?_); refine box_event ?hg (N := 3) ?hd (cs := #[.slice A0_0 l0_0.length c0_0, .int .i64 a0_1, .int .i64 a0_2, .slice A0_3 l0_3.length c0_3, .bool a0_4]) (t := 24) ?hr ?_; (case hd => rfl); (case hg => rfl); q_hr; intro gb362 hg w25 hbox hb; have n0_ := Aside0.mk (below_step q_hb hb); have n1_ := Aside0.mk (hbox); have n2_ := Aside0.mk ((by rw [hg]; exact q_bs : w.heap.size ≤ gb362)); have n3_ := Aside0.mk ((by rw [hg]; exact q_bs : w.heap.size ≤ gb362)); clear HB; have HB := n0_; have BK362 := n1_; have GW362 := n2_; have GE362 := n3_; clear n0_ n1_ n2_ n3_; (q_x hb hbox hg); have hcz26_0 : w25.cell? ⟨gb362, 0, none⟩ = some (.slice A0_0 l0_0.length c0_0) := (blk_cell BK362.out 0).trans rfl; have hcz26_1 : w25.cell? ⟨gb362, 1, none⟩ = some (.int .i64 a0_1) := (blk_cell BK362.out 1).trans rfl; have hcz26_2 : w25.cell? ⟨gb362, 2, none⟩ = some (.int .i64 a0_2) := (blk_cell BK362.out 2).trans rfl; have hcz26_3 : w25.cell? ⟨gb362, 3, none⟩ = some (.slice A0_3 l0_3.length c0_3) := (blk_cell BK362.out 3).trans rfl; have hcz26_4 : w25.cell? ⟨gb362, 4, none⟩ = some (.bool a0_4) := (blk_cell BK362.out 4).trans rfl; have hfz26_0 := blk_frozen BK362.out 0; have hfz26_1 := blk_frozen BK362.out 1; have hfz26_2 := blk_frozen BK362.out 2; have hfz26_3 := blk_frozen BK362.out 3; have hfz26_4 := blk_frozen BK362.out 4) | ((with_reducible refine gate_callee (f := 21) rfl ?_); refine goesL_ (some 8) rfl rfl Try.func21 (by kernel_rfl) rfl #[.agg #[.slice A0_0 l0_0.length c0_0, .int .i64 a0_1, .int .i64 a0_2, .slice A0_3 l0_3.length c0_3, .bool a0_4]] rfl q_ml ?_; (with_reducible refine (rees_Validate.calls k _ _ l0_0 a0_1 a0_2 _ _ l0_3 a0_4 t363 _ ?side1 ?side2 ?side3 ?side4 A4.out).mono ?_); (case side1 => q_cc (Kd.C_below HR0_0.out HB.out)); (case side2 => exact HC0_0.out); (case side3 => q_cc (Kd.C_below HR0_3.out HB.out)); (case side4 => exact HC0_3.out); rintro e w27 ⟨rfl, hb⟩; refine ⟨_, rfl, ?_⟩; have n0_ := Aside0.mk (blk_below (g := gb362) (o := .cells #[.slice A0_0 l0_0.length c0_0, .int .i64 a0_1, .int .i64 a0_2, .slice A0_3 l0_3.length c0_3, .bool a0_4] 24 (0, 0)) (by q_bk; exact BK362.out) hb); have n1_ := Aside0.mk (below_step (q_hs GE362.out) hb); clear BK362; clear HB; have BK362 := n0_; have HB := n1_; clear n0_ n1_; (q_x hb hb2 hk hi); have hcz28_0 : w27.cell? ⟨gb362, 0, none⟩ = some (.slice A0_0 l0_0.length c0_0) := (blk_cell BK362.out 0).trans rfl; have hcz28_1 : w27.cell? ⟨gb362, 1, none⟩ = some (.int .i64 a0_1) := (blk_cell BK362.out 1).trans rfl; have hcz28_2 : w27.cell? ⟨gb362, 2, none⟩ = some (.int .i64 a0_2) := (blk_cell BK362.out 2).trans rfl; have hcz28_3 : w27.cell? ⟨gb362, 3, none⟩ = some (.slice A0_3 l0_3.length c0_3) := (blk_cell BK362.out 3).trans rfl; have hcz28_4 : w27.cell? ⟨gb362, 4, none⟩ = some (.bool a0_4) := (blk_cell BK362.out 4).trans rfl; have hfz28_0 := blk_frozen BK362.out 0; have hfz28_1 := blk_frozen BK362.out 1; have hfz28_2 := blk_frozen BK362.out 2; have hfz28_3 := blk_frozen BK362.out 3; have hfz28_4 := blk_frozen BK362.out 4) | (go_at_call 47; (with_reducible refine (rees_size.calls _ _ l0_0 a0_1 a0_2 _ _ l0_3 a0_4 t364 _ ?side1 ?side2 ?side3 ?side4 A10.out).mono ?_); (case side1 => q_cc (Kd.C_below HR0_0.out HB.out)); (case side2 => exact HC0_0.out); (case side3 => q_cc (Kd.C_below HR0_3.out HB.out)); (case side4 => exact HC0_3.out); rintro e w29 ⟨rfl, hb⟩; have n0_ := Aside0.mk (blk_below (g := gb362) (o := .cells #[.slice A0_0 l0_0.length c0_0, .int .i64 a0_1, .int .i64 a0_2, .slice A0_3 l0_3.length c0_3, .bool a0_4] 24 (0, 0)) (by q_bk; exact BK362.out) hb); have n1_ := Aside0.mk (below_step (q_hs GE362.out) hb); clear BK362; clear HB; have BK362 := n0_; have HB := n1_; clear n0_ n1_; (q_x hb hb2 hk hi); have hcz30_0 : w29.cell? ⟨gb362, 0, none⟩ = some (.slice A0_0 l0_0.length c0_0) := (blk_cell BK362.out 0).trans rfl; have hcz30_1 : w29.cell? ⟨gb362, 1, none⟩ = some (.int .i64 a0_1) := (blk_cell BK362.out 1).trans rfl; have hcz30_2 : w29.cell? ⟨gb362, 2, none⟩ = some (.int .i64 a0_2) := (blk_cell BK362.out 2).trans rfl; have hcz30_3 : w29.cell? ⟨gb362, 3, none⟩ = some (.slice A0_3 l0_3.length c0_3) := (blk_cell BK362.out 3).trans rfl; have hcz30_4 : w29.cell? ⟨gb362, 4, none⟩ = some (.bool a0_4) := (blk_cell BK362.out 4).trans rfl; have hfz30_0 := blk_frozen BK362.out 0; have hfz30_1 := blk_frozen BK362.out 1; have hfz30_2 := blk_frozen BK362.out 2; have hfz30_3 := blk_frozen BK362.out 3; have hfz30_4 := blk_frozen BK362.out 4) | (go_at_call 47; (with_reducible refine (rees_size.calls _ _ l0_0 a0_1 a0_2 _ _ l0_3 a0_4 t365 _ ?side1 ?side2 ?side3 ?side4 A23.out).mono ?_); (case side1 => q_cc (Kd.C_below HR0_0.out HB.out)); (case side2 => exact HC0_0.out); (case side3 => q_cc (Kd.C_below HR0_3.out HB.out)); (case side4 => exact HC0_3.out); rintro e w31 ⟨rfl, hb⟩; have n0_ := Aside0.mk (blk_below (g := gb362) (o := .cells #[.slice A0_0 l0_0.length c0_0, .int .i64 a0_1, .int .i64 a0_2, .slice A0_3 l0_3.length c0_3, .bool a0_4] 24 (0, 0)) (by q_bk; exact BK362.out) hb); have n1_ := Aside0.mk (below_step (q_hs GE362.out) hb); clear BK362; clear HB; have BK362 := n0_; have HB := n1_; clear n0_ n1_; (q_x hb hb2 hk); (try clear hi)))
      go_ret
      exact ⟨by first | rfl | q_em | q_en, by repeat (first | (with_reducible first | exact HB.out | apply below_alloc | apply pw_below_drewN | apply below_drew1 | refine below_set ?_ GE362.out) | exact HB.out)⟩
     ·rw [if_neg c24] at H
      have c24b0 : decide (t365 ≤ a2) = false := decide_eq_false c24
      (try (have c24b0y := c24b0; rw [Et365.out] at c24b0y))
      clear c24
      replace H := Option.bind_eq_some_iff.mp H
      obtain ⟨t366, A320, H⟩ := H
      replace H : (some t366) = some r := H
      have A32 := Aside0.mk A320
      clear A320
      obtain rfl := Option.some.inj H
      go_enter Try.func26, Try.ntmps26
      go_wp2_with (first | ((with_reducible refine gate_dst (N := 3) rfl ?_); refine box_event ?hg (N := 3) ?hd (cs := #[.slice A0_0 l0_0.length c0_0, .int .i64 a0_1, .int .i64 a0_2, .slice A0_3 l0_3.length c0_3, .bool a0_4]) (t := 24) ?hr ?_; (case hd => rfl); (case hg => rfl); q_hr; intro gb362 hg w33 hbox hb; have n0_ := Aside0.mk (below_step q_hb hb); have n1_ := Aside0.mk (hbox); have n2_ := Aside0.mk ((by rw [hg]; exact q_bs : w.heap.size ≤ gb362)); have n3_ := Aside0.mk ((by rw [hg]; exact q_bs : w.heap.size ≤ gb362)); clear HB; have HB := n0_; have BK362 := n1_; have GW362 := n2_; have GE362 := n3_; clear n0_ n1_ n2_ n3_; (q_x hb hbox hg); have hcz34_0 : w33.cell? ⟨gb362, 0, none⟩ = some (.slice A0_0 l0_0.length c0_0) := (blk_cell BK362.out 0).trans rfl; have hcz34_1 : w33.cell? ⟨gb362, 1, none⟩ = some (.int .i64 a0_1) := (blk_cell BK362.out 1).trans rfl; have hcz34_2 : w33.cell? ⟨gb362, 2, none⟩ = some (.int .i64 a0_2) := (blk_cell BK362.out 2).trans rfl; have hcz34_3 : w33.cell? ⟨gb362, 3, none⟩ = some (.slice A0_3 l0_3.length c0_3) := (blk_cell BK362.out 3).trans rfl; have hcz34_4 : w33.cell? ⟨gb362, 4, none⟩ = some (.bool a0_4) := (blk_cell BK362.out 4).trans rfl; have hfz34_0 := blk_frozen BK362.out 0; have hfz34_1 := blk_frozen BK362.out 1; have hfz34_2 := blk_frozen BK362.out 2; have hfz34_3 := blk_frozen BK362.out 3; have hfz34_4 := blk_frozen BK362.out 4) | ((with_reducible refine gate_callee (f := 21) rfl ?_); refine goesL_ (some 8) rfl rfl Try.func21 (by kernel_rfl) rfl #[.agg #[.slice A0_0 l0_0.length c0_0, .int .i64 a0_1, .int .i64 a0_2, .slice A0_3 l0_3.length c0_3, .bool a0_4]] rfl q_ml ?_; (with_reducible refine (rees_Validate.calls k _ _ l0_0 a0_1 a0_2 _ _ l0_3 a0_4 t363 _ ?side1 ?side2 ?side3 ?side4 A4.out).mono ?_); (case side1 => q_cc (Kd.C_below HR0_0.out HB.out)); (case side2 => exact HC0_0.out); (case side3 => q_cc (Kd.C_below HR0_3.out HB.out)); (case side4 => exact HC0_3.out); rintro e w35 ⟨rfl, hb⟩; refine ⟨_, rfl, ?_⟩; have n0_ := Aside0.mk (blk_below (g := gb362) (o := .cells #[.slice A0_0 l0_0.length c0_0, .int .i64 a0_1, .int .i64 a0_2, .slice A0_3 l0_3.length c0_3, .bool a0_4] 24 (0, 0)) (by q_bk; exact BK362.out) hb); have n1_ := Aside0.mk (below_step (q_hs GE362.out) hb); clear BK362; clear HB; have BK362 := n0_; have HB := n1_; clear n0_ n1_; (q_x hb hb2 hk hi); have hcz36_0 : w35.cell? ⟨gb362, 0, none⟩ = some (.slice A0_0 l0_0.length c0_0) := (blk_cell BK362.out 0).trans rfl; have hcz36_1 : w35.cell? ⟨gb362, 1, none⟩ = some (.int .i64 a0_1) := (blk_cell BK362.out 1).trans rfl; have hcz36_2 : w35.cell? ⟨gb362, 2, none⟩ = some (.int .i64 a0_2) := (blk_cell BK362.out 2).trans rfl; have hcz36_3 : w35.cell? ⟨gb362, 3, none⟩ = some (.slice A0_3 l0_3.length c0_3) := (blk_cell BK362.out 3).trans rfl; have hcz36_4 : w35.cell? ⟨gb362, 4, none⟩ = some (.bool a0_4) := (blk_cell BK362.out 4).trans rfl; have hfz36_0 := blk_frozen BK362.out 0; have hfz36_1 := blk_frozen BK362.out 1; have hfz36_2 := blk_frozen BK362.out 2; have hfz36_3 := blk_frozen BK362.out 3; have hfz36_4 := blk_frozen BK362.out 4) | (go_at_call 47; (with_reducible refine (rees_size.calls _ _ l0_0 a0_1 a0_2 _ _ l0_3 a0_4 t364 _ ?side1 ?side2 ?side3 ?side4 A10.out).mono ?_); (case side1 => q_cc (Kd.C_below HR0_0.out HB.out)); (case side2 => exact HC0_0.out); (case side3 => q_cc (Kd.C_below HR0_3.out HB.out)); (case side4 => exact HC0_3.out); rintro e w37 ⟨rfl, hb⟩; have n0_ := Aside0.mk (blk_below (g := gb362) (o := .cells #[.slice A0_0 l0_0.length c0_0, .int .i64 a0_1, .int .i64 a0_2, .slice A0_3 l0_3.length c0_3, .bool a0_4] 24 (0, 0)) (by q_bk; exact BK362.out) hb); have n1_ := Aside0.mk (below_step (q_hs GE362.out) hb); clear BK362; clear HB; have BK362 := n0_; have HB := n1_; clear n0_ n1_; (q_x hb hb2 hk hi); have hcz38_0 : w37.cell? ⟨gb362, 0, none⟩ = some (.slice A0_0 l0_0.length c0_0) := (blk_cell BK362.out 0).trans rfl; have hcz38_1 : w37.cell? ⟨gb362, 1, none⟩ = some (.int .i64 a0_1) := (blk_cell BK362.out 1).trans rfl; have hcz38_2 : w37.cell? ⟨gb362, 2, none⟩ = some (.int .i64 a0_2) := (blk_cell BK362.out 2).trans rfl; have hcz38_3 : w37.cell? ⟨gb362, 3, none⟩ = some (.slice A0_3 l0_3.length c0_3) := (blk_cell BK362.out 3).trans rfl; have hcz38_4 : w37.cell? ⟨gb362, 4, none⟩ = some (.bool a0_4) := (blk_cell BK362.out 4).trans rfl; have hfz38_0 := blk_frozen BK362.out 0; have hfz38_1 := blk_frozen BK362.out 1; have hfz38_2 := blk_frozen BK362.out 2; have hfz38_3 := blk_frozen BK362.out 3; have hfz38_4 := blk_frozen BK362.out 4) | (go_at_call 47; (with_reducible refine (rees_size.calls _ _ l0_0 a0_1 a0_2 _ _ l0_3 a0_4 t365 _ ?side1 ?side2 ?side3 ?side4 A23.out).mono ?_); (case side1 => q_cc (Kd.C_below HR0_0.out HB.out)); (case side2 => exact HC0_0.out); (case side3 => q_cc (Kd.C_below HR0_3.out HB.out)); (case side4 => exact HC0_3.out); rintro e w39 ⟨rfl, hb⟩; have n0_ := Aside0.mk (blk_below (g := gb362) (o := .cells #[.slice A0_0 l0_0.length c0_0, .int .i64 a0_1, .int .i64 a0_2, .slice A0_3 l0_3.length c0_3, .bool a0_4] 24 (0, 0)) (by q_bk; exact BK362.out) hb); have n1_ := Aside0.mk (below_step (q_hs GE362.out) hb); clear BK362; clear HB; have BK362 := n0_; have HB := n1_; clear n0_ n1_; (q_x hb hb2 hk hi); have hcz40_0 : w39.cell? ⟨gb362, 0, none⟩ = some (.slice A0_0 l0_0.length c0_0) := (blk_cell BK362.out 0).trans rfl; have hcz40_1 : w39.cell? ⟨gb362, 1, none⟩ = some (.int .i64 a0_1) := (blk_cell BK362.out 1).trans rfl; have hcz40_2 : w39.cell? ⟨gb362, 2, none⟩ = some (.int .i64 a0_2) := (blk_cell BK362.out 2).trans rfl; have hcz40_3 : w39.cell? ⟨gb362, 3, none⟩ = some (.slice A0_3 l0_3.length c0_3) := (blk_cell BK362.out 3).trans rfl; have hcz40_4 : w39.cell? ⟨gb362, 4, none⟩ = some (.bool a0_4) := (blk_cell BK362.out 4).trans rfl; have hfz40_0 := blk_frozen BK362.out 0; have hfz40_1 := blk_frozen BK362.out 1; have hfz40_2 := blk_frozen BK362.out 2; have hfz40_3 := blk_frozen BK362.out 3; have hfz40_4 := blk_frozen BK362.out 4) | ((with_reducible refine gate_callee (f := 48) rfl ?_); refine goesL_ (some 33) rfl rfl Try.func48 (by kernel_rfl) rfl #[.agg #[.slice A0_0 l0_0.length c0_0, .int .i64 a0_1, .int .i64 a0_2, .slice A0_3 l0_3.length c0_3, .bool a0_4], .int .i64 a1, .int .i64 a2] rfl q_ml ?_; (with_reducible refine (rees_mul.calls k _ _ l0_0 a0_1 a0_2 _ _ l0_3 a0_4 a1 a2 t366 _ ?side1 ?side2 ?side3 ?side4 A32.out).mono ?_); (case side1 => q_cc (Kd.C_below HR0_0.out HB.out)); (case side2 => exact HC0_0.out); (case side3 => q_cc (Kd.C_below HR0_3.out HB.out)); (case side4 => exact HC0_3.out); rintro e w41 ⟨rfl, hb⟩; refine ⟨_, rfl, ?_⟩; have n0_ := Aside0.mk (blk_below (g := gb362) (o := .cells #[.slice A0_0 l0_0.length c0_0, .int .i64 a0_1, .int .i64 a0_2, .slice A0_3 l0_3.length c0_3, .bool a0_4] 24 (0, 0)) (by q_bk; exact BK362.out) hb); have n1_ := Aside0.mk (below_step (q_hs GE362.out) hb); clear BK362; clear HB; have BK362 := n0_; have HB := n1_; clear n0_ n1_; (q_x hb hb2 hk); (try clear hi)))
      go_ret
      exact ⟨by first | rfl | q_em | q_en, by repeat (first | (with_reducible first | exact HB.out | apply below_alloc | apply pw_below_drewN | apply below_drew1 | refine below_set ?_ GE362.out) | exact HB.out)⟩
 ·rw [if_neg c5] at H
  have c5b0 : (t363 == 0) = false := beq_eq_false_iff_ne.mpr c5
  have c5b1 : (t363 != 0) = true := bne_iff_ne.mpr c5
  obtain rfl := Option.some.inj H
  go_enter Try.func26, Try.ntmps26
  go_wp2_with (first | ((with_reducible refine gate_dst (N := 3) rfl ?_); refine box_event ?hg (N := 3) ?hd (cs := #[.slice A0_0 l0_0.length c0_0, .int .i64 a0_1, .int .i64 a0_2, .slice A0_3 l0_3.length c0_3, .bool a0_4]) (t := 24) ?hr ?_; (case hd => rfl); (case hg => rfl); q_hr; intro gb362 hg w42 hbox hb; have n0_ := Aside0.mk (below_step q_hb hb); have n1_ := Aside0.mk (hbox); have n2_ := Aside0.mk ((by rw [hg]; exact q_bs : w.heap.size ≤ gb362)); have n3_ := Aside0.mk ((by rw [hg]; exact q_bs : w.heap.size ≤ gb362)); clear HB; have HB := n0_; have BK362 := n1_; have GW362 := n2_; have GE362 := n3_; clear n0_ n1_ n2_ n3_; (q_x hb hbox hg); have hcz43_0 : w42.cell? ⟨gb362, 0, none⟩ = some (.slice A0_0 l0_0.length c0_0) := (blk_cell BK362.out 0).trans rfl; have hcz43_1 : w42.cell? ⟨gb362, 1, none⟩ = some (.int .i64 a0_1) := (blk_cell BK362.out 1).trans rfl; have hcz43_2 : w42.cell? ⟨gb362, 2, none⟩ = some (.int .i64 a0_2) := (blk_cell BK362.out 2).trans rfl; have hcz43_3 : w42.cell? ⟨gb362, 3, none⟩ = some (.slice A0_3 l0_3.length c0_3) := (blk_cell BK362.out 3).trans rfl; have hcz43_4 : w42.cell? ⟨gb362, 4, none⟩ = some (.bool a0_4) := (blk_cell BK362.out 4).trans rfl; have hfz43_0 := blk_frozen BK362.out 0; have hfz43_1 := blk_frozen BK362.out 1; have hfz43_2 := blk_frozen BK362.out 2; have hfz43_3 := blk_frozen BK362.out 3; have hfz43_4 := blk_frozen BK362.out 4) | ((with_reducible refine gate_callee (f := 21) rfl ?_); refine goesL_ (some 8) rfl rfl Try.func21 (by kernel_rfl) rfl #[.agg #[.slice A0_0 l0_0.length c0_0, .int .i64 a0_1, .int .i64 a0_2, .slice A0_3 l0_3.length c0_3, .bool a0_4]] rfl q_ml ?_; (with_reducible refine (rees_Validate.calls k _ _ l0_0 a0_1 a0_2 _ _ l0_3 a0_4 t363 _ ?side1 ?side2 ?side3 ?side4 A4.out).mono ?_); (case side1 => q_cc (Kd.C_below HR0_0.out HB.out)); (case side2 => exact HC0_0.out); (case side3 => q_cc (Kd.C_below HR0_3.out HB.out)); (case side4 => exact HC0_3.out); rintro e w44 ⟨rfl, hb⟩; refine ⟨_, rfl, ?_⟩; have n0_ := Aside0.mk (blk_below (g := gb362) (o := .cells #[.slice A0_0 l0_0.length c0_0, .int .i64 a0_1, .int .i64 a0_2, .slice A0_3 l0_3.length c0_3, .bool a0_4] 24 (0, 0)) (by q_bk; exact BK362.out) hb); have n1_ := Aside0.mk (below_step (q_hs GE362.out) hb); clear BK362; clear HB; have BK362 := n0_; have HB := n1_; clear n0_ n1_; (q_x hb hb2 hk); (try clear hi)))
  go_ret
  exact ⟨by first | rfl | q_em | q_en, by repeat (first | (with_reducible first | exact HB.out | apply below_alloc | apply pw_below_drewN | apply below_drew1 | refine below_set ?_ GE362.out) | exact HB.out)⟩

/-! ### semigrouplaw17_ReesMultiplies: function 5 -/
def semigrouplaw17_ReesMultiplies.f (k : Nat) (l0_0 : List (List Int)) (a0_1 : Int) (a0_2 : Int) (l0_3 : List (List Int)) (a0_4 : Bool) (a1 : Int) (a2 : Int) (a3 : Int) (a4 : Int) (a5 : Int) : Option (Bool) := (semigrouplaw17_large.f k l0_0 16).bind fun t368 => (if t368 = true then ((semigrouplaw17_awake.f k).bind fun t369 => (some t369)) else ((rees_Number.f k l0_0 a0_1 a0_2 l0_3 a0_4 a1 a2 a3).bind fun t370 => ((rees_Mul.f k l0_0 a0_1 a0_2 l0_3 a0_4 a4 a5).bind fun t371 => ((semigroupref17_Validate.f k l0_0 a0_1 a0_2 l0_3 a0_4).bind fun t372 => (if t372 = 0 then ((semigroupref17_Number.f l0_0 a0_1 a0_2 l0_3 a0_4 a1 a2 a3).bind fun t373 => (if t370 = t373 then ((semigroupref17_Mul.f k l0_0 a0_1 a0_2 l0_3 a0_4 a4 a5).bind fun t374 => (if t371 = t374 then ((semigrouplaw17_awake.f k).bind fun t375 => (some t375)) else (some false))) else (some false))) else (if t370 = (-1) then (if t371 = (-1) then ((semigrouplaw17_awake.f k).bind fun t376 => (some t376)) else (some false)) else (some false)))))))
theorem semigrouplaw17_ReesMultiplies.mono : ∀ a0 a1 a2 a3 a4 a5 a6 a7 a8 a9 k, LeO (semigrouplaw17_ReesMultiplies.f k a0 a1 a2 a3 a4 a5 a6 a7 a8 a9) (semigrouplaw17_ReesMultiplies.f (k + 1) a0 a1 a2 a3 a4 a5 a6 a7 a8 a9) := by
 intro a0 a1 a2 a3 a4 a5 a6 a7 a8 a9 k
 unfold semigrouplaw17_ReesMultiplies.f
 repeat' first
   | (with_reducible exact rees_Mul.mono _ _ _ _ _ _ _ _)
   | (with_reducible exact rees_Number.mono _ _ _ _ _ _ _ _ _)
   | (with_reducible exact semigrouplaw17_awake.mono _)
   | (with_reducible exact semigrouplaw17_large.mono _ _ _)
   | (with_reducible exact semigroupref17_Mul.mono _ _ _ _ _ _ _ _)
   | (with_reducible exact semigroupref17_Validate.mono _ _ _ _ _ _)
   | (with_reducible exact LeO.refl _)
   | (with_reducible exact LeO.none _)
   | (with_reducible refine LeO.ite ?_ ?_)
   | (with_reducible refine LeO.bind ?_ (fun _ => ?_))
   | exact rees_Mul.mono _ _ _ _ _ _ _ _
   | exact rees_Number.mono _ _ _ _ _ _ _ _ _
   | exact semigrouplaw17_awake.mono _
   | exact semigrouplaw17_large.mono _ _ _
   | exact semigroupref17_Mul.mono _ _ _ _ _ _ _ _
   | exact semigroupref17_Validate.mono _ _ _ _ _ _
   | exact LeO.none _
   | refine LeO.ite ?_ ?_
   | refine LeO.bind ?_ (fun _ => ?_)
def semigrouplaw17_ReesMultiplies.T3 : Bool × List (List Nat × List Nat) := (true, [([], []), ([], []), ([], []), ([], []), ([0, 1, 2, 3], [0, 1, 2, 3]), ([], []), ([], []), ([], []), ([5, 6, 7, 4], [5, 6, 7]), ([4, 8, 0, 1, 2, 3, 4], [4]), ([8, 9, 0, 1, 2, 3, 4, 5, 6, 7, 8, 9], [8])])
def semigrouplaw17_ReesMultiplies.B3 : List Nat := [0, 0, 0, 0, 15, 0, 0, 0, 255, 511, 1023]
theorem semigrouplaw17_ReesMultiplies.tab3 : rtab .any (opsOf Try.f5 3) = semigrouplaw17_ReesMultiplies.T3 := by kernel_rfl
theorem semigrouplaw17_ReesMultiplies.bits3 : waitsOk semigrouplaw17_ReesMultiplies.T3.2 semigrouplaw17_ReesMultiplies.B3 = true := by kernel_rfl
set_option maxHeartbeats 8000000 in
set_option maxRecDepth 100000 in
theorem semigrouplaw17_ReesMultiplies.calls (k : Nat) (A0_0 : Option Addr) (c0_0 : Nat) (l0_0 : List (List Int)) (a0_1 : Int) (a0_2 : Int) (A0_3 : Option Addr) (c0_3 : Nat) (l0_3 : List (List Int)) (a0_4 : Bool) (a1 : Int) (a2 : Int) (a3 : Int) (a4 : Int) (a5 : Int) (r : Bool) (w : World) (hr0_0 : Kd.C (Kd.slice 3 (Kd.int .i64)) w A0_0 l0_0.length l0_0) (hc0_0 : l0_0.length ≤ c0_0) (hr0_3 : Kd.C (Kd.slice 3 (Kd.int .i64)) w A0_3 l0_3.length l0_3) (hc0_3 : l0_3.length ≤ c0_3) (h : semigrouplaw17_ReesMultiplies.f k l0_0 a0_1 a0_2 l0_3 a0_4 a1 a2 a3 a4 a5 = some r) :
  Calls Try.prog 5 #[.agg #[.slice A0_0 l0_0.length c0_0, .int .i64 a0_1, .int .i64 a0_2, .slice A0_3 l0_3.length c0_3, .bool a0_4], .int .i64 a1, .int .i64 a2, .int .i64 a3, .int .i64 a4, .int .i64 a5] w fun e w' => e = .returned (.bool r) ∧ Below w.heap.size w w' := by
 have hu24 := Try.underlying24
 have HR0_0 := Aside0.mk hr0_0
 have HC0_0 := Aside0.mk hc0_0
 (try clear hr0_0); (try clear hc0_0)
 have HR0_3 := Aside0.mk hr0_3
 have HC0_3 := Aside0.mk hc0_3
 (try clear hr0_3); (try clear hc0_3)
 have HB := Aside0.mk (Below.refl w.heap.size w)
 have H : ((semigrouplaw17_large.f k l0_0 16).bind fun t368 => (if t368 = true then ((semigrouplaw17_awake.f k).bind fun t369 => (some t369)) else ((rees_Number.f k l0_0 a0_1 a0_2 l0_3 a0_4 a1 a2 a3).bind fun t370 => ((rees_Mul.f k l0_0 a0_1 a0_2 l0_3 a0_4 a4 a5).bind fun t371 => ((semigroupref17_Validate.f k l0_0 a0_1 a0_2 l0_3 a0_4).bind fun t372 => (if t372 = 0 then ((semigroupref17_Number.f l0_0 a0_1 a0_2 l0_3 a0_4 a1 a2 a3).bind fun t373 => (if t370 = t373 then ((semigroupref17_Mul.f k l0_0 a0_1 a0_2 l0_3 a0_4 a4 a5).bind fun t374 => (if t371 = t374 then ((semigrouplaw17_awake.f k).bind fun t375 => (some t375)) else (some false))) else (some false))) else (if t370 = (-1) then (if t371 = (-1) then ((semigrouplaw17_awake.f k).bind fun t376 => (some t376)) else (some false)) else (some false)))))))) = some r := h
 clear h
 replace H := Option.bind_eq_some_iff.mp H
 obtain ⟨t368, A70, H⟩ := H
 replace H : (if t368 = true then ((semigrouplaw17_awake.f k).bind fun t369 => (some t369)) else ((rees_Number.f k l0_0 a0_1 a0_2 l0_3 a0_4 a1 a2 a3).bind fun t370 => ((rees_Mul.f k l0_0 a0_1 a0_2 l0_3 a0_4 a4 a5).bind fun t371 => ((semigroupref17_Validate.f k l0_0 a0_1 a0_2 l0_3 a0_4).bind fun t372 => (if t372 = 0 then ((semigroupref17_Number.f l0_0 a0_1 a0_2 l0_3 a0_4 a1 a2 a3).bind fun t373 => (if t370 = t373 then ((semigroupref17_Mul.f k l0_0 a0_1 a0_2 l0_3 a0_4 a4 a5).bind fun t374 => (if t371 = t374 then ((semigrouplaw17_awake.f k).bind fun t375 => (some t375)) else (some false))) else (some false))) else (if t370 = (-1) then (if t371 = (-1) then ((semigrouplaw17_awake.f k).bind fun t376 => (some t376)) else (some false)) else (some false))))))) = some r := H
 have A7 := Aside0.mk A70
 clear A70
 by_cases c8 : t368 = true
 ·subst c8
  have H1 : ((semigrouplaw17_awake.f k).bind fun t369 => (some t369)) = some r := by rw [if_pos rfl] at H; exact H
  clear H
  have H := H1
  clear H1
  replace H := Option.bind_eq_some_iff.mp H
  obtain ⟨t369, A90, H⟩ := H
  replace H : (some t369) = some r := H
  have A9 := Aside0.mk A90
  clear A90
  obtain rfl := Option.some.inj H
  go_enter Try.func5, Try.ntmps5
  go_wp2_with (first | ((with_reducible refine gate_dst (N := 6) rfl ?_); refine box_event ?hg (N := 6) ?hd (cs := #[.slice A0_0 l0_0.length c0_0, .int .i64 a0_1, .int .i64 a0_2, .slice A0_3 l0_3.length c0_3, .bool a0_4]) (t := 24) ?hr ?_; (case hd => rfl); (case hg => rfl); q_hr; intro gb367 hg w10 hbox hb; have n0_ := Aside0.mk (below_step q_hb hb); have n1_ := Aside0.mk (hbox); have n2_ := Aside0.mk ((by rw [hg]; exact q_bs : w.heap.size ≤ gb367)); have n3_ := Aside0.mk ((by rw [hg]; exact q_bs : w.heap.size ≤ gb367)); clear HB; have HB := n0_; have BK367 := n1_; have GW367 := n2_; have GE367 := n3_; clear n0_ n1_ n2_ n3_; (q_x hb hbox hg); have hcz11_0 : w10.cell? ⟨gb367, 0, none⟩ = some (.slice A0_0 l0_0.length c0_0) := (blk_cell BK367.out 0).trans rfl; have hcz11_1 : w10.cell? ⟨gb367, 1, none⟩ = some (.int .i64 a0_1) := (blk_cell BK367.out 1).trans rfl; have hcz11_2 : w10.cell? ⟨gb367, 2, none⟩ = some (.int .i64 a0_2) := (blk_cell BK367.out 2).trans rfl; have hcz11_3 : w10.cell? ⟨gb367, 3, none⟩ = some (.slice A0_3 l0_3.length c0_3) := (blk_cell BK367.out 3).trans rfl; have hcz11_4 : w10.cell? ⟨gb367, 4, none⟩ = some (.bool a0_4) := (blk_cell BK367.out 4).trans rfl; have hfz11_0 := blk_frozen BK367.out 0; have hfz11_1 := blk_frozen BK367.out 1; have hfz11_2 := blk_frozen BK367.out 2; have hfz11_3 := blk_frozen BK367.out 3; have hfz11_4 := blk_frozen BK367.out 4) | ((with_reducible refine gate_callee (f := 13) rfl ?_); refine goesL_ (some 17) rfl rfl Try.func13 (by kernel_rfl) rfl #[.slice A0_0 l0_0.length c0_0, .int .i64 16] rfl q_ml ?_; (with_reducible refine (semigrouplaw17_large.calls k _ _ l0_0 16 true _ ?side1 ?side2 A7.out).mono ?_); (case side1 => q_cc (Kd.C_below HR0_0.out HB.out)); (case side2 => exact HC0_0.out); rintro e w' ⟨rfl, ⟨nd, rfl⟩⟩; refine ⟨_, rfl, ?_⟩) | ((with_reducible refine gate_callee (f := 14) rfl ?_); refine goesL_ (some 18) rfl rfl Try.func14 (by kernel_rfl) rfl #[] rfl q_ml ?_; (with_reducible refine (semigrouplaw17_awake.calls k  t369 _ A9.out).mono ?_); rintro e w12 ⟨rfl, hb⟩; refine ⟨_, rfl, ?_⟩; have n0_ := Aside0.mk (blk_below (g := gb367) (o := .cells #[.slice A0_0 l0_0.length c0_0, .int .i64 a0_1, .int .i64 a0_2, .slice A0_3 l0_3.length c0_3, .bool a0_4] 24 (0, 0)) (by q_bk; exact BK367.out) hb); have n1_ := Aside0.mk (below_step (q_hs GE367.out) hb); clear BK367; clear HB; have BK367 := n0_; have HB := n1_; clear n0_ n1_; (q_x hb hb2 hk); (try clear hi)))
  go_ret
  exact ⟨by first | rfl | q_em | q_en, by repeat (first | (with_reducible first | exact HB.out | apply below_alloc | apply pw_below_drewN | apply below_drew1 | refine below_set ?_ GE367.out) | exact HB.out)⟩
 ·replace c8 := Bool.eq_false_iff.mpr c8
  subst c8
  have H1 : ((rees_Number.f k l0_0 a0_1 a0_2 l0_3 a0_4 a1 a2 a3).bind fun t370 => ((rees_Mul.f k l0_0 a0_1 a0_2 l0_3 a0_4 a4 a5).bind fun t371 => ((semigroupref17_Validate.f k l0_0 a0_1 a0_2 l0_3 a0_4).bind fun t372 => (if t372 = 0 then ((semigroupref17_Number.f l0_0 a0_1 a0_2 l0_3 a0_4 a1 a2 a3).bind fun t373 => (if t370 = t373 then ((semigroupref17_Mul.f k l0_0 a0_1 a0_2 l0_3 a0_4 a4 a5).bind fun t374 => (if t371 = t374 then ((semigrouplaw17_awake.f k).bind fun t375 => (some t375)) else (some false))) else (some false))) else (if t370 = (-1) then (if t371 = (-1) then ((semigrouplaw17_awake.f k).bind fun t376 => (some t376)) else (some false)) else (some false)))))) = some r := by rw [if_neg (show ¬ (false = true) by decide)] at H; exact H
  clear H
  have H := H1
  clear H1
  replace H := Option.bind_eq_some_iff.mp H
  obtain ⟨t370, A130, H⟩ := H
  replace H : ((rees_Mul.f k l0_0 a0_1 a0_2 l0_3 a0_4 a4 a5).bind fun t371 => ((semigroupref17_Validate.f k l0_0 a0_1 a0_2 l0_3 a0_4).bind fun t372 => (if t372 = 0 then ((semigroupref17_Number.f l0_0 a0_1 a0_2 l0_3 a0_4 a1 a2 a3).bind fun t373 => (if t370 = t373 then ((semigroupref17_Mul.f k l0_0 a0_1 a0_2 l0_3 a0_4 a4 a5).bind fun t374 => (if t371 = t374 then ((semigrouplaw17_awake.f k).bind fun t375 => (some t375)) else (some false))) else (some false))) else (if t370 = (-1) then (if t371 = (-1) then ((semigrouplaw17_awake.f k).bind fun t376 => (some t376)) else (some false)) else (some false))))) = some r := H
  have A13 := Aside0.mk A130
  clear A130
  replace H := Option.bind_eq_some_iff.mp H
  obtain ⟨t371, A140, H⟩ := H
  replace H : ((semigroupref17_Validate.f k l0_0 a0_1 a0_2 l0_3 a0_4).bind fun t372 => (if t372 = 0 then ((semigroupref17_Number.f l0_0 a0_1 a0_2 l0_3 a0_4 a1 a2 a3).bind fun t373 => (if t370 = t373 then ((semigroupref17_Mul.f k l0_0 a0_1 a0_2 l0_3 a0_4 a4 a5).bind fun t374 => (if t371 = t374 then ((semigrouplaw17_awake.f k).bind fun t375 => (some t375)) else (some false))) else (some false))) else (if t370 = (-1) then (if t371 = (-1) then ((semigrouplaw17_awake.f k).bind fun t376 => (some t376)) else (some false)) else (some false)))) = some r := H
  have A14 := Aside0.mk A140
  clear A140
  replace H := Option.bind_eq_some_iff.mp H
  obtain ⟨t372, A150, H⟩ := H
  replace H : (if t372 = 0 then ((semigroupref17_Number.f l0_0 a0_1 a0_2 l0_3 a0_4 a1 a2 a3).bind fun t373 => (if t370 = t373 then ((semigroupref17_Mul.f k l0_0 a0_1 a0_2 l0_3 a0_4 a4 a5).bind fun t374 => (if t371 = t374 then ((semigrouplaw17_awake.f k).bind fun t375 => (some t375)) else (some false))) else (some false))) else (if t370 = (-1) then (if t371 = (-1) then ((semigrouplaw17_awake.f k).bind fun t376 => (some t376)) else (some false)) else (some false))) = some r := H
  have A15 := Aside0.mk A150
  clear A150
  by_cases c16 : t372 = 0
  ·rw [if_pos c16] at H
   have c16b0 : (t372 == 0) = true := beq_iff_eq.mpr c16
   have c16b1 : (t372 != 0) = false := bne_eq_false_iff_eq.mpr c16
   clear c16
   replace H := Option.bind_eq_some_iff.mp H
   obtain ⟨t373, A170, H⟩ := H
   replace H : (if t370 = t373 then ((semigroupref17_Mul.f k l0_0 a0_1 a0_2 l0_3 a0_4 a4 a5).bind fun t374 => (if t371 = t374 then ((semigrouplaw17_awake.f k).bind fun t375 => (some t375)) else (some false))) else (some false)) = some r := H
   have A17 := Aside0.mk A170
   clear A170
   by_cases c18 : t370 = t373
   ·rw [if_pos c18] at H
    have c18b0 : (t370 == t373) = true := beq_iff_eq.mpr c18
    have c18b1 : (t370 != t373) = false := bne_eq_false_iff_eq.mpr c18
    clear c18
    replace H := Option.bind_eq_some_iff.mp H
    obtain ⟨t374, A190, H⟩ := H
    replace H : (if t371 = t374 then ((semigrouplaw17_awake.f k).bind fun t375 => (some t375)) else (some false)) = some r := H
    have A19 := Aside0.mk A190
    clear A190
    by_cases c20 : t371 = t374
    ·rw [if_pos c20] at H
     have c20b0 : (t371 == t374) = true := beq_iff_eq.mpr c20
     have c20b1 : (t371 != t374) = false := bne_eq_false_iff_eq.mpr c20
     clear c20
     replace H := Option.bind_eq_some_iff.mp H
     obtain ⟨t375, A210, H⟩ := H
     replace H : (some t375) = some r := H
     have A21 := Aside0.mk A210
     clear A210
     obtain rfl := Option.some.inj H
     go_enter Try.func5, Try.ntmps5
     try go_wp2_with (first | ((with_reducible refine gate_dst (N := 6) rfl ?_); refine box_event ?hg (N := 6) ?hd (cs := #[.slice A0_0 l0_0.length c0_0, .int .i64 a0_1, .int .i64 a0_2, .slice A0_3 l0_3.length c0_3, .bool a0_4]) (t := 24) ?hr ?_; (case hd => rfl); (case hg => rfl); q_hr; intro gb367 hg w22 hbox hb; have n0_ := Aside0.mk (below_step q_hb hb); have n1_ := Aside0.mk (hbox); have n2_ := Aside0.mk ((by rw [hg]; exact q_bs : w.heap.size ≤ gb367)); have n3_ := Aside0.mk ((by rw [hg]; exact q_bs : w.heap.size ≤ gb367)); clear HB; have HB := n0_; have BK367 := n1_; have GW367 := n2_; have GE367 := n3_; clear n0_ n1_ n2_ n3_; (q_x hb hbox hg); have hcz23_0 : w22.cell? ⟨gb367, 0, none⟩ = some (.slice A0_0 l0_0.length c0_0) := (blk_cell BK367.out 0).trans rfl; have hcz23_1 : w22.cell? ⟨gb367, 1, none⟩ = some (.int .i64 a0_1) := (blk_cell BK367.out 1).trans rfl; have hcz23_2 : w22.cell? ⟨gb367, 2, none⟩ = some (.int .i64 a0_2) := (blk_cell BK367.out 2).trans rfl; have hcz23_3 : w22.cell? ⟨gb367, 3, none⟩ = some (.slice A0_3 l0_3.length c0_3) := (blk_cell BK367.out 3).trans rfl; have hcz23_4 : w22.cell? ⟨gb367, 4, none⟩ = some (.bool a0_4) := (blk_cell BK367.out 4).trans rfl; have hfz23_0 := blk_frozen BK367.out 0; have hfz23_1 := blk_frozen BK367.out 1; have hfz23_2 := blk_frozen BK367.out 2; have hfz23_3 := blk_frozen BK367.out 3; have hfz23_4 := blk_frozen BK367.out 4) | ((with_reducible refine gate_callee (f := 13) rfl ?_); refine goesL_ (some 17) rfl rfl Try.func13 (by kernel_rfl) rfl #[.slice A0_0 l0_0.length c0_0, .int .i64 16] rfl q_ml ?_; (with_reducible refine (semigrouplaw17_large.calls k _ _ l0_0 16 false _ ?side1 ?side2 A7.out).mono ?_); (case side1 => q_cc (Kd.C_below HR0_0.out HB.out)); (case side2 => exact HC0_0.out); rintro e w' ⟨rfl, ⟨nd, rfl⟩⟩; refine ⟨_, rfl, ?_⟩))
     (try (rw [drewN_self w22]; generalize hq_ : World.drewN w22 _ = w22; have n0_ : Aside0 (w22.heap[gb367]? = some (.cells #[.slice A0_0 l0_0.length c0_0, .int .i64 a0_1, .int .i64 a0_2, .slice A0_3 l0_3.length c0_3, .bool a0_4] 24 (0, 0))) := ⟨by rw [← hq_]; exact (by q_bk; exact BK367.out)⟩; have n1_ : Aside0 (Below w.heap.size w w22) := ⟨by rw [← hq_]; exact (q_hs GE367.out)⟩; clear BK367 HB hq_; have BK367 := n0_; have HB := n1_; clear n0_ n1_))
     have n0_ := Aside0.mk (blk_drew BK367.out)
     have n1_ := Aside0.mk (below_drew1 HB.out)
     clear HB BK367
     have BK367 := n0_
     have HB := n1_
     clear n0_ n1_
     refine start_ (n := 11) (S := fun w' => w'.cell? ⟨gb367, 0, none⟩ = some (.slice A0_0 l0_0.length c0_0) ∧ w'.cell? ⟨gb367, 1, none⟩ = some (.int .i64 a0_1) ∧ w'.cell? ⟨gb367, 2, none⟩ = some (.int .i64 a0_2) ∧ w'.cell? ⟨gb367, 3, none⟩ = some (.slice A0_3 l0_3.length c0_3) ∧ w'.cell? ⟨gb367, 4, none⟩ = some (.bool a0_4)) (ds := []) #[false, false, false, false, false, false, false, false, false, false, false] (by kernel_rfl) rfl rfl ⟨(blk_cell BK367.out 0).trans rfl, (blk_cell BK367.out 1).trans rfl, (blk_cell BK367.out 2).trans rfl, (blk_cell BK367.out 3).trans rfl, (blk_cell BK367.out 4).trans rfl⟩ (fun hHeld => ?_); refine with_tabW semigrouplaw17_ReesMultiplies.tab3 semigrouplaw17_ReesMultiplies.bits3 (fun HT_ HW_ => ?_)
     generalize w22.drew = w24 at BK367 HB hHeld ⊢
     refine pure_ (i := 1) (N := some 20) (v := ?_) (a' := ?_) #[false, true, false, false, false, false, false, false, false, false, false] rfl rfl q_ho q_id (Or.inl ⟨by rfl, ?_⟩) ?_ ?_
     rotate_left
     ·intro w'
      go_simp
      with_reducible rfl
     rotate_left
     ·q_si
      rfl
     refine pure_ (i := 2) (N := some 21) (v := ?_) (a' := ?_) #[false, true, true, false, false, false, false, false, false, false, false] rfl rfl q_ho q_id (Or.inl ⟨by rfl, ?_⟩) ?_ ?_
     rotate_left
     ·intro w'
      go_simp
      with_reducible rfl
     rotate_left
     ·q_si
      rfl
     refine pure_ (i := 3) (N := some 22) (v := ?_) (a' := ?_) #[false, true, true, true, false, false, false, false, false, false, false] rfl rfl q_ho q_id (Or.inl ⟨by rfl, ?_⟩) ?_ ?_
     rotate_left
     ·intro w'
      go_simp
      with_reducible rfl
     rotate_left
     ·q_si
      rfl
     refine pure_ (i := 6) (N := some 25) (v := ?_) (a' := ?_) #[false, true, true, true, false, false, true, false, false, false, false] rfl rfl q_ho q_id (Or.inl ⟨by rfl, ?_⟩) ?_ ?_
     rotate_left
     ·intro w'
      go_simp
      with_reducible rfl
     rotate_left
     ·q_si
      rfl
     refine pure_ (i := 7) (N := some 26) (v := ?_) (a' := ?_) #[false, true, true, true, false, false, true, true, false, false, false] rfl rfl q_ho q_id (Or.inl ⟨by rfl, ?_⟩) ?_ ?_
     rotate_left
     ·intro w'
      go_simp
      with_reducible rfl
     rotate_left
     ·q_si
      rfl
     refine take_ (i := 0) (N := some 19) (v := ?_) (a' := ?_) #[true, true, true, true, false, false, true, true, false, false, false] rfl rfl q_to q_id (Or.inl ⟨by rfl, ?_⟩) hHeld ?_ ?_
     rotate_left
     ·rintro w' ⟨s0, s1, s2, s3, s4⟩
      go_simp
      with_reducible rfl
     rotate_left
     ·q_si
      rfl
     refine take_ (i := 5) (N := some 24) (v := ?_) (a' := ?_) #[true, true, true, true, false, true, true, true, false, false, false] rfl rfl q_to q_id (Or.inl ⟨by rfl, ?_⟩) hHeld ?_ ?_
     rotate_left
     ·rintro w' ⟨s0, s1, s2, s3, s4⟩
      go_simp
      with_reducible rfl
     rotate_left
     ·q_si
      rfl
     refine one_ (i := 4) (N := some 23) #[true, true, true, true, true, true, true, true, false, false, false] rfl rfl (one_of HT_.out (by kernel_rfl)) (by decide) (fun K hK => ?_)
     refine goes_ Try.func25 (by kernel_rfl) rfl #[.agg #[.slice A0_0 l0_0.length c0_0, .int .i64 a0_1, .int .i64 a0_2, .slice A0_3 l0_3.length c0_3, .bool a0_4], .int .i64 a1, .int .i64 a2, .int .i64 a3] (by rfl) rfl rfl q_ml ?_
     with_reducible refine (rees_Number.calls k _ _ l0_0 a0_1 a0_2 _ _ l0_3 a0_4 a1 a2 a3 t370 _ ?side1 ?side2 ?side3 ?side4 A13.out).mono ?_
     (case side1 => q_cc (Kd.C_below HR0_0.out HB.out))
     (case side2 => exact HC0_0.out)
     (case side3 => q_cc (Kd.C_below HR0_3.out HB.out))
     (case side4 => exact HC0_3.out)
     rintro e w25 ⟨rfl, hb⟩
     refine ⟨_, rfl, ?_⟩
     have n0_ := Aside0.mk (blk_below (g := gb367) (o := .cells #[.slice A0_0 l0_0.length c0_0, .int .i64 a0_1, .int .i64 a0_2, .slice A0_3 l0_3.length c0_3, .bool a0_4] 24 (0, 0)) (by q_bk; exact BK367.out) hb)
     have n1_ := Aside0.mk (below_step (q_hs GE367.out) hb)
     clear HB BK367
     have BK367 := n0_
     have HB := n1_
     clear n0_ n1_
     (try clear hb)
     (try clear hb2)
     (try clear hk)
     (try clear hi)
     refine hK.out _ _ ⟨(blk_cell BK367.out 0).trans rfl, (blk_cell BK367.out 1).trans rfl, (blk_cell BK367.out 2).trans rfl, (blk_cell BK367.out 3).trans rfl, (blk_cell BK367.out 4).trans rfl⟩ (fun hHeld => ?_)
     clear hK K
     refine norm_ (a' := ?_) ?_ ?_
     rotate_left
     ·show Act.put _ (some 23) _ = _
      simp only [Act.put, List.setIfInBounds_toArray, List.set_cons_zero, List.set_cons_succ, i64_w, i32_w]
      rfl
     refine one_ (i := 8) (N := some 27) #[true, true, true, true, true, true, true, true, true, false, false] rfl rfl (one_of HT_.out (by kernel_rfl)) (by decide) (fun K hK => ?_)
     refine goes_ Try.func26 (by kernel_rfl) rfl #[.agg #[.slice A0_0 l0_0.length c0_0, .int .i64 a0_1, .int .i64 a0_2, .slice A0_3 l0_3.length c0_3, .bool a0_4], .int .i64 a4, .int .i64 a5] (by rfl) rfl rfl q_ml ?_
     with_reducible refine (rees_Mul.calls k _ _ l0_0 a0_1 a0_2 _ _ l0_3 a0_4 a4 a5 t371 _ ?side1 ?side2 ?side3 ?side4 A14.out).mono ?_
     (case side1 => q_cc (Kd.C_below HR0_0.out HB.out))
     (case side2 => exact HC0_0.out)
     (case side3 => q_cc (Kd.C_below HR0_3.out HB.out))
     (case side4 => exact HC0_3.out)
     rintro e w26 ⟨rfl, hb⟩
     refine ⟨_, rfl, ?_⟩
     have n0_ := Aside0.mk (blk_below (g := gb367) (o := .cells #[.slice A0_0 l0_0.length c0_0, .int .i64 a0_1, .int .i64 a0_2, .slice A0_3 l0_3.length c0_3, .bool a0_4] 24 (0, 0)) (by q_bk; exact BK367.out) hb)
     have n1_ := Aside0.mk (below_step (q_hs GE367.out) hb)
     clear HB BK367
     have BK367 := n0_
     have HB := n1_
     clear n0_ n1_
     (try clear hb)
     (try clear hb2)
     (try clear hk)
     (try clear hi)
     refine hK.out _ _ ⟨(blk_cell BK367.out 0).trans rfl, (blk_cell BK367.out 1).trans rfl, (blk_cell BK367.out 2).trans rfl, (blk_cell BK367.out 3).trans rfl, (blk_cell BK367.out 4).trans rfl⟩ (fun hHeld => ?_)
     clear hK K
     refine norm_ (a' := ?_) ?_ ?_
     rotate_left
     ·show Act.put _ (some 27) _ = _
      simp only [Act.put, List.setIfInBounds_toArray, List.set_cons_zero, List.set_cons_succ, i64_w, i32_w]
      rfl
     refine pure_ (i := 9) (N := some 13) (v := ?_) (a' := ?_) #[true, true, true, true, true, true, true, true, true, true, false] rfl rfl q_ho q_id (Or.inl ⟨by rfl, ?_⟩) ?_ ?_
     rotate_left
     ·intro w'
      go_simp
      with_reducible rfl
     rotate_left
     ·q_si
      rfl
     refine pure_ (i := 10) (N := some 14) (v := ?_) (a' := ?_) #[true, true, true, true, true, true, true, true, true, true, true] rfl rfl q_ho q_id (Or.inl ⟨by rfl, ?_⟩) ?_ ?_
     rotate_left
     ·intro w'
      go_simp
      with_reducible rfl
     rotate_left
     ·q_si
      rfl
     refine done_ (done_of HT_.out (by kernel_rfl)) ?_
     have hcz27_0 : w26.cell? ⟨gb367, 0, none⟩ = some (.slice A0_0 l0_0.length c0_0) := (blk_cell BK367.out 0).trans rfl
     have hcz27_1 : w26.cell? ⟨gb367, 1, none⟩ = some (.int .i64 a0_1) := (blk_cell BK367.out 1).trans rfl
     have hcz27_2 : w26.cell? ⟨gb367, 2, none⟩ = some (.int .i64 a0_2) := (blk_cell BK367.out 2).trans rfl
     have hcz27_3 : w26.cell? ⟨gb367, 3, none⟩ = some (.slice A0_3 l0_3.length c0_3) := (blk_cell BK367.out 3).trans rfl
     have hcz27_4 : w26.cell? ⟨gb367, 4, none⟩ = some (.bool a0_4) := (blk_cell BK367.out 4).trans rfl
     have hfz27_0 := blk_frozen BK367.out 0
     have hfz27_1 := blk_frozen BK367.out 1
     have hfz27_2 := blk_frozen BK367.out 2
     have hfz27_3 := blk_frozen BK367.out 3
     have hfz27_4 := blk_frozen BK367.out 4
     try go_wp2_with (first | ((with_reducible refine gate_callee (f := 15) rfl ?_); refine goesL_ (some 29) rfl rfl Try.func15 (by kernel_rfl) rfl #[.agg #[.slice A0_0 l0_0.length c0_0, .int .i64 a0_1, .int .i64 a0_2, .slice A0_3 l0_3.length c0_3, .bool a0_4]] rfl q_ml ?_; (with_reducible refine (semigroupref17_Validate.calls k _ _ l0_0 a0_1 a0_2 _ _ l0_3 a0_4 t372 _ ?side1 ?side2 ?side3 ?side4 A15.out).mono ?_); (case side1 => q_cc (Kd.C_below HR0_0.out HB.out)); (case side2 => exact HC0_0.out); (case side3 => q_cc (Kd.C_below HR0_3.out HB.out)); (case side4 => exact HC0_3.out); rintro e w28 ⟨rfl, hb⟩; refine ⟨_, rfl, ?_⟩; have n0_ := Aside0.mk (blk_below (g := gb367) (o := .cells #[.slice A0_0 l0_0.length c0_0, .int .i64 a0_1, .int .i64 a0_2, .slice A0_3 l0_3.length c0_3, .bool a0_4] 24 (0, 0)) (by q_bk; exact BK367.out) hb); have n1_ := Aside0.mk (below_step (q_hs GE367.out) hb); clear BK367; clear HB; have BK367 := n0_; have HB := n1_; clear n0_ n1_; (q_x hb hb2 hk hi); have hcz29_0 : w28.cell? ⟨gb367, 0, none⟩ = some (.slice A0_0 l0_0.length c0_0) := (blk_cell BK367.out 0).trans rfl; have hcz29_1 : w28.cell? ⟨gb367, 1, none⟩ = some (.int .i64 a0_1) := (blk_cell BK367.out 1).trans rfl; have hcz29_2 : w28.cell? ⟨gb367, 2, none⟩ = some (.int .i64 a0_2) := (blk_cell BK367.out 2).trans rfl; have hcz29_3 : w28.cell? ⟨gb367, 3, none⟩ = some (.slice A0_3 l0_3.length c0_3) := (blk_cell BK367.out 3).trans rfl; have hcz29_4 : w28.cell? ⟨gb367, 4, none⟩ = some (.bool a0_4) := (blk_cell BK367.out 4).trans rfl; have hfz29_0 := blk_frozen BK367.out 0; have hfz29_1 := blk_frozen BK367.out 1; have hfz29_2 := blk_frozen BK367.out 2; have hfz29_3 := blk_frozen BK367.out 3; have hfz29_4 := blk_frozen BK367.out 4) | ((with_reducible refine gate_callee (f := 27) rfl ?_); refine goesL_ (some 45) rfl rfl Try.func27 (by kernel_rfl) rfl #[.agg #[.slice A0_0 l0_0.length c0_0, .int .i64 a0_1, .int .i64 a0_2, .slice A0_3 l0_3.length c0_3, .bool a0_4], .int .i64 a1, .int .i64 a2, .int .i64 a3] rfl q_ml ?_; (with_reducible refine (semigroupref17_Number.calls _ _ l0_0 a0_1 a0_2 _ _ l0_3 a0_4 a1 a2 a3 t373 _ ?side1 ?side2 ?side3 ?side4 A17.out).mono ?_); (case side1 => q_cc (Kd.C_below HR0_0.out HB.out)); (case side2 => exact HC0_0.out); (case side3 => q_cc (Kd.C_below HR0_3.out HB.out)); (case side4 => exact HC0_3.out); rintro e w30 ⟨rfl, hb⟩; refine ⟨_, rfl, ?_⟩; have n0_ := Aside0.mk (blk_below (g := gb367) (o := .cells #[.slice A0_0 l0_0.length c0_0, .int .i64 a0_1, .int .i64 a0_2, .slice A0_3 l0_3.length c0_3, .bool a0_4] 24 (0, 0)) (by q_bk; exact BK367.out) hb); have n1_ := Aside0.mk (below_step (q_hs GE367.out) hb); clear BK367; clear HB; have BK367 := n0_; have HB := n1_; clear n0_ n1_; (q_x hb hb2 hk hi); have hcz31_0 : w30.cell? ⟨gb367, 0, none⟩ = some (.slice A0_0 l0_0.length c0_0) := (blk_cell BK367.out 0).trans rfl; have hcz31_1 : w30.cell? ⟨gb367, 1, none⟩ = some (.int .i64 a0_1) := (blk_cell BK367.out 1).trans rfl; have hcz31_2 : w30.cell? ⟨gb367, 2, none⟩ = some (.int .i64 a0_2) := (blk_cell BK367.out 2).trans rfl; have hcz31_3 : w30.cell? ⟨gb367, 3, none⟩ = some (.slice A0_3 l0_3.length c0_3) := (blk_cell BK367.out 3).trans rfl; have hcz31_4 : w30.cell? ⟨gb367, 4, none⟩ = some (.bool a0_4) := (blk_cell BK367.out 4).trans rfl; have hfz31_0 := blk_frozen BK367.out 0; have hfz31_1 := blk_frozen BK367.out 1; have hfz31_2 := blk_frozen BK367.out 2; have hfz31_3 := blk_frozen BK367.out 3; have hfz31_4 := blk_frozen BK367.out 4) | (go_at_call 28; (with_reducible refine (semigroupref17_Mul.calls k _ _ l0_0 a0_1 a0_2 _ _ l0_3 a0_4 a4 a5 t374 _ ?side1 ?side2 ?side3 ?side4 A19.out).mono ?_); (case side1 => q_cc (Kd.C_below HR0_0.out HB.out)); (case side2 => exact HC0_0.out); (case side3 => q_cc (Kd.C_below HR0_3.out HB.out)); (case side4 => exact HC0_3.out); rintro e w32 ⟨rfl, hb⟩; have n0_ := Aside0.mk (blk_below (g := gb367) (o := .cells #[.slice A0_0 l0_0.length c0_0, .int .i64 a0_1, .int .i64 a0_2, .slice A0_3 l0_3.length c0_3, .bool a0_4] 24 (0, 0)) (by q_bk; exact BK367.out) hb); have n1_ := Aside0.mk (below_step (q_hs GE367.out) hb); clear BK367; clear HB; have BK367 := n0_; have HB := n1_; clear n0_ n1_; (q_x hb hb2 hk); (try clear hi)) | (go_at_call 14; (with_reducible refine (semigrouplaw17_awake.calls k  t375 _ A21.out).mono ?_); rintro e w33 ⟨rfl, hb⟩; have n0_ := Aside0.mk (blk_below (g := gb367) (o := .cells #[.slice A0_0 l0_0.length c0_0, .int .i64 a0_1, .int .i64 a0_2, .slice A0_3 l0_3.length c0_3, .bool a0_4] 24 (0, 0)) (by q_bk; exact BK367.out) hb); have n1_ := Aside0.mk (below_step (q_hs GE367.out) hb); clear BK367; clear HB; have BK367 := n0_; have HB := n1_; clear n0_ n1_; (q_x hb hb2 hk); (try clear hi)))
     go_ret
     exact ⟨by first | rfl | q_em | q_en, by repeat (first | (with_reducible first | exact HB.out | apply below_alloc | apply pw_below_drewN | apply below_drew1 | refine below_set ?_ GE367.out) | exact HB.out)⟩
    ·rw [if_neg c20] at H
     have c20b0 : (t371 == t374) = false := beq_eq_false_iff_ne.mpr c20
     have c20b1 : (t371 != t374) = true := bne_iff_ne.mpr c20
     obtain rfl := Option.some.inj H
     go_enter Try.func5, Try.ntmps5
     try go_wp2_with (first | ((with_reducible refine gate_dst (N := 6) rfl ?_); refine box_event ?hg (N := 6) ?hd (cs := #[.slice A0_0 l0_0.length c0_0, .int .i64 a0_1, .int .i64 a0_2, .slice A0_3 l0_3.length c0_3, .bool a0_4]) (t := 24) ?hr ?_; (case hd => rfl); (case hg => rfl); q_hr; intro gb367 hg w34 hbox hb; have n0_ := Aside0.mk (below_step q_hb hb); have n1_ := Aside0.mk (hbox); have n2_ := Aside0.mk ((by rw [hg]; exact q_bs : w.heap.size ≤ gb367)); have n3_ := Aside0.mk ((by rw [hg]; exact q_bs : w.heap.size ≤ gb367)); clear HB; have HB := n0_; have BK367 := n1_; have GW367 := n2_; have GE367 := n3_; clear n0_ n1_ n2_ n3_; (q_x hb hbox hg); have hcz35_0 : w34.cell? ⟨gb367, 0, none⟩ = some (.slice A0_0 l0_0.length c0_0) := (blk_cell BK367.out 0).trans rfl; have hcz35_1 : w34.cell? ⟨gb367, 1, none⟩ = some (.int .i64 a0_1) := (blk_cell BK367.out 1).trans rfl; have hcz35_2 : w34.cell? ⟨gb367, 2, none⟩ = some (.int .i64 a0_2) := (blk_cell BK367.out 2).trans rfl; have hcz35_3 : w34.cell? ⟨gb367, 3, none⟩ = some (.slice A0_3 l0_3.length c0_3) := (blk_cell BK367.out 3).trans rfl; have hcz35_4 : w34.cell? ⟨gb367, 4, none⟩ = some (.bool a0_4) := (blk_cell BK367.out 4).trans rfl; have hfz35_0 := blk_frozen BK367.out 0; have hfz35_1 := blk_frozen BK367.out 1; have hfz35_2 := blk_frozen BK367.out 2; have hfz35_3 := blk_frozen BK367.out 3; have hfz35_4 := blk_frozen BK367.out 4) | ((with_reducible refine gate_callee (f := 13) rfl ?_); refine goesL_ (some 17) rfl rfl Try.func13 (by kernel_rfl) rfl #[.slice A0_0 l0_0.length c0_0, .int .i64 16] rfl q_ml ?_; (with_reducible refine (semigrouplaw17_large.calls k _ _ l0_0 16 false _ ?side1 ?side2 A7.out).mono ?_); (case side1 => q_cc (Kd.C_below HR0_0.out HB.out)); (case side2 => exact HC0_0.out); rintro e w' ⟨rfl, ⟨nd, rfl⟩⟩; refine ⟨_, rfl, ?_⟩))
     (try (rw [drewN_self w34]; generalize hq_ : World.drewN w34 _ = w34; have n0_ : Aside0 (w34.heap[gb367]? = some (.cells #[.slice A0_0 l0_0.length c0_0, .int .i64 a0_1, .int .i64 a0_2, .slice A0_3 l0_3.length c0_3, .bool a0_4] 24 (0, 0))) := ⟨by rw [← hq_]; exact (by q_bk; exact BK367.out)⟩; have n1_ : Aside0 (Below w.heap.size w w34) := ⟨by rw [← hq_]; exact (q_hs GE367.out)⟩; clear BK367 HB hq_; have BK367 := n0_; have HB := n1_; clear n0_ n1_))
     have n0_ := Aside0.mk (blk_drew BK367.out)
     have n1_ := Aside0.mk (below_drew1 HB.out)
     clear HB BK367
     have BK367 := n0_
     have HB := n1_
     clear n0_ n1_
     refine start_ (n := 11) (S := fun w' => w'.cell? ⟨gb367, 0, none⟩ = some (.slice A0_0 l0_0.length c0_0) ∧ w'.cell? ⟨gb367, 1, none⟩ = some (.int .i64 a0_1) ∧ w'.cell? ⟨gb367, 2, none⟩ = some (.int .i64 a0_2) ∧ w'.cell? ⟨gb367, 3, none⟩ = some (.slice A0_3 l0_3.length c0_3) ∧ w'.cell? ⟨gb367, 4, none⟩ = some (.bool a0_4)) (ds := []) #[false, false, false, false, false, false, false, false, false, false, false] (by kernel_rfl) rfl rfl ⟨(blk_cell BK367.out 0).trans rfl, (blk_cell BK367.out 1).trans rfl, (blk_cell BK367.out 2).trans rfl, (blk_cell BK367.out 3).trans rfl, (blk_cell BK367.out 4).trans rfl⟩ (fun hHeld => ?_); refine with_tabW semigrouplaw17_ReesMultiplies.tab3 semigrouplaw17_ReesMultiplies.bits3 (fun HT_ HW_ => ?_)
     generalize w34.drew = w36 at BK367 HB hHeld ⊢
     refine pure_ (i := 1) (N := some 20) (v := ?_) (a' := ?_) #[false, true, false, false, false, false, false, false, false, false, false] rfl rfl q_ho q_id (Or.inl ⟨by rfl, ?_⟩) ?_ ?_
     rotate_left
     ·intro w'
      go_simp
      with_reducible rfl
     rotate_left
     ·q_si
      rfl
     refine pure_ (i := 2) (N := some 21) (v := ?_) (a' := ?_) #[false, true, true, false, false, false, false, false, false, false, false] rfl rfl q_ho q_id (Or.inl ⟨by rfl, ?_⟩) ?_ ?_
     rotate_left
     ·intro w'
      go_simp
      with_reducible rfl
     rotate_left
     ·q_si
      rfl
     refine pure_ (i := 3) (N := some 22) (v := ?_) (a' := ?_) #[false, true, true, true, false, false, false, false, false, false, false] rfl rfl q_ho q_id (Or.inl ⟨by rfl, ?_⟩) ?_ ?_
     rotate_left
     ·intro w'
      go_simp
      with_reducible rfl
     rotate_left
     ·q_si
      rfl
     refine pure_ (i := 6) (N := some 25) (v := ?_) (a' := ?_) #[false, true, true, true, false, false, true, false, false, false, false] rfl rfl q_ho q_id (Or.inl ⟨by rfl, ?_⟩) ?_ ?_
     rotate_left
     ·intro w'
      go_simp
      with_reducible rfl
     rotate_left
     ·q_si
      rfl
     refine pure_ (i := 7) (N := some 26) (v := ?_) (a' := ?_) #[false, true, true, true, false, false, true, true, false, false, false] rfl rfl q_ho q_id (Or.inl ⟨by rfl, ?_⟩) ?_ ?_
     rotate_left
     ·intro w'
      go_simp
      with_reducible rfl
     rotate_left
     ·q_si
      rfl
     refine take_ (i := 0) (N := some 19) (v := ?_) (a' := ?_) #[true, true, true, true, false, false, true, true, false, false, false] rfl rfl q_to q_id (Or.inl ⟨by rfl, ?_⟩) hHeld ?_ ?_
     rotate_left
     ·rintro w' ⟨s0, s1, s2, s3, s4⟩
      go_simp
      with_reducible rfl
     rotate_left
     ·q_si
      rfl
     refine take_ (i := 5) (N := some 24) (v := ?_) (a' := ?_) #[true, true, true, true, false, true, true, true, false, false, false] rfl rfl q_to q_id (Or.inl ⟨by rfl, ?_⟩) hHeld ?_ ?_
     rotate_left
     ·rintro w' ⟨s0, s1, s2, s3, s4⟩
      go_simp
      with_reducible rfl
     rotate_left
     ·q_si
      rfl
     refine one_ (i := 4) (N := some 23) #[true, true, true, true, true, true, true, true, false, false, false] rfl rfl (one_of HT_.out (by kernel_rfl)) (by decide) (fun K hK => ?_)
     refine goes_ Try.func25 (by kernel_rfl) rfl #[.agg #[.slice A0_0 l0_0.length c0_0, .int .i64 a0_1, .int .i64 a0_2, .slice A0_3 l0_3.length c0_3, .bool a0_4], .int .i64 a1, .int .i64 a2, .int .i64 a3] (by rfl) rfl rfl q_ml ?_
     with_reducible refine (rees_Number.calls k _ _ l0_0 a0_1 a0_2 _ _ l0_3 a0_4 a1 a2 a3 t370 _ ?side1 ?side2 ?side3 ?side4 A13.out).mono ?_
     (case side1 => q_cc (Kd.C_below HR0_0.out HB.out))
     (case side2 => exact HC0_0.out)
     (case side3 => q_cc (Kd.C_below HR0_3.out HB.out))
     (case side4 => exact HC0_3.out)
     rintro e w37 ⟨rfl, hb⟩
     refine ⟨_, rfl, ?_⟩
     have n0_ := Aside0.mk (blk_below (g := gb367) (o := .cells #[.slice A0_0 l0_0.length c0_0, .int .i64 a0_1, .int .i64 a0_2, .slice A0_3 l0_3.length c0_3, .bool a0_4] 24 (0, 0)) (by q_bk; exact BK367.out) hb)
     have n1_ := Aside0.mk (below_step (q_hs GE367.out) hb)
     clear HB BK367
     have BK367 := n0_
     have HB := n1_
     clear n0_ n1_
     (try clear hb)
     (try clear hb2)
     (try clear hk)
     (try clear hi)
     refine hK.out _ _ ⟨(blk_cell BK367.out 0).trans rfl, (blk_cell BK367.out 1).trans rfl, (blk_cell BK367.out 2).trans rfl, (blk_cell BK367.out 3).trans rfl, (blk_cell BK367.out 4).trans rfl⟩ (fun hHeld => ?_)
     clear hK K
     refine norm_ (a' := ?_) ?_ ?_
     rotate_left
     ·show Act.put _ (some 23) _ = _
      simp only [Act.put, List.setIfInBounds_toArray, List.set_cons_zero, List.set_cons_succ, i64_w, i32_w]
      rfl
     refine one_ (i := 8) (N := some 27) #[true, true, true, true, true, true, true, true, true, false, false] rfl rfl (one_of HT_.out (by kernel_rfl)) (by decide) (fun K hK => ?_)
     refine goes_ Try.func26 (by kernel_rfl) rfl #[.agg #[.slice A0_0 l0_0.length c0_0, .int .i64 a0_1, .int .i64 a0_2, .slice A0_3 l0_3.length c0_3, .bool a0_4], .int .i64 a4, .int .i64 a5] (by rfl) rfl rfl q_ml ?_
     with_reducible refine (rees_Mul.calls k _ _ l0_0 a0_1 a0_2 _ _ l0_3 a0_4 a4 a5 t371 _ ?side1 ?side2 ?side3 ?side4 A14.out).mono ?_
     (case side1 => q_cc (Kd.C_below HR0_0.out HB.out))
     (case side2 => exact HC0_0.out)
     (case side3 => q_cc (Kd.C_below HR0_3.out HB.out))
     (case side4 => exact HC0_3.out)
     rintro e w38 ⟨rfl, hb⟩
     refine ⟨_, rfl, ?_⟩
     have n0_ := Aside0.mk (blk_below (g := gb367) (o := .cells #[.slice A0_0 l0_0.length c0_0, .int .i64 a0_1, .int .i64 a0_2, .slice A0_3 l0_3.length c0_3, .bool a0_4] 24 (0, 0)) (by q_bk; exact BK367.out) hb)
     have n1_ := Aside0.mk (below_step (q_hs GE367.out) hb)
     clear HB BK367
     have BK367 := n0_
     have HB := n1_
     clear n0_ n1_
     (try clear hb)
     (try clear hb2)
     (try clear hk)
     (try clear hi)
     refine hK.out _ _ ⟨(blk_cell BK367.out 0).trans rfl, (blk_cell BK367.out 1).trans rfl, (blk_cell BK367.out 2).trans rfl, (blk_cell BK367.out 3).trans rfl, (blk_cell BK367.out 4).trans rfl⟩ (fun hHeld => ?_)
     clear hK K
     refine norm_ (a' := ?_) ?_ ?_
     rotate_left
     ·show Act.put _ (some 27) _ = _
      simp only [Act.put, List.setIfInBounds_toArray, List.set_cons_zero, List.set_cons_succ, i64_w, i32_w]
      rfl
     refine pure_ (i := 9) (N := some 13) (v := ?_) (a' := ?_) #[true, true, true, true, true, true, true, true, true, true, false] rfl rfl q_ho q_id (Or.inl ⟨by rfl, ?_⟩) ?_ ?_
     rotate_left
     ·intro w'
      go_simp
      with_reducible rfl
     rotate_left
     ·q_si
      rfl
     refine pure_ (i := 10) (N := some 14) (v := ?_) (a' := ?_) #[true, true, true, true, true, true, true, true, true, true, true] rfl rfl q_ho q_id (Or.inl ⟨by rfl, ?_⟩) ?_ ?_
     rotate_left
     ·intro w'
      go_simp
      with_reducible rfl
     rotate_left
     ·q_si
      rfl
     refine done_ (done_of HT_.out (by kernel_rfl)) ?_
     have hcz39_0 : w38.cell? ⟨gb367, 0, none⟩ = some (.slice A0_0 l0_0.length c0_0) := (blk_cell BK367.out 0).trans rfl
     have hcz39_1 : w38.cell? ⟨gb367, 1, none⟩ = some (.int .i64 a0_1) := (blk_cell BK367.out 1).trans rfl
     have hcz39_2 : w38.cell? ⟨gb367, 2, none⟩ = some (.int .i64 a0_2) := (blk_cell BK367.out 2).trans rfl
     have hcz39_3 : w38.cell? ⟨gb367, 3, none⟩ = some (.slice A0_3 l0_3.length c0_3) := (blk_cell BK367.out 3).trans rfl
     have hcz39_4 : w38.cell? ⟨gb367, 4, none⟩ = some (.bool a0_4) := (blk_cell BK367.out 4).trans rfl
     have hfz39_0 := blk_frozen BK367.out 0
     have hfz39_1 := blk_frozen BK367.out 1
     have hfz39_2 := blk_frozen BK367.out 2
     have hfz39_3 := blk_frozen BK367.out 3
     have hfz39_4 := blk_frozen BK367.out 4
     try go_wp2_with (first | ((with_reducible refine gate_callee (f := 15) rfl ?_); refine goesL_ (some 29) rfl rfl Try.func15 (by kernel_rfl) rfl #[.agg #[.slice A0_0 l0_0.length c0_0, .int .i64 a0_1, .int .i64 a0_2, .slice A0_3 l0_3.length c0_3, .bool a0_4]] rfl q_ml ?_; (with_reducible refine (semigroupref17_Validate.calls k _ _ l0_0 a0_1 a0_2 _ _ l0_3 a0_4 t372 _ ?side1 ?side2 ?side3 ?side4 A15.out).mono ?_); (case side1 => q_cc (Kd.C_below HR0_0.out HB.out)); (case side2 => exact HC0_0.out); (case side3 => q_cc (Kd.C_below HR0_3.out HB.out)); (case side4 => exact HC0_3.out); rintro e w40 ⟨rfl, hb⟩; refine ⟨_, rfl, ?_⟩; have n0_ := Aside0.mk (blk_below (g := gb367) (o := .cells #[.slice A0_0 l0_0.length c0_0, .int .i64 a0_1, .int .i64 a0_2, .slice A0_3 l0_3.length c0_3, .bool a0_4] 24 (0, 0)) (by q_bk; exact BK367.out) hb); have n1_ := Aside0.mk (below_step (q_hs GE367.out) hb); clear BK367; clear HB; have BK367 := n0_; have HB := n1_; clear n0_ n1_; (q_x hb hb2 hk hi); have hcz41_0 : w40.cell? ⟨gb367, 0, none⟩ = some (.slice A0_0 l0_0.length c0_0) := (blk_cell BK367.out 0).trans rfl; have hcz41_1 : w40.cell? ⟨gb367, 1, none⟩ = some (.int .i64 a0_1) := (blk_cell BK367.out 1).trans rfl; have hcz41_2 : w40.cell? ⟨gb367, 2, none⟩ = some (.int .i64 a0_2) := (blk_cell BK367.out 2).trans rfl; have hcz41_3 : w40.cell? ⟨gb367, 3, none⟩ = some (.slice A0_3 l0_3.length c0_3) := (blk_cell BK367.out 3).trans rfl; have hcz41_4 : w40.cell? ⟨gb367, 4, none⟩ = some (.bool a0_4) := (blk_cell BK367.out 4).trans rfl; have hfz41_0 := blk_frozen BK367.out 0; have hfz41_1 := blk_frozen BK367.out 1; have hfz41_2 := blk_frozen BK367.out 2; have hfz41_3 := blk_frozen BK367.out 3; have hfz41_4 := blk_frozen BK367.out 4) | ((with_reducible refine gate_callee (f := 27) rfl ?_); refine goesL_ (some 45) rfl rfl Try.func27 (by kernel_rfl) rfl #[.agg #[.slice A0_0 l0_0.length c0_0, .int .i64 a0_1, .int .i64 a0_2, .slice A0_3 l0_3.length c0_3, .bool a0_4], .int .i64 a1, .int .i64 a2, .int .i64 a3] rfl q_ml ?_; (with_reducible refine (semigroupref17_Number.calls _ _ l0_0 a0_1 a0_2 _ _ l0_3 a0_4 a1 a2 a3 t373 _ ?side1 ?side2 ?side3 ?side4 A17.out).mono ?_); (case side1 => q_cc (Kd.C_below HR0_0.out HB.out)); (case side2 => exact HC0_0.out); (case side3 => q_cc (Kd.C_below HR0_3.out HB.out)); (case side4 => exact HC0_3.out); rintro e w42 ⟨rfl, hb⟩; refine ⟨_, rfl, ?_⟩; have n0_ := Aside0.mk (blk_below (g := gb367) (o := .cells #[.slice A0_0 l0_0.length c0_0, .int .i64 a0_1, .int .i64 a0_2, .slice A0_3 l0_3.length c0_3, .bool a0_4] 24 (0, 0)) (by q_bk; exact BK367.out) hb); have n1_ := Aside0.mk (below_step (q_hs GE367.out) hb); clear BK367; clear HB; have BK367 := n0_; have HB := n1_; clear n0_ n1_; (q_x hb hb2 hk hi); have hcz43_0 : w42.cell? ⟨gb367, 0, none⟩ = some (.slice A0_0 l0_0.length c0_0) := (blk_cell BK367.out 0).trans rfl; have hcz43_1 : w42.cell? ⟨gb367, 1, none⟩ = some (.int .i64 a0_1) := (blk_cell BK367.out 1).trans rfl; have hcz43_2 : w42.cell? ⟨gb367, 2, none⟩ = some (.int .i64 a0_2) := (blk_cell BK367.out 2).trans rfl; have hcz43_3 : w42.cell? ⟨gb367, 3, none⟩ = some (.slice A0_3 l0_3.length c0_3) := (blk_cell BK367.out 3).trans rfl; have hcz43_4 : w42.cell? ⟨gb367, 4, none⟩ = some (.bool a0_4) := (blk_cell BK367.out 4).trans rfl; have hfz43_0 := blk_frozen BK367.out 0; have hfz43_1 := blk_frozen BK367.out 1; have hfz43_2 := blk_frozen BK367.out 2; have hfz43_3 := blk_frozen BK367.out 3; have hfz43_4 := blk_frozen BK367.out 4) | (go_at_call 28; (with_reducible refine (semigroupref17_Mul.calls k _ _ l0_0 a0_1 a0_2 _ _ l0_3 a0_4 a4 a5 t374 _ ?side1 ?side2 ?side3 ?side4 A19.out).mono ?_); (case side1 => q_cc (Kd.C_below HR0_0.out HB.out)); (case side2 => exact HC0_0.out); (case side3 => q_cc (Kd.C_below HR0_3.out HB.out)); (case side4 => exact HC0_3.out); rintro e w44 ⟨rfl, hb⟩; have n0_ := Aside0.mk (blk_below (g := gb367) (o := .cells #[.slice A0_0 l0_0.length c0_0, .int .i64 a0_1, .int .i64 a0_2, .slice A0_3 l0_3.length c0_3, .bool a0_4] 24 (0, 0)) (by q_bk; exact BK367.out) hb); have n1_ := Aside0.mk (below_step (q_hs GE367.out) hb); clear BK367; clear HB; have BK367 := n0_; have HB := n1_; clear n0_ n1_; (q_x hb hb2 hk); (try clear hi)))
     go_ret
     exact ⟨by first | rfl | q_em | q_en, by repeat (first | (with_reducible first | exact HB.out | apply below_alloc | apply pw_below_drewN | apply below_drew1 | refine below_set ?_ GE367.out) | exact HB.out)⟩
   ·rw [if_neg c18] at H
    have c18b0 : (t370 == t373) = false := beq_eq_false_iff_ne.mpr c18
    have c18b1 : (t370 != t373) = true := bne_iff_ne.mpr c18
    obtain rfl := Option.some.inj H
    go_enter Try.func5, Try.ntmps5
    try go_wp2_with (first | ((with_reducible refine gate_dst (N := 6) rfl ?_); refine box_event ?hg (N := 6) ?hd (cs := #[.slice A0_0 l0_0.length c0_0, .int .i64 a0_1, .int .i64 a0_2, .slice A0_3 l0_3.length c0_3, .bool a0_4]) (t := 24) ?hr ?_; (case hd => rfl); (case hg => rfl); q_hr; intro gb367 hg w45 hbox hb; have n0_ := Aside0.mk (below_step q_hb hb); have n1_ := Aside0.mk (hbox); have n2_ := Aside0.mk ((by rw [hg]; exact q_bs : w.heap.size ≤ gb367)); have n3_ := Aside0.mk ((by rw [hg]; exact q_bs : w.heap.size ≤ gb367)); clear HB; have HB := n0_; have BK367 := n1_; have GW367 := n2_; have GE367 := n3_; clear n0_ n1_ n2_ n3_; (q_x hb hbox hg); have hcz46_0 : w45.cell? ⟨gb367, 0, none⟩ = some (.slice A0_0 l0_0.length c0_0) := (blk_cell BK367.out 0).trans rfl; have hcz46_1 : w45.cell? ⟨gb367, 1, none⟩ = some (.int .i64 a0_1) := (blk_cell BK367.out 1).trans rfl; have hcz46_2 : w45.cell? ⟨gb367, 2, none⟩ = some (.int .i64 a0_2) := (blk_cell BK367.out 2).trans rfl; have hcz46_3 : w45.cell? ⟨gb367, 3, none⟩ = some (.slice A0_3 l0_3.length c0_3) := (blk_cell BK367.out 3).trans rfl; have hcz46_4 : w45.cell? ⟨gb367, 4, none⟩ = some (.bool a0_4) := (blk_cell BK367.out 4).trans rfl; have hfz46_0 := blk_frozen BK367.out 0; have hfz46_1 := blk_frozen BK367.out 1; have hfz46_2 := blk_frozen BK367.out 2; have hfz46_3 := blk_frozen BK367.out 3; have hfz46_4 := blk_frozen BK367.out 4) | ((with_reducible refine gate_callee (f := 13) rfl ?_); refine goesL_ (some 17) rfl rfl Try.func13 (by kernel_rfl) rfl #[.slice A0_0 l0_0.length c0_0, .int .i64 16] rfl q_ml ?_; (with_reducible refine (semigrouplaw17_large.calls k _ _ l0_0 16 false _ ?side1 ?side2 A7.out).mono ?_); (case side1 => q_cc (Kd.C_below HR0_0.out HB.out)); (case side2 => exact HC0_0.out); rintro e w' ⟨rfl, ⟨nd, rfl⟩⟩; refine ⟨_, rfl, ?_⟩))
    (try (rw [drewN_self w45]; generalize hq_ : World.drewN w45 _ = w45; have n0_ : Aside0 (w45.heap[gb367]? = some (.cells #[.slice A0_0 l0_0.length c0_0, .int .i64 a0_1, .int .i64 a0_2, .slice A0_3 l0_3.length c0_3, .bool a0_4] 24 (0, 0))) := ⟨by rw [← hq_]; exact (by q_bk; exact BK367.out)⟩; have n1_ : Aside0 (Below w.heap.size w w45) := ⟨by rw [← hq_]; exact (q_hs GE367.out)⟩; clear BK367 HB hq_; have BK367 := n0_; have HB := n1_; clear n0_ n1_))
    have n0_ := Aside0.mk (blk_drew BK367.out)
    have n1_ := Aside0.mk (below_drew1 HB.out)
    clear HB BK367
    have BK367 := n0_
    have HB := n1_
    clear n0_ n1_
    refine start_ (n := 11) (S := fun w' => w'.cell? ⟨gb367, 0, none⟩ = some (.slice A0_0 l0_0.length c0_0) ∧ w'.cell? ⟨gb367, 1, none⟩ = some (.int .i64 a0_1) ∧ w'.cell? ⟨gb367, 2, none⟩ = some (.int .i64 a0_2) ∧ w'.cell? ⟨gb367, 3, none⟩ = some (.slice A0_3 l0_3.length c0_3) ∧ w'.cell? ⟨gb367, 4, none⟩ = some (.bool a0_4)) (ds := []) #[false, false, false, false, false, false, false, false, false, false, false] (by kernel_rfl) rfl rfl ⟨(blk_cell BK367.out 0).trans rfl, (blk_cell BK367.out 1).trans rfl, (blk_cell BK367.out 2).trans rfl, (blk_cell BK367.out 3).trans rfl, (blk_cell BK367.out 4).trans rfl⟩ (fun hHeld => ?_); refine with_tabW semigrouplaw17_ReesMultiplies.tab3 semigrouplaw17_ReesMultiplies.bits3 (fun HT_ HW_ => ?_)
    generalize w45.drew = w47 at BK367 HB hHeld ⊢
    refine pure_ (i := 1) (N := some 20) (v := ?_) (a' := ?_) #[false, true, false, false, false, false, false, false, false, false, false] rfl rfl q_ho q_id (Or.inl ⟨by rfl, ?_⟩) ?_ ?_
    rotate_left
    ·intro w'
     go_simp
     with_reducible rfl
    rotate_left
    ·q_si
     rfl
    refine pure_ (i := 2) (N := some 21) (v := ?_) (a' := ?_) #[false, true, true, false, false, false, false, false, false, false, false] rfl rfl q_ho q_id (Or.inl ⟨by rfl, ?_⟩) ?_ ?_
    rotate_left
    ·intro w'
     go_simp
     with_reducible rfl
    rotate_left
    ·q_si
     rfl
    refine pure_ (i := 3) (N := some 22) (v := ?_) (a' := ?_) #[false, true, true, true, false, false, false, false, false, false, false] rfl rfl q_ho q_id (Or.inl ⟨by rfl, ?_⟩) ?_ ?_
    rotate_left
    ·intro w'
     go_simp
     with_reducible rfl
    rotate_left
    ·q_si
     rfl
    refine pure_ (i := 6) (N := some 25) (v := ?_) (a' := ?_) #[false, true, true, true, false, false, true, false, false, false, false] rfl rfl q_ho q_id (Or.inl ⟨by rfl, ?_⟩) ?_ ?_
    rotate_left
    ·intro w'
     go_simp
     with_reducible rfl
    rotate_left
    ·q_si
     rfl
    refine pure_ (i := 7) (N := some 26) (v := ?_) (a' := ?_) #[false, true, true, true, false, false, true, true, false, false, false] rfl rfl q_ho q_id (Or.inl ⟨by rfl, ?_⟩) ?_ ?_
    rotate_left
    ·intro w'
     go_simp
     with_reducible rfl
    rotate_left
    ·q_si
     rfl
    refine take_ (i := 0) (N := some 19) (v := ?_) (a' := ?_) #[true, true, true, true, false, false, true, true, false, false, false] rfl rfl q_to q_id (Or.inl ⟨by rfl, ?_⟩) hHeld ?_ ?_
    rotate_left
    ·rintro w' ⟨s0, s1, s2, s3, s4⟩
     go_simp
     with_reducible rfl
    rotate_left
    ·q_si
     rfl
    refine take_ (i := 5) (N := some 24) (v := ?_) (a' := ?_) #[true, true, true, true, false, true, true, true, false, false, false] rfl rfl q_to q_id (Or.inl ⟨by rfl, ?_⟩) hHeld ?_ ?_
    rotate_left
    ·rintro w' ⟨s0, s1, s2, s3, s4⟩
     go_simp
     with_reducible rfl
    rotate_left
    ·q_si
     rfl
    refine one_ (i := 4) (N := some 23) #[true, true, true, true, true, true, true, true, false, false, false] rfl rfl (one_of HT_.out (by kernel_rfl)) (by decide) (fun K hK => ?_)
    refine goes_ Try.func25 (by kernel_rfl) rfl #[.agg #[.slice A0_0 l0_0.length c0_0, .int .i64 a0_1, .int .i64 a0_2, .slice A0_3 l0_3.length c0_3, .bool a0_4], .int .i64 a1, .int .i64 a2, .int .i64 a3] (by rfl) rfl rfl q_ml ?_
    with_reducible refine (rees_Number.calls k _ _ l0_0 a0_1 a0_2 _ _ l0_3 a0_4 a1 a2 a3 t370 _ ?side1 ?side2 ?side3 ?side4 A13.out).mono ?_
    (case side1 => q_cc (Kd.C_below HR0_0.out HB.out))
    (case side2 => exact HC0_0.out)
    (case side3 => q_cc (Kd.C_below HR0_3.out HB.out))
    (case side4 => exact HC0_3.out)
    rintro e w48 ⟨rfl, hb⟩
    refine ⟨_, rfl, ?_⟩
    have n0_ := Aside0.mk (blk_below (g := gb367) (o := .cells #[.slice A0_0 l0_0.length c0_0, .int .i64 a0_1, .int .i64 a0_2, .slice A0_3 l0_3.length c0_3, .bool a0_4] 24 (0, 0)) (by q_bk; exact BK367.out) hb)
    have n1_ := Aside0.mk (below_step (q_hs GE367.out) hb)
    clear HB BK367
    have BK367 := n0_
    have HB := n1_
    clear n0_ n1_
    (try clear hb)
    (try clear hb2)
    (try clear hk)
    (try clear hi)
    refine hK.out _ _ ⟨(blk_cell BK367.out 0).trans rfl, (blk_cell BK367.out 1).trans rfl, (blk_cell BK367.out 2).trans rfl, (blk_cell BK367.out 3).trans rfl, (blk_cell BK367.out 4).trans rfl⟩ (fun hHeld => ?_)
    clear hK K
    refine norm_ (a' := ?_) ?_ ?_
    rotate_left
    ·show Act.put _ (some 23) _ = _
     simp only [Act.put, List.setIfInBounds_toArray, List.set_cons_zero, List.set_cons_succ, i64_w, i32_w]
     rfl
    refine one_ (i := 8) (N := some 27) #[true, true, true, true, true, true, true, true, true, false, false] rfl rfl (one_of HT_.out (by kernel_rfl)) (by decide) (fun K hK => ?_)
    refine goes_ Try.func26 (by kernel_rfl) rfl #[.agg #[.slice A0_0 l0_0.length c0_0, .int .i64 a0_1, .int .i64 a0_2, .slice A0_3 l0_3.length c0_3, .bool a0_4], .int .i64 a4, .int .i64 a5] (by rfl) rfl rfl q_ml ?_
    with_reducible refine (rees_Mul.calls k _ _ l0_0 a0_1 a0_2 _ _ l0_3 a0_4 a4 a5 t371 _ ?side1 ?side2 ?side3 ?side4 A14.out).mono ?_
    (case side1 => q_cc (Kd.C_below HR0_0.out HB.out))
    (case side2 => exact HC0_0.out)
    (case side3 => q_cc (Kd.C_below HR0_3.out HB.out))
    (case side4 => exact HC0_3.out)
    rintro e w49 ⟨rfl, hb⟩
    refine ⟨_, rfl, ?_⟩
    have n0_ := Aside0.mk (blk_below (g := gb367) (o := .cells #[.slice A0_0 l0_0.length c0_0, .int .i64 a0_1, .int .i64 a0_2, .slice A0_3 l0_3.length c0_3, .bool a0_4] 24 (0, 0)) (by q_bk; exact BK367.out) hb)
    have n1_ := Aside0.mk (below_step (q_hs GE367.out) hb)
    clear HB BK367
    have BK367 := n0_
    have HB := n1_
    clear n0_ n1_
    (try clear hb)
    (try clear hb2)
    (try clear hk)
    (try clear hi)
    refine hK.out _ _ ⟨(blk_cell BK367.out 0).trans rfl, (blk_cell BK367.out 1).trans rfl, (blk_cell BK367.out 2).trans rfl, (blk_cell BK367.out 3).trans rfl, (blk_cell BK367.out 4).trans rfl⟩ (fun hHeld => ?_)
    clear hK K
    refine norm_ (a' := ?_) ?_ ?_
    rotate_left
    ·show Act.put _ (some 27) _ = _
     simp only [Act.put, List.setIfInBounds_toArray, List.set_cons_zero, List.set_cons_succ, i64_w, i32_w]
     rfl
    refine pure_ (i := 9) (N := some 13) (v := ?_) (a' := ?_) #[true, true, true, true, true, true, true, true, true, true, false] rfl rfl q_ho q_id (Or.inl ⟨by rfl, ?_⟩) ?_ ?_
    rotate_left
    ·intro w'
     go_simp
     with_reducible rfl
    rotate_left
    ·q_si
     rfl
    refine pure_ (i := 10) (N := some 14) (v := ?_) (a' := ?_) #[true, true, true, true, true, true, true, true, true, true, true] rfl rfl q_ho q_id (Or.inl ⟨by rfl, ?_⟩) ?_ ?_
    rotate_left
    ·intro w'
     go_simp
     with_reducible rfl
    rotate_left
    ·q_si
     rfl
    refine done_ (done_of HT_.out (by kernel_rfl)) ?_
    have hcz50_0 : w49.cell? ⟨gb367, 0, none⟩ = some (.slice A0_0 l0_0.length c0_0) := (blk_cell BK367.out 0).trans rfl
    have hcz50_1 : w49.cell? ⟨gb367, 1, none⟩ = some (.int .i64 a0_1) := (blk_cell BK367.out 1).trans rfl
    have hcz50_2 : w49.cell? ⟨gb367, 2, none⟩ = some (.int .i64 a0_2) := (blk_cell BK367.out 2).trans rfl
    have hcz50_3 : w49.cell? ⟨gb367, 3, none⟩ = some (.slice A0_3 l0_3.length c0_3) := (blk_cell BK367.out 3).trans rfl
    have hcz50_4 : w49.cell? ⟨gb367, 4, none⟩ = some (.bool a0_4) := (blk_cell BK367.out 4).trans rfl
    have hfz50_0 := blk_frozen BK367.out 0
    have hfz50_1 := blk_frozen BK367.out 1
    have hfz50_2 := blk_frozen BK367.out 2
    have hfz50_3 := blk_frozen BK367.out 3
    have hfz50_4 := blk_frozen BK367.out 4
    try go_wp2_with (first | ((with_reducible refine gate_callee (f := 15) rfl ?_); refine goesL_ (some 29) rfl rfl Try.func15 (by kernel_rfl) rfl #[.agg #[.slice A0_0 l0_0.length c0_0, .int .i64 a0_1, .int .i64 a0_2, .slice A0_3 l0_3.length c0_3, .bool a0_4]] rfl q_ml ?_; (with_reducible refine (semigroupref17_Validate.calls k _ _ l0_0 a0_1 a0_2 _ _ l0_3 a0_4 t372 _ ?side1 ?side2 ?side3 ?side4 A15.out).mono ?_); (case side1 => q_cc (Kd.C_below HR0_0.out HB.out)); (case side2 => exact HC0_0.out); (case side3 => q_cc (Kd.C_below HR0_3.out HB.out)); (case side4 => exact HC0_3.out); rintro e w51 ⟨rfl, hb⟩; refine ⟨_, rfl, ?_⟩; have n0_ := Aside0.mk (blk_below (g := gb367) (o := .cells #[.slice A0_0 l0_0.length c0_0, .int .i64 a0_1, .int .i64 a0_2, .slice A0_3 l0_3.length c0_3, .bool a0_4] 24 (0, 0)) (by q_bk; exact BK367.out) hb); have n1_ := Aside0.mk (below_step (q_hs GE367.out) hb); clear BK367; clear HB; have BK367 := n0_; have HB := n1_; clear n0_ n1_; (q_x hb hb2 hk hi); have hcz52_0 : w51.cell? ⟨gb367, 0, none⟩ = some (.slice A0_0 l0_0.length c0_0) := (blk_cell BK367.out 0).trans rfl; have hcz52_1 : w51.cell? ⟨gb367, 1, none⟩ = some (.int .i64 a0_1) := (blk_cell BK367.out 1).trans rfl; have hcz52_2 : w51.cell? ⟨gb367, 2, none⟩ = some (.int .i64 a0_2) := (blk_cell BK367.out 2).trans rfl; have hcz52_3 : w51.cell? ⟨gb367, 3, none⟩ = some (.slice A0_3 l0_3.length c0_3) := (blk_cell BK367.out 3).trans rfl; have hcz52_4 : w51.cell? ⟨gb367, 4, none⟩ = some (.bool a0_4) := (blk_cell BK367.out 4).trans rfl; have hfz52_0 := blk_frozen BK367.out 0; have hfz52_1 := blk_frozen BK367.out 1; have hfz52_2 := blk_frozen BK367.out 2; have hfz52_3 := blk_frozen BK367.out 3; have hfz52_4 := blk_frozen BK367.out 4) | ((with_reducible refine gate_callee (f := 27) rfl ?_); refine goesL_ (some 45) rfl rfl Try.func27 (by kernel_rfl) rfl #[.agg #[.slice A0_0 l0_0.length c0_0, .int .i64 a0_1, .int .i64 a0_2, .slice A0_3 l0_3.length c0_3, .bool a0_4], .int .i64 a1, .int .i64 a2, .int .i64 a3] rfl q_ml ?_; (with_reducible refine (semigroupref17_Number.calls _ _ l0_0 a0_1 a0_2 _ _ l0_3 a0_4 a1 a2 a3 t373 _ ?side1 ?side2 ?side3 ?side4 A17.out).mono ?_); (case side1 => q_cc (Kd.C_below HR0_0.out HB.out)); (case side2 => exact HC0_0.out); (case side3 => q_cc (Kd.C_below HR0_3.out HB.out)); (case side4 => exact HC0_3.out); rintro e w53 ⟨rfl, hb⟩; refine ⟨_, rfl, ?_⟩; have n0_ := Aside0.mk (blk_below (g := gb367) (o := .cells #[.slice A0_0 l0_0.length c0_0, .int .i64 a0_1, .int .i64 a0_2, .slice A0_3 l0_3.length c0_3, .bool a0_4] 24 (0, 0)) (by q_bk; exact BK367.out) hb); have n1_ := Aside0.mk (below_step (q_hs GE367.out) hb); clear BK367; clear HB; have BK367 := n0_; have HB := n1_; clear n0_ n1_; (q_x hb hb2 hk); (try clear hi)))
    go_ret
    exact ⟨by first | rfl | q_em | q_en, by repeat (first | (with_reducible first | exact HB.out | apply below_alloc | apply pw_below_drewN | apply below_drew1 | refine below_set ?_ GE367.out) | exact HB.out)⟩
  ·rw [if_neg c16] at H
   have c16b0 : (t372 == 0) = false := beq_eq_false_iff_ne.mpr c16
   have c16b1 : (t372 != 0) = true := bne_iff_ne.mpr c16
   by_cases c54 : t370 = (-1)
   ·rw [if_pos c54] at H
    have c54b0 : (t370 == (-1)) = true := beq_iff_eq.mpr c54
    have c54b1 : (t370 != (-1)) = false := bne_eq_false_iff_eq.mpr c54
    clear c54
    by_cases c55 : t371 = (-1)
    ·rw [if_pos c55] at H
     have c55b0 : (t371 == (-1)) = true := beq_iff_eq.mpr c55
     have c55b1 : (t371 != (-1)) = false := bne_eq_false_iff_eq.mpr c55
     clear c55
     replace H := Option.bind_eq_some_iff.mp H
     obtain ⟨t376, A560, H⟩ := H
     replace H : (some t376) = some r := H
     have A56 := Aside0.mk A560
     clear A560
     obtain rfl := Option.some.inj H
     go_enter Try.func5, Try.ntmps5
     try go_wp2_with (first | ((with_reducible refine gate_dst (N := 6) rfl ?_); refine box_event ?hg (N := 6) ?hd (cs := #[.slice A0_0 l0_0.length c0_0, .int .i64 a0_1, .int .i64 a0_2, .slice A0_3 l0_3.length c0_3, .bool a0_4]) (t := 24) ?hr ?_; (case hd => rfl); (case hg => rfl); q_hr; intro gb367 hg w57 hbox hb; have n0_ := Aside0.mk (below_step q_hb hb); have n1_ := Aside0.mk (hbox); have n2_ := Aside0.mk ((by rw [hg]; exact q_bs : w.heap.size ≤ gb367)); have n3_ := Aside0.mk ((by rw [hg]; exact q_bs : w.heap.size ≤ gb367)); clear HB; have HB := n0_; have BK367 := n1_; have GW367 := n2_; have GE367 := n3_; clear n0_ n1_ n2_ n3_; (q_x hb hbox hg); have hcz58_0 : w57.cell? ⟨gb367, 0, none⟩ = some (.slice A0_0 l0_0.length c0_0) := (blk_cell BK367.out 0).trans rfl; have hcz58_1 : w57.cell? ⟨gb367, 1, none⟩ = some (.int .i64 a0_1) := (blk_cell BK367.out 1).trans rfl; have hcz58_2 : w57.cell? ⟨gb367, 2, none⟩ = some (.int .i64 a0_2) := (blk_cell BK367.out 2).trans rfl; have hcz58_3 : w57.cell? ⟨gb367, 3, none⟩ = some (.slice A0_3 l0_3.length c0_3) := (blk_cell BK367.out 3).trans rfl; have hcz58_4 : w57.cell? ⟨gb367, 4, none⟩ = some (.bool a0_4) := (blk_cell BK367.out 4).trans rfl; have hfz58_0 := blk_frozen BK367.out 0; have hfz58_1 := blk_frozen BK367.out 1; have hfz58_2 := blk_frozen BK367.out 2; have hfz58_3 := blk_frozen BK367.out 3; have hfz58_4 := blk_frozen BK367.out 4) | ((with_reducible refine gate_callee (f := 13) rfl ?_); refine goesL_ (some 17) rfl rfl Try.func13 (by kernel_rfl) rfl #[.slice A0_0 l0_0.length c0_0, .int .i64 16] rfl q_ml ?_; (with_reducible refine (semigrouplaw17_large.calls k _ _ l0_0 16 false _ ?side1 ?side2 A7.out).mono ?_); (case side1 => q_cc (Kd.C_below HR0_0.out HB.out)); (case side2 => exact HC0_0.out); rintro e w' ⟨rfl, ⟨nd, rfl⟩⟩; refine ⟨_, rfl, ?_⟩))
     (try (rw [drewN_self w57]; generalize hq_ : World.drewN w57 _ = w57; have n0_ : Aside0 (w57.heap[gb367]? = some (.cells #[.slice A0_0 l0_0.length c0_0, .int .i64 a0_1, .int .i64 a0_2, .slice A0_3 l0_3.length c0_3, .bool a0_4] 24 (0, 0))) := ⟨by rw [← hq_]; exact (by q_bk; exact BK367.out)⟩; have n1_ : Aside0 (Below w.heap.size w w57) := ⟨by rw [← hq_]; exact (q_hs GE367.out)⟩; clear BK367 HB hq_; have BK367 := n0_; have HB := n1_; clear n0_ n1_))
     have n0_ := Aside0.mk (blk_drew BK367.out)
     have n1_ := Aside0.mk (below_drew1 HB.out)
     clear HB BK367
     have BK367 := n0_
     have HB := n1_
     clear n0_ n1_
     refine start_ (n := 11) (S := fun w' => w'.cell? ⟨gb367, 0, none⟩ = some (.slice A0_0 l0_0.length c0_0) ∧ w'.cell? ⟨gb367, 1, none⟩ = some (.int .i64 a0_1) ∧ w'.cell? ⟨gb367, 2, none⟩ = some (.int .i64 a0_2) ∧ w'.cell? ⟨gb367, 3, none⟩ = some (.slice A0_3 l0_3.length c0_3) ∧ w'.cell? ⟨gb367, 4, none⟩ = some (.bool a0_4)) (ds := []) #[false, false, false, false, false, false, false, false, false, false, false] (by kernel_rfl) rfl rfl ⟨(blk_cell BK367.out 0).trans rfl, (blk_cell BK367.out 1).trans rfl, (blk_cell BK367.out 2).trans rfl, (blk_cell BK367.out 3).trans rfl, (blk_cell BK367.out 4).trans rfl⟩ (fun hHeld => ?_); refine with_tabW semigrouplaw17_ReesMultiplies.tab3 semigrouplaw17_ReesMultiplies.bits3 (fun HT_ HW_ => ?_)
     generalize w57.drew = w59 at BK367 HB hHeld ⊢
     refine pure_ (i := 1) (N := some 20) (v := ?_) (a' := ?_) #[false, true, false, false, false, false, false, false, false, false, false] rfl rfl q_ho q_id (Or.inl ⟨by rfl, ?_⟩) ?_ ?_
     rotate_left
     ·intro w'
      go_simp
      with_reducible rfl
     rotate_left
     ·q_si
      rfl
     refine pure_ (i := 2) (N := some 21) (v := ?_) (a' := ?_) #[false, true, true, false, false, false, false, false, false, false, false] rfl rfl q_ho q_id (Or.inl ⟨by rfl, ?_⟩) ?_ ?_
     rotate_left
     ·intro w'
      go_simp
      with_reducible rfl
     rotate_left
     ·q_si
      rfl
     refine pure_ (i := 3) (N := some 22) (v := ?_) (a' := ?_) #[false, true, true, true, false, false, false, false, false, false, false] rfl rfl q_ho q_id (Or.inl ⟨by rfl, ?_⟩) ?_ ?_
     rotate_left
     ·intro w'
      go_simp
      with_reducible rfl
     rotate_left
     ·q_si
      rfl
     refine pure_ (i := 6) (N := some 25) (v := ?_) (a' := ?_) #[false, true, true, true, false, false, true, false, false, false, false] rfl rfl q_ho q_id (Or.inl ⟨by rfl, ?_⟩) ?_ ?_
     rotate_left
     ·intro w'
      go_simp
      with_reducible rfl
     rotate_left
     ·q_si
      rfl
     refine pure_ (i := 7) (N := some 26) (v := ?_) (a' := ?_) #[false, true, true, true, false, false, true, true, false, false, false] rfl rfl q_ho q_id (Or.inl ⟨by rfl, ?_⟩) ?_ ?_
     rotate_left
     ·intro w'
      go_simp
      with_reducible rfl
     rotate_left
     ·q_si
      rfl
     refine take_ (i := 0) (N := some 19) (v := ?_) (a' := ?_) #[true, true, true, true, false, false, true, true, false, false, false] rfl rfl q_to q_id (Or.inl ⟨by rfl, ?_⟩) hHeld ?_ ?_
     rotate_left
     ·rintro w' ⟨s0, s1, s2, s3, s4⟩
      go_simp
      with_reducible rfl
     rotate_left
     ·q_si
      rfl
     refine take_ (i := 5) (N := some 24) (v := ?_) (a' := ?_) #[true, true, true, true, false, true, true, true, false, false, false] rfl rfl q_to q_id (Or.inl ⟨by rfl, ?_⟩) hHeld ?_ ?_
     rotate_left
     ·rintro w' ⟨s0, s1, s2, s3, s4⟩
      go_simp
      with_reducible rfl
     rotate_left
     ·q_si
      rfl
     refine one_ (i := 4) (N := some 23) #[true, true, true, true, true, true, true, true, false, false, false] rfl rfl (one_of HT_.out (by kernel_rfl)) (by decide) (fun K hK => ?_)
     refine goes_ Try.func25 (by kernel_rfl) rfl #[.agg #[.slice A0_0 l0_0.length c0_0, .int .i64 a0_1, .int .i64 a0_2, .slice A0_3 l0_3.length c0_3, .bool a0_4], .int .i64 a1, .int .i64 a2, .int .i64 a3] (by rfl) rfl rfl q_ml ?_
     with_reducible refine (rees_Number.calls k _ _ l0_0 a0_1 a0_2 _ _ l0_3 a0_4 a1 a2 a3 t370 _ ?side1 ?side2 ?side3 ?side4 A13.out).mono ?_
     (case side1 => q_cc (Kd.C_below HR0_0.out HB.out))
     (case side2 => exact HC0_0.out)
     (case side3 => q_cc (Kd.C_below HR0_3.out HB.out))
     (case side4 => exact HC0_3.out)
     rintro e w60 ⟨rfl, hb⟩
     refine ⟨_, rfl, ?_⟩
     have n0_ := Aside0.mk (blk_below (g := gb367) (o := .cells #[.slice A0_0 l0_0.length c0_0, .int .i64 a0_1, .int .i64 a0_2, .slice A0_3 l0_3.length c0_3, .bool a0_4] 24 (0, 0)) (by q_bk; exact BK367.out) hb)
     have n1_ := Aside0.mk (below_step (q_hs GE367.out) hb)
     clear HB BK367
     have BK367 := n0_
     have HB := n1_
     clear n0_ n1_
     (try clear hb)
     (try clear hb2)
     (try clear hk)
     (try clear hi)
     refine hK.out _ _ ⟨(blk_cell BK367.out 0).trans rfl, (blk_cell BK367.out 1).trans rfl, (blk_cell BK367.out 2).trans rfl, (blk_cell BK367.out 3).trans rfl, (blk_cell BK367.out 4).trans rfl⟩ (fun hHeld => ?_)
     clear hK K
     refine norm_ (a' := ?_) ?_ ?_
     rotate_left
     ·show Act.put _ (some 23) _ = _
      simp only [Act.put, List.setIfInBounds_toArray, List.set_cons_zero, List.set_cons_succ, i64_w, i32_w]
      rfl
     refine one_ (i := 8) (N := some 27) #[true, true, true, true, true, true, true, true, true, false, false] rfl rfl (one_of HT_.out (by kernel_rfl)) (by decide) (fun K hK => ?_)
     refine goes_ Try.func26 (by kernel_rfl) rfl #[.agg #[.slice A0_0 l0_0.length c0_0, .int .i64 a0_1, .int .i64 a0_2, .slice A0_3 l0_3.length c0_3, .bool a0_4], .int .i64 a4, .int .i64 a5] (by rfl) rfl rfl q_ml ?_
     with_reducible refine (rees_Mul.calls k _ _ l0_0 a0_1 a0_2 _ _ l0_3 a0_4 a4 a5 t371 _ ?side1 ?side2 ?side3 ?side4 A14.out).mono ?_
     (case side1 => q_cc (Kd.C_below HR0_0.out HB.out))
     (case side2 => exact HC0_0.out)
     (case side3 => q_cc (Kd.C_below HR0_3.out HB.out))
     (case side4 => exact HC0_3.out)
     rintro e w61 ⟨rfl, hb⟩
     refine ⟨_, rfl, ?_⟩
     have n0_ := Aside0.mk (blk_below (g := gb367) (o := .cells #[.slice A0_0 l0_0.length c0_0, .int .i64 a0_1, .int .i64 a0_2, .slice A0_3 l0_3.length c0_3, .bool a0_4] 24 (0, 0)) (by q_bk; exact BK367.out) hb)
     have n1_ := Aside0.mk (below_step (q_hs GE367.out) hb)
     clear HB BK367
     have BK367 := n0_
     have HB := n1_
     clear n0_ n1_
     (try clear hb)
     (try clear hb2)
     (try clear hk)
     (try clear hi)
     refine hK.out _ _ ⟨(blk_cell BK367.out 0).trans rfl, (blk_cell BK367.out 1).trans rfl, (blk_cell BK367.out 2).trans rfl, (blk_cell BK367.out 3).trans rfl, (blk_cell BK367.out 4).trans rfl⟩ (fun hHeld => ?_)
     clear hK K
     refine norm_ (a' := ?_) ?_ ?_
     rotate_left
     ·show Act.put _ (some 27) _ = _
      simp only [Act.put, List.setIfInBounds_toArray, List.set_cons_zero, List.set_cons_succ, i64_w, i32_w]
      rfl
     refine pure_ (i := 9) (N := some 13) (v := ?_) (a' := ?_) #[true, true, true, true, true, true, true, true, true, true, false] rfl rfl q_ho q_id (Or.inl ⟨by rfl, ?_⟩) ?_ ?_
     rotate_left
     ·intro w'
      go_simp
      with_reducible rfl
     rotate_left
     ·q_si
      rfl
     refine pure_ (i := 10) (N := some 14) (v := ?_) (a' := ?_) #[true, true, true, true, true, true, true, true, true, true, true] rfl rfl q_ho q_id (Or.inl ⟨by rfl, ?_⟩) ?_ ?_
     rotate_left
     ·intro w'
      go_simp
      with_reducible rfl
     rotate_left
     ·q_si
      rfl
     refine done_ (done_of HT_.out (by kernel_rfl)) ?_
     have hcz62_0 : w61.cell? ⟨gb367, 0, none⟩ = some (.slice A0_0 l0_0.length c0_0) := (blk_cell BK367.out 0).trans rfl
     have hcz62_1 : w61.cell? ⟨gb367, 1, none⟩ = some (.int .i64 a0_1) := (blk_cell BK367.out 1).trans rfl
     have hcz62_2 : w61.cell? ⟨gb367, 2, none⟩ = some (.int .i64 a0_2) := (blk_cell BK367.out 2).trans rfl
     have hcz62_3 : w61.cell? ⟨gb367, 3, none⟩ = some (.slice A0_3 l0_3.length c0_3) := (blk_cell BK367.out 3).trans rfl
     have hcz62_4 : w61.cell? ⟨gb367, 4, none⟩ = some (.bool a0_4) := (blk_cell BK367.out 4).trans rfl
     have hfz62_0 := blk_frozen BK367.out 0
     have hfz62_1 := blk_frozen BK367.out 1
     have hfz62_2 := blk_frozen BK367.out 2
     have hfz62_3 := blk_frozen BK367.out 3
     have hfz62_4 := blk_frozen BK367.out 4
     try go_wp2_with (first | ((with_reducible refine gate_callee (f := 15) rfl ?_); refine goesL_ (some 29) rfl rfl Try.func15 (by kernel_rfl) rfl #[.agg #[.slice A0_0 l0_0.length c0_0, .int .i64 a0_1, .int .i64 a0_2, .slice A0_3 l0_3.length c0_3, .bool a0_4]] rfl q_ml ?_; (with_reducible refine (semigroupref17_Validate.calls k _ _ l0_0 a0_1 a0_2 _ _ l0_3 a0_4 t372 _ ?side1 ?side2 ?side3 ?side4 A15.out).mono ?_); (case side1 => q_cc (Kd.C_below HR0_0.out HB.out)); (case side2 => exact HC0_0.out); (case side3 => q_cc (Kd.C_below HR0_3.out HB.out)); (case side4 => exact HC0_3.out); rintro e w63 ⟨rfl, hb⟩; refine ⟨_, rfl, ?_⟩; have n0_ := Aside0.mk (blk_below (g := gb367) (o := .cells #[.slice A0_0 l0_0.length c0_0, .int .i64 a0_1, .int .i64 a0_2, .slice A0_3 l0_3.length c0_3, .bool a0_4] 24 (0, 0)) (by q_bk; exact BK367.out) hb); have n1_ := Aside0.mk (below_step (q_hs GE367.out) hb); clear BK367; clear HB; have BK367 := n0_; have HB := n1_; clear n0_ n1_; (q_x hb hb2 hk); (try clear hi)) | (go_at_call 14; (with_reducible refine (semigrouplaw17_awake.calls k  t376 _ A56.out).mono ?_); rintro e w64 ⟨rfl, hb⟩; have n0_ := Aside0.mk (blk_below (g := gb367) (o := .cells #[.slice A0_0 l0_0.length c0_0, .int .i64 a0_1, .int .i64 a0_2, .slice A0_3 l0_3.length c0_3, .bool a0_4] 24 (0, 0)) (by q_bk; exact BK367.out) hb); have n1_ := Aside0.mk (below_step (q_hs GE367.out) hb); clear BK367; clear HB; have BK367 := n0_; have HB := n1_; clear n0_ n1_; (q_x hb hb2 hk); (try clear hi)))
     go_ret
     exact ⟨by first | rfl | q_em | q_en, by repeat (first | (with_reducible first | exact HB.out | apply below_alloc | apply pw_below_drewN | apply below_drew1 | refine below_set ?_ GE367.out) | exact HB.out)⟩
    ·rw [if_neg c55] at H
     have c55b0 : (t371 == (-1)) = false := beq_eq_false_iff_ne.mpr c55
     have c55b1 : (t371 != (-1)) = true := bne_iff_ne.mpr c55
     obtain rfl := Option.some.inj H
     go_enter Try.func5, Try.ntmps5
     try go_wp2_with (first | ((with_reducible refine gate_dst (N := 6) rfl ?_); refine box_event ?hg (N := 6) ?hd (cs := #[.slice A0_0 l0_0.length c0_0, .int .i64 a0_1, .int .i64 a0_2, .slice A0_3 l0_3.length c0_3, .bool a0_4]) (t := 24) ?hr ?_; (case hd => rfl); (case hg => rfl); q_hr; intro gb367 hg w65 hbox hb; have n0_ := Aside0.mk (below_step q_hb hb); have n1_ := Aside0.mk (hbox); have n2_ := Aside0.mk ((by rw [hg]; exact q_bs : w.heap.size ≤ gb367)); have n3_ := Aside0.mk ((by rw [hg]; exact q_bs : w.heap.size ≤ gb367)); clear HB; have HB := n0_; have BK367 := n1_; have GW367 := n2_; have GE367 := n3_; clear n0_ n1_ n2_ n3_; (q_x hb hbox hg); have hcz66_0 : w65.cell? ⟨gb367, 0, none⟩ = some (.slice A0_0 l0_0.length c0_0) := (blk_cell BK367.out 0).trans rfl; have hcz66_1 : w65.cell? ⟨gb367, 1, none⟩ = some (.int .i64 a0_1) := (blk_cell BK367.out 1).trans rfl; have hcz66_2 : w65.cell? ⟨gb367, 2, none⟩ = some (.int .i64 a0_2) := (blk_cell BK367.out 2).trans rfl; have hcz66_3 : w65.cell? ⟨gb367, 3, none⟩ = some (.slice A0_3 l0_3.length c0_3) := (blk_cell BK367.out 3).trans rfl; have hcz66_4 : w65.cell? ⟨gb367, 4, none⟩ = some (.bool a0_4) := (blk_cell BK367.out 4).trans rfl; have hfz66_0 := blk_frozen BK367.out 0; have hfz66_1 := blk_frozen BK367.out 1; have hfz66_2 := blk_frozen BK367.out 2; have hfz66_3 := blk_frozen BK367.out 3; have hfz66_4 := blk_frozen BK367.out 4) | ((with_reducible refine gate_callee (f := 13) rfl ?_); refine goesL_ (some 17) rfl rfl Try.func13 (by kernel_rfl) rfl #[.slice A0_0 l0_0.length c0_0, .int .i64 16] rfl q_ml ?_; (with_reducible refine (semigrouplaw17_large.calls k _ _ l0_0 16 false _ ?side1 ?side2 A7.out).mono ?_); (case side1 => q_cc (Kd.C_below HR0_0.out HB.out)); (case side2 => exact HC0_0.out); rintro e w' ⟨rfl, ⟨nd, rfl⟩⟩; refine ⟨_, rfl, ?_⟩))
     (try (rw [drewN_self w65]; generalize hq_ : World.drewN w65 _ = w65; have n0_ : Aside0 (w65.heap[gb367]? = some (.cells #[.slice A0_0 l0_0.length c0_0, .int .i64 a0_1, .int .i64 a0_2, .slice A0_3 l0_3.length c0_3, .bool a0_4] 24 (0, 0))) := ⟨by rw [← hq_]; exact (by q_bk; exact BK367.out)⟩; have n1_ : Aside0 (Below w.heap.size w w65) := ⟨by rw [← hq_]; exact (q_hs GE367.out)⟩; clear BK367 HB hq_; have BK367 := n0_; have HB := n1_; clear n0_ n1_))
     have n0_ := Aside0.mk (blk_drew BK367.out)
     have n1_ := Aside0.mk (below_drew1 HB.out)
     clear HB BK367
     have BK367 := n0_
     have HB := n1_
     clear n0_ n1_
     refine start_ (n := 11) (S := fun w' => w'.cell? ⟨gb367, 0, none⟩ = some (.slice A0_0 l0_0.length c0_0) ∧ w'.cell? ⟨gb367, 1, none⟩ = some (.int .i64 a0_1) ∧ w'.cell? ⟨gb367, 2, none⟩ = some (.int .i64 a0_2) ∧ w'.cell? ⟨gb367, 3, none⟩ = some (.slice A0_3 l0_3.length c0_3) ∧ w'.cell? ⟨gb367, 4, none⟩ = some (.bool a0_4)) (ds := []) #[false, false, false, false, false, false, false, false, false, false, false] (by kernel_rfl) rfl rfl ⟨(blk_cell BK367.out 0).trans rfl, (blk_cell BK367.out 1).trans rfl, (blk_cell BK367.out 2).trans rfl, (blk_cell BK367.out 3).trans rfl, (blk_cell BK367.out 4).trans rfl⟩ (fun hHeld => ?_); refine with_tabW semigrouplaw17_ReesMultiplies.tab3 semigrouplaw17_ReesMultiplies.bits3 (fun HT_ HW_ => ?_)
     generalize w65.drew = w67 at BK367 HB hHeld ⊢
     refine pure_ (i := 1) (N := some 20) (v := ?_) (a' := ?_) #[false, true, false, false, false, false, false, false, false, false, false] rfl rfl q_ho q_id (Or.inl ⟨by rfl, ?_⟩) ?_ ?_
     rotate_left
     ·intro w'
      go_simp
      with_reducible rfl
     rotate_left
     ·q_si
      rfl
     refine pure_ (i := 2) (N := some 21) (v := ?_) (a' := ?_) #[false, true, true, false, false, false, false, false, false, false, false] rfl rfl q_ho q_id (Or.inl ⟨by rfl, ?_⟩) ?_ ?_
     rotate_left
     ·intro w'
      go_simp
      with_reducible rfl
     rotate_left
     ·q_si
      rfl
     refine pure_ (i := 3) (N := some 22) (v := ?_) (a' := ?_) #[false, true, true, true, false, false, false, false, false, false, false] rfl rfl q_ho q_id (Or.inl ⟨by rfl, ?_⟩) ?_ ?_
     rotate_left
     ·intro w'
      go_simp
      with_reducible rfl
     rotate_left
     ·q_si
      rfl
     refine pure_ (i := 6) (N := some 25) (v := ?_) (a' := ?_) #[false, true, true, true, false, false, true, false, false, false, false] rfl rfl q_ho q_id (Or.inl ⟨by rfl, ?_⟩) ?_ ?_
     rotate_left
     ·intro w'
      go_simp
      with_reducible rfl
     rotate_left
     ·q_si
      rfl
     refine pure_ (i := 7) (N := some 26) (v := ?_) (a' := ?_) #[false, true, true, true, false, false, true, true, false, false, false] rfl rfl q_ho q_id (Or.inl ⟨by rfl, ?_⟩) ?_ ?_
     rotate_left
     ·intro w'
      go_simp
      with_reducible rfl
     rotate_left
     ·q_si
      rfl
     refine take_ (i := 0) (N := some 19) (v := ?_) (a' := ?_) #[true, true, true, true, false, false, true, true, false, false, false] rfl rfl q_to q_id (Or.inl ⟨by rfl, ?_⟩) hHeld ?_ ?_
     rotate_left
     ·rintro w' ⟨s0, s1, s2, s3, s4⟩
      go_simp
      with_reducible rfl
     rotate_left
     ·q_si
      rfl
     refine take_ (i := 5) (N := some 24) (v := ?_) (a' := ?_) #[true, true, true, true, false, true, true, true, false, false, false] rfl rfl q_to q_id (Or.inl ⟨by rfl, ?_⟩) hHeld ?_ ?_
     rotate_left
     ·rintro w' ⟨s0, s1, s2, s3, s4⟩
      go_simp
      with_reducible rfl
     rotate_left
     ·q_si
      rfl
     refine one_ (i := 4) (N := some 23) #[true, true, true, true, true, true, true, true, false, false, false] rfl rfl (one_of HT_.out (by kernel_rfl)) (by decide) (fun K hK => ?_)
     refine goes_ Try.func25 (by kernel_rfl) rfl #[.agg #[.slice A0_0 l0_0.length c0_0, .int .i64 a0_1, .int .i64 a0_2, .slice A0_3 l0_3.length c0_3, .bool a0_4], .int .i64 a1, .int .i64 a2, .int .i64 a3] (by rfl) rfl rfl q_ml ?_
     with_reducible refine (rees_Number.calls k _ _ l0_0 a0_1 a0_2 _ _ l0_3 a0_4 a1 a2 a3 t370 _ ?side1 ?side2 ?side3 ?side4 A13.out).mono ?_
     (case side1 => q_cc (Kd.C_below HR0_0.out HB.out))
     (case side2 => exact HC0_0.out)
     (case side3 => q_cc (Kd.C_below HR0_3.out HB.out))
     (case side4 => exact HC0_3.out)
     rintro e w68 ⟨rfl, hb⟩
     refine ⟨_, rfl, ?_⟩
     have n0_ := Aside0.mk (blk_below (g := gb367) (o := .cells #[.slice A0_0 l0_0.length c0_0, .int .i64 a0_1, .int .i64 a0_2, .slice A0_3 l0_3.length c0_3, .bool a0_4] 24 (0, 0)) (by q_bk; exact BK367.out) hb)
     have n1_ := Aside0.mk (below_step (q_hs GE367.out) hb)
     clear HB BK367
     have BK367 := n0_
     have HB := n1_
     clear n0_ n1_
     (try clear hb)
     (try clear hb2)
     (try clear hk)
     (try clear hi)
     refine hK.out _ _ ⟨(blk_cell BK367.out 0).trans rfl, (blk_cell BK367.out 1).trans rfl, (blk_cell BK367.out 2).trans rfl, (blk_cell BK367.out 3).trans rfl, (blk_cell BK367.out 4).trans rfl⟩ (fun hHeld => ?_)
     clear hK K
     refine norm_ (a' := ?_) ?_ ?_
     rotate_left
     ·show Act.put _ (some 23) _ = _
      simp only [Act.put, List.setIfInBounds_toArray, List.set_cons_zero, List.set_cons_succ, i64_w, i32_w]
      rfl
     refine one_ (i := 8) (N := some 27) #[true, true, true, true, true, true, true, true, true, false, false] rfl rfl (one_of HT_.out (by kernel_rfl)) (by decide) (fun K hK => ?_)
     refine goes_ Try.func26 (by kernel_rfl) rfl #[.agg #[.slice A0_0 l0_0.length c0_0, .int .i64 a0_1, .int .i64 a0_2, .slice A0_3 l0_3.length c0_3, .bool a0_4], .int .i64 a4, .int .i64 a5] (by rfl) rfl rfl q_ml ?_
     with_reducible refine (rees_Mul.calls k _ _ l0_0 a0_1 a0_2 _ _ l0_3 a0_4 a4 a5 t371 _ ?side1 ?side2 ?side3 ?side4 A14.out).mono ?_
     (case side1 => q_cc (Kd.C_below HR0_0.out HB.out))
     (case side2 => exact HC0_0.out)
     (case side3 => q_cc (Kd.C_below HR0_3.out HB.out))
     (case side4 => exact HC0_3.out)
     rintro e w69 ⟨rfl, hb⟩
     refine ⟨_, rfl, ?_⟩
     have n0_ := Aside0.mk (blk_below (g := gb367) (o := .cells #[.slice A0_0 l0_0.length c0_0, .int .i64 a0_1, .int .i64 a0_2, .slice A0_3 l0_3.length c0_3, .bool a0_4] 24 (0, 0)) (by q_bk; exact BK367.out) hb)
     have n1_ := Aside0.mk (below_step (q_hs GE367.out) hb)
     clear HB BK367
     have BK367 := n0_
     have HB := n1_
     clear n0_ n1_
     (try clear hb)
     (try clear hb2)
     (try clear hk)
     (try clear hi)
     refine hK.out _ _ ⟨(blk_cell BK367.out 0).trans rfl, (blk_cell BK367.out 1).trans rfl, (blk_cell BK367.out 2).trans rfl, (blk_cell BK367.out 3).trans rfl, (blk_cell BK367.out 4).trans rfl⟩ (fun hHeld => ?_)
     clear hK K
     refine norm_ (a' := ?_) ?_ ?_
     rotate_left
     ·show Act.put _ (some 27) _ = _
      simp only [Act.put, List.setIfInBounds_toArray, List.set_cons_zero, List.set_cons_succ, i64_w, i32_w]
      rfl
     refine pure_ (i := 9) (N := some 13) (v := ?_) (a' := ?_) #[true, true, true, true, true, true, true, true, true, true, false] rfl rfl q_ho q_id (Or.inl ⟨by rfl, ?_⟩) ?_ ?_
     rotate_left
     ·intro w'
      go_simp
      with_reducible rfl
     rotate_left
     ·q_si
      rfl
     refine pure_ (i := 10) (N := some 14) (v := ?_) (a' := ?_) #[true, true, true, true, true, true, true, true, true, true, true] rfl rfl q_ho q_id (Or.inl ⟨by rfl, ?_⟩) ?_ ?_
     rotate_left
     ·intro w'
      go_simp
      with_reducible rfl
     rotate_left
     ·q_si
      rfl
     refine done_ (done_of HT_.out (by kernel_rfl)) ?_
     have hcz70_0 : w69.cell? ⟨gb367, 0, none⟩ = some (.slice A0_0 l0_0.length c0_0) := (blk_cell BK367.out 0).trans rfl
     have hcz70_1 : w69.cell? ⟨gb367, 1, none⟩ = some (.int .i64 a0_1) := (blk_cell BK367.out 1).trans rfl
     have hcz70_2 : w69.cell? ⟨gb367, 2, none⟩ = some (.int .i64 a0_2) := (blk_cell BK367.out 2).trans rfl
     have hcz70_3 : w69.cell? ⟨gb367, 3, none⟩ = some (.slice A0_3 l0_3.length c0_3) := (blk_cell BK367.out 3).trans rfl
     have hcz70_4 : w69.cell? ⟨gb367, 4, none⟩ = some (.bool a0_4) := (blk_cell BK367.out 4).trans rfl
     have hfz70_0 := blk_frozen BK367.out 0
     have hfz70_1 := blk_frozen BK367.out 1
     have hfz70_2 := blk_frozen BK367.out 2
     have hfz70_3 := blk_frozen BK367.out 3
     have hfz70_4 := blk_frozen BK367.out 4
     try go_wp2_with (first | ((with_reducible refine gate_callee (f := 15) rfl ?_); refine goesL_ (some 29) rfl rfl Try.func15 (by kernel_rfl) rfl #[.agg #[.slice A0_0 l0_0.length c0_0, .int .i64 a0_1, .int .i64 a0_2, .slice A0_3 l0_3.length c0_3, .bool a0_4]] rfl q_ml ?_; (with_reducible refine (semigroupref17_Validate.calls k _ _ l0_0 a0_1 a0_2 _ _ l0_3 a0_4 t372 _ ?side1 ?side2 ?side3 ?side4 A15.out).mono ?_); (case side1 => q_cc (Kd.C_below HR0_0.out HB.out)); (case side2 => exact HC0_0.out); (case side3 => q_cc (Kd.C_below HR0_3.out HB.out)); (case side4 => exact HC0_3.out); rintro e w71 ⟨rfl, hb⟩; refine ⟨_, rfl, ?_⟩; have n0_ := Aside0.mk (blk_below (g := gb367) (o := .cells #[.slice A0_0 l0_0.length c0_0, .int .i64 a0_1, .int .i64 a0_2, .slice A0_3 l0_3.length c0_3, .bool a0_4] 24 (0, 0)) (by q_bk; exact BK367.out) hb); have n1_ := Aside0.mk (below_step (q_hs GE367.out) hb); clear BK367; clear HB; have BK367 := n0_; have HB := n1_; clear n0_ n1_; (q_x hb hb2 hk); (try clear hi)))
     go_ret
     exact ⟨by first | rfl | q_em | q_en, by repeat (first | (with_reducible first | exact HB.out | apply below_alloc | apply pw_below_drewN | apply below_drew1 | refine below_set ?_ GE367.out) | exact HB.out)⟩
   ·rw [if_neg c54] at H
    have c54b0 : (t370 == (-1)) = false := beq_eq_false_iff_ne.mpr c54
    have c54b1 : (t370 != (-1)) = true := bne_iff_ne.mpr c54
    obtain rfl := Option.some.inj H
    go_enter Try.func5, Try.ntmps5
    try go_wp2_with (first | ((with_reducible refine gate_dst (N := 6) rfl ?_); refine box_event ?hg (N := 6) ?hd (cs := #[.slice A0_0 l0_0.length c0_0, .int .i64 a0_1, .int .i64 a0_2, .slice A0_3 l0_3.length c0_3, .bool a0_4]) (t := 24) ?hr ?_; (case hd => rfl); (case hg => rfl); q_hr; intro gb367 hg w72 hbox hb; have n0_ := Aside0.mk (below_step q_hb hb); have n1_ := Aside0.mk (hbox); have n2_ := Aside0.mk ((by rw [hg]; exact q_bs : w.heap.size ≤ gb367)); have n3_ := Aside0.mk ((by rw [hg]; exact q_bs : w.heap.size ≤ gb367)); clear HB; have HB := n0_; have BK367 := n1_; have GW367 := n2_; have GE367 := n3_; clear n0_ n1_ n2_ n3_; (q_x hb hbox hg); have hcz73_0 : w72.cell? ⟨gb367, 0, none⟩ = some (.slice A0_0 l0_0.length c0_0) := (blk_cell BK367.out 0).trans rfl; have hcz73_1 : w72.cell? ⟨gb367, 1, none⟩ = some (.int .i64 a0_1) := (blk_cell BK367.out 1).trans rfl; have hcz73_2 : w72.cell? ⟨gb367, 2, none⟩ = some (.int .i64 a0_2) := (blk_cell BK367.out 2).trans rfl; have hcz73_3 : w72.cell? ⟨gb367, 3, none⟩ = some (.slice A0_3 l0_3.length c0_3) := (blk_cell BK367.out 3).trans rfl; have hcz73_4 : w72.cell? ⟨gb367, 4, none⟩ = some (.bool a0_4) := (blk_cell BK367.out 4).trans rfl; have hfz73_0 := blk_frozen BK367.out 0; have hfz73_1 := blk_frozen BK367.out 1; have hfz73_2 := blk_frozen BK367.out 2; have hfz73_3 := blk_frozen BK367.out 3; have hfz73_4 := blk_frozen BK367.out 4) | ((with_reducible refine gate_callee (f := 13) rfl ?_); refine goesL_ (some 17) rfl rfl Try.func13 (by kernel_rfl) rfl #[.slice A0_0 l0_0.length c0_0, .int .i64 16] rfl q_ml ?_; (with_reducible refine (semigrouplaw17_large.calls k _ _ l0_0 16 false _ ?side1 ?side2 A7.out).mono ?_); (case side1 => q_cc (Kd.C_below HR0_0.out HB.out)); (case side2 => exact HC0_0.out); rintro e w' ⟨rfl, ⟨nd, rfl⟩⟩; refine ⟨_, rfl, ?_⟩))
    (try (rw [drewN_self w72]; generalize hq_ : World.drewN w72 _ = w72; have n0_ : Aside0 (w72.heap[gb367]? = some (.cells #[.slice A0_0 l0_0.length c0_0, .int .i64 a0_1, .int .i64 a0_2, .slice A0_3 l0_3.length c0_3, .bool a0_4] 24 (0, 0))) := ⟨by rw [← hq_]; exact (by q_bk; exact BK367.out)⟩; have n1_ : Aside0 (Below w.heap.size w w72) := ⟨by rw [← hq_]; exact (q_hs GE367.out)⟩; clear BK367 HB hq_; have BK367 := n0_; have HB := n1_; clear n0_ n1_))
    have n0_ := Aside0.mk (blk_drew BK367.out)
    have n1_ := Aside0.mk (below_drew1 HB.out)
    clear HB BK367
    have BK367 := n0_
    have HB := n1_
    clear n0_ n1_
    refine start_ (n := 11) (S := fun w' => w'.cell? ⟨gb367, 0, none⟩ = some (.slice A0_0 l0_0.length c0_0) ∧ w'.cell? ⟨gb367, 1, none⟩ = some (.int .i64 a0_1) ∧ w'.cell? ⟨gb367, 2, none⟩ = some (.int .i64 a0_2) ∧ w'.cell? ⟨gb367, 3, none⟩ = some (.slice A0_3 l0_3.length c0_3) ∧ w'.cell? ⟨gb367, 4, none⟩ = some (.bool a0_4)) (ds := []) #[false, false, false, false, false, false, false, false, false, false, false] (by kernel_rfl) rfl rfl ⟨(blk_cell BK367.out 0).trans rfl, (blk_cell BK367.out 1).trans rfl, (blk_cell BK367.out 2).trans rfl, (blk_cell BK367.out 3).trans rfl, (blk_cell BK367.out 4).trans rfl⟩ (fun hHeld => ?_); refine with_tabW semigrouplaw17_ReesMultiplies.tab3 semigrouplaw17_ReesMultiplies.bits3 (fun HT_ HW_ => ?_)
    generalize w72.drew = w74 at BK367 HB hHeld ⊢
    refine pure_ (i := 1) (N := some 20) (v := ?_) (a' := ?_) #[false, true, false, false, false, false, false, false, false, false, false] rfl rfl q_ho q_id (Or.inl ⟨by rfl, ?_⟩) ?_ ?_
    rotate_left
    ·intro w'
     go_simp
     with_reducible rfl
    rotate_left
    ·q_si
     rfl
    refine pure_ (i := 2) (N := some 21) (v := ?_) (a' := ?_) #[false, true, true, false, false, false, false, false, false, false, false] rfl rfl q_ho q_id (Or.inl ⟨by rfl, ?_⟩) ?_ ?_
    rotate_left
    ·intro w'
     go_simp
     with_reducible rfl
    rotate_left
    ·q_si
     rfl
    refine pure_ (i := 3) (N := some 22) (v := ?_) (a' := ?_) #[false, true, true, true, false, false, false, false, false, false, false] rfl rfl q_ho q_id (Or.inl ⟨by rfl, ?_⟩) ?_ ?_
    rotate_left
    ·intro w'
     go_simp
     with_reducible rfl
    rotate_left
    ·q_si
     rfl
    refine pure_ (i := 6) (N := some 25) (v := ?_) (a' := ?_) #[false, true, true, true, false, false, true, false, false, false, false] rfl rfl q_ho q_id (Or.inl ⟨by rfl, ?_⟩) ?_ ?_
    rotate_left
    ·intro w'
     go_simp
     with_reducible rfl
    rotate_left
    ·q_si
     rfl
    refine pure_ (i := 7) (N := some 26) (v := ?_) (a' := ?_) #[false, true, true, true, false, false, true, true, false, false, false] rfl rfl q_ho q_id (Or.inl ⟨by rfl, ?_⟩) ?_ ?_
    rotate_left
    ·intro w'
     go_simp
     with_reducible rfl
    rotate_left
    ·q_si
     rfl
    refine take_ (i := 0) (N := some 19) (v := ?_) (a' := ?_) #[true, true, true, true, false, false, true, true, false, false, false] rfl rfl q_to q_id (Or.inl ⟨by rfl, ?_⟩) hHeld ?_ ?_
    rotate_left
    ·rintro w' ⟨s0, s1, s2, s3, s4⟩
     go_simp
     with_reducible rfl
    rotate_left
    ·q_si
     rfl
    refine take_ (i := 5) (N := some 24) (v := ?_) (a' := ?_) #[true, true, true, true, false, true, true, true, false, false, false] rfl rfl q_to q_id (Or.inl ⟨by rfl, ?_⟩) hHeld ?_ ?_
    rotate_left
    ·rintro w' ⟨s0, s1, s2, s3, s4⟩
     go_simp
     with_reducible rfl
    rotate_left
    ·q_si
     rfl
    refine one_ (i := 4) (N := some 23) #[true, true, true, true, true, true, true, true, false, false, false] rfl rfl (one_of HT_.out (by kernel_rfl)) (by decide) (fun K hK => ?_)
    refine goes_ Try.func25 (by kernel_rfl) rfl #[.agg #[.slice A0_0 l0_0.length c0_0, .int .i64 a0_1, .int .i64 a0_2, .slice A0_3 l0_3.length c0_3, .bool a0_4], .int .i64 a1, .int .i64 a2, .int .i64 a3] (by rfl) rfl rfl q_ml ?_
    with_reducible refine (rees_Number.calls k _ _ l0_0 a0_1 a0_2 _ _ l0_3 a0_4 a1 a2 a3 t370 _ ?side1 ?side2 ?side3 ?side4 A13.out).mono ?_
    (case side1 => q_cc (Kd.C_below HR0_0.out HB.out))
    (case side2 => exact HC0_0.out)
    (case side3 => q_cc (Kd.C_below HR0_3.out HB.out))
    (case side4 => exact HC0_3.out)
    rintro e w75 ⟨rfl, hb⟩
    refine ⟨_, rfl, ?_⟩
    have n0_ := Aside0.mk (blk_below (g := gb367) (o := .cells #[.slice A0_0 l0_0.length c0_0, .int .i64 a0_1, .int .i64 a0_2, .slice A0_3 l0_3.length c0_3, .bool a0_4] 24 (0, 0)) (by q_bk; exact BK367.out) hb)
    have n1_ := Aside0.mk (below_step (q_hs GE367.out) hb)
    clear HB BK367
    have BK367 := n0_
    have HB := n1_
    clear n0_ n1_
    (try clear hb)
    (try clear hb2)
    (try clear hk)
    (try clear hi)
    refine hK.out _ _ ⟨(blk_cell BK367.out 0).trans rfl, (blk_cell BK367.out 1).trans rfl, (blk_cell BK367.out 2).trans rfl, (blk_cell BK367.out 3).trans rfl, (blk_cell BK367.out 4).trans rfl⟩ (fun hHeld => ?_)
    clear hK K
    refine norm_ (a' := ?_) ?_ ?_
    rotate_left
    ·show Act.put _ (some 23) _ = _
     simp only [Act.put, List.setIfInBounds_toArray, List.set_cons_zero, List.set_cons_succ, i64_w, i32_w]
     rfl
    refine one_ (i := 8) (N := some 27) #[true, true, true, true, true, true, true, true, true, false, false] rfl rfl (one_of HT_.out (by kernel_rfl)) (by decide) (fun K hK => ?_)
    refine goes_ Try.func26 (by kernel_rfl) rfl #[.agg #[.slice A0_0 l0_0.length c0_0, .int .i64 a0_1, .int .i64 a0_2, .slice A0_3 l0_3.length c0_3, .bool a0_4], .int .i64 a4, .int .i64 a5] (by rfl) rfl rfl q_ml ?_
    with_reducible refine (rees_Mul.calls k _ _ l0_0 a0_1 a0_2 _ _ l0_3 a0_4 a4 a5 t371 _ ?side1 ?side2 ?side3 ?side4 A14.out).mono ?_
    (case side1 => q_cc (Kd.C_below HR0_0.out HB.out))
    (case side2 => exact HC0_0.out)
    (case side3 => q_cc (Kd.C_below HR0_3.out HB.out))
    (case side4 => exact HC0_3.out)
    rintro e w76 ⟨rfl, hb⟩
    refine ⟨_, rfl, ?_⟩
    have n0_ := Aside0.mk (blk_below (g := gb367) (o := .cells #[.slice A0_0 l0_0.length c0_0, .int .i64 a0_1, .int .i64 a0_2, .slice A0_3 l0_3.length c0_3, .bool a0_4] 24 (0, 0)) (by q_bk; exact BK367.out) hb)
    have n1_ := Aside0.mk (below_step (q_hs GE367.out) hb)
    clear HB BK367
    have BK367 := n0_
    have HB := n1_
    clear n0_ n1_
    (try clear hb)
    (try clear hb2)
    (try clear hk)
    (try clear hi)
    refine hK.out _ _ ⟨(blk_cell BK367.out 0).trans rfl, (blk_cell BK367.out 1).trans rfl, (blk_cell BK367.out 2).trans rfl, (blk_cell BK367.out 3).trans rfl, (blk_cell BK367.out 4).trans rfl⟩ (fun hHeld => ?_)
    clear hK K
    refine norm_ (a' := ?_) ?_ ?_
    rotate_left
    ·show Act.put _ (some 27) _ = _
     simp only [Act.put, List.setIfInBounds_toArray, List.set_cons_zero, List.set_cons_succ, i64_w, i32_w]
     rfl
    refine pure_ (i := 9) (N := some 13) (v := ?_) (a' := ?_) #[true, true, true, true, true, true, true, true, true, true, false] rfl rfl q_ho q_id (Or.inl ⟨by rfl, ?_⟩) ?_ ?_
    rotate_left
    ·intro w'
     go_simp
     with_reducible rfl
    rotate_left
    ·q_si
     rfl
    refine pure_ (i := 10) (N := some 14) (v := ?_) (a' := ?_) #[true, true, true, true, true, true, true, true, true, true, true] rfl rfl q_ho q_id (Or.inl ⟨by rfl, ?_⟩) ?_ ?_
    rotate_left
    ·intro w'
     go_simp
     with_reducible rfl
    rotate_left
    ·q_si
     rfl
    refine done_ (done_of HT_.out (by kernel_rfl)) ?_
    have hcz77_0 : w76.cell? ⟨gb367, 0, none⟩ = some (.slice A0_0 l0_0.length c0_0) := (blk_cell BK367.out 0).trans rfl
    have hcz77_1 : w76.cell? ⟨gb367, 1, none⟩ = some (.int .i64 a0_1) := (blk_cell BK367.out 1).trans rfl
    have hcz77_2 : w76.cell? ⟨gb367, 2, none⟩ = some (.int .i64 a0_2) := (blk_cell BK367.out 2).trans rfl
    have hcz77_3 : w76.cell? ⟨gb367, 3, none⟩ = some (.slice A0_3 l0_3.length c0_3) := (blk_cell BK367.out 3).trans rfl
    have hcz77_4 : w76.cell? ⟨gb367, 4, none⟩ = some (.bool a0_4) := (blk_cell BK367.out 4).trans rfl
    have hfz77_0 := blk_frozen BK367.out 0
    have hfz77_1 := blk_frozen BK367.out 1
    have hfz77_2 := blk_frozen BK367.out 2
    have hfz77_3 := blk_frozen BK367.out 3
    have hfz77_4 := blk_frozen BK367.out 4
    try go_wp2_with (first | ((with_reducible refine gate_callee (f := 15) rfl ?_); refine goesL_ (some 29) rfl rfl Try.func15 (by kernel_rfl) rfl #[.agg #[.slice A0_0 l0_0.length c0_0, .int .i64 a0_1, .int .i64 a0_2, .slice A0_3 l0_3.length c0_3, .bool a0_4]] rfl q_ml ?_; (with_reducible refine (semigroupref17_Validate.calls k _ _ l0_0 a0_1 a0_2 _ _ l0_3 a0_4 t372 _ ?side1 ?side2 ?side3 ?side4 A15.out).mono ?_); (case side1 => q_cc (Kd.C_below HR0_0.out HB.out)); (case side2 => exact HC0_0.out); (case side3 => q_cc (Kd.C_below HR0_3.out HB.out)); (case side4 => exact HC0_3.out); rintro e w78 ⟨rfl, hb⟩; refine ⟨_, rfl, ?_⟩; have n0_ := Aside0.mk (blk_below (g := gb367) (o := .cells #[.slice A0_0 l0_0.length c0_0, .int .i64 a0_1, .int .i64 a0_2, .slice A0_3 l0_3.length c0_3, .bool a0_4] 24 (0, 0)) (by q_bk; exact BK367.out) hb); have n1_ := Aside0.mk (below_step (q_hs GE367.out) hb); clear BK367; clear HB; have BK367 := n0_; have HB := n1_; clear n0_ n1_; (q_x hb hb2 hk); (try clear hi)))
    go_ret
    exact ⟨by first | rfl | q_em | q_en, by repeat (first | (with_reducible first | exact HB.out | apply below_alloc | apply pw_below_drewN | apply below_drew1 | refine below_set ?_ GE367.out) | exact HB.out)⟩


end Go.Proofs.Ytnoickhdbinciaa.PAll
