-- printed for this claim out of the translation; Lean checks it
import Derived.Test.YtnoickhdbinciaaKReesTablesP3
namespace Go.Proofs.Ytnoickhdbinciaa.PAll
open Go.RowKit Go.Proofs.YtnoickhdbinciaaW.PrintWords Go.Proofs.YtnoickhdbinciaaW.PrintLast Go.Proofs.YtnoickhdbinciaaW.PrintMore
attribute [local go_sem] max2_int min2_int max_two min_two max_three min_three max_four min_four   -- for this text's walks alone
set_option linter.unusedVariables false
set_option linter.unusedSimpArgs false
/-! ### semigroupref17_Mul: function 28 -/
mutual
def semigroupref17_Mul.j0 : Nat → Int → Int → Bool → List (List Int) → Int → Int → List (List Int) → Bool → Option (Int)
 | 0, _, _, _, _, _, _, _, _ => none
 | k + 1, x1, x2, x29, x290000, x290001, x290002, x290003, x290004 => if x29 = true then (some (-1)) else ((semigroupref17_base.f x290000 x290001 x290002 x290003 x290004).bind fun t292 => ((semigroupref17_base.f x290000 x290001 x290002 x290003 x290004).bind fun t293 => (if (wrap64 (x1 - t292)) < 0 then (semigroupref17_Mul.j1 k (wrap64 (x1 - t292)) (wrap64 (x2 - t293)) true x290000 x290001 x290002 x290003 x290004) else (semigroupref17_Mul.j1 k (wrap64 (x1 - t292)) (wrap64 (x2 - t293)) (decide ((wrap64 (x2 - t293)) < 0)) x290000 x290001 x290002 x290003 x290004))))
def semigroupref17_Mul.j1 : Nat → Int → Int → Bool → List (List Int) → Int → Int → List (List Int) → Bool → Option (Int)
 | 0, _, _, _, _, _, _, _, _ => none
 | k + 1, x7, x8, x43, x290000, x290001, x290002, x290003, x290004 => if x43 = true then (some 0) else (if x290002 = 0 then (none) else (if 0 ≤ (Int.tmod x7 x290002) then (if (Int.tmod x7 x290002) < (x290003.length : Int) then (if (x290000.length : Int) = 0 then (none) else (if 0 ≤ (wrap64 (Int.tdiv (wrap64 (Int.tdiv x8 x290002)) (x290000.length : Int))) then (if (wrap64 (Int.tdiv (wrap64 (Int.tdiv x8 x290002)) (x290000.length : Int))) < ((rd_L1 x290003 (Int.tmod x7 x290002)).length : Int) then (if (rd (rd_L1 x290003 (Int.tmod x7 x290002)) (wrap64 (Int.tdiv (wrap64 (Int.tdiv x8 x290002)) (x290000.length : Int)))) < 0 then (some 0) else (if 0 ≤ (Int.tmod (wrap64 (Int.tdiv x7 x290002)) (x290000.length : Int)) then (if (Int.tmod (wrap64 (Int.tdiv x7 x290002)) (x290000.length : Int)) < (x290000.length : Int) then (if 0 ≤ (rd (rd_L1 x290003 (Int.tmod x7 x290002)) (wrap64 (Int.tdiv (wrap64 (Int.tdiv x8 x290002)) (x290000.length : Int)))) then (if (rd (rd_L1 x290003 (Int.tmod x7 x290002)) (wrap64 (Int.tdiv (wrap64 (Int.tdiv x8 x290002)) (x290000.length : Int)))) < ((rd_L1 x290000 (Int.tmod (wrap64 (Int.tdiv x7 x290002)) (x290000.length : Int))).length : Int) then (if 0 ≤ (rd (rd_L1 x290000 (Int.tmod (wrap64 (Int.tdiv x7 x290002)) (x290000.length : Int))) (rd (rd_L1 x290003 (Int.tmod x7 x290002)) (wrap64 (Int.tdiv (wrap64 (Int.tdiv x8 x290002)) (x290000.length : Int))))) then (if (rd (rd_L1 x290000 (Int.tmod (wrap64 (Int.tdiv x7 x290002)) (x290000.length : Int))) (rd (rd_L1 x290003 (Int.tmod x7 x290002)) (wrap64 (Int.tdiv (wrap64 (Int.tdiv x8 x290002)) (x290000.length : Int))))) < (x290000.length : Int) then (if 0 ≤ (Int.tmod (wrap64 (Int.tdiv x8 x290002)) (x290000.length : Int)) then (if (Int.tmod (wrap64 (Int.tdiv x8 x290002)) (x290000.length : Int)) < ((rd_L1 x290000 (rd (rd_L1 x290000 (Int.tmod (wrap64 (Int.tdiv x7 x290002)) (x290000.length : Int))) (rd (rd_L1 x290003 (Int.tmod x7 x290002)) (wrap64 (Int.tdiv (wrap64 (Int.tdiv x8 x290002)) (x290000.length : Int)))))).length : Int) then ((semigroupref17_Number.f x290000 x290001 x290002 x290003 x290004 (wrap64 (Int.tdiv (wrap64 (Int.tdiv x7 x290002)) (x290000.length : Int))) (rd (rd_L1 x290000 (rd (rd_L1 x290000 (Int.tmod (wrap64 (Int.tdiv x7 x290002)) (x290000.length : Int))) (rd (rd_L1 x290003 (Int.tmod x7 x290002)) (wrap64 (Int.tdiv (wrap64 (Int.tdiv x8 x290002)) (x290000.length : Int)))))) (Int.tmod (wrap64 (Int.tdiv x8 x290002)) (x290000.length : Int))) (Int.tmod x8 x290002)).bind fun t300 => (some t300)) else (none)) else (none)) else (none)) else (none)) else (none)) else (none)) else (none)) else (none))) else (none)) else (none))) else (none)) else (none)))
end
def semigroupref17_Mul.f (k : Nat) (l0_0 : List (List Int)) (a0_1 : Int) (a0_2 : Int) (l0_3 : List (List Int)) (a0_4 : Bool) (a1 : Int) (a2 : Int) : Option (Int) := if a1 < 0 then (semigroupref17_Mul.j0 k a1 a2 true l0_0 a0_1 a0_2 l0_3 a0_4) else ((semigroupref17_Size.f l0_0 a0_1 a0_2 l0_3 a0_4).bind fun t290 => (if a1 ≥ t290 then (semigroupref17_Mul.j0 k a1 a2 true l0_0 a0_1 a0_2 l0_3 a0_4) else (if a2 < 0 then (semigroupref17_Mul.j0 k a1 a2 true l0_0 a0_1 a0_2 l0_3 a0_4) else ((semigroupref17_Size.f l0_0 a0_1 a0_2 l0_3 a0_4).bind fun t291 => (semigroupref17_Mul.j0 k a1 a2 (decide (a2 ≥ t291)) l0_0 a0_1 a0_2 l0_3 a0_4)))))
theorem semigroupref17_Mul.mono_l : ∀ k, (∀ y0 y1 y2 y3 y4 y5 y6 y7, LeO (semigroupref17_Mul.j0 k y0 y1 y2 y3 y4 y5 y6 y7) (semigroupref17_Mul.j0 (k + 1) y0 y1 y2 y3 y4 y5 y6 y7)) ∧ (∀ y0 y1 y2 y3 y4 y5 y6 y7, LeO (semigroupref17_Mul.j1 k y0 y1 y2 y3 y4 y5 y6 y7) (semigroupref17_Mul.j1 (k + 1) y0 y1 y2 y3 y4 y5 y6 y7))
 | 0 => ⟨fun _ _ _ _ _ _ _ _ r h => by simp [semigroupref17_Mul.j0] at h, fun _ _ _ _ _ _ _ _ r h => by simp [semigroupref17_Mul.j1] at h⟩
 | k + 1 => by
  obtain ⟨ih0, ih1⟩ := semigroupref17_Mul.mono_l k
  refine ⟨?_, ?_⟩
  ·intro y0 y1 y2 y3 y4 y5 y6 y7
   unfold semigroupref17_Mul.j0
   repeat' first
   | (with_reducible exact ih0 _ _ _ _ _ _ _ _)
   | (with_reducible exact ih1 _ _ _ _ _ _ _ _)
   | (with_reducible exact LeO.refl _)
   | (with_reducible exact LeO.none _)
   | (with_reducible refine LeO.ite ?_ ?_)
   | (with_reducible refine LeO.bind ?_ (fun _ => ?_))
   | exact ih0 _ _ _ _ _ _ _ _
   | exact ih1 _ _ _ _ _ _ _ _
   | exact LeO.none _
   | refine LeO.ite ?_ ?_
   | refine LeO.bind ?_ (fun _ => ?_)
  ·intro y0 y1 y2 y3 y4 y5 y6 y7
   unfold semigroupref17_Mul.j1
   repeat' first
   | (with_reducible exact ih0 _ _ _ _ _ _ _ _)
   | (with_reducible exact ih1 _ _ _ _ _ _ _ _)
   | (with_reducible exact LeO.refl _)
   | (with_reducible exact LeO.none _)
   | (with_reducible refine LeO.ite ?_ ?_)
   | (with_reducible refine LeO.bind ?_ (fun _ => ?_))
   | exact ih0 _ _ _ _ _ _ _ _
   | exact ih1 _ _ _ _ _ _ _ _
   | exact LeO.none _
   | refine LeO.ite ?_ ?_
   | refine LeO.bind ?_ (fun _ => ?_)
theorem semigroupref17_Mul.mono : ∀ a0 a1 a2 a3 a4 a5 a6 k, LeO (semigroupref17_Mul.f k a0 a1 a2 a3 a4 a5 a6) (semigroupref17_Mul.f (k + 1) a0 a1 a2 a3 a4 a5 a6) := by
 intro a0 a1 a2 a3 a4 a5 a6 k
 obtain ⟨ih0, ih1⟩ := semigroupref17_Mul.mono_l k
 unfold semigroupref17_Mul.f
 repeat' first
   | (with_reducible exact ih0 _ _ _ _ _ _ _ _)
   | (with_reducible exact ih1 _ _ _ _ _ _ _ _)
   | (with_reducible exact LeO.refl _)
   | (with_reducible exact LeO.none _)
   | (with_reducible refine LeO.ite ?_ ?_)
   | (with_reducible refine LeO.bind ?_ (fun _ => ?_))
   | exact ih0 _ _ _ _ _ _ _ _
   | exact ih1 _ _ _ _ _ _ _ _
   | exact LeO.none _
   | refine LeO.ite ?_ ?_
   | refine LeO.bind ?_ (fun _ => ?_)
def semigroupref17_Mul.T3 : Bool × List (List Nat × List Nat) := (true, [([], []), ([], []), ([1], [1]), ([0, 2], [0, 2]), ([], []), ([], []), ([5, 2], [5]), ([4, 6], [4, 6]), ([3, 6, 0, 1, 2, 3], [3]), ([7, 8, 0, 1, 2, 3, 4, 5, 6, 7, 8], [7])])
def semigroupref17_Mul.B3 : List Nat := [0, 0, 2, 7, 0, 0, 38, 118, 111, 511]
theorem semigroupref17_Mul.tab3 : rtab .any (opsOf Try.f28 3) = semigroupref17_Mul.T3 := by kernel_rfl
theorem semigroupref17_Mul.bits3 : waitsOk semigroupref17_Mul.T3.2 semigroupref17_Mul.B3 = true := by kernel_rfl
def semigroupref17_Mul.T7 : Bool × List (List Nat × List Nat) := (true, [([], []), ([0], [0]), ([], []), ([], []), ([3], [3]), ([2, 4], [2, 4]), ([1, 5], [1, 5]), ([6], [6]), ([], []), ([], []), ([9], [9]), ([8, 10], [8, 10]), ([], []), ([11, 12], [11, 12]), ([7, 13], [7, 13]), ([14], [14]), ([15, 0, 1, 2, 3, 4, 5, 6, 7, 8, 9, 10, 11, 12, 13, 14, 15], [15])])
def semigroupref17_Mul.B7 : List Nat := [0, 1, 0, 0, 8, 28, 63, 127, 0, 0, 512, 1792, 0, 7936, 16383, 32767, 65535]
theorem semigroupref17_Mul.tab7 : rtab .any (opsOf Try.f28 7) = semigroupref17_Mul.T7 := by kernel_rfl
theorem semigroupref17_Mul.bits7 : waitsOk semigroupref17_Mul.T7.2 semigroupref17_Mul.B7 = true := by kernel_rfl
def semigroupref17_Mul.T10 : Bool × List (List Nat × List Nat) := (true, [([], []), ([0], [0]), ([], []), ([2], [2]), ([], []), ([], []), ([5], [5]), ([4, 6], [4, 6]), ([], []), ([7, 8], [7, 8]), ([3, 9], [3, 9]), ([10], [10]), ([], []), ([11, 12], [11, 12]), ([13], [13]), ([1, 14], [1, 14]), ([15], [15]), ([], []), ([], []), ([18], [18]), ([17, 19], [17, 19]), ([], []), ([20, 21], [20, 21]), ([16, 22], [16, 22]), ([23], [23]), ([24, 0, 1, 2, 3, 4, 5, 6, 7, 8, 9, 10, 11, 12, 13, 14, 15, 16, 17, 18, 19, 20, 21, 22, 23, 24], [24])])
def semigroupref17_Mul.B10 : List Nat := [0, 1, 0, 4, 0, 0, 32, 112, 0, 496, 1020, 2044, 0, 8188, 16380, 32767, 65535, 0, 0, 262144, 917504, 0, 4063232, 8388607, 16777215, 33554431]
theorem semigroupref17_Mul.tab10 : rtab .any (opsOf Try.f28 10) = semigroupref17_Mul.T10 := by kernel_rfl
theorem semigroupref17_Mul.bits10 : waitsOk semigroupref17_Mul.T10.2 semigroupref17_Mul.B10 = true := by kernel_rfl
def semigroupref17_Mul.T11 : Bool × List (List Nat × List Nat) := (true, [([], []), ([], []), ([], []), ([2], [2]), ([1, 3], [1, 3]), ([], []), ([4, 5], [4, 5]), ([], []), ([], []), ([], []), ([9], [9]), ([8, 10], [8, 10]), ([0, 6, 7, 11], [0, 6, 7, 11]), ([12, 12, 0, 1, 2, 3, 4, 5, 6, 7, 8, 9, 10, 11, 12], [12])])
def semigroupref17_Mul.B11 : List Nat := [0, 0, 0, 4, 14, 0, 62, 0, 0, 0, 512, 1792, 4095, 8191]
theorem semigroupref17_Mul.tab11 : rtab .any (opsOf Try.f28 11) = semigroupref17_Mul.T11 := by kernel_rfl
theorem semigroupref17_Mul.bits11 : waitsOk semigroupref17_Mul.T11.2 semigroupref17_Mul.B11 = true := by kernel_rfl
set_option maxHeartbeats 8000000 in
set_option maxRecDepth 100000 in
theorem semigroupref17_Mul.calls (k : Nat) (A0_0 : Option Addr) (c0_0 : Nat) (l0_0 : List (List Int)) (a0_1 : Int) (a0_2 : Int) (A0_3 : Option Addr) (c0_3 : Nat) (l0_3 : List (List Int)) (a0_4 : Bool) (a1 : Int) (a2 : Int) (r : Int) (w : World) (hr0_0 : Kd.C (Kd.slice 3 (Kd.int .i64)) w A0_0 l0_0.length l0_0) (hc0_0 : l0_0.length ≤ c0_0) (hr0_3 : Kd.C (Kd.slice 3 (Kd.int .i64)) w A0_3 l0_3.length l0_3) (hc0_3 : l0_3.length ≤ c0_3) (h : semigroupref17_Mul.f k l0_0 a0_1 a0_2 l0_3 a0_4 a1 a2 = some r) :
  Calls Try.prog 28 #[.agg #[.slice A0_0 l0_0.length c0_0, .int .i64 a0_1, .int .i64 a0_2, .slice A0_3 l0_3.length c0_3, .bool a0_4], .int .i64 a1, .int .i64 a2] w fun e w' => e = .returned (.int .i64 r) ∧ Below w.heap.size w w' := by
 have hu24 := Try.underlying24
 have HR0_0 := Aside0.mk hr0_0
 have HC0_0 := Aside0.mk hc0_0
 (try clear hr0_0); (try clear hc0_0)
 have HR0_3 := Aside0.mk hr0_3
 have HC0_3 := Aside0.mk hc0_3
 (try clear hr0_3); (try clear hc0_3)
 have HB := Aside0.mk (Below.refl w.heap.size w)
 have H : (if a1 < 0 then (semigroupref17_Mul.j0 k a1 a2 true l0_0 a0_1 a0_2 l0_3 a0_4) else ((semigroupref17_Size.f l0_0 a0_1 a0_2 l0_3 a0_4).bind fun t290 => (if a1 ≥ t290 then (semigroupref17_Mul.j0 k a1 a2 true l0_0 a0_1 a0_2 l0_3 a0_4) else (if a2 < 0 then (semigroupref17_Mul.j0 k a1 a2 true l0_0 a0_1 a0_2 l0_3 a0_4) else ((semigroupref17_Size.f l0_0 a0_1 a0_2 l0_3 a0_4).bind fun t291 => (semigroupref17_Mul.j0 k a1 a2 (decide (a2 ≥ t291)) l0_0 a0_1 a0_2 l0_3 a0_4)))))) = some r := h
 clear h
 have HC4 := Aside0.mk H
 clear H
 go_enter Try.func28, Try.ntmps28
 go_upto_region 1 with (first | ((with_reducible refine gate_dst (N := 3) rfl ?_); refine box_event ?hg (N := 3) ?hd (cs := #[.slice A0_0 l0_0.length c0_0, .int .i64 a0_1, .int .i64 a0_2, .slice A0_3 l0_3.length c0_3, .bool a0_4]) (t := 24) ?hr ?_; (case hd => rfl); (case hg => rfl); q_hr; intro gb289 hg w5 hbox hb; have n0_ := Aside0.mk (below_step q_hb hb); have n1_ := Aside0.mk (hbox); have n2_ := Aside0.mk ((by rw [hg]; exact q_bs : w.heap.size ≤ gb289)); have n3_ := Aside0.mk ((by rw [hg]; exact q_bs : w.heap.size ≤ gb289)); clear HB; have HB := n0_; have BK289 := n1_; have GW289 := n2_; have GE289 := n3_; clear n0_ n1_ n2_ n3_; (q_x hb hbox); (try clear hg)))
 (try simp only [Act.put, List.setIfInBounds_toArray, List.set_cons_zero, List.set_cons_succ])
 go_cut [29] (fun v29 wc => ∃ (kq : Nat) (x29_3 : Bool), v29 = .bool x29_3 ∧ Aside0 (semigroupref17_Mul.j0 kq a1 a2 x29_3 l0_0 a0_1 a0_2 l0_3 a0_4 = some r) ∧ Aside0 (kq ≤ k) ∧ Aside0 (wc.heap[gb289]? = some (.cells #[(.slice A0_0 l0_0.length c0_0), .int .i64 a0_1, .int .i64 a0_2, (.slice A0_3 l0_3.length c0_3), .bool a0_4] 24 (0, 0))) ∧ Aside0 (Below w.heap.size w wc))
 case first =>
  have H := HC4.out
  clear HC4
  by_cases c6 : a1 < 0
  ·rw [if_pos c6] at H
   have c6b0 : decide (a1 < 0) = true := decide_eq_true c6
   clear c6
   (first | rw [c6b0] | (simp only [i64_w, i32_w]; rw [c6b0]) | skip)
   have H' := Aside0.mk H
   clear H
   go_wp2
   go_meet
   case rel => exact ⟨_, (true), q_rs, H', ⟨by first | omega | exact Nat.le_refl _⟩, ⟨by q_bk; exact BK289.out⟩, ⟨by repeat (first | (with_reducible first | exact HB.out | apply below_alloc | apply pw_below_drewN | apply below_drew1 | refine below_set ?_ GE289.out) | exact HB.out)⟩⟩
  ·rw [if_neg c6] at H
   have c6b0 : decide (a1 < 0) = false := decide_eq_false c6
   clear c6
   (first | rw [c6b0] | (simp only [i64_w, i32_w]; rw [c6b0]) | skip)
   replace H := Option.bind_eq_some_iff.mp H
   obtain ⟨t290, A70, H⟩ := H
   replace H : (if a1 ≥ t290 then (semigroupref17_Mul.j0 k a1 a2 true l0_0 a0_1 a0_2 l0_3 a0_4) else (if a2 < 0 then (semigroupref17_Mul.j0 k a1 a2 true l0_0 a0_1 a0_2 l0_3 a0_4) else ((semigroupref17_Size.f l0_0 a0_1 a0_2 l0_3 a0_4).bind fun t291 => (semigroupref17_Mul.j0 k a1 a2 (decide (a2 ≥ t291)) l0_0 a0_1 a0_2 l0_3 a0_4)))) = some r := H
   have A7 := Aside0.mk A70
   clear A70
   by_cases c8 : a1 ≥ t290
   ·rw [if_pos c8] at H
    have c8b0 : decide (t290 ≤ a1) = true := decide_eq_true c8
    clear c8
    have H' := Aside0.mk H
    clear H
    have hcz9_0 : w5.cell? ⟨gb289, 0, none⟩ = some (.slice A0_0 l0_0.length c0_0) := (blk_cell BK289.out 0).trans rfl
    have hcz9_1 : w5.cell? ⟨gb289, 1, none⟩ = some (.int .i64 a0_1) := (blk_cell BK289.out 1).trans rfl
    have hcz9_2 : w5.cell? ⟨gb289, 2, none⟩ = some (.int .i64 a0_2) := (blk_cell BK289.out 2).trans rfl
    have hcz9_3 : w5.cell? ⟨gb289, 3, none⟩ = some (.slice A0_3 l0_3.length c0_3) := (blk_cell BK289.out 3).trans rfl
    have hcz9_4 : w5.cell? ⟨gb289, 4, none⟩ = some (.bool a0_4) := (blk_cell BK289.out 4).trans rfl
    have hfz9_0 := blk_frozen BK289.out 0
    have hfz9_1 := blk_frozen BK289.out 1
    have hfz9_2 := blk_frozen BK289.out 2
    have hfz9_3 := blk_frozen BK289.out 3
    have hfz9_4 := blk_frozen BK289.out 4
    go_wp2_with (first | (go_at_call 16; (with_reducible refine (semigroupref17_Size.calls _ _ l0_0 a0_1 a0_2 _ _ l0_3 a0_4 t290 _ ?side1 ?side2 ?side3 ?side4 A7.out).mono ?_); (case side1 => q_cc (Kd.C_below HR0_0.out HB.out)); (case side2 => exact HC0_0.out); (case side3 => q_cc (Kd.C_below HR0_3.out HB.out)); (case side4 => exact HC0_3.out); rintro e w10 ⟨rfl, hb⟩; have n0_ := Aside0.mk (blk_below (g := gb289) (o := .cells #[.slice A0_0 l0_0.length c0_0, .int .i64 a0_1, .int .i64 a0_2, .slice A0_3 l0_3.length c0_3, .bool a0_4] 24 (0, 0)) (by q_bk; exact BK289.out) hb); have n1_ := Aside0.mk (below_step (q_hs GE289.out) hb); clear BK289; clear HB; have BK289 := n0_; have HB := n1_; clear n0_ n1_; (q_x hb hb2 hk); (try clear hi)))
    go_meet
    case rel => exact ⟨_, (true), q_rs, H', ⟨by first | omega | exact Nat.le_refl _⟩, ⟨by q_bk; exact BK289.out⟩, ⟨by repeat (first | (with_reducible first | exact HB.out | apply below_alloc | apply pw_below_drewN | apply below_drew1 | refine below_set ?_ GE289.out) | exact HB.out)⟩⟩
   ·rw [if_neg c8] at H
    have c8b0 : decide (t290 ≤ a1) = false := decide_eq_false c8
    clear c8
    by_cases c11 : a2 < 0
    ·rw [if_pos c11] at H
     have c11b0 : decide (a2 < 0) = true := decide_eq_true c11
     clear c11
     have H' := Aside0.mk H
     clear H
     have hcz12_0 : w5.cell? ⟨gb289, 0, none⟩ = some (.slice A0_0 l0_0.length c0_0) := (blk_cell BK289.out 0).trans rfl
     have hcz12_1 : w5.cell? ⟨gb289, 1, none⟩ = some (.int .i64 a0_1) := (blk_cell BK289.out 1).trans rfl
     have hcz12_2 : w5.cell? ⟨gb289, 2, none⟩ = some (.int .i64 a0_2) := (blk_cell BK289.out 2).trans rfl
     have hcz12_3 : w5.cell? ⟨gb289, 3, none⟩ = some (.slice A0_3 l0_3.length c0_3) := (blk_cell BK289.out 3).trans rfl
     have hcz12_4 : w5.cell? ⟨gb289, 4, none⟩ = some (.bool a0_4) := (blk_cell BK289.out 4).trans rfl
     have hfz12_0 := blk_frozen BK289.out 0
     have hfz12_1 := blk_frozen BK289.out 1
     have hfz12_2 := blk_frozen BK289.out 2
     have hfz12_3 := blk_frozen BK289.out 3
     have hfz12_4 := blk_frozen BK289.out 4
     go_wp2_with (first | (go_at_call 16; (with_reducible refine (semigroupref17_Size.calls _ _ l0_0 a0_1 a0_2 _ _ l0_3 a0_4 t290 _ ?side1 ?side2 ?side3 ?side4 A7.out).mono ?_); (case side1 => q_cc (Kd.C_below HR0_0.out HB.out)); (case side2 => exact HC0_0.out); (case side3 => q_cc (Kd.C_below HR0_3.out HB.out)); (case side4 => exact HC0_3.out); rintro e w13 ⟨rfl, hb⟩; have n0_ := Aside0.mk (blk_below (g := gb289) (o := .cells #[.slice A0_0 l0_0.length c0_0, .int .i64 a0_1, .int .i64 a0_2, .slice A0_3 l0_3.length c0_3, .bool a0_4] 24 (0, 0)) (by q_bk; exact BK289.out) hb); have n1_ := Aside0.mk (below_step (q_hs GE289.out) hb); clear BK289; clear HB; have BK289 := n0_; have HB := n1_; clear n0_ n1_; (q_x hb hb2 hk); (try clear hi)))
     go_meet
     case rel => exact ⟨_, (true), q_rs, H', ⟨by first | omega | exact Nat.le_refl _⟩, ⟨by q_bk; exact BK289.out⟩, ⟨by repeat (first | (with_reducible first | exact HB.out | apply below_alloc | apply pw_below_drewN | apply below_drew1 | refine below_set ?_ GE289.out) | exact HB.out)⟩⟩
    ·rw [if_neg c11] at H
     have c11b0 : decide (a2 < 0) = false := decide_eq_false c11
     clear c11
     replace H := Option.bind_eq_some_iff.mp H
     obtain ⟨t291, A140, H⟩ := H
     obtain rfl : t290 = t291 := Option.some.inj (A7.out.symm.trans A140)
     replace H : (semigroupref17_Mul.j0 k a1 a2 (decide (a2 ≥ t290)) l0_0 a0_1 a0_2 l0_3 a0_4) = some r := H
     have A14 := Aside0.mk A140
     clear A140
     have H' := Aside0.mk H
     clear H
     have hcz15_0 : w5.cell? ⟨gb289, 0, none⟩ = some (.slice A0_0 l0_0.length c0_0) := (blk_cell BK289.out 0).trans rfl
     have hcz15_1 : w5.cell? ⟨gb289, 1, none⟩ = some (.int .i64 a0_1) := (blk_cell BK289.out 1).trans rfl
     have hcz15_2 : w5.cell? ⟨gb289, 2, none⟩ = some (.int .i64 a0_2) := (blk_cell BK289.out 2).trans rfl
     have hcz15_3 : w5.cell? ⟨gb289, 3, none⟩ = some (.slice A0_3 l0_3.length c0_3) := (blk_cell BK289.out 3).trans rfl
     have hcz15_4 : w5.cell? ⟨gb289, 4, none⟩ = some (.bool a0_4) := (blk_cell BK289.out 4).trans rfl
     have hfz15_0 := blk_frozen BK289.out 0
     have hfz15_1 := blk_frozen BK289.out 1
     have hfz15_2 := blk_frozen BK289.out 2
     have hfz15_3 := blk_frozen BK289.out 3
     have hfz15_4 := blk_frozen BK289.out 4
     go_wp2_with (first | (go_at_call 16; (with_reducible refine (semigroupref17_Size.calls _ _ l0_0 a0_1 a0_2 _ _ l0_3 a0_4 t290 _ ?side1 ?side2 ?side3 ?side4 A7.out).mono ?_); (case side1 => q_cc (Kd.C_below HR0_0.out HB.out)); (case side2 => exact HC0_0.out); (case side3 => q_cc (Kd.C_below HR0_3.out HB.out)); (case side4 => exact HC0_3.out); rintro e w16 ⟨rfl, hb⟩; have n0_ := Aside0.mk (blk_below (g := gb289) (o := .cells #[.slice A0_0 l0_0.length c0_0, .int .i64 a0_1, .int .i64 a0_2, .slice A0_3 l0_3.length c0_3, .bool a0_4] 24 (0, 0)) (by q_bk; exact BK289.out) hb); have n1_ := Aside0.mk (below_step (q_hs GE289.out) hb); clear BK289; clear HB; have BK289 := n0_; have HB := n1_; clear n0_ n1_; (q_x hb hb2 hk hi); have hcz17_0 : w16.cell? ⟨gb289, 0, none⟩ = some (.slice A0_0 l0_0.length c0_0) := (blk_cell BK289.out 0).trans rfl; have hcz17_1 : w16.cell? ⟨gb289, 1, none⟩ = some (.int .i64 a0_1) := (blk_cell BK289.out 1).trans rfl; have hcz17_2 : w16.cell? ⟨gb289, 2, none⟩ = some (.int .i64 a0_2) := (blk_cell BK289.out 2).trans rfl; have hcz17_3 : w16.cell? ⟨gb289, 3, none⟩ = some (.slice A0_3 l0_3.length c0_3) := (blk_cell BK289.out 3).trans rfl; have hcz17_4 : w16.cell? ⟨gb289, 4, none⟩ = some (.bool a0_4) := (blk_cell BK289.out 4).trans rfl; have hfz17_0 := blk_frozen BK289.out 0; have hfz17_1 := blk_frozen BK289.out 1; have hfz17_2 := blk_frozen BK289.out 2; have hfz17_3 := blk_frozen BK289.out 3; have hfz17_4 := blk_frozen BK289.out 4) | (go_at_call 16; (with_reducible refine (semigroupref17_Size.calls _ _ l0_0 a0_1 a0_2 _ _ l0_3 a0_4 t290 _ ?side1 ?side2 ?side3 ?side4 A14.out).mono ?_); (case side1 => q_cc (Kd.C_below HR0_0.out HB.out)); (case side2 => exact HC0_0.out); (case side3 => q_cc (Kd.C_below HR0_3.out HB.out)); (case side4 => exact HC0_3.out); rintro e w18 ⟨rfl, hb⟩; have n0_ := Aside0.mk (blk_below (g := gb289) (o := .cells #[.slice A0_0 l0_0.length c0_0, .int .i64 a0_1, .int .i64 a0_2, .slice A0_3 l0_3.length c0_3, .bool a0_4] 24 (0, 0)) (by q_bk; exact BK289.out) hb); have n1_ := Aside0.mk (below_step (q_hs GE289.out) hb); clear BK289; clear HB; have BK289 := n0_; have HB := n1_; clear n0_ n1_; (q_x hb hb2 hk); (try clear hi)))
     go_meet
     case rel => exact ⟨_, (decide (a2 ≥ t290)), q_rs, H', ⟨by first | omega | exact Nat.le_refl _⟩, ⟨by q_bk; exact BK289.out⟩, ⟨by repeat (first | (with_reducible first | exact HB.out | apply below_alloc | apply pw_below_drewN | apply below_drew1 | refine below_set ?_ GE289.out) | exact HB.out)⟩⟩
 case rest =>
  clear HC4
  q_x c1 c2 p2 c6 c6b0 c8 c8b0 c11 c11b0 hcz12_0 hcz12_1 hcz12_2 hcz12_3 hcz12_4 hcz15_0 hcz15_1 hcz15_2 hcz15_3 hcz15_4 hcz17_0 hcz17_1 hcz17_2 hcz17_3 hcz17_4 hcz9_0 hcz9_1 hcz9_2 hcz9_3 hcz9_4 hfz12_0 hfz12_1 hfz12_2 hfz12_3 hfz12_4 hfz15_0 hfz15_1 hfz15_2 hfz15_3 hfz15_4 hfz17_0 hfz17_1 hfz17_2 hfz17_3 hfz17_4 hfz9_0 hfz9_1 hfz9_2 hfz9_3 hfz9_4
  obtain ⟨kq, x29_3, rfl, HA, HJ3, BK289, HB⟩ := hcut
  cases kq with
  | zero => exact absurd HA.out (by simp [semigroupref17_Mul.j0])
  | succ kj3 =>
   have H := HA.out
   clear HA
   simp only [semigroupref17_Mul.j0] at H
   by_cases c19 : x29_3 = true
   ·subst c19
    have H1 : (some (-1)) = some r := by rw [if_pos rfl] at H; exact H
    clear H
    have H := H1
    clear H1
    obtain rfl := Option.some.inj H
    go_wp2
    go_ret
    exact ⟨by first | rfl | q_em | q_en, by repeat (first | (with_reducible first | exact HB.out | apply below_alloc | apply pw_below_drewN | apply below_drew1 | refine below_set ?_ GE289.out) | exact HB.out)⟩
   ·replace c19 := Bool.eq_false_iff.mpr c19
    subst c19
    have H1 : ((semigroupref17_base.f l0_0 a0_1 a0_2 l0_3 a0_4).bind fun t292 => ((semigroupref17_base.f l0_0 a0_1 a0_2 l0_3 a0_4).bind fun t293 => (if (wrap64 (a1 - t292)) < 0 then (semigroupref17_Mul.j1 kj3 (wrap64 (a1 - t292)) (wrap64 (a2 - t293)) true l0_0 a0_1 a0_2 l0_3 a0_4) else (semigroupref17_Mul.j1 kj3 (wrap64 (a1 - t292)) (wrap64 (a2 - t293)) (decide ((wrap64 (a2 - t293)) < 0)) l0_0 a0_1 a0_2 l0_3 a0_4)))) = some r := by rw [if_neg (show ¬ (false = true) by decide)] at H; exact H
    clear H
    have H := H1
    clear H1
    replace H := Option.bind_eq_some_iff.mp H
    obtain ⟨t292, A200, H⟩ := H
    replace H : ((semigroupref17_base.f l0_0 a0_1 a0_2 l0_3 a0_4).bind fun t293 => (if (wrap64 (a1 - t292)) < 0 then (semigroupref17_Mul.j1 kj3 (wrap64 (a1 - t292)) (wrap64 (a2 - t293)) true l0_0 a0_1 a0_2 l0_3 a0_4) else (semigroupref17_Mul.j1 kj3 (wrap64 (a1 - t292)) (wrap64 (a2 - t293)) (decide ((wrap64 (a2 - t293)) < 0)) l0_0 a0_1 a0_2 l0_3 a0_4))) = some r := H
    have A20 := Aside0.mk A200
    clear A200
    replace H := Option.bind_eq_some_iff.mp H
    obtain ⟨t293, A210, H⟩ := H
    replace H : (if (wrap64 (a1 - t292)) < 0 then (semigroupref17_Mul.j1 kj3 (wrap64 (a1 - t292)) (wrap64 (a2 - t293)) true l0_0 a0_1 a0_2 l0_3 a0_4) else (semigroupref17_Mul.j1 kj3 (wrap64 (a1 - t292)) (wrap64 (a2 - t293)) (decide ((wrap64 (a2 - t293)) < 0)) l0_0 a0_1 a0_2 l0_3 a0_4)) = some r := H
    have A21 := Aside0.mk A210
    clear A210
    have HC22 := Aside0.mk H
    clear H
    try go_wp2
    have n0_ := Aside0.mk (blk_drew BK289.out)
    have n1_ := Aside0.mk (below_drew1 HB.out)
    clear HB BK289
    have BK289 := n0_
    have HB := n1_
    clear n0_ n1_
    refine start_ (n := 10) (S := fun w' => w'.cell? ⟨gb289, 0, none⟩ = some (.slice A0_0 l0_0.length c0_0) ∧ w'.cell? ⟨gb289, 1, none⟩ = some (.int .i64 a0_1) ∧ w'.cell? ⟨gb289, 2, none⟩ = some (.int .i64 a0_2) ∧ w'.cell? ⟨gb289, 3, none⟩ = some (.slice A0_3 l0_3.length c0_3) ∧ w'.cell? ⟨gb289, 4, none⟩ = some (.bool a0_4)) (ds := []) #[false, false, false, false, false, false, false, false, false, false] (by kernel_rfl) rfl rfl ⟨(blk_cell BK289.out 0).trans rfl, (blk_cell BK289.out 1).trans rfl, (blk_cell BK289.out 2).trans rfl, (blk_cell BK289.out 3).trans rfl, (blk_cell BK289.out 4).trans rfl⟩ (fun hHeld => ?_); refine with_tabW semigroupref17_Mul.tab3 semigroupref17_Mul.bits3 (fun HT_ HW_ => ?_)
    generalize wc.drew = w23 at BK289 HB hHeld ⊢
    refine pure_ (i := 0) (N := some 30) (v := ?_) (a' := ?_) #[true, false, false, false, false, false, false, false, false, false] rfl rfl q_ho q_id (Or.inl ⟨by rfl, ?_⟩) ?_ ?_
    rotate_left
    ·intro w'
     go_simp
     with_reducible rfl
    rotate_left
    ·q_si
     rfl
    refine pure_ (i := 4) (N := some 34) (v := ?_) (a' := ?_) #[true, false, false, false, true, false, false, false, false, false] rfl rfl q_ho q_id (Or.inl ⟨by rfl, ?_⟩) ?_ ?_
    rotate_left
    ·intro w'
     go_simp
     with_reducible rfl
    rotate_left
    ·q_si
     rfl
    refine take_ (i := 1) (N := some 31) (v := ?_) (a' := ?_) #[true, true, false, false, true, false, false, false, false, false] rfl rfl q_to q_id (Or.inl ⟨by rfl, ?_⟩) hHeld ?_ ?_
    rotate_left
    ·rintro w' ⟨s0, s1, s2, s3, s4⟩
     go_simp
     with_reducible rfl
    rotate_left
    ·q_si
     rfl
    refine take_ (i := 5) (N := some 35) (v := ?_) (a' := ?_) #[true, true, false, false, true, true, false, false, false, false] rfl rfl q_to q_id (Or.inl ⟨by rfl, ?_⟩) hHeld ?_ ?_
    rotate_left
    ·rintro w' ⟨s0, s1, s2, s3, s4⟩
     go_simp
     with_reducible rfl
    rotate_left
    ·q_si
     rfl
    refine one_ (i := 2) (N := some 32) #[true, true, true, false, true, true, false, false, false, false] rfl rfl (one_of HT_.out (by kernel_rfl)) (by decide) (fun K hK => ?_)
    refine goes_ Try.func46 (by kernel_rfl) rfl #[.agg #[.slice A0_0 l0_0.length c0_0, .int .i64 a0_1, .int .i64 a0_2, .slice A0_3 l0_3.length c0_3, .bool a0_4]] (by rfl) rfl rfl q_ml ?_
    with_reducible refine (semigroupref17_base.calls _ _ l0_0 a0_1 a0_2 _ _ l0_3 a0_4 t292 _ ?side1 ?side2 ?side3 ?side4 A20.out).mono ?_
    (case side1 => q_cc (Kd.C_below HR0_0.out HB.out))
    (case side2 => exact HC0_0.out)
    (case side3 => q_cc (Kd.C_below HR0_3.out HB.out))
    (case side4 => exact HC0_3.out)
    rintro e w24 ⟨rfl, hb⟩
    refine ⟨_, rfl, ?_⟩
    have n0_ := Aside0.mk (blk_below (g := gb289) (o := .cells #[.slice A0_0 l0_0.length c0_0, .int .i64 a0_1, .int .i64 a0_2, .slice A0_3 l0_3.length c0_3, .bool a0_4] 24 (0, 0)) (by q_bk; exact BK289.out) hb)
    have n1_ := Aside0.mk (below_step (q_hs GE289.out) hb)
    clear HB BK289
    have BK289 := n0_
    have HB := n1_
    clear n0_ n1_
    (try clear hb)
    (try clear hb2)
    (try clear hk)
    (try clear hi)
    refine hK.out _ _ ⟨(blk_cell BK289.out 0).trans rfl, (blk_cell BK289.out 1).trans rfl, (blk_cell BK289.out 2).trans rfl, (blk_cell BK289.out 3).trans rfl, (blk_cell BK289.out 4).trans rfl⟩ (fun hHeld => ?_)
    clear hK K
    refine norm_ (a' := ?_) ?_ ?_
    rotate_left
    ·show Act.put _ (some 32) _ = _
     simp only [Act.put, List.setIfInBounds_toArray, List.set_cons_zero, List.set_cons_succ, i64_w, i32_w]
     rfl
    refine pure_ (i := 3) (N := some 33) (v := ?_) (a' := ?_) #[true, true, true, true, true, true, false, false, false, false] rfl rfl q_ho q_id (Or.inl ⟨by rfl, ?_⟩) ?_ ?_
    rotate_left
    ·intro w'
     go_simp
     with_reducible rfl
    rotate_left
    ·q_si
     rfl
    refine one_ (i := 6) (N := some 36) #[true, true, true, true, true, true, true, false, false, false] rfl rfl (one_of HT_.out (by kernel_rfl)) (by decide) (fun K hK => ?_)
    refine goes_ Try.func46 (by kernel_rfl) rfl #[.agg #[.slice A0_0 l0_0.length c0_0, .int .i64 a0_1, .int .i64 a0_2, .slice A0_3 l0_3.length c0_3, .bool a0_4]] (by rfl) rfl rfl q_ml ?_
    with_reducible refine (semigroupref17_base.calls _ _ l0_0 a0_1 a0_2 _ _ l0_3 a0_4 t293 _ ?side1 ?side2 ?side3 ?side4 A21.out).mono ?_
    (case side1 => q_cc (Kd.C_below HR0_0.out HB.out))
    (case side2 => exact HC0_0.out)
    (case side3 => q_cc (Kd.C_below HR0_3.out HB.out))
    (case side4 => exact HC0_3.out)
    rintro e w25 ⟨rfl, hb⟩
    refine ⟨_, rfl, ?_⟩
    have n0_ := Aside0.mk (blk_below (g := gb289) (o := .cells #[.slice A0_0 l0_0.length c0_0, .int .i64 a0_1, .int .i64 a0_2, .slice A0_3 l0_3.length c0_3, .bool a0_4] 24 (0, 0)) (by q_bk; exact BK289.out) hb)
    have n1_ := Aside0.mk (below_step (q_hs GE289.out) hb)
    clear HB BK289
    have BK289 := n0_
    have HB := n1_
    clear n0_ n1_
    (try clear hb)
    (try clear hb2)
    (try clear hk)
    (try clear hi)
    refine hK.out _ _ ⟨(blk_cell BK289.out 0).trans rfl, (blk_cell BK289.out 1).trans rfl, (blk_cell BK289.out 2).trans rfl, (blk_cell BK289.out 3).trans rfl, (blk_cell BK289.out 4).trans rfl⟩ (fun hHeld => ?_)
    clear hK K
    refine norm_ (a' := ?_) ?_ ?_
    rotate_left
    ·show Act.put _ (some 36) _ = _
     simp only [Act.put, List.setIfInBounds_toArray, List.set_cons_zero, List.set_cons_succ, i64_w, i32_w]
     rfl
    refine pure_ (i := 7) (N := some 37) (v := ?_) (a' := ?_) #[true, true, true, true, true, true, true, true, false, false] rfl rfl q_ho q_id (Or.inl ⟨by rfl, ?_⟩) ?_ ?_
    rotate_left
    ·intro w'
     go_simp
     with_reducible rfl
    rotate_left
    ·q_si
     rfl
    refine pure_ (i := 8) (N := some 7) (v := ?_) (a' := ?_) #[true, true, true, true, true, true, true, true, true, false] rfl rfl q_ho q_id (Or.inl ⟨by rfl, ?_⟩) ?_ ?_
    rotate_left
    ·intro w'
     go_simp
     with_reducible rfl
    rotate_left
    ·q_si
     rfl
    refine pure_ (i := 9) (N := some 8) (v := ?_) (a' := ?_) #[true, true, true, true, true, true, true, true, true, true] rfl rfl q_ho q_id (Or.inl ⟨by rfl, ?_⟩) ?_ ?_
    rotate_left
    ·intro w'
     go_simp
     with_reducible rfl
    rotate_left
    ·q_si
     rfl
    refine done_ (done_of HT_.out (by kernel_rfl)) ?_
    go_upto_region 4 with (fail)
    go_cut [43] (fun v43 wc => ∃ (kq : Nat) (x43_21 : Bool), v43 = .bool x43_21 ∧ Aside0 (semigroupref17_Mul.j1 kq (wrap64 (a1 - t292)) (wrap64 (a2 - t293)) x43_21 l0_0 a0_1 a0_2 l0_3 a0_4 = some r) ∧ Aside0 (kq ≤ kj3) ∧ Aside0 (wc.heap[gb289]? = some (.cells #[(.slice A0_0 l0_0.length c0_0), .int .i64 a0_1, .int .i64 a0_2, (.slice A0_3 l0_3.length c0_3), .bool a0_4] 24 (0, 0))) ∧ Aside0 (Below w.heap.size w wc))
    case first =>
     have H := HC22.out
     clear HC22
     by_cases c26 : (wrap64 (a1 - t292)) < 0
     ·rw [if_pos c26] at H
      have c26b0 : decide ((wrap64 (a1 - t292)) < 0) = true := decide_eq_true c26
      clear c26
      (first | rw [c26b0] | (simp only [i64_w, i32_w]; rw [c26b0]) | skip)
      have H' := Aside0.mk H
      clear H
      go_wp2
      go_meet
      case rel => exact ⟨_, (true), q_rs, H', ⟨by have := HJ3.out; first | omega | exact Nat.le_refl _⟩, ⟨by q_bk; exact BK289.out⟩, ⟨by repeat (first | (with_reducible first | exact HB.out | apply below_alloc | apply pw_below_drewN | apply below_drew1 | refine below_set ?_ GE289.out) | exact HB.out)⟩⟩
     ·rw [if_neg c26] at H
      have c26b0 : decide ((wrap64 (a1 - t292)) < 0) = false := decide_eq_false c26
      clear c26
      (first | rw [c26b0] | (simp only [i64_w, i32_w]; rw [c26b0]) | skip)
      have H' := Aside0.mk H
      clear H
      go_wp2
      go_meet
      case rel => exact ⟨_, (decide ((wrap64 (a2 - t293)) < 0)), q_rs, H', ⟨by have := HJ3.out; first | omega | exact Nat.le_refl _⟩, ⟨by q_bk; exact BK289.out⟩, ⟨by repeat (first | (with_reducible first | exact HB.out | apply below_alloc | apply pw_below_drewN | apply below_drew1 | refine below_set ?_ GE289.out) | exact HB.out)⟩⟩
    case rest =>
     clear HC22
     q_x c1 c2 p2 c4 c6 c6b0 p6 c8 c8b0 c11 c11b0 c19 c26 c26b0 hcz12_0 hcz12_1 hcz12_2 hcz12_3 hcz12_4 hcz15_0 hcz15_1 hcz15_2 hcz15_3 hcz15_4 hcz17_0 hcz17_1 hcz17_2 hcz17_3 hcz17_4 hcz9_0 hcz9_1 hcz9_2 hcz9_3 hcz9_4 hfz12_0 hfz12_1 hfz12_2 hfz12_3 hfz12_4 hfz15_0 hfz15_1 hfz15_2 hfz15_3 hfz15_4 hfz17_0 hfz17_1 hfz17_2 hfz17_3 hfz17_4 hfz9_0 hfz9_1 hfz9_2 hfz9_3 hfz9_4 p2
     obtain ⟨kq, x43_21, rfl, HA, HJ21, BK289, HB⟩ := hcut
     cases kq with
     | zero => exact absurd HA.out (by simp [semigroupref17_Mul.j1])
     | succ kj21 =>
      have H := HA.out
      clear HA
      simp only [semigroupref17_Mul.j1] at H
      by_cases c27 : x43_21 = true
      ·subst c27
       have H1 : (some 0) = some r := by rw [if_pos rfl] at H; exact H
       clear H
       have H := H1
       clear H1
       obtain rfl := Option.some.inj H
       go_wp2
       go_ret
       exact ⟨by first | rfl | q_em | q_en, by repeat (first | (with_reducible first | exact HB.out | apply below_alloc | apply pw_below_drewN | apply below_drew1 | refine below_set ?_ GE289.out) | exact HB.out)⟩
      ·replace c27 := Bool.eq_false_iff.mpr c27
       subst c27
       have H1 : (if a0_2 = 0 then (none) else (if 0 ≤ (Int.tmod (wrap64 (a1 - t292)) a0_2) then (if (Int.tmod (wrap64 (a1 - t292)) a0_2) < (l0_3.length : Int) then (if (l0_0.length : Int) = 0 then (none) else (if 0 ≤ (wrap64 (Int.tdiv (wrap64 (Int.tdiv (wrap64 (a2 - t293)) a0_2)) (l0_0.length : Int))) then (if (wrap64 (Int.tdiv (wrap64 (Int.tdiv (wrap64 (a2 - t293)) a0_2)) (l0_0.length : Int))) < ((rd_L1 l0_3 (Int.tmod (wrap64 (a1 - t292)) a0_2)).length : Int) then (if (rd (rd_L1 l0_3 (Int.tmod (wrap64 (a1 - t292)) a0_2)) (wrap64 (Int.tdiv (wrap64 (Int.tdiv (wrap64 (a2 - t293)) a0_2)) (l0_0.length : Int)))) < 0 then (some 0) else (if 0 ≤ (Int.tmod (wrap64 (Int.tdiv (wrap64 (a1 - t292)) a0_2)) (l0_0.length : Int)) then (if (Int.tmod (wrap64 (Int.tdiv (wrap64 (a1 - t292)) a0_2)) (l0_0.length : Int)) < (l0_0.length : Int) then (if 0 ≤ (rd (rd_L1 l0_3 (Int.tmod (wrap64 (a1 - t292)) a0_2)) (wrap64 (Int.tdiv (wrap64 (Int.tdiv (wrap64 (a2 - t293)) a0_2)) (l0_0.length : Int)))) then (if (rd (rd_L1 l0_3 (Int.tmod (wrap64 (a1 - t292)) a0_2)) (wrap64 (Int.tdiv (wrap64 (Int.tdiv (wrap64 (a2 - t293)) a0_2)) (l0_0.length : Int)))) < ((rd_L1 l0_0 (Int.tmod (wrap64 (Int.tdiv (wrap64 (a1 - t292)) a0_2)) (l0_0.length : Int))).length : Int) then (if 0 ≤ (rd (rd_L1 l0_0 (Int.tmod (wrap64 (Int.tdiv (wrap64 (a1 - t292)) a0_2)) (l0_0.length : Int))) (rd (rd_L1 l0_3 (Int.tmod (wrap64 (a1 - t292)) a0_2)) (wrap64 (Int.tdiv (wrap64 (Int.tdiv (wrap64 (a2 - t293)) a0_2)) (l0_0.length : Int))))) then (if (rd (rd_L1 l0_0 (Int.tmod (wrap64 (Int.tdiv (wrap64 (a1 - t292)) a0_2)) (l0_0.length : Int))) (rd (rd_L1 l0_3 (Int.tmod (wrap64 (a1 - t292)) a0_2)) (wrap64 (Int.tdiv (wrap64 (Int.tdiv (wrap64 (a2 - t293)) a0_2)) (l0_0.length : Int))))) < (l0_0.length : Int) then (if 0 ≤ (Int.tmod (wrap64 (Int.tdiv (wrap64 (a2 - t293)) a0_2)) (l0_0.length : Int)) then (if (Int.tmod (wrap64 (Int.tdiv (wrap64 (a2 - t293)) a0_2)) (l0_0.length : Int)) < ((rd_L1 l0_0 (rd (rd_L1 l0_0 (Int.tmod (wrap64 (Int.tdiv (wrap64 (a1 - t292)) a0_2)) (l0_0.length : Int))) (rd (rd_L1 l0_3 (Int.tmod (wrap64 (a1 - t292)) a0_2)) (wrap64 (Int.tdiv (wrap64 (Int.tdiv (wrap64 (a2 - t293)) a0_2)) (l0_0.length : Int)))))).length : Int) then ((semigroupref17_Number.f l0_0 a0_1 a0_2 l0_3 a0_4 (wrap64 (Int.tdiv (wrap64 (Int.tdiv (wrap64 (a1 - t292)) a0_2)) (l0_0.length : Int))) (rd (rd_L1 l0_0 (rd (rd_L1 l0_0 (Int.tmod (wrap64 (Int.tdiv (wrap64 (a1 - t292)) a0_2)) (l0_0.length : Int))) (rd (rd_L1 l0_3 (Int.tmod (wrap64 (a1 - t292)) a0_2)) (wrap64 (Int.tdiv (wrap64 (Int.tdiv (wrap64 (a2 - t293)) a0_2)) (l0_0.length : Int)))))) (Int.tmod (wrap64 (Int.tdiv (wrap64 (a2 - t293)) a0_2)) (l0_0.length : Int))) (Int.tmod (wrap64 (a2 - t293)) a0_2)).bind fun t300 => (some t300)) else (none)) else (none)) else (none)) else (none)) else (none)) else (none)) else (none)) else (none))) else (none)) else (none))) else (none)) else (none))) = some r := by rw [if_neg (show ¬ (false = true) by decide)] at H; exact H
       clear H
       have H := H1
       clear H1
       by_cases c28 : a0_2 = 0
       ·rw [if_pos c28] at H
        exact absurd H (by simp)
       ·rw [if_neg c28] at H
        have c28b0 : (a0_2 == 0) = false := beq_eq_false_iff_ne.mpr c28
        have c28b1 : (a0_2 != 0) = true := bne_iff_ne.mpr c28
        obtain ⟨ji29, hji29⟩ : ∃ j_ : Int, (Int.tmod (wrap64 (a1 - t292)) a0_2) = j_ := ⟨_, rfl⟩
        replace H : (if 0 ≤ (ji29) then (if (ji29) < (l0_3.length : Int) then (if (l0_0.length : Int) = 0 then (none) else (if 0 ≤ (wrap64 (Int.tdiv (wrap64 (Int.tdiv (wrap64 (a2 - t293)) a0_2)) (l0_0.length : Int))) then (if (wrap64 (Int.tdiv (wrap64 (Int.tdiv (wrap64 (a2 - t293)) a0_2)) (l0_0.length : Int))) < ((rd_L1 l0_3 (ji29)).length : Int) then (if (rd (rd_L1 l0_3 (ji29)) (wrap64 (Int.tdiv (wrap64 (Int.tdiv (wrap64 (a2 - t293)) a0_2)) (l0_0.length : Int)))) < 0 then (some 0) else (if 0 ≤ (Int.tmod (wrap64 (Int.tdiv (wrap64 (a1 - t292)) a0_2)) (l0_0.length : Int)) then (if (Int.tmod (wrap64 (Int.tdiv (wrap64 (a1 - t292)) a0_2)) (l0_0.length : Int)) < (l0_0.length : Int) then (if 0 ≤ (rd (rd_L1 l0_3 (ji29)) (wrap64 (Int.tdiv (wrap64 (Int.tdiv (wrap64 (a2 - t293)) a0_2)) (l0_0.length : Int)))) then (if (rd (rd_L1 l0_3 (ji29)) (wrap64 (Int.tdiv (wrap64 (Int.tdiv (wrap64 (a2 - t293)) a0_2)) (l0_0.length : Int)))) < ((rd_L1 l0_0 (Int.tmod (wrap64 (Int.tdiv (wrap64 (a1 - t292)) a0_2)) (l0_0.length : Int))).length : Int) then (if 0 ≤ (rd (rd_L1 l0_0 (Int.tmod (wrap64 (Int.tdiv (wrap64 (a1 - t292)) a0_2)) (l0_0.length : Int))) (rd (rd_L1 l0_3 (ji29)) (wrap64 (Int.tdiv (wrap64 (Int.tdiv (wrap64 (a2 - t293)) a0_2)) (l0_0.length : Int))))) then (if (rd (rd_L1 l0_0 (Int.tmod (wrap64 (Int.tdiv (wrap64 (a1 - t292)) a0_2)) (l0_0.length : Int))) (rd (rd_L1 l0_3 (ji29)) (wrap64 (Int.tdiv (wrap64 (Int.tdiv (wrap64 (a2 - t293)) a0_2)) (l0_0.length : Int))))) < (l0_0.length : Int) then (if 0 ≤ (Int.tmod (wrap64 (Int.tdiv (wrap64 (a2 - t293)) a0_2)) (l0_0.length : Int)) then (if (Int.tmod (wrap64 (Int.tdiv (wrap64 (a2 - t293)) a0_2)) (l0_0.length : Int)) < ((rd_L1 l0_0 (rd (rd_L1 l0_0 (Int.tmod (wrap64 (Int.tdiv (wrap64 (a1 - t292)) a0_2)) (l0_0.length : Int))) (rd (rd_L1 l0_3 (ji29)) (wrap64 (Int.tdiv (wrap64 (Int.tdiv (wrap64 (a2 - t293)) a0_2)) (l0_0.length : Int)))))).length : Int) then ((semigroupref17_Number.f l0_0 a0_1 a0_2 l0_3 a0_4 (wrap64 (Int.tdiv (wrap64 (Int.tdiv (wrap64 (a1 - t292)) a0_2)) (l0_0.length : Int))) (rd (rd_L1 l0_0 (rd (rd_L1 l0_0 (Int.tmod (wrap64 (Int.tdiv (wrap64 (a1 - t292)) a0_2)) (l0_0.length : Int))) (rd (rd_L1 l0_3 (ji29)) (wrap64 (Int.tdiv (wrap64 (Int.tdiv (wrap64 (a2 - t293)) a0_2)) (l0_0.length : Int)))))) (Int.tmod (wrap64 (Int.tdiv (wrap64 (a2 - t293)) a0_2)) (l0_0.length : Int))) (Int.tmod (wrap64 (a2 - t293)) a0_2)).bind fun t300 => (some t300)) else (none)) else (none)) else (none)) else (none)) else (none)) else (none)) else (none)) else (none))) else (none)) else (none))) else (none)) else (none)) = some r := by first | (rw [hji29] at H; exact H) | (simp only [hji29] at H ⊢; exact H)
        by_cases c30 : 0 ≤ (ji29)
        ·rw [if_pos c30] at H
         have c30b0 : decide (0 ≤ (ji29)) = true := decide_eq_true c30
         clear c30
         by_cases c31 : (ji29) < (l0_3.length : Int)
         ·rw [if_pos c31] at H
          have c31b0 : decide ((ji29) < (l0_3.length : Int)) = true := decide_eq_true c31
          clear c31
          by_cases c32 : (l0_0.length : Int) = 0
          ·rw [if_pos c32] at H
           exact absurd H (by simp)
          ·rw [if_neg c32] at H
           have c32b0 : ((l0_0.length : Int) == 0) = false := beq_eq_false_iff_ne.mpr c32
           have c32b1 : ((l0_0.length : Int) != 0) = true := bne_iff_ne.mpr c32
           have c32b2 : ¬ (l0_0 = []) := fun h_ => c32 (by rw [h_]; rfl)
           obtain ⟨ji33, hji33⟩ : ∃ j_ : Int, (wrap64 (Int.tdiv (wrap64 (Int.tdiv (wrap64 (a2 - t293)) a0_2)) (l0_0.length : Int))) = j_ := ⟨_, rfl⟩
           replace H : (if 0 ≤ (ji33) then (if (ji33) < ((rd_L1 l0_3 (ji29)).length : Int) then (if (rd (rd_L1 l0_3 (ji29)) (ji33)) < 0 then (some 0) else (if 0 ≤ (Int.tmod (wrap64 (Int.tdiv (wrap64 (a1 - t292)) a0_2)) (l0_0.length : Int)) then (if (Int.tmod (wrap64 (Int.tdiv (wrap64 (a1 - t292)) a0_2)) (l0_0.length : Int)) < (l0_0.length : Int) then (if 0 ≤ (rd (rd_L1 l0_3 (ji29)) (ji33)) then (if (rd (rd_L1 l0_3 (ji29)) (ji33)) < ((rd_L1 l0_0 (Int.tmod (wrap64 (Int.tdiv (wrap64 (a1 - t292)) a0_2)) (l0_0.length : Int))).length : Int) then (if 0 ≤ (rd (rd_L1 l0_0 (Int.tmod (wrap64 (Int.tdiv (wrap64 (a1 - t292)) a0_2)) (l0_0.length : Int))) (rd (rd_L1 l0_3 (ji29)) (ji33))) then (if (rd (rd_L1 l0_0 (Int.tmod (wrap64 (Int.tdiv (wrap64 (a1 - t292)) a0_2)) (l0_0.length : Int))) (rd (rd_L1 l0_3 (ji29)) (ji33))) < (l0_0.length : Int) then (if 0 ≤ (Int.tmod (wrap64 (Int.tdiv (wrap64 (a2 - t293)) a0_2)) (l0_0.length : Int)) then (if (Int.tmod (wrap64 (Int.tdiv (wrap64 (a2 - t293)) a0_2)) (l0_0.length : Int)) < ((rd_L1 l0_0 (rd (rd_L1 l0_0 (Int.tmod (wrap64 (Int.tdiv (wrap64 (a1 - t292)) a0_2)) (l0_0.length : Int))) (rd (rd_L1 l0_3 (ji29)) (ji33)))).length : Int) then ((semigroupref17_Number.f l0_0 a0_1 a0_2 l0_3 a0_4 (wrap64 (Int.tdiv (wrap64 (Int.tdiv (wrap64 (a1 - t292)) a0_2)) (l0_0.length : Int))) (rd (rd_L1 l0_0 (rd (rd_L1 l0_0 (Int.tmod (wrap64 (Int.tdiv (wrap64 (a1 - t292)) a0_2)) (l0_0.length : Int))) (rd (rd_L1 l0_3 (ji29)) (ji33)))) (Int.tmod (wrap64 (Int.tdiv (wrap64 (a2 - t293)) a0_2)) (l0_0.length : Int))) (Int.tmod (wrap64 (a2 - t293)) a0_2)).bind fun t300 => (some t300)) else (none)) else (none)) else (none)) else (none)) else (none)) else (none)) else (none)) else (none))) else (none)) else (none)) = some r := by first | (rw [hji33] at H; exact H) | (simp only [hji33] at H ⊢; exact H)
           have hji33w : (IntKind.i64.wrap (Int.tdiv (wrap64 (Int.tdiv (wrap64 (a2 - t293)) a0_2)) (l0_0.length : Int))) = ji33 := (i64_w _).trans hji33
           by_cases c34 : 0 ≤ (ji33)
           ·rw [if_pos c34] at H
            have c34b0 : decide (0 ≤ (ji33)) = true := decide_eq_true c34
            clear c34
            by_cases c35 : (ji33) < ((rd_L1 l0_3 (ji29)).length : Int)
            ·rw [if_pos c35] at H
             have c35b0 : decide ((ji33) < ((rd_L1 l0_3 (ji29)).length : Int)) = true := decide_eq_true c35
             clear c35
             by_cases c36 : (rd (rd_L1 l0_3 (ji29)) (ji33)) < 0
             ·rw [if_pos c36] at H
              have c36b0 : decide ((rd (rd_L1 l0_3 (ji29)) (ji33)) < 0) = true := decide_eq_true c36
              clear c36
              obtain rfl := Option.some.inj H
              have hcz37_0 : wc.cell? ⟨gb289, 0, none⟩ = some (.slice A0_0 l0_0.length c0_0) := (blk_cell BK289.out 0).trans rfl
              have hcz37_1 : wc.cell? ⟨gb289, 1, none⟩ = some (.int .i64 a0_1) := (blk_cell BK289.out 1).trans rfl
              have hcz37_2 : wc.cell? ⟨gb289, 2, none⟩ = some (.int .i64 a0_2) := (blk_cell BK289.out 2).trans rfl
              have hcz37_3 : wc.cell? ⟨gb289, 3, none⟩ = some (.slice A0_3 l0_3.length c0_3) := (blk_cell BK289.out 3).trans rfl
              have hcz37_4 : wc.cell? ⟨gb289, 4, none⟩ = some (.bool a0_4) := (blk_cell BK289.out 4).trans rfl
              have hfz37_0 := blk_frozen BK289.out 0
              have hfz37_1 := blk_frozen BK289.out 1
              have hfz37_2 := blk_frozen BK289.out 2
              have hfz37_3 := blk_frozen BK289.out 3
              have hfz37_4 := blk_frozen BK289.out 4
              try go_wp2
              have n0_ := Aside0.mk (blk_drew BK289.out)
              have n1_ := Aside0.mk (below_drew1 HB.out)
              clear HB BK289
              have BK289 := n0_
              have HB := n1_
              clear n0_ n1_
              have p294 : 0 ≤ ((ji29) : Int) := of_decide_eq_true q_as
              have q294 : (ji29) < (l0_3.length : Int) := of_decide_eq_true q_as
              obtain ⟨ad294, A294_0, c294_0, e294, hx294_0, hl294_0, hi294_0⟩ := at_L1 HR0_3.out (ji29) p294 q294
              have hw294_0 := hx294_0
              cases e294
              replace hx294_0 := (HB.out.cell (World.block_lt_of_cell? w _ hx294_0)).trans hx294_0
              have HR294_0 := Aside0.mk hi294_0
              have HC294_0 := Aside0.mk hl294_0
              (try clear hi294_0); (try clear hl294_0)
              q_t p294 q294
              have p295 : 0 ≤ ((ji33) : Int) := of_decide_eq_true q_as
              have q295 : (ji33) < ((rd_L1 l0_3 (ji29)).length : Int) := of_decide_eq_true q_as
              obtain ⟨ad295, e295, hx295_0⟩ := Kd.at_int HR294_0.out (ji33) p295 q295
              have hw295_0 := hx295_0
              cases e295
              replace hx295_0 := (HB.out.cell (World.block_lt_of_cell? w _ hx295_0)).trans hx295_0
              q_t p295 q295
              refine start_ (n := 17) (S := fun w' => w'.cell? ⟨gb289, 0, none⟩ = some (.slice A0_0 l0_0.length c0_0) ∧ w'.cell? ⟨gb289, 1, none⟩ = some (.int .i64 a0_1) ∧ w'.cell? ⟨gb289, 2, none⟩ = some (.int .i64 a0_2) ∧ w'.cell? ⟨gb289, 3, none⟩ = some (.slice (some ad294) l0_3.length c0_3) ∧ w'.cell? ⟨gb289, 4, none⟩ = some (.bool a0_4) ∧ w'.cell? (ad294.add ((ji29)).toNat) = some (.slice (some ad295) (rd_L1 l0_3 (ji29)).length c294_0) ∧ w'.cell? (ad295.add ((ji33)).toNat) = some (.int .i64 (rd (rd_L1 l0_3 (ji29)) (ji33)))) (ds := []) #[false, false, false, false, false, false, false, false, false, false, false, false, false, false, false, false, false] (by kernel_rfl) rfl rfl ⟨(blk_cell BK289.out 0).trans rfl, (blk_cell BK289.out 1).trans rfl, (blk_cell BK289.out 2).trans rfl, (blk_cell BK289.out 3).trans rfl, (blk_cell BK289.out 4).trans rfl, ((HB.out.cell (World.block_lt_of_cell? w _ hw294_0)).trans hw294_0), ((HB.out.cell (World.block_lt_of_cell? w _ hw295_0)).trans hw295_0)⟩ (fun hHeld => ?_); refine with_tabW semigroupref17_Mul.tab7 semigroupref17_Mul.bits7 (fun HT_ HW_ => ?_)
              generalize wc.drew = w38 at BK289 HB HR294_0 hx294_0 hx295_0 hHeld ⊢
              refine pure_ (i := 0) (N := some 47) (v := ?_) (a' := ?_) #[true, false, false, false, false, false, false, false, false, false, false, false, false, false, false, false, false] rfl rfl q_ho q_id (Or.inl ⟨by rfl, ?_⟩) ?_ ?_
              rotate_left
              ·intro w'
               go_simp
               with_reducible rfl
              rotate_left
              ·q_si
               rfl
              refine pure_ (i := 2) (N := some 49) (v := ?_) (a' := ?_) #[true, false, true, false, false, false, false, false, false, false, false, false, false, false, false, false, false] rfl rfl q_ho q_id (Or.inl ⟨by rfl, ?_⟩) ?_ ?_
              rotate_left
              ·intro w'
               go_simp
               with_reducible rfl
              rotate_left
              ·q_si
               rfl
              refine pure_ (i := 3) (N := some 50) (v := ?_) (a' := ?_) #[true, false, true, true, false, false, false, false, false, false, false, false, false, false, false, false, false] rfl rfl q_ho q_id (Or.inl ⟨by rfl, ?_⟩) ?_ ?_
              rotate_left
              ·intro w'
               go_simp
               with_reducible rfl
              rotate_left
              ·q_si
               rfl
              refine pure_ (i := 8) (N := some 55) (v := ?_) (a' := ?_) #[true, false, true, true, false, false, false, false, true, false, false, false, false, false, false, false, false] rfl rfl q_ho q_id (Or.inl ⟨by rfl, ?_⟩) ?_ ?_
              rotate_left
              ·intro w'
               go_simp
               with_reducible rfl
              rotate_left
              ·q_si
               rfl
              refine pure_ (i := 9) (N := some 56) (v := ?_) (a' := ?_) #[true, false, true, true, false, false, false, false, true, true, false, false, false, false, false, false, false] rfl rfl q_ho q_id (Or.inl ⟨by rfl, ?_⟩) ?_ ?_
              rotate_left
              ·intro w'
               go_simp
               with_reducible rfl
              rotate_left
              ·q_si
               rfl
              refine pure_ (i := 12) (N := some 59) (v := ?_) (a' := ?_) #[true, false, true, true, false, false, false, false, true, true, false, false, true, false, false, false, false] rfl rfl q_ho q_id (Or.inl ⟨by rfl, ?_⟩) ?_ ?_
              rotate_left
              ·intro w'
               go_simp
               with_reducible rfl
              rotate_left
              ·q_si
               rfl
              refine take_ (i := 1) (N := some 48) (v := ?_) (a' := ?_) #[true, true, true, true, false, false, false, false, true, true, false, false, true, false, false, false, false] rfl rfl q_to q_id (Or.inl ⟨by rfl, ?_⟩) hHeld ?_ ?_
              rotate_left
              ·rintro w' ⟨s0, s1, s2, s3, s4, s5, s6⟩
               go_simp
               with_reducible rfl
              rotate_left
              ·q_si
               rfl
              refine take_ (i := 4) (N := some 51) (v := ?_) (a' := ?_) #[true, true, true, true, true, false, false, false, true, true, false, false, true, false, false, false, false] rfl rfl q_to q_id (Or.inl ⟨by rfl, ?_⟩) hHeld ?_ ?_
              rotate_left
              ·rintro w' ⟨s0, s1, s2, s3, s4, s5, s6⟩
               go_simp
               with_reducible rfl
              rotate_left
              ·q_si
               rfl
              refine pure_ (i := 5) (N := some 52) (v := ?_) (a' := ?_) #[true, true, true, true, true, true, false, false, true, true, false, false, true, false, false, false, false] rfl rfl q_ho q_id (Or.inl ⟨by rfl, ?_⟩) ?_ ?_
              rotate_left
              ·intro w'
               go_simp
               with_reducible rfl
              rotate_left
              ·q_si
               rfl
              refine pure_ (i := 6) (N := some 53) (v := ?_) (a' := ?_) #[true, true, true, true, true, true, true, false, true, true, false, false, true, false, false, false, false] rfl rfl q_ho q_id (Or.inl ⟨by rfl, ?_⟩) ?_ ?_
              rotate_left
              ·intro w'
               go_simp
               with_reducible rfl
              rotate_left
              ·q_si
               rfl
              refine take_ (i := 7) (N := some 54) (v := ?_) (a' := ?_) #[true, true, true, true, true, true, true, true, true, true, false, false, true, false, false, false, false] rfl rfl q_to q_id (Or.inl ⟨by rfl, ?_⟩) hHeld ?_ ?_
              rotate_left
              ·rintro w' ⟨s0, s1, s2, s3, s4, s5, s6⟩
               go_simp
               with_reducible rfl
              rotate_left
              ·q_si
               rfl
              refine take_ (i := 10) (N := some 57) (v := ?_) (a' := ?_) #[true, true, true, true, true, true, true, true, true, true, true, false, true, false, false, false, false] rfl rfl q_to q_id (Or.inl ⟨by rfl, ?_⟩) hHeld ?_ ?_
              rotate_left
              ·rintro w' ⟨s0, s1, s2, s3, s4, s5, s6⟩
               go_simp
               with_reducible rfl
              rotate_left
              ·q_si
               rfl
              refine pure_ (i := 11) (N := some 58) (v := ?_) (a' := ?_) #[true, true, true, true, true, true, true, true, true, true, true, true, true, false, false, false, false] rfl rfl q_ho q_id (Or.inl ⟨by rfl, ?_⟩) ?_ ?_
              rotate_left
              ·intro w'
               go_simp
               with_reducible rfl
              rotate_left
              ·q_si
               rfl
              refine pure_ (i := 13) (N := some 60) (v := ?_) (a' := ?_) #[true, true, true, true, true, true, true, true, true, true, true, true, true, true, false, false, false] rfl rfl q_ho q_id (Or.inl ⟨by rfl, ?_⟩) ?_ ?_
              rotate_left
              ·intro w'
               go_simp
               with_reducible rfl
              rotate_left
              ·q_si
               rfl
              refine pure_ (i := 14) (N := some 61) (v := ?_) (a' := ?_) #[true, true, true, true, true, true, true, true, true, true, true, true, true, true, true, false, false] rfl rfl q_ho q_id (Or.inl ⟨by rfl, ?_⟩) ?_ ?_
              rotate_left
              ·intro w'
               go_simp
               with_reducible rfl
              rotate_left
              ·q_si
               rfl
              refine take_ (i := 15) (N := some 62) (v := ?_) (a' := ?_) #[true, true, true, true, true, true, true, true, true, true, true, true, true, true, true, true, false] rfl rfl q_to q_id (Or.inl ⟨by rfl, ?_⟩) hHeld ?_ ?_
              rotate_left
              ·rintro w' ⟨s0, s1, s2, s3, s4, s5, s6⟩
               go_simp
               with_reducible rfl
              rotate_left
              ·q_si
               rfl
              refine pure_ (i := 16) (N := some 10) (v := ?_) (a' := ?_) #[true, true, true, true, true, true, true, true, true, true, true, true, true, true, true, true, true] rfl rfl q_ho q_id (Or.inl ⟨by rfl, ?_⟩) ?_ ?_
              rotate_left
              ·intro w'
               go_simp
               with_reducible rfl
              rotate_left
              ·q_si
               rfl
              refine done_ (done_of HT_.out (by kernel_rfl)) ?_
              try go_wp2
              go_ret
              exact ⟨by first | rfl | q_em | (simp only [← hji29, ← hji33]; first | rfl | q_em) | q_en, by repeat (first | (with_reducible first | exact HB.out | apply below_alloc | apply pw_below_drewN | apply below_drew1 | refine below_set ?_ GE289.out) | exact HB.out)⟩
             ·rw [if_neg c36] at H
              have c36b0 : decide ((rd (rd_L1 l0_3 (ji29)) (ji33)) < 0) = false := decide_eq_false c36
              clear c36
              obtain ⟨ji39, hji39⟩ : ∃ j_ : Int, (Int.tmod (wrap64 (Int.tdiv (wrap64 (a1 - t292)) a0_2)) (l0_0.length : Int)) = j_ := ⟨_, rfl⟩
              replace H : (if 0 ≤ (ji39) then (if (ji39) < (l0_0.length : Int) then (if 0 ≤ (rd (rd_L1 l0_3 (ji29)) (ji33)) then (if (rd (rd_L1 l0_3 (ji29)) (ji33)) < ((rd_L1 l0_0 (ji39)).length : Int) then (if 0 ≤ (rd (rd_L1 l0_0 (ji39)) (rd (rd_L1 l0_3 (ji29)) (ji33))) then (if (rd (rd_L1 l0_0 (ji39)) (rd (rd_L1 l0_3 (ji29)) (ji33))) < (l0_0.length : Int) then (if 0 ≤ (Int.tmod (wrap64 (Int.tdiv (wrap64 (a2 - t293)) a0_2)) (l0_0.length : Int)) then (if (Int.tmod (wrap64 (Int.tdiv (wrap64 (a2 - t293)) a0_2)) (l0_0.length : Int)) < ((rd_L1 l0_0 (rd (rd_L1 l0_0 (ji39)) (rd (rd_L1 l0_3 (ji29)) (ji33)))).length : Int) then ((semigroupref17_Number.f l0_0 a0_1 a0_2 l0_3 a0_4 (wrap64 (Int.tdiv (wrap64 (Int.tdiv (wrap64 (a1 - t292)) a0_2)) (l0_0.length : Int))) (rd (rd_L1 l0_0 (rd (rd_L1 l0_0 (ji39)) (rd (rd_L1 l0_3 (ji29)) (ji33)))) (Int.tmod (wrap64 (Int.tdiv (wrap64 (a2 - t293)) a0_2)) (l0_0.length : Int))) (Int.tmod (wrap64 (a2 - t293)) a0_2)).bind fun t300 => (some t300)) else (none)) else (none)) else (none)) else (none)) else (none)) else (none)) else (none)) else (none)) = some r := by first | (rw [hji39] at H; exact H) | (simp only [hji39] at H ⊢; exact H)
              by_cases c40 : 0 ≤ (ji39)
              ·rw [if_pos c40] at H
               have c40b0 : decide (0 ≤ (ji39)) = true := decide_eq_true c40
               clear c40
               by_cases c41 : (ji39) < (l0_0.length : Int)
               ·rw [if_pos c41] at H
                have c41b0 : decide ((ji39) < (l0_0.length : Int)) = true := decide_eq_true c41
                clear c41
                by_cases c42 : 0 ≤ (rd (rd_L1 l0_3 (ji29)) (ji33))
                ·rw [if_pos c42] at H
                 have c42b0 : decide (0 ≤ (rd (rd_L1 l0_3 (ji29)) (ji33))) = true := decide_eq_true c42
                 clear c42
                 by_cases c43 : (rd (rd_L1 l0_3 (ji29)) (ji33)) < ((rd_L1 l0_0 (ji39)).length : Int)
                 ·rw [if_pos c43] at H
                  have c43b0 : decide ((rd (rd_L1 l0_3 (ji29)) (ji33)) < ((rd_L1 l0_0 (ji39)).length : Int)) = true := decide_eq_true c43
                  clear c43
                  by_cases c44 : 0 ≤ (rd (rd_L1 l0_0 (ji39)) (rd (rd_L1 l0_3 (ji29)) (ji33)))
                  ·rw [if_pos c44] at H
                   have c44b0 : decide (0 ≤ (rd (rd_L1 l0_0 (ji39)) (rd (rd_L1 l0_3 (ji29)) (ji33)))) = true := decide_eq_true c44
                   clear c44
                   by_cases c45 : (rd (rd_L1 l0_0 (ji39)) (rd (rd_L1 l0_3 (ji29)) (ji33))) < (l0_0.length : Int)
                   ·rw [if_pos c45] at H
                    have c45b0 : decide ((rd (rd_L1 l0_0 (ji39)) (rd (rd_L1 l0_3 (ji29)) (ji33))) < (l0_0.length : Int)) = true := decide_eq_true c45
                    clear c45
                    obtain ⟨ji46, hji46⟩ : ∃ j_ : Int, (Int.tmod (wrap64 (Int.tdiv (wrap64 (a2 - t293)) a0_2)) (l0_0.length : Int)) = j_ := ⟨_, rfl⟩
                    replace H : (if 0 ≤ (ji46) then (if (ji46) < ((rd_L1 l0_0 (rd (rd_L1 l0_0 (ji39)) (rd (rd_L1 l0_3 (ji29)) (ji33)))).length : Int) then ((semigroupref17_Number.f l0_0 a0_1 a0_2 l0_3 a0_4 (wrap64 (Int.tdiv (wrap64 (Int.tdiv (wrap64 (a1 - t292)) a0_2)) (l0_0.length : Int))) (rd (rd_L1 l0_0 (rd (rd_L1 l0_0 (ji39)) (rd (rd_L1 l0_3 (ji29)) (ji33)))) (ji46)) (Int.tmod (wrap64 (a2 - t293)) a0_2)).bind fun t300 => (some t300)) else (none)) else (none)) = some r := by first | (rw [hji46] at H; exact H) | (simp only [hji46] at H ⊢; exact H)
                    by_cases c47 : 0 ≤ (ji46)
                    ·rw [if_pos c47] at H
                     have c47b0 : decide (0 ≤ (ji46)) = true := decide_eq_true c47
                     clear c47
                     by_cases c48 : (ji46) < ((rd_L1 l0_0 (rd (rd_L1 l0_0 (ji39)) (rd (rd_L1 l0_3 (ji29)) (ji33)))).length : Int)
                     ·rw [if_pos c48] at H
                      have c48b0 : decide ((ji46) < ((rd_L1 l0_0 (rd (rd_L1 l0_0 (ji39)) (rd (rd_L1 l0_3 (ji29)) (ji33)))).length : Int)) = true := decide_eq_true c48
                      clear c48
                      replace H := Option.bind_eq_some_iff.mp H
                      obtain ⟨t300, A490, H⟩ := H
                      replace H : (some t300) = some r := H
                      have A49 := Aside0.mk A490
                      clear A490
                      obtain rfl := Option.some.inj H
                      have hcz50_0 : wc.cell? ⟨gb289, 0, none⟩ = some (.slice A0_0 l0_0.length c0_0) := (blk_cell BK289.out 0).trans rfl
                      have hcz50_1 : wc.cell? ⟨gb289, 1, none⟩ = some (.int .i64 a0_1) := (blk_cell BK289.out 1).trans rfl
                      have hcz50_2 : wc.cell? ⟨gb289, 2, none⟩ = some (.int .i64 a0_2) := (blk_cell BK289.out 2).trans rfl
                      have hcz50_3 : wc.cell? ⟨gb289, 3, none⟩ = some (.slice A0_3 l0_3.length c0_3) := (blk_cell BK289.out 3).trans rfl
                      have hcz50_4 : wc.cell? ⟨gb289, 4, none⟩ = some (.bool a0_4) := (blk_cell BK289.out 4).trans rfl
                      have hfz50_0 := blk_frozen BK289.out 0
                      have hfz50_1 := blk_frozen BK289.out 1
                      have hfz50_2 := blk_frozen BK289.out 2
                      have hfz50_3 := blk_frozen BK289.out 3
                      have hfz50_4 := blk_frozen BK289.out 4
                      try go_wp2
                      have n0_ := Aside0.mk (blk_drew BK289.out)
                      have n1_ := Aside0.mk (below_drew1 HB.out)
                      clear HB BK289
                      have BK289 := n0_
                      have HB := n1_
                      clear n0_ n1_
                      have p294 : 0 ≤ ((ji29) : Int) := of_decide_eq_true q_as
                      have q294 : (ji29) < (l0_3.length : Int) := of_decide_eq_true q_as
                      obtain ⟨ad294, A294_0, c294_0, e294, hx294_0, hl294_0, hi294_0⟩ := at_L1 HR0_3.out (ji29) p294 q294
                      have hw294_0 := hx294_0
                      cases e294
                      replace hx294_0 := (HB.out.cell (World.block_lt_of_cell? w _ hx294_0)).trans hx294_0
                      have HR294_0 := Aside0.mk hi294_0
                      have HC294_0 := Aside0.mk hl294_0
                      (try clear hi294_0); (try clear hl294_0)
                      q_t p294 q294
                      have p295 : 0 ≤ ((ji33) : Int) := of_decide_eq_true q_as
                      have q295 : (ji33) < ((rd_L1 l0_3 (ji29)).length : Int) := of_decide_eq_true q_as
                      obtain ⟨ad295, e295, hx295_0⟩ := Kd.at_int HR294_0.out (ji33) p295 q295
                      have hw295_0 := hx295_0
                      cases e295
                      replace hx295_0 := (HB.out.cell (World.block_lt_of_cell? w _ hx295_0)).trans hx295_0
                      q_t p295 q295
                      refine start_ (n := 17) (S := fun w' => w'.cell? ⟨gb289, 0, none⟩ = some (.slice A0_0 l0_0.length c0_0) ∧ w'.cell? ⟨gb289, 1, none⟩ = some (.int .i64 a0_1) ∧ w'.cell? ⟨gb289, 2, none⟩ = some (.int .i64 a0_2) ∧ w'.cell? ⟨gb289, 3, none⟩ = some (.slice (some ad294) l0_3.length c0_3) ∧ w'.cell? ⟨gb289, 4, none⟩ = some (.bool a0_4) ∧ w'.cell? (ad294.add ((ji29)).toNat) = some (.slice (some ad295) (rd_L1 l0_3 (ji29)).length c294_0) ∧ w'.cell? (ad295.add ((ji33)).toNat) = some (.int .i64 (rd (rd_L1 l0_3 (ji29)) (ji33)))) (ds := []) #[false, false, false, false, false, false, false, false, false, false, false, false, false, false, false, false, false] (by kernel_rfl) rfl rfl ⟨(blk_cell BK289.out 0).trans rfl, (blk_cell BK289.out 1).trans rfl, (blk_cell BK289.out 2).trans rfl, (blk_cell BK289.out 3).trans rfl, (blk_cell BK289.out 4).trans rfl, ((HB.out.cell (World.block_lt_of_cell? w _ hw294_0)).trans hw294_0), ((HB.out.cell (World.block_lt_of_cell? w _ hw295_0)).trans hw295_0)⟩ (fun hHeld => ?_); refine with_tabW semigroupref17_Mul.tab7 semigroupref17_Mul.bits7 (fun HT_ HW_ => ?_)
                      generalize wc.drew = w51 at BK289 HB HR294_0 hx294_0 hx295_0 hHeld ⊢
                      refine pure_ (i := 0) (N := some 47) (v := ?_) (a' := ?_) #[true, false, false, false, false, false, false, false, false, false, false, false, false, false, false, false, false] rfl rfl q_ho q_id (Or.inl ⟨by rfl, ?_⟩) ?_ ?_
                      rotate_left
                      ·intro w'
                       go_simp
                       with_reducible rfl
                      rotate_left
                      ·q_si
                       rfl
                      refine pure_ (i := 2) (N := some 49) (v := ?_) (a' := ?_) #[true, false, true, false, false, false, false, false, false, false, false, false, false, false, false, false, false] rfl rfl q_ho q_id (Or.inl ⟨by rfl, ?_⟩) ?_ ?_
                      rotate_left
                      ·intro w'
                       go_simp
                       with_reducible rfl
                      rotate_left
                      ·q_si
                       rfl
                      refine pure_ (i := 3) (N := some 50) (v := ?_) (a' := ?_) #[true, false, true, true, false, false, false, false, false, false, false, false, false, false, false, false, false] rfl rfl q_ho q_id (Or.inl ⟨by rfl, ?_⟩) ?_ ?_
                      rotate_left
                      ·intro w'
                       go_simp
                       with_reducible rfl
                      rotate_left
                      ·q_si
                       rfl
                      refine pure_ (i := 8) (N := some 55) (v := ?_) (a' := ?_) #[true, false, true, true, false, false, false, false, true, false, false, false, false, false, false, false, false] rfl rfl q_ho q_id (Or.inl ⟨by rfl, ?_⟩) ?_ ?_
                      rotate_left
                      ·intro w'
                       go_simp
                       with_reducible rfl
                      rotate_left
                      ·q_si
                       rfl
                      refine pure_ (i := 9) (N := some 56) (v := ?_) (a' := ?_) #[true, false, true, true, false, false, false, false, true, true, false, false, false, false, false, false, false] rfl rfl q_ho q_id (Or.inl ⟨by rfl, ?_⟩) ?_ ?_
                      rotate_left
                      ·intro w'
                       go_simp
                       with_reducible rfl
                      rotate_left
                      ·q_si
                       rfl
                      refine pure_ (i := 12) (N := some 59) (v := ?_) (a' := ?_) #[true, false, true, true, false, false, false, false, true, true, false, false, true, false, false, false, false] rfl rfl q_ho q_id (Or.inl ⟨by rfl, ?_⟩) ?_ ?_
                      rotate_left
                      ·intro w'
                       go_simp
                       with_reducible rfl
                      rotate_left
                      ·q_si
                       rfl
                      refine take_ (i := 1) (N := some 48) (v := ?_) (a' := ?_) #[true, true, true, true, false, false, false, false, true, true, false, false, true, false, false, false, false] rfl rfl q_to q_id (Or.inl ⟨by rfl, ?_⟩) hHeld ?_ ?_
                      rotate_left
                      ·rintro w' ⟨s0, s1, s2, s3, s4, s5, s6⟩
                       go_simp
                       with_reducible rfl
                      rotate_left
                      ·q_si
                       rfl
                      refine take_ (i := 4) (N := some 51) (v := ?_) (a' := ?_) #[true, true, true, true, true, false, false, false, true, true, false, false, true, false, false, false, false] rfl rfl q_to q_id (Or.inl ⟨by rfl, ?_⟩) hHeld ?_ ?_
                      rotate_left
                      ·rintro w' ⟨s0, s1, s2, s3, s4, s5, s6⟩
                       go_simp
                       with_reducible rfl
                      rotate_left
                      ·q_si
                       rfl
                      refine pure_ (i := 5) (N := some 52) (v := ?_) (a' := ?_) #[true, true, true, true, true, true, false, false, true, true, false, false, true, false, false, false, false] rfl rfl q_ho q_id (Or.inl ⟨by rfl, ?_⟩) ?_ ?_
                      rotate_left
                      ·intro w'
                       go_simp
                       with_reducible rfl
                      rotate_left
                      ·q_si
                       rfl
                      refine pure_ (i := 6) (N := some 53) (v := ?_) (a' := ?_) #[true, true, true, true, true, true, true, false, true, true, false, false, true, false, false, false, false] rfl rfl q_ho q_id (Or.inl ⟨by rfl, ?_⟩) ?_ ?_
                      rotate_left
                      ·intro w'
                       go_simp
                       with_reducible rfl
                      rotate_left
                      ·q_si
                       rfl
                      refine take_ (i := 7) (N := some 54) (v := ?_) (a' := ?_) #[true, true, true, true, true, true, true, true, true, true, false, false, true, false, false, false, false] rfl rfl q_to q_id (Or.inl ⟨by rfl, ?_⟩) hHeld ?_ ?_
                      rotate_left
                      ·rintro w' ⟨s0, s1, s2, s3, s4, s5, s6⟩
                       go_simp
                       with_reducible rfl
                      rotate_left
                      ·q_si
                       rfl
                      refine take_ (i := 10) (N := some 57) (v := ?_) (a' := ?_) #[true, true, true, true, true, true, true, true, true, true, true, false, true, false, false, false, false] rfl rfl q_to q_id (Or.inl ⟨by rfl, ?_⟩) hHeld ?_ ?_
                      rotate_left
                      ·rintro w' ⟨s0, s1, s2, s3, s4, s5, s6⟩
                       go_simp
                       with_reducible rfl
                      rotate_left
                      ·q_si
                       rfl
                      refine pure_ (i := 11) (N := some 58) (v := ?_) (a' := ?_) #[true, true, true, true, true, true, true, true, true, true, true, true, true, false, false, false, false] rfl rfl q_ho q_id (Or.inl ⟨by rfl, ?_⟩) ?_ ?_
                      rotate_left
                      ·intro w'
                       go_simp
                       with_reducible rfl
                      rotate_left
                      ·q_si
                       rfl
                      refine pure_ (i := 13) (N := some 60) (v := ?_) (a' := ?_) #[true, true, true, true, true, true, true, true, true, true, true, true, true, true, false, false, false] rfl rfl q_ho q_id (Or.inl ⟨by rfl, ?_⟩) ?_ ?_
                      rotate_left
                      ·intro w'
                       go_simp
                       with_reducible rfl
                      rotate_left
                      ·q_si
                       rfl
                      refine pure_ (i := 14) (N := some 61) (v := ?_) (a' := ?_) #[true, true, true, true, true, true, true, true, true, true, true, true, true, true, true, false, false] rfl rfl q_ho q_id (Or.inl ⟨by rfl, ?_⟩) ?_ ?_
                      rotate_left
                      ·intro w'
                       go_simp
                       with_reducible rfl
                      rotate_left
                      ·q_si
                       rfl
                      refine take_ (i := 15) (N := some 62) (v := ?_) (a' := ?_) #[true, true, true, true, true, true, true, true, true, true, true, true, true, true, true, true, false] rfl rfl q_to q_id (Or.inl ⟨by rfl, ?_⟩) hHeld ?_ ?_
                      rotate_left
                      ·rintro w' ⟨s0, s1, s2, s3, s4, s5, s6⟩
                       go_simp
                       with_reducible rfl
                      rotate_left
                      ·q_si
                       rfl
                      refine pure_ (i := 16) (N := some 10) (v := ?_) (a' := ?_) #[true, true, true, true, true, true, true, true, true, true, true, true, true, true, true, true, true] rfl rfl q_ho q_id (Or.inl ⟨by rfl, ?_⟩) ?_ ?_
                      rotate_left
                      ·intro w'
                       go_simp
                       with_reducible rfl
                      rotate_left
                      ·q_si
                       rfl
                      refine done_ (done_of HT_.out (by kernel_rfl)) ?_
                      try go_wp2
                      have n0_ := Aside0.mk (blk_drew BK289.out)
                      have n1_ := Aside0.mk (below_drew1 HB.out)
                      clear HB BK289
                      have BK289 := n0_
                      have HB := n1_
                      clear n0_ n1_
                      have p296 : 0 ≤ ((ji39) : Int) := of_decide_eq_true q_as
                      have q296 : (ji39) < (l0_0.length : Int) := of_decide_eq_true q_as
                      obtain ⟨ad296, A296_0, c296_0, e296, hx296_0, hl296_0, hi296_0⟩ := at_L1 HR0_0.out (ji39) p296 q296
                      have hw296_0 := hx296_0
                      cases e296
                      replace hx296_0 := (HB.out.cell (World.block_lt_of_cell? w _ hx296_0)).trans hx296_0
                      have HR296_0 := Aside0.mk hi296_0
                      have HC296_0 := Aside0.mk hl296_0
                      (try clear hi296_0); (try clear hl296_0)
                      q_t p296 q296
                      have p297 : 0 ≤ ((rd (rd_L1 l0_3 (ji29)) (ji33)) : Int) := of_decide_eq_true q_as
                      have q297 : (rd (rd_L1 l0_3 (ji29)) (ji33)) < ((rd_L1 l0_0 (ji39)).length : Int) := of_decide_eq_true q_as
                      obtain ⟨ad297, e297, hx297_0⟩ := Kd.at_int HR296_0.out (rd (rd_L1 l0_3 (ji29)) (ji33)) p297 q297
                      have hw297_0 := hx297_0
                      cases e297
                      replace hx297_0 := (HB.out.cell (World.block_lt_of_cell? w _ hx297_0)).trans hx297_0
                      q_t p297 q297
                      have p298 : 0 ≤ ((rd (rd_L1 l0_0 (ji39)) (rd (rd_L1 l0_3 (ji29)) (ji33))) : Int) := of_decide_eq_true q_as
                      have q298 : (rd (rd_L1 l0_0 (ji39)) (rd (rd_L1 l0_3 (ji29)) (ji33))) < (l0_0.length : Int) := of_decide_eq_true q_as
                      obtain ⟨ad298, A298_0, c298_0, e298, hx298_0, hl298_0, hi298_0⟩ := at_L1 HR0_0.out (rd (rd_L1 l0_0 (ji39)) (rd (rd_L1 l0_3 (ji29)) (ji33))) p298 q298
                      have hw298_0 := hx298_0
                      obtain rfl : ad296 = ad298 := (by injection e298)
                      replace hx298_0 := (HB.out.cell (World.block_lt_of_cell? w _ hx298_0)).trans hx298_0
                      have HR298_0 := Aside0.mk hi298_0
                      have HC298_0 := Aside0.mk hl298_0
                      (try clear hi298_0); (try clear hl298_0)
                      q_t p298 q298
                      have p299 : 0 ≤ ((ji46) : Int) := of_decide_eq_true q_as
                      have q299 : (ji46) < ((rd_L1 l0_0 (rd (rd_L1 l0_0 (ji39)) (rd (rd_L1 l0_3 (ji29)) (ji33)))).length : Int) := of_decide_eq_true q_as
                      obtain ⟨ad299, e299, hx299_0⟩ := Kd.at_int HR298_0.out (ji46) p299 q299
                      have hw299_0 := hx299_0
                      cases e299
                      replace hx299_0 := (HB.out.cell (World.block_lt_of_cell? w _ hx299_0)).trans hx299_0
                      q_t p299 q299
                      refine start_ (n := 26) (S := fun w' => w'.cell? ⟨gb289, 0, none⟩ = some (.slice (some ad296) l0_0.length c0_0) ∧ w'.cell? ⟨gb289, 1, none⟩ = some (.int .i64 a0_1) ∧ w'.cell? ⟨gb289, 2, none⟩ = some (.int .i64 a0_2) ∧ w'.cell? ⟨gb289, 3, none⟩ = some (.slice (some ad294) l0_3.length c0_3) ∧ w'.cell? ⟨gb289, 4, none⟩ = some (.bool a0_4) ∧ w'.cell? (ad296.add ((ji39)).toNat) = some (.slice (some ad297) (rd_L1 l0_0 (ji39)).length c296_0) ∧ w'.cell? (ad297.add ((rd (rd_L1 l0_3 (ji29)) (ji33))).toNat) = some (.int .i64 (rd (rd_L1 l0_0 (ji39)) (rd (rd_L1 l0_3 (ji29)) (ji33)))) ∧ w'.cell? (ad296.add ((rd (rd_L1 l0_0 (ji39)) (rd (rd_L1 l0_3 (ji29)) (ji33)))).toNat) = some (.slice (some ad299) (rd_L1 l0_0 (rd (rd_L1 l0_0 (ji39)) (rd (rd_L1 l0_3 (ji29)) (ji33)))).length c298_0) ∧ w'.cell? (ad299.add ((ji46)).toNat) = some (.int .i64 (rd (rd_L1 l0_0 (rd (rd_L1 l0_0 (ji39)) (rd (rd_L1 l0_3 (ji29)) (ji33)))) (ji46)))) (ds := []) #[false, false, false, false, false, false, false, false, false, false, false, false, false, false, false, false, false, false, false, false, false, false, false, false, false, false] (by kernel_rfl) rfl rfl ⟨(blk_cell BK289.out 0).trans rfl, (blk_cell BK289.out 1).trans rfl, (blk_cell BK289.out 2).trans rfl, (blk_cell BK289.out 3).trans rfl, (blk_cell BK289.out 4).trans rfl, ((HB.out.cell (World.block_lt_of_cell? w _ hw296_0)).trans hw296_0), ((HB.out.cell (World.block_lt_of_cell? w _ hw297_0)).trans hw297_0), ((HB.out.cell (World.block_lt_of_cell? w _ hw298_0)).trans hw298_0), ((HB.out.cell (World.block_lt_of_cell? w _ hw299_0)).trans hw299_0)⟩ (fun hHeld => ?_); refine with_tabW semigroupref17_Mul.tab10 semigroupref17_Mul.bits10 (fun HT_ HW_ => ?_)
                      generalize w51.drew = w52 at BK289 HB HR296_0 HR298_0 hx296_0 hx297_0 hx298_0 hx299_0 hHeld ⊢
                      refine pure_ (i := 0) (N := some 65) (v := ?_) (a' := ?_) #[true, false, false, false, false, false, false, false, false, false, false, false, false, false, false, false, false, false, false, false, false, false, false, false, false, false] rfl rfl q_ho q_id (Or.inl ⟨by rfl, ?_⟩) ?_ ?_
                      rotate_left
                      ·intro w'
                       go_simp
                       with_reducible rfl
                      rotate_left
                      ·q_si
                       rfl
                      refine pure_ (i := 2) (N := some 67) (v := ?_) (a' := ?_) #[true, false, true, false, false, false, false, false, false, false, false, false, false, false, false, false, false, false, false, false, false, false, false, false, false, false] rfl rfl q_ho q_id (Or.inl ⟨by rfl, ?_⟩) ?_ ?_
                      rotate_left
                      ·intro w'
                       go_simp
                       with_reducible rfl
                      rotate_left
                      ·q_si
                       rfl
                      refine pure_ (i := 4) (N := some 69) (v := ?_) (a' := ?_) #[true, false, true, false, true, false, false, false, false, false, false, false, false, false, false, false, false, false, false, false, false, false, false, false, false, false] rfl rfl q_ho q_id (Or.inl ⟨by rfl, ?_⟩) ?_ ?_
                      rotate_left
                      ·intro w'
                       go_simp
                       with_reducible rfl
                      rotate_left
                      ·q_si
                       rfl
                      refine pure_ (i := 5) (N := some 70) (v := ?_) (a' := ?_) #[true, false, true, false, true, true, false, false, false, false, false, false, false, false, false, false, false, false, false, false, false, false, false, false, false, false] rfl rfl q_ho q_id (Or.inl ⟨by rfl, ?_⟩) ?_ ?_
                      rotate_left
                      ·intro w'
                       go_simp
                       with_reducible rfl
                      rotate_left
                      ·q_si
                       rfl
                      refine pure_ (i := 8) (N := some 73) (v := ?_) (a' := ?_) #[true, false, true, false, true, true, false, false, true, false, false, false, false, false, false, false, false, false, false, false, false, false, false, false, false, false] rfl rfl q_ho q_id (Or.inl ⟨by rfl, ?_⟩) ?_ ?_
                      rotate_left
                      ·intro w'
                       go_simp
                       with_reducible rfl
                      rotate_left
                      ·q_si
                       rfl
                      refine pure_ (i := 12) (N := some 77) (v := ?_) (a' := ?_) #[true, false, true, false, true, true, false, false, true, false, false, false, true, false, false, false, false, false, false, false, false, false, false, false, false, false] rfl rfl q_ho q_id (Or.inl ⟨by rfl, ?_⟩) ?_ ?_
                      rotate_left
                      ·intro w'
                       go_simp
                       with_reducible rfl
                      rotate_left
                      ·q_si
                       rfl
                      refine pure_ (i := 17) (N := some 82) (v := ?_) (a' := ?_) #[true, false, true, false, true, true, false, false, true, false, false, false, true, false, false, false, false, true, false, false, false, false, false, false, false, false] rfl rfl q_ho q_id (Or.inl ⟨by rfl, ?_⟩) ?_ ?_
                      rotate_left
                      ·intro w'
                       go_simp
                       with_reducible rfl
                      rotate_left
                      ·q_si
                       rfl
                      refine pure_ (i := 18) (N := some 83) (v := ?_) (a' := ?_) #[true, false, true, false, true, true, false, false, true, false, false, false, true, false, false, false, false, true, true, false, false, false, false, false, false, false] rfl rfl q_ho q_id (Or.inl ⟨by rfl, ?_⟩) ?_ ?_
                      rotate_left
                      ·intro w'
                       go_simp
                       with_reducible rfl
                      rotate_left
                      ·q_si
                       rfl
                      refine pure_ (i := 21) (N := some 86) (v := ?_) (a' := ?_) #[true, false, true, false, true, true, false, false, true, false, false, false, true, false, false, false, false, true, true, false, false, true, false, false, false, false] rfl rfl q_ho q_id (Or.inl ⟨by rfl, ?_⟩) ?_ ?_
                      rotate_left
                      ·intro w'
                       go_simp
                       with_reducible rfl
                      rotate_left
                      ·q_si
                       rfl
                      refine take_ (i := 1) (N := some 66) (v := ?_) (a' := ?_) #[true, true, true, false, true, true, false, false, true, false, false, false, true, false, false, false, false, true, true, false, false, true, false, false, false, false] rfl rfl q_to q_id (Or.inl ⟨by rfl, ?_⟩) hHeld ?_ ?_
                      rotate_left
                      ·rintro w' ⟨s0, s1, s2, s3, s4, s5, s6, s7, s8⟩
                       go_simp
                       with_reducible rfl
                      rotate_left
                      ·q_si
                       rfl
                      refine take_ (i := 3) (N := some 68) (v := ?_) (a' := ?_) #[true, true, true, true, true, true, false, false, true, false, false, false, true, false, false, false, false, true, true, false, false, true, false, false, false, false] rfl rfl q_to q_id (Or.inl ⟨by rfl, ?_⟩) hHeld ?_ ?_
                      rotate_left
                      ·rintro w' ⟨s0, s1, s2, s3, s4, s5, s6, s7, s8⟩
                       go_simp
                       with_reducible rfl
                      rotate_left
                      ·q_si
                       rfl
                      refine take_ (i := 6) (N := some 71) (v := ?_) (a' := ?_) #[true, true, true, true, true, true, true, false, true, false, false, false, true, false, false, false, false, true, true, false, false, true, false, false, false, false] rfl rfl q_to q_id (Or.inl ⟨by rfl, ?_⟩) hHeld ?_ ?_
                      rotate_left
                      ·rintro w' ⟨s0, s1, s2, s3, s4, s5, s6, s7, s8⟩
                       go_simp
                       with_reducible rfl
                      rotate_left
                      ·q_si
                       rfl
                      refine pure_ (i := 7) (N := some 72) (v := ?_) (a' := ?_) #[true, true, true, true, true, true, true, true, true, false, false, false, true, false, false, false, false, true, true, false, false, true, false, false, false, false] rfl rfl q_ho q_id (Or.inl ⟨by rfl, ?_⟩) ?_ ?_
                      rotate_left
                      ·intro w'
                       go_simp
                       with_reducible rfl
                      rotate_left
                      ·q_si
                       rfl
                      refine pure_ (i := 9) (N := some 74) (v := ?_) (a' := ?_) #[true, true, true, true, true, true, true, true, true, true, false, false, true, false, false, false, false, true, true, false, false, true, false, false, false, false] rfl rfl q_ho q_id (Or.inl ⟨by rfl, ?_⟩) ?_ ?_
                      rotate_left
                      ·intro w'
                       go_simp
                       with_reducible rfl
                      rotate_left
                      ·q_si
                       rfl
                      refine pure_ (i := 10) (N := some 75) (v := ?_) (a' := ?_) #[true, true, true, true, true, true, true, true, true, true, true, false, true, false, false, false, false, true, true, false, false, true, false, false, false, false] rfl rfl q_ho q_id (Or.inl ⟨by rfl, ?_⟩) ?_ ?_
                      rotate_left
                      ·intro w'
                       go_simp
                       with_reducible rfl
                      rotate_left
                      ·q_si
                       rfl
                      refine take_ (i := 11) (N := some 76) (v := ?_) (a' := ?_) #[true, true, true, true, true, true, true, true, true, true, true, true, true, false, false, false, false, true, true, false, false, true, false, false, false, false] rfl rfl q_to q_id (Or.inl ⟨by rfl, ?_⟩) hHeld ?_ ?_
                      rotate_left
                      ·rintro w' ⟨s0, s1, s2, s3, s4, s5, s6, s7, s8⟩
                       go_simp
                       with_reducible rfl
                      rotate_left
                      ·q_si
                       rfl
                      refine pure_ (i := 13) (N := some 78) (v := ?_) (a' := ?_) #[true, true, true, true, true, true, true, true, true, true, true, true, true, true, false, false, false, true, true, false, false, true, false, false, false, false] rfl rfl q_ho q_id (Or.inl ⟨by rfl, ?_⟩) ?_ ?_
                      rotate_left
                      ·intro w'
                       go_simp
                       with_reducible rfl
                      rotate_left
                      ·q_si
                       rfl
                      refine take_ (i := 14) (N := some 79) (v := ?_) (a' := ?_) #[true, true, true, true, true, true, true, true, true, true, true, true, true, true, true, false, false, true, true, false, false, true, false, false, false, false] rfl rfl q_to q_id (Or.inl ⟨by rfl, ?_⟩) hHeld ?_ ?_
                      rotate_left
                      ·rintro w' ⟨s0, s1, s2, s3, s4, s5, s6, s7, s8⟩
                       go_simp
                       with_reducible rfl
                      rotate_left
                      ·q_si
                       rfl
                      refine pure_ (i := 15) (N := some 80) (v := ?_) (a' := ?_) #[true, true, true, true, true, true, true, true, true, true, true, true, true, true, true, true, false, true, true, false, false, true, false, false, false, false] rfl rfl q_ho q_id (Or.inl ⟨by rfl, ?_⟩) ?_ ?_
                      rotate_left
                      ·intro w'
                       go_simp
                       with_reducible rfl
                      rotate_left
                      ·q_si
                       rfl
                      refine take_ (i := 16) (N := some 81) (v := ?_) (a' := ?_) #[true, true, true, true, true, true, true, true, true, true, true, true, true, true, true, true, true, true, true, false, false, true, false, false, false, false] rfl rfl q_to q_id (Or.inl ⟨by rfl, ?_⟩) hHeld ?_ ?_
                      rotate_left
                      ·rintro w' ⟨s0, s1, s2, s3, s4, s5, s6, s7, s8⟩
                       go_simp
                       with_reducible rfl
                      rotate_left
                      ·q_si
                       rfl
                      refine take_ (i := 19) (N := some 84) (v := ?_) (a' := ?_) #[true, true, true, true, true, true, true, true, true, true, true, true, true, true, true, true, true, true, true, true, false, true, false, false, false, false] rfl rfl q_to q_id (Or.inl ⟨by rfl, ?_⟩) hHeld ?_ ?_
                      rotate_left
                      ·rintro w' ⟨s0, s1, s2, s3, s4, s5, s6, s7, s8⟩
                       go_simp
                       with_reducible rfl
                      rotate_left
                      ·q_si
                       rfl
                      refine pure_ (i := 20) (N := some 85) (v := ?_) (a' := ?_) #[true, true, true, true, true, true, true, true, true, true, true, true, true, true, true, true, true, true, true, true, true, true, false, false, false, false] rfl rfl q_ho q_id (Or.inl ⟨by rfl, ?_⟩) ?_ ?_
                      rotate_left
                      ·intro w'
                       go_simp
                       with_reducible rfl
                      rotate_left
                      ·q_si
                       rfl
                      refine pure_ (i := 22) (N := some 87) (v := ?_) (a' := ?_) #[true, true, true, true, true, true, true, true, true, true, true, true, true, true, true, true, true, true, true, true, true, true, true, false, false, false] rfl rfl q_ho q_id (Or.inl ⟨by rfl, ?_⟩) ?_ ?_
                      rotate_left
                      ·intro w'
                       go_simp
                       with_reducible rfl
                      rotate_left
                      ·q_si
                       rfl
                      refine pure_ (i := 23) (N := some 88) (v := ?_) (a' := ?_) #[true, true, true, true, true, true, true, true, true, true, true, true, true, true, true, true, true, true, true, true, true, true, true, true, false, false] rfl rfl q_ho q_id (Or.inl ⟨by rfl, ?_⟩) ?_ ?_
                      rotate_left
                      ·intro w'
                       go_simp
                       with_reducible rfl
                      rotate_left
                      ·q_si
                       rfl
                      refine take_ (i := 24) (N := some 89) (v := ?_) (a' := ?_) #[true, true, true, true, true, true, true, true, true, true, true, true, true, true, true, true, true, true, true, true, true, true, true, true, true, false] rfl rfl q_to q_id (Or.inl ⟨by rfl, ?_⟩) hHeld ?_ ?_
                      rotate_left
                      ·rintro w' ⟨s0, s1, s2, s3, s4, s5, s6, s7, s8⟩
                       go_simp
                       with_reducible rfl
                      rotate_left
                      ·q_si
                       rfl
                      refine pure_ (i := 25) (N := some 11) (v := ?_) (a' := ?_) #[true, true, true, true, true, true, true, true, true, true, true, true, true, true, true, true, true, true, true, true, true, true, true, true, true, true] rfl rfl q_ho q_id (Or.inl ⟨by rfl, ?_⟩) ?_ ?_
                      rotate_left
                      ·intro w'
                       go_simp
                       with_reducible rfl
                      rotate_left
                      ·q_si
                       rfl
                      refine done_ (done_of HT_.out (by kernel_rfl)) ?_
                      try go_wp2
                      have n0_ := Aside0.mk (blk_drew BK289.out)
                      have n1_ := Aside0.mk (below_drew1 HB.out)
                      clear HB BK289
                      have BK289 := n0_
                      have HB := n1_
                      clear n0_ n1_
                      refine start_ (n := 14) (S := fun w' => w'.cell? ⟨gb289, 0, none⟩ = some (.slice (some ad296) l0_0.length c0_0) ∧ w'.cell? ⟨gb289, 1, none⟩ = some (.int .i64 a0_1) ∧ w'.cell? ⟨gb289, 2, none⟩ = some (.int .i64 a0_2) ∧ w'.cell? ⟨gb289, 3, none⟩ = some (.slice (some ad294) l0_3.length c0_3) ∧ w'.cell? ⟨gb289, 4, none⟩ = some (.bool a0_4)) (ds := []) #[false, false, false, false, false, false, false, false, false, false, false, false, false, false] (by kernel_rfl) rfl rfl ⟨(blk_cell BK289.out 0).trans rfl, (blk_cell BK289.out 1).trans rfl, (blk_cell BK289.out 2).trans rfl, (blk_cell BK289.out 3).trans rfl, (blk_cell BK289.out 4).trans rfl⟩ (fun hHeld => ?_); refine with_tabW semigroupref17_Mul.tab11 semigroupref17_Mul.bits11 (fun HT_ HW_ => ?_)
                      generalize w52.drew = w53 at BK289 HB hHeld ⊢
                      refine pure_ (i := 1) (N := some 91) (v := ?_) (a' := ?_) #[false, true, false, false, false, false, false, false, false, false, false, false, false, false] rfl rfl q_ho q_id (Or.inl ⟨by rfl, ?_⟩) ?_ ?_
                      rotate_left
                      ·intro w'
                       go_simp
                       with_reducible rfl
                      rotate_left
                      ·q_si
                       rfl
                      refine pure_ (i := 2) (N := some 92) (v := ?_) (a' := ?_) #[false, true, true, false, false, false, false, false, false, false, false, false, false, false] rfl rfl q_ho q_id (Or.inl ⟨by rfl, ?_⟩) ?_ ?_
                      rotate_left
                      ·intro w'
                       go_simp
                       with_reducible rfl
                      rotate_left
                      ·q_si
                       rfl
                      refine pure_ (i := 5) (N := some 95) (v := ?_) (a' := ?_) #[false, true, true, false, false, true, false, false, false, false, false, false, false, false] rfl rfl q_ho q_id (Or.inl ⟨by rfl, ?_⟩) ?_ ?_
                      rotate_left
                      ·intro w'
                       go_simp
                       with_reducible rfl
                      rotate_left
                      ·q_si
                       rfl
                      refine pure_ (i := 7) (N := some 97) (v := ?_) (a' := ?_) #[false, true, true, false, false, true, false, true, false, false, false, false, false, false] rfl rfl q_ho q_id (Or.inl ⟨by rfl, ?_⟩) ?_ ?_
                      rotate_left
                      ·intro w'
                       go_simp
                       with_reducible rfl
                      rotate_left
                      ·q_si
                       rfl
                      refine pure_ (i := 8) (N := some 98) (v := ?_) (a' := ?_) #[false, true, true, false, false, true, false, true, true, false, false, false, false, false] rfl rfl q_ho q_id (Or.inl ⟨by rfl, ?_⟩) ?_ ?_
                      rotate_left
                      ·intro w'
                       go_simp
                       with_reducible rfl
                      rotate_left
                      ·q_si
                       rfl
                      refine pure_ (i := 9) (N := some 99) (v := ?_) (a' := ?_) #[false, true, true, false, false, true, false, true, true, true, false, false, false, false] rfl rfl q_ho q_id (Or.inl ⟨by rfl, ?_⟩) ?_ ?_
                      rotate_left
                      ·intro w'
                       go_simp
                       with_reducible rfl
                      rotate_left
                      ·q_si
                       rfl
                      refine take_ (i := 0) (N := some 90) (v := ?_) (a' := ?_) #[true, true, true, false, false, true, false, true, true, true, false, false, false, false] rfl rfl q_to q_id (Or.inl ⟨by rfl, ?_⟩) hHeld ?_ ?_
                      rotate_left
                      ·rintro w' ⟨s0, s1, s2, s3, s4⟩
                       go_simp
                       with_reducible rfl
                      rotate_left
                      ·q_si
                       rfl
                      refine take_ (i := 3) (N := some 93) (v := ?_) (a' := ?_) #[true, true, true, true, false, true, false, true, true, true, false, false, false, false] rfl rfl q_to q_id (Or.inl ⟨by rfl, ?_⟩) hHeld ?_ ?_
                      rotate_left
                      ·rintro w' ⟨s0, s1, s2, s3, s4⟩
                       go_simp
                       with_reducible rfl
                      rotate_left
                      ·q_si
                       rfl
                      refine pure_ (i := 4) (N := some 94) (v := ?_) (a' := ?_) #[true, true, true, true, true, true, false, true, true, true, false, false, false, false] rfl rfl q_ho q_id (Or.inl ⟨by rfl, ?_⟩) ?_ ?_
                      rotate_left
                      ·intro w'
                       go_simp
                       with_reducible rfl
                      rotate_left
                      ·q_si
                       rfl
                      refine pure_ (i := 6) (N := some 96) (v := ?_) (a' := ?_) #[true, true, true, true, true, true, true, true, true, true, false, false, false, false] rfl rfl q_ho q_id (Or.inl ⟨by rfl, ?_⟩) ?_ ?_
                      rotate_left
                      ·intro w'
                       go_simp
                       with_reducible rfl
                      rotate_left
                      ·q_si
                       rfl
                      refine take_ (i := 10) (N := some 100) (v := ?_) (a' := ?_) #[true, true, true, true, true, true, true, true, true, true, true, false, false, false] rfl rfl q_to q_id (Or.inl ⟨by rfl, ?_⟩) hHeld ?_ ?_
                      rotate_left
                      ·rintro w' ⟨s0, s1, s2, s3, s4⟩
                       go_simp
                       with_reducible rfl
                      rotate_left
                      ·q_si
                       rfl
                      refine pure_ (i := 11) (N := some 101) (v := ?_) (a' := ?_) #[true, true, true, true, true, true, true, true, true, true, true, true, false, false] rfl rfl q_ho q_id (Or.inl ⟨by rfl, ?_⟩) ?_ ?_
                      rotate_left
                      ·intro w'
                       go_simp
                       with_reducible rfl
                      rotate_left
                      ·q_si
                       rfl
                      refine one_ (i := 12) (N := some 102) #[true, true, true, true, true, true, true, true, true, true, true, true, true, false] rfl rfl (one_of HT_.out (by kernel_rfl)) (by decide) (fun K hK => ?_)
                      refine goes_ Try.func27 (by kernel_rfl) rfl #[.agg #[.slice (some ad296) l0_0.length c0_0, .int .i64 a0_1, .int .i64 a0_2, .slice (some ad294) l0_3.length c0_3, .bool a0_4], .int .i64 (wrap64 (Int.tdiv (wrap64 (Int.tdiv (wrap64 (a1 - t292)) a0_2)) (l0_0.length : Int))), .int .i64 (rd (rd_L1 l0_0 (rd (rd_L1 l0_0 (ji39)) (rd (rd_L1 l0_3 (ji29)) (ji33)))) (ji46)), .int .i64 (Int.tmod (wrap64 (a2 - t293)) a0_2)] (by rfl) rfl rfl (by (try simp only [List.map_toArray, List.map_cons, List.map_nil]); first | done | (simp only [hji29, hji33, hji39, hji46]; rfl) | rfl | (simp only [List.length_drop, List.length_take]; rfl)) ?_
                      with_reducible refine (semigroupref17_Number.calls _ _ l0_0 a0_1 a0_2 _ _ l0_3 a0_4 (wrap64 (Int.tdiv (wrap64 (Int.tdiv (wrap64 (a1 - t292)) a0_2)) (l0_0.length : Int))) (rd (rd_L1 l0_0 (rd (rd_L1 l0_0 (ji39)) (rd (rd_L1 l0_3 (ji29)) (ji33)))) (ji46)) (Int.tmod (wrap64 (a2 - t293)) a0_2) t300 _ ?side1 ?side2 ?side3 ?side4 A49.out).mono ?_
                      (case side1 => q_cc (Kd.C_below HR0_0.out HB.out))
                      (case side2 => exact HC0_0.out)
                      (case side3 => q_cc (Kd.C_below HR0_3.out HB.out))
                      (case side4 => exact HC0_3.out)
                      rintro e w54 ⟨rfl, hb⟩
                      refine ⟨_, rfl, ?_⟩
                      have n0_ := Aside0.mk (blk_below (g := gb289) (o := .cells #[.slice (some ad296) l0_0.length c0_0, .int .i64 a0_1, .int .i64 a0_2, .slice (some ad294) l0_3.length c0_3, .bool a0_4] 24 (0, 0)) (by q_bk; exact BK289.out) hb)
                      have n1_ := Aside0.mk (below_step (q_hs GE289.out) hb)
                      clear HB BK289
                      have BK289 := n0_
                      have HB := n1_
                      clear n0_ n1_
                      (try clear hb)
                      (try clear hb2)
                      (try clear hk)
                      (try clear hi)
                      refine hK.out _ _ ⟨(blk_cell BK289.out 0).trans rfl, (blk_cell BK289.out 1).trans rfl, (blk_cell BK289.out 2).trans rfl, (blk_cell BK289.out 3).trans rfl, (blk_cell BK289.out 4).trans rfl⟩ (fun hHeld => ?_)
                      clear hK K
                      refine norm_ (a' := ?_) ?_ ?_
                      rotate_left
                      ·show Act.put _ (some 102) _ = _
                       simp only [Act.put, List.setIfInBounds_toArray, List.set_cons_zero, List.set_cons_succ, i64_w, i32_w]
                       rfl
                      refine pure_ (i := 13) (N := some 6) (v := ?_) (a' := ?_) #[true, true, true, true, true, true, true, true, true, true, true, true, true, true] rfl rfl q_ho q_id (Or.inl ⟨by rfl, ?_⟩) ?_ ?_
                      rotate_left
                      ·intro w'
                       go_simp
                       with_reducible rfl
                      rotate_left
                      ·q_si
                       rfl
                      refine done_ (done_of HT_.out (by kernel_rfl)) ?_
                      try go_wp2
                      go_ret
                      exact ⟨by first | rfl | q_em | (simp only [← hji29, ← hji33, ← hji39, ← hji46]; first | rfl | q_em) | q_en, by repeat (first | (with_reducible first | exact HB.out | apply below_alloc | apply pw_below_drewN | apply below_drew1 | refine below_set ?_ GE289.out) | exact HB.out)⟩
                     ·rw [if_neg c48] at H
                      exact absurd H (by simp)
                    ·rw [if_neg c47] at H
                     exact absurd H (by simp)
                   ·rw [if_neg c45] at H
                    exact absurd H (by simp)
                  ·rw [if_neg c44] at H
                   exact absurd H (by simp)
                 ·rw [if_neg c43] at H
                  exact absurd H (by simp)
                ·rw [if_neg c42] at H
                 exact absurd H (by simp)
               ·rw [if_neg c41] at H
                exact absurd H (by simp)
              ·rw [if_neg c40] at H
               exact absurd H (by simp)
            ·rw [if_neg c35] at H
             exact absurd H (by simp)
           ·rw [if_neg c34] at H
            exact absurd H (by simp)
         ·rw [if_neg c31] at H
          exact absurd H (by simp)
        ·rw [if_neg c30] at H
         exact absurd H (by simp)

/-! ### semigroupref17_Table: function 19 -/
mutual
def semigroupref17_Table.l0 : Nat → List (List Int) → Int → List (List Int) → Int → Int → List (List Int) → Bool → Option ((List (List Int)))
 | 0, _, _, _, _, _, _, _ => none
 | k + 1, x3, x4, x302000, x302001, x302002, x302003, x302004 => (semigroupref17_Size.f x302000 x302001 x302002 x302003 x302004).bind fun t302 => (if x4 < t302 then (semigroupref17_Table.l1 k x3 x4 ([] : List Int) 0 x302000 x302001 x302002 x302003 x302004) else (some x3))
def semigroupref17_Table.l1 : Nat → List (List Int) → Int → List Int → Int → List (List Int) → Int → Int → List (List Int) → Bool → Option ((List (List Int)))
 | 0, _, _, _, _, _, _, _, _, _ => none
 | k + 1, x3, x4, x5, x6, x302000, x302001, x302002, x302003, x302004 => (semigroupref17_Size.f x302000 x302001 x302002 x302003 x302004).bind fun t303 => (if x6 < t303 then ((semigroupref17_Mul.f k x302000 x302001 x302002 x302003 x302004 x4 x6).bind fun t304 => (if x5.length < 17592186044416 then (semigroupref17_Table.l1 k x3 x4 (x5 ++ [t304]) (wrap64 (x6 + 1)) x302000 x302001 x302002 x302003 x302004) else (none))) else (if x3.length < 5864062014805 then (semigroupref17_Table.l0 k (x3 ++ [x5]) (wrap64 (x4 + 1)) x302000 x302001 x302002 x302003 x302004) else (none)))
end
def semigroupref17_Table.f (k : Nat) (l0_0 : List (List Int)) (a0_1 : Int) (a0_2 : Int) (l0_3 : List (List Int)) (a0_4 : Bool) : Option ((List (List Int))) := semigroupref17_Table.l0 k ([] : List (List Int)) 0 l0_0 a0_1 a0_2 l0_3 a0_4
theorem semigroupref17_Table.mono_l : ∀ k, (∀ y0 y1 y2 y3 y4 y5 y6, LeO (semigroupref17_Table.l0 k y0 y1 y2 y3 y4 y5 y6) (semigroupref17_Table.l0 (k + 1) y0 y1 y2 y3 y4 y5 y6)) ∧ (∀ y0 y1 y2 y3 y4 y5 y6 y7 y8, LeO (semigroupref17_Table.l1 k y0 y1 y2 y3 y4 y5 y6 y7 y8) (semigroupref17_Table.l1 (k + 1) y0 y1 y2 y3 y4 y5 y6 y7 y8))
 | 0 => ⟨fun _ _ _ _ _ _ _ r h => by simp [semigroupref17_Table.l0] at h, fun _ _ _ _ _ _ _ _ _ r h => by simp [semigroupref17_Table.l1] at h⟩
 | k + 1 => by
  obtain ⟨ih0, ih1⟩ := semigroupref17_Table.mono_l k
  refine ⟨?_, ?_⟩
  ·intro y0 y1 y2 y3 y4 y5 y6
   unfold semigroupref17_Table.l0
   repeat' first
   | (with_reducible exact ih0 _ _ _ _ _ _ _)
   | (with_reducible exact ih1 _ _ _ _ _ _ _ _ _)
   | (with_reducible exact semigroupref17_Mul.mono _ _ _ _ _ _ _ _)
   | (with_reducible exact LeO.refl _)
   | (with_reducible exact LeO.none _)
   | (with_reducible refine LeO.ite ?_ ?_)
   | (with_reducible refine LeO.bind ?_ (fun _ => ?_))
   | exact ih0 _ _ _ _ _ _ _
   | exact ih1 _ _ _ _ _ _ _ _ _
   | exact semigroupref17_Mul.mono _ _ _ _ _ _ _ _
   | exact LeO.none _
   | refine LeO.ite ?_ ?_
   | refine LeO.bind ?_ (fun _ => ?_)
  ·intro y0 y1 y2 y3 y4 y5 y6 y7 y8
   unfold semigroupref17_Table.l1
   repeat' first
   | (with_reducible exact ih0 _ _ _ _ _ _ _)
   | (with_reducible exact ih1 _ _ _ _ _ _ _ _ _)
   | (with_reducible exact semigroupref17_Mul.mono _ _ _ _ _ _ _ _)
   | (with_reducible exact LeO.refl _)
   | (with_reducible exact LeO.none _)
   | (with_reducible refine LeO.ite ?_ ?_)
   | (with_reducible refine LeO.bind ?_ (fun _ => ?_))
   | exact ih0 _ _ _ _ _ _ _
   | exact ih1 _ _ _ _ _ _ _ _ _
   | exact semigroupref17_Mul.mono _ _ _ _ _ _ _ _
   | exact LeO.none _
   | refine LeO.ite ?_ ?_
   | refine LeO.bind ?_ (fun _ => ?_)
theorem semigroupref17_Table.mono : ∀ a0 a1 a2 a3 a4 k, LeO (semigroupref17_Table.f k a0 a1 a2 a3 a4) (semigroupref17_Table.f (k + 1) a0 a1 a2 a3 a4) := by
 intro a0 a1 a2 a3 a4 k
 obtain ⟨ih0, ih1⟩ := semigroupref17_Table.mono_l k
 unfold semigroupref17_Table.f
 repeat' first
   | (with_reducible exact ih0 _ _ _ _ _ _ _)
   | (with_reducible exact ih1 _ _ _ _ _ _ _ _ _)
   | (with_reducible exact semigroupref17_Mul.mono _ _ _ _ _ _ _ _)
   | (with_reducible exact LeO.refl _)
   | (with_reducible exact LeO.none _)
   | (with_reducible refine LeO.ite ?_ ?_)
   | (with_reducible refine LeO.bind ?_ (fun _ => ?_))
   | exact ih0 _ _ _ _ _ _ _
   | exact ih1 _ _ _ _ _ _ _ _ _
   | exact semigroupref17_Mul.mono _ _ _ _ _ _ _ _
   | exact LeO.none _
   | refine LeO.ite ?_ ?_
   | refine LeO.bind ?_ (fun _ => ?_)
set_option maxHeartbeats 8000000 in
set_option maxRecDepth 100000 in
theorem semigroupref17_Table.calls (k : Nat) (A0_0 : Option Addr) (c0_0 : Nat) (l0_0 : List (List Int)) (a0_1 : Int) (a0_2 : Int) (A0_3 : Option Addr) (c0_3 : Nat) (l0_3 : List (List Int)) (a0_4 : Bool) (r : List (List Int)) (w : World) (hr0_0 : Kd.C (Kd.slice 3 (Kd.int .i64)) w A0_0 l0_0.length l0_0) (hc0_0 : l0_0.length ≤ c0_0) (hr0_3 : Kd.C (Kd.slice 3 (Kd.int .i64)) w A0_3 l0_3.length l0_3) (hc0_3 : l0_3.length ≤ c0_3) (h : semigroupref17_Table.f k l0_0 a0_1 a0_2 l0_3 a0_4 = some r) :
  Calls Try.prog 19 #[.agg #[.slice A0_0 l0_0.length c0_0, .int .i64 a0_1, .int .i64 a0_2, .slice A0_3 l0_3.length c0_3, .bool a0_4]] w fun e w' => ∃ v0_ : Value, e = .returned (v0_) ∧ Kd.S (Kd.slice 3 (Kd.int .i64)) 39 w' w.heap.size (fun _ => True) v0_ r ∧ Below w.heap.size w w' := by
 have hu24 := Try.underlying24
 have HR0_0 := Aside0.mk hr0_0
 have HC0_0 := Aside0.mk hc0_0
 (try clear hr0_0); (try clear hc0_0)
 have HR0_3 := Aside0.mk hr0_3
 have HC0_3 := Aside0.mk hc0_3
 (try clear hr0_3); (try clear hc0_3)
 have HB := Aside0.mk (Below.refl w.heap.size w)
 have H : (semigroupref17_Table.l0 k ([] : List (List Int)) 0 l0_0 a0_1 a0_2 l0_3 a0_4) = some r := h
 clear h
 have H' := Aside0.mk H
 clear H
 go_enter Try.func19, Try.ntmps19
 go_wp2_with (first | ((with_reducible refine gate_dst (N := 1) rfl ?_); refine box_event ?hg (N := 1) ?hd (cs := #[.slice A0_0 l0_0.length c0_0, .int .i64 a0_1, .int .i64 a0_2, .slice A0_3 l0_3.length c0_3, .bool a0_4]) (t := 24) ?hr ?_; (case hd => rfl); (case hg => rfl); q_hr; intro gb301 hg w2 hbox hb; have n0_ := Aside0.mk (below_step q_hb hb); have n1_ := Aside0.mk (hbox); have n2_ := Aside0.mk ((by rw [hg]; exact q_bs : w.heap.size ≤ gb301)); have n3_ := Aside0.mk ((by rw [hg]; exact q_bs : w.heap.size ≤ gb301)); clear HB; have HB := n0_; have BK301 := n1_; have GW301 := n2_; have GE301 := n3_; clear n0_ n1_ n2_ n3_; (q_x hb hbox); (try clear hg)))
 go_loopg [3, 4] k (fun kq v3 v4 w' => ∃ (x3_1 : List (List Int)) (x4_1 : Int), v4 = .int .i64 x4_1 ∧ Aside0 (semigroupref17_Table.l0 kq x3_1 x4_1 l0_0 a0_1 a0_2 l0_3 a0_4 = some r) ∧ Aside0 (kq ≤ k) ∧ Aside0 (Kd.S (Kd.slice 3 (Kd.int .i64)) 39 w' w.heap.size (fun _ => True) v3 x3_1) ∧ Aside0 (w'.heap[gb301]? = some (.cells #[(.slice A0_0 l0_0.length c0_0), .int .i64 a0_1, .int .i64 a0_2, (.slice A0_3 l0_3.length c0_3), .bool a0_4] 24 (0, 0))) ∧ Aside0 (Below w.heap.size w w'))
 case atStart => exact ⟨(([] : List (List Int))), (0), q_rs, H', ⟨Nat.le_refl _⟩, ⟨by first | exact Kd.S_nil _ _ _ _ _ | exact Kd.N_nil _ _ _ _ _ | exact Kd.V_nil _ _ _ _ _ | exact Kd.Q_nil _ _ _ _ _ | exact Kd.R_nil _ _ _ _ _⟩, ⟨by q_bk; exact BK301.out⟩, ⟨by repeat (first | (with_reducible first | exact HB.out | apply below_alloc | apply pw_below_drewN | apply below_drew1 | refine below_set ?_ GE301.out) | exact HB.out)⟩⟩
 case round =>
  clear H'
  q_x c1 p2
  obtain ⟨x3_1, x4_1, rfl, HA, HK1, HO_3, BK301, HB⟩ := hrel
  cases gk with
  | zero => exact absurd HA.out (by simp [semigroupref17_Table.l0])
  | succ k1 =>
   have H := HA.out
   clear HA
   simp only [semigroupref17_Table.l0] at H
   replace H := Option.bind_eq_some_iff.mp H
   obtain ⟨t302, A30, H⟩ := H
   replace H : (if x4_1 < t302 then (semigroupref17_Table.l1 k1 x3_1 x4_1 ([] : List Int) 0 l0_0 a0_1 a0_2 l0_3 a0_4) else (some x3_1)) = some r := H
   have A3 := Aside0.mk A30
   clear A30
   by_cases c4 : x4_1 < t302
   ·rw [if_pos c4] at H
    have c4b0 : decide (x4_1 < t302) = true := decide_eq_true c4
    clear c4
    have H' := Aside0.mk H
    clear H
    have hcz5_0 : wr.cell? ⟨gb301, 0, none⟩ = some (.slice A0_0 l0_0.length c0_0) := (blk_cell BK301.out 0).trans rfl
    have hcz5_1 : wr.cell? ⟨gb301, 1, none⟩ = some (.int .i64 a0_1) := (blk_cell BK301.out 1).trans rfl
    have hcz5_2 : wr.cell? ⟨gb301, 2, none⟩ = some (.int .i64 a0_2) := (blk_cell BK301.out 2).trans rfl
    have hcz5_3 : wr.cell? ⟨gb301, 3, none⟩ = some (.slice A0_3 l0_3.length c0_3) := (blk_cell BK301.out 3).trans rfl
    have hcz5_4 : wr.cell? ⟨gb301, 4, none⟩ = some (.bool a0_4) := (blk_cell BK301.out 4).trans rfl
    have hfz5_0 := blk_frozen BK301.out 0
    have hfz5_1 := blk_frozen BK301.out 1
    have hfz5_2 := blk_frozen BK301.out 2
    have hfz5_3 := blk_frozen BK301.out 3
    have hfz5_4 := blk_frozen BK301.out 4
    go_wp2_with (first | ((with_reducible refine gate_callee (f := 16) rfl ?_); refine goesL_ (some 9) rfl rfl Try.func16 (by kernel_rfl) rfl #[.agg #[.slice A0_0 l0_0.length c0_0, .int .i64 a0_1, .int .i64 a0_2, .slice A0_3 l0_3.length c0_3, .bool a0_4]] rfl q_ml ?_; (with_reducible refine (semigroupref17_Size.calls _ _ l0_0 a0_1 a0_2 _ _ l0_3 a0_4 t302 _ ?side1 ?side2 ?side3 ?side4 A3.out).mono ?_); (case side1 => q_cc (Kd.C_below HR0_0.out HB.out)); (case side2 => exact HC0_0.out); (case side3 => q_cc (Kd.C_below HR0_3.out HB.out)); (case side4 => exact HC0_3.out); rintro e w6 ⟨rfl, hb⟩; refine ⟨_, rfl, ?_⟩; have n0_ := Aside0.mk (Kd.S_below (by q_ns; exact HO_3.out) hb); have n1_ := Aside0.mk (blk_below (g := gb301) (o := .cells #[.slice A0_0 l0_0.length c0_0, .int .i64 a0_1, .int .i64 a0_2, .slice A0_3 l0_3.length c0_3, .bool a0_4] 24 (0, 0)) (by q_bk; exact BK301.out) hb); have n2_ := Aside0.mk (below_step (q_hs GE301.out) hb); clear HO_3; clear BK301; clear HB; have HO_3 := n0_; have BK301 := n1_; have HB := n2_; clear n0_ n1_ n2_; (q_x hb hb2 hk); (try clear hi)))
    go_loopg [5, 6] k1 (fun kq v5 v6 w' => ∃ (x5_2 : List Int) (x6_2 : Int), v6 = .int .i64 x6_2 ∧ Aside0 (semigroupref17_Table.l1 kq x3_1 x4_1 x5_2 x6_2 l0_0 a0_1 a0_2 l0_3 a0_4 = some r) ∧ Aside0 (kq ≤ k1) ∧ Aside0 (Kd.S (Kd.slice 3 (Kd.int .i64)) 39 w' w.heap.size (fun k_ => some k_ ≠ (v5 : Value).ownBlock) u3 x3_1) ∧ Aside0 (Kd.R (Kd.int .i64) 3 w' w.heap.size (fun _ => True) v5 x5_2) ∧ Aside0 (w'.heap[gb301]? = some (.cells #[(.slice A0_0 l0_0.length c0_0), .int .i64 a0_1, .int .i64 a0_2, (.slice A0_3 l0_3.length c0_3), .bool a0_4] 24 (0, 0))) ∧ Aside0 (Below w.heap.size w w'))
    case atStart => exact ⟨(([] : List Int)), (0), q_rs, H', ⟨Nat.le_refl _⟩, ⟨by q_ns; exact Kd.S_mono HO_3.out (fun _ hk => (by simp [Value.ownBlock]))⟩, ⟨by first | exact Kd.R_nil _ _ _ _ _ | exact Kd.N_nil _ _ _ _ _ | exact Kd.V_nil _ _ _ _ _ | exact Kd.Q_nil _ _ _ _ _ | exact Kd.S_nil _ _ _ _ _⟩, ⟨by q_bk; exact BK301.out⟩, ⟨by repeat (first | (with_reducible first | exact HB.out | apply below_alloc | apply pw_below_drewN | apply below_drew1 | refine below_set ?_ GE301.out) | exact HB.out)⟩⟩
    case round =>
     clear H'
     q_x c1 p2 c4 c4b0 hcz5_0 hcz5_1 hcz5_2 hcz5_3 hcz5_4 hfz5_0 hfz5_1 hfz5_2 hfz5_3 hfz5_4 p2
     obtain ⟨x5_2, x6_2, rfl, HA, HK2, HO_3, HO_5, BK301, HB⟩ := hrel
     cases gk with
     | zero => exact absurd HA.out (by simp [semigroupref17_Table.l1])
     | succ k2 =>
      have H := HA.out
      clear HA
      simp only [semigroupref17_Table.l1] at H
      replace H := Option.bind_eq_some_iff.mp H
      obtain ⟨t303, A70, H⟩ := H
      replace H : (if x6_2 < t303 then ((semigroupref17_Mul.f k2 l0_0 a0_1 a0_2 l0_3 a0_4 x4_1 x6_2).bind fun t304 => (if x5_2.length < 17592186044416 then (semigroupref17_Table.l1 k2 x3_1 x4_1 (x5_2 ++ [t304]) (wrap64 (x6_2 + 1)) l0_0 a0_1 a0_2 l0_3 a0_4) else (none))) else (if x3_1.length < 5864062014805 then (semigroupref17_Table.l0 k2 (x3_1 ++ [x5_2]) (wrap64 (x4_1 + 1)) l0_0 a0_1 a0_2 l0_3 a0_4) else (none))) = some r := H
      have A7 := Aside0.mk A70
      clear A70
      by_cases c8 : x6_2 < t303
      ·rw [if_pos c8] at H
       have c8b0 : decide (x6_2 < t303) = true := decide_eq_true c8
       clear c8
       replace H := Option.bind_eq_some_iff.mp H
       obtain ⟨t304, A90, H⟩ := H
       replace H : (if x5_2.length < 17592186044416 then (semigroupref17_Table.l1 k2 x3_1 x4_1 (x5_2 ++ [t304]) (wrap64 (x6_2 + 1)) l0_0 a0_1 a0_2 l0_3 a0_4) else (none)) = some r := H
       have A9 := Aside0.mk A90
       clear A90
       by_cases c10 : x5_2.length < 17592186044416
       ·rw [if_pos c10] at H
        have LMc10 := Aside0.mk c10
        clear c10
        obtain ⟨y305, hy305⟩ : ∃ y_ : List Int, y_ = (x5_2 ++ [t304]) := ⟨_, rfl⟩
        replace H : (semigroupref17_Table.l1 k2 x3_1 x4_1 y305 (wrap64 (x6_2 + 1)) l0_0 a0_1 a0_2 l0_3 a0_4) = some r := by first | (rw [hy305]; with_reducible exact H) | (have H2_ := (Option.bind_some _ _).symm.trans H; rw [hy305]; with_reducible exact H2_) | (have H2_ := (Option.bind_some _ _).symm.trans H; with_reducible exact H2_) | with_reducible exact H | (rw [hy305]; exact H) | exact H
        have Ny305 := Aside0.mk hy305
        clear hy305
        have H' := Aside0.mk H
        clear H
        have hcz11_0 : wr.cell? ⟨gb301, 0, none⟩ = some (.slice A0_0 l0_0.length c0_0) := (blk_cell BK301.out 0).trans rfl
        have hcz11_1 : wr.cell? ⟨gb301, 1, none⟩ = some (.int .i64 a0_1) := (blk_cell BK301.out 1).trans rfl
        have hcz11_2 : wr.cell? ⟨gb301, 2, none⟩ = some (.int .i64 a0_2) := (blk_cell BK301.out 2).trans rfl
        have hcz11_3 : wr.cell? ⟨gb301, 3, none⟩ = some (.slice A0_3 l0_3.length c0_3) := (blk_cell BK301.out 3).trans rfl
        have hcz11_4 : wr.cell? ⟨gb301, 4, none⟩ = some (.bool a0_4) := (blk_cell BK301.out 4).trans rfl
        have hfz11_0 := blk_frozen BK301.out 0
        have hfz11_1 := blk_frozen BK301.out 1
        have hfz11_2 := blk_frozen BK301.out 2
        have hfz11_3 := blk_frozen BK301.out 3
        have hfz11_4 := blk_frozen BK301.out 4
        go_wp2_with (first | ((with_reducible refine gate_callee (f := 16) rfl ?_); refine goesL_ (some 15) rfl rfl Try.func16 (by kernel_rfl) rfl #[.agg #[.slice A0_0 l0_0.length c0_0, .int .i64 a0_1, .int .i64 a0_2, .slice A0_3 l0_3.length c0_3, .bool a0_4]] rfl q_ml ?_; (with_reducible refine (semigroupref17_Size.calls _ _ l0_0 a0_1 a0_2 _ _ l0_3 a0_4 t303 _ ?side1 ?side2 ?side3 ?side4 A7.out).mono ?_); (case side1 => q_cc (Kd.C_below HR0_0.out HB.out)); (case side2 => exact HC0_0.out); (case side3 => q_cc (Kd.C_below HR0_3.out HB.out)); (case side4 => exact HC0_3.out); rintro e w12 ⟨rfl, hb⟩; refine ⟨_, rfl, ?_⟩; have n0_ := Aside0.mk (Kd.S_below (by q_ns; exact HO_3.out) hb); have n1_ := Aside0.mk (Kd.R_below (by q_nr; exact HO_5.out) hb); have n2_ := Aside0.mk (blk_below (g := gb301) (o := .cells #[.slice A0_0 l0_0.length c0_0, .int .i64 a0_1, .int .i64 a0_2, .slice A0_3 l0_3.length c0_3, .bool a0_4] 24 (0, 0)) (by q_bk; exact BK301.out) hb); have n3_ := Aside0.mk (below_step (q_hs GE301.out) hb); clear HO_3; clear HO_5; clear BK301; clear HB; have HO_3 := n0_; have HO_5 := n1_; have BK301 := n2_; have HB := n3_; clear n0_ n1_ n2_ n3_; (q_x hb hb2 hk hi); have hcz13_0 : w12.cell? ⟨gb301, 0, none⟩ = some (.slice A0_0 l0_0.length c0_0) := (blk_cell BK301.out 0).trans rfl; have hcz13_1 : w12.cell? ⟨gb301, 1, none⟩ = some (.int .i64 a0_1) := (blk_cell BK301.out 1).trans rfl; have hcz13_2 : w12.cell? ⟨gb301, 2, none⟩ = some (.int .i64 a0_2) := (blk_cell BK301.out 2).trans rfl; have hcz13_3 : w12.cell? ⟨gb301, 3, none⟩ = some (.slice A0_3 l0_3.length c0_3) := (blk_cell BK301.out 3).trans rfl; have hcz13_4 : w12.cell? ⟨gb301, 4, none⟩ = some (.bool a0_4) := (blk_cell BK301.out 4).trans rfl; have hfz13_0 := blk_frozen BK301.out 0; have hfz13_1 := blk_frozen BK301.out 1; have hfz13_2 := blk_frozen BK301.out 2; have hfz13_3 := blk_frozen BK301.out 3; have hfz13_4 := blk_frozen BK301.out 4) | ((with_reducible refine gate_callee (f := 28) rfl ?_); refine goesL_ (some 23) rfl rfl Try.func28 (by kernel_rfl) rfl #[.agg #[.slice A0_0 l0_0.length c0_0, .int .i64 a0_1, .int .i64 a0_2, .slice A0_3 l0_3.length c0_3, .bool a0_4], .int .i64 x4_1, .int .i64 x6_2] rfl q_ml ?_; (with_reducible refine (semigroupref17_Mul.calls k2 _ _ l0_0 a0_1 a0_2 _ _ l0_3 a0_4 x4_1 x6_2 t304 _ ?side1 ?side2 ?side3 ?side4 A9.out).mono ?_); (case side1 => q_cc (Kd.C_below HR0_0.out HB.out)); (case side2 => exact HC0_0.out); (case side3 => q_cc (Kd.C_below HR0_3.out HB.out)); (case side4 => exact HC0_3.out); rintro e w14 ⟨rfl, hb⟩; refine ⟨_, rfl, ?_⟩; have n0_ := Aside0.mk (Kd.S_below (by q_ns; exact HO_3.out) hb); have n1_ := Aside0.mk (Kd.R_below (by q_nr; exact HO_5.out) hb); have n2_ := Aside0.mk (blk_below (g := gb301) (o := .cells #[.slice A0_0 l0_0.length c0_0, .int .i64 a0_1, .int .i64 a0_2, .slice A0_3 l0_3.length c0_3, .bool a0_4] 24 (0, 0)) (by q_bk; exact BK301.out) hb); have n3_ := Aside0.mk (below_step (q_hs GE301.out) hb); clear HO_3; clear HO_5; clear BK301; clear HB; have HO_3 := n0_; have HO_5 := n1_; have BK301 := n2_; have HB := n3_; clear n0_ n1_ n2_ n3_; (q_x hb hb2 hk); (try clear hi)) | ((with_reducible refine gate_builtin (b := .append) (xs := #[.tmp 19, .tmp 24]) rfl ?_); at_builtin; refine Kd.R_append (Kd.int .i64) (w0 := w) w.heap.size rfl (.tmp 19) (.tmp 24) 39 3 (.int .i64 0) 8 rfl Try.underlying39 info3 rfl (by decide) (by omega) u5 x5_2 t304 [.int .i64 t304] (fun _ => True) (fun _ => False) rfl rfl ?aP (fun _ hk => hk.elim) ?aF ?aO ?aB ?aS ?aL ?_; (case aP => exact rfl); (case aB => exact (q_hs GE301.out)); (case aF => exact (fun _ _ => trivial)); (case aO => exact (by q_nr; exact HO_5.out)); (case aS => exact (below_size (q_hs GE301.out))); (case aL => have := LMc10.out; omega); intro v306 w15 ho hb hg hat; rw [← Ny305.out] at ho; have n0_ := Aside0.mk (Kd.S_after (ok := (fun _ => True)) (by q_ns; exact Kd.S_mono HO_3.out (fun _ hk => ⟨trivial, hk⟩)) hg hat); have n1_ := Aside0.mk (blk_grown (g := gb301) (o := .cells #[.slice A0_0 l0_0.length c0_0, .int .i64 a0_1, .int .i64 a0_2, .slice A0_3 l0_3.length c0_3, .bool a0_4] 24 (0, 0)) (by q_bk; exact BK301.out) hg (Kd.R_ne HO_5.out BK301.out (by decide))); have n2_ := Aside0.mk (hb); have n3_ := Aside0.mk (ho); clear HO_3; clear BK301; clear HB; clear HO_5; have HO_3 := n0_; have BK301 := n1_; have HB := n2_; have HO307 := n3_; clear n0_ n1_ n2_ n3_; (q_x ho hb hg); (try clear hat)))
        go_roundg k2
        case measure => have := HK1.out; have := HK2.out; omega
        case rel => exact ⟨(y305), (wrap64 (x6_2 + 1)), q_rs, H', ⟨by have := HK1.out; have := HK2.out; omega⟩, ⟨by q_ns; exact Kd.S_mono HO_3.out (fun _ hk => hk.2)⟩, ⟨by q_nr; exact HO307.out⟩, ⟨by q_bk; exact BK301.out⟩, ⟨by repeat (first | (with_reducible first | exact HB.out | apply below_alloc | apply pw_below_drewN | apply below_drew1 | refine below_set ?_ GE301.out) | exact HB.out)⟩⟩
       ·rw [if_neg c10] at H
        exact absurd H (by simp)
      ·rw [if_neg c8] at H
       have c8b0 : decide (x6_2 < t303) = false := decide_eq_false c8
       clear c8
       by_cases c16 : x3_1.length < 5864062014805
       ·rw [if_pos c16] at H
        have LMc16 := Aside0.mk c16
        clear c16
        obtain ⟨y308, hy308⟩ : ∃ y_ : List (List Int), y_ = (x3_1 ++ [x5_2]) := ⟨_, rfl⟩
        replace H : (semigroupref17_Table.l0 k2 y308 (wrap64 (x4_1 + 1)) l0_0 a0_1 a0_2 l0_3 a0_4) = some r := by first | (rw [hy308]; with_reducible exact H) | (have H2_ := (Option.bind_some _ _).symm.trans H; rw [hy308]; with_reducible exact H2_) | (have H2_ := (Option.bind_some _ _).symm.trans H; with_reducible exact H2_) | with_reducible exact H | (rw [hy308]; exact H) | exact H
        have Ny308 := Aside0.mk hy308
        clear hy308
        have H' := Aside0.mk H
        clear H
        have hcz17_0 : wr.cell? ⟨gb301, 0, none⟩ = some (.slice A0_0 l0_0.length c0_0) := (blk_cell BK301.out 0).trans rfl
        have hcz17_1 : wr.cell? ⟨gb301, 1, none⟩ = some (.int .i64 a0_1) := (blk_cell BK301.out 1).trans rfl
        have hcz17_2 : wr.cell? ⟨gb301, 2, none⟩ = some (.int .i64 a0_2) := (blk_cell BK301.out 2).trans rfl
        have hcz17_3 : wr.cell? ⟨gb301, 3, none⟩ = some (.slice A0_3 l0_3.length c0_3) := (blk_cell BK301.out 3).trans rfl
        have hcz17_4 : wr.cell? ⟨gb301, 4, none⟩ = some (.bool a0_4) := (blk_cell BK301.out 4).trans rfl
        have hfz17_0 := blk_frozen BK301.out 0
        have hfz17_1 := blk_frozen BK301.out 1
        have hfz17_2 := blk_frozen BK301.out 2
        have hfz17_3 := blk_frozen BK301.out 3
        have hfz17_4 := blk_frozen BK301.out 4
        go_wp2_with (first | ((with_reducible refine gate_callee (f := 16) rfl ?_); refine goesL_ (some 15) rfl rfl Try.func16 (by kernel_rfl) rfl #[.agg #[.slice A0_0 l0_0.length c0_0, .int .i64 a0_1, .int .i64 a0_2, .slice A0_3 l0_3.length c0_3, .bool a0_4]] rfl q_ml ?_; (with_reducible refine (semigroupref17_Size.calls _ _ l0_0 a0_1 a0_2 _ _ l0_3 a0_4 t303 _ ?side1 ?side2 ?side3 ?side4 A7.out).mono ?_); (case side1 => q_cc (Kd.C_below HR0_0.out HB.out)); (case side2 => exact HC0_0.out); (case side3 => q_cc (Kd.C_below HR0_3.out HB.out)); (case side4 => exact HC0_3.out); rintro e w18 ⟨rfl, hb⟩; refine ⟨_, rfl, ?_⟩; have n0_ := Aside0.mk (Kd.S_below (by q_ns; exact HO_3.out) hb); have n1_ := Aside0.mk (Kd.R_below (by q_nr; exact HO_5.out) hb); have n2_ := Aside0.mk (blk_below (g := gb301) (o := .cells #[.slice A0_0 l0_0.length c0_0, .int .i64 a0_1, .int .i64 a0_2, .slice A0_3 l0_3.length c0_3, .bool a0_4] 24 (0, 0)) (by q_bk; exact BK301.out) hb); have n3_ := Aside0.mk (below_step (q_hs GE301.out) hb); clear HO_3; clear HO_5; clear BK301; clear HB; have HO_3 := n0_; have HO_5 := n1_; have BK301 := n2_; have HB := n3_; clear n0_ n1_ n2_ n3_; (q_x hb hb2 hk hi); obtain ⟨Ao20, co20, eo20⟩ := Kd.R_slice HO_5.out; subst eo20) | ((with_reducible refine gate_builtin (b := .append) (xs := #[.tmp 26, .tmp 28]) rfl ?_); at_builtin; refine Kd.S_append (Kd.slice 3 (Kd.int .i64)) (w0 := w) w.heap.size rfl (.tmp 26) (.tmp 28) 22 39 (.slice none 0 0) 24 rfl Try.underlying22 info39 rfl (by decide) (by omega) u3 x3_1 x5_2 [.slice Ao20 x5_2.length co20] (fun _ => True) (fun k_ => some k_ = (.slice Ao20 x5_2.length co20 : Value).ownBlock) rfl rfl ?aP (fun k_ hk_ => ((Kd.R_mono (ok' := fun k_ => ((fun _ => True)) k_ ∧ some k_ ≠ (u3 : Value).ownBlock) (Kd.R_apart' (HO_5.out) (Kd.S_typed HO_3.out) (by decide)) (fun k_ hk => ⟨trivial, hk.2⟩))).1 k_ hk_.symm) ?aF ?aO ?aB ?aS ?aL ?_; (case aP => exact Kd.M_row (Kd.R_mono (Kd.R_tight rfl (Kd.R_mono (ok' := fun k_ => ((fun _ => True)) k_ ∧ some k_ ≠ (u3 : Value).ownBlock) (Kd.R_apart' (HO_5.out) (Kd.S_typed HO_3.out) (by decide)) (fun k_ hk => ⟨trivial, hk.2⟩))) (fun _ h_ => h_))); (case aB => exact (q_hs GE301.out)); (case aF => exact (fun _ _ => trivial)); (case aO => exact (by q_ns; exact Kd.S_mono HO_3.out (fun k_ hk => ⟨trivial, fun e_ => hk e_⟩))); (case aS => exact (below_size (q_hs GE301.out))); (case aL => have := LMc16.out; omega); intro v309 w19 ho hb hg hat; rw [← Ny308.out] at ho; have n0_ := Aside0.mk (blk_grown (g := gb301) (o := .cells #[.slice A0_0 l0_0.length c0_0, .int .i64 a0_1, .int .i64 a0_2, .slice A0_3 l0_3.length c0_3, .bool a0_4] 24 (0, 0)) (by q_bk; exact BK301.out) hg (Kd.S_ne HO_3.out BK301.out (by decide))); have n1_ := Aside0.mk (hb); have n2_ := Aside0.mk (ho); clear BK301; clear HB; clear HO_3; clear HO_5; have BK301 := n0_; have HB := n1_; have HO310 := n2_; clear n0_ n1_ n2_; (q_x ho hb hg); (try clear hat)))
        go_roundg k2
        case measure => have := HK1.out; have := HK2.out; omega
        case rel => exact ⟨(y308), (wrap64 (x4_1 + 1)), q_rs, H', ⟨by have := HK1.out; have := HK2.out; omega⟩, ⟨by q_ns; exact HO310.out⟩, ⟨by q_bk; exact BK301.out⟩, ⟨by repeat (first | (with_reducible first | exact HB.out | apply below_alloc | apply pw_below_drewN | apply below_drew1 | refine below_set ?_ GE301.out) | exact HB.out)⟩⟩
       ·rw [if_neg c16] at H
        exact absurd H (by simp)
   ·rw [if_neg c4] at H
    have c4b0 : decide (x4_1 < t302) = false := decide_eq_false c4
    clear c4
    obtain rfl := Option.some.inj H
    have hcz21_0 : wr.cell? ⟨gb301, 0, none⟩ = some (.slice A0_0 l0_0.length c0_0) := (blk_cell BK301.out 0).trans rfl
    have hcz21_1 : wr.cell? ⟨gb301, 1, none⟩ = some (.int .i64 a0_1) := (blk_cell BK301.out 1).trans rfl
    have hcz21_2 : wr.cell? ⟨gb301, 2, none⟩ = some (.int .i64 a0_2) := (blk_cell BK301.out 2).trans rfl
    have hcz21_3 : wr.cell? ⟨gb301, 3, none⟩ = some (.slice A0_3 l0_3.length c0_3) := (blk_cell BK301.out 3).trans rfl
    have hcz21_4 : wr.cell? ⟨gb301, 4, none⟩ = some (.bool a0_4) := (blk_cell BK301.out 4).trans rfl
    have hfz21_0 := blk_frozen BK301.out 0
    have hfz21_1 := blk_frozen BK301.out 1
    have hfz21_2 := blk_frozen BK301.out 2
    have hfz21_3 := blk_frozen BK301.out 3
    have hfz21_4 := blk_frozen BK301.out 4
    go_wp2_with (first | ((with_reducible refine gate_callee (f := 16) rfl ?_); refine goesL_ (some 9) rfl rfl Try.func16 (by kernel_rfl) rfl #[.agg #[.slice A0_0 l0_0.length c0_0, .int .i64 a0_1, .int .i64 a0_2, .slice A0_3 l0_3.length c0_3, .bool a0_4]] rfl q_ml ?_; (with_reducible refine (semigroupref17_Size.calls _ _ l0_0 a0_1 a0_2 _ _ l0_3 a0_4 t302 _ ?side1 ?side2 ?side3 ?side4 A3.out).mono ?_); (case side1 => q_cc (Kd.C_below HR0_0.out HB.out)); (case side2 => exact HC0_0.out); (case side3 => q_cc (Kd.C_below HR0_3.out HB.out)); (case side4 => exact HC0_3.out); rintro e w22 ⟨rfl, hb⟩; refine ⟨_, rfl, ?_⟩; have n0_ := Aside0.mk (Kd.S_below (by q_ns; exact HO_3.out) hb); have n1_ := Aside0.mk (blk_below (g := gb301) (o := .cells #[.slice A0_0 l0_0.length c0_0, .int .i64 a0_1, .int .i64 a0_2, .slice A0_3 l0_3.length c0_3, .bool a0_4] 24 (0, 0)) (by q_bk; exact BK301.out) hb); have n2_ := Aside0.mk (below_step (q_hs GE301.out) hb); clear HO_3; clear BK301; clear HB; have HO_3 := n0_; have BK301 := n1_; have HB := n2_; clear n0_ n1_ n2_; (q_x hb hb2 hk); (try clear hi)))
    go_ret
    exact ⟨_, by first | rfl | q_em | q_en, by q_ns; exact HO_3.out, by repeat (first | (with_reducible first | exact HB.out | apply below_alloc | apply pw_below_drewN | apply below_drew1 | refine below_set ?_ GE301.out) | exact HB.out)⟩

/-! ### semigrouplaw17_ReesTables: function 3 -/
def semigrouplaw17_ReesTables.j0 : Nat → Int → Bool → List (List Int) → Int → Int → List (List Int) → Bool → Option (Bool)
 | 0, _, _, _, _, _, _, _ => none
 | k + 1, x3, x18, x312000, x312001, x312002, x312003, x312004 => if x18 = true then ((semigrouplaw17_awake.f k).bind fun t316 => (some t316)) else ((rees_Table.f k x312000 x312001 x312002 x312003 x312004).bind fun bt317 => (if x3 = 0 then (if bt317.2 = 0 then ((semigroupref17_Table.f k x312000 x312001 x312002 x312003 x312004).bind fun t322 => ((semigroupref03_SameRows.f k bt317.1 t322).bind fun t325 => (if t325 = true then ((mult_Validate.f k bt317.1).bind fun t326 => (if t326 = 0 then ((semigrouplaw17_awake.f k).bind fun t327 => (some t327)) else (some false))) else (some false)))) else (some false)) else (if x3 = bt317.2 then (if (bt317.1.length : Int) = 0 then ((semigrouplaw17_awake.f k).bind fun t321 => (some t321)) else (some false)) else (some false))))
def semigrouplaw17_ReesTables.f (k : Nat) (l0_0 : List (List Int)) (a0_1 : Int) (a0_2 : Int) (l0_3 : List (List Int)) (a0_4 : Bool) : Option (Bool) := (semigrouplaw17_large.f k l0_0 16).bind fun t312 => (if t312 = true then ((semigrouplaw17_awake.f k).bind fun t313 => (some t313)) else ((semigroupref17_Validate.f k l0_0 a0_1 a0_2 l0_3 a0_4).bind fun t314 => (if t314 = 0 then ((semigroupref17_Size.f l0_0 a0_1 a0_2 l0_3 a0_4).bind fun t315 => (semigrouplaw17_ReesTables.j0 k t314 (decide (t315 > 40)) l0_0 a0_1 a0_2 l0_3 a0_4)) else (semigrouplaw17_ReesTables.j0 k t314 false l0_0 a0_1 a0_2 l0_3 a0_4))))
theorem semigrouplaw17_ReesTables.mono_l : ∀ k, (∀ y0 y1 y2 y3 y4 y5 y6, LeO (semigrouplaw17_ReesTables.j0 k y0 y1 y2 y3 y4 y5 y6) (semigrouplaw17_ReesTables.j0 (k + 1) y0 y1 y2 y3 y4 y5 y6))
 | 0 => fun _ _ _ _ _ _ _ r h => by simp [semigrouplaw17_ReesTables.j0] at h
 | k + 1 => by
  have ih0 := semigrouplaw17_ReesTables.mono_l k
  ·intro y0 y1 y2 y3 y4 y5 y6
   unfold semigrouplaw17_ReesTables.j0
   repeat' first
   | (with_reducible exact ih0 _ _ _ _ _ _ _)
   | (with_reducible exact mult_Validate.mono _ _)
   | (with_reducible exact rees_Table.mono _ _ _ _ _ _)
   | (with_reducible exact semigrouplaw17_awake.mono _)
   | (with_reducible exact semigrouplaw17_large.mono _ _ _)
   | (with_reducible exact semigroupref03_SameRows.mono _ _ _)
   | (with_reducible exact semigroupref17_Table.mono _ _ _ _ _ _)
   | (with_reducible exact semigroupref17_Validate.mono _ _ _ _ _ _)
   | (with_reducible exact LeO.refl _)
   | (with_reducible exact LeO.none _)
   | (with_reducible refine LeO.ite ?_ ?_)
   | (with_reducible refine LeO.bind ?_ (fun _ => ?_))
   | exact ih0 _ _ _ _ _ _ _
   | exact mult_Validate.mono _ _
   | exact rees_Table.mono _ _ _ _ _ _
   | exact semigrouplaw17_awake.mono _
   | exact semigrouplaw17_large.mono _ _ _
   | exact semigroupref03_SameRows.mono _ _ _
   | exact semigroupref17_Table.mono _ _ _ _ _ _
   | exact semigroupref17_Validate.mono _ _ _ _ _ _
   | exact LeO.none _
   | refine LeO.ite ?_ ?_
   | refine LeO.bind ?_ (fun _ => ?_)
theorem semigrouplaw17_ReesTables.mono : ∀ a0 a1 a2 a3 a4 k, LeO (semigrouplaw17_ReesTables.f k a0 a1 a2 a3 a4) (semigrouplaw17_ReesTables.f (k + 1) a0 a1 a2 a3 a4) := by
 intro a0 a1 a2 a3 a4 k
 have ih0 := semigrouplaw17_ReesTables.mono_l k
 unfold semigrouplaw17_ReesTables.f
 repeat' first
   | (with_reducible exact ih0 _ _ _ _ _ _ _)
   | (with_reducible exact mult_Validate.mono _ _)
   | (with_reducible exact rees_Table.mono _ _ _ _ _ _)
   | (with_reducible exact semigrouplaw17_awake.mono _)
   | (with_reducible exact semigrouplaw17_large.mono _ _ _)
   | (with_reducible exact semigroupref03_SameRows.mono _ _ _)
   | (with_reducible exact semigroupref17_Table.mono _ _ _ _ _ _)
   | (with_reducible exact semigroupref17_Validate.mono _ _ _ _ _ _)
   | (with_reducible exact LeO.refl _)
   | (with_reducible exact LeO.none _)
   | (with_reducible refine LeO.ite ?_ ?_)
   | (with_reducible refine LeO.bind ?_ (fun _ => ?_))
   | exact ih0 _ _ _ _ _ _ _
   | exact mult_Validate.mono _ _
   | exact rees_Table.mono _ _ _ _ _ _
   | exact semigrouplaw17_awake.mono _
   | exact semigrouplaw17_large.mono _ _ _
   | exact semigroupref03_SameRows.mono _ _ _
   | exact semigroupref17_Table.mono _ _ _ _ _ _
   | exact semigroupref17_Validate.mono _ _ _ _ _ _
   | exact LeO.none _
   | refine LeO.ite ?_ ?_
   | refine LeO.bind ?_ (fun _ => ?_)
set_option maxHeartbeats 8000000 in
set_option maxRecDepth 100000 in
theorem semigrouplaw17_ReesTables.calls (k : Nat) (A0_0 : Option Addr) (c0_0 : Nat) (l0_0 : List (List Int)) (a0_1 : Int) (a0_2 : Int) (A0_3 : Option Addr) (c0_3 : Nat) (l0_3 : List (List Int)) (a0_4 : Bool) (r : Bool) (w : World) (hr0_0 : Kd.C (Kd.slice 3 (Kd.int .i64)) w A0_0 l0_0.length l0_0) (hc0_0 : l0_0.length ≤ c0_0) (hr0_3 : Kd.C (Kd.slice 3 (Kd.int .i64)) w A0_3 l0_3.length l0_3) (hc0_3 : l0_3.length ≤ c0_3) (h : semigrouplaw17_ReesTables.f k l0_0 a0_1 a0_2 l0_3 a0_4 = some r) :
  Calls Try.prog 3 #[.agg #[.slice A0_0 l0_0.length c0_0, .int .i64 a0_1, .int .i64 a0_2, .slice A0_3 l0_3.length c0_3, .bool a0_4]] w fun e w' => e = .returned (.bool r) ∧ Below w.heap.size w w' := by
 have hu24 := Try.underlying24
 have HR0_0 := Aside0.mk hr0_0
 have HC0_0 := Aside0.mk hc0_0
 (try clear hr0_0); (try clear hc0_0)
 have HR0_3 := Aside0.mk hr0_3
 have HC0_3 := Aside0.mk hc0_3
 (try clear hr0_3); (try clear hc0_3)
 have HB := Aside0.mk (Below.refl w.heap.size w)
 have H : ((semigrouplaw17_large.f k l0_0 16).bind fun t312 => (if t312 = true then ((semigrouplaw17_awake.f k).bind fun t313 => (some t313)) else ((semigroupref17_Validate.f k l0_0 a0_1 a0_2 l0_3 a0_4).bind fun t314 => (if t314 = 0 then ((semigroupref17_Size.f l0_0 a0_1 a0_2 l0_3 a0_4).bind fun t315 => (semigrouplaw17_ReesTables.j0 k t314 (decide (t315 > 40)) l0_0 a0_1 a0_2 l0_3 a0_4)) else (semigrouplaw17_ReesTables.j0 k t314 false l0_0 a0_1 a0_2 l0_3 a0_4))))) = some r := h
 clear h
 replace H := Option.bind_eq_some_iff.mp H
 obtain ⟨t312, A20, H⟩ := H
 replace H : (if t312 = true then ((semigrouplaw17_awake.f k).bind fun t313 => (some t313)) else ((semigroupref17_Validate.f k l0_0 a0_1 a0_2 l0_3 a0_4).bind fun t314 => (if t314 = 0 then ((semigroupref17_Size.f l0_0 a0_1 a0_2 l0_3 a0_4).bind fun t315 => (semigrouplaw17_ReesTables.j0 k t314 (decide (t315 > 40)) l0_0 a0_1 a0_2 l0_3 a0_4)) else (semigrouplaw17_ReesTables.j0 k t314 false l0_0 a0_1 a0_2 l0_3 a0_4)))) = some r := H
 have A2 := Aside0.mk A20
 clear A20
 by_cases c3 : t312 = true
 ·subst c3
  have H1 : ((semigrouplaw17_awake.f k).bind fun t313 => (some t313)) = some r := by rw [if_pos rfl] at H; exact H
  clear H
  have H := H1
  clear H1
  replace H := Option.bind_eq_some_iff.mp H
  obtain ⟨t313, A40, H⟩ := H
  replace H : (some t313) = some r := H
  have A4 := Aside0.mk A40
  clear A40
  obtain rfl := Option.some.inj H
  go_enter Try.func3, Try.ntmps3
  go_wp2_with (first | ((with_reducible refine gate_dst (N := 1) rfl ?_); (try (refine gate_guard (by rfl) ?_; dsimp only)); refine box_event ?hg (N := 1) ?hd (cs := #[.slice A0_0 l0_0.length c0_0, .int .i64 a0_1, .int .i64 a0_2, .slice A0_3 l0_3.length c0_3, .bool a0_4]) (t := 24) ?hr ?_; (case hd => rfl); (case hg => rfl); q_hr; intro gb311 hg w5 hbox hb; have n0_ := Aside0.mk (below_step q_hb hb); have n1_ := Aside0.mk (hbox); have n2_ := Aside0.mk ((by rw [hg]; exact q_bs : w.heap.size ≤ gb311)); have n3_ := Aside0.mk ((by rw [hg]; exact q_bs : w.heap.size ≤ gb311)); clear HB; have HB := n0_; have BK311 := n1_; have GW311 := n2_; have GE311 := n3_; clear n0_ n1_ n2_ n3_; (q_x hb hbox hg); have hcz6_0 : w5.cell? ⟨gb311, 0, none⟩ = some (.slice A0_0 l0_0.length c0_0) := (blk_cell BK311.out 0).trans rfl; have hcz6_1 : w5.cell? ⟨gb311, 1, none⟩ = some (.int .i64 a0_1) := (blk_cell BK311.out 1).trans rfl; have hcz6_2 : w5.cell? ⟨gb311, 2, none⟩ = some (.int .i64 a0_2) := (blk_cell BK311.out 2).trans rfl; have hcz6_3 : w5.cell? ⟨gb311, 3, none⟩ = some (.slice A0_3 l0_3.length c0_3) := (blk_cell BK311.out 3).trans rfl; have hcz6_4 : w5.cell? ⟨gb311, 4, none⟩ = some (.bool a0_4) := (blk_cell BK311.out 4).trans rfl; have hfz6_0 := blk_frozen BK311.out 0; have hfz6_1 := blk_frozen BK311.out 1; have hfz6_2 := blk_frozen BK311.out 2; have hfz6_3 := blk_frozen BK311.out 3; have hfz6_4 := blk_frozen BK311.out 4) | ((with_reducible refine gate_callee (f := 13) rfl ?_); refine goesL_ (some 8) rfl rfl Try.func13 (by kernel_rfl) rfl #[.slice A0_0 l0_0.length c0_0, .int .i64 16] rfl q_ml ?_; (with_reducible refine (semigrouplaw17_large.calls k _ _ l0_0 16 true _ ?side1 ?side2 A2.out).mono ?_); (case side1 => q_cc (Kd.C_below HR0_0.out HB.out)); (case side2 => exact HC0_0.out); rintro e w' ⟨rfl, ⟨nd, rfl⟩⟩; refine ⟨_, rfl, ?_⟩) | ((with_reducible refine gate_callee (f := 14) rfl ?_); refine goesL_ (some 9) rfl rfl Try.func14 (by kernel_rfl) rfl #[] rfl q_ml ?_; (with_reducible refine (semigrouplaw17_awake.calls k  t313 _ A4.out).mono ?_); rintro e w7 ⟨rfl, hb⟩; refine ⟨_, rfl, ?_⟩; have n0_ := Aside0.mk (blk_below (g := gb311) (o := .cells #[.slice A0_0 l0_0.length c0_0, .int .i64 a0_1, .int .i64 a0_2, .slice A0_3 l0_3.length c0_3, .bool a0_4] 24 (0, 0)) (by q_bk; exact BK311.out) hb); have n1_ := Aside0.mk (below_step (q_hs GE311.out) hb); clear BK311; clear HB; have BK311 := n0_; have HB := n1_; clear n0_ n1_; (q_x hb hb2 hk); (try clear hi)))
  go_ret
  exact ⟨by first | rfl | q_em | q_en, by repeat (first | (with_reducible first | exact HB.out | apply below_alloc | apply pw_below_drewN | apply below_drew1 | refine below_set ?_ GE311.out) | exact HB.out)⟩
 ·replace c3 := Bool.eq_false_iff.mpr c3
  subst c3
  have H1 : ((semigroupref17_Validate.f k l0_0 a0_1 a0_2 l0_3 a0_4).bind fun t314 => (if t314 = 0 then ((semigroupref17_Size.f l0_0 a0_1 a0_2 l0_3 a0_4).bind fun t315 => (semigrouplaw17_ReesTables.j0 k t314 (decide (t315 > 40)) l0_0 a0_1 a0_2 l0_3 a0_4)) else (semigrouplaw17_ReesTables.j0 k t314 false l0_0 a0_1 a0_2 l0_3 a0_4))) = some r := by rw [if_neg (show ¬ (false = true) by decide)] at H; exact H
  clear H
  have H := H1
  clear H1
  replace H := Option.bind_eq_some_iff.mp H
  obtain ⟨t314, A80, H⟩ := H
  replace H : (if t314 = 0 then ((semigroupref17_Size.f l0_0 a0_1 a0_2 l0_3 a0_4).bind fun t315 => (semigrouplaw17_ReesTables.j0 k t314 (decide (t315 > 40)) l0_0 a0_1 a0_2 l0_3 a0_4)) else (semigrouplaw17_ReesTables.j0 k t314 false l0_0 a0_1 a0_2 l0_3 a0_4)) = some r := H
  have A8 := Aside0.mk A80
  clear A80
  have HC9 := Aside0.mk H
  clear H
  go_enter Try.func3, Try.ntmps3
  go_upto_region 4 with (first | ((with_reducible refine gate_dst (N := 1) rfl ?_); (try (refine gate_guard (by rfl) ?_; dsimp only)); refine box_event ?hg (N := 1) ?hd (cs := #[.slice A0_0 l0_0.length c0_0, .int .i64 a0_1, .int .i64 a0_2, .slice A0_3 l0_3.length c0_3, .bool a0_4]) (t := 24) ?hr ?_; (case hd => rfl); (case hg => rfl); q_hr; intro gb311 hg w10 hbox hb; have n0_ := Aside0.mk (below_step q_hb hb); have n1_ := Aside0.mk (hbox); have n2_ := Aside0.mk ((by rw [hg]; exact q_bs : w.heap.size ≤ gb311)); have n3_ := Aside0.mk ((by rw [hg]; exact q_bs : w.heap.size ≤ gb311)); clear HB; have HB := n0_; have BK311 := n1_; have GW311 := n2_; have GE311 := n3_; clear n0_ n1_ n2_ n3_; (q_x hb hbox hg); have hcz11_0 : w10.cell? ⟨gb311, 0, none⟩ = some (.slice A0_0 l0_0.length c0_0) := (blk_cell BK311.out 0).trans rfl; have hcz11_1 : w10.cell? ⟨gb311, 1, none⟩ = some (.int .i64 a0_1) := (blk_cell BK311.out 1).trans rfl; have hcz11_2 : w10.cell? ⟨gb311, 2, none⟩ = some (.int .i64 a0_2) := (blk_cell BK311.out 2).trans rfl; have hcz11_3 : w10.cell? ⟨gb311, 3, none⟩ = some (.slice A0_3 l0_3.length c0_3) := (blk_cell BK311.out 3).trans rfl; have hcz11_4 : w10.cell? ⟨gb311, 4, none⟩ = some (.bool a0_4) := (blk_cell BK311.out 4).trans rfl; have hfz11_0 := blk_frozen BK311.out 0; have hfz11_1 := blk_frozen BK311.out 1; have hfz11_2 := blk_frozen BK311.out 2; have hfz11_3 := blk_frozen BK311.out 3; have hfz11_4 := blk_frozen BK311.out 4) | ((with_reducible refine gate_callee (f := 13) rfl ?_); refine goesL_ (some 8) rfl rfl Try.func13 (by kernel_rfl) rfl #[.slice A0_0 l0_0.length c0_0, .int .i64 16] rfl q_ml ?_; (with_reducible refine (semigrouplaw17_large.calls k _ _ l0_0 16 false _ ?side1 ?side2 A2.out).mono ?_); (case side1 => q_cc (Kd.C_below HR0_0.out HB.out)); (case side2 => exact HC0_0.out); rintro e w' ⟨rfl, ⟨nd, rfl⟩⟩; refine ⟨_, rfl, ?_⟩) | ((with_reducible refine gate_callee (f := 15) rfl ?_); refine goesL_ (some 11) rfl rfl Try.func15 (by kernel_rfl) rfl #[.agg #[.slice A0_0 l0_0.length c0_0, .int .i64 a0_1, .int .i64 a0_2, .slice A0_3 l0_3.length c0_3, .bool a0_4]] rfl q_ml ?_; (with_reducible refine (semigroupref17_Validate.calls k _ _ l0_0 a0_1 a0_2 _ _ l0_3 a0_4 t314 _ ?side1 ?side2 ?side3 ?side4 A8.out).mono ?_); (case side1 => repeat (first | exact (Kd.C_below HR0_0.out (q_hs GE311.out)) | (with_reducible refine Kd.C_alloc ?_ _) | (with_reducible refine Kd.C_drewN ?_ _) | (with_reducible refine Kd.C_drew ?_))); (case side2 => exact HC0_0.out); (case side3 => repeat (first | exact (Kd.C_below HR0_3.out (q_hs GE311.out)) | (with_reducible refine Kd.C_alloc ?_ _) | (with_reducible refine Kd.C_drewN ?_ _) | (with_reducible refine Kd.C_drew ?_))); (case side4 => exact HC0_3.out); rintro e w12 ⟨rfl, hb⟩; refine ⟨_, rfl, ?_⟩; have n0_ := Aside0.mk (blk_below (g := gb311) (o := .cells #[.slice A0_0 l0_0.length c0_0, .int .i64 a0_1, .int .i64 a0_2, .slice A0_3 l0_3.length c0_3, .bool a0_4] 24 (0, 0)) (by q_bk; exact BK311.out) hb); have n1_ := Aside0.mk (below_step (q_hs GE311.out) hb); clear BK311; clear HB; have BK311 := n0_; have HB := n1_; clear n0_ n1_; (q_x hb hb2 hk); (try clear hi)))
  (try simp only [Act.put, List.setIfInBounds_toArray, List.set_cons_zero, List.set_cons_succ])
  go_cut [18] (fun v18 wc => ∃ (kq : Nat) (x18_8 : Bool), v18 = .bool x18_8 ∧ Aside0 (semigrouplaw17_ReesTables.j0 kq t314 x18_8 l0_0 a0_1 a0_2 l0_3 a0_4 = some r) ∧ Aside0 (kq ≤ k) ∧ Aside0 (wc.heap[gb311]? = some (.cells #[(.slice A0_0 l0_0.length c0_0), .int .i64 a0_1, .int .i64 a0_2, (.slice A0_3 l0_3.length c0_3), .bool a0_4] 24 (0, 0))) ∧ Aside0 (Below w.heap.size w wc))
  case first =>
   have H := HC9.out
   clear HC9
   by_cases c13 : t314 = 0
   ·rw [if_pos c13] at H
    have c13b0 : (t314 == 0) = true := beq_iff_eq.mpr c13
    have c13b1 : (t314 != 0) = false := bne_eq_false_iff_eq.mpr c13
    clear c13
    (first | rw [c13b0] | (simp only [i64_w, i32_w]; rw [c13b0]) | skip)
    replace H := Option.bind_eq_some_iff.mp H
    obtain ⟨t315, A140, H⟩ := H
    replace H : (semigrouplaw17_ReesTables.j0 k t314 (decide (t315 > 40)) l0_0 a0_1 a0_2 l0_3 a0_4) = some r := H
    have A14 := Aside0.mk A140
    clear A140
    have H' := Aside0.mk H
    clear H
    have hcz15_0 : w12.cell? ⟨gb311, 0, none⟩ = some (.slice A0_0 l0_0.length c0_0) := (blk_cell BK311.out 0).trans rfl
    have hcz15_1 : w12.cell? ⟨gb311, 1, none⟩ = some (.int .i64 a0_1) := (blk_cell BK311.out 1).trans rfl
    have hcz15_2 : w12.cell? ⟨gb311, 2, none⟩ = some (.int .i64 a0_2) := (blk_cell BK311.out 2).trans rfl
    have hcz15_3 : w12.cell? ⟨gb311, 3, none⟩ = some (.slice A0_3 l0_3.length c0_3) := (blk_cell BK311.out 3).trans rfl
    have hcz15_4 : w12.cell? ⟨gb311, 4, none⟩ = some (.bool a0_4) := (blk_cell BK311.out 4).trans rfl
    have hfz15_0 := blk_frozen BK311.out 0
    have hfz15_1 := blk_frozen BK311.out 1
    have hfz15_2 := blk_frozen BK311.out 2
    have hfz15_3 := blk_frozen BK311.out 3
    have hfz15_4 := blk_frozen BK311.out 4
    go_wp2_with (first | (go_at_call 16; (with_reducible refine (semigroupref17_Size.calls _ _ l0_0 a0_1 a0_2 _ _ l0_3 a0_4 t315 _ ?side1 ?side2 ?side3 ?side4 A14.out).mono ?_); (case side1 => q_cc (Kd.C_below HR0_0.out HB.out)); (case side2 => exact HC0_0.out); (case side3 => q_cc (Kd.C_below HR0_3.out HB.out)); (case side4 => exact HC0_3.out); rintro e w16 ⟨rfl, hb⟩; have n0_ := Aside0.mk (blk_below (g := gb311) (o := .cells #[.slice A0_0 l0_0.length c0_0, .int .i64 a0_1, .int .i64 a0_2, .slice A0_3 l0_3.length c0_3, .bool a0_4] 24 (0, 0)) (by q_bk; exact BK311.out) hb); have n1_ := Aside0.mk (below_step (q_hs GE311.out) hb); clear BK311; clear HB; have BK311 := n0_; have HB := n1_; clear n0_ n1_; (q_x hb hb2 hk); (try clear hi)))
    go_meet
    case rel => exact ⟨_, (decide (t315 > 40)), q_rs, H', ⟨by first | omega | exact Nat.le_refl _⟩, ⟨by q_bk; exact BK311.out⟩, ⟨by repeat (first | (with_reducible first | exact HB.out | apply below_alloc | apply pw_below_drewN | apply below_drew1 | refine below_set ?_ GE311.out) | exact HB.out)⟩⟩
   ·rw [if_neg c13] at H
    have c13b0 : (t314 == 0) = false := beq_eq_false_iff_ne.mpr c13
    have c13b1 : (t314 != 0) = true := bne_iff_ne.mpr c13
    (first | rw [c13b0] | (simp only [i64_w, i32_w]; rw [c13b0]) | skip)
    have H' := Aside0.mk H
    clear H
    go_wp2
    go_meet
    case rel => exact ⟨_, (false), q_rs, H', ⟨by first | omega | exact Nat.le_refl _⟩, ⟨by q_bk; exact BK311.out⟩, ⟨by repeat (first | (with_reducible first | exact HB.out | apply below_alloc | apply pw_below_drewN | apply below_drew1 | refine below_set ?_ GE311.out) | exact HB.out)⟩⟩
  case rest =>
   clear HC9
   q_x c1 p2 c3 c13 c13b0 c13b1 c14 c15 hcz11_0 hcz11_1 hcz11_2 hcz11_3 hcz11_4 hcz15_0 hcz15_1 hcz15_2 hcz15_3 hcz15_4 hcz6_0 hcz6_1 hcz6_2 hcz6_3 hcz6_4 hfz11_0 hfz11_1 hfz11_2 hfz11_3 hfz11_4 hfz15_0 hfz15_1 hfz15_2 hfz15_3 hfz15_4 hfz6_0 hfz6_1 hfz6_2 hfz6_3 hfz6_4
   obtain ⟨kq, x18_8, rfl, HA, HJ8, BK311, HB⟩ := hcut
   cases kq with
   | zero => exact absurd HA.out (by simp [semigrouplaw17_ReesTables.j0])
   | succ kj8 =>
    have H := HA.out
    clear HA
    simp only [semigrouplaw17_ReesTables.j0] at H
    by_cases c17 : x18_8 = true
    ·subst c17
     have H1 : ((semigrouplaw17_awake.f kj8).bind fun t316 => (some t316)) = some r := by rw [if_pos rfl] at H; exact H
     clear H
     have H := H1
     clear H1
     replace H := Option.bind_eq_some_iff.mp H
     obtain ⟨t316, A180, H⟩ := H
     replace H : (some t316) = some r := H
     have A18 := Aside0.mk A180
     clear A180
     obtain rfl := Option.some.inj H
     go_wp2_with (first | ((with_reducible refine gate_callee (f := 14) rfl ?_); refine goesL_ (some 19) rfl rfl Try.func14 (by kernel_rfl) rfl #[] rfl q_ml ?_; (with_reducible refine (semigrouplaw17_awake.calls kj8  t316 _ A18.out).mono ?_); rintro e w19 ⟨rfl, hb⟩; refine ⟨_, rfl, ?_⟩; have n0_ := Aside0.mk (blk_below (g := gb311) (o := .cells #[.slice A0_0 l0_0.length c0_0, .int .i64 a0_1, .int .i64 a0_2, .slice A0_3 l0_3.length c0_3, .bool a0_4] 24 (0, 0)) (by q_bk; exact BK311.out) hb); have n1_ := Aside0.mk (below_step (q_hs GE311.out) hb); clear BK311; clear HB; have BK311 := n0_; have HB := n1_; clear n0_ n1_; (q_x hb hb2 hk); (try clear hi)))
     go_ret
     exact ⟨by first | rfl | q_em | q_en, by repeat (first | (with_reducible first | exact HB.out | apply below_alloc | apply pw_below_drewN | apply below_drew1 | refine below_set ?_ GE311.out) | exact HB.out)⟩
    ·replace c17 := Bool.eq_false_iff.mpr c17
     subst c17
     have H1 : ((rees_Table.f kj8 l0_0 a0_1 a0_2 l0_3 a0_4).bind fun bt317 => (if t314 = 0 then (if bt317.2 = 0 then ((semigroupref17_Table.f kj8 l0_0 a0_1 a0_2 l0_3 a0_4).bind fun t322 => ((semigroupref03_SameRows.f kj8 bt317.1 t322).bind fun t325 => (if t325 = true then ((mult_Validate.f kj8 bt317.1).bind fun t326 => (if t326 = 0 then ((semigrouplaw17_awake.f kj8).bind fun t327 => (some t327)) else (some false))) else (some false)))) else (some false)) else (if t314 = bt317.2 then (if (bt317.1.length : Int) = 0 then ((semigrouplaw17_awake.f kj8).bind fun t321 => (some t321)) else (some false)) else (some false)))) = some r := by rw [if_neg (show ¬ (false = true) by decide)] at H; exact H
     clear H
     have H := H1
     clear H1
     replace H := Option.bind_eq_some_iff.mp H
     obtain ⟨⟨t317, t320⟩, A200, H⟩ := H
     replace H : (if t314 = 0 then (if t320 = 0 then ((semigroupref17_Table.f kj8 l0_0 a0_1 a0_2 l0_3 a0_4).bind fun t322 => ((semigroupref03_SameRows.f kj8 t317 t322).bind fun t325 => (if t325 = true then ((mult_Validate.f kj8 t317).bind fun t326 => (if t326 = 0 then ((semigrouplaw17_awake.f kj8).bind fun t327 => (some t327)) else (some false))) else (some false)))) else (some false)) else (if t314 = t320 then (if (t317.length : Int) = 0 then ((semigrouplaw17_awake.f kj8).bind fun t321 => (some t321)) else (some false)) else (some false))) = some r := H
     have A20 := Aside0.mk A200
     clear A200
     by_cases c21 : t314 = 0
     ·rw [if_pos c21] at H
      have c21b0 : (t314 == 0) = true := beq_iff_eq.mpr c21
      have c21b1 : (t314 != 0) = false := bne_eq_false_iff_eq.mpr c21
      clear c21
      by_cases c22 : t320 = 0
      ·rw [if_pos c22] at H
       have c22b0 : (t320 == 0) = true := beq_iff_eq.mpr c22
       have c22b1 : (t320 != 0) = false := bne_eq_false_iff_eq.mpr c22
       clear c22
       replace H := Option.bind_eq_some_iff.mp H
       obtain ⟨t322, A230, H⟩ := H
       replace H : ((semigroupref03_SameRows.f kj8 t317 t322).bind fun t325 => (if t325 = true then ((mult_Validate.f kj8 t317).bind fun t326 => (if t326 = 0 then ((semigrouplaw17_awake.f kj8).bind fun t327 => (some t327)) else (some false))) else (some false))) = some r := H
       have A23 := Aside0.mk A230
       clear A230
       replace H := Option.bind_eq_some_iff.mp H
       obtain ⟨t325, A240, H⟩ := H
       replace H : (if t325 = true then ((mult_Validate.f kj8 t317).bind fun t326 => (if t326 = 0 then ((semigrouplaw17_awake.f kj8).bind fun t327 => (some t327)) else (some false))) else (some false)) = some r := H
       have A24 := Aside0.mk A240
       clear A240
       by_cases c25 : t325 = true
       ·subst c25
        have H1 : ((mult_Validate.f kj8 t317).bind fun t326 => (if t326 = 0 then ((semigrouplaw17_awake.f kj8).bind fun t327 => (some t327)) else (some false))) = some r := by rw [if_pos rfl] at H; exact H
        clear H
        have H := H1
        clear H1
        replace H := Option.bind_eq_some_iff.mp H
        obtain ⟨t326, A260, H⟩ := H
        replace H : (if t326 = 0 then ((semigrouplaw17_awake.f kj8).bind fun t327 => (some t327)) else (some false)) = some r := H
        have A26 := Aside0.mk A260
        clear A260
        by_cases c27 : t326 = 0
        ·rw [if_pos c27] at H
         have c27b0 : (t326 == 0) = true := beq_iff_eq.mpr c27
         have c27b1 : (t326 != 0) = false := bne_eq_false_iff_eq.mpr c27
         clear c27
         replace H := Option.bind_eq_some_iff.mp H
         obtain ⟨t327, A280, H⟩ := H
         replace H : (some t327) = some r := H
         have A28 := Aside0.mk A280
         clear A280
         obtain rfl := Option.some.inj H
         have hcz29_0 : wc.cell? ⟨gb311, 0, none⟩ = some (.slice A0_0 l0_0.length c0_0) := (blk_cell BK311.out 0).trans rfl
         have hcz29_1 : wc.cell? ⟨gb311, 1, none⟩ = some (.int .i64 a0_1) := (blk_cell BK311.out 1).trans rfl
         have hcz29_2 : wc.cell? ⟨gb311, 2, none⟩ = some (.int .i64 a0_2) := (blk_cell BK311.out 2).trans rfl
         have hcz29_3 : wc.cell? ⟨gb311, 3, none⟩ = some (.slice A0_3 l0_3.length c0_3) := (blk_cell BK311.out 3).trans rfl
         have hcz29_4 : wc.cell? ⟨gb311, 4, none⟩ = some (.bool a0_4) := (blk_cell BK311.out 4).trans rfl
         have hfz29_0 := blk_frozen BK311.out 0
         have hfz29_1 := blk_frozen BK311.out 1
         have hfz29_2 := blk_frozen BK311.out 2
         have hfz29_3 := blk_frozen BK311.out 3
         have hfz29_4 := blk_frozen BK311.out 4
         go_wp2_with (first | ((with_reducible refine gate_callee (f := 17) rfl ?_); refine goesL_ (some 22) rfl rfl Try.func17 (by kernel_rfl) rfl #[.agg #[.slice A0_0 l0_0.length c0_0, .int .i64 a0_1, .int .i64 a0_2, .slice A0_3 l0_3.length c0_3, .bool a0_4]] rfl q_ml ?_; (with_reducible refine (rees_Table.calls kj8 _ _ l0_0 a0_1 a0_2 _ _ l0_3 a0_4 t317 t320 _ ?side1 ?side2 ?side3 ?side4 A20.out).mono ?_); (case side1 => q_cc (Kd.C_below HR0_0.out HB.out)); (case side2 => exact HC0_0.out); (case side3 => q_cc (Kd.C_below HR0_3.out HB.out)); (case side4 => exact HC0_3.out); rintro e w30 ⟨v318, rfl, ho0, hb⟩; refine ⟨_, rfl, ?_⟩; have n0_ := Aside0.mk (Kd.S_lower ho0 (below_size (q_hs GE311.out))); have n1_ := Aside0.mk (blk_below (g := gb311) (o := .cells #[.slice A0_0 l0_0.length c0_0, .int .i64 a0_1, .int .i64 a0_2, .slice A0_3 l0_3.length c0_3, .bool a0_4] 24 (0, 0)) (by q_bk; exact BK311.out) hb); have n2_ := Aside0.mk (below_step (q_hs GE311.out) hb); clear BK311; clear HB; have HO319 := n0_; have BK311 := n1_; have HB := n2_; clear n0_ n1_ n2_; (q_x hb hb2 hk hi ho0); have hcz31_0 : w30.cell? ⟨gb311, 0, none⟩ = some (.slice A0_0 l0_0.length c0_0) := (blk_cell BK311.out 0).trans rfl; have hcz31_1 : w30.cell? ⟨gb311, 1, none⟩ = some (.int .i64 a0_1) := (blk_cell BK311.out 1).trans rfl; have hcz31_2 : w30.cell? ⟨gb311, 2, none⟩ = some (.int .i64 a0_2) := (blk_cell BK311.out 2).trans rfl; have hcz31_3 : w30.cell? ⟨gb311, 3, none⟩ = some (.slice A0_3 l0_3.length c0_3) := (blk_cell BK311.out 3).trans rfl; have hcz31_4 : w30.cell? ⟨gb311, 4, none⟩ = some (.bool a0_4) := (blk_cell BK311.out 4).trans rfl; have hfz31_0 := blk_frozen BK311.out 0; have hfz31_1 := blk_frozen BK311.out 1; have hfz31_2 := blk_frozen BK311.out 2; have hfz31_3 := blk_frozen BK311.out 3; have hfz31_4 := blk_frozen BK311.out 4) | (go_at_call 19; (with_reducible refine (semigroupref17_Table.calls kj8 _ _ l0_0 a0_1 a0_2 _ _ l0_3 a0_4 t322 _ ?side1 ?side2 ?side3 ?side4 A23.out).mono ?_); (case side1 => q_cc (Kd.C_below HR0_0.out HB.out)); (case side2 => exact HC0_0.out); (case side3 => q_cc (Kd.C_below HR0_3.out HB.out)); (case side4 => exact HC0_3.out); rintro e w32 ⟨v323, rfl, ho0, hb⟩; have n0_ := Aside0.mk (Kd.S_elder' (by q_ns; exact HO319.out) (Kd.S_base ho0) hb); have n1_ := Aside0.mk (Kd.S_lower (Kd.S_new' ho0 (Kd.S_lt (by q_ns; exact HO319.out))) (below_size (q_hs GE311.out))); have n2_ := Aside0.mk (blk_below (g := gb311) (o := .cells #[.slice A0_0 l0_0.length c0_0, .int .i64 a0_1, .int .i64 a0_2, .slice A0_3 l0_3.length c0_3, .bool a0_4] 24 (0, 0)) (by q_bk; exact BK311.out) hb); have n3_ := Aside0.mk (below_step (q_hs GE311.out) hb); clear HO319; clear BK311; clear HB; have HO319 := n0_; have HO324 := n1_; have BK311 := n2_; have HB := n3_; clear n0_ n1_ n2_ n3_; (q_x hb hb2 hk hi ho0); obtain ⟨Ao33, co33, eo33⟩ := Kd.S_slice HO319.out; subst eo33; obtain ⟨Ao34, co34, eo34⟩ := Kd.S_slice HO324.out; subst eo34) | (go_at_call 18; (with_reducible refine (semigroupref03_SameRows.calls kj8 _ _ t317 _ _ t322 true _ ?side1 ?side2 ?side3 ?side4 A24.out).mono ?_); (case side1 => repeat (first | exact (Kd.S_reads' HO319.out).2.2 | (with_reducible refine Kd.C_alloc ?_ _) | (with_reducible refine Kd.C_drewN ?_ _) | (with_reducible refine Kd.C_drew ?_))); (case side2 => exact (Kd.S_reads' HO319.out).2.1); (case side3 => repeat (first | exact (Kd.S_reads' HO324.out).2.2 | (with_reducible refine Kd.C_alloc ?_ _) | (with_reducible refine Kd.C_drewN ?_ _) | (with_reducible refine Kd.C_drew ?_))); (case side4 => exact (Kd.S_reads' HO324.out).2.1); rintro e w' ⟨rfl, ⟨nd, rfl⟩⟩) | (go_at_call 20; (with_reducible refine (mult_Validate.calls kj8 _ _ t317 t326 _ ?side1 ?side2 A26.out).mono ?_); (case side1 => repeat (first | exact (Kd.S_reads' HO319.out).2.2 | (with_reducible refine Kd.C_alloc ?_ _) | (with_reducible refine Kd.C_drewN ?_ _) | (with_reducible refine Kd.C_drew ?_))); (case side2 => exact (Kd.S_reads' HO319.out).2.1); rintro e w' ⟨rfl, ⟨nd, rfl⟩⟩) | (go_at_call 14; (with_reducible refine (semigrouplaw17_awake.calls kj8  t327 _ A28.out).mono ?_); rintro e w35 ⟨rfl, hb⟩; have n0_ := Aside0.mk (Kd.S_below (by q_ns; exact HO319.out) hb); have n1_ := Aside0.mk (Kd.S_below (by q_ns; exact HO324.out) hb); have n2_ := Aside0.mk (blk_below (g := gb311) (o := .cells #[.slice A0_0 l0_0.length c0_0, .int .i64 a0_1, .int .i64 a0_2, .slice A0_3 l0_3.length c0_3, .bool a0_4] 24 (0, 0)) (by q_bk; exact BK311.out) hb); have n3_ := Aside0.mk (below_step (q_hs GE311.out) hb); clear HO319; clear HO324; clear BK311; clear HB; have HO319 := n0_; have HO324 := n1_; have BK311 := n2_; have HB := n3_; clear n0_ n1_ n2_ n3_; (q_x hb hb2 hk); (try clear hi)))
         go_ret
         exact ⟨by first | rfl | q_em | q_en, by repeat (first | (with_reducible first | exact HB.out | apply below_alloc | apply pw_below_drewN | apply below_drew1 | refine below_set ?_ GE311.out) | exact HB.out)⟩
        ·rw [if_neg c27] at H
         have c27b0 : (t326 == 0) = false := beq_eq_false_iff_ne.mpr c27
         have c27b1 : (t326 != 0) = true := bne_iff_ne.mpr c27
         obtain rfl := Option.some.inj H
         have hcz36_0 : wc.cell? ⟨gb311, 0, none⟩ = some (.slice A0_0 l0_0.length c0_0) := (blk_cell BK311.out 0).trans rfl
         have hcz36_1 : wc.cell? ⟨gb311, 1, none⟩ = some (.int .i64 a0_1) := (blk_cell BK311.out 1).trans rfl
         have hcz36_2 : wc.cell? ⟨gb311, 2, none⟩ = some (.int .i64 a0_2) := (blk_cell BK311.out 2).trans rfl
         have hcz36_3 : wc.cell? ⟨gb311, 3, none⟩ = some (.slice A0_3 l0_3.length c0_3) := (blk_cell BK311.out 3).trans rfl
         have hcz36_4 : wc.cell? ⟨gb311, 4, none⟩ = some (.bool a0_4) := (blk_cell BK311.out 4).trans rfl
         have hfz36_0 := blk_frozen BK311.out 0
         have hfz36_1 := blk_frozen BK311.out 1
         have hfz36_2 := blk_frozen BK311.out 2
         have hfz36_3 := blk_frozen BK311.out 3
         have hfz36_4 := blk_frozen BK311.out 4
         go_wp2_with (first | ((with_reducible refine gate_callee (f := 17) rfl ?_); refine goesL_ (some 22) rfl rfl Try.func17 (by kernel_rfl) rfl #[.agg #[.slice A0_0 l0_0.length c0_0, .int .i64 a0_1, .int .i64 a0_2, .slice A0_3 l0_3.length c0_3, .bool a0_4]] rfl q_ml ?_; (with_reducible refine (rees_Table.calls kj8 _ _ l0_0 a0_1 a0_2 _ _ l0_3 a0_4 t317 t320 _ ?side1 ?side2 ?side3 ?side4 A20.out).mono ?_); (case side1 => q_cc (Kd.C_below HR0_0.out HB.out)); (case side2 => exact HC0_0.out); (case side3 => q_cc (Kd.C_below HR0_3.out HB.out)); (case side4 => exact HC0_3.out); rintro e w37 ⟨v318, rfl, ho0, hb⟩; refine ⟨_, rfl, ?_⟩; have n0_ := Aside0.mk (Kd.S_lower ho0 (below_size (q_hs GE311.out))); have n1_ := Aside0.mk (blk_below (g := gb311) (o := .cells #[.slice A0_0 l0_0.length c0_0, .int .i64 a0_1, .int .i64 a0_2, .slice A0_3 l0_3.length c0_3, .bool a0_4] 24 (0, 0)) (by q_bk; exact BK311.out) hb); have n2_ := Aside0.mk (below_step (q_hs GE311.out) hb); clear BK311; clear HB; have HO319 := n0_; have BK311 := n1_; have HB := n2_; clear n0_ n1_ n2_; (q_x hb hb2 hk hi ho0); have hcz38_0 : w37.cell? ⟨gb311, 0, none⟩ = some (.slice A0_0 l0_0.length c0_0) := (blk_cell BK311.out 0).trans rfl; have hcz38_1 : w37.cell? ⟨gb311, 1, none⟩ = some (.int .i64 a0_1) := (blk_cell BK311.out 1).trans rfl; have hcz38_2 : w37.cell? ⟨gb311, 2, none⟩ = some (.int .i64 a0_2) := (blk_cell BK311.out 2).trans rfl; have hcz38_3 : w37.cell? ⟨gb311, 3, none⟩ = some (.slice A0_3 l0_3.length c0_3) := (blk_cell BK311.out 3).trans rfl; have hcz38_4 : w37.cell? ⟨gb311, 4, none⟩ = some (.bool a0_4) := (blk_cell BK311.out 4).trans rfl; have hfz38_0 := blk_frozen BK311.out 0; have hfz38_1 := blk_frozen BK311.out 1; have hfz38_2 := blk_frozen BK311.out 2; have hfz38_3 := blk_frozen BK311.out 3; have hfz38_4 := blk_frozen BK311.out 4) | (go_at_call 19; (with_reducible refine (semigroupref17_Table.calls kj8 _ _ l0_0 a0_1 a0_2 _ _ l0_3 a0_4 t322 _ ?side1 ?side2 ?side3 ?side4 A23.out).mono ?_); (case side1 => q_cc (Kd.C_below HR0_0.out HB.out)); (case side2 => exact HC0_0.out); (case side3 => q_cc (Kd.C_below HR0_3.out HB.out)); (case side4 => exact HC0_3.out); rintro e w39 ⟨v323, rfl, ho0, hb⟩; have n0_ := Aside0.mk (Kd.S_elder' (by q_ns; exact HO319.out) (Kd.S_base ho0) hb); have n1_ := Aside0.mk (Kd.S_lower (Kd.S_new' ho0 (Kd.S_lt (by q_ns; exact HO319.out))) (below_size (q_hs GE311.out))); have n2_ := Aside0.mk (blk_below (g := gb311) (o := .cells #[.slice A0_0 l0_0.length c0_0, .int .i64 a0_1, .int .i64 a0_2, .slice A0_3 l0_3.length c0_3, .bool a0_4] 24 (0, 0)) (by q_bk; exact BK311.out) hb); have n3_ := Aside0.mk (below_step (q_hs GE311.out) hb); clear HO319; clear BK311; clear HB; have HO319 := n0_; have HO324 := n1_; have BK311 := n2_; have HB := n3_; clear n0_ n1_ n2_ n3_; (q_x hb hb2 hk hi ho0); obtain ⟨Ao40, co40, eo40⟩ := Kd.S_slice HO319.out; subst eo40; obtain ⟨Ao41, co41, eo41⟩ := Kd.S_slice HO324.out; subst eo41) | (go_at_call 18; (with_reducible refine (semigroupref03_SameRows.calls kj8 _ _ t317 _ _ t322 true _ ?side1 ?side2 ?side3 ?side4 A24.out).mono ?_); (case side1 => repeat (first | exact (Kd.S_reads' HO319.out).2.2 | (with_reducible refine Kd.C_alloc ?_ _) | (with_reducible refine Kd.C_drewN ?_ _) | (with_reducible refine Kd.C_drew ?_))); (case side2 => exact (Kd.S_reads' HO319.out).2.1); (case side3 => repeat (first | exact (Kd.S_reads' HO324.out).2.2 | (with_reducible refine Kd.C_alloc ?_ _) | (with_reducible refine Kd.C_drewN ?_ _) | (with_reducible refine Kd.C_drew ?_))); (case side4 => exact (Kd.S_reads' HO324.out).2.1); rintro e w' ⟨rfl, ⟨nd, rfl⟩⟩) | (go_at_call 20; (with_reducible refine (mult_Validate.calls kj8 _ _ t317 t326 _ ?side1 ?side2 A26.out).mono ?_); (case side1 => repeat (first | exact (Kd.S_reads' HO319.out).2.2 | (with_reducible refine Kd.C_alloc ?_ _) | (with_reducible refine Kd.C_drewN ?_ _) | (with_reducible refine Kd.C_drew ?_))); (case side2 => exact (Kd.S_reads' HO319.out).2.1); rintro e w' ⟨rfl, ⟨nd, rfl⟩⟩))
         go_ret
         exact ⟨by first | rfl | q_em | q_en, by repeat (first | (with_reducible first | exact HB.out | apply below_alloc | apply pw_below_drewN | apply below_drew1 | refine below_set ?_ GE311.out) | exact HB.out)⟩
       ·replace c25 := Bool.eq_false_iff.mpr c25
        subst c25
        have H1 : (some false) = some r := by rw [if_neg (show ¬ (false = true) by decide)] at H; exact H
        clear H
        have H := H1
        clear H1
        obtain rfl := Option.some.inj H
        have hcz42_0 : wc.cell? ⟨gb311, 0, none⟩ = some (.slice A0_0 l0_0.length c0_0) := (blk_cell BK311.out 0).trans rfl
        have hcz42_1 : wc.cell? ⟨gb311, 1, none⟩ = some (.int .i64 a0_1) := (blk_cell BK311.out 1).trans rfl
        have hcz42_2 : wc.cell? ⟨gb311, 2, none⟩ = some (.int .i64 a0_2) := (blk_cell BK311.out 2).trans rfl
        have hcz42_3 : wc.cell? ⟨gb311, 3, none⟩ = some (.slice A0_3 l0_3.length c0_3) := (blk_cell BK311.out 3).trans rfl
        have hcz42_4 : wc.cell? ⟨gb311, 4, none⟩ = some (.bool a0_4) := (blk_cell BK311.out 4).trans rfl
        have hfz42_0 := blk_frozen BK311.out 0
        have hfz42_1 := blk_frozen BK311.out 1
        have hfz42_2 := blk_frozen BK311.out 2
        have hfz42_3 := blk_frozen BK311.out 3
        have hfz42_4 := blk_frozen BK311.out 4
        go_wp2_with (first | ((with_reducible refine gate_callee (f := 17) rfl ?_); refine goesL_ (some 22) rfl rfl Try.func17 (by kernel_rfl) rfl #[.agg #[.slice A0_0 l0_0.length c0_0, .int .i64 a0_1, .int .i64 a0_2, .slice A0_3 l0_3.length c0_3, .bool a0_4]] rfl q_ml ?_; (with_reducible refine (rees_Table.calls kj8 _ _ l0_0 a0_1 a0_2 _ _ l0_3 a0_4 t317 t320 _ ?side1 ?side2 ?side3 ?side4 A20.out).mono ?_); (case side1 => q_cc (Kd.C_below HR0_0.out HB.out)); (case side2 => exact HC0_0.out); (case side3 => q_cc (Kd.C_below HR0_3.out HB.out)); (case side4 => exact HC0_3.out); rintro e w43 ⟨v318, rfl, ho0, hb⟩; refine ⟨_, rfl, ?_⟩; have n0_ := Aside0.mk (Kd.S_lower ho0 (below_size (q_hs GE311.out))); have n1_ := Aside0.mk (blk_below (g := gb311) (o := .cells #[.slice A0_0 l0_0.length c0_0, .int .i64 a0_1, .int .i64 a0_2, .slice A0_3 l0_3.length c0_3, .bool a0_4] 24 (0, 0)) (by q_bk; exact BK311.out) hb); have n2_ := Aside0.mk (below_step (q_hs GE311.out) hb); clear BK311; clear HB; have HO319 := n0_; have BK311 := n1_; have HB := n2_; clear n0_ n1_ n2_; (q_x hb hb2 hk hi ho0); have hcz44_0 : w43.cell? ⟨gb311, 0, none⟩ = some (.slice A0_0 l0_0.length c0_0) := (blk_cell BK311.out 0).trans rfl; have hcz44_1 : w43.cell? ⟨gb311, 1, none⟩ = some (.int .i64 a0_1) := (blk_cell BK311.out 1).trans rfl; have hcz44_2 : w43.cell? ⟨gb311, 2, none⟩ = some (.int .i64 a0_2) := (blk_cell BK311.out 2).trans rfl; have hcz44_3 : w43.cell? ⟨gb311, 3, none⟩ = some (.slice A0_3 l0_3.length c0_3) := (blk_cell BK311.out 3).trans rfl; have hcz44_4 : w43.cell? ⟨gb311, 4, none⟩ = some (.bool a0_4) := (blk_cell BK311.out 4).trans rfl; have hfz44_0 := blk_frozen BK311.out 0; have hfz44_1 := blk_frozen BK311.out 1; have hfz44_2 := blk_frozen BK311.out 2; have hfz44_3 := blk_frozen BK311.out 3; have hfz44_4 := blk_frozen BK311.out 4) | (go_at_call 19; (with_reducible refine (semigroupref17_Table.calls kj8 _ _ l0_0 a0_1 a0_2 _ _ l0_3 a0_4 t322 _ ?side1 ?side2 ?side3 ?side4 A23.out).mono ?_); (case side1 => q_cc (Kd.C_below HR0_0.out HB.out)); (case side2 => exact HC0_0.out); (case side3 => q_cc (Kd.C_below HR0_3.out HB.out)); (case side4 => exact HC0_3.out); rintro e w45 ⟨v323, rfl, ho0, hb⟩; have n0_ := Aside0.mk (Kd.S_elder' (by q_ns; exact HO319.out) (Kd.S_base ho0) hb); have n1_ := Aside0.mk (Kd.S_lower (Kd.S_new' ho0 (Kd.S_lt (by q_ns; exact HO319.out))) (below_size (q_hs GE311.out))); have n2_ := Aside0.mk (blk_below (g := gb311) (o := .cells #[.slice A0_0 l0_0.length c0_0, .int .i64 a0_1, .int .i64 a0_2, .slice A0_3 l0_3.length c0_3, .bool a0_4] 24 (0, 0)) (by q_bk; exact BK311.out) hb); have n3_ := Aside0.mk (below_step (q_hs GE311.out) hb); clear HO319; clear BK311; clear HB; have HO319 := n0_; have HO324 := n1_; have BK311 := n2_; have HB := n3_; clear n0_ n1_ n2_ n3_; (q_x hb hb2 hk hi ho0); obtain ⟨Ao46, co46, eo46⟩ := Kd.S_slice HO319.out; subst eo46; obtain ⟨Ao47, co47, eo47⟩ := Kd.S_slice HO324.out; subst eo47) | (go_at_call 18; (with_reducible refine (semigroupref03_SameRows.calls kj8 _ _ t317 _ _ t322 false _ ?side1 ?side2 ?side3 ?side4 A24.out).mono ?_); (case side1 => repeat (first | exact (Kd.S_reads' HO319.out).2.2 | (with_reducible refine Kd.C_alloc ?_ _) | (with_reducible refine Kd.C_drewN ?_ _) | (with_reducible refine Kd.C_drew ?_))); (case side2 => exact (Kd.S_reads' HO319.out).2.1); (case side3 => repeat (first | exact (Kd.S_reads' HO324.out).2.2 | (with_reducible refine Kd.C_alloc ?_ _) | (with_reducible refine Kd.C_drewN ?_ _) | (with_reducible refine Kd.C_drew ?_))); (case side4 => exact (Kd.S_reads' HO324.out).2.1); rintro e w' ⟨rfl, ⟨nd, rfl⟩⟩))
        go_ret
        exact ⟨by first | rfl | q_em | q_en, by repeat (first | (with_reducible first | exact HB.out | apply below_alloc | apply pw_below_drewN | apply below_drew1 | refine below_set ?_ GE311.out) | exact HB.out)⟩
      ·rw [if_neg c22] at H
       have c22b0 : (t320 == 0) = false := beq_eq_false_iff_ne.mpr c22
       have c22b1 : (t320 != 0) = true := bne_iff_ne.mpr c22
       obtain rfl := Option.some.inj H
       have hcz48_0 : wc.cell? ⟨gb311, 0, none⟩ = some (.slice A0_0 l0_0.length c0_0) := (blk_cell BK311.out 0).trans rfl
       have hcz48_1 : wc.cell? ⟨gb311, 1, none⟩ = some (.int .i64 a0_1) := (blk_cell BK311.out 1).trans rfl
       have hcz48_2 : wc.cell? ⟨gb311, 2, none⟩ = some (.int .i64 a0_2) := (blk_cell BK311.out 2).trans rfl
       have hcz48_3 : wc.cell? ⟨gb311, 3, none⟩ = some (.slice A0_3 l0_3.length c0_3) := (blk_cell BK311.out 3).trans rfl
       have hcz48_4 : wc.cell? ⟨gb311, 4, none⟩ = some (.bool a0_4) := (blk_cell BK311.out 4).trans rfl
       have hfz48_0 := blk_frozen BK311.out 0
       have hfz48_1 := blk_frozen BK311.out 1
       have hfz48_2 := blk_frozen BK311.out 2
       have hfz48_3 := blk_frozen BK311.out 3
       have hfz48_4 := blk_frozen BK311.out 4
       go_wp2_with (first | ((with_reducible refine gate_callee (f := 17) rfl ?_); refine goesL_ (some 22) rfl rfl Try.func17 (by kernel_rfl) rfl #[.agg #[.slice A0_0 l0_0.length c0_0, .int .i64 a0_1, .int .i64 a0_2, .slice A0_3 l0_3.length c0_3, .bool a0_4]] rfl q_ml ?_; (with_reducible refine (rees_Table.calls kj8 _ _ l0_0 a0_1 a0_2 _ _ l0_3 a0_4 t317 t320 _ ?side1 ?side2 ?side3 ?side4 A20.out).mono ?_); (case side1 => q_cc (Kd.C_below HR0_0.out HB.out)); (case side2 => exact HC0_0.out); (case side3 => q_cc (Kd.C_below HR0_3.out HB.out)); (case side4 => exact HC0_3.out); rintro e w49 ⟨v318, rfl, ho0, hb⟩; refine ⟨_, rfl, ?_⟩; have n0_ := Aside0.mk (Kd.S_lower ho0 (below_size (q_hs GE311.out))); have n1_ := Aside0.mk (blk_below (g := gb311) (o := .cells #[.slice A0_0 l0_0.length c0_0, .int .i64 a0_1, .int .i64 a0_2, .slice A0_3 l0_3.length c0_3, .bool a0_4] 24 (0, 0)) (by q_bk; exact BK311.out) hb); have n2_ := Aside0.mk (below_step (q_hs GE311.out) hb); clear BK311; clear HB; have HO319 := n0_; have BK311 := n1_; have HB := n2_; clear n0_ n1_ n2_; (q_x hb hb2 hk hi); (try clear ho0)))
       go_ret
       exact ⟨by first | rfl | q_em | q_en, by repeat (first | (with_reducible first | exact HB.out | apply below_alloc | apply pw_below_drewN | apply below_drew1 | refine below_set ?_ GE311.out) | exact HB.out)⟩
     ·rw [if_neg c21] at H
      have c21b0 : (t314 == 0) = false := beq_eq_false_iff_ne.mpr c21
      have c21b1 : (t314 != 0) = true := bne_iff_ne.mpr c21
      by_cases c50 : t314 = t320
      ·rw [if_pos c50] at H
       have c50b0 : (t314 == t320) = true := beq_iff_eq.mpr c50
       have c50b1 : (t314 != t320) = false := bne_eq_false_iff_eq.mpr c50
       clear c50
       by_cases c51 : (t317.length : Int) = 0
       ·rw [if_pos c51] at H
        have c51b0 : ((t317.length : Int) == 0) = true := beq_iff_eq.mpr c51
        have c51b1 : ((t317.length : Int) != 0) = false := bne_eq_false_iff_eq.mpr c51
        clear c51
        replace H := Option.bind_eq_some_iff.mp H
        obtain ⟨t321, A520, H⟩ := H
        replace H : (some t321) = some r := H
        have A52 := Aside0.mk A520
        clear A520
        obtain rfl := Option.some.inj H
        have hcz53_0 : wc.cell? ⟨gb311, 0, none⟩ = some (.slice A0_0 l0_0.length c0_0) := (blk_cell BK311.out 0).trans rfl
        have hcz53_1 : wc.cell? ⟨gb311, 1, none⟩ = some (.int .i64 a0_1) := (blk_cell BK311.out 1).trans rfl
        have hcz53_2 : wc.cell? ⟨gb311, 2, none⟩ = some (.int .i64 a0_2) := (blk_cell BK311.out 2).trans rfl
        have hcz53_3 : wc.cell? ⟨gb311, 3, none⟩ = some (.slice A0_3 l0_3.length c0_3) := (blk_cell BK311.out 3).trans rfl
        have hcz53_4 : wc.cell? ⟨gb311, 4, none⟩ = some (.bool a0_4) := (blk_cell BK311.out 4).trans rfl
        have hfz53_0 := blk_frozen BK311.out 0
        have hfz53_1 := blk_frozen BK311.out 1
        have hfz53_2 := blk_frozen BK311.out 2
        have hfz53_3 := blk_frozen BK311.out 3
        have hfz53_4 := blk_frozen BK311.out 4
        go_wp2_with (first | ((with_reducible refine gate_callee (f := 17) rfl ?_); refine goesL_ (some 22) rfl rfl Try.func17 (by kernel_rfl) rfl #[.agg #[.slice A0_0 l0_0.length c0_0, .int .i64 a0_1, .int .i64 a0_2, .slice A0_3 l0_3.length c0_3, .bool a0_4]] rfl q_ml ?_; (with_reducible refine (rees_Table.calls kj8 _ _ l0_0 a0_1 a0_2 _ _ l0_3 a0_4 t317 t320 _ ?side1 ?side2 ?side3 ?side4 A20.out).mono ?_); (case side1 => q_cc (Kd.C_below HR0_0.out HB.out)); (case side2 => exact HC0_0.out); (case side3 => q_cc (Kd.C_below HR0_3.out HB.out)); (case side4 => exact HC0_3.out); rintro e w54 ⟨v318, rfl, ho0, hb⟩; refine ⟨_, rfl, ?_⟩; have n0_ := Aside0.mk (Kd.S_lower ho0 (below_size (q_hs GE311.out))); have n1_ := Aside0.mk (blk_below (g := gb311) (o := .cells #[.slice A0_0 l0_0.length c0_0, .int .i64 a0_1, .int .i64 a0_2, .slice A0_3 l0_3.length c0_3, .bool a0_4] 24 (0, 0)) (by q_bk; exact BK311.out) hb); have n2_ := Aside0.mk (below_step (q_hs GE311.out) hb); clear BK311; clear HB; have HO319 := n0_; have BK311 := n1_; have HB := n2_; clear n0_ n1_ n2_; (q_x hb hb2 hk hi ho0); obtain ⟨Ao55, co55, eo55⟩ := Kd.S_slice HO319.out; subst eo55) | (go_at_call 14; (with_reducible refine (semigrouplaw17_awake.calls kj8  t321 _ A52.out).mono ?_); rintro e w56 ⟨rfl, hb⟩; have n0_ := Aside0.mk (Kd.S_below (by q_ns; exact HO319.out) hb); have n1_ := Aside0.mk (blk_below (g := gb311) (o := .cells #[.slice A0_0 l0_0.length c0_0, .int .i64 a0_1, .int .i64 a0_2, .slice A0_3 l0_3.length c0_3, .bool a0_4] 24 (0, 0)) (by q_bk; exact BK311.out) hb); have n2_ := Aside0.mk (below_step (q_hs GE311.out) hb); clear HO319; clear BK311; clear HB; have HO319 := n0_; have BK311 := n1_; have HB := n2_; clear n0_ n1_ n2_; (q_x hb hb2 hk); (try clear hi)))
        go_ret
        exact ⟨by first | rfl | q_em | q_en, by repeat (first | (with_reducible first | exact HB.out | apply below_alloc | apply pw_below_drewN | apply below_drew1 | refine below_set ?_ GE311.out) | exact HB.out)⟩
       ·rw [if_neg c51] at H
        have c51b0 : ((t317.length : Int) == 0) = false := beq_eq_false_iff_ne.mpr c51
        have c51b1 : ((t317.length : Int) != 0) = true := bne_iff_ne.mpr c51
        have c51b2 : ¬ (t317 = []) := fun h_ => c51 (by rw [h_]; rfl)
        obtain rfl := Option.some.inj H
        have hcz57_0 : wc.cell? ⟨gb311, 0, none⟩ = some (.slice A0_0 l0_0.length c0_0) := (blk_cell BK311.out 0).trans rfl
        have hcz57_1 : wc.cell? ⟨gb311, 1, none⟩ = some (.int .i64 a0_1) := (blk_cell BK311.out 1).trans rfl
        have hcz57_2 : wc.cell? ⟨gb311, 2, none⟩ = some (.int .i64 a0_2) := (blk_cell BK311.out 2).trans rfl
        have hcz57_3 : wc.cell? ⟨gb311, 3, none⟩ = some (.slice A0_3 l0_3.length c0_3) := (blk_cell BK311.out 3).trans rfl
        have hcz57_4 : wc.cell? ⟨gb311, 4, none⟩ = some (.bool a0_4) := (blk_cell BK311.out 4).trans rfl
        have hfz57_0 := blk_frozen BK311.out 0
        have hfz57_1 := blk_frozen BK311.out 1
        have hfz57_2 := blk_frozen BK311.out 2
        have hfz57_3 := blk_frozen BK311.out 3
        have hfz57_4 := blk_frozen BK311.out 4
        go_wp2_with (first | ((with_reducible refine gate_callee (f := 17) rfl ?_); refine goesL_ (some 22) rfl rfl Try.func17 (by kernel_rfl) rfl #[.agg #[.slice A0_0 l0_0.length c0_0, .int .i64 a0_1, .int .i64 a0_2, .slice A0_3 l0_3.length c0_3, .bool a0_4]] rfl q_ml ?_; (with_reducible refine (rees_Table.calls kj8 _ _ l0_0 a0_1 a0_2 _ _ l0_3 a0_4 t317 t320 _ ?side1 ?side2 ?side3 ?side4 A20.out).mono ?_); (case side1 => q_cc (Kd.C_below HR0_0.out HB.out)); (case side2 => exact HC0_0.out); (case side3 => q_cc (Kd.C_below HR0_3.out HB.out)); (case side4 => exact HC0_3.out); rintro e w58 ⟨v318, rfl, ho0, hb⟩; refine ⟨_, rfl, ?_⟩; have n0_ := Aside0.mk (Kd.S_lower ho0 (below_size (q_hs GE311.out))); have n1_ := Aside0.mk (blk_below (g := gb311) (o := .cells #[.slice A0_0 l0_0.length c0_0, .int .i64 a0_1, .int .i64 a0_2, .slice A0_3 l0_3.length c0_3, .bool a0_4] 24 (0, 0)) (by q_bk; exact BK311.out) hb); have n2_ := Aside0.mk (below_step (q_hs GE311.out) hb); clear BK311; clear HB; have HO319 := n0_; have BK311 := n1_; have HB := n2_; clear n0_ n1_ n2_; (q_x hb hb2 hk hi ho0); obtain ⟨Ao59, co59, eo59⟩ := Kd.S_slice HO319.out; subst eo59))
        go_ret
        exact ⟨by first | rfl | q_em | q_en, by repeat (first | (with_reducible first | exact HB.out | apply below_alloc | apply pw_below_drewN | apply below_drew1 | refine below_set ?_ GE311.out) | exact HB.out)⟩
      ·rw [if_neg c50] at H
       have c50b0 : (t314 == t320) = false := beq_eq_false_iff_ne.mpr c50
       have c50b1 : (t314 != t320) = true := bne_iff_ne.mpr c50
       obtain rfl := Option.some.inj H
       have hcz60_0 : wc.cell? ⟨gb311, 0, none⟩ = some (.slice A0_0 l0_0.length c0_0) := (blk_cell BK311.out 0).trans rfl
       have hcz60_1 : wc.cell? ⟨gb311, 1, none⟩ = some (.int .i64 a0_1) := (blk_cell BK311.out 1).trans rfl
       have hcz60_2 : wc.cell? ⟨gb311, 2, none⟩ = some (.int .i64 a0_2) := (blk_cell BK311.out 2).trans rfl
       have hcz60_3 : wc.cell? ⟨gb311, 3, none⟩ = some (.slice A0_3 l0_3.length c0_3) := (blk_cell BK311.out 3).trans rfl
       have hcz60_4 : wc.cell? ⟨gb311, 4, none⟩ = some (.bool a0_4) := (blk_cell BK311.out 4).trans rfl
       have hfz60_0 := blk_frozen BK311.out 0
       have hfz60_1 := blk_frozen BK311.out 1
       have hfz60_2 := blk_frozen BK311.out 2
       have hfz60_3 := blk_frozen BK311.out 3
       have hfz60_4 := blk_frozen BK311.out 4
       go_wp2_with (first | ((with_reducible refine gate_callee (f := 17) rfl ?_); refine goesL_ (some 22) rfl rfl Try.func17 (by kernel_rfl) rfl #[.agg #[.slice A0_0 l0_0.length c0_0, .int .i64 a0_1, .int .i64 a0_2, .slice A0_3 l0_3.length c0_3, .bool a0_4]] rfl q_ml ?_; (with_reducible refine (rees_Table.calls kj8 _ _ l0_0 a0_1 a0_2 _ _ l0_3 a0_4 t317 t320 _ ?side1 ?side2 ?side3 ?side4 A20.out).mono ?_); (case side1 => q_cc (Kd.C_below HR0_0.out HB.out)); (case side2 => exact HC0_0.out); (case side3 => q_cc (Kd.C_below HR0_3.out HB.out)); (case side4 => exact HC0_3.out); rintro e w61 ⟨v318, rfl, ho0, hb⟩; refine ⟨_, rfl, ?_⟩; have n0_ := Aside0.mk (Kd.S_lower ho0 (below_size (q_hs GE311.out))); have n1_ := Aside0.mk (blk_below (g := gb311) (o := .cells #[.slice A0_0 l0_0.length c0_0, .int .i64 a0_1, .int .i64 a0_2, .slice A0_3 l0_3.length c0_3, .bool a0_4] 24 (0, 0)) (by q_bk; exact BK311.out) hb); have n2_ := Aside0.mk (below_step (q_hs GE311.out) hb); clear BK311; clear HB; have HO319 := n0_; have BK311 := n1_; have HB := n2_; clear n0_ n1_ n2_; (q_x hb hb2 hk hi); (try clear ho0)))
       go_ret
       exact ⟨by first | rfl | q_em | q_en, by repeat (first | (with_reducible first | exact HB.out | apply below_alloc | apply pw_below_drewN | apply below_drew1 | refine below_set ?_ GE311.out) | exact HB.out)⟩


end Go.Proofs.Ytnoickhdbinciaa.PAll
