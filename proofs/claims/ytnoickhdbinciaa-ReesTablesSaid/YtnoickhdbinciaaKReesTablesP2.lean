-- printed for this claim out of the translation; Lean checks it
import Derived.Test.YtnoickhdbinciaaKReesTablesP1
namespace Go.Proofs.Ytnoickhdbinciaa.PAll
open Go.RowKit Go.Proofs.YtnoickhdbinciaaW.PrintWords Go.Proofs.YtnoickhdbinciaaW.PrintLast Go.Proofs.YtnoickhdbinciaaW.PrintMore
attribute [local go_sem] max2_int min2_int max_two min_two max_three min_three max_four min_four   -- for this text's walks alone
set_option linter.unusedVariables false
set_option linter.unusedSimpArgs false
/-! ### rees_mul: function 48 -/
def rees_mul.j0 : Nat → Int → Int → Int → Bool → List (List Int) → Int → Int → List (List Int) → Bool → Option (Int)
 | 0, _, _, _, _, _, _, _, _, _ => none
 | k + 1, x1, x2, x7, x26, x160000, x160001, x160002, x160003, x160004 => if x26 = true then (some 0) else (if x160002 = 0 then (none) else (if (x160000.length : Int) = 0 then (none) else (if 0 ≤ (Int.tmod (wrap64 (x1 - x7)) x160002) then (if (Int.tmod (wrap64 (x1 - x7)) x160002) < (x160003.length : Int) then (if 0 ≤ (wrap64 (Int.tdiv (wrap64 (Int.tdiv (wrap64 (x2 - x7)) x160002)) (x160000.length : Int))) then (if (wrap64 (Int.tdiv (wrap64 (Int.tdiv (wrap64 (x2 - x7)) x160002)) (x160000.length : Int))) < ((rd_L1 x160003 (Int.tmod (wrap64 (x1 - x7)) x160002)).length : Int) then (if (rd (rd_L1 x160003 (Int.tmod (wrap64 (x1 - x7)) x160002)) (wrap64 (Int.tdiv (wrap64 (Int.tdiv (wrap64 (x2 - x7)) x160002)) (x160000.length : Int)))) < 0 then (some 0) else (if 0 ≤ (Int.tmod (wrap64 (Int.tdiv (wrap64 (x1 - x7)) x160002)) (x160000.length : Int)) then (if (Int.tmod (wrap64 (Int.tdiv (wrap64 (x1 - x7)) x160002)) (x160000.length : Int)) < (x160000.length : Int) then (if 0 ≤ (rd (rd_L1 x160003 (Int.tmod (wrap64 (x1 - x7)) x160002)) (wrap64 (Int.tdiv (wrap64 (Int.tdiv (wrap64 (x2 - x7)) x160002)) (x160000.length : Int)))) then (if (rd (rd_L1 x160003 (Int.tmod (wrap64 (x1 - x7)) x160002)) (wrap64 (Int.tdiv (wrap64 (Int.tdiv (wrap64 (x2 - x7)) x160002)) (x160000.length : Int)))) < ((rd_L1 x160000 (Int.tmod (wrap64 (Int.tdiv (wrap64 (x1 - x7)) x160002)) (x160000.length : Int))).length : Int) then (if 0 ≤ (rd (rd_L1 x160000 (Int.tmod (wrap64 (Int.tdiv (wrap64 (x1 - x7)) x160002)) (x160000.length : Int))) (rd (rd_L1 x160003 (Int.tmod (wrap64 (x1 - x7)) x160002)) (wrap64 (Int.tdiv (wrap64 (Int.tdiv (wrap64 (x2 - x7)) x160002)) (x160000.length : Int))))) then (if (rd (rd_L1 x160000 (Int.tmod (wrap64 (Int.tdiv (wrap64 (x1 - x7)) x160002)) (x160000.length : Int))) (rd (rd_L1 x160003 (Int.tmod (wrap64 (x1 - x7)) x160002)) (wrap64 (Int.tdiv (wrap64 (Int.tdiv (wrap64 (x2 - x7)) x160002)) (x160000.length : Int))))) < (x160000.length : Int) then (if 0 ≤ (Int.tmod (wrap64 (Int.tdiv (wrap64 (x2 - x7)) x160002)) (x160000.length : Int)) then (if (Int.tmod (wrap64 (Int.tdiv (wrap64 (x2 - x7)) x160002)) (x160000.length : Int)) < ((rd_L1 x160000 (rd (rd_L1 x160000 (Int.tmod (wrap64 (Int.tdiv (wrap64 (x1 - x7)) x160002)) (x160000.length : Int))) (rd (rd_L1 x160003 (Int.tmod (wrap64 (x1 - x7)) x160002)) (wrap64 (Int.tdiv (wrap64 (Int.tdiv (wrap64 (x2 - x7)) x160002)) (x160000.length : Int)))))).length : Int) then ((rees_number.f x160000 x160001 x160002 x160003 x160004 (wrap64 (Int.tdiv (wrap64 (Int.tdiv (wrap64 (x1 - x7)) x160002)) (x160000.length : Int))) (rd (rd_L1 x160000 (rd (rd_L1 x160000 (Int.tmod (wrap64 (Int.tdiv (wrap64 (x1 - x7)) x160002)) (x160000.length : Int))) (rd (rd_L1 x160003 (Int.tmod (wrap64 (x1 - x7)) x160002)) (wrap64 (Int.tdiv (wrap64 (Int.tdiv (wrap64 (x2 - x7)) x160002)) (x160000.length : Int)))))) (Int.tmod (wrap64 (Int.tdiv (wrap64 (x2 - x7)) x160002)) (x160000.length : Int))) (Int.tmod (wrap64 (x2 - x7)) x160002)).bind fun t167 => (some t167)) else (none)) else (none)) else (none)) else (none)) else (none)) else (none)) else (none)) else (none))) else (none)) else (none)) else (none)) else (none))))
def rees_mul.f (k : Nat) (l0_0 : List (List Int)) (a0_1 : Int) (a0_2 : Int) (l0_3 : List (List Int)) (a0_4 : Bool) (a1 : Int) (a2 : Int) : Option (Int) := (rees_zero.f l0_0 a0_1 a0_2 l0_3 a0_4).bind fun t160 => (if t160 = 1 then (if a1 = 0 then (rees_mul.j0 k a1 a2 t160 true l0_0 a0_1 a0_2 l0_3 a0_4) else (rees_mul.j0 k a1 a2 t160 (a2 == 0) l0_0 a0_1 a0_2 l0_3 a0_4)) else (rees_mul.j0 k a1 a2 t160 false l0_0 a0_1 a0_2 l0_3 a0_4))
theorem rees_mul.mono_l : ∀ k, (∀ y0 y1 y2 y3 y4 y5 y6 y7 y8, LeO (rees_mul.j0 k y0 y1 y2 y3 y4 y5 y6 y7 y8) (rees_mul.j0 (k + 1) y0 y1 y2 y3 y4 y5 y6 y7 y8))
 | 0 => fun _ _ _ _ _ _ _ _ _ r h => by simp [rees_mul.j0] at h
 | k + 1 => by
  have ih0 := rees_mul.mono_l k
  ·intro y0 y1 y2 y3 y4 y5 y6 y7 y8
   unfold rees_mul.j0
   repeat' first
   | (with_reducible exact ih0 _ _ _ _ _ _ _ _ _)
   | (with_reducible exact LeO.refl _)
   | (with_reducible exact LeO.none _)
   | (with_reducible refine LeO.ite ?_ ?_)
   | (with_reducible refine LeO.bind ?_ (fun _ => ?_))
   | exact ih0 _ _ _ _ _ _ _ _ _
   | exact LeO.none _
   | refine LeO.ite ?_ ?_
   | refine LeO.bind ?_ (fun _ => ?_)
theorem rees_mul.mono : ∀ a0 a1 a2 a3 a4 a5 a6 k, LeO (rees_mul.f k a0 a1 a2 a3 a4 a5 a6) (rees_mul.f (k + 1) a0 a1 a2 a3 a4 a5 a6) := by
 intro a0 a1 a2 a3 a4 a5 a6 k
 have ih0 := rees_mul.mono_l k
 unfold rees_mul.f
 repeat' first
   | (with_reducible exact ih0 _ _ _ _ _ _ _ _ _)
   | (with_reducible exact LeO.refl _)
   | (with_reducible exact LeO.none _)
   | (with_reducible refine LeO.ite ?_ ?_)
   | (with_reducible refine LeO.bind ?_ (fun _ => ?_))
   | exact ih0 _ _ _ _ _ _ _ _ _
   | exact LeO.none _
   | refine LeO.ite ?_ ?_
   | refine LeO.bind ?_ (fun _ => ?_)
def rees_mul.T5 : Bool × List (List Nat × List Nat) := (true, [([], []), ([], []), ([1], [1]), ([0, 2], [0, 2]), ([], []), ([], []), ([5], [5]), ([4, 6], [4, 6]), ([3, 0, 1, 2, 3], [3]), ([7, 8, 0, 1, 2, 3, 4, 5, 6, 7, 8], [7])])
def rees_mul.B5 : List Nat := [0, 0, 2, 7, 0, 0, 32, 112, 15, 511]
theorem rees_mul.tab5 : rtab .any (opsOf Try.f48 5) = rees_mul.T5 := by kernel_rfl
theorem rees_mul.bits5 : waitsOk rees_mul.T5.2 rees_mul.B5 = true := by kernel_rfl
def rees_mul.T6 : Bool × List (List Nat × List Nat) := (true, [([], []), ([], []), ([1], [1]), ([0, 2], [0, 2]), ([], []), ([4], [4]), ([5], [5]), ([3, 6], [3, 6]), ([], []), ([], []), ([9], [9]), ([8, 10], [8, 10]), ([], []), ([12], [12]), ([13], [13]), ([11, 14], [11, 14]), ([7, 0, 1, 2, 3, 4, 5, 6, 7], [7]), ([15, 16, 0, 1, 2, 3, 4, 5, 6, 7, 8, 9, 10, 11, 12, 13, 14, 15, 16], [15])])
def rees_mul.B6 : List Nat := [0, 0, 2, 7, 0, 16, 48, 127, 0, 0, 512, 1792, 0, 4096, 12288, 32512, 255, 131071]
theorem rees_mul.tab6 : rtab .any (opsOf Try.f48 6) = rees_mul.T6 := by kernel_rfl
theorem rees_mul.bits6 : waitsOk rees_mul.T6.2 rees_mul.B6 = true := by kernel_rfl
def rees_mul.T7 : Bool × List (List Nat × List Nat) := (true, [([], []), ([], []), ([1], [1]), ([0, 2], [0, 2]), ([], []), ([4], [4]), ([5], [5]), ([3, 6], [3, 6]), ([], []), ([], []), ([9], [9]), ([8, 10], [8, 10]), ([], []), ([12], [12]), ([13], [13]), ([11, 14], [11, 14]), ([7, 0, 1, 2, 3, 4, 5, 6, 7], [7]), ([15, 16, 0, 1, 2, 3, 4, 5, 6, 7, 8, 9, 10, 11, 12, 13, 14, 15, 16], [15])])
def rees_mul.B7 : List Nat := [0, 0, 2, 7, 0, 16, 48, 127, 0, 0, 512, 1792, 0, 4096, 12288, 32512, 255, 131071]
theorem rees_mul.tab7 : rtab .any (opsOf Try.f48 7) = rees_mul.T7 := by kernel_rfl
theorem rees_mul.bits7 : waitsOk rees_mul.T7.2 rees_mul.B7 = true := by kernel_rfl
def rees_mul.T11 : Bool × List (List Nat × List Nat) := (true, [([], []), ([], []), ([], []), ([2], [2]), ([], []), ([4], [4]), ([], []), ([5, 6], [5, 6]), ([7], [7]), ([], []), ([8, 9], [8, 9]), ([10], [10]), ([3, 11], [3, 11]), ([12], [12]), ([], []), ([13, 14], [13, 14]), ([15], [15]), ([], []), ([0, 1, 16, 17], [0, 1, 16, 17]), ([18, 18, 0, 1, 2, 3, 4, 5, 6, 7, 8, 9, 10, 11, 12, 13, 14, 15, 16, 17, 18], [18])])
def rees_mul.B11 : List Nat := [0, 0, 0, 4, 0, 16, 0, 112, 240, 0, 1008, 2032, 4092, 8188, 0, 32764, 65532, 0, 262143, 524287]
theorem rees_mul.tab11 : rtab .any (opsOf Try.f48 11) = rees_mul.T11 := by kernel_rfl
theorem rees_mul.bits11 : waitsOk rees_mul.T11.2 rees_mul.B11 = true := by kernel_rfl
set_option maxHeartbeats 8000000 in
set_option maxRecDepth 100000 in
theorem rees_mul.calls (k : Nat) (A0_0 : Option Addr) (c0_0 : Nat) (l0_0 : List (List Int)) (a0_1 : Int) (a0_2 : Int) (A0_3 : Option Addr) (c0_3 : Nat) (l0_3 : List (List Int)) (a0_4 : Bool) (a1 : Int) (a2 : Int) (r : Int) (w : World) (hr0_0 : Kd.C (Kd.slice 3 (Kd.int .i64)) w A0_0 l0_0.length l0_0) (hc0_0 : l0_0.length ≤ c0_0) (hr0_3 : Kd.C (Kd.slice 3 (Kd.int .i64)) w A0_3 l0_3.length l0_3) (hc0_3 : l0_3.length ≤ c0_3) (h : rees_mul.f k l0_0 a0_1 a0_2 l0_3 a0_4 a1 a2 = some r) :
  Calls Try.prog 48 #[.agg #[.slice A0_0 l0_0.length c0_0, .int .i64 a0_1, .int .i64 a0_2, .slice A0_3 l0_3.length c0_3, .bool a0_4], .int .i64 a1, .int .i64 a2] w fun e w' => e = .returned (.int .i64 r) ∧ Below w.heap.size w w' := by
 have hu24 := Try.underlying24
 have HR0_0 := Aside0.mk hr0_0
 have HC0_0 := Aside0.mk hc0_0
 (try clear hr0_0); (try clear hc0_0)
 have HR0_3 := Aside0.mk hr0_3
 have HC0_3 := Aside0.mk hc0_3
 (try clear hr0_3); (try clear hc0_3)
 have HB := Aside0.mk (Below.refl w.heap.size w)
 have H : ((rees_zero.f l0_0 a0_1 a0_2 l0_3 a0_4).bind fun t160 => (if t160 = 1 then (if a1 = 0 then (rees_mul.j0 k a1 a2 t160 true l0_0 a0_1 a0_2 l0_3 a0_4) else (rees_mul.j0 k a1 a2 t160 (a2 == 0) l0_0 a0_1 a0_2 l0_3 a0_4)) else (rees_mul.j0 k a1 a2 t160 false l0_0 a0_1 a0_2 l0_3 a0_4))) = some r := h
 clear h
 replace H := Option.bind_eq_some_iff.mp H
 obtain ⟨t160, A40, H⟩ := H
 replace H : (if t160 = 1 then (if a1 = 0 then (rees_mul.j0 k a1 a2 t160 true l0_0 a0_1 a0_2 l0_3 a0_4) else (rees_mul.j0 k a1 a2 t160 (a2 == 0) l0_0 a0_1 a0_2 l0_3 a0_4)) else (rees_mul.j0 k a1 a2 t160 false l0_0 a0_1 a0_2 l0_3 a0_4)) = some r := H
 have A4 := Aside0.mk A40
 clear A40
 have HC5 := Aside0.mk H
 clear H
 go_enter Try.func48, Try.ntmps48
 go_upto_region 2 with (first | ((with_reducible refine gate_dst (N := 3) rfl ?_); refine box_event ?hg (N := 3) ?hd (cs := #[.slice A0_0 l0_0.length c0_0, .int .i64 a0_1, .int .i64 a0_2, .slice A0_3 l0_3.length c0_3, .bool a0_4]) (t := 24) ?hr ?_; (case hd => rfl); (case hg => rfl); q_hr; intro gb159 hg w6 hbox hb; have n0_ := Aside0.mk (below_step q_hb hb); have n1_ := Aside0.mk (hbox); have n2_ := Aside0.mk ((by rw [hg]; exact q_bs : w.heap.size ≤ gb159)); have n3_ := Aside0.mk ((by rw [hg]; exact q_bs : w.heap.size ≤ gb159)); clear HB; have HB := n0_; have BK159 := n1_; have GW159 := n2_; have GE159 := n3_; clear n0_ n1_ n2_ n3_; (q_x hb hbox hg); have hcz7_0 : w6.cell? ⟨gb159, 0, none⟩ = some (.slice A0_0 l0_0.length c0_0) := (blk_cell BK159.out 0).trans rfl; have hcz7_1 : w6.cell? ⟨gb159, 1, none⟩ = some (.int .i64 a0_1) := (blk_cell BK159.out 1).trans rfl; have hcz7_2 : w6.cell? ⟨gb159, 2, none⟩ = some (.int .i64 a0_2) := (blk_cell BK159.out 2).trans rfl; have hcz7_3 : w6.cell? ⟨gb159, 3, none⟩ = some (.slice A0_3 l0_3.length c0_3) := (blk_cell BK159.out 3).trans rfl; have hcz7_4 : w6.cell? ⟨gb159, 4, none⟩ = some (.bool a0_4) := (blk_cell BK159.out 4).trans rfl; have hfz7_0 := blk_frozen BK159.out 0; have hfz7_1 := blk_frozen BK159.out 1; have hfz7_2 := blk_frozen BK159.out 2; have hfz7_3 := blk_frozen BK159.out 3; have hfz7_4 := blk_frozen BK159.out 4) | ((with_reducible refine gate_callee (f := 59) rfl ?_); refine goesL_ (some 16) rfl rfl Try.func59 (by kernel_rfl) rfl #[.agg #[.slice A0_0 l0_0.length c0_0, .int .i64 a0_1, .int .i64 a0_2, .slice A0_3 l0_3.length c0_3, .bool a0_4]] rfl q_ml ?_; (with_reducible refine (rees_zero.calls _ _ l0_0 a0_1 a0_2 _ _ l0_3 a0_4 t160 _ ?side1 ?side2 ?side3 ?side4 A4.out).mono ?_); (case side1 => q_cc (Kd.C_below HR0_0.out HB.out)); (case side2 => exact HC0_0.out); (case side3 => q_cc (Kd.C_below HR0_3.out HB.out)); (case side4 => exact HC0_3.out); rintro e w8 ⟨rfl, hb⟩; refine ⟨_, rfl, ?_⟩; have n0_ := Aside0.mk (blk_below (g := gb159) (o := .cells #[.slice A0_0 l0_0.length c0_0, .int .i64 a0_1, .int .i64 a0_2, .slice A0_3 l0_3.length c0_3, .bool a0_4] 24 (0, 0)) (by q_bk; exact BK159.out) hb); have n1_ := Aside0.mk (below_step (q_hs GE159.out) hb); clear BK159; clear HB; have BK159 := n0_; have HB := n1_; clear n0_ n1_; (q_x hb hb2 hk); (try clear hi)))
 (try simp only [Act.put, List.setIfInBounds_toArray, List.set_cons_zero, List.set_cons_succ])
 go_cut [26] (fun v26 wc => ∃ (kq : Nat) (x26_4 : Bool), v26 = .bool x26_4 ∧ Aside0 (rees_mul.j0 kq a1 a2 t160 x26_4 l0_0 a0_1 a0_2 l0_3 a0_4 = some r) ∧ Aside0 (kq ≤ k) ∧ Aside0 (wc.heap[gb159]? = some (.cells #[(.slice A0_0 l0_0.length c0_0), .int .i64 a0_1, .int .i64 a0_2, (.slice A0_3 l0_3.length c0_3), .bool a0_4] 24 (0, 0))) ∧ Aside0 (Below w.heap.size w wc))
 case first =>
  have H := HC5.out
  clear HC5
  by_cases c9 : t160 = 1
  ·rw [if_pos c9] at H
   have c9b0 : (t160 == 1) = true := beq_iff_eq.mpr c9
   have c9b1 : (t160 != 1) = false := bne_eq_false_iff_eq.mpr c9
   clear c9
   (first | rw [c9b0] | (simp only [i64_w, i32_w]; rw [c9b0]) | skip)
   by_cases c10 : a1 = 0
   ·rw [if_pos c10] at H
    have c10b0 : (a1 == 0) = true := beq_iff_eq.mpr c10
    have c10b1 : (a1 != 0) = false := bne_eq_false_iff_eq.mpr c10
    clear c10
    have H' := Aside0.mk H
    clear H
    go_wp2
    go_meet
    case rel => exact ⟨_, (true), q_rs, H', ⟨by first | omega | exact Nat.le_refl _⟩, ⟨by q_bk; exact BK159.out⟩, ⟨by repeat (first | (with_reducible first | exact HB.out | apply below_alloc | apply pw_below_drewN | apply below_drew1 | refine below_set ?_ GE159.out) | exact HB.out)⟩⟩
   ·rw [if_neg c10] at H
    have c10b0 : (a1 == 0) = false := beq_eq_false_iff_ne.mpr c10
    have c10b1 : (a1 != 0) = true := bne_iff_ne.mpr c10
    have H' := Aside0.mk H
    clear H
    go_wp2
    go_meet
    case rel => exact ⟨_, ((a2 == 0)), q_rs, H', ⟨by first | omega | exact Nat.le_refl _⟩, ⟨by q_bk; exact BK159.out⟩, ⟨by repeat (first | (with_reducible first | exact HB.out | apply below_alloc | apply pw_below_drewN | apply below_drew1 | refine below_set ?_ GE159.out) | exact HB.out)⟩⟩
  ·rw [if_neg c9] at H
   have c9b0 : (t160 == 1) = false := beq_eq_false_iff_ne.mpr c9
   have c9b1 : (t160 != 1) = true := bne_iff_ne.mpr c9
   (first | rw [c9b0] | (simp only [i64_w, i32_w]; rw [c9b0]) | skip)
   have H' := Aside0.mk H
   clear H
   go_wp2
   go_meet
   case rel => exact ⟨_, (false), q_rs, H', ⟨by first | omega | exact Nat.le_refl _⟩, ⟨by q_bk; exact BK159.out⟩, ⟨by repeat (first | (with_reducible first | exact HB.out | apply below_alloc | apply pw_below_drewN | apply below_drew1 | refine below_set ?_ GE159.out) | exact HB.out)⟩⟩
 case rest =>
  clear HC5
  q_x c1 p2 c4 c5 c9 c9b0 c9b1 c10 c10b0 c10b1 hcz7_0 hcz7_1 hcz7_2 hcz7_3 hcz7_4 hfz7_0 hfz7_1 hfz7_2 hfz7_3 hfz7_4
  obtain ⟨kq, x26_4, rfl, HA, HJ4, BK159, HB⟩ := hcut
  cases kq with
  | zero => exact absurd HA.out (by simp [rees_mul.j0])
  | succ kj4 =>
   have H := HA.out
   clear HA
   simp only [rees_mul.j0] at H
   by_cases c11 : x26_4 = true
   ·subst c11
    have H1 : (some 0) = some r := by rw [if_pos rfl] at H; exact H
    clear H
    have H := H1
    clear H1
    obtain rfl := Option.some.inj H
    go_wp2
    go_ret
    exact ⟨by first | rfl | q_em | q_en, by repeat (first | (with_reducible first | exact HB.out | apply below_alloc | apply pw_below_drewN | apply below_drew1 | refine below_set ?_ GE159.out) | exact HB.out)⟩
   ·replace c11 := Bool.eq_false_iff.mpr c11
    subst c11
    have H1 : (if a0_2 = 0 then (none) else (if (l0_0.length : Int) = 0 then (none) else (if 0 ≤ (Int.tmod (wrap64 (a1 - t160)) a0_2) then (if (Int.tmod (wrap64 (a1 - t160)) a0_2) < (l0_3.length : Int) then (if 0 ≤ (wrap64 (Int.tdiv (wrap64 (Int.tdiv (wrap64 (a2 - t160)) a0_2)) (l0_0.length : Int))) then (if (wrap64 (Int.tdiv (wrap64 (Int.tdiv (wrap64 (a2 - t160)) a0_2)) (l0_0.length : Int))) < ((rd_L1 l0_3 (Int.tmod (wrap64 (a1 - t160)) a0_2)).length : Int) then (if (rd (rd_L1 l0_3 (Int.tmod (wrap64 (a1 - t160)) a0_2)) (wrap64 (Int.tdiv (wrap64 (Int.tdiv (wrap64 (a2 - t160)) a0_2)) (l0_0.length : Int)))) < 0 then (some 0) else (if 0 ≤ (Int.tmod (wrap64 (Int.tdiv (wrap64 (a1 - t160)) a0_2)) (l0_0.length : Int)) then (if (Int.tmod (wrap64 (Int.tdiv (wrap64 (a1 - t160)) a0_2)) (l0_0.length : Int)) < (l0_0.length : Int) then (if 0 ≤ (rd (rd_L1 l0_3 (Int.tmod (wrap64 (a1 - t160)) a0_2)) (wrap64 (Int.tdiv (wrap64 (Int.tdiv (wrap64 (a2 - t160)) a0_2)) (l0_0.length : Int)))) then (if (rd (rd_L1 l0_3 (Int.tmod (wrap64 (a1 - t160)) a0_2)) (wrap64 (Int.tdiv (wrap64 (Int.tdiv (wrap64 (a2 - t160)) a0_2)) (l0_0.length : Int)))) < ((rd_L1 l0_0 (Int.tmod (wrap64 (Int.tdiv (wrap64 (a1 - t160)) a0_2)) (l0_0.length : Int))).length : Int) then (if 0 ≤ (rd (rd_L1 l0_0 (Int.tmod (wrap64 (Int.tdiv (wrap64 (a1 - t160)) a0_2)) (l0_0.length : Int))) (rd (rd_L1 l0_3 (Int.tmod (wrap64 (a1 - t160)) a0_2)) (wrap64 (Int.tdiv (wrap64 (Int.tdiv (wrap64 (a2 - t160)) a0_2)) (l0_0.length : Int))))) then (if (rd (rd_L1 l0_0 (Int.tmod (wrap64 (Int.tdiv (wrap64 (a1 - t160)) a0_2)) (l0_0.length : Int))) (rd (rd_L1 l0_3 (Int.tmod (wrap64 (a1 - t160)) a0_2)) (wrap64 (Int.tdiv (wrap64 (Int.tdiv (wrap64 (a2 - t160)) a0_2)) (l0_0.length : Int))))) < (l0_0.length : Int) then (if 0 ≤ (Int.tmod (wrap64 (Int.tdiv (wrap64 (a2 - t160)) a0_2)) (l0_0.length : Int)) then (if (Int.tmod (wrap64 (Int.tdiv (wrap64 (a2 - t160)) a0_2)) (l0_0.length : Int)) < ((rd_L1 l0_0 (rd (rd_L1 l0_0 (Int.tmod (wrap64 (Int.tdiv (wrap64 (a1 - t160)) a0_2)) (l0_0.length : Int))) (rd (rd_L1 l0_3 (Int.tmod (wrap64 (a1 - t160)) a0_2)) (wrap64 (Int.tdiv (wrap64 (Int.tdiv (wrap64 (a2 - t160)) a0_2)) (l0_0.length : Int)))))).length : Int) then ((rees_number.f l0_0 a0_1 a0_2 l0_3 a0_4 (wrap64 (Int.tdiv (wrap64 (Int.tdiv (wrap64 (a1 - t160)) a0_2)) (l0_0.length : Int))) (rd (rd_L1 l0_0 (rd (rd_L1 l0_0 (Int.tmod (wrap64 (Int.tdiv (wrap64 (a1 - t160)) a0_2)) (l0_0.length : Int))) (rd (rd_L1 l0_3 (Int.tmod (wrap64 (a1 - t160)) a0_2)) (wrap64 (Int.tdiv (wrap64 (Int.tdiv (wrap64 (a2 - t160)) a0_2)) (l0_0.length : Int)))))) (Int.tmod (wrap64 (Int.tdiv (wrap64 (a2 - t160)) a0_2)) (l0_0.length : Int))) (Int.tmod (wrap64 (a2 - t160)) a0_2)).bind fun t167 => (some t167)) else (none)) else (none)) else (none)) else (none)) else (none)) else (none)) else (none)) else (none))) else (none)) else (none)) else (none)) else (none)))) = some r := by rw [if_neg (show ¬ (false = true) by decide)] at H; exact H
    clear H
    have H := H1
    clear H1
    by_cases c12 : a0_2 = 0
    ·rw [if_pos c12] at H
     exact absurd H (by simp)
    ·rw [if_neg c12] at H
     have c12b0 : (a0_2 == 0) = false := beq_eq_false_iff_ne.mpr c12
     have c12b1 : (a0_2 != 0) = true := bne_iff_ne.mpr c12
     by_cases c13 : (l0_0.length : Int) = 0
     ·rw [if_pos c13] at H
      exact absurd H (by simp)
     ·rw [if_neg c13] at H
      have c13b0 : ((l0_0.length : Int) == 0) = false := beq_eq_false_iff_ne.mpr c13
      have c13b1 : ((l0_0.length : Int) != 0) = true := bne_iff_ne.mpr c13
      have c13b2 : ¬ (l0_0 = []) := fun h_ => c13 (by rw [h_]; rfl)
      obtain ⟨ji14, hji14⟩ : ∃ j_ : Int, (Int.tmod (wrap64 (a1 - t160)) a0_2) = j_ := ⟨_, rfl⟩
      replace H : (if 0 ≤ (ji14) then (if (ji14) < (l0_3.length : Int) then (if 0 ≤ (wrap64 (Int.tdiv (wrap64 (Int.tdiv (wrap64 (a2 - t160)) a0_2)) (l0_0.length : Int))) then (if (wrap64 (Int.tdiv (wrap64 (Int.tdiv (wrap64 (a2 - t160)) a0_2)) (l0_0.length : Int))) < ((rd_L1 l0_3 (ji14)).length : Int) then (if (rd (rd_L1 l0_3 (ji14)) (wrap64 (Int.tdiv (wrap64 (Int.tdiv (wrap64 (a2 - t160)) a0_2)) (l0_0.length : Int)))) < 0 then (some 0) else (if 0 ≤ (Int.tmod (wrap64 (Int.tdiv (wrap64 (a1 - t160)) a0_2)) (l0_0.length : Int)) then (if (Int.tmod (wrap64 (Int.tdiv (wrap64 (a1 - t160)) a0_2)) (l0_0.length : Int)) < (l0_0.length : Int) then (if 0 ≤ (rd (rd_L1 l0_3 (ji14)) (wrap64 (Int.tdiv (wrap64 (Int.tdiv (wrap64 (a2 - t160)) a0_2)) (l0_0.length : Int)))) then (if (rd (rd_L1 l0_3 (ji14)) (wrap64 (Int.tdiv (wrap64 (Int.tdiv (wrap64 (a2 - t160)) a0_2)) (l0_0.length : Int)))) < ((rd_L1 l0_0 (Int.tmod (wrap64 (Int.tdiv (wrap64 (a1 - t160)) a0_2)) (l0_0.length : Int))).length : Int) then (if 0 ≤ (rd (rd_L1 l0_0 (Int.tmod (wrap64 (Int.tdiv (wrap64 (a1 - t160)) a0_2)) (l0_0.length : Int))) (rd (rd_L1 l0_3 (ji14)) (wrap64 (Int.tdiv (wrap64 (Int.tdiv (wrap64 (a2 - t160)) a0_2)) (l0_0.length : Int))))) then (if (rd (rd_L1 l0_0 (Int.tmod (wrap64 (Int.tdiv (wrap64 (a1 - t160)) a0_2)) (l0_0.length : Int))) (rd (rd_L1 l0_3 (ji14)) (wrap64 (Int.tdiv (wrap64 (Int.tdiv (wrap64 (a2 - t160)) a0_2)) (l0_0.length : Int))))) < (l0_0.length : Int) then (if 0 ≤ (Int.tmod (wrap64 (Int.tdiv (wrap64 (a2 - t160)) a0_2)) (l0_0.length : Int)) then (if (Int.tmod (wrap64 (Int.tdiv (wrap64 (a2 - t160)) a0_2)) (l0_0.length : Int)) < ((rd_L1 l0_0 (rd (rd_L1 l0_0 (Int.tmod (wrap64 (Int.tdiv (wrap64 (a1 - t160)) a0_2)) (l0_0.length : Int))) (rd (rd_L1 l0_3 (ji14)) (wrap64 (Int.tdiv (wrap64 (Int.tdiv (wrap64 (a2 - t160)) a0_2)) (l0_0.length : Int)))))).length : Int) then ((rees_number.f l0_0 a0_1 a0_2 l0_3 a0_4 (wrap64 (Int.tdiv (wrap64 (Int.tdiv (wrap64 (a1 - t160)) a0_2)) (l0_0.length : Int))) (rd (rd_L1 l0_0 (rd (rd_L1 l0_0 (Int.tmod (wrap64 (Int.tdiv (wrap64 (a1 - t160)) a0_2)) (l0_0.length : Int))) (rd (rd_L1 l0_3 (ji14)) (wrap64 (Int.tdiv (wrap64 (Int.tdiv (wrap64 (a2 - t160)) a0_2)) (l0_0.length : Int)))))) (Int.tmod (wrap64 (Int.tdiv (wrap64 (a2 - t160)) a0_2)) (l0_0.length : Int))) (Int.tmod (wrap64 (a2 - t160)) a0_2)).bind fun t167 => (some t167)) else (none)) else (none)) else (none)) else (none)) else (none)) else (none)) else (none)) else (none))) else (none)) else (none)) else (none)) else (none)) = some r := by first | (rw [hji14] at H; exact H) | (simp only [hji14] at H ⊢; exact H)
      by_cases c15 : 0 ≤ (ji14)
      ·rw [if_pos c15] at H
       have c15b0 : decide (0 ≤ (ji14)) = true := decide_eq_true c15
       clear c15
       by_cases c16 : (ji14) < (l0_3.length : Int)
       ·rw [if_pos c16] at H
        have c16b0 : decide ((ji14) < (l0_3.length : Int)) = true := decide_eq_true c16
        clear c16
        obtain ⟨ji17, hji17⟩ : ∃ j_ : Int, (wrap64 (Int.tdiv (wrap64 (Int.tdiv (wrap64 (a2 - t160)) a0_2)) (l0_0.length : Int))) = j_ := ⟨_, rfl⟩
        replace H : (if 0 ≤ (ji17) then (if (ji17) < ((rd_L1 l0_3 (ji14)).length : Int) then (if (rd (rd_L1 l0_3 (ji14)) (ji17)) < 0 then (some 0) else (if 0 ≤ (Int.tmod (wrap64 (Int.tdiv (wrap64 (a1 - t160)) a0_2)) (l0_0.length : Int)) then (if (Int.tmod (wrap64 (Int.tdiv (wrap64 (a1 - t160)) a0_2)) (l0_0.length : Int)) < (l0_0.length : Int) then (if 0 ≤ (rd (rd_L1 l0_3 (ji14)) (ji17)) then (if (rd (rd_L1 l0_3 (ji14)) (ji17)) < ((rd_L1 l0_0 (Int.tmod (wrap64 (Int.tdiv (wrap64 (a1 - t160)) a0_2)) (l0_0.length : Int))).length : Int) then (if 0 ≤ (rd (rd_L1 l0_0 (Int.tmod (wrap64 (Int.tdiv (wrap64 (a1 - t160)) a0_2)) (l0_0.length : Int))) (rd (rd_L1 l0_3 (ji14)) (ji17))) then (if (rd (rd_L1 l0_0 (Int.tmod (wrap64 (Int.tdiv (wrap64 (a1 - t160)) a0_2)) (l0_0.length : Int))) (rd (rd_L1 l0_3 (ji14)) (ji17))) < (l0_0.length : Int) then (if 0 ≤ (Int.tmod (wrap64 (Int.tdiv (wrap64 (a2 - t160)) a0_2)) (l0_0.length : Int)) then (if (Int.tmod (wrap64 (Int.tdiv (wrap64 (a2 - t160)) a0_2)) (l0_0.length : Int)) < ((rd_L1 l0_0 (rd (rd_L1 l0_0 (Int.tmod (wrap64 (Int.tdiv (wrap64 (a1 - t160)) a0_2)) (l0_0.length : Int))) (rd (rd_L1 l0_3 (ji14)) (ji17)))).length : Int) then ((rees_number.f l0_0 a0_1 a0_2 l0_3 a0_4 (wrap64 (Int.tdiv (wrap64 (Int.tdiv (wrap64 (a1 - t160)) a0_2)) (l0_0.length : Int))) (rd (rd_L1 l0_0 (rd (rd_L1 l0_0 (Int.tmod (wrap64 (Int.tdiv (wrap64 (a1 - t160)) a0_2)) (l0_0.length : Int))) (rd (rd_L1 l0_3 (ji14)) (ji17)))) (Int.tmod (wrap64 (Int.tdiv (wrap64 (a2 - t160)) a0_2)) (l0_0.length : Int))) (Int.tmod (wrap64 (a2 - t160)) a0_2)).bind fun t167 => (some t167)) else (none)) else (none)) else (none)) else (none)) else (none)) else (none)) else (none)) else (none))) else (none)) else (none)) = some r := by first | (rw [hji17] at H; exact H) | (simp only [hji17] at H ⊢; exact H)
        have hji17w : (IntKind.i64.wrap (Int.tdiv (wrap64 (Int.tdiv (wrap64 (a2 - t160)) a0_2)) (l0_0.length : Int))) = ji17 := (i64_w _).trans hji17
        by_cases c18 : 0 ≤ (ji17)
        ·rw [if_pos c18] at H
         have c18b0 : decide (0 ≤ (ji17)) = true := decide_eq_true c18
         clear c18
         by_cases c19 : (ji17) < ((rd_L1 l0_3 (ji14)).length : Int)
         ·rw [if_pos c19] at H
          have c19b0 : decide ((ji17) < ((rd_L1 l0_3 (ji14)).length : Int)) = true := decide_eq_true c19
          clear c19
          by_cases c20 : (rd (rd_L1 l0_3 (ji14)) (ji17)) < 0
          ·rw [if_pos c20] at H
           have c20b0 : decide ((rd (rd_L1 l0_3 (ji14)) (ji17)) < 0) = true := decide_eq_true c20
           clear c20
           obtain rfl := Option.some.inj H
           try go_wp2
           have n0_ := Aside0.mk (blk_drew BK159.out)
           have n1_ := Aside0.mk (below_drew1 HB.out)
           clear HB BK159
           have BK159 := n0_
           have HB := n1_
           clear n0_ n1_
           refine start_ (n := 10) (S := fun w' => w'.cell? ⟨gb159, 0, none⟩ = some (.slice A0_0 l0_0.length c0_0) ∧ w'.cell? ⟨gb159, 1, none⟩ = some (.int .i64 a0_1) ∧ w'.cell? ⟨gb159, 2, none⟩ = some (.int .i64 a0_2) ∧ w'.cell? ⟨gb159, 3, none⟩ = some (.slice A0_3 l0_3.length c0_3) ∧ w'.cell? ⟨gb159, 4, none⟩ = some (.bool a0_4)) (ds := []) #[false, false, false, false, false, false, false, false, false, false] (by kernel_rfl) rfl rfl ⟨(blk_cell BK159.out 0).trans rfl, (blk_cell BK159.out 1).trans rfl, (blk_cell BK159.out 2).trans rfl, (blk_cell BK159.out 3).trans rfl, (blk_cell BK159.out 4).trans rfl⟩ (fun hHeld => ?_); refine with_tabW rees_mul.tab5 rees_mul.bits5 (fun HT_ HW_ => ?_)
           generalize wc.drew = w21 at BK159 HB hHeld ⊢
           refine pure_ (i := 0) (N := some 33) (v := ?_) (a' := ?_) #[true, false, false, false, false, false, false, false, false, false] rfl rfl q_ho q_id (Or.inl ⟨by rfl, ?_⟩) ?_ ?_
           rotate_left
           ·intro w'
            go_simp
            with_reducible rfl
           rotate_left
           ·q_si
            rfl
           refine pure_ (i := 1) (N := some 34) (v := ?_) (a' := ?_) #[true, true, false, false, false, false, false, false, false, false] rfl rfl q_ho q_id (Or.inl ⟨by rfl, ?_⟩) ?_ ?_
           rotate_left
           ·intro w'
            go_simp
            with_reducible rfl
           rotate_left
           ·q_si
            rfl
           refine pure_ (i := 4) (N := some 37) (v := ?_) (a' := ?_) #[true, true, false, false, true, false, false, false, false, false] rfl rfl q_ho q_id (Or.inl ⟨by rfl, ?_⟩) ?_ ?_
           rotate_left
           ·intro w'
            go_simp
            with_reducible rfl
           rotate_left
           ·q_si
            rfl
           refine pure_ (i := 5) (N := some 38) (v := ?_) (a' := ?_) #[true, true, false, false, true, true, false, false, false, false] rfl rfl q_ho q_id (Or.inl ⟨by rfl, ?_⟩) ?_ ?_
           rotate_left
           ·intro w'
            go_simp
            with_reducible rfl
           rotate_left
           ·q_si
            rfl
           refine take_ (i := 2) (N := some 35) (v := ?_) (a' := ?_) #[true, true, true, false, true, true, false, false, false, false] rfl rfl q_to q_id (Or.inl ⟨by rfl, ?_⟩) hHeld ?_ ?_
           rotate_left
           ·rintro w' ⟨s0, s1, s2, s3, s4⟩
            go_simp
            with_reducible rfl
           rotate_left
           ·q_si
            rfl
           refine pure_ (i := 3) (N := some 36) (v := ?_) (a' := ?_) #[true, true, true, true, true, true, false, false, false, false] rfl rfl q_ho q_id (Or.inl ⟨by rfl, ?_⟩) ?_ ?_
           rotate_left
           ·intro w'
            go_simp
            with_reducible rfl
           rotate_left
           ·q_si
            rfl
           refine pure_ (i := 8) (N := some 8) (v := ?_) (a' := ?_) #[true, true, true, true, true, true, false, false, true, false] rfl rfl q_ho q_id (Or.inl ⟨by rfl, ?_⟩) ?_ ?_
           rotate_left
           ·intro w'
            go_simp
            with_reducible rfl
           rotate_left
           ·q_si
            rfl
           refine take_ (i := 6) (N := some 39) (v := ?_) (a' := ?_) #[true, true, true, true, true, true, true, false, true, false] rfl rfl q_to q_id (Or.inl ⟨by rfl, ?_⟩) hHeld ?_ ?_
           rotate_left
           ·rintro w' ⟨s0, s1, s2, s3, s4⟩
            go_simp
            with_reducible rfl
           rotate_left
           ·q_si
            rfl
           refine pure_ (i := 7) (N := some 40) (v := ?_) (a' := ?_) #[true, true, true, true, true, true, true, true, true, false] rfl rfl q_ho q_id (Or.inl ⟨by rfl, ?_⟩) ?_ ?_
           rotate_left
           ·intro w'
            go_simp
            with_reducible rfl
           rotate_left
           ·q_si
            rfl
           refine pure_ (i := 9) (N := some 9) (v := ?_) (a' := ?_) #[true, true, true, true, true, true, true, true, true, true] rfl rfl q_ho q_id (Or.inl ⟨by rfl, ?_⟩) ?_ ?_
           rotate_left
           ·intro w'
            go_simp
            with_reducible rfl
           rotate_left
           ·q_si
            rfl
           refine done_ (done_of HT_.out (by kernel_rfl)) ?_
           try go_wp2
           have n0_ := Aside0.mk (blk_drew BK159.out)
           have n1_ := Aside0.mk (below_drew1 HB.out)
           clear HB BK159
           have BK159 := n0_
           have HB := n1_
           clear n0_ n1_
           refine start_ (n := 18) (S := fun w' => w'.cell? ⟨gb159, 0, none⟩ = some (.slice A0_0 l0_0.length c0_0) ∧ w'.cell? ⟨gb159, 1, none⟩ = some (.int .i64 a0_1) ∧ w'.cell? ⟨gb159, 2, none⟩ = some (.int .i64 a0_2) ∧ w'.cell? ⟨gb159, 3, none⟩ = some (.slice A0_3 l0_3.length c0_3) ∧ w'.cell? ⟨gb159, 4, none⟩ = some (.bool a0_4)) (ds := []) #[false, false, false, false, false, false, false, false, false, false, false, false, false, false, false, false, false, false] (by kernel_rfl) rfl rfl ⟨(blk_cell BK159.out 0).trans rfl, (blk_cell BK159.out 1).trans rfl, (blk_cell BK159.out 2).trans rfl, (blk_cell BK159.out 3).trans rfl, (blk_cell BK159.out 4).trans rfl⟩ (fun hHeld => ?_); refine with_tabW rees_mul.tab6 rees_mul.bits6 (fun HT_ HW_ => ?_)
           generalize w21.drew = w22 at BK159 HB hHeld ⊢
           refine pure_ (i := 0) (N := some 41) (v := ?_) (a' := ?_) #[true, false, false, false, false, false, false, false, false, false, false, false, false, false, false, false, false, false] rfl rfl q_ho q_id (Or.inl ⟨by rfl, ?_⟩) ?_ ?_
           rotate_left
           ·intro w'
            go_simp
            with_reducible rfl
           rotate_left
           ·q_si
            rfl
           refine pure_ (i := 1) (N := some 42) (v := ?_) (a' := ?_) #[true, true, false, false, false, false, false, false, false, false, false, false, false, false, false, false, false, false] rfl rfl q_ho q_id (Or.inl ⟨by rfl, ?_⟩) ?_ ?_
           rotate_left
           ·intro w'
            go_simp
            with_reducible rfl
           rotate_left
           ·q_si
            rfl
           refine pure_ (i := 4) (N := some 45) (v := ?_) (a' := ?_) #[true, true, false, false, true, false, false, false, false, false, false, false, false, false, false, false, false, false] rfl rfl q_ho q_id (Or.inl ⟨by rfl, ?_⟩) ?_ ?_
           rotate_left
           ·intro w'
            go_simp
            with_reducible rfl
           rotate_left
           ·q_si
            rfl
           refine pure_ (i := 8) (N := some 49) (v := ?_) (a' := ?_) #[true, true, false, false, true, false, false, false, true, false, false, false, false, false, false, false, false, false] rfl rfl q_ho q_id (Or.inl ⟨by rfl, ?_⟩) ?_ ?_
           rotate_left
           ·intro w'
            go_simp
            with_reducible rfl
           rotate_left
           ·q_si
            rfl
           refine pure_ (i := 9) (N := some 50) (v := ?_) (a' := ?_) #[true, true, false, false, true, false, false, false, true, true, false, false, false, false, false, false, false, false] rfl rfl q_ho q_id (Or.inl ⟨by rfl, ?_⟩) ?_ ?_
           rotate_left
           ·intro w'
            go_simp
            with_reducible rfl
           rotate_left
           ·q_si
            rfl
           refine pure_ (i := 12) (N := some 53) (v := ?_) (a' := ?_) #[true, true, false, false, true, false, false, false, true, true, false, false, true, false, false, false, false, false] rfl rfl q_ho q_id (Or.inl ⟨by rfl, ?_⟩) ?_ ?_
           rotate_left
           ·intro w'
            go_simp
            with_reducible rfl
           rotate_left
           ·q_si
            rfl
           refine take_ (i := 2) (N := some 43) (v := ?_) (a' := ?_) #[true, true, true, false, true, false, false, false, true, true, false, false, true, false, false, false, false, false] rfl rfl q_to q_id (Or.inl ⟨by rfl, ?_⟩) hHeld ?_ ?_
           rotate_left
           ·rintro w' ⟨s0, s1, s2, s3, s4⟩
            go_simp
            with_reducible rfl
           rotate_left
           ·q_si
            rfl
           refine pure_ (i := 3) (N := some 44) (v := ?_) (a' := ?_) #[true, true, true, true, true, false, false, false, true, true, false, false, true, false, false, false, false, false] rfl rfl q_ho q_id (Or.inl ⟨by rfl, ?_⟩) ?_ ?_
           rotate_left
           ·intro w'
            go_simp
            with_reducible rfl
           rotate_left
           ·q_si
            rfl
           refine take_ (i := 5) (N := some 46) (v := ?_) (a' := ?_) #[true, true, true, true, true, true, false, false, true, true, false, false, true, false, false, false, false, false] rfl rfl q_to q_id (Or.inl ⟨by rfl, ?_⟩) hHeld ?_ ?_
           rotate_left
           ·rintro w' ⟨s0, s1, s2, s3, s4⟩
            go_simp
            with_reducible rfl
           rotate_left
           ·q_si
            rfl
           refine pure_ (i := 6) (N := some 47) (v := ?_) (a' := ?_) #[true, true, true, true, true, true, true, false, true, true, false, false, true, false, false, false, false, false] rfl rfl q_ho q_id (Or.inl ⟨by rfl, ?_⟩) ?_ ?_
           rotate_left
           ·intro w'
            go_simp
            with_reducible rfl
           rotate_left
           ·q_si
            rfl
           refine pure_ (i := 7) (N := some 48) (v := ?_) (a' := ?_) #[true, true, true, true, true, true, true, true, true, true, false, false, true, false, false, false, false, false] rfl rfl q_ho q_id (Or.inl ⟨by rfl, ?_⟩) ?_ ?_
           rotate_left
           ·intro w'
            go_simp
            with_reducible rfl
           rotate_left
           ·q_si
            rfl
           refine pure_ (i := 16) (N := some 10) (v := ?_) (a' := ?_) #[true, true, true, true, true, true, true, true, true, true, false, false, true, false, false, false, true, false] rfl rfl q_ho q_id (Or.inl ⟨by rfl, ?_⟩) ?_ ?_
           rotate_left
           ·intro w'
            go_simp
            with_reducible rfl
           rotate_left
           ·q_si
            rfl
           refine take_ (i := 10) (N := some 51) (v := ?_) (a' := ?_) #[true, true, true, true, true, true, true, true, true, true, true, false, true, false, false, false, true, false] rfl rfl q_to q_id (Or.inl ⟨by rfl, ?_⟩) hHeld ?_ ?_
           rotate_left
           ·rintro w' ⟨s0, s1, s2, s3, s4⟩
            go_simp
            with_reducible rfl
           rotate_left
           ·q_si
            rfl
           refine pure_ (i := 11) (N := some 52) (v := ?_) (a' := ?_) #[true, true, true, true, true, true, true, true, true, true, true, true, true, false, false, false, true, false] rfl rfl q_ho q_id (Or.inl ⟨by rfl, ?_⟩) ?_ ?_
           rotate_left
           ·intro w'
            go_simp
            with_reducible rfl
           rotate_left
           ·q_si
            rfl
           refine take_ (i := 13) (N := some 54) (v := ?_) (a' := ?_) #[true, true, true, true, true, true, true, true, true, true, true, true, true, true, false, false, true, false] rfl rfl q_to q_id (Or.inl ⟨by rfl, ?_⟩) hHeld ?_ ?_
           rotate_left
           ·rintro w' ⟨s0, s1, s2, s3, s4⟩
            go_simp
            with_reducible rfl
           rotate_left
           ·q_si
            rfl
           refine pure_ (i := 14) (N := some 55) (v := ?_) (a' := ?_) #[true, true, true, true, true, true, true, true, true, true, true, true, true, true, true, false, true, false] rfl rfl q_ho q_id (Or.inl ⟨by rfl, ?_⟩) ?_ ?_
           rotate_left
           ·intro w'
            go_simp
            with_reducible rfl
           rotate_left
           ·q_si
            rfl
           refine pure_ (i := 15) (N := some 56) (v := ?_) (a' := ?_) #[true, true, true, true, true, true, true, true, true, true, true, true, true, true, true, true, true, false] rfl rfl q_ho q_id (Or.inl ⟨by rfl, ?_⟩) ?_ ?_
           rotate_left
           ·intro w'
            go_simp
            with_reducible rfl
           rotate_left
           ·q_si
            rfl
           refine pure_ (i := 17) (N := some 11) (v := ?_) (a' := ?_) #[true, true, true, true, true, true, true, true, true, true, true, true, true, true, true, true, true, true] rfl rfl q_ho q_id (Or.inl ⟨by rfl, ?_⟩) ?_ ?_
           rotate_left
           ·intro w'
            go_simp
            with_reducible rfl
           rotate_left
           ·q_si
            rfl
           refine done_ (done_of HT_.out (by kernel_rfl)) ?_
           try go_wp2
           have n0_ := Aside0.mk (blk_drew BK159.out)
           have n1_ := Aside0.mk (below_drew1 HB.out)
           clear HB BK159
           have BK159 := n0_
           have HB := n1_
           clear n0_ n1_
           refine start_ (n := 18) (S := fun w' => w'.cell? ⟨gb159, 0, none⟩ = some (.slice A0_0 l0_0.length c0_0) ∧ w'.cell? ⟨gb159, 1, none⟩ = some (.int .i64 a0_1) ∧ w'.cell? ⟨gb159, 2, none⟩ = some (.int .i64 a0_2) ∧ w'.cell? ⟨gb159, 3, none⟩ = some (.slice A0_3 l0_3.length c0_3) ∧ w'.cell? ⟨gb159, 4, none⟩ = some (.bool a0_4)) (ds := []) #[false, false, false, false, false, false, false, false, false, false, false, false, false, false, false, false, false, false] (by kernel_rfl) rfl rfl ⟨(blk_cell BK159.out 0).trans rfl, (blk_cell BK159.out 1).trans rfl, (blk_cell BK159.out 2).trans rfl, (blk_cell BK159.out 3).trans rfl, (blk_cell BK159.out 4).trans rfl⟩ (fun hHeld => ?_); refine with_tabW rees_mul.tab7 rees_mul.bits7 (fun HT_ HW_ => ?_)
           generalize w22.drew = w23 at BK159 HB hHeld ⊢
           refine pure_ (i := 0) (N := some 57) (v := ?_) (a' := ?_) #[true, false, false, false, false, false, false, false, false, false, false, false, false, false, false, false, false, false] rfl rfl q_ho q_id (Or.inl ⟨by rfl, ?_⟩) ?_ ?_
           rotate_left
           ·intro w'
            go_simp
            with_reducible rfl
           rotate_left
           ·q_si
            rfl
           refine pure_ (i := 1) (N := some 58) (v := ?_) (a' := ?_) #[true, true, false, false, false, false, false, false, false, false, false, false, false, false, false, false, false, false] rfl rfl q_ho q_id (Or.inl ⟨by rfl, ?_⟩) ?_ ?_
           rotate_left
           ·intro w'
            go_simp
            with_reducible rfl
           rotate_left
           ·q_si
            rfl
           refine pure_ (i := 4) (N := some 61) (v := ?_) (a' := ?_) #[true, true, false, false, true, false, false, false, false, false, false, false, false, false, false, false, false, false] rfl rfl q_ho q_id (Or.inl ⟨by rfl, ?_⟩) ?_ ?_
           rotate_left
           ·intro w'
            go_simp
            with_reducible rfl
           rotate_left
           ·q_si
            rfl
           refine pure_ (i := 8) (N := some 65) (v := ?_) (a' := ?_) #[true, true, false, false, true, false, false, false, true, false, false, false, false, false, false, false, false, false] rfl rfl q_ho q_id (Or.inl ⟨by rfl, ?_⟩) ?_ ?_
           rotate_left
           ·intro w'
            go_simp
            with_reducible rfl
           rotate_left
           ·q_si
            rfl
           refine pure_ (i := 9) (N := some 66) (v := ?_) (a' := ?_) #[true, true, false, false, true, false, false, false, true, true, false, false, false, false, false, false, false, false] rfl rfl q_ho q_id (Or.inl ⟨by rfl, ?_⟩) ?_ ?_
           rotate_left
           ·intro w'
            go_simp
            with_reducible rfl
           rotate_left
           ·q_si
            rfl
           refine pure_ (i := 12) (N := some 69) (v := ?_) (a' := ?_) #[true, true, false, false, true, false, false, false, true, true, false, false, true, false, false, false, false, false] rfl rfl q_ho q_id (Or.inl ⟨by rfl, ?_⟩) ?_ ?_
           rotate_left
           ·intro w'
            go_simp
            with_reducible rfl
           rotate_left
           ·q_si
            rfl
           refine take_ (i := 2) (N := some 59) (v := ?_) (a' := ?_) #[true, true, true, false, true, false, false, false, true, true, false, false, true, false, false, false, false, false] rfl rfl q_to q_id (Or.inl ⟨by rfl, ?_⟩) hHeld ?_ ?_
           rotate_left
           ·rintro w' ⟨s0, s1, s2, s3, s4⟩
            go_simp
            with_reducible rfl
           rotate_left
           ·q_si
            rfl
           refine pure_ (i := 3) (N := some 60) (v := ?_) (a' := ?_) #[true, true, true, true, true, false, false, false, true, true, false, false, true, false, false, false, false, false] rfl rfl q_ho q_id (Or.inl ⟨by rfl, ?_⟩) ?_ ?_
           rotate_left
           ·intro w'
            go_simp
            with_reducible rfl
           rotate_left
           ·q_si
            rfl
           refine take_ (i := 5) (N := some 62) (v := ?_) (a' := ?_) #[true, true, true, true, true, true, false, false, true, true, false, false, true, false, false, false, false, false] rfl rfl q_to q_id (Or.inl ⟨by rfl, ?_⟩) hHeld ?_ ?_
           rotate_left
           ·rintro w' ⟨s0, s1, s2, s3, s4⟩
            go_simp
            with_reducible rfl
           rotate_left
           ·q_si
            rfl
           refine pure_ (i := 6) (N := some 63) (v := ?_) (a' := ?_) #[true, true, true, true, true, true, true, false, true, true, false, false, true, false, false, false, false, false] rfl rfl q_ho q_id (Or.inl ⟨by rfl, ?_⟩) ?_ ?_
           rotate_left
           ·intro w'
            go_simp
            with_reducible rfl
           rotate_left
           ·q_si
            rfl
           refine pure_ (i := 7) (N := some 64) (v := ?_) (a' := ?_) #[true, true, true, true, true, true, true, true, true, true, false, false, true, false, false, false, false, false] rfl rfl q_ho q_id (Or.inl ⟨by rfl, ?_⟩) ?_ ?_
           rotate_left
           ·intro w'
            go_simp
            with_reducible rfl
           rotate_left
           ·q_si
            rfl
           refine pure_ (i := 16) (N := some 12) (v := ?_) (a' := ?_) #[true, true, true, true, true, true, true, true, true, true, false, false, true, false, false, false, true, false] rfl rfl q_ho q_id (Or.inl ⟨by rfl, ?_⟩) ?_ ?_
           rotate_left
           ·intro w'
            go_simp
            with_reducible rfl
           rotate_left
           ·q_si
            rfl
           refine take_ (i := 10) (N := some 67) (v := ?_) (a' := ?_) #[true, true, true, true, true, true, true, true, true, true, true, false, true, false, false, false, true, false] rfl rfl q_to q_id (Or.inl ⟨by rfl, ?_⟩) hHeld ?_ ?_
           rotate_left
           ·rintro w' ⟨s0, s1, s2, s3, s4⟩
            go_simp
            with_reducible rfl
           rotate_left
           ·q_si
            rfl
           refine pure_ (i := 11) (N := some 68) (v := ?_) (a' := ?_) #[true, true, true, true, true, true, true, true, true, true, true, true, true, false, false, false, true, false] rfl rfl q_ho q_id (Or.inl ⟨by rfl, ?_⟩) ?_ ?_
           rotate_left
           ·intro w'
            go_simp
            with_reducible rfl
           rotate_left
           ·q_si
            rfl
           refine take_ (i := 13) (N := some 70) (v := ?_) (a' := ?_) #[true, true, true, true, true, true, true, true, true, true, true, true, true, true, false, false, true, false] rfl rfl q_to q_id (Or.inl ⟨by rfl, ?_⟩) hHeld ?_ ?_
           rotate_left
           ·rintro w' ⟨s0, s1, s2, s3, s4⟩
            go_simp
            with_reducible rfl
           rotate_left
           ·q_si
            rfl
           refine pure_ (i := 14) (N := some 71) (v := ?_) (a' := ?_) #[true, true, true, true, true, true, true, true, true, true, true, true, true, true, true, false, true, false] rfl rfl q_ho q_id (Or.inl ⟨by rfl, ?_⟩) ?_ ?_
           rotate_left
           ·intro w'
            go_simp
            with_reducible rfl
           rotate_left
           ·q_si
            rfl
           refine pure_ (i := 15) (N := some 72) (v := ?_) (a' := ?_) #[true, true, true, true, true, true, true, true, true, true, true, true, true, true, true, true, true, false] rfl rfl q_ho q_id (Or.inl ⟨by rfl, ?_⟩) ?_ ?_
           rotate_left
           ·intro w'
            go_simp
            with_reducible rfl
           rotate_left
           ·q_si
            rfl
           refine pure_ (i := 17) (N := some 13) (v := ?_) (a' := ?_) #[true, true, true, true, true, true, true, true, true, true, true, true, true, true, true, true, true, true] rfl rfl q_ho q_id (Or.inl ⟨by rfl, ?_⟩) ?_ ?_
           rotate_left
           ·intro w'
            go_simp
            with_reducible rfl
           rotate_left
           ·q_si
            rfl
           refine done_ (done_of HT_.out (by kernel_rfl)) ?_
           have hcz24_0 : w23.cell? ⟨gb159, 0, none⟩ = some (.slice A0_0 l0_0.length c0_0) := (blk_cell BK159.out 0).trans rfl
           have hcz24_1 : w23.cell? ⟨gb159, 1, none⟩ = some (.int .i64 a0_1) := (blk_cell BK159.out 1).trans rfl
           have hcz24_2 : w23.cell? ⟨gb159, 2, none⟩ = some (.int .i64 a0_2) := (blk_cell BK159.out 2).trans rfl
           have hcz24_3 : w23.cell? ⟨gb159, 3, none⟩ = some (.slice A0_3 l0_3.length c0_3) := (blk_cell BK159.out 3).trans rfl
           have hcz24_4 : w23.cell? ⟨gb159, 4, none⟩ = some (.bool a0_4) := (blk_cell BK159.out 4).trans rfl
           have hfz24_0 := blk_frozen BK159.out 0
           have hfz24_1 := blk_frozen BK159.out 1
           have hfz24_2 := blk_frozen BK159.out 2
           have hfz24_3 := blk_frozen BK159.out 3
           have hfz24_4 := blk_frozen BK159.out 4
           have p161 : 0 ≤ ((ji14) : Int) := of_decide_eq_true q_as
           have q161 : (ji14) < (l0_3.length : Int) := of_decide_eq_true q_as
           obtain ⟨ad161, A161_0, c161_0, e161, hx161_0, hl161_0, hi161_0⟩ := at_L1 HR0_3.out (ji14) p161 q161
           cases e161
           replace hx161_0 := (HB.out.cell (World.block_lt_of_cell? w _ hx161_0)).trans hx161_0
           have HR161_0 := Aside0.mk hi161_0
           have HC161_0 := Aside0.mk hl161_0
           (try clear hi161_0); (try clear hl161_0)
           q_t p161 q161
           have p162 : 0 ≤ ((ji17) : Int) := of_decide_eq_true q_as
           have q162 : (ji17) < ((rd_L1 l0_3 (ji14)).length : Int) := of_decide_eq_true q_as
           obtain ⟨ad162, e162, hx162_0⟩ := Kd.at_int HR161_0.out (ji17) p162 q162
           cases e162
           replace hx162_0 := (HB.out.cell (World.block_lt_of_cell? w _ hx162_0)).trans hx162_0
           q_t p162 q162
           try go_wp2
           go_ret
           exact ⟨by first | rfl | q_em | (simp only [← hji14, ← hji17]; first | rfl | q_em) | q_en, by repeat (first | (with_reducible first | exact HB.out | apply below_alloc | apply pw_below_drewN | apply below_drew1 | refine below_set ?_ GE159.out) | exact HB.out)⟩
          ·rw [if_neg c20] at H
           have c20b0 : decide ((rd (rd_L1 l0_3 (ji14)) (ji17)) < 0) = false := decide_eq_false c20
           clear c20
           obtain ⟨ji25, hji25⟩ : ∃ j_ : Int, (Int.tmod (wrap64 (Int.tdiv (wrap64 (a1 - t160)) a0_2)) (l0_0.length : Int)) = j_ := ⟨_, rfl⟩
           replace H : (if 0 ≤ (ji25) then (if (ji25) < (l0_0.length : Int) then (if 0 ≤ (rd (rd_L1 l0_3 (ji14)) (ji17)) then (if (rd (rd_L1 l0_3 (ji14)) (ji17)) < ((rd_L1 l0_0 (ji25)).length : Int) then (if 0 ≤ (rd (rd_L1 l0_0 (ji25)) (rd (rd_L1 l0_3 (ji14)) (ji17))) then (if (rd (rd_L1 l0_0 (ji25)) (rd (rd_L1 l0_3 (ji14)) (ji17))) < (l0_0.length : Int) then (if 0 ≤ (Int.tmod (wrap64 (Int.tdiv (wrap64 (a2 - t160)) a0_2)) (l0_0.length : Int)) then (if (Int.tmod (wrap64 (Int.tdiv (wrap64 (a2 - t160)) a0_2)) (l0_0.length : Int)) < ((rd_L1 l0_0 (rd (rd_L1 l0_0 (ji25)) (rd (rd_L1 l0_3 (ji14)) (ji17)))).length : Int) then ((rees_number.f l0_0 a0_1 a0_2 l0_3 a0_4 (wrap64 (Int.tdiv (wrap64 (Int.tdiv (wrap64 (a1 - t160)) a0_2)) (l0_0.length : Int))) (rd (rd_L1 l0_0 (rd (rd_L1 l0_0 (ji25)) (rd (rd_L1 l0_3 (ji14)) (ji17)))) (Int.tmod (wrap64 (Int.tdiv (wrap64 (a2 - t160)) a0_2)) (l0_0.length : Int))) (Int.tmod (wrap64 (a2 - t160)) a0_2)).bind fun t167 => (some t167)) else (none)) else (none)) else (none)) else (none)) else (none)) else (none)) else (none)) else (none)) = some r := by first | (rw [hji25] at H; exact H) | (simp only [hji25] at H ⊢; exact H)
           by_cases c26 : 0 ≤ (ji25)
           ·rw [if_pos c26] at H
            have c26b0 : decide (0 ≤ (ji25)) = true := decide_eq_true c26
            clear c26
            by_cases c27 : (ji25) < (l0_0.length : Int)
            ·rw [if_pos c27] at H
             have c27b0 : decide ((ji25) < (l0_0.length : Int)) = true := decide_eq_true c27
             clear c27
             by_cases c28 : 0 ≤ (rd (rd_L1 l0_3 (ji14)) (ji17))
             ·rw [if_pos c28] at H
              have c28b0 : decide (0 ≤ (rd (rd_L1 l0_3 (ji14)) (ji17))) = true := decide_eq_true c28
              clear c28
              by_cases c29 : (rd (rd_L1 l0_3 (ji14)) (ji17)) < ((rd_L1 l0_0 (ji25)).length : Int)
              ·rw [if_pos c29] at H
               have c29b0 : decide ((rd (rd_L1 l0_3 (ji14)) (ji17)) < ((rd_L1 l0_0 (ji25)).length : Int)) = true := decide_eq_true c29
               clear c29
               by_cases c30 : 0 ≤ (rd (rd_L1 l0_0 (ji25)) (rd (rd_L1 l0_3 (ji14)) (ji17)))
               ·rw [if_pos c30] at H
                have c30b0 : decide (0 ≤ (rd (rd_L1 l0_0 (ji25)) (rd (rd_L1 l0_3 (ji14)) (ji17)))) = true := decide_eq_true c30
                clear c30
                by_cases c31 : (rd (rd_L1 l0_0 (ji25)) (rd (rd_L1 l0_3 (ji14)) (ji17))) < (l0_0.length : Int)
                ·rw [if_pos c31] at H
                 have c31b0 : decide ((rd (rd_L1 l0_0 (ji25)) (rd (rd_L1 l0_3 (ji14)) (ji17))) < (l0_0.length : Int)) = true := decide_eq_true c31
                 clear c31
                 obtain ⟨ji32, hji32⟩ : ∃ j_ : Int, (Int.tmod (wrap64 (Int.tdiv (wrap64 (a2 - t160)) a0_2)) (l0_0.length : Int)) = j_ := ⟨_, rfl⟩
                 replace H : (if 0 ≤ (ji32) then (if (ji32) < ((rd_L1 l0_0 (rd (rd_L1 l0_0 (ji25)) (rd (rd_L1 l0_3 (ji14)) (ji17)))).length : Int) then ((rees_number.f l0_0 a0_1 a0_2 l0_3 a0_4 (wrap64 (Int.tdiv (wrap64 (Int.tdiv (wrap64 (a1 - t160)) a0_2)) (l0_0.length : Int))) (rd (rd_L1 l0_0 (rd (rd_L1 l0_0 (ji25)) (rd (rd_L1 l0_3 (ji14)) (ji17)))) (ji32)) (Int.tmod (wrap64 (a2 - t160)) a0_2)).bind fun t167 => (some t167)) else (none)) else (none)) = some r := by first | (rw [hji32] at H; exact H) | (simp only [hji32] at H ⊢; exact H)
                 by_cases c33 : 0 ≤ (ji32)
                 ·rw [if_pos c33] at H
                  have c33b0 : decide (0 ≤ (ji32)) = true := decide_eq_true c33
                  clear c33
                  by_cases c34 : (ji32) < ((rd_L1 l0_0 (rd (rd_L1 l0_0 (ji25)) (rd (rd_L1 l0_3 (ji14)) (ji17)))).length : Int)
                  ·rw [if_pos c34] at H
                   have c34b0 : decide ((ji32) < ((rd_L1 l0_0 (rd (rd_L1 l0_0 (ji25)) (rd (rd_L1 l0_3 (ji14)) (ji17)))).length : Int)) = true := decide_eq_true c34
                   clear c34
                   replace H := Option.bind_eq_some_iff.mp H
                   obtain ⟨t167, A350, H⟩ := H
                   replace H : (some t167) = some r := H
                   have A35 := Aside0.mk A350
                   clear A350
                   obtain rfl := Option.some.inj H
                   try go_wp2
                   have n0_ := Aside0.mk (blk_drew BK159.out)
                   have n1_ := Aside0.mk (below_drew1 HB.out)
                   clear HB BK159
                   have BK159 := n0_
                   have HB := n1_
                   clear n0_ n1_
                   refine start_ (n := 10) (S := fun w' => w'.cell? ⟨gb159, 0, none⟩ = some (.slice A0_0 l0_0.length c0_0) ∧ w'.cell? ⟨gb159, 1, none⟩ = some (.int .i64 a0_1) ∧ w'.cell? ⟨gb159, 2, none⟩ = some (.int .i64 a0_2) ∧ w'.cell? ⟨gb159, 3, none⟩ = some (.slice A0_3 l0_3.length c0_3) ∧ w'.cell? ⟨gb159, 4, none⟩ = some (.bool a0_4)) (ds := []) #[false, false, false, false, false, false, false, false, false, false] (by kernel_rfl) rfl rfl ⟨(blk_cell BK159.out 0).trans rfl, (blk_cell BK159.out 1).trans rfl, (blk_cell BK159.out 2).trans rfl, (blk_cell BK159.out 3).trans rfl, (blk_cell BK159.out 4).trans rfl⟩ (fun hHeld => ?_); refine with_tabW rees_mul.tab5 rees_mul.bits5 (fun HT_ HW_ => ?_)
                   generalize wc.drew = w36 at BK159 HB hHeld ⊢
                   refine pure_ (i := 0) (N := some 33) (v := ?_) (a' := ?_) #[true, false, false, false, false, false, false, false, false, false] rfl rfl q_ho q_id (Or.inl ⟨by rfl, ?_⟩) ?_ ?_
                   rotate_left
                   ·intro w'
                    go_simp
                    with_reducible rfl
                   rotate_left
                   ·q_si
                    rfl
                   refine pure_ (i := 1) (N := some 34) (v := ?_) (a' := ?_) #[true, true, false, false, false, false, false, false, false, false] rfl rfl q_ho q_id (Or.inl ⟨by rfl, ?_⟩) ?_ ?_
                   rotate_left
                   ·intro w'
                    go_simp
                    with_reducible rfl
                   rotate_left
                   ·q_si
                    rfl
                   refine pure_ (i := 4) (N := some 37) (v := ?_) (a' := ?_) #[true, true, false, false, true, false, false, false, false, false] rfl rfl q_ho q_id (Or.inl ⟨by rfl, ?_⟩) ?_ ?_
                   rotate_left
                   ·intro w'
                    go_simp
                    with_reducible rfl
                   rotate_left
                   ·q_si
                    rfl
                   refine pure_ (i := 5) (N := some 38) (v := ?_) (a' := ?_) #[true, true, false, false, true, true, false, false, false, false] rfl rfl q_ho q_id (Or.inl ⟨by rfl, ?_⟩) ?_ ?_
                   rotate_left
                   ·intro w'
                    go_simp
                    with_reducible rfl
                   rotate_left
                   ·q_si
                    rfl
                   refine take_ (i := 2) (N := some 35) (v := ?_) (a' := ?_) #[true, true, true, false, true, true, false, false, false, false] rfl rfl q_to q_id (Or.inl ⟨by rfl, ?_⟩) hHeld ?_ ?_
                   rotate_left
                   ·rintro w' ⟨s0, s1, s2, s3, s4⟩
                    go_simp
                    with_reducible rfl
                   rotate_left
                   ·q_si
                    rfl
                   refine pure_ (i := 3) (N := some 36) (v := ?_) (a' := ?_) #[true, true, true, true, true, true, false, false, false, false] rfl rfl q_ho q_id (Or.inl ⟨by rfl, ?_⟩) ?_ ?_
                   rotate_left
                   ·intro w'
                    go_simp
                    with_reducible rfl
                   rotate_left
                   ·q_si
                    rfl
                   refine pure_ (i := 8) (N := some 8) (v := ?_) (a' := ?_) #[true, true, true, true, true, true, false, false, true, false] rfl rfl q_ho q_id (Or.inl ⟨by rfl, ?_⟩) ?_ ?_
                   rotate_left
                   ·intro w'
                    go_simp
                    with_reducible rfl
                   rotate_left
                   ·q_si
                    rfl
                   refine take_ (i := 6) (N := some 39) (v := ?_) (a' := ?_) #[true, true, true, true, true, true, true, false, true, false] rfl rfl q_to q_id (Or.inl ⟨by rfl, ?_⟩) hHeld ?_ ?_
                   rotate_left
                   ·rintro w' ⟨s0, s1, s2, s3, s4⟩
                    go_simp
                    with_reducible rfl
                   rotate_left
                   ·q_si
                    rfl
                   refine pure_ (i := 7) (N := some 40) (v := ?_) (a' := ?_) #[true, true, true, true, true, true, true, true, true, false] rfl rfl q_ho q_id (Or.inl ⟨by rfl, ?_⟩) ?_ ?_
                   rotate_left
                   ·intro w'
                    go_simp
                    with_reducible rfl
                   rotate_left
                   ·q_si
                    rfl
                   refine pure_ (i := 9) (N := some 9) (v := ?_) (a' := ?_) #[true, true, true, true, true, true, true, true, true, true] rfl rfl q_ho q_id (Or.inl ⟨by rfl, ?_⟩) ?_ ?_
                   rotate_left
                   ·intro w'
                    go_simp
                    with_reducible rfl
                   rotate_left
                   ·q_si
                    rfl
                   refine done_ (done_of HT_.out (by kernel_rfl)) ?_
                   try go_wp2
                   have n0_ := Aside0.mk (blk_drew BK159.out)
                   have n1_ := Aside0.mk (below_drew1 HB.out)
                   clear HB BK159
                   have BK159 := n0_
                   have HB := n1_
                   clear n0_ n1_
                   refine start_ (n := 18) (S := fun w' => w'.cell? ⟨gb159, 0, none⟩ = some (.slice A0_0 l0_0.length c0_0) ∧ w'.cell? ⟨gb159, 1, none⟩ = some (.int .i64 a0_1) ∧ w'.cell? ⟨gb159, 2, none⟩ = some (.int .i64 a0_2) ∧ w'.cell? ⟨gb159, 3, none⟩ = some (.slice A0_3 l0_3.length c0_3) ∧ w'.cell? ⟨gb159, 4, none⟩ = some (.bool a0_4)) (ds := []) #[false, false, false, false, false, false, false, false, false, false, false, false, false, false, false, false, false, false] (by kernel_rfl) rfl rfl ⟨(blk_cell BK159.out 0).trans rfl, (blk_cell BK159.out 1).trans rfl, (blk_cell BK159.out 2).trans rfl, (blk_cell BK159.out 3).trans rfl, (blk_cell BK159.out 4).trans rfl⟩ (fun hHeld => ?_); refine with_tabW rees_mul.tab6 rees_mul.bits6 (fun HT_ HW_ => ?_)
                   generalize w36.drew = w37 at BK159 HB hHeld ⊢
                   refine pure_ (i := 0) (N := some 41) (v := ?_) (a' := ?_) #[true, false, false, false, false, false, false, false, false, false, false, false, false, false, false, false, false, false] rfl rfl q_ho q_id (Or.inl ⟨by rfl, ?_⟩) ?_ ?_
                   rotate_left
                   ·intro w'
                    go_simp
                    with_reducible rfl
                   rotate_left
                   ·q_si
                    rfl
                   refine pure_ (i := 1) (N := some 42) (v := ?_) (a' := ?_) #[true, true, false, false, false, false, false, false, false, false, false, false, false, false, false, false, false, false] rfl rfl q_ho q_id (Or.inl ⟨by rfl, ?_⟩) ?_ ?_
                   rotate_left
                   ·intro w'
                    go_simp
                    with_reducible rfl
                   rotate_left
                   ·q_si
                    rfl
                   refine pure_ (i := 4) (N := some 45) (v := ?_) (a' := ?_) #[true, true, false, false, true, false, false, false, false, false, false, false, false, false, false, false, false, false] rfl rfl q_ho q_id (Or.inl ⟨by rfl, ?_⟩) ?_ ?_
                   rotate_left
                   ·intro w'
                    go_simp
                    with_reducible rfl
                   rotate_left
                   ·q_si
                    rfl
                   refine pure_ (i := 8) (N := some 49) (v := ?_) (a' := ?_) #[true, true, false, false, true, false, false, false, true, false, false, false, false, false, false, false, false, false] rfl rfl q_ho q_id (Or.inl ⟨by rfl, ?_⟩) ?_ ?_
                   rotate_left
                   ·intro w'
                    go_simp
                    with_reducible rfl
                   rotate_left
                   ·q_si
                    rfl
                   refine pure_ (i := 9) (N := some 50) (v := ?_) (a' := ?_) #[true, true, false, false, true, false, false, false, true, true, false, false, false, false, false, false, false, false] rfl rfl q_ho q_id (Or.inl ⟨by rfl, ?_⟩) ?_ ?_
                   rotate_left
                   ·intro w'
                    go_simp
                    with_reducible rfl
                   rotate_left
                   ·q_si
                    rfl
                   refine pure_ (i := 12) (N := some 53) (v := ?_) (a' := ?_) #[true, true, false, false, true, false, false, false, true, true, false, false, true, false, false, false, false, false] rfl rfl q_ho q_id (Or.inl ⟨by rfl, ?_⟩) ?_ ?_
                   rotate_left
                   ·intro w'
                    go_simp
                    with_reducible rfl
                   rotate_left
                   ·q_si
                    rfl
                   refine take_ (i := 2) (N := some 43) (v := ?_) (a' := ?_) #[true, true, true, false, true, false, false, false, true, true, false, false, true, false, false, false, false, false] rfl rfl q_to q_id (Or.inl ⟨by rfl, ?_⟩) hHeld ?_ ?_
                   rotate_left
                   ·rintro w' ⟨s0, s1, s2, s3, s4⟩
                    go_simp
                    with_reducible rfl
                   rotate_left
                   ·q_si
                    rfl
                   refine pure_ (i := 3) (N := some 44) (v := ?_) (a' := ?_) #[true, true, true, true, true, false, false, false, true, true, false, false, true, false, false, false, false, false] rfl rfl q_ho q_id (Or.inl ⟨by rfl, ?_⟩) ?_ ?_
                   rotate_left
                   ·intro w'
                    go_simp
                    with_reducible rfl
                   rotate_left
                   ·q_si
                    rfl
                   refine take_ (i := 5) (N := some 46) (v := ?_) (a' := ?_) #[true, true, true, true, true, true, false, false, true, true, false, false, true, false, false, false, false, false] rfl rfl q_to q_id (Or.inl ⟨by rfl, ?_⟩) hHeld ?_ ?_
                   rotate_left
                   ·rintro w' ⟨s0, s1, s2, s3, s4⟩
                    go_simp
                    with_reducible rfl
                   rotate_left
                   ·q_si
                    rfl
                   refine pure_ (i := 6) (N := some 47) (v := ?_) (a' := ?_) #[true, true, true, true, true, true, true, false, true, true, false, false, true, false, false, false, false, false] rfl rfl q_ho q_id (Or.inl ⟨by rfl, ?_⟩) ?_ ?_
                   rotate_left
                   ·intro w'
                    go_simp
                    with_reducible rfl
                   rotate_left
                   ·q_si
                    rfl
                   refine pure_ (i := 7) (N := some 48) (v := ?_) (a' := ?_) #[true, true, true, true, true, true, true, true, true, true, false, false, true, false, false, false, false, false] rfl rfl q_ho q_id (Or.inl ⟨by rfl, ?_⟩) ?_ ?_
                   rotate_left
                   ·intro w'
                    go_simp
                    with_reducible rfl
                   rotate_left
                   ·q_si
                    rfl
                   refine pure_ (i := 16) (N := some 10) (v := ?_) (a' := ?_) #[true, true, true, true, true, true, true, true, true, true, false, false, true, false, false, false, true, false] rfl rfl q_ho q_id (Or.inl ⟨by rfl, ?_⟩) ?_ ?_
                   rotate_left
                   ·intro w'
                    go_simp
                    with_reducible rfl
                   rotate_left
                   ·q_si
                    rfl
                   refine take_ (i := 10) (N := some 51) (v := ?_) (a' := ?_) #[true, true, true, true, true, true, true, true, true, true, true, false, true, false, false, false, true, false] rfl rfl q_to q_id (Or.inl ⟨by rfl, ?_⟩) hHeld ?_ ?_
                   rotate_left
                   ·rintro w' ⟨s0, s1, s2, s3, s4⟩
                    go_simp
                    with_reducible rfl
                   rotate_left
                   ·q_si
                    rfl
                   refine pure_ (i := 11) (N := some 52) (v := ?_) (a' := ?_) #[true, true, true, true, true, true, true, true, true, true, true, true, true, false, false, false, true, false] rfl rfl q_ho q_id (Or.inl ⟨by rfl, ?_⟩) ?_ ?_
                   rotate_left
                   ·intro w'
                    go_simp
                    with_reducible rfl
                   rotate_left
                   ·q_si
                    rfl
                   refine take_ (i := 13) (N := some 54) (v := ?_) (a' := ?_) #[true, true, true, true, true, true, true, true, true, true, true, true, true, true, false, false, true, false] rfl rfl q_to q_id (Or.inl ⟨by rfl, ?_⟩) hHeld ?_ ?_
                   rotate_left
                   ·rintro w' ⟨s0, s1, s2, s3, s4⟩
                    go_simp
                    with_reducible rfl
                   rotate_left
                   ·q_si
                    rfl
                   refine pure_ (i := 14) (N := some 55) (v := ?_) (a' := ?_) #[true, true, true, true, true, true, true, true, true, true, true, true, true, true, true, false, true, false] rfl rfl q_ho q_id (Or.inl ⟨by rfl, ?_⟩) ?_ ?_
                   rotate_left
                   ·intro w'
                    go_simp
                    with_reducible rfl
                   rotate_left
                   ·q_si
                    rfl
                   refine pure_ (i := 15) (N := some 56) (v := ?_) (a' := ?_) #[true, true, true, true, true, true, true, true, true, true, true, true, true, true, true, true, true, false] rfl rfl q_ho q_id (Or.inl ⟨by rfl, ?_⟩) ?_ ?_
                   rotate_left
                   ·intro w'
                    go_simp
                    with_reducible rfl
                   rotate_left
                   ·q_si
                    rfl
                   refine pure_ (i := 17) (N := some 11) (v := ?_) (a' := ?_) #[true, true, true, true, true, true, true, true, true, true, true, true, true, true, true, true, true, true] rfl rfl q_ho q_id (Or.inl ⟨by rfl, ?_⟩) ?_ ?_
                   rotate_left
                   ·intro w'
                    go_simp
                    with_reducible rfl
                   rotate_left
                   ·q_si
                    rfl
                   refine done_ (done_of HT_.out (by kernel_rfl)) ?_
                   try go_wp2
                   have n0_ := Aside0.mk (blk_drew BK159.out)
                   have n1_ := Aside0.mk (below_drew1 HB.out)
                   clear HB BK159
                   have BK159 := n0_
                   have HB := n1_
                   clear n0_ n1_
                   refine start_ (n := 18) (S := fun w' => w'.cell? ⟨gb159, 0, none⟩ = some (.slice A0_0 l0_0.length c0_0) ∧ w'.cell? ⟨gb159, 1, none⟩ = some (.int .i64 a0_1) ∧ w'.cell? ⟨gb159, 2, none⟩ = some (.int .i64 a0_2) ∧ w'.cell? ⟨gb159, 3, none⟩ = some (.slice A0_3 l0_3.length c0_3) ∧ w'.cell? ⟨gb159, 4, none⟩ = some (.bool a0_4)) (ds := []) #[false, false, false, false, false, false, false, false, false, false, false, false, false, false, false, false, false, false] (by kernel_rfl) rfl rfl ⟨(blk_cell BK159.out 0).trans rfl, (blk_cell BK159.out 1).trans rfl, (blk_cell BK159.out 2).trans rfl, (blk_cell BK159.out 3).trans rfl, (blk_cell BK159.out 4).trans rfl⟩ (fun hHeld => ?_); refine with_tabW rees_mul.tab7 rees_mul.bits7 (fun HT_ HW_ => ?_)
                   generalize w37.drew = w38 at BK159 HB hHeld ⊢
                   refine pure_ (i := 0) (N := some 57) (v := ?_) (a' := ?_) #[true, false, false, false, false, false, false, false, false, false, false, false, false, false, false, false, false, false] rfl rfl q_ho q_id (Or.inl ⟨by rfl, ?_⟩) ?_ ?_
                   rotate_left
                   ·intro w'
                    go_simp
                    with_reducible rfl
                   rotate_left
                   ·q_si
                    rfl
                   refine pure_ (i := 1) (N := some 58) (v := ?_) (a' := ?_) #[true, true, false, false, false, false, false, false, false, false, false, false, false, false, false, false, false, false] rfl rfl q_ho q_id (Or.inl ⟨by rfl, ?_⟩) ?_ ?_
                   rotate_left
                   ·intro w'
                    go_simp
                    with_reducible rfl
                   rotate_left
                   ·q_si
                    rfl
                   refine pure_ (i := 4) (N := some 61) (v := ?_) (a' := ?_) #[true, true, false, false, true, false, false, false, false, false, false, false, false, false, false, false, false, false] rfl rfl q_ho q_id (Or.inl ⟨by rfl, ?_⟩) ?_ ?_
                   rotate_left
                   ·intro w'
                    go_simp
                    with_reducible rfl
                   rotate_left
                   ·q_si
                    rfl
                   refine pure_ (i := 8) (N := some 65) (v := ?_) (a' := ?_) #[true, true, false, false, true, false, false, false, true, false, false, false, false, false, false, false, false, false] rfl rfl q_ho q_id (Or.inl ⟨by rfl, ?_⟩) ?_ ?_
                   rotate_left
                   ·intro w'
                    go_simp
                    with_reducible rfl
                   rotate_left
                   ·q_si
                    rfl
                   refine pure_ (i := 9) (N := some 66) (v := ?_) (a' := ?_) #[true, true, false, false, true, false, false, false, true, true, false, false, false, false, false, false, false, false] rfl rfl q_ho q_id (Or.inl ⟨by rfl, ?_⟩) ?_ ?_
                   rotate_left
                   ·intro w'
                    go_simp
                    with_reducible rfl
                   rotate_left
                   ·q_si
                    rfl
                   refine pure_ (i := 12) (N := some 69) (v := ?_) (a' := ?_) #[true, true, false, false, true, false, false, false, true, true, false, false, true, false, false, false, false, false] rfl rfl q_ho q_id (Or.inl ⟨by rfl, ?_⟩) ?_ ?_
                   rotate_left
                   ·intro w'
                    go_simp
                    with_reducible rfl
                   rotate_left
                   ·q_si
                    rfl
                   refine take_ (i := 2) (N := some 59) (v := ?_) (a' := ?_) #[true, true, true, false, true, false, false, false, true, true, false, false, true, false, false, false, false, false] rfl rfl q_to q_id (Or.inl ⟨by rfl, ?_⟩) hHeld ?_ ?_
                   rotate_left
                   ·rintro w' ⟨s0, s1, s2, s3, s4⟩
                    go_simp
                    with_reducible rfl
                   rotate_left
                   ·q_si
                    rfl
                   refine pure_ (i := 3) (N := some 60) (v := ?_) (a' := ?_) #[true, true, true, true, true, false, false, false, true, true, false, false, true, false, false, false, false, false] rfl rfl q_ho q_id (Or.inl ⟨by rfl, ?_⟩) ?_ ?_
                   rotate_left
                   ·intro w'
                    go_simp
                    with_reducible rfl
                   rotate_left
                   ·q_si
                    rfl
                   refine take_ (i := 5) (N := some 62) (v := ?_) (a' := ?_) #[true, true, true, true, true, true, false, false, true, true, false, false, true, false, false, false, false, false] rfl rfl q_to q_id (Or.inl ⟨by rfl, ?_⟩) hHeld ?_ ?_
                   rotate_left
                   ·rintro w' ⟨s0, s1, s2, s3, s4⟩
                    go_simp
                    with_reducible rfl
                   rotate_left
                   ·q_si
                    rfl
                   refine pure_ (i := 6) (N := some 63) (v := ?_) (a' := ?_) #[true, true, true, true, true, true, true, false, true, true, false, false, true, false, false, false, false, false] rfl rfl q_ho q_id (Or.inl ⟨by rfl, ?_⟩) ?_ ?_
                   rotate_left
                   ·intro w'
                    go_simp
                    with_reducible rfl
                   rotate_left
                   ·q_si
                    rfl
                   refine pure_ (i := 7) (N := some 64) (v := ?_) (a' := ?_) #[true, true, true, true, true, true, true, true, true, true, false, false, true, false, false, false, false, false] rfl rfl q_ho q_id (Or.inl ⟨by rfl, ?_⟩) ?_ ?_
                   rotate_left
                   ·intro w'
                    go_simp
                    with_reducible rfl
                   rotate_left
                   ·q_si
                    rfl
                   refine pure_ (i := 16) (N := some 12) (v := ?_) (a' := ?_) #[true, true, true, true, true, true, true, true, true, true, false, false, true, false, false, false, true, false] rfl rfl q_ho q_id (Or.inl ⟨by rfl, ?_⟩) ?_ ?_
                   rotate_left
                   ·intro w'
                    go_simp
                    with_reducible rfl
                   rotate_left
                   ·q_si
                    rfl
                   refine take_ (i := 10) (N := some 67) (v := ?_) (a' := ?_) #[true, true, true, true, true, true, true, true, true, true, true, false, true, false, false, false, true, false] rfl rfl q_to q_id (Or.inl ⟨by rfl, ?_⟩) hHeld ?_ ?_
                   rotate_left
                   ·rintro w' ⟨s0, s1, s2, s3, s4⟩
                    go_simp
                    with_reducible rfl
                   rotate_left
                   ·q_si
                    rfl
                   refine pure_ (i := 11) (N := some 68) (v := ?_) (a' := ?_) #[true, true, true, true, true, true, true, true, true, true, true, true, true, false, false, false, true, false] rfl rfl q_ho q_id (Or.inl ⟨by rfl, ?_⟩) ?_ ?_
                   rotate_left
                   ·intro w'
                    go_simp
                    with_reducible rfl
                   rotate_left
                   ·q_si
                    rfl
                   refine take_ (i := 13) (N := some 70) (v := ?_) (a' := ?_) #[true, true, true, true, true, true, true, true, true, true, true, true, true, true, false, false, true, false] rfl rfl q_to q_id (Or.inl ⟨by rfl, ?_⟩) hHeld ?_ ?_
                   rotate_left
                   ·rintro w' ⟨s0, s1, s2, s3, s4⟩
                    go_simp
                    with_reducible rfl
                   rotate_left
                   ·q_si
                    rfl
                   refine pure_ (i := 14) (N := some 71) (v := ?_) (a' := ?_) #[true, true, true, true, true, true, true, true, true, true, true, true, true, true, true, false, true, false] rfl rfl q_ho q_id (Or.inl ⟨by rfl, ?_⟩) ?_ ?_
                   rotate_left
                   ·intro w'
                    go_simp
                    with_reducible rfl
                   rotate_left
                   ·q_si
                    rfl
                   refine pure_ (i := 15) (N := some 72) (v := ?_) (a' := ?_) #[true, true, true, true, true, true, true, true, true, true, true, true, true, true, true, true, true, false] rfl rfl q_ho q_id (Or.inl ⟨by rfl, ?_⟩) ?_ ?_
                   rotate_left
                   ·intro w'
                    go_simp
                    with_reducible rfl
                   rotate_left
                   ·q_si
                    rfl
                   refine pure_ (i := 17) (N := some 13) (v := ?_) (a' := ?_) #[true, true, true, true, true, true, true, true, true, true, true, true, true, true, true, true, true, true] rfl rfl q_ho q_id (Or.inl ⟨by rfl, ?_⟩) ?_ ?_
                   rotate_left
                   ·intro w'
                    go_simp
                    with_reducible rfl
                   rotate_left
                   ·q_si
                    rfl
                   refine done_ (done_of HT_.out (by kernel_rfl)) ?_
                   have hcz39_0 : w38.cell? ⟨gb159, 0, none⟩ = some (.slice A0_0 l0_0.length c0_0) := (blk_cell BK159.out 0).trans rfl
                   have hcz39_1 : w38.cell? ⟨gb159, 1, none⟩ = some (.int .i64 a0_1) := (blk_cell BK159.out 1).trans rfl
                   have hcz39_2 : w38.cell? ⟨gb159, 2, none⟩ = some (.int .i64 a0_2) := (blk_cell BK159.out 2).trans rfl
                   have hcz39_3 : w38.cell? ⟨gb159, 3, none⟩ = some (.slice A0_3 l0_3.length c0_3) := (blk_cell BK159.out 3).trans rfl
                   have hcz39_4 : w38.cell? ⟨gb159, 4, none⟩ = some (.bool a0_4) := (blk_cell BK159.out 4).trans rfl
                   have hfz39_0 := blk_frozen BK159.out 0
                   have hfz39_1 := blk_frozen BK159.out 1
                   have hfz39_2 := blk_frozen BK159.out 2
                   have hfz39_3 := blk_frozen BK159.out 3
                   have hfz39_4 := blk_frozen BK159.out 4
                   have p161 : 0 ≤ ((ji14) : Int) := of_decide_eq_true q_as
                   have q161 : (ji14) < (l0_3.length : Int) := of_decide_eq_true q_as
                   obtain ⟨ad161, A161_0, c161_0, e161, hx161_0, hl161_0, hi161_0⟩ := at_L1 HR0_3.out (ji14) p161 q161
                   cases e161
                   replace hx161_0 := (HB.out.cell (World.block_lt_of_cell? w _ hx161_0)).trans hx161_0
                   have HR161_0 := Aside0.mk hi161_0
                   have HC161_0 := Aside0.mk hl161_0
                   (try clear hi161_0); (try clear hl161_0)
                   q_t p161 q161
                   have p162 : 0 ≤ ((ji17) : Int) := of_decide_eq_true q_as
                   have q162 : (ji17) < ((rd_L1 l0_3 (ji14)).length : Int) := of_decide_eq_true q_as
                   obtain ⟨ad162, e162, hx162_0⟩ := Kd.at_int HR161_0.out (ji17) p162 q162
                   cases e162
                   replace hx162_0 := (HB.out.cell (World.block_lt_of_cell? w _ hx162_0)).trans hx162_0
                   q_t p162 q162
                   try go_wp2
                   have n0_ := Aside0.mk (blk_drew BK159.out)
                   have n1_ := Aside0.mk (below_drew1 HB.out)
                   clear HB BK159
                   have BK159 := n0_
                   have HB := n1_
                   clear n0_ n1_
                   have p163 : 0 ≤ ((ji25) : Int) := of_decide_eq_true q_as
                   have q163 : (ji25) < (l0_0.length : Int) := of_decide_eq_true q_as
                   obtain ⟨ad163, A163_0, c163_0, e163, hx163_0, hl163_0, hi163_0⟩ := at_L1 HR0_0.out (ji25) p163 q163
                   have hw163_0 := hx163_0
                   cases e163
                   replace hx163_0 := (HB.out.cell (World.block_lt_of_cell? w _ hx163_0)).trans hx163_0
                   have HR163_0 := Aside0.mk hi163_0
                   have HC163_0 := Aside0.mk hl163_0
                   (try clear hi163_0); (try clear hl163_0)
                   q_t p163 q163
                   have p164 : 0 ≤ ((rd (rd_L1 l0_3 (ji14)) (ji17)) : Int) := of_decide_eq_true q_as
                   have q164 : (rd (rd_L1 l0_3 (ji14)) (ji17)) < ((rd_L1 l0_0 (ji25)).length : Int) := of_decide_eq_true q_as
                   obtain ⟨ad164, e164, hx164_0⟩ := Kd.at_int HR163_0.out (rd (rd_L1 l0_3 (ji14)) (ji17)) p164 q164
                   have hw164_0 := hx164_0
                   cases e164
                   replace hx164_0 := (HB.out.cell (World.block_lt_of_cell? w _ hx164_0)).trans hx164_0
                   q_t p164 q164
                   have p165 : 0 ≤ ((rd (rd_L1 l0_0 (ji25)) (rd (rd_L1 l0_3 (ji14)) (ji17))) : Int) := of_decide_eq_true q_as
                   have q165 : (rd (rd_L1 l0_0 (ji25)) (rd (rd_L1 l0_3 (ji14)) (ji17))) < (l0_0.length : Int) := of_decide_eq_true q_as
                   obtain ⟨ad165, A165_0, c165_0, e165, hx165_0, hl165_0, hi165_0⟩ := at_L1 HR0_0.out (rd (rd_L1 l0_0 (ji25)) (rd (rd_L1 l0_3 (ji14)) (ji17))) p165 q165
                   have hw165_0 := hx165_0
                   obtain rfl : ad163 = ad165 := (by injection e165)
                   replace hx165_0 := (HB.out.cell (World.block_lt_of_cell? w _ hx165_0)).trans hx165_0
                   have HR165_0 := Aside0.mk hi165_0
                   have HC165_0 := Aside0.mk hl165_0
                   (try clear hi165_0); (try clear hl165_0)
                   q_t p165 q165
                   have p166 : 0 ≤ ((ji32) : Int) := of_decide_eq_true q_as
                   have q166 : (ji32) < ((rd_L1 l0_0 (rd (rd_L1 l0_0 (ji25)) (rd (rd_L1 l0_3 (ji14)) (ji17)))).length : Int) := of_decide_eq_true q_as
                   obtain ⟨ad166, e166, hx166_0⟩ := Kd.at_int HR165_0.out (ji32) p166 q166
                   have hw166_0 := hx166_0
                   cases e166
                   replace hx166_0 := (HB.out.cell (World.block_lt_of_cell? w _ hx166_0)).trans hx166_0
                   q_t p166 q166
                   refine start_ (n := 20) (S := fun w' => w'.cell? ⟨gb159, 0, none⟩ = some (.slice (some ad163) l0_0.length c0_0) ∧ w'.cell? ⟨gb159, 1, none⟩ = some (.int .i64 a0_1) ∧ w'.cell? ⟨gb159, 2, none⟩ = some (.int .i64 a0_2) ∧ w'.cell? ⟨gb159, 3, none⟩ = some (.slice (some ad161) l0_3.length c0_3) ∧ w'.cell? ⟨gb159, 4, none⟩ = some (.bool a0_4) ∧ w'.cell? (ad163.add ((ji25)).toNat) = some (.slice (some ad164) (rd_L1 l0_0 (ji25)).length c163_0) ∧ w'.cell? (ad164.add ((rd (rd_L1 l0_3 (ji14)) (ji17))).toNat) = some (.int .i64 (rd (rd_L1 l0_0 (ji25)) (rd (rd_L1 l0_3 (ji14)) (ji17)))) ∧ w'.cell? (ad163.add ((rd (rd_L1 l0_0 (ji25)) (rd (rd_L1 l0_3 (ji14)) (ji17)))).toNat) = some (.slice (some ad166) (rd_L1 l0_0 (rd (rd_L1 l0_0 (ji25)) (rd (rd_L1 l0_3 (ji14)) (ji17)))).length c165_0) ∧ w'.cell? (ad166.add ((ji32)).toNat) = some (.int .i64 (rd (rd_L1 l0_0 (rd (rd_L1 l0_0 (ji25)) (rd (rd_L1 l0_3 (ji14)) (ji17)))) (ji32)))) (ds := []) #[false, false, false, false, false, false, false, false, false, false, false, false, false, false, false, false, false, false, false, false] (by kernel_rfl) rfl rfl ⟨(blk_cell BK159.out 0).trans rfl, (blk_cell BK159.out 1).trans rfl, (blk_cell BK159.out 2).trans rfl, (blk_cell BK159.out 3).trans rfl, (blk_cell BK159.out 4).trans rfl, ((HB.out.cell (World.block_lt_of_cell? w _ hw163_0)).trans hw163_0), ((HB.out.cell (World.block_lt_of_cell? w _ hw164_0)).trans hw164_0), ((HB.out.cell (World.block_lt_of_cell? w _ hw165_0)).trans hw165_0), ((HB.out.cell (World.block_lt_of_cell? w _ hw166_0)).trans hw166_0)⟩ (fun hHeld => ?_); refine with_tabW rees_mul.tab11 rees_mul.bits11 (fun HT_ HW_ => ?_)
                   generalize w38.drew = w40 at BK159 HB HR163_0 HR165_0 hx163_0 hx164_0 hx165_0 hx166_0 hHeld ⊢
                   refine pure_ (i := 1) (N := some 84) (v := ?_) (a' := ?_) #[false, true, false, false, false, false, false, false, false, false, false, false, false, false, false, false, false, false, false, false] rfl rfl q_ho q_id (Or.inl ⟨by rfl, ?_⟩) ?_ ?_
                   rotate_left
                   ·intro w'
                    go_simp
                    with_reducible rfl
                   rotate_left
                   ·q_si
                    rfl
                   refine pure_ (i := 2) (N := some 85) (v := ?_) (a' := ?_) #[false, true, true, false, false, false, false, false, false, false, false, false, false, false, false, false, false, false, false, false] rfl rfl q_ho q_id (Or.inl ⟨by rfl, ?_⟩) ?_ ?_
                   rotate_left
                   ·intro w'
                    go_simp
                    with_reducible rfl
                   rotate_left
                   ·q_si
                    rfl
                   refine pure_ (i := 4) (N := some 87) (v := ?_) (a' := ?_) #[false, true, true, false, true, false, false, false, false, false, false, false, false, false, false, false, false, false, false, false] rfl rfl q_ho q_id (Or.inl ⟨by rfl, ?_⟩) ?_ ?_
                   rotate_left
                   ·intro w'
                    go_simp
                    with_reducible rfl
                   rotate_left
                   ·q_si
                    rfl
                   refine pure_ (i := 6) (N := some 89) (v := ?_) (a' := ?_) #[false, true, true, false, true, false, true, false, false, false, false, false, false, false, false, false, false, false, false, false] rfl rfl q_ho q_id (Or.inl ⟨by rfl, ?_⟩) ?_ ?_
                   rotate_left
                   ·intro w'
                    go_simp
                    with_reducible rfl
                   rotate_left
                   ·q_si
                    rfl
                   refine pure_ (i := 9) (N := some 92) (v := ?_) (a' := ?_) #[false, true, true, false, true, false, true, false, false, true, false, false, false, false, false, false, false, false, false, false] rfl rfl q_ho q_id (Or.inl ⟨by rfl, ?_⟩) ?_ ?_
                   rotate_left
                   ·intro w'
                    go_simp
                    with_reducible rfl
                   rotate_left
                   ·q_si
                    rfl
                   refine pure_ (i := 14) (N := some 97) (v := ?_) (a' := ?_) #[false, true, true, false, true, false, true, false, false, true, false, false, false, false, true, false, false, false, false, false] rfl rfl q_ho q_id (Or.inl ⟨by rfl, ?_⟩) ?_ ?_
                   rotate_left
                   ·intro w'
                    go_simp
                    with_reducible rfl
                   rotate_left
                   ·q_si
                    rfl
                   refine pure_ (i := 17) (N := some 100) (v := ?_) (a' := ?_) #[false, true, true, false, true, false, true, false, false, true, false, false, false, false, true, false, false, true, false, false] rfl rfl q_ho q_id (Or.inl ⟨by rfl, ?_⟩) ?_ ?_
                   rotate_left
                   ·intro w'
                    go_simp
                    with_reducible rfl
                   rotate_left
                   ·q_si
                    rfl
                   refine take_ (i := 0) (N := some 83) (v := ?_) (a' := ?_) #[true, true, true, false, true, false, true, false, false, true, false, false, false, false, true, false, false, true, false, false] rfl rfl q_to q_id (Or.inl ⟨by rfl, ?_⟩) hHeld ?_ ?_
                   rotate_left
                   ·rintro w' ⟨s0, s1, s2, s3, s4, s5, s6, s7, s8⟩
                    go_simp
                    with_reducible rfl
                   rotate_left
                   ·q_si
                    rfl
                   refine take_ (i := 3) (N := some 86) (v := ?_) (a' := ?_) #[true, true, true, true, true, false, true, false, false, true, false, false, false, false, true, false, false, true, false, false] rfl rfl q_to q_id (Or.inl ⟨by rfl, ?_⟩) hHeld ?_ ?_
                   rotate_left
                   ·rintro w' ⟨s0, s1, s2, s3, s4, s5, s6, s7, s8⟩
                    go_simp
                    with_reducible rfl
                   rotate_left
                   ·q_si
                    rfl
                   refine take_ (i := 5) (N := some 88) (v := ?_) (a' := ?_) #[true, true, true, true, true, true, true, false, false, true, false, false, false, false, true, false, false, true, false, false] rfl rfl q_to q_id (Or.inl ⟨by rfl, ?_⟩) hHeld ?_ ?_
                   rotate_left
                   ·rintro w' ⟨s0, s1, s2, s3, s4, s5, s6, s7, s8⟩
                    go_simp
                    with_reducible rfl
                   rotate_left
                   ·q_si
                    rfl
                   refine pure_ (i := 7) (N := some 90) (v := ?_) (a' := ?_) #[true, true, true, true, true, true, true, true, false, true, false, false, false, false, true, false, false, true, false, false] rfl rfl q_ho q_id (Or.inl ⟨by rfl, ?_⟩) ?_ ?_
                   rotate_left
                   ·intro w'
                    go_simp
                    with_reducible rfl
                   rotate_left
                   ·q_si
                    rfl
                   refine take_ (i := 8) (N := some 91) (v := ?_) (a' := ?_) #[true, true, true, true, true, true, true, true, true, true, false, false, false, false, true, false, false, true, false, false] rfl rfl q_to q_id (Or.inl ⟨by rfl, ?_⟩) hHeld ?_ ?_
                   rotate_left
                   ·rintro w' ⟨s0, s1, s2, s3, s4, s5, s6, s7, s8⟩
                    go_simp
                    with_reducible rfl
                   rotate_left
                   ·q_si
                    rfl
                   refine pure_ (i := 10) (N := some 93) (v := ?_) (a' := ?_) #[true, true, true, true, true, true, true, true, true, true, true, false, false, false, true, false, false, true, false, false] rfl rfl q_ho q_id (Or.inl ⟨by rfl, ?_⟩) ?_ ?_
                   rotate_left
                   ·intro w'
                    go_simp
                    with_reducible rfl
                   rotate_left
                   ·q_si
                    rfl
                   refine take_ (i := 11) (N := some 94) (v := ?_) (a' := ?_) #[true, true, true, true, true, true, true, true, true, true, true, true, false, false, true, false, false, true, false, false] rfl rfl q_to q_id (Or.inl ⟨by rfl, ?_⟩) hHeld ?_ ?_
                   rotate_left
                   ·rintro w' ⟨s0, s1, s2, s3, s4, s5, s6, s7, s8⟩
                    go_simp
                    with_reducible rfl
                   rotate_left
                   ·q_si
                    rfl
                   refine pure_ (i := 12) (N := some 95) (v := ?_) (a' := ?_) #[true, true, true, true, true, true, true, true, true, true, true, true, true, false, true, false, false, true, false, false] rfl rfl q_ho q_id (Or.inl ⟨by rfl, ?_⟩) ?_ ?_
                   rotate_left
                   ·intro w'
                    go_simp
                    with_reducible rfl
                   rotate_left
                   ·q_si
                    rfl
                   refine take_ (i := 13) (N := some 96) (v := ?_) (a' := ?_) #[true, true, true, true, true, true, true, true, true, true, true, true, true, true, true, false, false, true, false, false] rfl rfl q_to q_id (Or.inl ⟨by rfl, ?_⟩) hHeld ?_ ?_
                   rotate_left
                   ·rintro w' ⟨s0, s1, s2, s3, s4, s5, s6, s7, s8⟩
                    go_simp
                    with_reducible rfl
                   rotate_left
                   ·q_si
                    rfl
                   refine pure_ (i := 15) (N := some 98) (v := ?_) (a' := ?_) #[true, true, true, true, true, true, true, true, true, true, true, true, true, true, true, true, false, true, false, false] rfl rfl q_ho q_id (Or.inl ⟨by rfl, ?_⟩) ?_ ?_
                   rotate_left
                   ·intro w'
                    go_simp
                    with_reducible rfl
                   rotate_left
                   ·q_si
                    rfl
                   refine take_ (i := 16) (N := some 99) (v := ?_) (a' := ?_) #[true, true, true, true, true, true, true, true, true, true, true, true, true, true, true, true, true, true, false, false] rfl rfl q_to q_id (Or.inl ⟨by rfl, ?_⟩) hHeld ?_ ?_
                   rotate_left
                   ·rintro w' ⟨s0, s1, s2, s3, s4, s5, s6, s7, s8⟩
                    go_simp
                    with_reducible rfl
                   rotate_left
                   ·q_si
                    rfl
                   refine one_ (i := 18) (N := some 101) #[true, true, true, true, true, true, true, true, true, true, true, true, true, true, true, true, true, true, true, false] rfl rfl (one_of HT_.out (by kernel_rfl)) (by decide) (fun K hK => ?_)
                   refine goes_ Try.func53 (by kernel_rfl) rfl #[.agg #[.slice (some ad163) l0_0.length c0_0, .int .i64 a0_1, .int .i64 a0_2, .slice (some ad161) l0_3.length c0_3, .bool a0_4], .int .i64 (wrap64 (Int.tdiv (wrap64 (Int.tdiv (wrap64 (a1 - t160)) a0_2)) (l0_0.length : Int))), .int .i64 (rd (rd_L1 l0_0 (rd (rd_L1 l0_0 (ji25)) (rd (rd_L1 l0_3 (ji14)) (ji17)))) (ji32)), .int .i64 (Int.tmod (wrap64 (a2 - t160)) a0_2)] (by rfl) rfl rfl (by (try simp only [List.map_toArray, List.map_cons, List.map_nil]); first | done | (simp only [hji14, hji17, hji25, hji32]; rfl) | rfl | (simp only [List.length_drop, List.length_take]; rfl)) ?_
                   with_reducible refine (rees_number.calls _ _ l0_0 a0_1 a0_2 _ _ l0_3 a0_4 (wrap64 (Int.tdiv (wrap64 (Int.tdiv (wrap64 (a1 - t160)) a0_2)) (l0_0.length : Int))) (rd (rd_L1 l0_0 (rd (rd_L1 l0_0 (ji25)) (rd (rd_L1 l0_3 (ji14)) (ji17)))) (ji32)) (Int.tmod (wrap64 (a2 - t160)) a0_2) t167 _ ?side1 ?side2 ?side3 ?side4 A35.out).mono ?_
                   (case side1 => q_cc (Kd.C_below HR0_0.out HB.out))
                   (case side2 => exact HC0_0.out)
                   (case side3 => q_cc (Kd.C_below HR0_3.out HB.out))
                   (case side4 => exact HC0_3.out)
                   rintro e w41 ⟨rfl, hb⟩
                   refine ⟨_, rfl, ?_⟩
                   have n0_ := Aside0.mk (blk_below (g := gb159) (o := .cells #[.slice (some ad163) l0_0.length c0_0, .int .i64 a0_1, .int .i64 a0_2, .slice (some ad161) l0_3.length c0_3, .bool a0_4] 24 (0, 0)) (by q_bk; exact BK159.out) hb)
                   have n1_ := Aside0.mk (below_step (q_hs GE159.out) hb)
                   clear HB BK159
                   have BK159 := n0_
                   have HB := n1_
                   clear n0_ n1_
                   (try clear hb)
                   (try clear hb2)
                   (try clear hk)
                   (try clear hi)
                   refine hK.out _ _ ⟨(blk_cell BK159.out 0).trans rfl, (blk_cell BK159.out 1).trans rfl, (blk_cell BK159.out 2).trans rfl, (blk_cell BK159.out 3).trans rfl, (blk_cell BK159.out 4).trans rfl, ((HB.out.cell (World.block_lt_of_cell? w _ hw163_0)).trans hw163_0), ((HB.out.cell (World.block_lt_of_cell? w _ hw164_0)).trans hw164_0), ((HB.out.cell (World.block_lt_of_cell? w _ hw165_0)).trans hw165_0), ((HB.out.cell (World.block_lt_of_cell? w _ hw166_0)).trans hw166_0)⟩ (fun hHeld => ?_)
                   clear hK K
                   refine norm_ (a' := ?_) ?_ ?_
                   rotate_left
                   ·show Act.put _ (some 101) _ = _
                    simp only [Act.put, List.setIfInBounds_toArray, List.set_cons_zero, List.set_cons_succ, i64_w, i32_w]
                    rfl
                   refine pure_ (i := 19) (N := some 6) (v := ?_) (a' := ?_) #[true, true, true, true, true, true, true, true, true, true, true, true, true, true, true, true, true, true, true, true] rfl rfl q_ho q_id (Or.inl ⟨by rfl, ?_⟩) ?_ ?_
                   rotate_left
                   ·intro w'
                    go_simp
                    with_reducible rfl
                   rotate_left
                   ·q_si
                    rfl
                   refine done_ (done_of HT_.out (by kernel_rfl)) ?_
                   try go_wp2
                   go_ret
                   exact ⟨by first | rfl | q_em | (simp only [← hji14, ← hji17, ← hji25, ← hji32]; first | rfl | q_em) | q_en, by repeat (first | (with_reducible first | exact HB.out | apply below_alloc | apply pw_below_drewN | apply below_drew1 | refine below_set ?_ GE159.out) | exact HB.out)⟩
                  ·rw [if_neg c34] at H
                   exact absurd H (by simp)
                 ·rw [if_neg c33] at H
                  exact absurd H (by simp)
                ·rw [if_neg c31] at H
                 exact absurd H (by simp)
               ·rw [if_neg c30] at H
                exact absurd H (by simp)
              ·rw [if_neg c29] at H
               exact absurd H (by simp)
             ·rw [if_neg c28] at H
              exact absurd H (by simp)
            ·rw [if_neg c27] at H
             exact absurd H (by simp)
           ·rw [if_neg c26] at H
            exact absurd H (by simp)
         ·rw [if_neg c19] at H
          exact absurd H (by simp)
        ·rw [if_neg c18] at H
         exact absurd H (by simp)
       ·rw [if_neg c16] at H
        exact absurd H (by simp)
      ·rw [if_neg c15] at H
       exact absurd H (by simp)

/-! ### rees_Table: function 17 -/
mutual
def rees_Table.l0 : Nat → List (List Int) → Int → Int → List (List Int) → Int → Int → List (List Int) → Bool → Option ((List (List Int)) × Int)
 | 0, _, _, _, _, _, _, _, _ => none
 | k + 1, x5, x17, x18, x169000, x169001, x169002, x169003, x169004 => if x18 < x17 then (if 0 ≤ (x5.length : Int) then (if ((x5.length : Int) : Int).toNat ≤ 35184372088832 then (if 0 ≤ x18 then (if x18 < (x5.length : Int) then (rees_Table.l1 k (x5.set (x18 : Int).toNat (List.replicate ((x5.length : Int) : Int).toNat 0)) x18 x17 x18 (x5.length : Int) 0 x169000 x169001 x169002 x169003 x169004) else (none)) else (none)) else (none)) else (none)) else (some (x5, 0))
def rees_Table.l1 : Nat → List (List Int) → Int → Int → Int → Int → Int → List (List Int) → Int → Int → List (List Int) → Bool → Option ((List (List Int)) × Int)
 | 0, _, _, _, _, _, _, _, _, _, _, _ => none
 | k + 1, x5, x6, x17, x18, x28, x29, x169000, x169001, x169002, x169003, x169004 => if x29 < x28 then (if 0 ≤ x6 then (if x6 < (x5.length : Int) then ((rees_mul.f k x169000 x169001 x169002 x169003 x169004 x6 x29).bind fun t179 => (if 0 ≤ x29 then (if x29 < ((rd_L1 x5 x6).length : Int) then (rees_Table.l1 k (x5.set (x6 : Int).toNat ((rd_L1 x5 x6).set (x29 : Int).toNat t179)) x6 x17 x18 x28 (wrap64 (x29 + 1)) x169000 x169001 x169002 x169003 x169004) else (none)) else (none))) else (none)) else (none)) else (rees_Table.l0 k x5 x17 (wrap64 (x18 + 1)) x169000 x169001 x169002 x169003 x169004)
end
def rees_Table.f (k : Nat) (l0_0 : List (List Int)) (a0_1 : Int) (a0_2 : Int) (l0_3 : List (List Int)) (a0_4 : Bool) : Option ((List (List Int)) × Int) := (rees_Validate.f k l0_0 a0_1 a0_2 l0_3 a0_4).bind fun t169 => (if t169 = 0 then ((rees_size.f l0_0 a0_1 a0_2 l0_3 a0_4).bind fun t170 => (if 0 ≤ t170 then (if (t170 : Int).toNat ≤ 11728124029610 then ((some (List.replicate (t170 : Int).toNat [] : List (List Int))).bind fun y171 => (rees_Table.l0 k y171 (y171.length : Int) 0 l0_0 a0_1 a0_2 l0_3 a0_4)) else (none)) else (none))) else (some (([] : List (List Int)), t169)))
theorem rees_Table.mono_l : ∀ k, (∀ y0 y1 y2 y3 y4 y5 y6 y7, LeO (rees_Table.l0 k y0 y1 y2 y3 y4 y5 y6 y7) (rees_Table.l0 (k + 1) y0 y1 y2 y3 y4 y5 y6 y7)) ∧ (∀ y0 y1 y2 y3 y4 y5 y6 y7 y8 y9 y10, LeO (rees_Table.l1 k y0 y1 y2 y3 y4 y5 y6 y7 y8 y9 y10) (rees_Table.l1 (k + 1) y0 y1 y2 y3 y4 y5 y6 y7 y8 y9 y10))
 | 0 => ⟨fun _ _ _ _ _ _ _ _ r h => by simp [rees_Table.l0] at h, fun _ _ _ _ _ _ _ _ _ _ _ r h => by simp [rees_Table.l1] at h⟩
 | k + 1 => by
  obtain ⟨ih0, ih1⟩ := rees_Table.mono_l k
  refine ⟨?_, ?_⟩
  ·intro y0 y1 y2 y3 y4 y5 y6 y7
   unfold rees_Table.l0
   repeat' first
   | (with_reducible exact ih0 _ _ _ _ _ _ _ _)
   | (with_reducible exact ih1 _ _ _ _ _ _ _ _ _ _ _)
   | (with_reducible exact rees_Validate.mono _ _ _ _ _ _)
   | (with_reducible exact rees_mul.mono _ _ _ _ _ _ _ _)
   | (with_reducible exact LeO.refl _)
   | (with_reducible exact LeO.none _)
   | (with_reducible refine LeO.ite ?_ ?_)
   | (with_reducible refine LeO.bind ?_ (fun _ => ?_))
   | exact ih0 _ _ _ _ _ _ _ _
   | exact ih1 _ _ _ _ _ _ _ _ _ _ _
   | exact rees_Validate.mono _ _ _ _ _ _
   | exact rees_mul.mono _ _ _ _ _ _ _ _
   | exact LeO.none _
   | refine LeO.ite ?_ ?_
   | refine LeO.bind ?_ (fun _ => ?_)
  ·intro y0 y1 y2 y3 y4 y5 y6 y7 y8 y9 y10
   unfold rees_Table.l1
   repeat' first
   | (with_reducible exact ih0 _ _ _ _ _ _ _ _)
   | (with_reducible exact ih1 _ _ _ _ _ _ _ _ _ _ _)
   | (with_reducible exact rees_Validate.mono _ _ _ _ _ _)
   | (with_reducible exact rees_mul.mono _ _ _ _ _ _ _ _)
   | (with_reducible exact LeO.refl _)
   | (with_reducible exact LeO.none _)
   | (with_reducible refine LeO.ite ?_ ?_)
   | (with_reducible refine LeO.bind ?_ (fun _ => ?_))
   | exact ih0 _ _ _ _ _ _ _ _
   | exact ih1 _ _ _ _ _ _ _ _ _ _ _
   | exact rees_Validate.mono _ _ _ _ _ _
   | exact rees_mul.mono _ _ _ _ _ _ _ _
   | exact LeO.none _
   | refine LeO.ite ?_ ?_
   | refine LeO.bind ?_ (fun _ => ?_)
theorem rees_Table.mono : ∀ a0 a1 a2 a3 a4 k, LeO (rees_Table.f k a0 a1 a2 a3 a4) (rees_Table.f (k + 1) a0 a1 a2 a3 a4) := by
 intro a0 a1 a2 a3 a4 k
 obtain ⟨ih0, ih1⟩ := rees_Table.mono_l k
 unfold rees_Table.f
 repeat' first
   | (with_reducible exact ih0 _ _ _ _ _ _ _ _)
   | (with_reducible exact ih1 _ _ _ _ _ _ _ _ _ _ _)
   | (with_reducible exact rees_Validate.mono _ _ _ _ _ _)
   | (with_reducible exact rees_mul.mono _ _ _ _ _ _ _ _)
   | (with_reducible exact LeO.refl _)
   | (with_reducible exact LeO.none _)
   | (with_reducible refine LeO.ite ?_ ?_)
   | (with_reducible refine LeO.bind ?_ (fun _ => ?_))
   | exact ih0 _ _ _ _ _ _ _ _
   | exact ih1 _ _ _ _ _ _ _ _ _ _ _
   | exact rees_Validate.mono _ _ _ _ _ _
   | exact rees_mul.mono _ _ _ _ _ _ _ _
   | exact LeO.none _
   | refine LeO.ite ?_ ?_
   | refine LeO.bind ?_ (fun _ => ?_)
def rees_Table.T12 : Bool × List (List Nat × List Nat) := (true, [([], []), ([], []), ([0, 1], [0, 1]), ([2], [2]), ([], []), ([], []), ([], []), ([], []), ([5, 6, 7], [5, 6, 7]), ([3, 4, 0, 1, 2, 3, 4, 5, 6, 7, 8], [3, 4]), ([9, 8, 8, 0, 1, 2, 3, 4, 5, 6, 7, 8], [8, 9])])
def rees_Table.B12 : List Nat := [0, 0, 3, 7, 0, 0, 0, 0, 224, 511, 1023]
theorem rees_Table.tab12 : rtab .any (opsOf Try.f17 12) = rees_Table.T12 := by kernel_rfl
theorem rees_Table.bits12 : waitsOk rees_Table.T12.2 rees_Table.B12 = true := by kernel_rfl
set_option maxHeartbeats 8000000 in
set_option maxRecDepth 100000 in
theorem rees_Table.calls (k : Nat) (A0_0 : Option Addr) (c0_0 : Nat) (l0_0 : List (List Int)) (a0_1 : Int) (a0_2 : Int) (A0_3 : Option Addr) (c0_3 : Nat) (l0_3 : List (List Int)) (a0_4 : Bool) (r1 : List (List Int)) (r2 : Int) (w : World) (hr0_0 : Kd.C (Kd.slice 3 (Kd.int .i64)) w A0_0 l0_0.length l0_0) (hc0_0 : l0_0.length ≤ c0_0) (hr0_3 : Kd.C (Kd.slice 3 (Kd.int .i64)) w A0_3 l0_3.length l0_3) (hc0_3 : l0_3.length ≤ c0_3) (h : rees_Table.f k l0_0 a0_1 a0_2 l0_3 a0_4 = some (r1, r2)) :
  Calls Try.prog 17 #[.agg #[.slice A0_0 l0_0.length c0_0, .int .i64 a0_1, .int .i64 a0_2, .slice A0_3 l0_3.length c0_3, .bool a0_4]] w fun e w' => ∃ v0_ : Value, e = .returned (.tuple #[v0_, .int .i64 r2]) ∧ Kd.S (Kd.slice 3 (Kd.int .i64)) 39 w' w.heap.size (fun _ => True) v0_ r1 ∧ Below w.heap.size w w' := by
 have hu24 := Try.underlying24
 have HR0_0 := Aside0.mk hr0_0
 have HC0_0 := Aside0.mk hc0_0
 (try clear hr0_0); (try clear hc0_0)
 have HR0_3 := Aside0.mk hr0_3
 have HC0_3 := Aside0.mk hc0_3
 (try clear hr0_3); (try clear hc0_3)
 have HB := Aside0.mk (Below.refl w.heap.size w)
 have H : ((rees_Validate.f k l0_0 a0_1 a0_2 l0_3 a0_4).bind fun t169 => (if t169 = 0 then ((rees_size.f l0_0 a0_1 a0_2 l0_3 a0_4).bind fun t170 => (if 0 ≤ t170 then (if (t170 : Int).toNat ≤ 11728124029610 then ((some (List.replicate (t170 : Int).toNat [] : List (List Int))).bind fun y171 => (rees_Table.l0 k y171 (y171.length : Int) 0 l0_0 a0_1 a0_2 l0_3 a0_4)) else (none)) else (none))) else (some (([] : List (List Int)), t169)))) = some (r1, r2) := h
 clear h
 replace H := Option.bind_eq_some_iff.mp H
 obtain ⟨t169, A20, H⟩ := H
 replace H : (if t169 = 0 then ((rees_size.f l0_0 a0_1 a0_2 l0_3 a0_4).bind fun t170 => (if 0 ≤ t170 then (if (t170 : Int).toNat ≤ 11728124029610 then ((some (List.replicate (t170 : Int).toNat [] : List (List Int))).bind fun y171 => (rees_Table.l0 k y171 (y171.length : Int) 0 l0_0 a0_1 a0_2 l0_3 a0_4)) else (none)) else (none))) else (some (([] : List (List Int)), t169))) = some (r1, r2) := H
 have A2 := Aside0.mk A20
 clear A20
 by_cases c3 : t169 = 0
 ·rw [if_pos c3] at H
  have c3b0 : (t169 == 0) = true := beq_iff_eq.mpr c3
  have c3b1 : (t169 != 0) = false := bne_eq_false_iff_eq.mpr c3
  clear c3
  replace H := Option.bind_eq_some_iff.mp H
  obtain ⟨t170, A40, H⟩ := H
  replace H : (if 0 ≤ t170 then (if (t170 : Int).toNat ≤ 11728124029610 then ((some (List.replicate (t170 : Int).toNat [] : List (List Int))).bind fun y171 => (rees_Table.l0 k y171 (y171.length : Int) 0 l0_0 a0_1 a0_2 l0_3 a0_4)) else (none)) else (none)) = some (r1, r2) := H
  have A4 := Aside0.mk A40
  clear A40
  by_cases c5 : 0 ≤ t170
  ·rw [if_pos c5] at H
   have c5b0 := eq_true c5
   have c5b1 : decide (0 ≤ t170) = true := decide_eq_true c5
   clear c5
   by_cases c6 : (t170 : Int).toNat ≤ 11728124029610
   ·rw [if_pos c6] at H
    have c6b0 := eq_true c6
    have c6b1 : decide ((t170 : Int).toNat ≤ 11728124029610) = true := decide_eq_true c6
    clear c6
    obtain ⟨y171, hy171⟩ : ∃ y_ : List (List Int), y_ = (List.replicate (t170 : Int).toNat []) := ⟨_, rfl⟩
    replace H : (rees_Table.l0 k y171 (y171.length : Int) 0 l0_0 a0_1 a0_2 l0_3 a0_4) = some (r1, r2) := by first | (rw [hy171]; with_reducible exact H) | (have H2_ := (Option.bind_some _ _).symm.trans H; rw [hy171]; with_reducible exact H2_) | (have H2_ := (Option.bind_some _ _).symm.trans H; with_reducible exact H2_) | with_reducible exact H | (rw [hy171]; exact H) | exact H
    have Ny171 := Aside0.mk hy171
    clear hy171
    have H' := Aside0.mk H
    clear H
    go_enter Try.func17, Try.ntmps17
    go_wp2_with (first | ((with_reducible refine gate_dst (N := 1) rfl ?_); refine box_event ?hg (N := 1) ?hd (cs := #[.slice A0_0 l0_0.length c0_0, .int .i64 a0_1, .int .i64 a0_2, .slice A0_3 l0_3.length c0_3, .bool a0_4]) (t := 24) ?hr ?_; (case hd => rfl); (case hg => rfl); q_hr; intro gb168 hg w7 hbox hb; have n0_ := Aside0.mk (below_step q_hb hb); have n1_ := Aside0.mk (hbox); have n2_ := Aside0.mk ((by rw [hg]; exact q_bs : w.heap.size ≤ gb168)); have n3_ := Aside0.mk ((by rw [hg]; exact q_bs : w.heap.size ≤ gb168)); clear HB; have HB := n0_; have BK168 := n1_; have GW168 := n2_; have GE168 := n3_; clear n0_ n1_ n2_ n3_; (q_x hb hbox hg); have hcz8_0 : w7.cell? ⟨gb168, 0, none⟩ = some (.slice A0_0 l0_0.length c0_0) := (blk_cell BK168.out 0).trans rfl; have hcz8_1 : w7.cell? ⟨gb168, 1, none⟩ = some (.int .i64 a0_1) := (blk_cell BK168.out 1).trans rfl; have hcz8_2 : w7.cell? ⟨gb168, 2, none⟩ = some (.int .i64 a0_2) := (blk_cell BK168.out 2).trans rfl; have hcz8_3 : w7.cell? ⟨gb168, 3, none⟩ = some (.slice A0_3 l0_3.length c0_3) := (blk_cell BK168.out 3).trans rfl; have hcz8_4 : w7.cell? ⟨gb168, 4, none⟩ = some (.bool a0_4) := (blk_cell BK168.out 4).trans rfl; have hfz8_0 := blk_frozen BK168.out 0; have hfz8_1 := blk_frozen BK168.out 1; have hfz8_2 := blk_frozen BK168.out 2; have hfz8_3 := blk_frozen BK168.out 3; have hfz8_4 := blk_frozen BK168.out 4) | ((with_reducible refine gate_callee (f := 21) rfl ?_); refine goesL_ (some 9) rfl rfl Try.func21 (by kernel_rfl) rfl #[.agg #[.slice A0_0 l0_0.length c0_0, .int .i64 a0_1, .int .i64 a0_2, .slice A0_3 l0_3.length c0_3, .bool a0_4]] rfl q_ml ?_; (with_reducible refine (rees_Validate.calls k _ _ l0_0 a0_1 a0_2 _ _ l0_3 a0_4 t169 _ ?side1 ?side2 ?side3 ?side4 A2.out).mono ?_); (case side1 => q_cc (Kd.C_below HR0_0.out HB.out)); (case side2 => exact HC0_0.out); (case side3 => q_cc (Kd.C_below HR0_3.out HB.out)); (case side4 => exact HC0_3.out); rintro e w9 ⟨rfl, hb⟩; refine ⟨_, rfl, ?_⟩; have n0_ := Aside0.mk (blk_below (g := gb168) (o := .cells #[.slice A0_0 l0_0.length c0_0, .int .i64 a0_1, .int .i64 a0_2, .slice A0_3 l0_3.length c0_3, .bool a0_4] 24 (0, 0)) (by q_bk; exact BK168.out) hb); have n1_ := Aside0.mk (below_step (q_hs GE168.out) hb); clear BK168; clear HB; have BK168 := n0_; have HB := n1_; clear n0_ n1_; (q_x hb hb2 hk hi); have hcz10_0 : w9.cell? ⟨gb168, 0, none⟩ = some (.slice A0_0 l0_0.length c0_0) := (blk_cell BK168.out 0).trans rfl; have hcz10_1 : w9.cell? ⟨gb168, 1, none⟩ = some (.int .i64 a0_1) := (blk_cell BK168.out 1).trans rfl; have hcz10_2 : w9.cell? ⟨gb168, 2, none⟩ = some (.int .i64 a0_2) := (blk_cell BK168.out 2).trans rfl; have hcz10_3 : w9.cell? ⟨gb168, 3, none⟩ = some (.slice A0_3 l0_3.length c0_3) := (blk_cell BK168.out 3).trans rfl; have hcz10_4 : w9.cell? ⟨gb168, 4, none⟩ = some (.bool a0_4) := (blk_cell BK168.out 4).trans rfl; have hfz10_0 := blk_frozen BK168.out 0; have hfz10_1 := blk_frozen BK168.out 1; have hfz10_2 := blk_frozen BK168.out 2; have hfz10_3 := blk_frozen BK168.out 3; have hfz10_4 := blk_frozen BK168.out 4) | ((with_reducible refine gate_callee (f := 47) rfl ?_); refine goesL_ (some 14) rfl rfl Try.func47 (by kernel_rfl) rfl #[.agg #[.slice A0_0 l0_0.length c0_0, .int .i64 a0_1, .int .i64 a0_2, .slice A0_3 l0_3.length c0_3, .bool a0_4]] rfl q_ml ?_; (with_reducible refine (rees_size.calls _ _ l0_0 a0_1 a0_2 _ _ l0_3 a0_4 t170 _ ?side1 ?side2 ?side3 ?side4 A4.out).mono ?_); (case side1 => q_cc (Kd.C_below HR0_0.out HB.out)); (case side2 => exact HC0_0.out); (case side3 => q_cc (Kd.C_below HR0_3.out HB.out)); (case side4 => exact HC0_3.out); rintro e w11 ⟨rfl, hb⟩; refine ⟨_, rfl, ?_⟩; have n0_ := Aside0.mk (blk_below (g := gb168) (o := .cells #[.slice A0_0 l0_0.length c0_0, .int .i64 a0_1, .int .i64 a0_2, .slice A0_3 l0_3.length c0_3, .bool a0_4] 24 (0, 0)) (by q_bk; exact BK168.out) hb); have n1_ := Aside0.mk (below_step (q_hs GE168.out) hb); clear BK168; clear HB; have BK168 := n0_; have HB := n1_; clear n0_ n1_; (q_x hb hb2 hk); (try clear hi)) | ((with_reducible refine gate_dst (N := 15) rfl ?_); refine Kd.S_make (Kd.slice 3 (Kd.int .i64)) _ 39 rfl (N := 15) rfl 22 _ _ rfl t170 rfl rfl Try.underlying22 (.slice none 0 0) 24 info39 rfl (by decide) (by omega) [] (ok := fun _ => True) (okp := fun _ => True) ⟨_, rfl, Kd.R_nil _ _ _ _ _⟩ (fun _ hk => hk) trivial (of_decide_eq_true q_as) (Nat.le_trans (Nat.mul_le_mul_right _ (of_decide_eq_true q_as : t170.toNat ≤ 11728124029610)) (by omega)) (Below.refl _ _) (Nat.le_refl _) ?_; intro v172 w12 ho13 hb hg_ hnew_; (q_x hg_ hnew_); (first | rw [← Ny171.out] at ho13 | (simp only [Int.reduceToNat] at ho13; rw [← Ny171.out] at ho13)); have n0_ := Aside0.mk (Kd.S_lower ho13 (below_size (q_hs GE168.out))); have n1_ := Aside0.mk (blk_below (g := gb168) (o := .cells #[.slice A0_0 l0_0.length c0_0, .int .i64 a0_1, .int .i64 a0_2, .slice A0_3 l0_3.length c0_3, .bool a0_4] 24 (0, 0)) (by q_bk; exact BK168.out) hb); have n2_ := Aside0.mk (below_step (q_hs GE168.out) hb); clear BK168; clear HB; have HO173 := n0_; have BK168 := n1_; have HB := n2_; clear n0_ n1_ n2_; (q_x hb ho13); obtain ⟨Ao14, co14, eo14⟩ := Kd.S_slice HO173.out; subst eo14))
    go_loopg [18] k (fun kq v18 w' => ∃ (x5_1 : List (List Int)) (x18_1 : Int), v18 = .int .i64 x18_1 ∧ Aside0 (rees_Table.l0 kq x5_1 (y171.length : Int) x18_1 l0_0 a0_1 a0_2 l0_3 a0_4 = some (r1, r2)) ∧ Aside0 (kq ≤ k) ∧ Aside0 (Kd.S (Kd.slice 3 (Kd.int .i64)) 39 w' w.heap.size (fun _ => True) (.slice Ao14 y171.length co14) x5_1) ∧ Aside0 (w'.heap[gb168]? = some (.cells #[(.slice A0_0 l0_0.length c0_0), .int .i64 a0_1, .int .i64 a0_2, (.slice A0_3 l0_3.length c0_3), .bool a0_4] 24 (0, 0))) ∧ Aside0 (Below w.heap.size w w'))
    case atStart => exact ⟨(y171), (0), q_rs, H', ⟨Nat.le_refl _⟩, ⟨by q_ns; exact HO173.out⟩, ⟨by q_bk; exact BK168.out⟩, ⟨by repeat (first | (with_reducible first | exact HB.out | apply below_alloc | apply pw_below_drewN | apply below_drew1 | refine below_set ?_ GE168.out) | exact HB.out)⟩⟩
    case round =>
     clear H'
     q_x c1 c2 p2 c3 c3b0 c3b1 c4 c5 c5b0 c5b1 c6 c6b0 c6b1 hcz10_0 hcz10_1 hcz10_2 hcz10_3 hcz10_4 hcz8_0 hcz8_1 hcz8_2 hcz8_3 hcz8_4 hfz10_0 hfz10_1 hfz10_2 hfz10_3 hfz10_4 hfz8_0 hfz8_1 hfz8_2 hfz8_3 hfz8_4
     obtain ⟨x5_1, x18_1, rfl, HA, HK1, HO_5, BK168, HB⟩ := hrel
     have hl5_1 := (Kd.S_reads' HO_5.out).1
     rw [hl5_1] at HO_5
     (try simp only [hl5_1])
     (try simp only [hl5_1] at BK168)
     cases gk with
     | zero => exact absurd HA.out (by simp [rees_Table.l0])
     | succ k1 =>
      have H := HA.out
      clear HA
      simp only [rees_Table.l0] at H
      by_cases c15 : x18_1 < (y171.length : Int)
      ·rw [if_pos c15] at H
       have c15b0 : decide (x18_1 < (y171.length : Int)) = true := decide_eq_true c15
       (try (have c15b0z := c15b0; simp only [hl5_1] at c15b0z))
       clear c15
       by_cases c16 : 0 ≤ (x5_1.length : Int)
       ·rw [if_pos c16] at H
        have c16b0 := eq_true c16
        have c16b1 : decide (0 ≤ (x5_1.length : Int)) = true := decide_eq_true c16
        (try (have c16b1z := c16b1; simp only [hl5_1] at c16b1z))
        clear c16
        by_cases c17 : ((x5_1.length : Int) : Int).toNat ≤ 35184372088832
        ·rw [if_pos c17] at H
         have c17b0 := eq_true c17
         have c17b1 : decide (((x5_1.length : Int) : Int).toNat ≤ 35184372088832) = true := decide_eq_true c17
         (try (have c17b1z := c17b1; simp only [hl5_1] at c17b1z))
         clear c17
         obtain ⟨y174, hy174⟩ : ∃ y_ : List Int, y_ = (List.replicate ((x5_1.length : Int) : Int).toNat 0) := ⟨_, rfl⟩
         replace H : (if 0 ≤ x18_1 then (if x18_1 < (x5_1.length : Int) then (rees_Table.l1 k1 (x5_1.set (x18_1 : Int).toNat y174) x18_1 (y171.length : Int) x18_1 (x5_1.length : Int) 0 l0_0 a0_1 a0_2 l0_3 a0_4) else (none)) else (none)) = some (r1, r2) := by first | (rw [hy174]; with_reducible exact H) | (have H2_ := (Option.bind_some _ _).symm.trans H; rw [hy174]; with_reducible exact H2_) | (have H2_ := (Option.bind_some _ _).symm.trans H; with_reducible exact H2_) | with_reducible exact H | (rw [hy174]; exact H) | exact H
         have Ny174 := Aside0.mk hy174
         clear hy174
         by_cases c18 : 0 ≤ x18_1
         ·rw [if_pos c18] at H
          have c18b0 : decide (0 ≤ x18_1) = true := decide_eq_true c18
          clear c18
          by_cases c19 : x18_1 < (x5_1.length : Int)
          ·rw [if_pos c19] at H
           have c19b0 : decide (x18_1 < (x5_1.length : Int)) = true := decide_eq_true c19
           (try (have c19b0z := c19b0; simp only [hl5_1] at c19b0z))
           clear c19
           obtain ⟨y177, hy177⟩ : ∃ y_ : List (List Int), y_ = (x5_1.set (x18_1 : Int).toNat y174) := ⟨_, rfl⟩
           replace H : (rees_Table.l1 k1 y177 x18_1 (y171.length : Int) x18_1 (x5_1.length : Int) 0 l0_0 a0_1 a0_2 l0_3 a0_4) = some (r1, r2) := by first | (rw [hy177]; with_reducible exact H) | (have H2_ := (Option.bind_some _ _).symm.trans H; rw [hy177]; with_reducible exact H2_) | (have H2_ := (Option.bind_some _ _).symm.trans H; with_reducible exact H2_) | with_reducible exact H | (rw [hy177]; exact H) | exact H
           have Ny177 := Aside0.mk hy177
           clear hy177
           have H' := Aside0.mk H
           clear H
           go_wp2_with (first | ((with_reducible refine gate_dst (N := 25) rfl ?_); refine Kd.R_make (Kd.int .i64) _ 3 rfl (N := 25) rfl 39 _ _ rfl (x5_1.length : Int) rfl rfl Try.underlying39 (.int .i64 0) 8 info3 rfl (by decide) (by omega) 0 (ok := fun _ => True) (okp := fun _ => True) rfl (fun _ hk => hk) trivial (of_decide_eq_true q_as) (Nat.le_trans (Nat.mul_le_mul_right _ (of_decide_eq_true q_as : (x5_1.length : Int).toNat ≤ 35184372088832)) (by omega)) (Below.refl _ _) (Nat.le_refl _) ?_; intro v175 w21 ho22 hb hg_ hnew_; (q_x hg_ hnew_); (first | rw [← Ny174.out] at ho22 | (simp only [Int.reduceToNat] at ho22; rw [← Ny174.out] at ho22)); have n0_ := Aside0.mk (Kd.S_elder' (by q_ns; exact HO_5.out) (Kd.R_base ho22) hb); have n1_ := Aside0.mk (Kd.R_lower ho22 (below_size (q_hs GE168.out))); have n2_ := Aside0.mk (blk_below (g := gb168) (o := .cells #[.slice A0_0 l0_0.length c0_0, .int .i64 a0_1, .int .i64 a0_2, .slice A0_3 l0_3.length c0_3, .bool a0_4] 24 (0, 0)) (by q_bk; exact BK168.out) hb); have n3_ := Aside0.mk (below_step (q_hs GE168.out) hb); clear HO_5; clear BK168; clear HB; have HO_5 := n0_; have HO176 := n1_; have BK168 := n2_; have HB := n3_; clear n0_ n1_ n2_ n3_; (q_x hb ho22); have p20 : 0 ≤ (x18_1 : Int) := of_decide_eq_true q_as; have q20 : (x18_1 : Int) < ((x5_1.length : Int) : Int) := of_decide_eq_true q_as; obtain ⟨go20, co20, eo20, gb20, gl20, cl20, HG20⟩ := Kd.S_form HO_5.out (by omega); (first | cases eo20 | (injection eo20 with ea_ en_ ec_; (first | subst ea_ | (injection ea_ with ea_; subst ea_)); subst ec_; clear en_)); have GB20 := Aside0.mk gb20; have GG20 := Aside0.mk HG20; (q_x gb20 gl20 HG20); obtain ⟨_, ce20, hcl20, hM20, hcc20, hfr20, _, _⟩ := Kd.S_elem HO_5.out [] (x18_1 : Int) p20 q20; obtain ⟨ve20_0, rfl, ge20_0⟩ := hM20; have hx20_0 := hcc20 0 _ rfl; have hf20_0 := hfr20 0; (try simp only [show ((Kd.slice 3 (Kd.int .i64))).sz = 1 from rfl, Nat.mul_one, Nat.add_zero] at hx20_0); (try simp only [show ((Kd.slice 3 (Kd.int .i64))).sz = 1 from rfl, Nat.mul_one, Nat.add_zero] at hf20_0); (q_x hcl20 hcc20 hfr20 hM20); replace p20 := eq_true p20; replace q20 := eq_true q20; have n_ := Aside0.mk (Kd.S_mono (ok' := (fun k_ => some k_ ≠ (v175 : Value).ownBlock)) HO_5.out (fun k_ hk => hk.2)); clear HO_5; have HO_5 := n_; clear n_; have HX23 := Aside0.mk (show Kd.S (Kd.slice 3 (Kd.int .i64)) 39 w21 w.heap.size (fun k_ => ((fun _ => True)) k_ ∧ ¬ ((fun k_ => some k_ = (v175 : Value).ownBlock)) k_) (.slice (some ⟨go20, 0, none⟩) x5_1.length co14) x5_1 from (by q_ns; exact Kd.S_mono HO_5.out (fun k_ hk => ⟨trivial, fun e_ => hk e_⟩))); obtain ⟨oki23, ce23, hcl23, hM23, hcc23, hfr23, hoki23, hH23⟩ := Kd.S_elem HX23.out [] (x18_1 : Int) (of_decide_eq_true q_as) (by have h_ : (x18_1 : Int) < ((x5_1.length : Int) : Int) := of_decide_eq_true q_as; first | exact h_ | (have e_ := (Kd.S_reads' HO_5.out).1; omega) | simpa using h_); obtain ⟨ve23_0, rfl, ge23_0⟩ := hM23; have HP23 := Kd.S_seg hH23 (of_decide_eq_true q_as) (by have h_ : (x18_1 : Int) < ((x5_1.length : Int) : Int) := of_decide_eq_true q_as; first | exact h_ | (have e_ := (Kd.S_reads' HO_5.out).1; omega) | simpa using h_) (seg := [v175]) (j := 0) (show 1 ≤ 1 from by decide) (x' := y174) (Kd.M_row (Kd.R_mono (Kd.R_tight rfl (Kd.R_mono (ok' := fun k_ => ((fun _ => True)) k_ ∧ k_ ≠ go20) (Kd.R_apart' (HO176.out) (Kd.S_typed HO_5.out) (by decide)) (fun k_ hk => ⟨trivial, fun e_ => (hk.2) (by rw [e_]; rfl)⟩))) (fun _ h_ => Or.inr (h_)))) (fun _ hk => hk) (fun k_ hk_ => ((Kd.R_mono (ok' := fun k_ => ((fun _ => True)) k_ ∧ k_ ≠ go20) (Kd.R_apart' (HO176.out) (Kd.S_typed HO_5.out) (by decide)) (fun k_ hk => ⟨trivial, fun e_ => (hk.2) (by rw [e_]; rfl)⟩))).1 k_ hk_.symm); have hx23_0 := hcc23 0 _ rfl; (try simp only [show ((Kd.slice 3 (Kd.int .i64))).sz = 1 from rfl, Nat.mul_one, Nat.add_zero] at hx23_0); have hf23_0 := hfr23 0; (try simp only [show ((Kd.slice 3 (Kd.int .i64))).sz = 1 from rfl, Nat.mul_one, Nat.add_zero] at hf23_0); (q_x hcl23 hcc23 hfr23 hM23 hoki23 hH23); (try simp only [show ((Kd.slice 3 (Kd.int .i64))).sz = 1 from rfl, Nat.mul_one, Nat.add_zero] at HP23)) | ((with_reducible refine gate_store (t := 39) (p := 26) rfl ?_); refine store_event (t := 39) (p := 26) (v := ?vo_w24) (w1 := (w21.setCell ⟨go20, (x18_1 : Int).toNat, none⟩ (v175))) ?hg ?ho ?hn ?hr ?_; (case ho => rfl); (case hg => rfl); (case hn => rfl); (case hr => first | (go_simp; done) | (go_simp; rfl) | (obtain ⟨A_, c_, e_⟩ := Kd.R_slice HO176.out; subst e_; first | (go_simp; done) | (go_simp; rfl)) | (obtain ⟨A_, c_, e_⟩ := Kd.S_slice HO176.out; subst e_; first | (go_simp; done) | (go_simp; rfl)) | (obtain ⟨A_, c_, e_⟩ := Kd.N_slice HO176.out; subst e_; first | (go_simp; done) | (go_simp; rfl))); intro w24 hw; have hg : w21.grownBy w24 (some go20) := (by rw [hw]; exact HP23.2); have hp_ : Kd.S (Kd.slice 3 (Kd.int .i64)) 39 w24 w.heap.size (fun _ => True) (.slice (some ⟨go20, 0, none⟩) x5_1.length co14) y177 := (by rw [hw, Ny177.out]; exact HP23.1); clear HP23; have n0_ := Aside0.mk (hp_); have n1_ := Aside0.mk (blk_grown (g := gb168) (o := .cells #[.slice A0_0 l0_0.length c0_0, .int .i64 a0_1, .int .i64 a0_2, .slice A0_3 l0_3.length c0_3, .bool a0_4] 24 (0, 0)) (by q_bk; exact BK168.out) hg (Kd.S_ne HO_5.out BK168.out (by decide))); have n2_ := Aside0.mk ((by rw [hw]; exact below_set (HB.out) GB20.out : Below w.heap.size w w24)); clear HO_5; clear BK168; clear HB; clear HO176; have HO_5 := n0_; have BK168 := n1_; have HB := n2_; clear n0_ n1_ n2_; (q_x hg hw); (try clear hp_)))
           go_loopg [29] k1 (fun kq v29 w' => ∃ (x5_2 : List (List Int)) (x29_2 : Int), v29 = .int .i64 x29_2 ∧ Aside0 (rees_Table.l1 kq x5_2 x18_1 (y171.length : Int) x18_1 (x5_1.length : Int) x29_2 l0_0 a0_1 a0_2 l0_3 a0_4 = some (r1, r2)) ∧ Aside0 (kq ≤ k1) ∧ Aside0 (Kd.S (Kd.slice 3 (Kd.int .i64)) 39 w' w.heap.size (fun _ => True) (.slice (some ⟨go20, 0, none⟩) x5_1.length co14) x5_2) ∧ Aside0 (w'.heap[gb168]? = some (.cells #[(.slice A0_0 l0_0.length c0_0), .int .i64 a0_1, .int .i64 a0_2, (.slice A0_3 l0_3.length c0_3), .bool a0_4] 24 (0, 0))) ∧ Aside0 (Below w.heap.size w w'))
           case atStart => exact ⟨(y177), (0), q_rs, H', ⟨Nat.le_refl _⟩, ⟨by (try simp only [hl5_1]); q_ns; exact HO_5.out⟩, ⟨by (try simp only [hl5_1]); q_bk; exact BK168.out⟩, ⟨by repeat (first | (with_reducible first | exact HB.out | apply below_alloc | apply pw_below_drewN | apply below_drew1 | refine below_set ?_ GE168.out) | exact HB.out)⟩⟩
           case round =>
            clear H'
            q_x c1 c2 p2 q2 hx2 hf2 c3 c3b0 c3b1 c4 c5 c5b0 c5b1 c6 c6b0 c6b1 c15 c15b0 c16 c16b0 c16b1 c17 c17b0 c17b1 c18 c18b0 c19 c19b0 c20 p20 q20 hx20 hf20 c21 c23 hx23 hf23 hcz10_0 hcz10_1 hcz10_2 hcz10_3 hcz10_4 hcz8_0 hcz8_1 hcz8_2 hcz8_3 hcz8_4 hfz10_0 hfz10_1 hfz10_2 hfz10_3 hfz10_4 hfz8_0 hfz8_1 hfz8_2 hfz8_3 hfz8_4 hx20_0 hx23_0 p2 p20 q20
            obtain ⟨x5_2, x29_2, rfl, HA, HK2, HO_5, BK168, HB⟩ := hrel
            have hl5_2 := (Kd.S_reads' HO_5.out).1
            rw [hl5_2] at HO_5
            (try simp only [hl5_2])
            (try simp only [hl5_2] at BK168)
            cases gk with
            | zero => exact absurd HA.out (by simp [rees_Table.l1])
            | succ k2 =>
             have H := HA.out
             clear HA
             simp only [rees_Table.l1] at H
             by_cases c25 : x29_2 < (x5_1.length : Int)
             ·rw [if_pos c25] at H
              have c25b0 : decide (x29_2 < (x5_1.length : Int)) = true := decide_eq_true c25
              (try (have c25b0z := c25b0; simp only [hl5_1, hl5_2] at c25b0z))
              clear c25
              by_cases c26 : 0 ≤ x18_1
              ·rw [if_pos c26] at H
               have c26b0 : decide (0 ≤ x18_1) = true := decide_eq_true c26
               clear c26
               by_cases c27 : x18_1 < (x5_2.length : Int)
               ·rw [if_pos c27] at H
                have c27b0 : decide (x18_1 < (x5_2.length : Int)) = true := decide_eq_true c27
                (try (have c27b0z := c27b0; simp only [hl5_1, hl5_2] at c27b0z))
                clear c27
                replace H := Option.bind_eq_some_iff.mp H
                obtain ⟨t179, A280, H⟩ := H
                replace H : (if 0 ≤ x29_2 then (if x29_2 < ((rd_L1 x5_2 x18_1).length : Int) then (rees_Table.l1 k2 (x5_2.set (x18_1 : Int).toNat ((rd_L1 x5_2 x18_1).set (x29_2 : Int).toNat t179)) x18_1 (y171.length : Int) x18_1 (x5_1.length : Int) (wrap64 (x29_2 + 1)) l0_0 a0_1 a0_2 l0_3 a0_4) else (none)) else (none)) = some (r1, r2) := H
                have A28 := Aside0.mk A280
                clear A280
                by_cases c29 : 0 ≤ x29_2
                ·rw [if_pos c29] at H
                 have c29b0 : decide (0 ≤ x29_2) = true := decide_eq_true c29
                 clear c29
                 by_cases c30 : x29_2 < ((rd_L1 x5_2 x18_1).length : Int)
                 ·rw [if_pos c30] at H
                  have c30b0 : decide (x29_2 < ((rd_L1 x5_2 x18_1).length : Int)) = true := decide_eq_true c30
                  (try (have c30b0z := c30b0; simp only [hl5_1, hl5_2] at c30b0z))
                  clear c30
                  obtain ⟨y180, hy180⟩ : ∃ y_ : List Int, y_ = ((rd_L1 x5_2 x18_1).set (x29_2 : Int).toNat t179) := ⟨_, rfl⟩
                  replace H : (rees_Table.l1 k2 (x5_2.set (x18_1 : Int).toNat y180) x18_1 (y171.length : Int) x18_1 (x5_1.length : Int) (wrap64 (x29_2 + 1)) l0_0 a0_1 a0_2 l0_3 a0_4) = some (r1, r2) := by first | (rw [hy180]; with_reducible exact H) | (have H2_ := (Option.bind_some _ _).symm.trans H; rw [hy180]; with_reducible exact H2_) | (have H2_ := (Option.bind_some _ _).symm.trans H; with_reducible exact H2_) | with_reducible exact H | (rw [hy180]; exact H) | exact H
                  have Ny180 := Aside0.mk hy180
                  clear hy180
                  obtain ⟨y182, hy182⟩ : ∃ y_ : List (List Int), y_ = (x5_2.set (x18_1 : Int).toNat y180) := ⟨_, rfl⟩
                  replace H : (rees_Table.l1 k2 y182 x18_1 (y171.length : Int) x18_1 (x5_1.length : Int) (wrap64 (x29_2 + 1)) l0_0 a0_1 a0_2 l0_3 a0_4) = some (r1, r2) := by first | (rw [hy182]; with_reducible exact H) | (have H2_ := (Option.bind_some _ _).symm.trans H; rw [hy182]; with_reducible exact H2_) | (have H2_ := (Option.bind_some _ _).symm.trans H; with_reducible exact H2_) | with_reducible exact H | (rw [hy182]; exact H) | exact H
                  have Ny182 := Aside0.mk hy182
                  clear hy182
                  have H' := Aside0.mk H
                  clear H
                  try go_wp2
                  have n0_ := Aside0.mk (Kd.S_drew HO_5.out)
                  have n1_ := Aside0.mk (blk_drew BK168.out)
                  have n2_ := Aside0.mk (below_drew1 HB.out)
                  clear HB BK168 HO_5
                  have HO_5 := n0_
                  have BK168 := n1_
                  have HB := n2_
                  clear n0_ n1_ n2_
                  have p178 : 0 ≤ (x18_1 : Int) := of_decide_eq_true q_as
                  have q178 : x18_1 < (x5_2.length : Int) := of_decide_eq_true q_as
                  obtain ⟨ad178, A178_0, c178_0, e178, hx178_0, hl178_0, hi178_0⟩ := at_L1 (Kd.S_reads' HO_5.out).2.2 x18_1 p178 q178
                  obtain rfl : (⟨go20, 0, none⟩ : Addr) = ad178 := (by injection e178)
                  obtain ⟨ce178, hce178, hMe178, hcc178⟩ := Kd.S_get HO_5.out [] x18_1 p178 (by first | exact q178 | exact of_decide_eq_true q_as | (have e_ := (Kd.S_reads' HO_5.out).1; omega))
                  obtain ⟨ve178_0, rfl, ge178_0⟩ := hMe178
                  have hv178_0 := hcc178 0 _ rfl
                  rw [Nat.add_zero, show ((Kd.slice 3 (Kd.int .i64))).sz = 1 from rfl, Nat.mul_one] at hv178_0
                  replace hv178_0 := Option.some.inj (hv178_0.symm.trans hx178_0)
                  rw [hv178_0] at ge178_0
                  have HL178_0 := Aside0.mk (show Kd.R (Kd.int .i64) 3 _ _ _ _ (rd_L1 x5_2 x18_1) from ge178_0)
                  (try clear hv178_0); (try clear ge178_0)
                  have HX178_0 := Aside0.mk hx178_0
                  (try clear hcc178); (try clear hce178)
                  (first | simp only [add_plain] at hx178_0 | simp only [add_at] at hx178_0 | simp only [Addr.add, Nat.zero_add] at hx178_0 | skip)
                  have HR178_0 := Aside0.mk hi178_0
                  have HC178_0 := Aside0.mk hl178_0
                  (try clear hi178_0); (try clear hl178_0)
                  q_t p178 q178
                  refine start_ (n := 11) (S := fun w' => w'.cell? ⟨gb168, 0, none⟩ = some (.slice A0_0 l0_0.length c0_0) ∧ w'.cell? ⟨gb168, 1, none⟩ = some (.int .i64 a0_1) ∧ w'.cell? ⟨gb168, 2, none⟩ = some (.int .i64 a0_2) ∧ w'.cell? ⟨gb168, 3, none⟩ = some (.slice A0_3 l0_3.length c0_3) ∧ w'.cell? ⟨gb168, 4, none⟩ = some (.bool a0_4) ∧ w'.cell? ⟨go20, (x18_1).toNat, none⟩ = some (.slice A178_0 (rd_L1 x5_2 x18_1).length c178_0)) (ds := [10]) #[false, false, false, false, false, false, false, false, false, false, false] (by kernel_rfl) rfl rfl ⟨(blk_cell BK168.out 0).trans rfl, (blk_cell BK168.out 1).trans rfl, (blk_cell BK168.out 2).trans rfl, (blk_cell BK168.out 3).trans rfl, (blk_cell BK168.out 4).trans rfl, hx178_0⟩ (fun hHeld => ?_); refine with_tabW rees_Table.tab12 rees_Table.bits12 (fun HT_ HW_ => ?_)
                  generalize wr.drew = w32 at HO_5 BK168 HB HL178_0 HR178_0 HX178_0 hx178_0 hHeld ⊢
                  refine pure_ (i := 0) (N := some 32) (v := ?_) (a' := ?_) #[true, false, false, false, false, false, false, false, false, false, false] rfl rfl q_ho q_id (Or.inl ⟨by rfl, ?_⟩) ?_ ?_
                  rotate_left
                  ·intro w'
                   go_simp
                   with_reducible rfl
                  rotate_left
                  ·q_si
                   rfl
                  refine pure_ (i := 1) (N := some 33) (v := ?_) (a' := ?_) #[true, true, false, false, false, false, false, false, false, false, false] rfl rfl q_ho q_id (Or.inl ⟨by rfl, ?_⟩) ?_ ?_
                  rotate_left
                  ·intro w'
                   go_simp
                   with_reducible rfl
                  rotate_left
                  ·q_si
                   rfl
                  refine pure_ (i := 2) (N := some 34) (v := ?_) (a' := ?_) #[true, true, true, false, false, false, false, false, false, false, false] rfl rfl q_ho q_id (Or.inl ⟨by rfl, ?_⟩) ?_ ?_
                  rotate_left
                  ·intro w'
                   go_simp
                   with_reducible rfl
                  rotate_left
                  ·q_si
                   rfl
                  refine pure_ (i := 4) (N := some 36) (v := ?_) (a' := ?_) #[true, true, true, false, true, false, false, false, false, false, false] rfl rfl q_ho q_id (Or.inl ⟨by rfl, ?_⟩) ?_ ?_
                  rotate_left
                  ·intro w'
                   go_simp
                   with_reducible rfl
                  rotate_left
                  ·q_si
                   rfl
                  refine pure_ (i := 6) (N := some 38) (v := ?_) (a' := ?_) #[true, true, true, false, true, false, true, false, false, false, false] rfl rfl q_ho q_id (Or.inl ⟨by rfl, ?_⟩) ?_ ?_
                  rotate_left
                  ·intro w'
                   go_simp
                   with_reducible rfl
                  rotate_left
                  ·q_si
                   rfl
                  refine pure_ (i := 7) (N := some 39) (v := ?_) (a' := ?_) #[true, true, true, false, true, false, true, true, false, false, false] rfl rfl q_ho q_id (Or.inl ⟨by rfl, ?_⟩) ?_ ?_
                  rotate_left
                  ·intro w'
                   go_simp
                   with_reducible rfl
                  rotate_left
                  ·q_si
                   rfl
                  refine take_ (i := 3) (N := some 35) (v := ?_) (a' := ?_) #[true, true, true, true, true, false, true, true, false, false, false] rfl rfl q_to q_id (Or.inl ⟨by rfl, ?_⟩) hHeld ?_ ?_
                  rotate_left
                  ·rintro w' ⟨s0, s1, s2, s3, s4, s5⟩
                   go_simp
                   with_reducible rfl
                  rotate_left
                  ·q_si
                   rfl
                  refine take_ (i := 5) (N := some 37) (v := ?_) (a' := ?_) #[true, true, true, true, true, true, true, true, false, false, false] rfl rfl q_to q_id (Or.inl ⟨by rfl, ?_⟩) hHeld ?_ ?_
                  rotate_left
                  ·rintro w' ⟨s0, s1, s2, s3, s4, s5⟩
                   go_simp
                   with_reducible rfl
                  rotate_left
                  ·q_si
                   rfl
                  refine one_ (i := 8) (N := some 40) #[true, true, true, true, true, true, true, true, true, false, false] rfl rfl (one_of HT_.out (by kernel_rfl)) (by decide) (fun K hK => ?_)
                  refine goes_ Try.func48 (by kernel_rfl) rfl #[.agg #[.slice A0_0 l0_0.length c0_0, .int .i64 a0_1, .int .i64 a0_2, .slice A0_3 l0_3.length c0_3, .bool a0_4], .int .i64 x18_1, .int .i64 x29_2] (by rfl) rfl rfl q_ml ?_
                  with_reducible refine (rees_mul.calls k2 _ _ l0_0 a0_1 a0_2 _ _ l0_3 a0_4 x18_1 x29_2 t179 _ ?side1 ?side2 ?side3 ?side4 A28.out).mono ?_
                  (case side1 => q_cc (Kd.C_below HR0_0.out HB.out))
                  (case side2 => exact HC0_0.out)
                  (case side3 => q_cc (Kd.C_below HR0_3.out HB.out))
                  (case side4 => exact HC0_3.out)
                  rintro e w33 ⟨rfl, hb⟩
                  have HS5_ := (hb.cell (World.block_lt_of_cell? _ _ (hHeld.2.2.2.2.2))).trans (hHeld.2.2.2.2.2)
                  refine ⟨_, rfl, ?_⟩
                  have n0_ := Aside0.mk (Kd.S_below (by q_ns; exact HO_5.out) hb)
                  have n1_ := Aside0.mk (Kd.R_below (by q_nr; exact HL178_0.out) hb)
                  have n2_ := Aside0.mk (blk_below (g := gb168) (o := .cells #[.slice A0_0 l0_0.length c0_0, .int .i64 a0_1, .int .i64 a0_2, .slice A0_3 l0_3.length c0_3, .bool a0_4] 24 (0, 0)) (by q_bk; exact BK168.out) hb)
                  have n3_ := Aside0.mk (Kd.C_below (by repeat (first | (with_reducible exact HR178_0.out) | (with_reducible refine Kd.C_alloc ?_ _) | (with_reducible refine Kd.C_drewN ?_ _) | (with_reducible refine Kd.C_drew ?_) | exact HR178_0.out)) hb)
                  have n4_ := Aside0.mk (pw_cell_below hb HX178_0.out)
                  have n5_ := Aside0.mk (below_step (q_hs GE168.out) hb)
                  clear HB HX178_0 HR178_0 BK168 HL178_0 HO_5
                  have HO_5 := n0_
                  have HL178_0 := n1_
                  have BK168 := n2_
                  have HR178_0 := n3_
                  have HX178_0 := n4_
                  have HB := n5_
                  clear n0_ n1_ n2_ n3_ n4_ n5_
                  (try clear hb)
                  (try clear hb2)
                  (try clear hk)
                  (try clear hi)
                  have p31 : 0 ≤ (x29_2 : Int) := of_decide_eq_true q_as
                  have q31 : (x29_2 : Int) < (((rd_L1 x5_2 x18_1).length : Int) : Int) := of_decide_eq_true q_as
                  obtain ⟨go31, co31, eo31, gb31, gl31, cl31, HG31⟩ := Kd.R_form HL178_0.out (by omega)
                  (first | cases eo31 | (injection eo31 with ea_ en_ ec_; (first | subst ea_ | (injection ea_ with ea_; subst ea_)); subst ec_; clear en_))
                  have GB31 := Aside0.mk gb31
                  have GG31 := Aside0.mk HG31
                  (q_x gb31 gl31); (try clear HG31)
                  obtain ⟨hx31_0, hf31_0⟩ := Kd.R_celln 0 HL178_0.out (x29_2 : Int) p31 q31
                  q_t p31 q31
                  have hq34 : (x18_1 : Int) < (x5_2.length : Int) := (by have h_ : (x18_1 : Int) < ((x5_2.length : Int) : Int) := of_decide_eq_true q_as; first | exact h_ | (have e_ := (Kd.S_reads' HO_5.out).1; omega) | simpa only [List.length_set, List.length_set] using h_)
                  obtain ⟨oki34, ce34, hcl34, hM34, hcc34, hok34, hbk34⟩ := Kd.S_borrow HO_5.out [] (x18_1 : Int) (of_decide_eq_true q_as) hq34
                  obtain ⟨ve34_0, rfl, ge34_0⟩ := hM34
                  have hv34 := hcc34 0 _ rfl
                  rw [Nat.add_zero, show ((Kd.slice 3 (Kd.int .i64))).sz = 1 from rfl, Nat.mul_one] at hv34
                  replace hv34 := Option.some.inj (hv34.symm.trans HX178_0.out)
                  subst hv34
                  (try clear hcc34); (try clear hcl34)
                  replace ge34_0 := (show Kd.R (Kd.int .i64) 3 _ _ _ _ (rd_L1 x5_2 x18_1) from ge34_0)
                  have HP34 := Kd.R_putg ge34_0 (x29_2 : Int) t179
                  rw [← Ny180.out] at HP34
                  have HS34 := hbk34 HP34.2 (fun k_ e_ => by injection e_ with e_; subst e_; exact ge34_0.1 _ rfl) (x' := y180) (Kd.M_row HP34.1)
                  rw [← Ny182.out] at HS34
                  have HQ34 := Aside0.mk HS34
                  (q_x HP34 HS34 hbk34); (try clear hok34)
                  refine hK.out _ _ ⟨(blk_cell BK168.out 0).trans rfl, (blk_cell BK168.out 1).trans rfl, (blk_cell BK168.out 2).trans rfl, (blk_cell BK168.out 3).trans rfl, (blk_cell BK168.out 4).trans rfl, HS5_⟩ (fun hHeld => ?_)
                  clear hK K
                  refine norm_ (a' := ?_) ?_ ?_
                  rotate_left
                  ·show Act.put _ (some 40) _ = _
                   simp only [Act.put, List.setIfInBounds_toArray, List.set_cons_zero, List.set_cons_succ, i64_w, i32_w]
                   rfl
                  refine pure_ (i := 9) (N := some 41) (v := ?_) (a' := ?_) #[true, true, true, true, true, true, true, true, true, true, false] rfl rfl q_ho q_id (Or.inl ⟨by rfl, ?_⟩) ?_ ?_
                  rotate_left
                  ·intro w'
                   go_simp
                   with_reducible rfl
                  rotate_left
                  ·q_si
                   rfl
                  refine last_ (i := 10) (N := none) #[true, true, true, true, true, true, true, true, true, true, true] rfl rfl (one_of HT_.out (by kernel_rfl)) (by decide) (fun K hK => ?_)
                  refine skip_ (w1 := ?_) (by rfl) rfl ?_ ?_
                  rotate_left
                  ·go_simp
                   rfl
                  refine hK.out _ _ ?_
                  clear hK K
                  refine done_ (done_of HT_.out (by kernel_rfl)) ?_
                  try go_wp2
                  (try simp only [← hl5_2])
                  go_roundg k2
                  case measure => have := HK1.out; have := HK2.out; omega
                  case rel => exact ⟨(y182), (wrap64 (x29_2 + 1)), q_rs, H', ⟨by have := HK1.out; have := HK2.out; omega⟩, ⟨by (try simp only [hl5_1]); (try simp only [hl5_2]); q_ns; exact HQ34.out⟩, ⟨by (try simp only [hl5_1]); (try simp only [hl5_2]); q_bk; refine blk_far ?_ (by have h_ := Kd.R_ne HL178_0.out BK168.out (by decide); intro e_; exact h_ (by rw [e_]; rfl)) _; q_bk; exact BK168.out⟩, ⟨by repeat (first | (with_reducible first | exact HB.out | apply below_alloc | apply pw_below_drewN | apply below_drew1 | refine below_set ?_ GB31.out | refine below_set ?_ GE168.out) | exact HB.out)⟩⟩
                 ·rw [if_neg c30] at H
                  exact absurd H (by simp)
                ·rw [if_neg c29] at H
                 exact absurd H (by simp)
               ·rw [if_neg c27] at H
                exact absurd H (by simp)
              ·rw [if_neg c26] at H
               exact absurd H (by simp)
             ·rw [if_neg c25] at H
              have c25b0 : decide (x29_2 < (x5_1.length : Int)) = false := decide_eq_false c25
              (try (have c25b0z := c25b0; simp only [hl5_1, hl5_2] at c25b0z))
              clear c25
              have H' := Aside0.mk H
              clear H
              go_wp2
              (try simp only [← hl5_1, ← hl5_2])
              go_roundg k2
              case measure => have := HK1.out; have := HK2.out; omega
              case rel => exact ⟨(x5_2), (wrap64 (x18_1 + 1)), q_rs, H', ⟨by have := HK1.out; have := HK2.out; omega⟩, ⟨by (try simp only [hl5_1]); (try simp only [hl5_2]); q_ns; exact HO_5.out⟩, ⟨by (try simp only [hl5_1]); (try simp only [hl5_2]); q_bk; exact BK168.out⟩, ⟨by repeat (first | (with_reducible first | exact HB.out | apply below_alloc | apply pw_below_drewN | apply below_drew1 | refine below_set ?_ GE168.out) | exact HB.out)⟩⟩
          ·rw [if_neg c19] at H
           exact absurd H (by simp)
         ·rw [if_neg c18] at H
          exact absurd H (by simp)
        ·rw [if_neg c17] at H
         exact absurd H (by simp)
       ·rw [if_neg c16] at H
        exact absurd H (by simp)
      ·rw [if_neg c15] at H
       have c15b0 : decide (x18_1 < (y171.length : Int)) = false := decide_eq_false c15
       (try (have c15b0z := c15b0; simp only [hl5_1] at c15b0z))
       clear c15
       simp only [Option.some.injEq, Prod.mk.injEq] at H
       obtain ⟨rfl, rfl⟩ := H
       go_wp2
       go_ret2
       exact ⟨_, by first | rfl | q_em | q_en, by q_ns; exact HO_5.out, by repeat (first | (with_reducible first | exact HB.out | apply below_alloc | apply pw_below_drewN | apply below_drew1 | refine below_set ?_ GE168.out) | exact HB.out)⟩
   ·rw [if_neg c6] at H
    exact absurd H (by simp)
  ·rw [if_neg c5] at H
   exact absurd H (by simp)
 ·rw [if_neg c3] at H
  have c3b0 : (t169 == 0) = false := beq_eq_false_iff_ne.mpr c3
  have c3b1 : (t169 != 0) = true := bne_iff_ne.mpr c3
  simp only [Option.some.injEq, Prod.mk.injEq] at H
  obtain ⟨rfl, rfl⟩ := H
  go_enter Try.func17, Try.ntmps17
  go_wp2_with (first | ((with_reducible refine gate_dst (N := 1) rfl ?_); refine box_event ?hg (N := 1) ?hd (cs := #[.slice A0_0 l0_0.length c0_0, .int .i64 a0_1, .int .i64 a0_2, .slice A0_3 l0_3.length c0_3, .bool a0_4]) (t := 24) ?hr ?_; (case hd => rfl); (case hg => rfl); q_hr; intro gb168 hg w36 hbox hb; have n0_ := Aside0.mk (below_step q_hb hb); have n1_ := Aside0.mk (hbox); have n2_ := Aside0.mk ((by rw [hg]; exact q_bs : w.heap.size ≤ gb168)); have n3_ := Aside0.mk ((by rw [hg]; exact q_bs : w.heap.size ≤ gb168)); clear HB; have HB := n0_; have BK168 := n1_; have GW168 := n2_; have GE168 := n3_; clear n0_ n1_ n2_ n3_; (q_x hb hbox hg); have hcz37_0 : w36.cell? ⟨gb168, 0, none⟩ = some (.slice A0_0 l0_0.length c0_0) := (blk_cell BK168.out 0).trans rfl; have hcz37_1 : w36.cell? ⟨gb168, 1, none⟩ = some (.int .i64 a0_1) := (blk_cell BK168.out 1).trans rfl; have hcz37_2 : w36.cell? ⟨gb168, 2, none⟩ = some (.int .i64 a0_2) := (blk_cell BK168.out 2).trans rfl; have hcz37_3 : w36.cell? ⟨gb168, 3, none⟩ = some (.slice A0_3 l0_3.length c0_3) := (blk_cell BK168.out 3).trans rfl; have hcz37_4 : w36.cell? ⟨gb168, 4, none⟩ = some (.bool a0_4) := (blk_cell BK168.out 4).trans rfl; have hfz37_0 := blk_frozen BK168.out 0; have hfz37_1 := blk_frozen BK168.out 1; have hfz37_2 := blk_frozen BK168.out 2; have hfz37_3 := blk_frozen BK168.out 3; have hfz37_4 := blk_frozen BK168.out 4) | ((with_reducible refine gate_callee (f := 21) rfl ?_); refine goesL_ (some 9) rfl rfl Try.func21 (by kernel_rfl) rfl #[.agg #[.slice A0_0 l0_0.length c0_0, .int .i64 a0_1, .int .i64 a0_2, .slice A0_3 l0_3.length c0_3, .bool a0_4]] rfl q_ml ?_; (with_reducible refine (rees_Validate.calls k _ _ l0_0 a0_1 a0_2 _ _ l0_3 a0_4 t169 _ ?side1 ?side2 ?side3 ?side4 A2.out).mono ?_); (case side1 => q_cc (Kd.C_below HR0_0.out HB.out)); (case side2 => exact HC0_0.out); (case side3 => q_cc (Kd.C_below HR0_3.out HB.out)); (case side4 => exact HC0_3.out); rintro e w38 ⟨rfl, hb⟩; refine ⟨_, rfl, ?_⟩; have n0_ := Aside0.mk (blk_below (g := gb168) (o := .cells #[.slice A0_0 l0_0.length c0_0, .int .i64 a0_1, .int .i64 a0_2, .slice A0_3 l0_3.length c0_3, .bool a0_4] 24 (0, 0)) (by q_bk; exact BK168.out) hb); have n1_ := Aside0.mk (below_step (q_hs GE168.out) hb); clear BK168; clear HB; have BK168 := n0_; have HB := n1_; clear n0_ n1_; (q_x hb hb2 hk); (try clear hi)))
  go_ret2
  exact ⟨_, by first | rfl | q_em | q_en, by first | exact Kd.S_nil _ _ _ _ _ | exact Kd.N_nil _ _ _ _ _ | exact Kd.V_nil _ _ _ _ _ | exact Kd.Q_nil _ _ _ _ _ | exact Kd.R_nil _ _ _ _ _, by repeat (first | (with_reducible first | exact HB.out | apply below_alloc | apply pw_below_drewN | apply below_drew1 | refine below_set ?_ GE168.out) | exact HB.out)⟩

/-! ### rees_Regular: function 23 -/
mutual
def rees_Regular.l0 : Nat → List Bool → List Bool → Int → Int → List (List Int) → Int → Int → List (List Int) → Bool → Option (Bool)
 | 0, _, _, _, _, _, _, _, _, _ => none
 | k + 1, x3, x4, x21, x22, x184000, x184001, x184002, x184003, x184004 => if x22 < x21 then (if 0 ≤ x22 then (if x22 < (x184003.length : Int) then (rees_Regular.l1 k x3 x4 x22 x21 x22 (rd_L1 x184003 x22) ((rd_L1 x184003 x22).length : Int) 0 x184000 x184001 x184002 x184003 x184004) else (none)) else (none)) else (if x3.length + x4.length < 140737488355328 then ((some (x3 ++ x4 : List Bool)).bind fun y202 => (rees_Regular.l2 k y202 (y202.length : Int) 0)) else (none))
def rees_Regular.l1 : Nat → List Bool → List Bool → Int → Int → Int → List Int → Int → Int → List (List Int) → Int → Int → List (List Int) → Bool → Option (Bool)
 | 0, _, _, _, _, _, _, _, _, _, _, _, _, _ => none
 | k + 1, x3, x4, x5, x21, x22, x29, x30, x31, x184000, x184001, x184002, x184003, x184004 => if x31 < x30 then (if 0 ≤ x31 then (if x31 < (x29.length : Int) then (if x31 < (x3.length : Int) then (if rdOf false x3 x31 = true then ((some (x3.set (x31 : Int).toNat true : List Bool)).bind fun y194 => (if 0 ≤ x5 then (if x5 < (x4.length : Int) then (if rdOf false x4 x5 = true then (rees_Regular.l1 k y194 (x4.set (x5 : Int).toNat true) x5 x21 x22 x29 x30 (wrap64 (x31 + 1)) x184000 x184001 x184002 x184003 x184004) else (rees_Regular.l1 k y194 (x4.set (x5 : Int).toNat (decide ((rd x29 x31) ≥ 0))) x5 x21 x22 x29 x30 (wrap64 (x31 + 1)) x184000 x184001 x184002 x184003 x184004)) else (none)) else (none))) else ((some (x3.set (x31 : Int).toNat (decide ((rd x29 x31) ≥ 0)) : List Bool)).bind fun y198 => (if 0 ≤ x5 then (if x5 < (x4.length : Int) then (if rdOf false x4 x5 = true then (rees_Regular.l1 k y198 (x4.set (x5 : Int).toNat true) x5 x21 x22 x29 x30 (wrap64 (x31 + 1)) x184000 x184001 x184002 x184003 x184004) else (rees_Regular.l1 k y198 (x4.set (x5 : Int).toNat (decide ((rd x29 x31) ≥ 0))) x5 x21 x22 x29 x30 (wrap64 (x31 + 1)) x184000 x184001 x184002 x184003 x184004)) else (none)) else (none)))) else (none)) else (none)) else (none)) else (rees_Regular.l0 k x3 x4 x21 (wrap64 (x22 + 1)) x184000 x184001 x184002 x184003 x184004)
def rees_Regular.l2 : Nat → List Bool → Int → Int → Option (Bool)
 | 0, _, _, _ => none
 | k + 1, x62, x63, x64 => if x64 < x63 then (if 0 ≤ x64 then (if x64 < (x62.length : Int) then (if rdOf false x62 x64 = true then (rees_Regular.l2 k x62 x63 (wrap64 (x64 + 1))) else (some false)) else (none)) else (none)) else (some true)
end
def rees_Regular.f (k : Nat) (l0_0 : List (List Int)) (a0_1 : Int) (a0_2 : Int) (l0_3 : List (List Int)) (a0_4 : Bool) : Option (Bool) := (rees_Validate.f k l0_0 a0_1 a0_2 l0_3 a0_4).bind fun t184 => (if t184 = 0 then (if 0 ≤ a0_1 then (if (a0_1 : Int).toNat ≤ 281474976710656 then (if 0 ≤ a0_2 then (if (a0_2 : Int).toNat ≤ 281474976710656 then (rees_Regular.l0 k (List.replicate (a0_1 : Int).toNat false) (List.replicate (a0_2 : Int).toNat false) (l0_3.length : Int) 0 l0_0 a0_1 a0_2 l0_3 a0_4) else (none)) else (none)) else (none)) else (none)) else (some false))
theorem rees_Regular.mono_l : ∀ k, (∀ y0 y1 y2 y3 y4 y5 y6 y7 y8, LeO (rees_Regular.l0 k y0 y1 y2 y3 y4 y5 y6 y7 y8) (rees_Regular.l0 (k + 1) y0 y1 y2 y3 y4 y5 y6 y7 y8)) ∧ (∀ y0 y1 y2 y3 y4 y5 y6 y7 y8 y9 y10 y11 y12, LeO (rees_Regular.l1 k y0 y1 y2 y3 y4 y5 y6 y7 y8 y9 y10 y11 y12) (rees_Regular.l1 (k + 1) y0 y1 y2 y3 y4 y5 y6 y7 y8 y9 y10 y11 y12)) ∧ (∀ y0 y1 y2, LeO (rees_Regular.l2 k y0 y1 y2) (rees_Regular.l2 (k + 1) y0 y1 y2))
 | 0 => ⟨fun _ _ _ _ _ _ _ _ _ r h => by simp [rees_Regular.l0] at h, fun _ _ _ _ _ _ _ _ _ _ _ _ _ r h => by simp [rees_Regular.l1] at h, fun _ _ _ r h => by simp [rees_Regular.l2] at h⟩
 | k + 1 => by
  obtain ⟨ih0, ih1, ih2⟩ := rees_Regular.mono_l k
  refine ⟨?_, ?_, ?_⟩
  ·intro y0 y1 y2 y3 y4 y5 y6 y7 y8
   unfold rees_Regular.l0
   repeat' first
   | (with_reducible exact ih0 _ _ _ _ _ _ _ _ _)
   | (with_reducible exact ih1 _ _ _ _ _ _ _ _ _ _ _ _ _)
   | (with_reducible exact ih2 _ _ _)
   | (with_reducible exact rees_Validate.mono _ _ _ _ _ _)
   | (with_reducible exact LeO.refl _)
   | (with_reducible exact LeO.none _)
   | (with_reducible refine LeO.ite ?_ ?_)
   | (with_reducible refine LeO.bind ?_ (fun _ => ?_))
   | exact ih0 _ _ _ _ _ _ _ _ _
   | exact ih1 _ _ _ _ _ _ _ _ _ _ _ _ _
   | exact ih2 _ _ _
   | exact rees_Validate.mono _ _ _ _ _ _
   | exact LeO.none _
   | refine LeO.ite ?_ ?_
   | refine LeO.bind ?_ (fun _ => ?_)
  ·intro y0 y1 y2 y3 y4 y5 y6 y7 y8 y9 y10 y11 y12
   unfold rees_Regular.l1
   repeat' first
   | (with_reducible exact ih0 _ _ _ _ _ _ _ _ _)
   | (with_reducible exact ih1 _ _ _ _ _ _ _ _ _ _ _ _ _)
   | (with_reducible exact ih2 _ _ _)
   | (with_reducible exact rees_Validate.mono _ _ _ _ _ _)
   | (with_reducible exact LeO.refl _)
   | (with_reducible exact LeO.none _)
   | (with_reducible refine LeO.ite ?_ ?_)
   | (with_reducible refine LeO.bind ?_ (fun _ => ?_))
   | exact ih0 _ _ _ _ _ _ _ _ _
   | exact ih1 _ _ _ _ _ _ _ _ _ _ _ _ _
   | exact ih2 _ _ _
   | exact rees_Validate.mono _ _ _ _ _ _
   | exact LeO.none _
   | refine LeO.ite ?_ ?_
   | refine LeO.bind ?_ (fun _ => ?_)
  ·intro y0 y1 y2
   unfold rees_Regular.l2
   repeat' first
   | (with_reducible exact ih0 _ _ _ _ _ _ _ _ _)
   | (with_reducible exact ih1 _ _ _ _ _ _ _ _ _ _ _ _ _)
   | (with_reducible exact ih2 _ _ _)
   | (with_reducible exact rees_Validate.mono _ _ _ _ _ _)
   | (with_reducible exact LeO.refl _)
   | (with_reducible exact LeO.none _)
   | (with_reducible refine LeO.ite ?_ ?_)
   | (with_reducible refine LeO.bind ?_ (fun _ => ?_))
   | exact ih0 _ _ _ _ _ _ _ _ _
   | exact ih1 _ _ _ _ _ _ _ _ _ _ _ _ _
   | exact ih2 _ _ _
   | exact rees_Validate.mono _ _ _ _ _ _
   | exact LeO.none _
   | refine LeO.ite ?_ ?_
   | refine LeO.bind ?_ (fun _ => ?_)
theorem rees_Regular.mono : ∀ a0 a1 a2 a3 a4 k, LeO (rees_Regular.f k a0 a1 a2 a3 a4) (rees_Regular.f (k + 1) a0 a1 a2 a3 a4) := by
 intro a0 a1 a2 a3 a4 k
 obtain ⟨ih0, ih1, ih2⟩ := rees_Regular.mono_l k
 unfold rees_Regular.f
 repeat' first
   | (with_reducible exact ih0 _ _ _ _ _ _ _ _ _)
   | (with_reducible exact ih1 _ _ _ _ _ _ _ _ _ _ _ _ _)
   | (with_reducible exact ih2 _ _ _)
   | (with_reducible exact rees_Validate.mono _ _ _ _ _ _)
   | (with_reducible exact LeO.refl _)
   | (with_reducible exact LeO.none _)
   | (with_reducible refine LeO.ite ?_ ?_)
   | (with_reducible refine LeO.bind ?_ (fun _ => ?_))
   | exact ih0 _ _ _ _ _ _ _ _ _
   | exact ih1 _ _ _ _ _ _ _ _ _ _ _ _ _
   | exact ih2 _ _ _
   | exact rees_Validate.mono _ _ _ _ _ _
   | exact LeO.none _
   | refine LeO.ite ?_ ?_
   | refine LeO.bind ?_ (fun _ => ?_)
def rees_Regular.T3 : Bool × List (List Nat × List Nat) := (true, [([], []), ([0], [0]), ([1, 1], [1]), ([], []), ([3], [3]), ([4, 4], [4]), ([2, 0, 1, 2], [2]), ([5, 6, 0, 1, 2, 3, 4, 5, 6], [5])])
def rees_Regular.B3 : List Nat := [0, 1, 3, 0, 8, 24, 7, 127]
theorem rees_Regular.tab3 : rtab .any (opsOf Try.f23 3) = rees_Regular.T3 := by kernel_rfl
theorem rees_Regular.bits3 : waitsOk rees_Regular.T3.2 rees_Regular.B3 = true := by kernel_rfl
set_option maxHeartbeats 8000000 in
set_option maxRecDepth 100000 in
theorem rees_Regular.calls (k : Nat) (A0_0 : Option Addr) (c0_0 : Nat) (l0_0 : List (List Int)) (a0_1 : Int) (a0_2 : Int) (A0_3 : Option Addr) (c0_3 : Nat) (l0_3 : List (List Int)) (a0_4 : Bool) (r : Bool) (w : World) (hr0_0 : Kd.C (Kd.slice 3 (Kd.int .i64)) w A0_0 l0_0.length l0_0) (hc0_0 : l0_0.length ≤ c0_0) (hr0_3 : Kd.C (Kd.slice 3 (Kd.int .i64)) w A0_3 l0_3.length l0_3) (hc0_3 : l0_3.length ≤ c0_3) (h : rees_Regular.f k l0_0 a0_1 a0_2 l0_3 a0_4 = some r) :
  Calls Try.prog 23 #[.agg #[.slice A0_0 l0_0.length c0_0, .int .i64 a0_1, .int .i64 a0_2, .slice A0_3 l0_3.length c0_3, .bool a0_4]] w fun e w' => e = .returned (.bool r) ∧ Below w.heap.size w w' := by
 have hu24 := Try.underlying24
 have HR0_0 := Aside0.mk hr0_0
 have HC0_0 := Aside0.mk hc0_0
 (try clear hr0_0); (try clear hc0_0)
 have HR0_3 := Aside0.mk hr0_3
 have HC0_3 := Aside0.mk hc0_3
 (try clear hr0_3); (try clear hc0_3)
 have HB := Aside0.mk (Below.refl w.heap.size w)
 have H : ((rees_Validate.f k l0_0 a0_1 a0_2 l0_3 a0_4).bind fun t184 => (if t184 = 0 then (if 0 ≤ a0_1 then (if (a0_1 : Int).toNat ≤ 281474976710656 then (if 0 ≤ a0_2 then (if (a0_2 : Int).toNat ≤ 281474976710656 then (rees_Regular.l0 k (List.replicate (a0_1 : Int).toNat false) (List.replicate (a0_2 : Int).toNat false) (l0_3.length : Int) 0 l0_0 a0_1 a0_2 l0_3 a0_4) else (none)) else (none)) else (none)) else (none)) else (some false))) = some r := h
 clear h
 replace H := Option.bind_eq_some_iff.mp H
 obtain ⟨t184, A20, H⟩ := H
 replace H : (if t184 = 0 then (if 0 ≤ a0_1 then (if (a0_1 : Int).toNat ≤ 281474976710656 then (if 0 ≤ a0_2 then (if (a0_2 : Int).toNat ≤ 281474976710656 then (rees_Regular.l0 k (List.replicate (a0_1 : Int).toNat false) (List.replicate (a0_2 : Int).toNat false) (l0_3.length : Int) 0 l0_0 a0_1 a0_2 l0_3 a0_4) else (none)) else (none)) else (none)) else (none)) else (some false)) = some r := H
 have A2 := Aside0.mk A20
 clear A20
 by_cases c3 : t184 = 0
 ·rw [if_pos c3] at H
  have c3b0 : (t184 == 0) = true := beq_iff_eq.mpr c3
  have c3b1 : (t184 != 0) = false := bne_eq_false_iff_eq.mpr c3
  clear c3
  by_cases c4 : 0 ≤ a0_1
  ·rw [if_pos c4] at H
   have c4b0 := eq_true c4
   have c4b1 : decide (0 ≤ a0_1) = true := decide_eq_true c4
   clear c4
   by_cases c5 : (a0_1 : Int).toNat ≤ 281474976710656
   ·rw [if_pos c5] at H
    have c5b0 := eq_true c5
    have c5b1 : decide ((a0_1 : Int).toNat ≤ 281474976710656) = true := decide_eq_true c5
    clear c5
    obtain ⟨y185, hy185⟩ : ∃ y_ : List Bool, y_ = (List.replicate (a0_1 : Int).toNat false) := ⟨_, rfl⟩
    replace H : (if 0 ≤ a0_2 then (if (a0_2 : Int).toNat ≤ 281474976710656 then (rees_Regular.l0 k y185 (List.replicate (a0_2 : Int).toNat false) (l0_3.length : Int) 0 l0_0 a0_1 a0_2 l0_3 a0_4) else (none)) else (none)) = some r := by first | (rw [hy185]; with_reducible exact H) | (have H2_ := (Option.bind_some _ _).symm.trans H; rw [hy185]; with_reducible exact H2_) | (have H2_ := (Option.bind_some _ _).symm.trans H; with_reducible exact H2_) | with_reducible exact H | (rw [hy185]; exact H) | exact H
    have Ny185 := Aside0.mk hy185
    clear hy185
    by_cases c6 : 0 ≤ a0_2
    ·rw [if_pos c6] at H
     have c6b0 := eq_true c6
     have c6b1 : decide (0 ≤ a0_2) = true := decide_eq_true c6
     clear c6
     by_cases c7 : (a0_2 : Int).toNat ≤ 281474976710656
     ·rw [if_pos c7] at H
      have c7b0 := eq_true c7
      have c7b1 : decide ((a0_2 : Int).toNat ≤ 281474976710656) = true := decide_eq_true c7
      clear c7
      obtain ⟨y188, hy188⟩ : ∃ y_ : List Bool, y_ = (List.replicate (a0_2 : Int).toNat false) := ⟨_, rfl⟩
      replace H : (rees_Regular.l0 k y185 y188 (l0_3.length : Int) 0 l0_0 a0_1 a0_2 l0_3 a0_4) = some r := by first | (rw [hy188]; with_reducible exact H) | (have H2_ := (Option.bind_some _ _).symm.trans H; rw [hy188]; with_reducible exact H2_) | (have H2_ := (Option.bind_some _ _).symm.trans H; with_reducible exact H2_) | with_reducible exact H | (rw [hy188]; exact H) | exact H
      have Ny188 := Aside0.mk hy188
      clear hy188
      have H' := Aside0.mk H
      clear H
      go_enter Try.func23, Try.ntmps23
      try go_wp2_with (first | ((with_reducible refine gate_dst (N := 1) rfl ?_); refine box_event ?hg (N := 1) ?hd (cs := #[.slice A0_0 l0_0.length c0_0, .int .i64 a0_1, .int .i64 a0_2, .slice A0_3 l0_3.length c0_3, .bool a0_4]) (t := 24) ?hr ?_; (case hd => rfl); (case hg => rfl); q_hr; intro gb183 hg w8 hbox hb; have n0_ := Aside0.mk (below_step q_hb hb); have n1_ := Aside0.mk (hbox); have n2_ := Aside0.mk ((by rw [hg]; exact q_bs : w.heap.size ≤ gb183)); have n3_ := Aside0.mk ((by rw [hg]; exact q_bs : w.heap.size ≤ gb183)); clear HB; have HB := n0_; have BK183 := n1_; have GW183 := n2_; have GE183 := n3_; clear n0_ n1_ n2_ n3_; (q_x hb hbox hg); have hcz9_0 : w8.cell? ⟨gb183, 0, none⟩ = some (.slice A0_0 l0_0.length c0_0) := (blk_cell BK183.out 0).trans rfl; have hcz9_1 : w8.cell? ⟨gb183, 1, none⟩ = some (.int .i64 a0_1) := (blk_cell BK183.out 1).trans rfl; have hcz9_2 : w8.cell? ⟨gb183, 2, none⟩ = some (.int .i64 a0_2) := (blk_cell BK183.out 2).trans rfl; have hcz9_3 : w8.cell? ⟨gb183, 3, none⟩ = some (.slice A0_3 l0_3.length c0_3) := (blk_cell BK183.out 3).trans rfl; have hcz9_4 : w8.cell? ⟨gb183, 4, none⟩ = some (.bool a0_4) := (blk_cell BK183.out 4).trans rfl; have hfz9_0 := blk_frozen BK183.out 0; have hfz9_1 := blk_frozen BK183.out 1; have hfz9_2 := blk_frozen BK183.out 2; have hfz9_3 := blk_frozen BK183.out 3; have hfz9_4 := blk_frozen BK183.out 4) | ((with_reducible refine gate_callee (f := 21) rfl ?_); refine goesL_ (some 11) rfl rfl Try.func21 (by kernel_rfl) rfl #[.agg #[.slice A0_0 l0_0.length c0_0, .int .i64 a0_1, .int .i64 a0_2, .slice A0_3 l0_3.length c0_3, .bool a0_4]] rfl q_ml ?_; (with_reducible refine (rees_Validate.calls k _ _ l0_0 a0_1 a0_2 _ _ l0_3 a0_4 t184 _ ?side1 ?side2 ?side3 ?side4 A2.out).mono ?_); (case side1 => q_cc (Kd.C_below HR0_0.out HB.out)); (case side2 => exact HC0_0.out); (case side3 => q_cc (Kd.C_below HR0_3.out HB.out)); (case side4 => exact HC0_3.out); rintro e w10 ⟨rfl, hb⟩; refine ⟨_, rfl, ?_⟩; have n0_ := Aside0.mk (blk_below (g := gb183) (o := .cells #[.slice A0_0 l0_0.length c0_0, .int .i64 a0_1, .int .i64 a0_2, .slice A0_3 l0_3.length c0_3, .bool a0_4] 24 (0, 0)) (by q_bk; exact BK183.out) hb); have n1_ := Aside0.mk (below_step (q_hs GE183.out) hb); clear BK183; clear HB; have BK183 := n0_; have HB := n1_; clear n0_ n1_; (q_x hb hb2 hk); (try clear hi)))
      have n0_ := Aside0.mk (blk_drew BK183.out)
      have n1_ := Aside0.mk (below_drew1 HB.out)
      clear HB BK183
      have BK183 := n0_
      have HB := n1_
      clear n0_ n1_
      refine start_ (n := 8) (S := fun w' => w'.cell? ⟨gb183, 0, none⟩ = some (.slice A0_0 l0_0.length c0_0) ∧ w'.cell? ⟨gb183, 1, none⟩ = some (.int .i64 a0_1) ∧ w'.cell? ⟨gb183, 2, none⟩ = some (.int .i64 a0_2) ∧ w'.cell? ⟨gb183, 3, none⟩ = some (.slice A0_3 l0_3.length c0_3) ∧ w'.cell? ⟨gb183, 4, none⟩ = some (.bool a0_4)) (ds := []) #[false, false, false, false, false, false, false, false] (by kernel_rfl) rfl rfl ⟨(blk_cell BK183.out 0).trans rfl, (blk_cell BK183.out 1).trans rfl, (blk_cell BK183.out 2).trans rfl, (blk_cell BK183.out 3).trans rfl, (blk_cell BK183.out 4).trans rfl⟩ (fun hHeld => ?_); refine with_tabW rees_Regular.tab3 rees_Regular.bits3 (fun HT_ HW_ => ?_)
      generalize w10.drew = w11 at BK183 HB hHeld ⊢
      refine pure_ (i := 0) (N := some 13) (v := ?_) (a' := ?_) #[true, false, false, false, false, false, false, false] rfl rfl q_ho q_id (Or.inl ⟨by rfl, ?_⟩) ?_ ?_
      rotate_left
      ·intro w'
       go_simp
       with_reducible rfl
      rotate_left
      ·q_si
       rfl
      refine pure_ (i := 3) (N := some 16) (v := ?_) (a' := ?_) #[true, false, false, true, false, false, false, false] rfl rfl q_ho q_id (Or.inl ⟨by rfl, ?_⟩) ?_ ?_
      rotate_left
      ·intro w'
       go_simp
       with_reducible rfl
      rotate_left
      ·q_si
       rfl
      refine take_ (i := 1) (N := some 14) (v := ?_) (a' := ?_) #[true, true, false, true, false, false, false, false] rfl rfl q_to q_id (Or.inl ⟨by rfl, ?_⟩) hHeld ?_ ?_
      rotate_left
      ·rintro w' ⟨s0, s1, s2, s3, s4⟩
       go_simp
       with_reducible rfl
      rotate_left
      ·q_si
       rfl
      refine take_ (i := 4) (N := some 17) (v := ?_) (a' := ?_) #[true, true, false, true, true, false, false, false] rfl rfl q_to q_id (Or.inl ⟨by rfl, ?_⟩) hHeld ?_ ?_
      rotate_left
      ·rintro w' ⟨s0, s1, s2, s3, s4⟩
       go_simp
       with_reducible rfl
      rotate_left
      ·q_si
       rfl
      refine join_ (σ := Value × Value) 1 #[true, true, true, true, true, true, true, false] (fun s_ => [(15, s_.1), (18, s_.2), (3, s_.1)]) (fun s_ w' => (w'.cell? ⟨gb183, 0, none⟩ = some (.slice A0_0 l0_0.length c0_0) ∧ w'.cell? ⟨gb183, 1, none⟩ = some (.int .i64 a0_1) ∧ w'.cell? ⟨gb183, 2, none⟩ = some (.int .i64 a0_2) ∧ w'.cell? ⟨gb183, 3, none⟩ = some (.slice A0_3 l0_3.length c0_3) ∧ w'.cell? ⟨gb183, 4, none⟩ = some (.bool a0_4)) ∧ (Kd.R Kd.bool 4 w' w.heap.size (fun k_ => some k_ ≠ (s_.2 : Value).ownBlock) s_.1 y185) ∧ (Kd.R Kd.bool 4 w' w.heap.size (fun k_ => some k_ ≠ (s_.1 : Value).ownBlock) s_.2 y188) ∧ (w'.heap[gb183]? = some (.cells #[.slice A0_0 l0_0.length c0_0, .int .i64 a0_1, .int .i64 a0_2, .slice A0_3 l0_3.length c0_3, .bool a0_4] 24 (0, 0))) ∧ (Below w.heap.size w w')) ?_ ?_
      rotate_left
      ·intro hCont
       refine two_ (i := 2) (j := 5) (Ni := some 15) (Nj := some 18) #[true, true, true, true, true, false, false, false] #[true, true, false, true, true, true, false, false] rfl rfl rfl rfl (two_of HT_.out (by kernel_rfl)) (by decide) (by decide) (fun K hK => ?_) (fun K hK => ?_)
       ·skip
        refine Kd.R_make_step Kd.bool _ 4 (by rfl) (N := 15) rfl 44 _ _ rfl a0_1 rfl rfl Try.underlying44 (.bool false) 1 info4 rfl (by decide) (by omega) false (ok := fun _ => True) (okp := fun _ => True) rfl (fun _ hk => hk) trivial (of_decide_eq_true q_as) (Nat.le_trans (Nat.mul_le_mul_right _ (of_decide_eq_true q_as : a0_1.toNat ≤ 281474976710656)) (by omega)) (Below.refl _ _) (Nat.le_refl _) ?_
        intro v186 w12 ho13 hb hg_ hnew_
        (try clear hg_); (try clear hnew_)
        (first | rw [← Ny185.out] at ho13 | (simp only [Int.reduceToNat] at ho13; rw [← Ny185.out] at ho13))
        have n0_ := Aside0.mk (Kd.R_lower ho13 (below_size (q_hs GE183.out)))
        have n1_ := Aside0.mk (blk_below (g := gb183) (o := .cells #[.slice A0_0 l0_0.length c0_0, .int .i64 a0_1, .int .i64 a0_2, .slice A0_3 l0_3.length c0_3, .bool a0_4] 24 (0, 0)) (by q_bk; exact BK183.out) hb)
        have n2_ := Aside0.mk (below_step (q_hs GE183.out) hb)
        clear HB BK183
        have HO187 := n0_
        have BK183 := n1_
        have HB := n2_
        clear n0_ n1_ n2_
        (try clear hb); (try clear ho13)
        refine hK.out _ _ ⟨(blk_cell BK183.out 0).trans rfl, (blk_cell BK183.out 1).trans rfl, (blk_cell BK183.out 2).trans rfl, (blk_cell BK183.out 3).trans rfl, (blk_cell BK183.out 4).trans rfl⟩ (fun hHeld => ?_)
        clear hK K
        refine norm_ (a' := ?_) ?_ ?_
        rotate_left
        ·show Act.put _ (some 15) _ = _
         simp only [Act.put, List.setIfInBounds_toArray, List.set_cons_zero, List.set_cons_succ, i64_w, i32_w]
         rfl
        refine pure_ (i := 6) (N := some 3) (v := ?_) (a' := ?_) #[true, true, true, true, true, false, true, false] rfl rfl q_ho q_id (Or.inl ⟨by rfl, ?_⟩) ?_ ?_
        rotate_left
        ·intro w'
         go_simp
         with_reducible rfl
        rotate_left
        ·q_si
         rfl
        refine one_ (i := 5) (N := some 18) #[true, true, true, true, true, true, true, false] rfl rfl (one_of HT_.out (by kernel_rfl)) (by decide) (fun K hK => ?_)
        refine Kd.R_make_step Kd.bool _ 4 (by rfl) (N := 18) rfl 44 _ _ rfl a0_2 rfl rfl Try.underlying44 (.bool false) 1 info4 rfl (by decide) (by omega) false (ok := fun _ => True) (okp := fun _ => True) rfl (fun _ hk => hk) trivial (of_decide_eq_true q_as) (Nat.le_trans (Nat.mul_le_mul_right _ (of_decide_eq_true q_as : a0_2.toNat ≤ 281474976710656)) (by omega)) (Below.refl _ _) (Nat.le_refl _) ?_
        intro v189 w14 ho15 hb hg_ hnew_
        (try clear hg_); (try clear hnew_)
        (first | rw [← Ny188.out] at ho15 | (simp only [Int.reduceToNat] at ho15; rw [← Ny188.out] at ho15))
        have n0_ := Aside0.mk (Kd.R_elder' (by q_nr; exact HO187.out) (Kd.R_base ho15) hb)
        have n1_ := Aside0.mk (Kd.R_lower (Kd.R_new' ho15 (Kd.R_lt (by q_nr; exact HO187.out))) (below_size (q_hs GE183.out)))
        have n2_ := Aside0.mk (blk_below (g := gb183) (o := .cells #[.slice A0_0 l0_0.length c0_0, .int .i64 a0_1, .int .i64 a0_2, .slice A0_3 l0_3.length c0_3, .bool a0_4] 24 (0, 0)) (by q_bk; exact BK183.out) hb)
        have n3_ := Aside0.mk (below_step (q_hs GE183.out) hb)
        clear HB BK183 HO187
        have HO187 := n0_
        have HO190 := n1_
        have BK183 := n2_
        have HB := n3_
        clear n0_ n1_ n2_ n3_
        (try clear hb); (try clear ho15)
        refine hK.out _ _ ⟨(blk_cell BK183.out 0).trans rfl, (blk_cell BK183.out 1).trans rfl, (blk_cell BK183.out 2).trans rfl, (blk_cell BK183.out 3).trans rfl, (blk_cell BK183.out 4).trans rfl⟩ (fun hHeld => ?_)
        clear hK K
        refine norm_ (a' := ?_) ?_ ?_
        rotate_left
        ·show Act.put _ (some 18) _ = _
         simp only [Act.put, List.setIfInBounds_toArray, List.set_cons_zero, List.set_cons_succ, i64_w, i32_w]
         rfl
        exact norm_ (by simp only [putAll, Act.put, List.setIfInBounds_toArray, List.set_cons_zero, List.set_cons_succ]) (hCont (v186, v189) _ ⟨hHeld, (by q_nr; exact Kd.R_mono HO187.out (fun _ hk => hk.2)), (by q_nr; exact Kd.R_mono HO190.out (fun _ hk => hk.2)), (by q_bk; exact BK183.out), (q_hs GE183.out)⟩)
       ·skip
        refine Kd.R_make_step Kd.bool _ 4 (by rfl) (N := 18) rfl 44 _ _ rfl a0_2 rfl rfl Try.underlying44 (.bool false) 1 info4 rfl (by decide) (by omega) false (ok := fun _ => True) (okp := fun _ => True) rfl (fun _ hk => hk) trivial (of_decide_eq_true q_as) (Nat.le_trans (Nat.mul_le_mul_right _ (of_decide_eq_true q_as : a0_2.toNat ≤ 281474976710656)) (by omega)) (Below.refl _ _) (Nat.le_refl _) ?_
        intro v189 w12 ho13 hb hg_ hnew_
        (try clear hg_); (try clear hnew_)
        (first | rw [← Ny188.out] at ho13 | (simp only [Int.reduceToNat] at ho13; rw [← Ny188.out] at ho13))
        have n0_ := Aside0.mk (Kd.R_lower ho13 (below_size (q_hs GE183.out)))
        have n1_ := Aside0.mk (blk_below (g := gb183) (o := .cells #[.slice A0_0 l0_0.length c0_0, .int .i64 a0_1, .int .i64 a0_2, .slice A0_3 l0_3.length c0_3, .bool a0_4] 24 (0, 0)) (by q_bk; exact BK183.out) hb)
        have n2_ := Aside0.mk (below_step (q_hs GE183.out) hb)
        clear HB BK183
        have HO190 := n0_
        have BK183 := n1_
        have HB := n2_
        clear n0_ n1_ n2_
        (try clear hb); (try clear ho13)
        refine hK.out _ _ ⟨(blk_cell BK183.out 0).trans rfl, (blk_cell BK183.out 1).trans rfl, (blk_cell BK183.out 2).trans rfl, (blk_cell BK183.out 3).trans rfl, (blk_cell BK183.out 4).trans rfl⟩ (fun hHeld => ?_)
        clear hK K
        refine norm_ (a' := ?_) ?_ ?_
        rotate_left
        ·show Act.put _ (some 18) _ = _
         simp only [Act.put, List.setIfInBounds_toArray, List.set_cons_zero, List.set_cons_succ, i64_w, i32_w]
         rfl
        refine one_ (i := 2) (N := some 15) #[true, true, true, true, true, true, false, false] rfl rfl (one_of HT_.out (by kernel_rfl)) (by decide) (fun K hK => ?_)
        refine Kd.R_make_step Kd.bool _ 4 (by rfl) (N := 15) rfl 44 _ _ rfl a0_1 rfl rfl Try.underlying44 (.bool false) 1 info4 rfl (by decide) (by omega) false (ok := fun _ => True) (okp := fun _ => True) rfl (fun _ hk => hk) trivial (of_decide_eq_true q_as) (Nat.le_trans (Nat.mul_le_mul_right _ (of_decide_eq_true q_as : a0_1.toNat ≤ 281474976710656)) (by omega)) (Below.refl _ _) (Nat.le_refl _) ?_
        intro v186 w14 ho15 hb hg_ hnew_
        (try clear hg_); (try clear hnew_)
        (first | rw [← Ny185.out] at ho15 | (simp only [Int.reduceToNat] at ho15; rw [← Ny185.out] at ho15))
        have n0_ := Aside0.mk (Kd.R_elder' (by q_nr; exact HO190.out) (Kd.R_base ho15) hb)
        have n1_ := Aside0.mk (Kd.R_lower (Kd.R_new' ho15 (Kd.R_lt (by q_nr; exact HO190.out))) (below_size (q_hs GE183.out)))
        have n2_ := Aside0.mk (blk_below (g := gb183) (o := .cells #[.slice A0_0 l0_0.length c0_0, .int .i64 a0_1, .int .i64 a0_2, .slice A0_3 l0_3.length c0_3, .bool a0_4] 24 (0, 0)) (by q_bk; exact BK183.out) hb)
        have n3_ := Aside0.mk (below_step (q_hs GE183.out) hb)
        clear HB BK183 HO190
        have HO190 := n0_
        have HO187 := n1_
        have BK183 := n2_
        have HB := n3_
        clear n0_ n1_ n2_ n3_
        (try clear hb); (try clear ho15)
        refine hK.out _ _ ⟨(blk_cell BK183.out 0).trans rfl, (blk_cell BK183.out 1).trans rfl, (blk_cell BK183.out 2).trans rfl, (blk_cell BK183.out 3).trans rfl, (blk_cell BK183.out 4).trans rfl⟩ (fun hHeld => ?_)
        clear hK K
        refine norm_ (a' := ?_) ?_ ?_
        rotate_left
        ·show Act.put _ (some 15) _ = _
         simp only [Act.put, List.setIfInBounds_toArray, List.set_cons_zero, List.set_cons_succ, i64_w, i32_w]
         rfl
        refine pure_ (i := 6) (N := some 3) (v := ?_) (a' := ?_) #[true, true, true, true, true, true, true, false] rfl rfl q_ho q_id (Or.inl ⟨by rfl, ?_⟩) ?_ ?_
        rotate_left
        ·intro w'
         go_simp
         with_reducible rfl
        rotate_left
        ·q_si
         rfl
        exact norm_ (by simp only [putAll, Act.put, List.setIfInBounds_toArray, List.set_cons_zero, List.set_cons_succ]) (hCont (v186, v189) _ ⟨hHeld, (by q_nr; exact Kd.R_mono HO187.out (fun _ hk => hk.2)), (by q_nr; exact Kd.R_mono HO190.out (fun _ hk => hk.2)), (by q_bk; exact BK183.out), (q_hs GE183.out)⟩)
      rintro ⟨v186, v189⟩ w16 ⟨hS_, h0_, h1_, h2_, h3_⟩
      have n0_ : Aside0 (Kd.R Kd.bool 4 w16 w.heap.size (fun k_ => some k_ ≠ (v189 : Value).ownBlock) v186 y185) := ⟨h0_⟩
      have n1_ : Aside0 (Kd.R Kd.bool 4 w16 w.heap.size (fun k_ => some k_ ≠ (v186 : Value).ownBlock) v189 y188) := ⟨h1_⟩
      have n2_ : Aside0 (w16.heap[gb183]? = some (.cells #[.slice A0_0 l0_0.length c0_0, .int .i64 a0_1, .int .i64 a0_2, .slice A0_3 l0_3.length c0_3, .bool a0_4] 24 (0, 0))) := ⟨h2_⟩
      have n3_ : Aside0 (Below w.heap.size w w16) := ⟨h3_⟩
      clear HB BK183
      clear h0_ h1_ h2_ h3_
      have HO187 := n0_
      have HO190 := n1_
      have BK183 := n2_
      have HB := n3_
      clear n0_ n1_ n2_ n3_
      have hHeld : w16.cell? ⟨gb183, 0, none⟩ = some (.slice A0_0 l0_0.length c0_0) ∧ w16.cell? ⟨gb183, 1, none⟩ = some (.int .i64 a0_1) ∧ w16.cell? ⟨gb183, 2, none⟩ = some (.int .i64 a0_2) ∧ w16.cell? ⟨gb183, 3, none⟩ = some (.slice A0_3 l0_3.length c0_3) ∧ w16.cell? ⟨gb183, 4, none⟩ = some (.bool a0_4) := hS_
      refine norm_ (a' := ?_) ?_ ?_
      rotate_left
      ·simp only [putAll, Act.put, List.setIfInBounds_toArray, List.set_cons_zero, List.set_cons_succ]
       rfl
      refine pure_ (i := 7) (N := some 4) (v := ?_) (a' := ?_) #[true, true, true, true, true, true, true, true] rfl rfl q_ho q_id (Or.inl ⟨by rfl, ?_⟩) ?_ ?_
      rotate_left
      ·intro w'
       go_simp
       with_reducible rfl
      rotate_left
      ·q_si
       rfl
      refine done_ (done_of HT_.out (by kernel_rfl)) ?_
      have hcz17_0 : w16.cell? ⟨gb183, 0, none⟩ = some (.slice A0_0 l0_0.length c0_0) := (blk_cell BK183.out 0).trans rfl
      have hcz17_1 : w16.cell? ⟨gb183, 1, none⟩ = some (.int .i64 a0_1) := (blk_cell BK183.out 1).trans rfl
      have hcz17_2 : w16.cell? ⟨gb183, 2, none⟩ = some (.int .i64 a0_2) := (blk_cell BK183.out 2).trans rfl
      have hcz17_3 : w16.cell? ⟨gb183, 3, none⟩ = some (.slice A0_3 l0_3.length c0_3) := (blk_cell BK183.out 3).trans rfl
      have hcz17_4 : w16.cell? ⟨gb183, 4, none⟩ = some (.bool a0_4) := (blk_cell BK183.out 4).trans rfl
      have hfz17_0 := blk_frozen BK183.out 0
      have hfz17_1 := blk_frozen BK183.out 1
      have hfz17_2 := blk_frozen BK183.out 2
      have hfz17_3 := blk_frozen BK183.out 3
      have hfz17_4 := blk_frozen BK183.out 4
      try go_wp2
      go_loopg [22] k (fun kq v22 w' => ∃ (x3_1 : List Bool) (x4_1 : List Bool) (x22_1 : Int), v22 = .int .i64 x22_1 ∧ Aside0 (rees_Regular.l0 kq x3_1 x4_1 (l0_3.length : Int) x22_1 l0_0 a0_1 a0_2 l0_3 a0_4 = some r) ∧ Aside0 (kq ≤ k) ∧ Aside0 (Kd.R Kd.bool 4 w' w.heap.size (fun k_ => some k_ ≠ (v189 : Value).ownBlock) v186 x3_1) ∧ Aside0 (Kd.R Kd.bool 4 w' w.heap.size (fun k_ => some k_ ≠ (v186 : Value).ownBlock) v189 x4_1) ∧ Aside0 (w'.heap[gb183]? = some (.cells #[(.slice A0_0 l0_0.length c0_0), .int .i64 a0_1, .int .i64 a0_2, (.slice A0_3 l0_3.length c0_3), .bool a0_4] 24 (0, 0))) ∧ Aside0 (Below w.heap.size w w'))
      case atStart => exact ⟨(y185), (y188), (0), q_rs, H', ⟨Nat.le_refl _⟩, ⟨by q_nr; exact HO187.out⟩, ⟨by q_nr; exact HO190.out⟩, ⟨by q_bk; exact BK183.out⟩, ⟨by repeat (first | (with_reducible first | exact HB.out | apply below_alloc | apply pw_below_drewN | apply below_drew1 | refine below_set ?_ GE183.out) | exact HB.out)⟩⟩
      case round =>
       clear H'
       q_x c2 p2 c3 c3b0 c3b1 c4 c4b0 c4b1 c5 c5b0 c5b1 c6 c6b0 c6b1 c7 c7b0 c7b1 hcz17_0 hcz17_1 hcz17_2 hcz17_3 hcz17_4 hcz9_0 hcz9_1 hcz9_2 hcz9_3 hcz9_4 hfz17_0 hfz17_1 hfz17_2 hfz17_3 hfz17_4 hfz9_0 hfz9_1 hfz9_2 hfz9_3 hfz9_4
       obtain ⟨x3_1, x4_1, x22_1, rfl, HA, HK1, HO_3, HO_4, BK183, HB⟩ := hrel
       cases gk with
       | zero => exact absurd HA.out (by simp [rees_Regular.l0])
       | succ k1 =>
        have H := HA.out
        clear HA
        simp only [rees_Regular.l0] at H
        by_cases c18 : x22_1 < (l0_3.length : Int)
        ·rw [if_pos c18] at H
         have c18b0 : decide (x22_1 < (l0_3.length : Int)) = true := decide_eq_true c18
         clear c18
         by_cases c19 : 0 ≤ x22_1
         ·rw [if_pos c19] at H
          have c19b0 : decide (0 ≤ x22_1) = true := decide_eq_true c19
          clear c19
          by_cases c20 : x22_1 < (l0_3.length : Int)
          ·rw [if_pos c20] at H
           have c20b0 : decide (x22_1 < (l0_3.length : Int)) = true := decide_eq_true c20
           clear c20
           have H' := Aside0.mk H
           clear H
           have hcz21_0 : wr.cell? ⟨gb183, 0, none⟩ = some (.slice A0_0 l0_0.length c0_0) := (blk_cell BK183.out 0).trans rfl
           have hcz21_1 : wr.cell? ⟨gb183, 1, none⟩ = some (.int .i64 a0_1) := (blk_cell BK183.out 1).trans rfl
           have hcz21_2 : wr.cell? ⟨gb183, 2, none⟩ = some (.int .i64 a0_2) := (blk_cell BK183.out 2).trans rfl
           have hcz21_3 : wr.cell? ⟨gb183, 3, none⟩ = some (.slice A0_3 l0_3.length c0_3) := (blk_cell BK183.out 3).trans rfl
           have hcz21_4 : wr.cell? ⟨gb183, 4, none⟩ = some (.bool a0_4) := (blk_cell BK183.out 4).trans rfl
           have hfz21_0 := blk_frozen BK183.out 0
           have hfz21_1 := blk_frozen BK183.out 1
           have hfz21_2 := blk_frozen BK183.out 2
           have hfz21_3 := blk_frozen BK183.out 3
           have hfz21_4 := blk_frozen BK183.out 4
           have p191 : 0 ≤ (x22_1 : Int) := of_decide_eq_true q_as
           have q191 : x22_1 < (l0_3.length : Int) := of_decide_eq_true q_as
           obtain ⟨ad191, A191_0, c191_0, e191, hx191_0, hl191_0, hi191_0⟩ := at_L1 HR0_3.out x22_1 p191 q191
           cases e191
           replace hx191_0 := (HB.out.cell (World.block_lt_of_cell? w _ hx191_0)).trans hx191_0
           have HR191_0 := Aside0.mk hi191_0
           have HC191_0 := Aside0.mk hl191_0
           (try clear hi191_0); (try clear hl191_0)
           q_t p191 q191
           go_wp2
           go_loopg [31] k1 (fun kq v31 w' => ∃ (x3_2 : List Bool) (x4_2 : List Bool) (x31_2 : Int), v31 = .int .i64 x31_2 ∧ Aside0 (rees_Regular.l1 kq x3_2 x4_2 x22_1 (l0_3.length : Int) x22_1 (rd_L1 l0_3 x22_1) ((rd_L1 l0_3 x22_1).length : Int) x31_2 l0_0 a0_1 a0_2 l0_3 a0_4 = some r) ∧ Aside0 (kq ≤ k1) ∧ Aside0 (Kd.R Kd.bool 4 w' w.heap.size (fun k_ => some k_ ≠ (v189 : Value).ownBlock) v186 x3_2) ∧ Aside0 (Kd.R Kd.bool 4 w' w.heap.size (fun k_ => some k_ ≠ (v186 : Value).ownBlock) v189 x4_2) ∧ Aside0 (w'.heap[gb183]? = some (.cells #[(.slice A0_0 l0_0.length c0_0), .int .i64 a0_1, .int .i64 a0_2, (.slice (some ad191) l0_3.length c0_3), .bool a0_4] 24 (0, 0))) ∧ Aside0 (Below w.heap.size w w'))
           case atStart => exact ⟨(x3_1), (x4_1), (0), q_rs, H', ⟨Nat.le_refl _⟩, ⟨by q_nr; exact HO_3.out⟩, ⟨by q_nr; exact HO_4.out⟩, ⟨by q_bk; exact BK183.out⟩, ⟨by repeat (first | (with_reducible first | exact HB.out | apply below_alloc | apply pw_below_drewN | apply below_drew1 | refine below_set ?_ GE183.out) | exact HB.out)⟩⟩
           case round =>
            clear H'
            q_x c1 p1 q1 hx1 c2 p2 c3 c3b0 c3b1 c4 c4b0 c4b1 c5 c5b0 c5b1 c6 c6b0 c6b1 c7 c7b0 c7b1 c18 c18b0 c19 c19b0 p19 q19 hx19 c20 c20b0 c21 hcz17_0 hcz17_1 hcz17_2 hcz17_3 hcz17_4 hcz21_0 hcz21_1 hcz21_2 hcz21_3 hcz21_4 hcz9_0 hcz9_1 hcz9_2 hcz9_3 hcz9_4 hfz17_0 hfz17_1 hfz17_2 hfz17_3 hfz17_4 hfz21_0 hfz21_1 hfz21_2 hfz21_3 hfz21_4 hfz9_0 hfz9_1 hfz9_2 hfz9_3 hfz9_4 hx191_0 p191 p2 q191
            obtain ⟨x3_2, x4_2, x31_2, rfl, HA, HK2, HO_3, HO_4, BK183, HB⟩ := hrel
            cases gk with
            | zero => exact absurd HA.out (by simp [rees_Regular.l1])
            | succ k2 =>
             have H := HA.out
             clear HA
             simp only [rees_Regular.l1] at H
             by_cases c22 : x31_2 < ((rd_L1 l0_3 x22_1).length : Int)
             ·rw [if_pos c22] at H
              have c22b0 : decide (x31_2 < ((rd_L1 l0_3 x22_1).length : Int)) = true := decide_eq_true c22
              clear c22
              by_cases c23 : 0 ≤ x31_2
              ·rw [if_pos c23] at H
               have c23b0 : decide (0 ≤ x31_2) = true := decide_eq_true c23
               clear c23
               by_cases c24 : x31_2 < ((rd_L1 l0_3 x22_1).length : Int)
               ·rw [if_pos c24] at H
                have c24b0 : decide (x31_2 < ((rd_L1 l0_3 x22_1).length : Int)) = true := decide_eq_true c24
                clear c24
                by_cases c25 : x31_2 < (x3_2.length : Int)
                ·rw [if_pos c25] at H
                 have c25b0 : decide (x31_2 < (x3_2.length : Int)) = true := decide_eq_true c25
                 clear c25
                 obtain ⟨bq26, hbq26⟩ : ∃ b_ : Bool, b_ = (rdOf false x3_2 x31_2) := ⟨_, rfl⟩
                 replace H : (if bq26 = true then ((some (x3_2.set (x31_2 : Int).toNat true : List Bool)).bind fun y194 => (if 0 ≤ x22_1 then (if x22_1 < (x4_2.length : Int) then (if rdOf false x4_2 x22_1 = true then (rees_Regular.l1 k2 y194 (x4_2.set (x22_1 : Int).toNat true) x22_1 (l0_3.length : Int) x22_1 (rd_L1 l0_3 x22_1) ((rd_L1 l0_3 x22_1).length : Int) (wrap64 (x31_2 + 1)) l0_0 a0_1 a0_2 l0_3 a0_4) else (rees_Regular.l1 k2 y194 (x4_2.set (x22_1 : Int).toNat (decide ((rd (rd_L1 l0_3 x22_1) x31_2) ≥ 0))) x22_1 (l0_3.length : Int) x22_1 (rd_L1 l0_3 x22_1) ((rd_L1 l0_3 x22_1).length : Int) (wrap64 (x31_2 + 1)) l0_0 a0_1 a0_2 l0_3 a0_4)) else (none)) else (none))) else ((some (x3_2.set (x31_2 : Int).toNat (decide ((rd (rd_L1 l0_3 x22_1) x31_2) ≥ 0)) : List Bool)).bind fun y198 => (if 0 ≤ x22_1 then (if x22_1 < (x4_2.length : Int) then (if rdOf false x4_2 x22_1 = true then (rees_Regular.l1 k2 y198 (x4_2.set (x22_1 : Int).toNat true) x22_1 (l0_3.length : Int) x22_1 (rd_L1 l0_3 x22_1) ((rd_L1 l0_3 x22_1).length : Int) (wrap64 (x31_2 + 1)) l0_0 a0_1 a0_2 l0_3 a0_4) else (rees_Regular.l1 k2 y198 (x4_2.set (x22_1 : Int).toNat (decide ((rd (rd_L1 l0_3 x22_1) x31_2) ≥ 0))) x22_1 (l0_3.length : Int) x22_1 (rd_L1 l0_3 x22_1) ((rd_L1 l0_3 x22_1).length : Int) (wrap64 (x31_2 + 1)) l0_0 a0_1 a0_2 l0_3 a0_4)) else (none)) else (none)))) = some r := by rw [← hbq26] at H; exact H
                 have Nbq26 := Aside0.mk hbq26
                 clear hbq26
                 by_cases c27 : bq26 = true
                 ·subst c27
                  have H1 : ((some (x3_2.set (x31_2 : Int).toNat true : List Bool)).bind fun y194 => (if 0 ≤ x22_1 then (if x22_1 < (x4_2.length : Int) then (if rdOf false x4_2 x22_1 = true then (rees_Regular.l1 k2 y194 (x4_2.set (x22_1 : Int).toNat true) x22_1 (l0_3.length : Int) x22_1 (rd_L1 l0_3 x22_1) ((rd_L1 l0_3 x22_1).length : Int) (wrap64 (x31_2 + 1)) l0_0 a0_1 a0_2 l0_3 a0_4) else (rees_Regular.l1 k2 y194 (x4_2.set (x22_1 : Int).toNat (decide ((rd (rd_L1 l0_3 x22_1) x31_2) ≥ 0))) x22_1 (l0_3.length : Int) x22_1 (rd_L1 l0_3 x22_1) ((rd_L1 l0_3 x22_1).length : Int) (wrap64 (x31_2 + 1)) l0_0 a0_1 a0_2 l0_3 a0_4)) else (none)) else (none))) = some r := by rw [if_pos rfl] at H; exact H
                  clear H
                  have H := H1
                  clear H1
                  obtain ⟨y194, hy194⟩ : ∃ y_ : List Bool, y_ = (x3_2.set (x31_2 : Int).toNat true) := ⟨_, rfl⟩
                  replace H : (if 0 ≤ x22_1 then (if x22_1 < (x4_2.length : Int) then (if rdOf false x4_2 x22_1 = true then (rees_Regular.l1 k2 y194 (x4_2.set (x22_1 : Int).toNat true) x22_1 (l0_3.length : Int) x22_1 (rd_L1 l0_3 x22_1) ((rd_L1 l0_3 x22_1).length : Int) (wrap64 (x31_2 + 1)) l0_0 a0_1 a0_2 l0_3 a0_4) else (rees_Regular.l1 k2 y194 (x4_2.set (x22_1 : Int).toNat (decide ((rd (rd_L1 l0_3 x22_1) x31_2) ≥ 0))) x22_1 (l0_3.length : Int) x22_1 (rd_L1 l0_3 x22_1) ((rd_L1 l0_3 x22_1).length : Int) (wrap64 (x31_2 + 1)) l0_0 a0_1 a0_2 l0_3 a0_4)) else (none)) else (none)) = some r := by first | (rw [hy194]; with_reducible exact H) | (have H2_ := (Option.bind_some _ _).symm.trans H; rw [hy194]; with_reducible exact H2_) | (have H2_ := (Option.bind_some _ _).symm.trans H; with_reducible exact H2_) | with_reducible exact H | (rw [hy194]; exact H) | exact H
                  have Ny194 := Aside0.mk hy194
                  clear hy194
                  by_cases c29 : 0 ≤ x22_1
                  ·rw [if_pos c29] at H
                   have c29b0 : decide (0 ≤ x22_1) = true := decide_eq_true c29
                   clear c29
                   by_cases c30 : x22_1 < (x4_2.length : Int)
                   ·rw [if_pos c30] at H
                    have c30b0 : decide (x22_1 < (x4_2.length : Int)) = true := decide_eq_true c30
                    clear c30
                    obtain ⟨bq31, hbq31⟩ : ∃ b_ : Bool, b_ = (rdOf false x4_2 x22_1) := ⟨_, rfl⟩
                    replace H : (if bq31 = true then (rees_Regular.l1 k2 y194 (x4_2.set (x22_1 : Int).toNat true) x22_1 (l0_3.length : Int) x22_1 (rd_L1 l0_3 x22_1) ((rd_L1 l0_3 x22_1).length : Int) (wrap64 (x31_2 + 1)) l0_0 a0_1 a0_2 l0_3 a0_4) else (rees_Regular.l1 k2 y194 (x4_2.set (x22_1 : Int).toNat (decide ((rd (rd_L1 l0_3 x22_1) x31_2) ≥ 0))) x22_1 (l0_3.length : Int) x22_1 (rd_L1 l0_3 x22_1) ((rd_L1 l0_3 x22_1).length : Int) (wrap64 (x31_2 + 1)) l0_0 a0_1 a0_2 l0_3 a0_4)) = some r := by rw [← hbq31] at H; exact H
                    have Nbq31 := Aside0.mk hbq31
                    clear hbq31
                    by_cases c32 : bq31 = true
                    ·subst c32
                     have H1 : (rees_Regular.l1 k2 y194 (x4_2.set (x22_1 : Int).toNat true) x22_1 (l0_3.length : Int) x22_1 (rd_L1 l0_3 x22_1) ((rd_L1 l0_3 x22_1).length : Int) (wrap64 (x31_2 + 1)) l0_0 a0_1 a0_2 l0_3 a0_4) = some r := by rw [if_pos rfl] at H; exact H
                     clear H
                     have H := H1
                     clear H1
                     obtain ⟨y196, hy196⟩ : ∃ y_ : List Bool, y_ = (x4_2.set (x22_1 : Int).toNat true) := ⟨_, rfl⟩
                     replace H : (rees_Regular.l1 k2 y194 y196 x22_1 (l0_3.length : Int) x22_1 (rd_L1 l0_3 x22_1) ((rd_L1 l0_3 x22_1).length : Int) (wrap64 (x31_2 + 1)) l0_0 a0_1 a0_2 l0_3 a0_4) = some r := by first | (rw [hy196]; with_reducible exact H) | (have H2_ := (Option.bind_some _ _).symm.trans H; rw [hy196]; with_reducible exact H2_) | (have H2_ := (Option.bind_some _ _).symm.trans H; with_reducible exact H2_) | with_reducible exact H | (rw [hy196]; exact H) | exact H
                     have Ny196 := Aside0.mk hy196
                     clear hy196
                     have H' := Aside0.mk H
                     clear H
                     have p192 : 0 ≤ (x31_2 : Int) := of_decide_eq_true q_as
                     have q192 : x31_2 < ((rd_L1 l0_3 x22_1).length : Int) := of_decide_eq_true q_as
                     obtain ⟨ad192, e192, hx192_0⟩ := Kd.at_int HR191_0.out x31_2 p192 q192
                     cases e192
                     replace hx192_0 := (HB.out.cell (World.block_lt_of_cell? w _ hx192_0)).trans hx192_0
                     q_t p192 q192
                     obtain ⟨Ao34, co34, eo34⟩ := Kd.R_slice HO_3.out
                     subst eo34
                     have p193 : 0 ≤ (x31_2 : Int) := of_decide_eq_true q_as
                     have q193 : x31_2 < (x3_2.length : Int) := of_decide_eq_true q_as
                     obtain ⟨ad193, e193, hx193_0⟩ := Kd.at_bool (Kd.R_reads' HO_3.out).2.2 x31_2 p193 q193
                     (try rw [← Nbq26.out] at hx193_0)
                     (try rw [← Nbq31.out] at hx193_0)
                     cases e193
                     q_t p193 q193
                     have p28 : 0 ≤ (x31_2 : Int) := of_decide_eq_true q_as
                     have q28 : (x31_2 : Int) < ((x3_2.length : Int) : Int) := of_decide_eq_true q_as
                     obtain ⟨go28, co28, eo28, gb28, gl28, cl28, HG28⟩ := Kd.R_form HO_3.out (by omega)
                     (first | cases eo28 | (injection eo28 with ea_ en_ ec_; (first | subst ea_ | (injection ea_ with ea_; subst ea_)); subst ec_; clear en_))
                     have GB28 := Aside0.mk gb28
                     have GG28 := Aside0.mk HG28
                     (q_x gb28 gl28); (try clear HG28)
                     (first | simp only [add_plain] at hx193_0 | skip)
                     obtain ⟨hx28_0, hf28_0⟩ := Kd.R_celln false HO_3.out (x31_2 : Int) p28 q28
                     q_t p28 q28
                     have HP35 := Kd.R_putg HO_3.out (x31_2 : Int) true
                     go_wp2_with (first | ((with_reducible refine gate_store (t := 4) (p := 46) rfl ?_); refine store_event (t := 4) (p := 46) (v := ?vo_w36) (w1 := (wr.setCell ⟨go28, (x31_2 : Int).toNat, none⟩ (.bool true))) ?hg ?ho ?hn ?hr ?_; (case ho => rfl); (case hg => rfl); (case hn => rfl); q_hr; intro w36 hw; have hg : wr.grownBy w36 (some go28) := (by rw [hw]; exact HP35.2); have hp_ : Kd.R Kd.bool 4 w36 w.heap.size (fun k_ => some k_ ≠ (v189 : Value).ownBlock) (.slice (some ⟨go28, 0, none⟩) x3_2.length co34) y194 := (by rw [hw, Ny194.out]; exact HP35.1); clear HP35; have n0_ := Aside0.mk (hp_); have n1_ := Aside0.mk (Kd.R_after (v := (.slice (some ⟨go28, 0, none⟩) x3_2.length co34)) (v1 := (.slice (some ⟨go28, 0, none⟩) x3_2.length co34)) (ok := (fun _ => True)) (by q_nr; exact Kd.R_mono HO_4.out (fun _ hk => ⟨trivial, hk⟩)) hg (.inl rfl)); have n2_ := Aside0.mk (blk_grown (g := gb183) (o := .cells #[.slice A0_0 l0_0.length c0_0, .int .i64 a0_1, .int .i64 a0_2, .slice (some ad191) l0_3.length c0_3, .bool a0_4] 24 (0, 0)) (by q_bk; exact BK183.out) hg (Kd.R_ne HO_3.out BK183.out (by decide))); have n3_ := Aside0.mk ((by rw [hw]; exact below_set (HB.out) GB28.out : Below w.heap.size w w36)); clear HO_3; clear HO_4; clear BK183; clear HB; have HO_3 := n0_; have HO_4 := n1_; have BK183 := n2_; have HB := n3_; clear n0_ n1_ n2_ n3_; (q_x hg hw hp_); obtain ⟨Ao37, co37, eo37⟩ := Kd.R_slice HO_4.out; subst eo37; have p195 : 0 ≤ (x22_1 : Int) := of_decide_eq_true q_as; have q195 : x22_1 < (x4_2.length : Int) := of_decide_eq_true q_as; obtain ⟨ad195, e195, hx195_0⟩ := Kd.at_bool (Kd.R_reads' HO_4.out).2.2 x22_1 p195 q195; (try rw [← Nbq26.out] at hx195_0); (try rw [← Nbq31.out] at hx195_0); cases e195; replace p195 := eq_true p195; replace q195 := eq_true q195; have p33 : 0 ≤ (x22_1 : Int) := of_decide_eq_true q_as; have q33 : (x22_1 : Int) < ((x4_2.length : Int) : Int) := of_decide_eq_true q_as; obtain ⟨go33, co33, eo33, gb33, gl33, cl33, HG33⟩ := Kd.R_form HO_4.out (by omega); (first | cases eo33 | (injection eo33 with ea_ en_ ec_; (first | subst ea_ | (injection ea_ with ea_; subst ea_)); subst ec_; clear en_)); have GB33 := Aside0.mk gb33; have GG33 := Aside0.mk HG33; (q_x gb33 gl33 HG33); (first | simp only [add_plain] at hx195_0 | skip); obtain ⟨hx33_0, hf33_0⟩ := Kd.R_celln false HO_4.out (x22_1 : Int) p33 q33; replace p33 := eq_true p33; replace q33 := eq_true q33; have n_ := Aside0.mk (Kd.R_mono (ok' := (fun k_ => some k_ ≠ (.slice (some ⟨go28, 0, none⟩) x3_2.length co34 : Value).ownBlock)) HO_4.out (fun k_ hk => hk.2)); clear HO_4; have HO_4 := n_; clear n_; obtain ⟨hy38_, hz38_⟩ := Kd.R_celln false HO_4.out (x22_1 : Int) (of_decide_eq_true q_as) (of_decide_eq_true q_as); have HP38 := Kd.R_putg HO_4.out (x22_1 : Int) true) | ((with_reducible refine gate_store (t := 4) (p := 57) rfl ?_); refine store_event (t := 4) (p := 57) (v := ?vo_w39) (w1 := (w36.setCell ⟨go33, (x22_1 : Int).toNat, none⟩ (.bool true))) ?hg ?ho ?hn ?hr ?_; (case ho => rfl); (case hg => rfl); (case hn => rfl); q_hr; intro w39 hw; have hg : w36.grownBy w39 (some go33) := (by rw [hw]; exact HP38.2); have hp_ : Kd.R Kd.bool 4 w39 w.heap.size (fun k_ => some k_ ≠ (.slice (some ⟨go28, 0, none⟩) x3_2.length co34 : Value).ownBlock) (.slice (some ⟨go33, 0, none⟩) x4_2.length co37) y196 := (by rw [hw, Ny196.out]; exact HP38.1); clear HP38; have n0_ := Aside0.mk (Kd.R_after (v := (.slice (some ⟨go33, 0, none⟩) x4_2.length co37)) (v1 := (.slice (some ⟨go33, 0, none⟩) x4_2.length co37)) (ok := (fun _ => True)) (by q_nr; exact Kd.R_mono HO_3.out (fun _ hk => ⟨trivial, hk⟩)) hg (.inl rfl)); have n1_ := Aside0.mk (hp_); have n2_ := Aside0.mk (blk_grown (g := gb183) (o := .cells #[.slice A0_0 l0_0.length c0_0, .int .i64 a0_1, .int .i64 a0_2, .slice (some ad191) l0_3.length c0_3, .bool a0_4] 24 (0, 0)) (by q_bk; exact BK183.out) hg (Kd.R_ne HO_4.out BK183.out (by decide))); have n3_ := Aside0.mk ((by rw [hw]; exact below_set (HB.out) GB33.out : Below w.heap.size w w39)); clear HO_3; clear HO_4; clear BK183; clear HB; have HO_3 := n0_; have HO_4 := n1_; have BK183 := n2_; have HB := n3_; clear n0_ n1_ n2_ n3_; (q_x hg hw); (try clear hp_)))
                     go_roundg k2
                     case measure => have := HK1.out; have := HK2.out; omega
                     case rel => exact ⟨(y194), (y196), (wrap64 (x31_2 + 1)), q_rs, H', ⟨by have := HK1.out; have := HK2.out; omega⟩, ⟨by q_nr; exact Kd.R_mono HO_3.out (fun _ hk => hk.2)⟩, ⟨by q_nr; exact HO_4.out⟩, ⟨by q_bk; exact BK183.out⟩, ⟨by repeat (first | (with_reducible first | exact HB.out | apply below_alloc | apply pw_below_drewN | apply below_drew1 | refine below_set ?_ GE183.out) | exact HB.out)⟩⟩
                    ·replace c32 := Bool.eq_false_iff.mpr c32
                     subst c32
                     have H1 : (rees_Regular.l1 k2 y194 (x4_2.set (x22_1 : Int).toNat (decide ((rd (rd_L1 l0_3 x22_1) x31_2) ≥ 0))) x22_1 (l0_3.length : Int) x22_1 (rd_L1 l0_3 x22_1) ((rd_L1 l0_3 x22_1).length : Int) (wrap64 (x31_2 + 1)) l0_0 a0_1 a0_2 l0_3 a0_4) = some r := by rw [if_neg (show ¬ (false = true) by decide)] at H; exact H
                     clear H
                     have H := H1
                     clear H1
                     obtain ⟨y197, hy197⟩ : ∃ y_ : List Bool, y_ = (x4_2.set (x22_1 : Int).toNat (decide ((rd (rd_L1 l0_3 x22_1) x31_2) ≥ 0))) := ⟨_, rfl⟩
                     replace H : (rees_Regular.l1 k2 y194 y197 x22_1 (l0_3.length : Int) x22_1 (rd_L1 l0_3 x22_1) ((rd_L1 l0_3 x22_1).length : Int) (wrap64 (x31_2 + 1)) l0_0 a0_1 a0_2 l0_3 a0_4) = some r := by first | (rw [hy197]; with_reducible exact H) | (have H2_ := (Option.bind_some _ _).symm.trans H; rw [hy197]; with_reducible exact H2_) | (have H2_ := (Option.bind_some _ _).symm.trans H; with_reducible exact H2_) | with_reducible exact H | (rw [hy197]; exact H) | exact H
                     have Ny197 := Aside0.mk hy197
                     clear hy197
                     have H' := Aside0.mk H
                     clear H
                     have p192 : 0 ≤ (x31_2 : Int) := of_decide_eq_true q_as
                     have q192 : x31_2 < ((rd_L1 l0_3 x22_1).length : Int) := of_decide_eq_true q_as
                     obtain ⟨ad192, e192, hx192_0⟩ := Kd.at_int HR191_0.out x31_2 p192 q192
                     cases e192
                     replace hx192_0 := (HB.out.cell (World.block_lt_of_cell? w _ hx192_0)).trans hx192_0
                     q_t p192 q192
                     obtain ⟨Ao41, co41, eo41⟩ := Kd.R_slice HO_3.out
                     subst eo41
                     have p193 : 0 ≤ (x31_2 : Int) := of_decide_eq_true q_as
                     have q193 : x31_2 < (x3_2.length : Int) := of_decide_eq_true q_as
                     obtain ⟨ad193, e193, hx193_0⟩ := Kd.at_bool (Kd.R_reads' HO_3.out).2.2 x31_2 p193 q193
                     (try rw [← Nbq26.out] at hx193_0)
                     (try rw [← Nbq31.out] at hx193_0)
                     cases e193
                     q_t p193 q193
                     have p28 : 0 ≤ (x31_2 : Int) := of_decide_eq_true q_as
                     have q28 : (x31_2 : Int) < ((x3_2.length : Int) : Int) := of_decide_eq_true q_as
                     obtain ⟨go28, co28, eo28, gb28, gl28, cl28, HG28⟩ := Kd.R_form HO_3.out (by omega)
                     (first | cases eo28 | (injection eo28 with ea_ en_ ec_; (first | subst ea_ | (injection ea_ with ea_; subst ea_)); subst ec_; clear en_))
                     have GB28 := Aside0.mk gb28
                     have GG28 := Aside0.mk HG28
                     (q_x gb28 gl28); (try clear HG28)
                     (first | simp only [add_plain] at hx193_0 | skip)
                     obtain ⟨hx28_0, hf28_0⟩ := Kd.R_celln false HO_3.out (x31_2 : Int) p28 q28
                     q_t p28 q28
                     have HP42 := Kd.R_putg HO_3.out (x31_2 : Int) true
                     go_wp2_with (first | ((with_reducible refine gate_store (t := 4) (p := 46) rfl ?_); refine store_event (t := 4) (p := 46) (v := ?vo_w43) (w1 := (wr.setCell ⟨go28, (x31_2 : Int).toNat, none⟩ (.bool true))) ?hg ?ho ?hn ?hr ?_; (case ho => rfl); (case hg => rfl); (case hn => rfl); q_hr; intro w43 hw; have hg : wr.grownBy w43 (some go28) := (by rw [hw]; exact HP42.2); have hp_ : Kd.R Kd.bool 4 w43 w.heap.size (fun k_ => some k_ ≠ (v189 : Value).ownBlock) (.slice (some ⟨go28, 0, none⟩) x3_2.length co41) y194 := (by rw [hw, Ny194.out]; exact HP42.1); clear HP42; have n0_ := Aside0.mk (hp_); have n1_ := Aside0.mk (Kd.R_after (v := (.slice (some ⟨go28, 0, none⟩) x3_2.length co41)) (v1 := (.slice (some ⟨go28, 0, none⟩) x3_2.length co41)) (ok := (fun _ => True)) (by q_nr; exact Kd.R_mono HO_4.out (fun _ hk => ⟨trivial, hk⟩)) hg (.inl rfl)); have n2_ := Aside0.mk (blk_grown (g := gb183) (o := .cells #[.slice A0_0 l0_0.length c0_0, .int .i64 a0_1, .int .i64 a0_2, .slice (some ad191) l0_3.length c0_3, .bool a0_4] 24 (0, 0)) (by q_bk; exact BK183.out) hg (Kd.R_ne HO_3.out BK183.out (by decide))); have n3_ := Aside0.mk ((by rw [hw]; exact below_set (HB.out) GB28.out : Below w.heap.size w w43)); clear HO_3; clear HO_4; clear BK183; clear HB; have HO_3 := n0_; have HO_4 := n1_; have BK183 := n2_; have HB := n3_; clear n0_ n1_ n2_ n3_; (q_x hg hw hp_); obtain ⟨Ao44, co44, eo44⟩ := Kd.R_slice HO_4.out; subst eo44; have p195 : 0 ≤ (x22_1 : Int) := of_decide_eq_true q_as; have q195 : x22_1 < (x4_2.length : Int) := of_decide_eq_true q_as; obtain ⟨ad195, e195, hx195_0⟩ := Kd.at_bool (Kd.R_reads' HO_4.out).2.2 x22_1 p195 q195; (try rw [← Nbq26.out] at hx195_0); (try rw [← Nbq31.out] at hx195_0); cases e195; replace p195 := eq_true p195; replace q195 := eq_true q195; have p40 : 0 ≤ (x22_1 : Int) := of_decide_eq_true q_as; have q40 : (x22_1 : Int) < ((x4_2.length : Int) : Int) := of_decide_eq_true q_as; obtain ⟨go40, co40, eo40, gb40, gl40, cl40, HG40⟩ := Kd.R_form HO_4.out (by omega); (first | cases eo40 | (injection eo40 with ea_ en_ ec_; (first | subst ea_ | (injection ea_ with ea_; subst ea_)); subst ec_; clear en_)); have GB40 := Aside0.mk gb40; have GG40 := Aside0.mk HG40; (q_x gb40 gl40 HG40); (first | simp only [add_plain] at hx195_0 | skip); obtain ⟨hx40_0, hf40_0⟩ := Kd.R_celln false HO_4.out (x22_1 : Int) p40 q40; replace p40 := eq_true p40; replace q40 := eq_true q40; have n_ := Aside0.mk (Kd.R_mono (ok' := (fun k_ => some k_ ≠ (.slice (some ⟨go28, 0, none⟩) x3_2.length co41 : Value).ownBlock)) HO_4.out (fun k_ hk => hk.2)); clear HO_4; have HO_4 := n_; clear n_; obtain ⟨hy45_, hz45_⟩ := Kd.R_celln false HO_4.out (x22_1 : Int) (of_decide_eq_true q_as) (of_decide_eq_true q_as); have HP45 := Kd.R_putg HO_4.out (x22_1 : Int) (decide ((rd (rd_L1 l0_3 x22_1) x31_2) ≥ 0))) | ((with_reducible refine gate_store (t := 4) (p := 57) rfl ?_); refine store_event (t := 4) (p := 57) (v := ?vo_w46) (w1 := (w43.setCell ⟨go40, (x22_1 : Int).toNat, none⟩ (.bool (decide ((rd (rd_L1 l0_3 x22_1) x31_2) ≥ 0))))) ?hg ?ho ?hn ?hr ?_; (case ho => rfl); (case hg => rfl); (case hn => rfl); q_hr; intro w46 hw; have hg : w43.grownBy w46 (some go40) := (by rw [hw]; exact HP45.2); have hp_ : Kd.R Kd.bool 4 w46 w.heap.size (fun k_ => some k_ ≠ (.slice (some ⟨go28, 0, none⟩) x3_2.length co41 : Value).ownBlock) (.slice (some ⟨go40, 0, none⟩) x4_2.length co44) y197 := (by rw [hw, Ny197.out]; exact HP45.1); clear HP45; have n0_ := Aside0.mk (Kd.R_after (v := (.slice (some ⟨go40, 0, none⟩) x4_2.length co44)) (v1 := (.slice (some ⟨go40, 0, none⟩) x4_2.length co44)) (ok := (fun _ => True)) (by q_nr; exact Kd.R_mono HO_3.out (fun _ hk => ⟨trivial, hk⟩)) hg (.inl rfl)); have n1_ := Aside0.mk (hp_); have n2_ := Aside0.mk (blk_grown (g := gb183) (o := .cells #[.slice A0_0 l0_0.length c0_0, .int .i64 a0_1, .int .i64 a0_2, .slice (some ad191) l0_3.length c0_3, .bool a0_4] 24 (0, 0)) (by q_bk; exact BK183.out) hg (Kd.R_ne HO_4.out BK183.out (by decide))); have n3_ := Aside0.mk ((by rw [hw]; exact below_set (HB.out) GB40.out : Below w.heap.size w w46)); clear HO_3; clear HO_4; clear BK183; clear HB; have HO_3 := n0_; have HO_4 := n1_; have BK183 := n2_; have HB := n3_; clear n0_ n1_ n2_ n3_; (q_x hg hw); (try clear hp_)))
                     go_roundg k2
                     case measure => have := HK1.out; have := HK2.out; omega
                     case rel => exact ⟨(y194), (y197), (wrap64 (x31_2 + 1)), q_rs, H', ⟨by have := HK1.out; have := HK2.out; omega⟩, ⟨by q_nr; exact Kd.R_mono HO_3.out (fun _ hk => hk.2)⟩, ⟨by q_nr; exact HO_4.out⟩, ⟨by q_bk; exact BK183.out⟩, ⟨by repeat (first | (with_reducible first | exact HB.out | apply below_alloc | apply pw_below_drewN | apply below_drew1 | refine below_set ?_ GE183.out) | exact HB.out)⟩⟩
                   ·rw [if_neg c30] at H
                    exact absurd H (by simp)
                  ·rw [if_neg c29] at H
                   exact absurd H (by simp)
                 ·replace c27 := Bool.eq_false_iff.mpr c27
                  subst c27
                  have H1 : ((some (x3_2.set (x31_2 : Int).toNat (decide ((rd (rd_L1 l0_3 x22_1) x31_2) ≥ 0)) : List Bool)).bind fun y198 => (if 0 ≤ x22_1 then (if x22_1 < (x4_2.length : Int) then (if rdOf false x4_2 x22_1 = true then (rees_Regular.l1 k2 y198 (x4_2.set (x22_1 : Int).toNat true) x22_1 (l0_3.length : Int) x22_1 (rd_L1 l0_3 x22_1) ((rd_L1 l0_3 x22_1).length : Int) (wrap64 (x31_2 + 1)) l0_0 a0_1 a0_2 l0_3 a0_4) else (rees_Regular.l1 k2 y198 (x4_2.set (x22_1 : Int).toNat (decide ((rd (rd_L1 l0_3 x22_1) x31_2) ≥ 0))) x22_1 (l0_3.length : Int) x22_1 (rd_L1 l0_3 x22_1) ((rd_L1 l0_3 x22_1).length : Int) (wrap64 (x31_2 + 1)) l0_0 a0_1 a0_2 l0_3 a0_4)) else (none)) else (none))) = some r := by rw [if_neg (show ¬ (false = true) by decide)] at H; exact H
                  clear H
                  have H := H1
                  clear H1
                  obtain ⟨y198, hy198⟩ : ∃ y_ : List Bool, y_ = (x3_2.set (x31_2 : Int).toNat (decide ((rd (rd_L1 l0_3 x22_1) x31_2) ≥ 0))) := ⟨_, rfl⟩
                  replace H : (if 0 ≤ x22_1 then (if x22_1 < (x4_2.length : Int) then (if rdOf false x4_2 x22_1 = true then (rees_Regular.l1 k2 y198 (x4_2.set (x22_1 : Int).toNat true) x22_1 (l0_3.length : Int) x22_1 (rd_L1 l0_3 x22_1) ((rd_L1 l0_3 x22_1).length : Int) (wrap64 (x31_2 + 1)) l0_0 a0_1 a0_2 l0_3 a0_4) else (rees_Regular.l1 k2 y198 (x4_2.set (x22_1 : Int).toNat (decide ((rd (rd_L1 l0_3 x22_1) x31_2) ≥ 0))) x22_1 (l0_3.length : Int) x22_1 (rd_L1 l0_3 x22_1) ((rd_L1 l0_3 x22_1).length : Int) (wrap64 (x31_2 + 1)) l0_0 a0_1 a0_2 l0_3 a0_4)) else (none)) else (none)) = some r := by first | (rw [hy198]; with_reducible exact H) | (have H2_ := (Option.bind_some _ _).symm.trans H; rw [hy198]; with_reducible exact H2_) | (have H2_ := (Option.bind_some _ _).symm.trans H; with_reducible exact H2_) | with_reducible exact H | (rw [hy198]; exact H) | exact H
                  have Ny198 := Aside0.mk hy198
                  clear hy198
                  by_cases c48 : 0 ≤ x22_1
                  ·rw [if_pos c48] at H
                   have c48b0 : decide (0 ≤ x22_1) = true := decide_eq_true c48
                   clear c48
                   by_cases c49 : x22_1 < (x4_2.length : Int)
                   ·rw [if_pos c49] at H
                    have c49b0 : decide (x22_1 < (x4_2.length : Int)) = true := decide_eq_true c49
                    clear c49
                    obtain ⟨bq50, hbq50⟩ : ∃ b_ : Bool, b_ = (rdOf false x4_2 x22_1) := ⟨_, rfl⟩
                    replace H : (if bq50 = true then (rees_Regular.l1 k2 y198 (x4_2.set (x22_1 : Int).toNat true) x22_1 (l0_3.length : Int) x22_1 (rd_L1 l0_3 x22_1) ((rd_L1 l0_3 x22_1).length : Int) (wrap64 (x31_2 + 1)) l0_0 a0_1 a0_2 l0_3 a0_4) else (rees_Regular.l1 k2 y198 (x4_2.set (x22_1 : Int).toNat (decide ((rd (rd_L1 l0_3 x22_1) x31_2) ≥ 0))) x22_1 (l0_3.length : Int) x22_1 (rd_L1 l0_3 x22_1) ((rd_L1 l0_3 x22_1).length : Int) (wrap64 (x31_2 + 1)) l0_0 a0_1 a0_2 l0_3 a0_4)) = some r := by rw [← hbq50] at H; exact H
                    have Nbq50 := Aside0.mk hbq50
                    clear hbq50
                    by_cases c51 : bq50 = true
                    ·subst c51
                     have H1 : (rees_Regular.l1 k2 y198 (x4_2.set (x22_1 : Int).toNat true) x22_1 (l0_3.length : Int) x22_1 (rd_L1 l0_3 x22_1) ((rd_L1 l0_3 x22_1).length : Int) (wrap64 (x31_2 + 1)) l0_0 a0_1 a0_2 l0_3 a0_4) = some r := by rw [if_pos rfl] at H; exact H
                     clear H
                     have H := H1
                     clear H1
                     obtain ⟨y200, hy200⟩ : ∃ y_ : List Bool, y_ = (x4_2.set (x22_1 : Int).toNat true) := ⟨_, rfl⟩
                     replace H : (rees_Regular.l1 k2 y198 y200 x22_1 (l0_3.length : Int) x22_1 (rd_L1 l0_3 x22_1) ((rd_L1 l0_3 x22_1).length : Int) (wrap64 (x31_2 + 1)) l0_0 a0_1 a0_2 l0_3 a0_4) = some r := by first | (rw [hy200]; with_reducible exact H) | (have H2_ := (Option.bind_some _ _).symm.trans H; rw [hy200]; with_reducible exact H2_) | (have H2_ := (Option.bind_some _ _).symm.trans H; with_reducible exact H2_) | with_reducible exact H | (rw [hy200]; exact H) | exact H
                     have Ny200 := Aside0.mk hy200
                     clear hy200
                     have H' := Aside0.mk H
                     clear H
                     have p192 : 0 ≤ (x31_2 : Int) := of_decide_eq_true q_as
                     have q192 : x31_2 < ((rd_L1 l0_3 x22_1).length : Int) := of_decide_eq_true q_as
                     obtain ⟨ad192, e192, hx192_0⟩ := Kd.at_int HR191_0.out x31_2 p192 q192
                     cases e192
                     replace hx192_0 := (HB.out.cell (World.block_lt_of_cell? w _ hx192_0)).trans hx192_0
                     q_t p192 q192
                     obtain ⟨Ao53, co53, eo53⟩ := Kd.R_slice HO_3.out
                     subst eo53
                     have p193 : 0 ≤ (x31_2 : Int) := of_decide_eq_true q_as
                     have q193 : x31_2 < (x3_2.length : Int) := of_decide_eq_true q_as
                     obtain ⟨ad193, e193, hx193_0⟩ := Kd.at_bool (Kd.R_reads' HO_3.out).2.2 x31_2 p193 q193
                     (try rw [← Nbq26.out] at hx193_0)
                     (try rw [← Nbq50.out] at hx193_0)
                     cases e193
                     q_t p193 q193
                     have p47 : 0 ≤ (x31_2 : Int) := of_decide_eq_true q_as
                     have q47 : (x31_2 : Int) < ((x3_2.length : Int) : Int) := of_decide_eq_true q_as
                     obtain ⟨go47, co47, eo47, gb47, gl47, cl47, HG47⟩ := Kd.R_form HO_3.out (by omega)
                     (first | cases eo47 | (injection eo47 with ea_ en_ ec_; (first | subst ea_ | (injection ea_ with ea_; subst ea_)); subst ec_; clear en_))
                     have GB47 := Aside0.mk gb47
                     have GG47 := Aside0.mk HG47
                     (q_x gb47 gl47); (try clear HG47)
                     (first | simp only [add_plain] at hx193_0 | skip)
                     obtain ⟨hx47_0, hf47_0⟩ := Kd.R_celln false HO_3.out (x31_2 : Int) p47 q47
                     q_t p47 q47
                     have HP54 := Kd.R_putg HO_3.out (x31_2 : Int) (decide ((rd (rd_L1 l0_3 x22_1) x31_2) ≥ 0))
                     go_wp2_with (first | ((with_reducible refine gate_store (t := 4) (p := 46) rfl ?_); refine store_event (t := 4) (p := 46) (v := ?vo_w55) (w1 := (wr.setCell ⟨go47, (x31_2 : Int).toNat, none⟩ (.bool (decide ((rd (rd_L1 l0_3 x22_1) x31_2) ≥ 0))))) ?hg ?ho ?hn ?hr ?_; (case ho => rfl); (case hg => rfl); (case hn => rfl); q_hr; intro w55 hw; have hg : wr.grownBy w55 (some go47) := (by rw [hw]; exact HP54.2); have hp_ : Kd.R Kd.bool 4 w55 w.heap.size (fun k_ => some k_ ≠ (v189 : Value).ownBlock) (.slice (some ⟨go47, 0, none⟩) x3_2.length co53) y198 := (by rw [hw, Ny198.out]; exact HP54.1); clear HP54; have n0_ := Aside0.mk (hp_); have n1_ := Aside0.mk (Kd.R_after (v := (.slice (some ⟨go47, 0, none⟩) x3_2.length co53)) (v1 := (.slice (some ⟨go47, 0, none⟩) x3_2.length co53)) (ok := (fun _ => True)) (by q_nr; exact Kd.R_mono HO_4.out (fun _ hk => ⟨trivial, hk⟩)) hg (.inl rfl)); have n2_ := Aside0.mk (blk_grown (g := gb183) (o := .cells #[.slice A0_0 l0_0.length c0_0, .int .i64 a0_1, .int .i64 a0_2, .slice (some ad191) l0_3.length c0_3, .bool a0_4] 24 (0, 0)) (by q_bk; exact BK183.out) hg (Kd.R_ne HO_3.out BK183.out (by decide))); have n3_ := Aside0.mk ((by rw [hw]; exact below_set (HB.out) GB47.out : Below w.heap.size w w55)); clear HO_3; clear HO_4; clear BK183; clear HB; have HO_3 := n0_; have HO_4 := n1_; have BK183 := n2_; have HB := n3_; clear n0_ n1_ n2_ n3_; (q_x hg hw hp_); obtain ⟨Ao56, co56, eo56⟩ := Kd.R_slice HO_4.out; subst eo56; have p199 : 0 ≤ (x22_1 : Int) := of_decide_eq_true q_as; have q199 : x22_1 < (x4_2.length : Int) := of_decide_eq_true q_as; obtain ⟨ad199, e199, hx199_0⟩ := Kd.at_bool (Kd.R_reads' HO_4.out).2.2 x22_1 p199 q199; (try rw [← Nbq26.out] at hx199_0); (try rw [← Nbq50.out] at hx199_0); cases e199; replace p199 := eq_true p199; replace q199 := eq_true q199; have p52 : 0 ≤ (x22_1 : Int) := of_decide_eq_true q_as; have q52 : (x22_1 : Int) < ((x4_2.length : Int) : Int) := of_decide_eq_true q_as; obtain ⟨go52, co52, eo52, gb52, gl52, cl52, HG52⟩ := Kd.R_form HO_4.out (by omega); (first | cases eo52 | (injection eo52 with ea_ en_ ec_; (first | subst ea_ | (injection ea_ with ea_; subst ea_)); subst ec_; clear en_)); have GB52 := Aside0.mk gb52; have GG52 := Aside0.mk HG52; (q_x gb52 gl52 HG52); (first | simp only [add_plain] at hx199_0 | skip); obtain ⟨hx52_0, hf52_0⟩ := Kd.R_celln false HO_4.out (x22_1 : Int) p52 q52; replace p52 := eq_true p52; replace q52 := eq_true q52; have n_ := Aside0.mk (Kd.R_mono (ok' := (fun k_ => some k_ ≠ (.slice (some ⟨go47, 0, none⟩) x3_2.length co53 : Value).ownBlock)) HO_4.out (fun k_ hk => hk.2)); clear HO_4; have HO_4 := n_; clear n_; obtain ⟨hy57_, hz57_⟩ := Kd.R_celln false HO_4.out (x22_1 : Int) (of_decide_eq_true q_as) (of_decide_eq_true q_as); have HP57 := Kd.R_putg HO_4.out (x22_1 : Int) true) | ((with_reducible refine gate_store (t := 4) (p := 57) rfl ?_); refine store_event (t := 4) (p := 57) (v := ?vo_w58) (w1 := (w55.setCell ⟨go52, (x22_1 : Int).toNat, none⟩ (.bool true))) ?hg ?ho ?hn ?hr ?_; (case ho => rfl); (case hg => rfl); (case hn => rfl); q_hr; intro w58 hw; have hg : w55.grownBy w58 (some go52) := (by rw [hw]; exact HP57.2); have hp_ : Kd.R Kd.bool 4 w58 w.heap.size (fun k_ => some k_ ≠ (.slice (some ⟨go47, 0, none⟩) x3_2.length co53 : Value).ownBlock) (.slice (some ⟨go52, 0, none⟩) x4_2.length co56) y200 := (by rw [hw, Ny200.out]; exact HP57.1); clear HP57; have n0_ := Aside0.mk (Kd.R_after (v := (.slice (some ⟨go52, 0, none⟩) x4_2.length co56)) (v1 := (.slice (some ⟨go52, 0, none⟩) x4_2.length co56)) (ok := (fun _ => True)) (by q_nr; exact Kd.R_mono HO_3.out (fun _ hk => ⟨trivial, hk⟩)) hg (.inl rfl)); have n1_ := Aside0.mk (hp_); have n2_ := Aside0.mk (blk_grown (g := gb183) (o := .cells #[.slice A0_0 l0_0.length c0_0, .int .i64 a0_1, .int .i64 a0_2, .slice (some ad191) l0_3.length c0_3, .bool a0_4] 24 (0, 0)) (by q_bk; exact BK183.out) hg (Kd.R_ne HO_4.out BK183.out (by decide))); have n3_ := Aside0.mk ((by rw [hw]; exact below_set (HB.out) GB52.out : Below w.heap.size w w58)); clear HO_3; clear HO_4; clear BK183; clear HB; have HO_3 := n0_; have HO_4 := n1_; have BK183 := n2_; have HB := n3_; clear n0_ n1_ n2_ n3_; (q_x hg hw); (try clear hp_)))
                     go_roundg k2
                     case measure => have := HK1.out; have := HK2.out; omega
                     case rel => exact ⟨(y198), (y200), (wrap64 (x31_2 + 1)), q_rs, H', ⟨by have := HK1.out; have := HK2.out; omega⟩, ⟨by q_nr; exact Kd.R_mono HO_3.out (fun _ hk => hk.2)⟩, ⟨by q_nr; exact HO_4.out⟩, ⟨by q_bk; exact BK183.out⟩, ⟨by repeat (first | (with_reducible first | exact HB.out | apply below_alloc | apply pw_below_drewN | apply below_drew1 | refine below_set ?_ GE183.out) | exact HB.out)⟩⟩
                    ·replace c51 := Bool.eq_false_iff.mpr c51
                     subst c51
                     have H1 : (rees_Regular.l1 k2 y198 (x4_2.set (x22_1 : Int).toNat (decide ((rd (rd_L1 l0_3 x22_1) x31_2) ≥ 0))) x22_1 (l0_3.length : Int) x22_1 (rd_L1 l0_3 x22_1) ((rd_L1 l0_3 x22_1).length : Int) (wrap64 (x31_2 + 1)) l0_0 a0_1 a0_2 l0_3 a0_4) = some r := by rw [if_neg (show ¬ (false = true) by decide)] at H; exact H
                     clear H
                     have H := H1
                     clear H1
                     obtain ⟨y201, hy201⟩ : ∃ y_ : List Bool, y_ = (x4_2.set (x22_1 : Int).toNat (decide ((rd (rd_L1 l0_3 x22_1) x31_2) ≥ 0))) := ⟨_, rfl⟩
                     replace H : (rees_Regular.l1 k2 y198 y201 x22_1 (l0_3.length : Int) x22_1 (rd_L1 l0_3 x22_1) ((rd_L1 l0_3 x22_1).length : Int) (wrap64 (x31_2 + 1)) l0_0 a0_1 a0_2 l0_3 a0_4) = some r := by first | (rw [hy201]; with_reducible exact H) | (have H2_ := (Option.bind_some _ _).symm.trans H; rw [hy201]; with_reducible exact H2_) | (have H2_ := (Option.bind_some _ _).symm.trans H; with_reducible exact H2_) | with_reducible exact H | (rw [hy201]; exact H) | exact H
                     have Ny201 := Aside0.mk hy201
                     clear hy201
                     have H' := Aside0.mk H
                     clear H
                     have p192 : 0 ≤ (x31_2 : Int) := of_decide_eq_true q_as
                     have q192 : x31_2 < ((rd_L1 l0_3 x22_1).length : Int) := of_decide_eq_true q_as
                     obtain ⟨ad192, e192, hx192_0⟩ := Kd.at_int HR191_0.out x31_2 p192 q192
                     cases e192
                     replace hx192_0 := (HB.out.cell (World.block_lt_of_cell? w _ hx192_0)).trans hx192_0
                     q_t p192 q192
                     obtain ⟨Ao60, co60, eo60⟩ := Kd.R_slice HO_3.out
                     subst eo60
                     have p193 : 0 ≤ (x31_2 : Int) := of_decide_eq_true q_as
                     have q193 : x31_2 < (x3_2.length : Int) := of_decide_eq_true q_as
                     obtain ⟨ad193, e193, hx193_0⟩ := Kd.at_bool (Kd.R_reads' HO_3.out).2.2 x31_2 p193 q193
                     (try rw [← Nbq26.out] at hx193_0)
                     (try rw [← Nbq50.out] at hx193_0)
                     cases e193
                     q_t p193 q193
                     have p47 : 0 ≤ (x31_2 : Int) := of_decide_eq_true q_as
                     have q47 : (x31_2 : Int) < ((x3_2.length : Int) : Int) := of_decide_eq_true q_as
                     obtain ⟨go47, co47, eo47, gb47, gl47, cl47, HG47⟩ := Kd.R_form HO_3.out (by omega)
                     (first | cases eo47 | (injection eo47 with ea_ en_ ec_; (first | subst ea_ | (injection ea_ with ea_; subst ea_)); subst ec_; clear en_))
                     have GB47 := Aside0.mk gb47
                     have GG47 := Aside0.mk HG47
                     (q_x gb47 gl47); (try clear HG47)
                     (first | simp only [add_plain] at hx193_0 | skip)
                     obtain ⟨hx47_0, hf47_0⟩ := Kd.R_celln false HO_3.out (x31_2 : Int) p47 q47
                     q_t p47 q47
                     have HP61 := Kd.R_putg HO_3.out (x31_2 : Int) (decide ((rd (rd_L1 l0_3 x22_1) x31_2) ≥ 0))
                     go_wp2_with (first | ((with_reducible refine gate_store (t := 4) (p := 46) rfl ?_); refine store_event (t := 4) (p := 46) (v := ?vo_w62) (w1 := (wr.setCell ⟨go47, (x31_2 : Int).toNat, none⟩ (.bool (decide ((rd (rd_L1 l0_3 x22_1) x31_2) ≥ 0))))) ?hg ?ho ?hn ?hr ?_; (case ho => rfl); (case hg => rfl); (case hn => rfl); q_hr; intro w62 hw; have hg : wr.grownBy w62 (some go47) := (by rw [hw]; exact HP61.2); have hp_ : Kd.R Kd.bool 4 w62 w.heap.size (fun k_ => some k_ ≠ (v189 : Value).ownBlock) (.slice (some ⟨go47, 0, none⟩) x3_2.length co60) y198 := (by rw [hw, Ny198.out]; exact HP61.1); clear HP61; have n0_ := Aside0.mk (hp_); have n1_ := Aside0.mk (Kd.R_after (v := (.slice (some ⟨go47, 0, none⟩) x3_2.length co60)) (v1 := (.slice (some ⟨go47, 0, none⟩) x3_2.length co60)) (ok := (fun _ => True)) (by q_nr; exact Kd.R_mono HO_4.out (fun _ hk => ⟨trivial, hk⟩)) hg (.inl rfl)); have n2_ := Aside0.mk (blk_grown (g := gb183) (o := .cells #[.slice A0_0 l0_0.length c0_0, .int .i64 a0_1, .int .i64 a0_2, .slice (some ad191) l0_3.length c0_3, .bool a0_4] 24 (0, 0)) (by q_bk; exact BK183.out) hg (Kd.R_ne HO_3.out BK183.out (by decide))); have n3_ := Aside0.mk ((by rw [hw]; exact below_set (HB.out) GB47.out : Below w.heap.size w w62)); clear HO_3; clear HO_4; clear BK183; clear HB; have HO_3 := n0_; have HO_4 := n1_; have BK183 := n2_; have HB := n3_; clear n0_ n1_ n2_ n3_; (q_x hg hw hp_); obtain ⟨Ao63, co63, eo63⟩ := Kd.R_slice HO_4.out; subst eo63; have p199 : 0 ≤ (x22_1 : Int) := of_decide_eq_true q_as; have q199 : x22_1 < (x4_2.length : Int) := of_decide_eq_true q_as; obtain ⟨ad199, e199, hx199_0⟩ := Kd.at_bool (Kd.R_reads' HO_4.out).2.2 x22_1 p199 q199; (try rw [← Nbq26.out] at hx199_0); (try rw [← Nbq50.out] at hx199_0); cases e199; replace p199 := eq_true p199; replace q199 := eq_true q199; have p59 : 0 ≤ (x22_1 : Int) := of_decide_eq_true q_as; have q59 : (x22_1 : Int) < ((x4_2.length : Int) : Int) := of_decide_eq_true q_as; obtain ⟨go59, co59, eo59, gb59, gl59, cl59, HG59⟩ := Kd.R_form HO_4.out (by omega); (first | cases eo59 | (injection eo59 with ea_ en_ ec_; (first | subst ea_ | (injection ea_ with ea_; subst ea_)); subst ec_; clear en_)); have GB59 := Aside0.mk gb59; have GG59 := Aside0.mk HG59; (q_x gb59 gl59 HG59); (first | simp only [add_plain] at hx199_0 | skip); obtain ⟨hx59_0, hf59_0⟩ := Kd.R_celln false HO_4.out (x22_1 : Int) p59 q59; replace p59 := eq_true p59; replace q59 := eq_true q59; have n_ := Aside0.mk (Kd.R_mono (ok' := (fun k_ => some k_ ≠ (.slice (some ⟨go47, 0, none⟩) x3_2.length co60 : Value).ownBlock)) HO_4.out (fun k_ hk => hk.2)); clear HO_4; have HO_4 := n_; clear n_; obtain ⟨hy64_, hz64_⟩ := Kd.R_celln false HO_4.out (x22_1 : Int) (of_decide_eq_true q_as) (of_decide_eq_true q_as); have HP64 := Kd.R_putg HO_4.out (x22_1 : Int) (decide ((rd (rd_L1 l0_3 x22_1) x31_2) ≥ 0))) | ((with_reducible refine gate_store (t := 4) (p := 57) rfl ?_); refine store_event (t := 4) (p := 57) (v := ?vo_w65) (w1 := (w62.setCell ⟨go59, (x22_1 : Int).toNat, none⟩ (.bool (decide ((rd (rd_L1 l0_3 x22_1) x31_2) ≥ 0))))) ?hg ?ho ?hn ?hr ?_; (case ho => rfl); (case hg => rfl); (case hn => rfl); q_hr; intro w65 hw; have hg : w62.grownBy w65 (some go59) := (by rw [hw]; exact HP64.2); have hp_ : Kd.R Kd.bool 4 w65 w.heap.size (fun k_ => some k_ ≠ (.slice (some ⟨go47, 0, none⟩) x3_2.length co60 : Value).ownBlock) (.slice (some ⟨go59, 0, none⟩) x4_2.length co63) y201 := (by rw [hw, Ny201.out]; exact HP64.1); clear HP64; have n0_ := Aside0.mk (Kd.R_after (v := (.slice (some ⟨go59, 0, none⟩) x4_2.length co63)) (v1 := (.slice (some ⟨go59, 0, none⟩) x4_2.length co63)) (ok := (fun _ => True)) (by q_nr; exact Kd.R_mono HO_3.out (fun _ hk => ⟨trivial, hk⟩)) hg (.inl rfl)); have n1_ := Aside0.mk (hp_); have n2_ := Aside0.mk (blk_grown (g := gb183) (o := .cells #[.slice A0_0 l0_0.length c0_0, .int .i64 a0_1, .int .i64 a0_2, .slice (some ad191) l0_3.length c0_3, .bool a0_4] 24 (0, 0)) (by q_bk; exact BK183.out) hg (Kd.R_ne HO_4.out BK183.out (by decide))); have n3_ := Aside0.mk ((by rw [hw]; exact below_set (HB.out) GB59.out : Below w.heap.size w w65)); clear HO_3; clear HO_4; clear BK183; clear HB; have HO_3 := n0_; have HO_4 := n1_; have BK183 := n2_; have HB := n3_; clear n0_ n1_ n2_ n3_; (q_x hg hw); (try clear hp_)))
                     go_roundg k2
                     case measure => have := HK1.out; have := HK2.out; omega
                     case rel => exact ⟨(y198), (y201), (wrap64 (x31_2 + 1)), q_rs, H', ⟨by have := HK1.out; have := HK2.out; omega⟩, ⟨by q_nr; exact Kd.R_mono HO_3.out (fun _ hk => hk.2)⟩, ⟨by q_nr; exact HO_4.out⟩, ⟨by q_bk; exact BK183.out⟩, ⟨by repeat (first | (with_reducible first | exact HB.out | apply below_alloc | apply pw_below_drewN | apply below_drew1 | refine below_set ?_ GE183.out) | exact HB.out)⟩⟩
                   ·rw [if_neg c49] at H
                    exact absurd H (by simp)
                  ·rw [if_neg c48] at H
                   exact absurd H (by simp)
                ·rw [if_neg c25] at H
                 exact absurd H (by simp)
               ·rw [if_neg c24] at H
                exact absurd H (by simp)
              ·rw [if_neg c23] at H
               exact absurd H (by simp)
             ·rw [if_neg c22] at H
              have c22b0 : decide (x31_2 < ((rd_L1 l0_3 x22_1).length : Int)) = false := decide_eq_false c22
              clear c22
              have H' := Aside0.mk H
              clear H
              go_wp2
              go_roundg k2
              case measure => have := HK1.out; have := HK2.out; omega
              case rel => exact ⟨(x3_2), (x4_2), (wrap64 (x22_1 + 1)), q_rs, H', ⟨by have := HK1.out; have := HK2.out; omega⟩, ⟨by q_nr; exact HO_3.out⟩, ⟨by q_nr; exact HO_4.out⟩, ⟨by q_bk; exact BK183.out⟩, ⟨by repeat (first | (with_reducible first | exact HB.out | apply below_alloc | apply pw_below_drewN | apply below_drew1 | refine below_set ?_ GE183.out) | exact HB.out)⟩⟩
          ·rw [if_neg c20] at H
           exact absurd H (by simp)
         ·rw [if_neg c19] at H
          exact absurd H (by simp)
        ·rw [if_neg c18] at H
         have c18b0 : decide (x22_1 < (l0_3.length : Int)) = false := decide_eq_false c18
         clear c18
         by_cases c66 : x3_1.length + x4_1.length < 140737488355328
         ·rw [if_pos c66] at H
          have LMc66 := Aside0.mk c66
          clear c66
          obtain ⟨y202, hy202⟩ : ∃ y_ : List Bool, y_ = (x3_1 ++ x4_1) := ⟨_, rfl⟩
          replace H : (rees_Regular.l2 k1 y202 (y202.length : Int) 0) = some r := by first | (rw [hy202]; with_reducible exact H) | (have H2_ := (Option.bind_some _ _).symm.trans H; rw [hy202]; with_reducible exact H2_) | (have H2_ := (Option.bind_some _ _).symm.trans H; with_reducible exact H2_) | with_reducible exact H | (rw [hy202]; exact H) | exact H
          have Ny202 := Aside0.mk hy202
          clear hy202
          have H' := Aside0.mk H
          clear H
          obtain ⟨Ao68, co68, eo68⟩ := Kd.R_slice HO_4.out
          subst eo68
          go_wp2_with (first | ((with_reducible refine gate_builtin (b := .append) (xs := #[.tmp 60, .tmp 61]) rfl ?_); at_builtin; refine Kd.R_append_rows Kd.bool (w0 := w) w.heap.size rfl (.tmp 60) (.tmp 61) 44 4 (.bool false) 1 rfl Try.underlying44 info4 rfl (by decide) (by omega) v186 x3_1 x4_1 _ _ _ (fun k_ => some k_ ≠ (.slice Ao68 x4_1.length co68 : Value).ownBlock) (fun _ => False) rfl rfl ?aO ?aR (fun _ _ h => h) (fun _ h => h.elim) ?aF ?aB ?aS ?aL ?_; (case aR => repeat (first | exact (Kd.R_reads' HO_4.out).2.2 | (with_reducible refine Kd.C_alloc ?_ _) | (with_reducible refine Kd.C_drewN ?_ _) | (with_reducible refine Kd.C_drew ?_))); (case aB => exact (q_hs GE183.out)); (case aF => exact (fun k_ hk => Kd.fresh' (Kd.R_lt (by q_nr; exact HO_4.out)) k_ hk)); (case aO => exact (by q_nr; exact HO_3.out)); (case aS => exact (below_size (q_hs GE183.out))); (case aL => have := LMc66.out; omega); intro v203 w67 ho hb hg hat; rw [← Ny202.out] at ho; have n0_ := Aside0.mk (Kd.R_after (ok := (fun _ => True)) (by q_nr; exact Kd.R_mono HO_4.out (fun _ hk => ⟨trivial, hk⟩)) hg hat); have n1_ := Aside0.mk (blk_grown (g := gb183) (o := .cells #[.slice A0_0 l0_0.length c0_0, .int .i64 a0_1, .int .i64 a0_2, .slice A0_3 l0_3.length c0_3, .bool a0_4] 24 (0, 0)) (by q_bk; exact BK183.out) hg (Kd.R_ne HO_3.out BK183.out (by decide))); have n2_ := Aside0.mk (hb); have n3_ := Aside0.mk (ho); clear HO_4; clear BK183; clear HB; clear HO_3; have HO_4 := n0_; have BK183 := n1_; have HB := n2_; have HO204 := n3_; clear n0_ n1_ n2_ n3_; (q_x ho hb hg hat); obtain ⟨Ao69, co69, eo69⟩ := Kd.R_slice HO204.out; subst eo69))
          go_loopg [64] k1 (fun kq v64 w' => ∃ (x64_2 : Int), v64 = .int .i64 x64_2 ∧ Aside0 (rees_Regular.l2 kq y202 (y202.length : Int) x64_2 = some r) ∧ Aside0 (kq ≤ k1) ∧ Aside0 (Kd.R Kd.bool 4 w' w.heap.size (fun _ => True) (.slice Ao69 y202.length co69) y202) ∧ Aside0 (w'.heap[gb183]? = some (.cells #[(.slice A0_0 l0_0.length c0_0), .int .i64 a0_1, .int .i64 a0_2, (.slice A0_3 l0_3.length c0_3), .bool a0_4] 24 (0, 0))) ∧ Aside0 (Below w.heap.size w w'))
          case atStart => exact ⟨(0), q_rs, H', ⟨Nat.le_refl _⟩, ⟨by q_nr; exact Kd.R_mono HO204.out (fun _ hk => trivial)⟩, ⟨by q_bk; exact BK183.out⟩, ⟨by repeat (first | (with_reducible first | exact HB.out | apply below_alloc | apply pw_below_drewN | apply below_drew1 | refine below_set ?_ GE183.out) | exact HB.out)⟩⟩
          case round =>
           clear H'
           q_x c1 p1 q1 hx1 c2 p2 q2 hx2 hf2 c3 c3b0 c3b1 p3 q3 hx3 hf3 c4 c4b0 c4b1 p4 q4 hx4 hf4 c5 c5b0 c5b1 p5 q5 hx5 hf5 c6 c6b0 c6b1 p6 c7 c7b0 c7b1 c18 c18b0 c19 c19b0 p19 q19 hx19 c20 c20b0 c21 c22 c22b0 c23 c23b0 c24 c24b0 c25 c25b0 q26 c27 p28 q28 hx28 hf28 c29 c29b0 c30 c30b0 q31 c32 p33 q33 hx33 hf33 p40 q40 hx40 hf40 p47 q47 hx47 hf47 c48 c48b0 c49 c49b0 q50 c51 p52 q52 hx52 hf52 p59 q59 hx59 hf59 p64 c66 hcz17_0 hcz17_1 hcz17_2 hcz17_3 hcz17_4 hcz21_0 hcz21_1 hcz21_2 hcz21_3 hcz21_4 hcz9_0 hcz9_1 hcz9_2 hcz9_3 hcz9_4 hfz17_0 hfz17_1 hfz17_2 hfz17_3 hfz17_4 hfz21_0 hfz21_1 hfz21_2 hfz21_3 hfz21_4 hfz9_0 hfz9_1 hfz9_2 hfz9_3 hfz9_4 hx191_0 hx192_0 hx193_0 hx195_0 hx199_0 hx28_0 hx33_0 hx40_0 hx47_0 hx52_0 hx59_0 p1 p19 p191 p192 p193 p195 p199 p2 p28 p33 p40 p47 p52 p59 q1 q19 q191 q192 q193 q195 q199 q28 q33 q40 q47 q52 q59
           obtain ⟨x64_2, rfl, HA, HK2, HO_62, BK183, HB⟩ := hrel
           cases gk with
           | zero => exact absurd HA.out (by simp [rees_Regular.l2])
           | succ k2 =>
            have H := HA.out
            clear HA
            simp only [rees_Regular.l2] at H
            by_cases c70 : x64_2 < (y202.length : Int)
            ·rw [if_pos c70] at H
             have c70b0 : decide (x64_2 < (y202.length : Int)) = true := decide_eq_true c70
             clear c70
             by_cases c71 : 0 ≤ x64_2
             ·rw [if_pos c71] at H
              have c71b0 : decide (0 ≤ x64_2) = true := decide_eq_true c71
              clear c71
              by_cases c72 : x64_2 < (y202.length : Int)
              ·rw [if_pos c72] at H
               have c72b0 : decide (x64_2 < (y202.length : Int)) = true := decide_eq_true c72
               clear c72
               obtain ⟨bq73, hbq73⟩ : ∃ b_ : Bool, b_ = (rdOf false y202 x64_2) := ⟨_, rfl⟩
               replace H : (if bq73 = true then (rees_Regular.l2 k2 y202 (y202.length : Int) (wrap64 (x64_2 + 1))) else (some false)) = some r := by rw [← hbq73] at H; exact H
               have Nbq73 := Aside0.mk hbq73
               clear hbq73
               by_cases c74 : bq73 = true
               ·subst c74
                have H1 : (rees_Regular.l2 k2 y202 (y202.length : Int) (wrap64 (x64_2 + 1))) = some r := by rw [if_pos rfl] at H; exact H
                clear H
                have H := H1
                clear H1
                have H' := Aside0.mk H
                clear H
                have p205 : 0 ≤ (x64_2 : Int) := of_decide_eq_true q_as
                have q205 : x64_2 < (y202.length : Int) := of_decide_eq_true q_as
                obtain ⟨ad205, e205, hx205_0⟩ := Kd.at_bool (Kd.R_reads' HO_62.out).2.2 x64_2 p205 q205
                (try rw [← Nbq73.out] at hx205_0)
                cases e205
                q_t p205 q205
                go_wp2
                go_roundg k2
                case measure => have := HK1.out; have := HK2.out; omega
                case rel => exact ⟨(wrap64 (x64_2 + 1)), q_rs, H', ⟨by have := HK1.out; have := HK2.out; omega⟩, ⟨by q_nr; exact HO_62.out⟩, ⟨by q_bk; exact BK183.out⟩, ⟨by repeat (first | (with_reducible first | exact HB.out | apply below_alloc | apply pw_below_drewN | apply below_drew1 | refine below_set ?_ GE183.out) | exact HB.out)⟩⟩
               ·replace c74 := Bool.eq_false_iff.mpr c74
                subst c74
                have H1 : (some false) = some r := by rw [if_neg (show ¬ (false = true) by decide)] at H; exact H
                clear H
                have H := H1
                clear H1
                obtain rfl := Option.some.inj H
                have p205 : 0 ≤ (x64_2 : Int) := of_decide_eq_true q_as
                have q205 : x64_2 < (y202.length : Int) := of_decide_eq_true q_as
                obtain ⟨ad205, e205, hx205_0⟩ := Kd.at_bool (Kd.R_reads' HO_62.out).2.2 x64_2 p205 q205
                (try rw [← Nbq73.out] at hx205_0)
                cases e205
                q_t p205 q205
                go_wp2
                go_ret
                exact ⟨by first | rfl | q_em | q_en, by repeat (first | (with_reducible first | exact HB.out | apply below_alloc | apply pw_below_drewN | apply below_drew1 | refine below_set ?_ GE183.out) | exact HB.out)⟩
              ·rw [if_neg c72] at H
               exact absurd H (by simp)
             ·rw [if_neg c71] at H
              exact absurd H (by simp)
            ·rw [if_neg c70] at H
             have c70b0 : decide (x64_2 < (y202.length : Int)) = false := decide_eq_false c70
             clear c70
             obtain rfl := Option.some.inj H
             go_wp2
             go_ret
             exact ⟨by first | rfl | q_em | q_en, by repeat (first | (with_reducible first | exact HB.out | apply below_alloc | apply pw_below_drewN | apply below_drew1 | refine below_set ?_ GE183.out) | exact HB.out)⟩
         ·rw [if_neg c66] at H
          exact absurd H (by simp)
     ·rw [if_neg c7] at H
      exact absurd H (by simp)
    ·rw [if_neg c6] at H
     exact absurd H (by simp)
   ·rw [if_neg c5] at H
    exact absurd H (by simp)
  ·rw [if_neg c4] at H
   exact absurd H (by simp)
 ·rw [if_neg c3] at H
  have c3b0 : (t184 == 0) = false := beq_eq_false_iff_ne.mpr c3
  have c3b1 : (t184 != 0) = true := bne_iff_ne.mpr c3
  obtain rfl := Option.some.inj H
  go_enter Try.func23, Try.ntmps23
  go_wp2_with (first | ((with_reducible refine gate_dst (N := 1) rfl ?_); refine box_event ?hg (N := 1) ?hd (cs := #[.slice A0_0 l0_0.length c0_0, .int .i64 a0_1, .int .i64 a0_2, .slice A0_3 l0_3.length c0_3, .bool a0_4]) (t := 24) ?hr ?_; (case hd => rfl); (case hg => rfl); q_hr; intro gb183 hg w75 hbox hb; have n0_ := Aside0.mk (below_step q_hb hb); have n1_ := Aside0.mk (hbox); have n2_ := Aside0.mk ((by rw [hg]; exact q_bs : w.heap.size ≤ gb183)); have n3_ := Aside0.mk ((by rw [hg]; exact q_bs : w.heap.size ≤ gb183)); clear HB; have HB := n0_; have BK183 := n1_; have GW183 := n2_; have GE183 := n3_; clear n0_ n1_ n2_ n3_; (q_x hb hbox hg); have hcz76_0 : w75.cell? ⟨gb183, 0, none⟩ = some (.slice A0_0 l0_0.length c0_0) := (blk_cell BK183.out 0).trans rfl; have hcz76_1 : w75.cell? ⟨gb183, 1, none⟩ = some (.int .i64 a0_1) := (blk_cell BK183.out 1).trans rfl; have hcz76_2 : w75.cell? ⟨gb183, 2, none⟩ = some (.int .i64 a0_2) := (blk_cell BK183.out 2).trans rfl; have hcz76_3 : w75.cell? ⟨gb183, 3, none⟩ = some (.slice A0_3 l0_3.length c0_3) := (blk_cell BK183.out 3).trans rfl; have hcz76_4 : w75.cell? ⟨gb183, 4, none⟩ = some (.bool a0_4) := (blk_cell BK183.out 4).trans rfl; have hfz76_0 := blk_frozen BK183.out 0; have hfz76_1 := blk_frozen BK183.out 1; have hfz76_2 := blk_frozen BK183.out 2; have hfz76_3 := blk_frozen BK183.out 3; have hfz76_4 := blk_frozen BK183.out 4) | ((with_reducible refine gate_callee (f := 21) rfl ?_); refine goesL_ (some 11) rfl rfl Try.func21 (by kernel_rfl) rfl #[.agg #[.slice A0_0 l0_0.length c0_0, .int .i64 a0_1, .int .i64 a0_2, .slice A0_3 l0_3.length c0_3, .bool a0_4]] rfl q_ml ?_; (with_reducible refine (rees_Validate.calls k _ _ l0_0 a0_1 a0_2 _ _ l0_3 a0_4 t184 _ ?side1 ?side2 ?side3 ?side4 A2.out).mono ?_); (case side1 => q_cc (Kd.C_below HR0_0.out HB.out)); (case side2 => exact HC0_0.out); (case side3 => q_cc (Kd.C_below HR0_3.out HB.out)); (case side4 => exact HC0_3.out); rintro e w77 ⟨rfl, hb⟩; refine ⟨_, rfl, ?_⟩; have n0_ := Aside0.mk (blk_below (g := gb183) (o := .cells #[.slice A0_0 l0_0.length c0_0, .int .i64 a0_1, .int .i64 a0_2, .slice A0_3 l0_3.length c0_3, .bool a0_4] 24 (0, 0)) (by q_bk; exact BK183.out) hb); have n1_ := Aside0.mk (below_step (q_hs GE183.out) hb); clear BK183; clear HB; have BK183 := n0_; have HB := n1_; clear n0_ n1_; (q_x hb hb2 hk); (try clear hi)))
  go_ret
  exact ⟨by first | rfl | q_em | q_en, by repeat (first | (with_reducible first | exact HB.out | apply below_alloc | apply pw_below_drewN | apply below_drew1 | refine below_set ?_ GE183.out) | exact HB.out)⟩

/-! ### semigrouplaw17_brandt: function 44 -/
def semigrouplaw17_brandt.f  : Option ((List (List Int)) × Int × Int × (List (List Int)) × Bool) := some ((([(([0] : List Int))] : List (List Int))), 2, 2, (([(([0, (-1)] : List Int)), (([(-1), 0] : List Int))] : List (List Int))), true)
set_option maxHeartbeats 8000000 in
set_option maxRecDepth 100000 in
theorem semigrouplaw17_brandt.calls  (r1 : List (List Int)) (r2 : Int) (r3 : Int) (r4 : List (List Int)) (r5 : Bool) (w : World) (h : semigrouplaw17_brandt.f  = some (r1, r2, r3, r4, r5)) :
  Calls Try.prog 44 #[] w fun e w' => ∃ v0_ v3_ : Value, e = .returned (.agg #[v0_, .int .i64 r2, .int .i64 r3, v3_, .bool r5]) ∧ Kd.N (Kd.slice 3 (Kd.int .i64)) 39 w' w.heap.size (fun k_ => (w.heap.size ≤ k_) ∧ some k_ ≠ (v3_ : Value).ownBlock) v0_ r1 ∧ Kd.N (Kd.slice 3 (Kd.int .i64)) 39 w' w.heap.size (fun k_ => (w.heap.size ≤ k_) ∧ some k_ ≠ (v0_ : Value).ownBlock) v3_ r4 ∧ Below w.heap.size w w' := by
 have hu24 := Try.underlying24
 have HB := Aside0.mk (Below.refl w.heap.size w)
 have H : (some ((([(([0] : List Int))] : List (List Int))), 2, 2, (([(([0, (-1)] : List Int)), (([(-1), 0] : List Int))] : List (List Int))), true)) = some (r1, r2, r3, r4, r5) := h
 clear h
 obtain ⟨y207, hy207⟩ : ∃ y_ : List Int, y_ = (([0] : List Int)) := ⟨_, rfl⟩
 replace H : (some ((([y207] : List (List Int))), 2, 2, (([(([0, (-1)] : List Int)), (([(-1), 0] : List Int))] : List (List Int))), true)) = some (r1, r2, r3, r4, r5) := by first | (rw [hy207]; with_reducible exact H) | (have H2_ := (Option.bind_some _ _).symm.trans H; rw [hy207]; with_reducible exact H2_) | (have H2_ := (Option.bind_some _ _).symm.trans H; with_reducible exact H2_) | with_reducible exact H | (rw [hy207]; exact H) | exact H
 have Ny207 := Aside0.mk hy207
 clear hy207
 obtain ⟨y210, hy210⟩ : ∃ y_ : List (List Int), y_ = (([y207] : List (List Int))) := ⟨_, rfl⟩
 replace H : (some (y210, 2, 2, (([(([0, (-1)] : List Int)), (([(-1), 0] : List Int))] : List (List Int))), true)) = some (r1, r2, r3, r4, r5) := by first | (rw [hy210]; with_reducible exact H) | (have H2_ := (Option.bind_some _ _).symm.trans H; rw [hy210]; with_reducible exact H2_) | (have H2_ := (Option.bind_some _ _).symm.trans H; with_reducible exact H2_) | with_reducible exact H | (rw [hy210]; exact H) | exact H
 have Ny210 := Aside0.mk hy210
 clear hy210
 obtain ⟨y213, hy213⟩ : ∃ y_ : List Int, y_ = (([0, (-1)] : List Int)) := ⟨_, rfl⟩
 replace H : (some (y210, 2, 2, (([y213, (([(-1), 0] : List Int))] : List (List Int))), true)) = some (r1, r2, r3, r4, r5) := by first | (rw [hy213]; with_reducible exact H) | (have H2_ := (Option.bind_some _ _).symm.trans H; rw [hy213]; with_reducible exact H2_) | (have H2_ := (Option.bind_some _ _).symm.trans H; with_reducible exact H2_) | with_reducible exact H | (rw [hy213]; exact H) | exact H
 have Ny213 := Aside0.mk hy213
 clear hy213
 obtain ⟨y216, hy216⟩ : ∃ y_ : List Int, y_ = (([(-1), 0] : List Int)) := ⟨_, rfl⟩
 replace H : (some (y210, 2, 2, (([y213, y216] : List (List Int))), true)) = some (r1, r2, r3, r4, r5) := by first | (rw [hy216]; with_reducible exact H) | (have H2_ := (Option.bind_some _ _).symm.trans H; rw [hy216]; with_reducible exact H2_) | (have H2_ := (Option.bind_some _ _).symm.trans H; with_reducible exact H2_) | with_reducible exact H | (rw [hy216]; exact H) | exact H
 have Ny216 := Aside0.mk hy216
 clear hy216
 obtain ⟨y219, hy219⟩ : ∃ y_ : List (List Int), y_ = (([y213, y216] : List (List Int))) := ⟨_, rfl⟩
 replace H : (some (y210, 2, 2, y219, true)) = some (r1, r2, r3, r4, r5) := by first | (rw [hy219]; with_reducible exact H) | (have H2_ := (Option.bind_some _ _).symm.trans H; rw [hy219]; with_reducible exact H2_) | (have H2_ := (Option.bind_some _ _).symm.trans H; with_reducible exact H2_) | with_reducible exact H | (rw [hy219]; exact H) | exact H
 have Ny219 := Aside0.mk hy219
 clear hy219
 simp only [Option.some.injEq, Prod.mk.injEq] at H
 obtain ⟨rfl, rfl, rfl, rfl, rfl⟩ := H
 go_enter Try.func44, Try.ntmps44
 go_wp2_with (first | ((with_reducible refine gate_dst (N := 0) rfl ?_); refine box_event ?hg (N := 0) ?hd (cs := #[.slice none 0 0, .int .i64 0, .int .i64 0, .slice none 0 0, .bool false]) (t := 24) ?hr ?_; (case hd => rfl); (case hg => rfl); q_hr; intro gb206 hg w1 hbox hb; have n0_ := Aside0.mk (below_step q_hb hb); have n1_ := Aside0.mk (hbox); have n2_ := Aside0.mk ((by rw [hg]; exact q_bs : w.heap.size ≤ gb206)); have n3_ := Aside0.mk ((by rw [hg]; exact q_bs : w.heap.size ≤ gb206)); clear HB; have HB := n0_; have BK206 := n1_; have GW206 := n2_; have GE206 := n3_; clear n0_ n1_ n2_ n3_; (q_x hb hbox); (try clear hg)) | ((with_reducible refine gate_dst (N := 1) rfl ?_); refine Kd.R_lit (Kd.int .i64) _ 3 ?hg (N := 1) ?hd (xs := ([0] : List Int)) (inner := [.int .i64 0]) (ok := fun _ => True) (okp := fun _ => True) ?hr ?hp (fun _ hk => hk) trivial (Below.refl _ _) (Nat.le_refl _) (by simp) ?_; (case hd => rfl); (case hg => rfl); q_hr; (case hp => exact (Reps.one (show Kd.M (Kd.int .i64) _ _ _ 0 [.int .i64 0] from rfl) (Reps.none _ _))); intro v208 w2 ho3 hb hg_ hnew_; (q_x hg_ hnew_); (first | rw [← Ny207.out] at ho3 | (simp only [Int.reduceToNat] at ho3; rw [← Ny207.out] at ho3)); have n0_ := Aside0.mk (Kd.R_lower (Kd.R_newM (M := fun k_ => (w.heap.size ≤ k_)) ho3 (below_size (q_hs GE206.out)) (fun k_ h_ => h_)) (below_size (q_hs GE206.out))); have n1_ := Aside0.mk (blk_below (g := gb206) (o := .cells #[.slice none 0 0, .int .i64 0, .int .i64 0, .slice none 0 0, .bool false] 24 (0, 0)) (by q_bk; exact BK206.out) hb); have n2_ := Aside0.mk (below_step (q_hs GE206.out) hb); clear BK206; clear HB; have HO209 := n0_; have BK206 := n1_; have HB := n2_; clear n0_ n1_ n2_; (q_x hb ho3); obtain ⟨Ao4, co4, eo4⟩ := Kd.R_slice HO209.out; subst eo4) | ((with_reducible refine gate_dst (N := 2) rfl ?_); refine Kd.N_lit (Kd.slice 3 (Kd.int .i64)) _ 39 ?hg (N' := 2) ?hd (xs := ([y207] : List (List Int))) (inner := [.slice Ao4 y207.length co4]) (ok := (fun k_ => (w.heap.size ≤ k_) ∧ k_ ≠ gb206)) (okp := (fun k_ => (w.heap.size ≤ k_) ∧ k_ ≠ gb206)) ?hr ?hp (fun _ hk => hk) ((show ∀ k_, w2.heap.size ≤ k_ → (fun k_ => (w.heap.size ≤ k_) ∧ k_ ≠ gb206) k_ from fun k_ hk => ⟨(Nat.le_trans (below_size (q_hs GE206.out)) hk), Kd.freshB (g := gb206) (o := .cells #[.slice none 0 0, .int .i64 0, .int .i64 0, .slice none 0 0, .bool false] 24 (0, 0)) (by q_bk; exact BK206.out) k_ hk⟩) _ (Nat.le_refl _)) (Below.refl _ _) (Nat.le_refl _) (by simp) ?_; (case hd => rfl); (case hg => rfl); q_hr; (case hp => exact (Reps.one (show Kd.FK (Kd.slice 3 (Kd.int .i64)) _ _ y207 [.slice Ao4 y207.length co4] from (Kd.FK_slice_mk (Kd.R_reads' (Kd.R_mono (ok' := (fun k_ => (w.heap.size ≤ k_) ∧ k_ ≠ gb206)) (Kd.R_types (HO209.out) BK206.out (by decide)) (fun k_ hk => ⟨hk.1.1, hk.2⟩))).2.1 (Kd.R_F (Kd.R_mono (ok' := (fun k_ => (w.heap.size ≤ k_) ∧ k_ ≠ gb206)) (Kd.R_types (HO209.out) BK206.out (by decide)) (fun k_ hk => ⟨hk.1.1, hk.2⟩))))) (Reps.none _ _))); intro v211 w5 ho6 hb hg_ hnew_; (q_x hg_ hnew_); (first | rw [← Ny210.out] at ho6 | (simp only [Int.reduceToNat] at ho6; rw [← Ny210.out] at ho6)); have n0_ := Aside0.mk (Kd.N_lower ho6 (below_size (q_hs GE206.out))); have n1_ := Aside0.mk (blk_below (g := gb206) (o := .cells #[.slice none 0 0, .int .i64 0, .int .i64 0, .slice none 0 0, .bool false] 24 (0, 0)) (by q_bk; exact BK206.out) hb); have n2_ := Aside0.mk (below_step (q_hs GE206.out) hb); clear BK206; clear HB; clear HO209; have HO212 := n0_; have BK206 := n1_; have HB := n2_; clear n0_ n1_ n2_; (try clear hb); (try clear ho6)) | ((with_reducible refine gate_dst (N := 3) rfl ?_); refine Kd.R_lit (Kd.int .i64) _ 3 ?hg (N := 3) ?hd (xs := ([0, (-1)] : List Int)) (inner := [.int .i64 0, .int .i64 (-1)]) (ok := fun _ => True) (okp := fun _ => True) ?hr ?hp (fun _ hk => hk) trivial (Below.refl _ _) (Nat.le_refl _) (by simp) ?_; (case hd => rfl); (case hg => rfl); q_hr; (case hp => exact (Reps.one (show Kd.M (Kd.int .i64) _ _ _ 0 [.int .i64 0] from rfl) (Reps.one (show Kd.M (Kd.int .i64) _ _ _ (-1) [.int .i64 (-1)] from rfl) (Reps.none _ _)))); intro v214 w7 ho8 hb hg_ hnew_; (q_x hg_ hnew_); (first | rw [← Ny213.out] at ho8 | (simp only [Int.reduceToNat] at ho8; rw [← Ny213.out] at ho8)); have n0_ := Aside0.mk (Kd.N_elder' (by q_nn; exact HO212.out) (by first | exact Kd.N_base ho8 | exact Kd.S_base ho8 | exact Kd.R_base ho8) hb); have n1_ := Aside0.mk (Kd.R_lower (Kd.R_newM (M := fun k_ => (w.heap.size ≤ k_)) ho8 (below_size (q_hs GE206.out)) (fun k_ h_ => h_)) (below_size (q_hs GE206.out))); have n2_ := Aside0.mk (blk_below (g := gb206) (o := .cells #[.slice none 0 0, .int .i64 0, .int .i64 0, .slice none 0 0, .bool false] 24 (0, 0)) (by q_bk; exact BK206.out) hb); have n3_ := Aside0.mk (below_step (q_hs GE206.out) hb); clear HO212; clear BK206; clear HB; have HO212 := n0_; have HO215 := n1_; have BK206 := n2_; have HB := n3_; clear n0_ n1_ n2_ n3_; (try clear hb); (try clear ho8)) | ((with_reducible refine gate_dst (N := 4) rfl ?_); refine Kd.R_lit (Kd.int .i64) _ 3 ?hg (N := 4) ?hd (xs := ([(-1), 0] : List Int)) (inner := [.int .i64 (-1), .int .i64 0]) (ok := fun _ => True) (okp := fun _ => True) ?hr ?hp (fun _ hk => hk) trivial (Below.refl _ _) (Nat.le_refl _) (by simp) ?_; (case hd => rfl); (case hg => rfl); q_hr; (case hp => exact (Reps.one (show Kd.M (Kd.int .i64) _ _ _ (-1) [.int .i64 (-1)] from rfl) (Reps.one (show Kd.M (Kd.int .i64) _ _ _ 0 [.int .i64 0] from rfl) (Reps.none _ _)))); intro v217 w9 ho10 hb hg_ hnew_; (q_x hg_ hnew_); (first | rw [← Ny216.out] at ho10 | (simp only [Int.reduceToNat] at ho10; rw [← Ny216.out] at ho10)); have n0_ := Aside0.mk (Kd.N_elder' (by q_nn; exact HO212.out) (by first | exact Kd.N_base ho10 | exact Kd.S_base ho10 | exact Kd.R_base ho10) hb); have n1_ := Aside0.mk (Kd.R_elder' (by q_nr; exact HO215.out) (by first | exact Kd.N_base ho10 | exact Kd.S_base ho10 | exact Kd.R_base ho10) hb); have n2_ := Aside0.mk (Kd.R_lower (Kd.R_new' (Kd.R_newM (M := fun k_ => (w.heap.size ≤ k_)) ho10 (below_size (q_hs GE206.out)) (fun k_ h_ => h_)) (Kd.R_lt (by q_nr; exact HO215.out))) (below_size (q_hs GE206.out))); have n3_ := Aside0.mk (blk_below (g := gb206) (o := .cells #[.slice none 0 0, .int .i64 0, .int .i64 0, .slice none 0 0, .bool false] 24 (0, 0)) (by q_bk; exact BK206.out) hb); have n4_ := Aside0.mk (below_step (q_hs GE206.out) hb); clear HO212; clear HO215; clear BK206; clear HB; have HO212 := n0_; have HO215 := n1_; have HO218 := n2_; have BK206 := n3_; have HB := n4_; clear n0_ n1_ n2_ n3_ n4_; (q_x hb ho10); obtain ⟨Ao11, co11, eo11⟩ := Kd.R_slice HO215.out; subst eo11; obtain ⟨Ao12, co12, eo12⟩ := Kd.R_slice HO218.out; subst eo12) | ((with_reducible refine gate_dst (N := 5) rfl ?_); refine Kd.N_lit (Kd.slice 3 (Kd.int .i64)) _ 39 ?hg (N' := 5) ?hd (xs := ([y213, y216] : List (List Int))) (inner := [.slice Ao11 y213.length co11, .slice Ao12 y216.length co12]) (ok := (fun k_ => (w.heap.size ≤ k_) ∧ some k_ ≠ (v211 : Value).ownBlock ∧ k_ ≠ gb206)) (okp := (fun k_ => (w.heap.size ≤ k_) ∧ some k_ ≠ (v211 : Value).ownBlock ∧ k_ ≠ gb206)) ?hr ?hp (fun _ hk => hk) ((show ∀ k_, w9.heap.size ≤ k_ → (fun k_ => (w.heap.size ≤ k_) ∧ some k_ ≠ (v211 : Value).ownBlock ∧ k_ ≠ gb206) k_ from fun k_ hk => ⟨(Nat.le_trans (below_size (q_hs GE206.out)) hk), Kd.fresh' (Kd.N_lt (by q_nn; exact HO212.out)) k_ hk, Kd.freshB (g := gb206) (o := .cells #[.slice none 0 0, .int .i64 0, .int .i64 0, .slice none 0 0, .bool false] 24 (0, 0)) (by q_bk; exact BK206.out) k_ hk⟩) _ (Nat.le_refl _)) (Below.refl _ _) (Nat.le_refl _) (by simp) ?_; (case hd => rfl); (case hg => rfl); q_hr; (case hp => exact (Reps.one (show Kd.FK (Kd.slice 3 (Kd.int .i64)) _ _ y213 [.slice Ao11 y213.length co11] from (Kd.FK_slice_mk (Kd.R_reads' (Kd.R_mono (ok' := (fun k_ => (w.heap.size ≤ k_) ∧ some k_ ≠ (v211 : Value).ownBlock ∧ k_ ≠ gb206)) (Kd.R_types (Kd.R_apart' (HO215.out) (Kd.N_typed HO212.out) (by decide)) BK206.out (by decide)) (fun k_ hk => ⟨hk.1.1.1.1, ⟨hk.1.2, hk.2⟩⟩))).2.1 (Kd.R_F (Kd.R_mono (ok' := (fun k_ => (w.heap.size ≤ k_) ∧ some k_ ≠ (v211 : Value).ownBlock ∧ k_ ≠ gb206)) (Kd.R_types (Kd.R_apart' (HO215.out) (Kd.N_typed HO212.out) (by decide)) BK206.out (by decide)) (fun k_ hk => ⟨hk.1.1.1.1, ⟨hk.1.2, hk.2⟩⟩))))) (Reps.one (show Kd.FK (Kd.slice 3 (Kd.int .i64)) _ _ y216 [.slice Ao12 y216.length co12] from (Kd.FK_slice_mk (Kd.R_reads' (Kd.R_mono (ok' := (fun k_ => (w.heap.size ≤ k_) ∧ some k_ ≠ (v211 : Value).ownBlock ∧ k_ ≠ gb206)) (Kd.R_types (Kd.R_apart' (HO218.out) (Kd.N_typed HO212.out) (by decide)) BK206.out (by decide)) (fun k_ hk => ⟨hk.1.1.1.1, ⟨hk.1.2, hk.2⟩⟩))).2.1 (Kd.R_F (Kd.R_mono (ok' := (fun k_ => (w.heap.size ≤ k_) ∧ some k_ ≠ (v211 : Value).ownBlock ∧ k_ ≠ gb206)) (Kd.R_types (Kd.R_apart' (HO218.out) (Kd.N_typed HO212.out) (by decide)) BK206.out (by decide)) (fun k_ hk => ⟨hk.1.1.1.1, ⟨hk.1.2, hk.2⟩⟩))))) (Reps.none _ _)))); intro v220 w13 ho14 hb hg_ hnew_; (q_x hg_ hnew_); (first | rw [← Ny219.out] at ho14 | (simp only [Int.reduceToNat] at ho14; rw [← Ny219.out] at ho14)); have n0_ := Aside0.mk (Kd.N_elder' (by q_nn; exact HO212.out) (by first | exact Kd.N_base ho14 | exact Kd.S_base ho14 | exact Kd.R_base ho14) hb); have n1_ := Aside0.mk (Kd.N_lower ho14 (below_size (q_hs GE206.out))); have n2_ := Aside0.mk (blk_below (g := gb206) (o := .cells #[.slice none 0 0, .int .i64 0, .int .i64 0, .slice none 0 0, .bool false] 24 (0, 0)) (by q_bk; exact BK206.out) hb); have n3_ := Aside0.mk (below_step (q_hs GE206.out) hb); clear HO212; clear BK206; clear HB; clear HO215; clear HO218; have HO212 := n0_; have HO221 := n1_; have BK206 := n2_; have HB := n3_; clear n0_ n1_ n2_ n3_; (q_x hb ho14); obtain ⟨Ao15, co15, eo15⟩ := Kd.N_slice HO221.out; subst eo15; obtain ⟨Ao16, co16, eo16⟩ := Kd.N_slice HO212.out; subst eo16; have hcz17_0 : w13.cell? ⟨gb206, 0, none⟩ = some (.slice none 0 0) := (blk_cell BK206.out 0).trans rfl; have hcz17_1 : w13.cell? ⟨gb206, 1, none⟩ = some (.int .i64 0) := (blk_cell BK206.out 1).trans rfl; have hcz17_2 : w13.cell? ⟨gb206, 2, none⟩ = some (.int .i64 0) := (blk_cell BK206.out 2).trans rfl; have hcz17_3 : w13.cell? ⟨gb206, 3, none⟩ = some (.slice none 0 0) := (blk_cell BK206.out 3).trans rfl; have hcz17_4 : w13.cell? ⟨gb206, 4, none⟩ = some (.bool false) := (blk_cell BK206.out 4).trans rfl; have hfz17_0 := blk_frozen BK206.out 0; have hfz17_1 := blk_frozen BK206.out 1; have hfz17_2 := blk_frozen BK206.out 2; have hfz17_3 := blk_frozen BK206.out 3; have hfz17_4 := blk_frozen BK206.out 4))
 refine bodyPost_ret (results_cell_row rfl _ _ gb206 24 #[.slice Ao16 y210.length co16, .int .i64 2, .int .i64 2, .slice Ao15 y219.length co15, .bool true] (0, 0) _ rfl (by q_bk; refine blk_put (cs := #[.slice Ao16 y210.length co16, .int .i64 2, .int .i64 2, .slice Ao15 y219.length co15, .bool false]) ?_ 4 _ rfl; q_bk; refine blk_put (cs := #[.slice Ao16 y210.length co16, .int .i64 2, .int .i64 2, .slice none 0 0, .bool false]) ?_ 3 _ rfl; q_bk; refine blk_put (cs := #[.slice Ao16 y210.length co16, .int .i64 2, .int .i64 0, .slice none 0 0, .bool false]) ?_ 2 _ rfl; q_bk; refine blk_put (cs := #[.slice Ao16 y210.length co16, .int .i64 0, .int .i64 0, .slice none 0 0, .bool false]) ?_ 1 _ rfl; q_bk; refine blk_put (cs := #[.slice none 0 0, .int .i64 0, .int .i64 0, .slice none 0 0, .bool false]) ?_ 0 _ rfl; q_bk; exact BK206.out) Try.underlying24 rfl (by kernel_rfl)) rfl ?_
 exact ⟨_, _, by first | rfl | q_em | q_en, by q_nn; exact Kd.N_mono (Kd.N_far (p := ⟨gb206, 4, none⟩) (Kd.N_far (p := ⟨gb206, 3, none⟩) (Kd.N_far (p := ⟨gb206, 2, none⟩) (Kd.N_far (p := ⟨gb206, 1, none⟩) (Kd.N_far (p := ⟨gb206, 0, none⟩) (Kd.N_mono HO212.out (fun k_ hk => (⟨hk, hk.1.1.1.2⟩ : _ ∧ k_ ≠ gb206))) (fun _ hk => hk.2) (.slice Ao16 y210.length co16)) (fun _ hk => hk.2) (.int .i64 2)) (fun _ hk => hk.2) (.int .i64 2)) (fun _ hk => hk.2) (.slice Ao15 y219.length co15)) (fun _ hk => hk.2) (.bool true)) (fun _ hk => ⟨hk.1.1.1.1.1, hk.1.2⟩), by q_nn; exact Kd.N_mono (Kd.N_far (p := ⟨gb206, 4, none⟩) (Kd.N_far (p := ⟨gb206, 3, none⟩) (Kd.N_far (p := ⟨gb206, 2, none⟩) (Kd.N_far (p := ⟨gb206, 1, none⟩) (Kd.N_far (p := ⟨gb206, 0, none⟩) (Kd.N_mono HO221.out (fun k_ hk => (⟨hk, hk.2.2⟩ : _ ∧ k_ ≠ gb206))) (fun _ hk => hk.2) (.slice Ao16 y210.length co16)) (fun _ hk => hk.2) (.int .i64 2)) (fun _ hk => hk.2) (.int .i64 2)) (fun _ hk => hk.2) (.slice Ao15 y219.length co15)) (fun _ hk => hk.2) (.bool true)) (fun _ hk => ⟨hk.1.1, hk.1.2.1⟩), by repeat (first | (with_reducible first | exact HB.out | apply below_alloc | apply pw_below_drewN | apply below_drew1 | refine below_set ?_ GE206.out) | exact HB.out)⟩


end Go.Proofs.Ytnoickhdbinciaa.PAll
