-- printed for this claim out of the translation; Lean checks it
import Derived.Test.YtnoickhdbinciaaKReesTablesP2
namespace Go.Proofs.Ytnoickhdbinciaa.PAll
open Go.RowKit Go.Proofs.YtnoickhdbinciaaW.PrintWords Go.Proofs.YtnoickhdbinciaaW.PrintLast Go.Proofs.YtnoickhdbinciaaW.PrintMore
attribute [local go_sem] max2_int min2_int max_two min_two max_three min_three max_four min_four   -- for this text's walks alone
set_option linter.unusedVariables false
set_option linter.unusedSimpArgs false
/-! ### semigrouplaw17_awake: function 14 -/
def semigrouplaw17_awake.f (k : Nat)  : Option (Bool) := (semigrouplaw17_brandt.f).bind fun bt222 => ((rees_Table.f k bt222.1 bt222.2.1 bt222.2.2.1 bt222.2.2.2.1 bt222.2.2.2.2).bind fun bt231 => (if bt231.2 = 0 then (if (bt231.1.length : Int) = 5 then ((semigrouplaw17_brandt.f).bind fun bt235 => ((rees_Regular.f k bt235.1 bt235.2.1 bt235.2.2.1 bt235.2.2.2.1 bt235.2.2.2.2).bind fun t244 => (if t244 = true then (if 1 < (bt231.1.length : Int) then (if 1 < ((rd_L1 bt231.1 1).length : Int) then (if (rd (rd_L1 bt231.1 1) 1) = 1 then (if 4 < ((rd_L1 bt231.1 1).length : Int) then (some ((rd (rd_L1 bt231.1 1) 4) == 0)) else (none)) else (some false)) else (none)) else (none)) else (some false)))) else (some false)) else (some false)))
theorem semigrouplaw17_awake.mono : ∀ k, LeO (semigrouplaw17_awake.f k ) (semigrouplaw17_awake.f (k + 1) ) := by
 intro  k
 unfold semigrouplaw17_awake.f
 repeat' first
   | (with_reducible exact rees_Regular.mono _ _ _ _ _ _)
   | (with_reducible exact rees_Table.mono _ _ _ _ _ _)
   | (with_reducible exact LeO.refl _)
   | (with_reducible exact LeO.none _)
   | (with_reducible refine LeO.ite ?_ ?_)
   | (with_reducible refine LeO.bind ?_ (fun _ => ?_))
   | exact rees_Regular.mono _ _ _ _ _ _
   | exact rees_Table.mono _ _ _ _ _ _
   | exact LeO.none _
   | refine LeO.ite ?_ ?_
   | refine LeO.bind ?_ (fun _ => ?_)
set_option maxHeartbeats 8000000 in
set_option maxRecDepth 100000 in
theorem semigrouplaw17_awake.calls (k : Nat)  (r : Bool) (w : World) (h : semigrouplaw17_awake.f k  = some r) :
  Calls Try.prog 14 #[] w fun e w' => e = .returned (.bool r) ∧ Below w.heap.size w w' := by
 have HB := Aside0.mk (Below.refl w.heap.size w)
 have H : ((semigrouplaw17_brandt.f).bind fun bt222 => ((rees_Table.f k bt222.1 bt222.2.1 bt222.2.2.1 bt222.2.2.2.1 bt222.2.2.2.2).bind fun bt231 => (if bt231.2 = 0 then (if (bt231.1.length : Int) = 5 then ((semigrouplaw17_brandt.f).bind fun bt235 => ((rees_Regular.f k bt235.1 bt235.2.1 bt235.2.2.1 bt235.2.2.2.1 bt235.2.2.2.2).bind fun t244 => (if t244 = true then (if 1 < (bt231.1.length : Int) then (if 1 < ((rd_L1 bt231.1 1).length : Int) then (if (rd (rd_L1 bt231.1 1) 1) = 1 then (if 4 < ((rd_L1 bt231.1 1).length : Int) then (some ((rd (rd_L1 bt231.1 1) 4) == 0)) else (none)) else (some false)) else (none)) else (none)) else (some false)))) else (some false)) else (some false)))) = some r := h
 clear h
 replace H := Option.bind_eq_some_iff.mp H
 obtain ⟨⟨t222, t225, t226, t227, t230⟩, A10, H⟩ := H
 replace H : ((rees_Table.f k t222 t225 t226 t227 t230).bind fun bt231 => (if bt231.2 = 0 then (if (bt231.1.length : Int) = 5 then ((semigrouplaw17_brandt.f).bind fun bt235 => ((rees_Regular.f k bt235.1 bt235.2.1 bt235.2.2.1 bt235.2.2.2.1 bt235.2.2.2.2).bind fun t244 => (if t244 = true then (if 1 < (bt231.1.length : Int) then (if 1 < ((rd_L1 bt231.1 1).length : Int) then (if (rd (rd_L1 bt231.1 1) 1) = 1 then (if 4 < ((rd_L1 bt231.1 1).length : Int) then (some ((rd (rd_L1 bt231.1 1) 4) == 0)) else (none)) else (some false)) else (none)) else (none)) else (some false)))) else (some false)) else (some false))) = some r := H
 have A1 := Aside0.mk A10
 clear A10
 replace H := Option.bind_eq_some_iff.mp H
 obtain ⟨⟨t231, t234⟩, A20, H⟩ := H
 replace H : (if t234 = 0 then (if (t231.length : Int) = 5 then ((semigrouplaw17_brandt.f).bind fun bt235 => ((rees_Regular.f k bt235.1 bt235.2.1 bt235.2.2.1 bt235.2.2.2.1 bt235.2.2.2.2).bind fun t244 => (if t244 = true then (if 1 < (t231.length : Int) then (if 1 < ((rd_L1 t231 1).length : Int) then (if (rd (rd_L1 t231 1) 1) = 1 then (if 4 < ((rd_L1 t231 1).length : Int) then (some ((rd (rd_L1 t231 1) 4) == 0)) else (none)) else (some false)) else (none)) else (none)) else (some false)))) else (some false)) else (some false)) = some r := H
 have A2 := Aside0.mk A20
 clear A20
 by_cases c3 : t234 = 0
 ·rw [if_pos c3] at H
  have c3b0 : (t234 == 0) = true := beq_iff_eq.mpr c3
  have c3b1 : (t234 != 0) = false := bne_eq_false_iff_eq.mpr c3
  clear c3
  by_cases c4 : (t231.length : Int) = 5
  ·rw [if_pos c4] at H
   have c4b0 : ((t231.length : Int) == 5) = true := beq_iff_eq.mpr c4
   have c4b1 : ((t231.length : Int) != 5) = false := bne_eq_false_iff_eq.mpr c4
   clear c4
   replace H := Option.bind_eq_some_iff.mp H
   obtain ⟨⟨t235, t238, t239, t240, t243⟩, A50, H⟩ := H
   replace H : ((rees_Regular.f k t235 t238 t239 t240 t243).bind fun t244 => (if t244 = true then (if 1 < (t231.length : Int) then (if 1 < ((rd_L1 t231 1).length : Int) then (if (rd (rd_L1 t231 1) 1) = 1 then (if 4 < ((rd_L1 t231 1).length : Int) then (some ((rd (rd_L1 t231 1) 4) == 0)) else (none)) else (some false)) else (none)) else (none)) else (some false))) = some r := H
   have A5 := Aside0.mk A50
   clear A50
   replace H := Option.bind_eq_some_iff.mp H
   obtain ⟨t244, A60, H⟩ := H
   replace H : (if t244 = true then (if 1 < (t231.length : Int) then (if 1 < ((rd_L1 t231 1).length : Int) then (if (rd (rd_L1 t231 1) 1) = 1 then (if 4 < ((rd_L1 t231 1).length : Int) then (some ((rd (rd_L1 t231 1) 4) == 0)) else (none)) else (some false)) else (none)) else (none)) else (some false)) = some r := H
   have A6 := Aside0.mk A60
   clear A60
   by_cases c7 : t244 = true
   ·subst c7
    have H1 : (if 1 < (t231.length : Int) then (if 1 < ((rd_L1 t231 1).length : Int) then (if (rd (rd_L1 t231 1) 1) = 1 then (if 4 < ((rd_L1 t231 1).length : Int) then (some ((rd (rd_L1 t231 1) 4) == 0)) else (none)) else (some false)) else (none)) else (none)) = some r := by rw [if_pos rfl] at H; exact H
    clear H
    have H := H1
    clear H1
    by_cases c8 : 1 < (t231.length : Int)
    ·rw [if_pos c8] at H
     have c8b0 : decide (1 < (t231.length : Int)) = true := decide_eq_true c8
     have c8b1 : decide (1 < t231.length) = true := decide_eq_true (by omega)
     clear c8
     by_cases c9 : 1 < ((rd_L1 t231 1).length : Int)
     ·rw [if_pos c9] at H
      have c9b0 : decide (1 < ((rd_L1 t231 1).length : Int)) = true := decide_eq_true c9
      have c9b1 : decide (1 < (rd_L1 t231 1).length) = true := decide_eq_true (by omega)
      clear c9
      by_cases c10 : (rd (rd_L1 t231 1) 1) = 1
      ·rw [if_pos c10] at H
       have c10b0 : ((rd (rd_L1 t231 1) 1) == 1) = true := beq_iff_eq.mpr c10
       have c10b1 : ((rd (rd_L1 t231 1) 1) != 1) = false := bne_eq_false_iff_eq.mpr c10
       clear c10
       by_cases c11 : 4 < ((rd_L1 t231 1).length : Int)
       ·rw [if_pos c11] at H
        have c11b0 : decide (4 < ((rd_L1 t231 1).length : Int)) = true := decide_eq_true c11
        have c11b1 : decide (4 < (rd_L1 t231 1).length) = true := decide_eq_true (by omega)
        clear c11
        obtain rfl := Option.some.inj H
        go_enter Try.func14, Try.ntmps14
        go_wp2_with (first | ((with_reducible refine gate_callee (f := 44) rfl ?_); refine goesL_ (some 4) rfl rfl Try.func44 (by kernel_rfl) rfl #[] rfl q_ml ?_; (with_reducible refine (semigrouplaw17_brandt.calls  t222 t225 t226 t227 t230 _ A1.out).mono ?_); rintro e w12 ⟨v223, v228, rfl, ho0, ho1, hb⟩; refine ⟨_, rfl, ?_⟩; have n0_ := Aside0.mk (Kd.N_lower (Kd.N_mono (ok' := fun k_ => some k_ ≠ (v228 : Value).ownBlock) ho0 (fun k_ hk_ => hk_.2)) q_bs); have n1_ := Aside0.mk (Kd.N_lower (Kd.N_mono (ok' := fun k_ => some k_ ≠ (v223 : Value).ownBlock) ho1 (fun k_ hk_ => hk_.2)) q_bs); have n2_ := Aside0.mk (below_step q_hb hb); clear HB; have HO224 := n0_; have HO229 := n1_; have HB := n2_; clear n0_ n1_ n2_; (q_x hb hb2 hk hi ho0 ho1); obtain ⟨Ao13, co13, eo13⟩ := Kd.N_slice HO224.out; subst eo13; obtain ⟨Ao14, co14, eo14⟩ := Kd.N_slice HO229.out; subst eo14) | ((with_reducible refine gate_callee (f := 17) rfl ?_); refine goesL_ (some 5) rfl rfl Try.func17 (by kernel_rfl) rfl #[.agg #[.slice Ao13 t222.length co13, .int .i64 t225, .int .i64 t226, .slice Ao14 t227.length co14, .bool t230]] rfl q_ml ?_; (with_reducible refine (rees_Table.calls k _ _ t222 t225 t226 _ _ t227 t230 t231 t234 _ ?side1 ?side2 ?side3 ?side4 A2.out).mono ?_); (case side1 => repeat (first | exact (Kd.N_reads' HO224.out).2.2 | (with_reducible refine Kd.C_alloc ?_ _) | (with_reducible refine Kd.C_drewN ?_ _) | (with_reducible refine Kd.C_drew ?_))); (case side2 => exact (Kd.N_reads' HO224.out).2.1); (case side3 => repeat (first | exact (Kd.N_reads' HO229.out).2.2 | (with_reducible refine Kd.C_alloc ?_ _) | (with_reducible refine Kd.C_drewN ?_ _) | (with_reducible refine Kd.C_drew ?_))); (case side4 => exact (Kd.N_reads' HO229.out).2.1); rintro e w15 ⟨v232, rfl, ho0, hb⟩; refine ⟨_, rfl, ?_⟩; have n0_ := Aside0.mk (Kd.N_elder' (by q_nn; exact HO224.out) (by first | exact Kd.N_base ho0 | exact Kd.S_base ho0 | exact Kd.R_base ho0) hb); have n1_ := Aside0.mk (Kd.N_elder' (by q_nn; exact HO229.out) (by first | exact Kd.N_base ho0 | exact Kd.S_base ho0 | exact Kd.R_base ho0) hb); have n2_ := Aside0.mk (Kd.N_lower (Kd.N_mono (ok' := fun k_ => some k_ ≠ (.slice Ao13 t222.length co13 : Value).ownBlock ∧ some k_ ≠ (.slice Ao14 t227.length co14 : Value).ownBlock) (Kd.S_N (Kd.S_bound ho0)) (fun k_ hk_ => ⟨(Kd.fresh' (Kd.N_lt (by q_nn; exact HO224.out)) k_ hk_.2.1), (Kd.fresh' (Kd.N_lt (by q_nn; exact HO229.out)) k_ hk_.2.1)⟩)) q_bs); have n3_ := Aside0.mk (below_step q_hb hb); clear HO224; clear HO229; clear HB; have HO224 := n0_; have HO229 := n1_; have HO233 := n2_; have HB := n3_; clear n0_ n1_ n2_ n3_; (q_x hb hb2 hk hi ho0); obtain ⟨Ao16, co16, eo16⟩ := Kd.N_slice HO233.out; subst eo16) | (go_at_call 44; (with_reducible refine (semigrouplaw17_brandt.calls  t235 t238 t239 t240 t243 _ A5.out).mono ?_); rintro e w17 ⟨v236, v241, rfl, ho0, ho1, hb⟩; have n0_ := Aside0.mk (Kd.N_mono (Kd.N_told (Kd.N_told (Kd.N_old (by q_nn; exact HO224.out) hb) (by first | exact Kd.N_base ho0 | exact Kd.S_base ho0 | exact Kd.R_base ho0)) (by first | exact Kd.N_base ho1 | exact Kd.S_base ho1 | exact Kd.R_base ho1)) (fun _ h_ => h_.1)); have n1_ := Aside0.mk (Kd.N_mono (Kd.N_told (Kd.N_told (Kd.N_old (by q_nn; exact HO229.out) hb) (by first | exact Kd.N_base ho0 | exact Kd.S_base ho0 | exact Kd.R_base ho0)) (by first | exact Kd.N_base ho1 | exact Kd.S_base ho1 | exact Kd.R_base ho1)) (fun _ h_ => h_.1)); have n2_ := Aside0.mk (Kd.N_mono (Kd.N_told (Kd.N_told (Kd.N_old (by q_nn; exact HO233.out) hb) (by first | exact Kd.N_base ho0 | exact Kd.S_base ho0 | exact Kd.R_base ho0)) (by first | exact Kd.N_base ho1 | exact Kd.S_base ho1 | exact Kd.R_base ho1)) (fun _ h_ => h_.1)); have n3_ := Aside0.mk (Kd.N_lower (Kd.N_mono (ok' := fun k_ => some k_ ≠ (v241 : Value).ownBlock ∧ some k_ ≠ (.slice Ao13 t222.length co13 : Value).ownBlock ∧ some k_ ≠ (.slice Ao14 t227.length co14 : Value).ownBlock ∧ some k_ ≠ (.slice Ao16 t231.length co16 : Value).ownBlock) ho0 (fun k_ hk_ => ⟨hk_.2, (Kd.fresh' (Kd.N_lt (by q_nn; exact HO224.out)) k_ hk_.1), (Kd.fresh' (Kd.N_lt (by q_nn; exact HO229.out)) k_ hk_.1), (Kd.fresh' (Kd.N_lt (by q_nn; exact HO233.out)) k_ hk_.1)⟩)) q_bs); have n4_ := Aside0.mk (Kd.N_lower (Kd.N_mono (ok' := fun k_ => some k_ ≠ (v236 : Value).ownBlock ∧ some k_ ≠ (.slice Ao13 t222.length co13 : Value).ownBlock ∧ some k_ ≠ (.slice Ao14 t227.length co14 : Value).ownBlock ∧ some k_ ≠ (.slice Ao16 t231.length co16 : Value).ownBlock) ho1 (fun k_ hk_ => ⟨hk_.2, (Kd.fresh' (Kd.N_lt (by q_nn; exact HO224.out)) k_ hk_.1), (Kd.fresh' (Kd.N_lt (by q_nn; exact HO229.out)) k_ hk_.1), (Kd.fresh' (Kd.N_lt (by q_nn; exact HO233.out)) k_ hk_.1)⟩)) q_bs); have n5_ := Aside0.mk (below_step q_hb hb); clear HO224; clear HO229; clear HO233; clear HB; have HO224 := n0_; have HO229 := n1_; have HO233 := n2_; have HO237 := n3_; have HO242 := n4_; have HB := n5_; clear n0_ n1_ n2_ n3_ n4_ n5_; (q_x hb hb2 hk hi ho0 ho1); obtain ⟨Ao18, co18, eo18⟩ := Kd.N_slice HO237.out; subst eo18; obtain ⟨Ao19, co19, eo19⟩ := Kd.N_slice HO242.out; subst eo19) | (go_at_call 23; (with_reducible refine (rees_Regular.calls k _ _ t235 t238 t239 _ _ t240 t243 true _ ?side1 ?side2 ?side3 ?side4 A6.out).mono ?_); (case side1 => repeat (first | exact (Kd.N_reads' HO237.out).2.2 | (with_reducible refine Kd.C_alloc ?_ _) | (with_reducible refine Kd.C_drewN ?_ _) | (with_reducible refine Kd.C_drew ?_))); (case side2 => exact (Kd.N_reads' HO237.out).2.1); (case side3 => repeat (first | exact (Kd.N_reads' HO242.out).2.2 | (with_reducible refine Kd.C_alloc ?_ _) | (with_reducible refine Kd.C_drewN ?_ _) | (with_reducible refine Kd.C_drew ?_))); (case side4 => exact (Kd.N_reads' HO242.out).2.1); rintro e w20 ⟨rfl, hb⟩; have n0_ := Aside0.mk (Kd.N_below (by q_nn; exact HO224.out) hb); have n1_ := Aside0.mk (Kd.N_below (by q_nn; exact HO229.out) hb); have n2_ := Aside0.mk (Kd.N_below (by q_nn; exact HO233.out) hb); have n3_ := Aside0.mk (Kd.N_below (by q_nn; exact HO237.out) hb); have n4_ := Aside0.mk (Kd.N_below (by q_nn; exact HO242.out) hb); have n5_ := Aside0.mk (below_step q_hb hb); clear HO224; clear HO229; clear HO233; clear HO237; clear HO242; clear HB; have HO224 := n0_; have HO229 := n1_; have HO233 := n2_; have HO237 := n3_; have HO242 := n4_; have HB := n5_; clear n0_ n1_ n2_ n3_ n4_ n5_; (q_x hb hb2 hk hi); have p245 : 0 ≤ (1 : Int) := (by omega); have q245 : 1 < (t231.length : Int) := of_decide_eq_true q_as; obtain ⟨ad245, A245_0, c245_0, e245, hx245_0, hl245_0, hi245_0⟩ := at_L1 (Kd.N_reads' HO233.out).2.2 1 p245 q245; cases e245; obtain ⟨ce245, hce245, hMe245, hcc245⟩ := Kd.N_get HO233.out [] 1 p245 (by first | exact q245 | exact of_decide_eq_true q_as | (have e_ := (Kd.N_reads' HO233.out).1; omega)); obtain ⟨ua245_0, uc245_0, rfl, ul245_0, ge245_0⟩ := Kd.FK_slice_open hMe245; have hv245_0 := hcc245 0 _ rfl; rw [Nat.add_zero, show ((Kd.slice 3 (Kd.int .i64))).sz = 1 from rfl, Nat.mul_one] at hv245_0; replace hv245_0 := Option.some.inj (hv245_0.symm.trans hx245_0); injection hv245_0 with hva_ hvn_ hvc_; rw [hva_] at ge245_0; rw [hvc_] at ul245_0; have HL245_0 := Aside0.mk (show Kd.V (Kd.int .i64) 3 _ w.heap.size _ _ (rd_L1 t231 1) from Kd.V_mk ul245_0 ge245_0); (q_x hva_ hvn_ hvc_ ge245_0 ul245_0 hcc245 hce245); (try simp only [show (1 : Int).toNat = 1 from rfl, Nat.reduceMul, Nat.reduceEqDiff, Go.Addr.add, ↓reduceIte] at hx245_0); have qi245 : (1 < t231.length) = True := eq_true (by omega); (try rw [show ((1 : Int)).toNat = 1 from rfl] at hx245_0); have HR245_0 := Aside0.mk hi245_0; have HC245_0 := Aside0.mk hl245_0; (q_x hi245_0 hl245_0); replace p245 := eq_true p245; replace q245 := eq_true q245; have p246 : 0 ≤ (1 : Int) := (by omega); have q246 : 1 < ((rd_L1 t231 1).length : Int) := of_decide_eq_true q_as; obtain ⟨ad246, e246, hx246_0⟩ := Kd.at_int (by repeat (first | (with_reducible exact HR245_0.out) | (with_reducible refine Kd.C_alloc ?_ _) | (with_reducible refine Kd.C_drewN ?_ _) | (with_reducible refine Kd.C_drew ?_) | exact HR245_0.out)) 1 p246 q246; cases e246; (try simp only [show (1 : Int).toNat = 1 from rfl, Nat.reduceMul, Nat.reduceEqDiff, Go.Addr.add, ↓reduceIte] at hx246_0); have qi246 : (1 < (rd_L1 t231 1).length) = True := eq_true (by omega); (try rw [show ((1 : Int)).toNat = 1 from rfl] at hx246_0); replace p246 := eq_true p246; replace q246 := eq_true q246; have p247 : 0 ≤ (1 : Int) := (by omega); have q247 : 1 < (t231.length : Int) := of_decide_eq_true q_as; obtain ⟨ad247, A247_0, c247_0, e247, hx247_0, hl247_0, hi247_0⟩ := at_L1 (Kd.N_reads' HO233.out).2.2 1 p247 q247; obtain rfl : ad245 = ad247 := (by injection e247); obtain ⟨ce247, hce247, hMe247, hcc247⟩ := Kd.N_get HO233.out [] 1 p247 (by first | exact q247 | exact of_decide_eq_true q_as | (have e_ := (Kd.N_reads' HO233.out).1; omega)); obtain ⟨ua247_0, uc247_0, rfl, ul247_0, ge247_0⟩ := Kd.FK_slice_open hMe247; have hv247_0 := hcc247 0 _ rfl; rw [Nat.add_zero, show ((Kd.slice 3 (Kd.int .i64))).sz = 1 from rfl, Nat.mul_one] at hv247_0; replace hv247_0 := Option.some.inj (hv247_0.symm.trans hx247_0); injection hv247_0 with hva_ hvn_ hvc_; rw [hva_] at ge247_0; rw [hvc_] at ul247_0; have HL247_0 := Aside0.mk (show Kd.V (Kd.int .i64) 3 _ w.heap.size _ _ (rd_L1 t231 1) from Kd.V_mk ul247_0 ge247_0); (q_x hva_ hvn_ hvc_ ge247_0 ul247_0 hcc247 hce247); (try simp only [show (1 : Int).toNat = 1 from rfl, Nat.reduceMul, Nat.reduceEqDiff, Go.Addr.add, ↓reduceIte] at hx247_0); have qi247 : (1 < t231.length) = True := eq_true (by omega); (try rw [show ((1 : Int)).toNat = 1 from rfl] at hx247_0); have HR247_0 := Aside0.mk hi247_0; have HC247_0 := Aside0.mk hl247_0; (q_x hi247_0 hl247_0); replace p247 := eq_true p247; replace q247 := eq_true q247; have ea_ := Option.some.inj (hx245_0.symm.trans hx247_0); injection ea_ with ea_ en_ ec_; subst ea_; subst ec_; clear en_; have p248 : 0 ≤ (4 : Int) := (by omega); have q248 : 4 < ((rd_L1 t231 1).length : Int) := of_decide_eq_true q_as; obtain ⟨ad248, e248, hx248_0⟩ := Kd.at_int (by repeat (first | (with_reducible exact HR247_0.out) | (with_reducible refine Kd.C_alloc ?_ _) | (with_reducible refine Kd.C_drewN ?_ _) | (with_reducible refine Kd.C_drew ?_) | exact HR247_0.out)) 4 p248 q248; cases e248; (try simp only [show (4 : Int).toNat = 4 from rfl, Nat.reduceMul, Nat.reduceEqDiff, Go.Addr.add, ↓reduceIte] at hx248_0); have qi248 : (4 < (rd_L1 t231 1).length) = True := eq_true (by omega); (try rw [show ((4 : Int)).toNat = 4 from rfl] at hx248_0); replace p248 := eq_true p248; replace q248 := eq_true q248))
        go_ret
        exact ⟨by first | rfl | q_em | q_en, by repeat (first | (with_reducible first | exact HB.out | apply below_alloc | apply pw_below_drewN | apply below_drew1) | exact HB.out)⟩
       ·rw [if_neg c11] at H
        exact absurd H (by simp)
      ·rw [if_neg c10] at H
       have c10b0 : ((rd (rd_L1 t231 1) 1) == 1) = false := beq_eq_false_iff_ne.mpr c10
       have c10b1 : ((rd (rd_L1 t231 1) 1) != 1) = true := bne_iff_ne.mpr c10
       obtain rfl := Option.some.inj H
       go_enter Try.func14, Try.ntmps14
       go_wp2_with (first | ((with_reducible refine gate_callee (f := 44) rfl ?_); refine goesL_ (some 4) rfl rfl Try.func44 (by kernel_rfl) rfl #[] rfl q_ml ?_; (with_reducible refine (semigrouplaw17_brandt.calls  t222 t225 t226 t227 t230 _ A1.out).mono ?_); rintro e w21 ⟨v223, v228, rfl, ho0, ho1, hb⟩; refine ⟨_, rfl, ?_⟩; have n0_ := Aside0.mk (Kd.N_lower (Kd.N_mono (ok' := fun k_ => some k_ ≠ (v228 : Value).ownBlock) ho0 (fun k_ hk_ => hk_.2)) q_bs); have n1_ := Aside0.mk (Kd.N_lower (Kd.N_mono (ok' := fun k_ => some k_ ≠ (v223 : Value).ownBlock) ho1 (fun k_ hk_ => hk_.2)) q_bs); have n2_ := Aside0.mk (below_step q_hb hb); clear HB; have HO224 := n0_; have HO229 := n1_; have HB := n2_; clear n0_ n1_ n2_; (q_x hb hb2 hk hi ho0 ho1); obtain ⟨Ao22, co22, eo22⟩ := Kd.N_slice HO224.out; subst eo22; obtain ⟨Ao23, co23, eo23⟩ := Kd.N_slice HO229.out; subst eo23) | ((with_reducible refine gate_callee (f := 17) rfl ?_); refine goesL_ (some 5) rfl rfl Try.func17 (by kernel_rfl) rfl #[.agg #[.slice Ao22 t222.length co22, .int .i64 t225, .int .i64 t226, .slice Ao23 t227.length co23, .bool t230]] rfl q_ml ?_; (with_reducible refine (rees_Table.calls k _ _ t222 t225 t226 _ _ t227 t230 t231 t234 _ ?side1 ?side2 ?side3 ?side4 A2.out).mono ?_); (case side1 => repeat (first | exact (Kd.N_reads' HO224.out).2.2 | (with_reducible refine Kd.C_alloc ?_ _) | (with_reducible refine Kd.C_drewN ?_ _) | (with_reducible refine Kd.C_drew ?_))); (case side2 => exact (Kd.N_reads' HO224.out).2.1); (case side3 => repeat (first | exact (Kd.N_reads' HO229.out).2.2 | (with_reducible refine Kd.C_alloc ?_ _) | (with_reducible refine Kd.C_drewN ?_ _) | (with_reducible refine Kd.C_drew ?_))); (case side4 => exact (Kd.N_reads' HO229.out).2.1); rintro e w24 ⟨v232, rfl, ho0, hb⟩; refine ⟨_, rfl, ?_⟩; have n0_ := Aside0.mk (Kd.N_elder' (by q_nn; exact HO224.out) (by first | exact Kd.N_base ho0 | exact Kd.S_base ho0 | exact Kd.R_base ho0) hb); have n1_ := Aside0.mk (Kd.N_elder' (by q_nn; exact HO229.out) (by first | exact Kd.N_base ho0 | exact Kd.S_base ho0 | exact Kd.R_base ho0) hb); have n2_ := Aside0.mk (Kd.N_lower (Kd.N_mono (ok' := fun k_ => some k_ ≠ (.slice Ao22 t222.length co22 : Value).ownBlock ∧ some k_ ≠ (.slice Ao23 t227.length co23 : Value).ownBlock) (Kd.S_N (Kd.S_bound ho0)) (fun k_ hk_ => ⟨(Kd.fresh' (Kd.N_lt (by q_nn; exact HO224.out)) k_ hk_.2.1), (Kd.fresh' (Kd.N_lt (by q_nn; exact HO229.out)) k_ hk_.2.1)⟩)) q_bs); have n3_ := Aside0.mk (below_step q_hb hb); clear HO224; clear HO229; clear HB; have HO224 := n0_; have HO229 := n1_; have HO233 := n2_; have HB := n3_; clear n0_ n1_ n2_ n3_; (q_x hb hb2 hk hi ho0); obtain ⟨Ao25, co25, eo25⟩ := Kd.N_slice HO233.out; subst eo25) | (go_at_call 44; (with_reducible refine (semigrouplaw17_brandt.calls  t235 t238 t239 t240 t243 _ A5.out).mono ?_); rintro e w26 ⟨v236, v241, rfl, ho0, ho1, hb⟩; have n0_ := Aside0.mk (Kd.N_mono (Kd.N_told (Kd.N_told (Kd.N_old (by q_nn; exact HO224.out) hb) (by first | exact Kd.N_base ho0 | exact Kd.S_base ho0 | exact Kd.R_base ho0)) (by first | exact Kd.N_base ho1 | exact Kd.S_base ho1 | exact Kd.R_base ho1)) (fun _ h_ => h_.1)); have n1_ := Aside0.mk (Kd.N_mono (Kd.N_told (Kd.N_told (Kd.N_old (by q_nn; exact HO229.out) hb) (by first | exact Kd.N_base ho0 | exact Kd.S_base ho0 | exact Kd.R_base ho0)) (by first | exact Kd.N_base ho1 | exact Kd.S_base ho1 | exact Kd.R_base ho1)) (fun _ h_ => h_.1)); have n2_ := Aside0.mk (Kd.N_mono (Kd.N_told (Kd.N_told (Kd.N_old (by q_nn; exact HO233.out) hb) (by first | exact Kd.N_base ho0 | exact Kd.S_base ho0 | exact Kd.R_base ho0)) (by first | exact Kd.N_base ho1 | exact Kd.S_base ho1 | exact Kd.R_base ho1)) (fun _ h_ => h_.1)); have n3_ := Aside0.mk (Kd.N_lower (Kd.N_mono (ok' := fun k_ => some k_ ≠ (v241 : Value).ownBlock ∧ some k_ ≠ (.slice Ao22 t222.length co22 : Value).ownBlock ∧ some k_ ≠ (.slice Ao23 t227.length co23 : Value).ownBlock ∧ some k_ ≠ (.slice Ao25 t231.length co25 : Value).ownBlock) ho0 (fun k_ hk_ => ⟨hk_.2, (Kd.fresh' (Kd.N_lt (by q_nn; exact HO224.out)) k_ hk_.1), (Kd.fresh' (Kd.N_lt (by q_nn; exact HO229.out)) k_ hk_.1), (Kd.fresh' (Kd.N_lt (by q_nn; exact HO233.out)) k_ hk_.1)⟩)) q_bs); have n4_ := Aside0.mk (Kd.N_lower (Kd.N_mono (ok' := fun k_ => some k_ ≠ (v236 : Value).ownBlock ∧ some k_ ≠ (.slice Ao22 t222.length co22 : Value).ownBlock ∧ some k_ ≠ (.slice Ao23 t227.length co23 : Value).ownBlock ∧ some k_ ≠ (.slice Ao25 t231.length co25 : Value).ownBlock) ho1 (fun k_ hk_ => ⟨hk_.2, (Kd.fresh' (Kd.N_lt (by q_nn; exact HO224.out)) k_ hk_.1), (Kd.fresh' (Kd.N_lt (by q_nn; exact HO229.out)) k_ hk_.1), (Kd.fresh' (Kd.N_lt (by q_nn; exact HO233.out)) k_ hk_.1)⟩)) q_bs); have n5_ := Aside0.mk (below_step q_hb hb); clear HO224; clear HO229; clear HO233; clear HB; have HO224 := n0_; have HO229 := n1_; have HO233 := n2_; have HO237 := n3_; have HO242 := n4_; have HB := n5_; clear n0_ n1_ n2_ n3_ n4_ n5_; (q_x hb hb2 hk hi ho0 ho1); obtain ⟨Ao27, co27, eo27⟩ := Kd.N_slice HO237.out; subst eo27; obtain ⟨Ao28, co28, eo28⟩ := Kd.N_slice HO242.out; subst eo28) | (go_at_call 23; (with_reducible refine (rees_Regular.calls k _ _ t235 t238 t239 _ _ t240 t243 true _ ?side1 ?side2 ?side3 ?side4 A6.out).mono ?_); (case side1 => repeat (first | exact (Kd.N_reads' HO237.out).2.2 | (with_reducible refine Kd.C_alloc ?_ _) | (with_reducible refine Kd.C_drewN ?_ _) | (with_reducible refine Kd.C_drew ?_))); (case side2 => exact (Kd.N_reads' HO237.out).2.1); (case side3 => repeat (first | exact (Kd.N_reads' HO242.out).2.2 | (with_reducible refine Kd.C_alloc ?_ _) | (with_reducible refine Kd.C_drewN ?_ _) | (with_reducible refine Kd.C_drew ?_))); (case side4 => exact (Kd.N_reads' HO242.out).2.1); rintro e w29 ⟨rfl, hb⟩; have n0_ := Aside0.mk (Kd.N_below (by q_nn; exact HO224.out) hb); have n1_ := Aside0.mk (Kd.N_below (by q_nn; exact HO229.out) hb); have n2_ := Aside0.mk (Kd.N_below (by q_nn; exact HO233.out) hb); have n3_ := Aside0.mk (Kd.N_below (by q_nn; exact HO237.out) hb); have n4_ := Aside0.mk (Kd.N_below (by q_nn; exact HO242.out) hb); have n5_ := Aside0.mk (below_step q_hb hb); clear HO224; clear HO229; clear HO233; clear HO237; clear HO242; clear HB; have HO224 := n0_; have HO229 := n1_; have HO233 := n2_; have HO237 := n3_; have HO242 := n4_; have HB := n5_; clear n0_ n1_ n2_ n3_ n4_ n5_; (q_x hb hb2 hk hi); have p245 : 0 ≤ (1 : Int) := (by omega); have q245 : 1 < (t231.length : Int) := of_decide_eq_true q_as; obtain ⟨ad245, A245_0, c245_0, e245, hx245_0, hl245_0, hi245_0⟩ := at_L1 (Kd.N_reads' HO233.out).2.2 1 p245 q245; cases e245; obtain ⟨ce245, hce245, hMe245, hcc245⟩ := Kd.N_get HO233.out [] 1 p245 (by first | exact q245 | exact of_decide_eq_true q_as | (have e_ := (Kd.N_reads' HO233.out).1; omega)); obtain ⟨ua245_0, uc245_0, rfl, ul245_0, ge245_0⟩ := Kd.FK_slice_open hMe245; have hv245_0 := hcc245 0 _ rfl; rw [Nat.add_zero, show ((Kd.slice 3 (Kd.int .i64))).sz = 1 from rfl, Nat.mul_one] at hv245_0; replace hv245_0 := Option.some.inj (hv245_0.symm.trans hx245_0); injection hv245_0 with hva_ hvn_ hvc_; rw [hva_] at ge245_0; rw [hvc_] at ul245_0; have HL245_0 := Aside0.mk (show Kd.V (Kd.int .i64) 3 _ w.heap.size _ _ (rd_L1 t231 1) from Kd.V_mk ul245_0 ge245_0); (q_x hva_ hvn_ hvc_ ge245_0 ul245_0 hcc245 hce245); (try simp only [show (1 : Int).toNat = 1 from rfl, Nat.reduceMul, Nat.reduceEqDiff, Go.Addr.add, ↓reduceIte] at hx245_0); have qi245 : (1 < t231.length) = True := eq_true (by omega); (try rw [show ((1 : Int)).toNat = 1 from rfl] at hx245_0); have HR245_0 := Aside0.mk hi245_0; have HC245_0 := Aside0.mk hl245_0; (q_x hi245_0 hl245_0); replace p245 := eq_true p245; replace q245 := eq_true q245; have p246 : 0 ≤ (1 : Int) := (by omega); have q246 : 1 < ((rd_L1 t231 1).length : Int) := of_decide_eq_true q_as; obtain ⟨ad246, e246, hx246_0⟩ := Kd.at_int (by repeat (first | (with_reducible exact HR245_0.out) | (with_reducible refine Kd.C_alloc ?_ _) | (with_reducible refine Kd.C_drewN ?_ _) | (with_reducible refine Kd.C_drew ?_) | exact HR245_0.out)) 1 p246 q246; cases e246; (try simp only [show (1 : Int).toNat = 1 from rfl, Nat.reduceMul, Nat.reduceEqDiff, Go.Addr.add, ↓reduceIte] at hx246_0); have qi246 : (1 < (rd_L1 t231 1).length) = True := eq_true (by omega); (try rw [show ((1 : Int)).toNat = 1 from rfl] at hx246_0); replace p246 := eq_true p246; replace q246 := eq_true q246))
       go_ret
       exact ⟨by first | rfl | q_em | q_en, by repeat (first | (with_reducible first | exact HB.out | apply below_alloc | apply pw_below_drewN | apply below_drew1) | exact HB.out)⟩
     ·rw [if_neg c9] at H
      exact absurd H (by simp)
    ·rw [if_neg c8] at H
     exact absurd H (by simp)
   ·replace c7 := Bool.eq_false_iff.mpr c7
    subst c7
    have H1 : (some false) = some r := by rw [if_neg (show ¬ (false = true) by decide)] at H; exact H
    clear H
    have H := H1
    clear H1
    obtain rfl := Option.some.inj H
    go_enter Try.func14, Try.ntmps14
    go_wp2_with (first | ((with_reducible refine gate_callee (f := 44) rfl ?_); refine goesL_ (some 4) rfl rfl Try.func44 (by kernel_rfl) rfl #[] rfl q_ml ?_; (with_reducible refine (semigrouplaw17_brandt.calls  t222 t225 t226 t227 t230 _ A1.out).mono ?_); rintro e w30 ⟨v223, v228, rfl, ho0, ho1, hb⟩; refine ⟨_, rfl, ?_⟩; have n0_ := Aside0.mk (Kd.N_lower (Kd.N_mono (ok' := fun k_ => some k_ ≠ (v228 : Value).ownBlock) ho0 (fun k_ hk_ => hk_.2)) q_bs); have n1_ := Aside0.mk (Kd.N_lower (Kd.N_mono (ok' := fun k_ => some k_ ≠ (v223 : Value).ownBlock) ho1 (fun k_ hk_ => hk_.2)) q_bs); have n2_ := Aside0.mk (below_step q_hb hb); clear HB; have HO224 := n0_; have HO229 := n1_; have HB := n2_; clear n0_ n1_ n2_; (q_x hb hb2 hk hi ho0 ho1); obtain ⟨Ao31, co31, eo31⟩ := Kd.N_slice HO224.out; subst eo31; obtain ⟨Ao32, co32, eo32⟩ := Kd.N_slice HO229.out; subst eo32) | ((with_reducible refine gate_callee (f := 17) rfl ?_); refine goesL_ (some 5) rfl rfl Try.func17 (by kernel_rfl) rfl #[.agg #[.slice Ao31 t222.length co31, .int .i64 t225, .int .i64 t226, .slice Ao32 t227.length co32, .bool t230]] rfl q_ml ?_; (with_reducible refine (rees_Table.calls k _ _ t222 t225 t226 _ _ t227 t230 t231 t234 _ ?side1 ?side2 ?side3 ?side4 A2.out).mono ?_); (case side1 => repeat (first | exact (Kd.N_reads' HO224.out).2.2 | (with_reducible refine Kd.C_alloc ?_ _) | (with_reducible refine Kd.C_drewN ?_ _) | (with_reducible refine Kd.C_drew ?_))); (case side2 => exact (Kd.N_reads' HO224.out).2.1); (case side3 => repeat (first | exact (Kd.N_reads' HO229.out).2.2 | (with_reducible refine Kd.C_alloc ?_ _) | (with_reducible refine Kd.C_drewN ?_ _) | (with_reducible refine Kd.C_drew ?_))); (case side4 => exact (Kd.N_reads' HO229.out).2.1); rintro e w33 ⟨v232, rfl, ho0, hb⟩; refine ⟨_, rfl, ?_⟩; have n0_ := Aside0.mk (Kd.N_elder' (by q_nn; exact HO224.out) (by first | exact Kd.N_base ho0 | exact Kd.S_base ho0 | exact Kd.R_base ho0) hb); have n1_ := Aside0.mk (Kd.N_elder' (by q_nn; exact HO229.out) (by first | exact Kd.N_base ho0 | exact Kd.S_base ho0 | exact Kd.R_base ho0) hb); have n2_ := Aside0.mk (Kd.N_lower (Kd.N_mono (ok' := fun k_ => some k_ ≠ (.slice Ao31 t222.length co31 : Value).ownBlock ∧ some k_ ≠ (.slice Ao32 t227.length co32 : Value).ownBlock) (Kd.S_N (Kd.S_bound ho0)) (fun k_ hk_ => ⟨(Kd.fresh' (Kd.N_lt (by q_nn; exact HO224.out)) k_ hk_.2.1), (Kd.fresh' (Kd.N_lt (by q_nn; exact HO229.out)) k_ hk_.2.1)⟩)) q_bs); have n3_ := Aside0.mk (below_step q_hb hb); clear HO224; clear HO229; clear HB; have HO224 := n0_; have HO229 := n1_; have HO233 := n2_; have HB := n3_; clear n0_ n1_ n2_ n3_; (q_x hb hb2 hk hi ho0); obtain ⟨Ao34, co34, eo34⟩ := Kd.N_slice HO233.out; subst eo34) | (go_at_call 44; (with_reducible refine (semigrouplaw17_brandt.calls  t235 t238 t239 t240 t243 _ A5.out).mono ?_); rintro e w35 ⟨v236, v241, rfl, ho0, ho1, hb⟩; have n0_ := Aside0.mk (Kd.N_mono (Kd.N_told (Kd.N_told (Kd.N_old (by q_nn; exact HO224.out) hb) (by first | exact Kd.N_base ho0 | exact Kd.S_base ho0 | exact Kd.R_base ho0)) (by first | exact Kd.N_base ho1 | exact Kd.S_base ho1 | exact Kd.R_base ho1)) (fun _ h_ => h_.1)); have n1_ := Aside0.mk (Kd.N_mono (Kd.N_told (Kd.N_told (Kd.N_old (by q_nn; exact HO229.out) hb) (by first | exact Kd.N_base ho0 | exact Kd.S_base ho0 | exact Kd.R_base ho0)) (by first | exact Kd.N_base ho1 | exact Kd.S_base ho1 | exact Kd.R_base ho1)) (fun _ h_ => h_.1)); have n2_ := Aside0.mk (Kd.N_mono (Kd.N_told (Kd.N_told (Kd.N_old (by q_nn; exact HO233.out) hb) (by first | exact Kd.N_base ho0 | exact Kd.S_base ho0 | exact Kd.R_base ho0)) (by first | exact Kd.N_base ho1 | exact Kd.S_base ho1 | exact Kd.R_base ho1)) (fun _ h_ => h_.1)); have n3_ := Aside0.mk (Kd.N_lower (Kd.N_mono (ok' := fun k_ => some k_ ≠ (v241 : Value).ownBlock ∧ some k_ ≠ (.slice Ao31 t222.length co31 : Value).ownBlock ∧ some k_ ≠ (.slice Ao32 t227.length co32 : Value).ownBlock ∧ some k_ ≠ (.slice Ao34 t231.length co34 : Value).ownBlock) ho0 (fun k_ hk_ => ⟨hk_.2, (Kd.fresh' (Kd.N_lt (by q_nn; exact HO224.out)) k_ hk_.1), (Kd.fresh' (Kd.N_lt (by q_nn; exact HO229.out)) k_ hk_.1), (Kd.fresh' (Kd.N_lt (by q_nn; exact HO233.out)) k_ hk_.1)⟩)) q_bs); have n4_ := Aside0.mk (Kd.N_lower (Kd.N_mono (ok' := fun k_ => some k_ ≠ (v236 : Value).ownBlock ∧ some k_ ≠ (.slice Ao31 t222.length co31 : Value).ownBlock ∧ some k_ ≠ (.slice Ao32 t227.length co32 : Value).ownBlock ∧ some k_ ≠ (.slice Ao34 t231.length co34 : Value).ownBlock) ho1 (fun k_ hk_ => ⟨hk_.2, (Kd.fresh' (Kd.N_lt (by q_nn; exact HO224.out)) k_ hk_.1), (Kd.fresh' (Kd.N_lt (by q_nn; exact HO229.out)) k_ hk_.1), (Kd.fresh' (Kd.N_lt (by q_nn; exact HO233.out)) k_ hk_.1)⟩)) q_bs); have n5_ := Aside0.mk (below_step q_hb hb); clear HO224; clear HO229; clear HO233; clear HB; have HO224 := n0_; have HO229 := n1_; have HO233 := n2_; have HO237 := n3_; have HO242 := n4_; have HB := n5_; clear n0_ n1_ n2_ n3_ n4_ n5_; (q_x hb hb2 hk hi ho0 ho1); obtain ⟨Ao36, co36, eo36⟩ := Kd.N_slice HO237.out; subst eo36; obtain ⟨Ao37, co37, eo37⟩ := Kd.N_slice HO242.out; subst eo37) | (go_at_call 23; (with_reducible refine (rees_Regular.calls k _ _ t235 t238 t239 _ _ t240 t243 false _ ?side1 ?side2 ?side3 ?side4 A6.out).mono ?_); (case side1 => repeat (first | exact (Kd.N_reads' HO237.out).2.2 | (with_reducible refine Kd.C_alloc ?_ _) | (with_reducible refine Kd.C_drewN ?_ _) | (with_reducible refine Kd.C_drew ?_))); (case side2 => exact (Kd.N_reads' HO237.out).2.1); (case side3 => repeat (first | exact (Kd.N_reads' HO242.out).2.2 | (with_reducible refine Kd.C_alloc ?_ _) | (with_reducible refine Kd.C_drewN ?_ _) | (with_reducible refine Kd.C_drew ?_))); (case side4 => exact (Kd.N_reads' HO242.out).2.1); rintro e w38 ⟨rfl, hb⟩; have n0_ := Aside0.mk (Kd.N_below (by q_nn; exact HO224.out) hb); have n1_ := Aside0.mk (Kd.N_below (by q_nn; exact HO229.out) hb); have n2_ := Aside0.mk (Kd.N_below (by q_nn; exact HO233.out) hb); have n3_ := Aside0.mk (Kd.N_below (by q_nn; exact HO237.out) hb); have n4_ := Aside0.mk (Kd.N_below (by q_nn; exact HO242.out) hb); have n5_ := Aside0.mk (below_step q_hb hb); clear HO224; clear HO229; clear HO233; clear HO237; clear HO242; clear HB; have HO224 := n0_; have HO229 := n1_; have HO233 := n2_; have HO237 := n3_; have HO242 := n4_; have HB := n5_; clear n0_ n1_ n2_ n3_ n4_ n5_; (q_x hb hb2 hk); (try clear hi)))
    go_ret
    exact ⟨by first | rfl | q_em | q_en, by repeat (first | (with_reducible first | exact HB.out | apply below_alloc | apply pw_below_drewN | apply below_drew1) | exact HB.out)⟩
  ·rw [if_neg c4] at H
   have c4b0 : ((t231.length : Int) == 5) = false := beq_eq_false_iff_ne.mpr c4
   have c4b1 : ((t231.length : Int) != 5) = true := bne_iff_ne.mpr c4
   obtain rfl := Option.some.inj H
   go_enter Try.func14, Try.ntmps14
   go_wp2_with (first | ((with_reducible refine gate_callee (f := 44) rfl ?_); refine goesL_ (some 4) rfl rfl Try.func44 (by kernel_rfl) rfl #[] rfl q_ml ?_; (with_reducible refine (semigrouplaw17_brandt.calls  t222 t225 t226 t227 t230 _ A1.out).mono ?_); rintro e w39 ⟨v223, v228, rfl, ho0, ho1, hb⟩; refine ⟨_, rfl, ?_⟩; have n0_ := Aside0.mk (Kd.N_lower (Kd.N_mono (ok' := fun k_ => some k_ ≠ (v228 : Value).ownBlock) ho0 (fun k_ hk_ => hk_.2)) q_bs); have n1_ := Aside0.mk (Kd.N_lower (Kd.N_mono (ok' := fun k_ => some k_ ≠ (v223 : Value).ownBlock) ho1 (fun k_ hk_ => hk_.2)) q_bs); have n2_ := Aside0.mk (below_step q_hb hb); clear HB; have HO224 := n0_; have HO229 := n1_; have HB := n2_; clear n0_ n1_ n2_; (q_x hb hb2 hk hi ho0 ho1); obtain ⟨Ao40, co40, eo40⟩ := Kd.N_slice HO224.out; subst eo40; obtain ⟨Ao41, co41, eo41⟩ := Kd.N_slice HO229.out; subst eo41) | ((with_reducible refine gate_callee (f := 17) rfl ?_); refine goesL_ (some 5) rfl rfl Try.func17 (by kernel_rfl) rfl #[.agg #[.slice Ao40 t222.length co40, .int .i64 t225, .int .i64 t226, .slice Ao41 t227.length co41, .bool t230]] rfl q_ml ?_; (with_reducible refine (rees_Table.calls k _ _ t222 t225 t226 _ _ t227 t230 t231 t234 _ ?side1 ?side2 ?side3 ?side4 A2.out).mono ?_); (case side1 => repeat (first | exact (Kd.N_reads' HO224.out).2.2 | (with_reducible refine Kd.C_alloc ?_ _) | (with_reducible refine Kd.C_drewN ?_ _) | (with_reducible refine Kd.C_drew ?_))); (case side2 => exact (Kd.N_reads' HO224.out).2.1); (case side3 => repeat (first | exact (Kd.N_reads' HO229.out).2.2 | (with_reducible refine Kd.C_alloc ?_ _) | (with_reducible refine Kd.C_drewN ?_ _) | (with_reducible refine Kd.C_drew ?_))); (case side4 => exact (Kd.N_reads' HO229.out).2.1); rintro e w42 ⟨v232, rfl, ho0, hb⟩; refine ⟨_, rfl, ?_⟩; have n0_ := Aside0.mk (Kd.N_elder' (by q_nn; exact HO224.out) (by first | exact Kd.N_base ho0 | exact Kd.S_base ho0 | exact Kd.R_base ho0) hb); have n1_ := Aside0.mk (Kd.N_elder' (by q_nn; exact HO229.out) (by first | exact Kd.N_base ho0 | exact Kd.S_base ho0 | exact Kd.R_base ho0) hb); have n2_ := Aside0.mk (Kd.N_lower (Kd.N_mono (ok' := fun k_ => some k_ ≠ (.slice Ao40 t222.length co40 : Value).ownBlock ∧ some k_ ≠ (.slice Ao41 t227.length co41 : Value).ownBlock) (Kd.S_N (Kd.S_bound ho0)) (fun k_ hk_ => ⟨(Kd.fresh' (Kd.N_lt (by q_nn; exact HO224.out)) k_ hk_.2.1), (Kd.fresh' (Kd.N_lt (by q_nn; exact HO229.out)) k_ hk_.2.1)⟩)) q_bs); have n3_ := Aside0.mk (below_step q_hb hb); clear HO224; clear HO229; clear HB; have HO224 := n0_; have HO229 := n1_; have HO233 := n2_; have HB := n3_; clear n0_ n1_ n2_ n3_; (q_x hb hb2 hk hi ho0); obtain ⟨Ao43, co43, eo43⟩ := Kd.N_slice HO233.out; subst eo43))
   go_ret
   exact ⟨by first | rfl | q_em | q_en, by repeat (first | (with_reducible first | exact HB.out | apply below_alloc | apply pw_below_drewN | apply below_drew1) | exact HB.out)⟩
 ·rw [if_neg c3] at H
  have c3b0 : (t234 == 0) = false := beq_eq_false_iff_ne.mpr c3
  have c3b1 : (t234 != 0) = true := bne_iff_ne.mpr c3
  obtain rfl := Option.some.inj H
  go_enter Try.func14, Try.ntmps14
  go_wp2_with (first | ((with_reducible refine gate_callee (f := 44) rfl ?_); refine goesL_ (some 4) rfl rfl Try.func44 (by kernel_rfl) rfl #[] rfl q_ml ?_; (with_reducible refine (semigrouplaw17_brandt.calls  t222 t225 t226 t227 t230 _ A1.out).mono ?_); rintro e w44 ⟨v223, v228, rfl, ho0, ho1, hb⟩; refine ⟨_, rfl, ?_⟩; have n0_ := Aside0.mk (Kd.N_lower (Kd.N_mono (ok' := fun k_ => some k_ ≠ (v228 : Value).ownBlock) ho0 (fun k_ hk_ => hk_.2)) q_bs); have n1_ := Aside0.mk (Kd.N_lower (Kd.N_mono (ok' := fun k_ => some k_ ≠ (v223 : Value).ownBlock) ho1 (fun k_ hk_ => hk_.2)) q_bs); have n2_ := Aside0.mk (below_step q_hb hb); clear HB; have HO224 := n0_; have HO229 := n1_; have HB := n2_; clear n0_ n1_ n2_; (q_x hb hb2 hk hi ho0 ho1); obtain ⟨Ao45, co45, eo45⟩ := Kd.N_slice HO224.out; subst eo45; obtain ⟨Ao46, co46, eo46⟩ := Kd.N_slice HO229.out; subst eo46) | ((with_reducible refine gate_callee (f := 17) rfl ?_); refine goesL_ (some 5) rfl rfl Try.func17 (by kernel_rfl) rfl #[.agg #[.slice Ao45 t222.length co45, .int .i64 t225, .int .i64 t226, .slice Ao46 t227.length co46, .bool t230]] rfl q_ml ?_; (with_reducible refine (rees_Table.calls k _ _ t222 t225 t226 _ _ t227 t230 t231 t234 _ ?side1 ?side2 ?side3 ?side4 A2.out).mono ?_); (case side1 => repeat (first | exact (Kd.N_reads' HO224.out).2.2 | (with_reducible refine Kd.C_alloc ?_ _) | (with_reducible refine Kd.C_drewN ?_ _) | (with_reducible refine Kd.C_drew ?_))); (case side2 => exact (Kd.N_reads' HO224.out).2.1); (case side3 => repeat (first | exact (Kd.N_reads' HO229.out).2.2 | (with_reducible refine Kd.C_alloc ?_ _) | (with_reducible refine Kd.C_drewN ?_ _) | (with_reducible refine Kd.C_drew ?_))); (case side4 => exact (Kd.N_reads' HO229.out).2.1); rintro e w47 ⟨v232, rfl, ho0, hb⟩; refine ⟨_, rfl, ?_⟩; have n0_ := Aside0.mk (Kd.N_elder' (by q_nn; exact HO224.out) (by first | exact Kd.N_base ho0 | exact Kd.S_base ho0 | exact Kd.R_base ho0) hb); have n1_ := Aside0.mk (Kd.N_elder' (by q_nn; exact HO229.out) (by first | exact Kd.N_base ho0 | exact Kd.S_base ho0 | exact Kd.R_base ho0) hb); have n2_ := Aside0.mk (Kd.N_lower (Kd.N_mono (ok' := fun k_ => some k_ ≠ (.slice Ao45 t222.length co45 : Value).ownBlock ∧ some k_ ≠ (.slice Ao46 t227.length co46 : Value).ownBlock) (Kd.S_N (Kd.S_bound ho0)) (fun k_ hk_ => ⟨(Kd.fresh' (Kd.N_lt (by q_nn; exact HO224.out)) k_ hk_.2.1), (Kd.fresh' (Kd.N_lt (by q_nn; exact HO229.out)) k_ hk_.2.1)⟩)) q_bs); have n3_ := Aside0.mk (below_step q_hb hb); clear HO224; clear HO229; clear HB; have HO224 := n0_; have HO229 := n1_; have HO233 := n2_; have HB := n3_; clear n0_ n1_ n2_ n3_; (q_x hb hb2 hk hi); (try clear ho0)))
  go_ret
  exact ⟨by first | rfl | q_em | q_en, by repeat (first | (with_reducible first | exact HB.out | apply below_alloc | apply pw_below_drewN | apply below_drew1) | exact HB.out)⟩

/-! ### semigroupref14_Associative: function 82 -/
mutual
def semigroupref14_Associative.l0 : Nat → List (List Int) → Int → Int → Option (Int × Int × Int × Int)
 | 0, _, _, _ => none
 | k + 1, x0, x16, x17 => if x17 < x16 then (semigroupref14_Associative.l1 k x0 x17 x16 x17 (x0.length : Int) 0) else (some (0, 0, 0, 0))
def semigroupref14_Associative.l1 : Nat → List (List Int) → Int → Int → Int → Int → Int → Option (Int × Int × Int × Int)
 | 0, _, _, _, _, _, _ => none
 | k + 1, x0, x7, x16, x17, x21, x22 => if x22 < x21 then (semigroupref14_Associative.l2 k x0 x7 x22 x16 x17 x21 x22 (x0.length : Int) 0) else (semigroupref14_Associative.l0 k x0 x16 (wrap64 (x17 + 1)))
def semigroupref14_Associative.l2 : Nat → List (List Int) → Int → Int → Int → Int → Int → Int → Int → Int → Option (Int × Int × Int × Int)
 | 0, _, _, _, _, _, _, _, _, _ => none
 | k + 1, x0, x7, x8, x16, x17, x21, x22, x26, x27 => if x27 < x26 then (if 0 ≤ x7 then (if x7 < (x0.length : Int) then (if 0 ≤ x8 then (if x8 < ((rd_L1 x0 x7).length : Int) then (if 0 ≤ (rd (rd_L1 x0 x7) x8) then (if (rd (rd_L1 x0 x7) x8) < (x0.length : Int) then (if 0 ≤ x27 then (if x27 < ((rd_L1 x0 (rd (rd_L1 x0 x7) x8)).length : Int) then (if x8 < (x0.length : Int) then (if x27 < ((rd_L1 x0 x8).length : Int) then (if 0 ≤ (rd (rd_L1 x0 x8) x27) then (if (rd (rd_L1 x0 x8) x27) < ((rd_L1 x0 x7).length : Int) then (if (rd (rd_L1 x0 (rd (rd_L1 x0 x7) x8)) x27) = (rd (rd_L1 x0 x7) (rd (rd_L1 x0 x8) x27)) then (semigroupref14_Associative.l2 k x0 x7 x8 x16 x17 x21 x22 x26 (wrap64 (x27 + 1))) else (some (x7, x8, x27, 5))) else (none)) else (none)) else (none)) else (none)) else (none)) else (none)) else (none)) else (none)) else (none)) else (none)) else (none)) else (none)) else (semigroupref14_Associative.l1 k x0 x7 x16 x17 x21 (wrap64 (x22 + 1)))
end
def semigroupref14_Associative.f (k : Nat) (l0 : List (List Int)) : Option (Int × Int × Int × Int) := (semigroupref14_Shape.f k l0).bind fun t249 => (if t249 = 0 then (semigroupref14_Associative.l0 k l0 (l0.length : Int) 0) else (some (0, 0, 0, t249)))
theorem semigroupref14_Associative.mono_l : ∀ k, (∀ y0 y1 y2, LeO (semigroupref14_Associative.l0 k y0 y1 y2) (semigroupref14_Associative.l0 (k + 1) y0 y1 y2)) ∧ (∀ y0 y1 y2 y3 y4 y5, LeO (semigroupref14_Associative.l1 k y0 y1 y2 y3 y4 y5) (semigroupref14_Associative.l1 (k + 1) y0 y1 y2 y3 y4 y5)) ∧ (∀ y0 y1 y2 y3 y4 y5 y6 y7 y8, LeO (semigroupref14_Associative.l2 k y0 y1 y2 y3 y4 y5 y6 y7 y8) (semigroupref14_Associative.l2 (k + 1) y0 y1 y2 y3 y4 y5 y6 y7 y8))
 | 0 => ⟨fun _ _ _ r h => by simp [semigroupref14_Associative.l0] at h, fun _ _ _ _ _ _ r h => by simp [semigroupref14_Associative.l1] at h, fun _ _ _ _ _ _ _ _ _ r h => by simp [semigroupref14_Associative.l2] at h⟩
 | k + 1 => by
  obtain ⟨ih0, ih1, ih2⟩ := semigroupref14_Associative.mono_l k
  refine ⟨?_, ?_, ?_⟩
  ·intro y0 y1 y2
   unfold semigroupref14_Associative.l0
   repeat' first
   | (with_reducible exact ih0 _ _ _)
   | (with_reducible exact ih1 _ _ _ _ _ _)
   | (with_reducible exact ih2 _ _ _ _ _ _ _ _ _)
   | (with_reducible exact semigroupref14_Shape.mono _ _)
   | (with_reducible exact LeO.refl _)
   | (with_reducible exact LeO.none _)
   | (with_reducible refine LeO.ite ?_ ?_)
   | (with_reducible refine LeO.bind ?_ (fun _ => ?_))
   | exact ih0 _ _ _
   | exact ih1 _ _ _ _ _ _
   | exact ih2 _ _ _ _ _ _ _ _ _
   | exact semigroupref14_Shape.mono _ _
   | exact LeO.none _
   | refine LeO.ite ?_ ?_
   | refine LeO.bind ?_ (fun _ => ?_)
  ·intro y0 y1 y2 y3 y4 y5
   unfold semigroupref14_Associative.l1
   repeat' first
   | (with_reducible exact ih0 _ _ _)
   | (with_reducible exact ih1 _ _ _ _ _ _)
   | (with_reducible exact ih2 _ _ _ _ _ _ _ _ _)
   | (with_reducible exact semigroupref14_Shape.mono _ _)
   | (with_reducible exact LeO.refl _)
   | (with_reducible exact LeO.none _)
   | (with_reducible refine LeO.ite ?_ ?_)
   | (with_reducible refine LeO.bind ?_ (fun _ => ?_))
   | exact ih0 _ _ _
   | exact ih1 _ _ _ _ _ _
   | exact ih2 _ _ _ _ _ _ _ _ _
   | exact semigroupref14_Shape.mono _ _
   | exact LeO.none _
   | refine LeO.ite ?_ ?_
   | refine LeO.bind ?_ (fun _ => ?_)
  ·intro y0 y1 y2 y3 y4 y5 y6 y7 y8
   unfold semigroupref14_Associative.l2
   repeat' first
   | (with_reducible exact ih0 _ _ _)
   | (with_reducible exact ih1 _ _ _ _ _ _)
   | (with_reducible exact ih2 _ _ _ _ _ _ _ _ _)
   | (with_reducible exact semigroupref14_Shape.mono _ _)
   | (with_reducible exact LeO.refl _)
   | (with_reducible exact LeO.none _)
   | (with_reducible refine LeO.ite ?_ ?_)
   | (with_reducible refine LeO.bind ?_ (fun _ => ?_))
   | exact ih0 _ _ _
   | exact ih1 _ _ _ _ _ _
   | exact ih2 _ _ _ _ _ _ _ _ _
   | exact semigroupref14_Shape.mono _ _
   | exact LeO.none _
   | refine LeO.ite ?_ ?_
   | refine LeO.bind ?_ (fun _ => ?_)
theorem semigroupref14_Associative.mono : ∀ a0 k, LeO (semigroupref14_Associative.f k a0) (semigroupref14_Associative.f (k + 1) a0) := by
 intro a0 k
 obtain ⟨ih0, ih1, ih2⟩ := semigroupref14_Associative.mono_l k
 unfold semigroupref14_Associative.f
 repeat' first
   | (with_reducible exact ih0 _ _ _)
   | (with_reducible exact ih1 _ _ _ _ _ _)
   | (with_reducible exact ih2 _ _ _ _ _ _ _ _ _)
   | (with_reducible exact semigroupref14_Shape.mono _ _)
   | (with_reducible exact LeO.refl _)
   | (with_reducible exact LeO.none _)
   | (with_reducible refine LeO.ite ?_ ?_)
   | (with_reducible refine LeO.bind ?_ (fun _ => ?_))
   | exact ih0 _ _ _
   | exact ih1 _ _ _ _ _ _
   | exact ih2 _ _ _ _ _ _ _ _ _
   | exact semigroupref14_Shape.mono _ _
   | exact LeO.none _
   | refine LeO.ite ?_ ?_
   | refine LeO.bind ?_ (fun _ => ?_)
set_option maxHeartbeats 8000000 in
set_option maxRecDepth 100000 in
theorem semigroupref14_Associative.calls (k : Nat) (A0 : Option Addr) (c0 : Nat) (l0 : List (List Int)) (r1 : Int) (r2 : Int) (r3 : Int) (r4 : Int) (w : World) (hr0 : Kd.C (Kd.slice 3 (Kd.int .i64)) w A0 l0.length l0) (hc0 : l0.length ≤ c0) (h : semigroupref14_Associative.f k l0 = some (r1, r2, r3, r4)) :
  Calls Try.prog 82 #[.slice A0 l0.length c0] w fun e w' => e = .returned (.tuple #[.int .i64 r1, .int .i64 r2, .int .i64 r3, .int .i64 r4]) ∧ Drawn0 w w' := by
 have HR0 := Aside0.mk hr0
 have HC0 := Aside0.mk hc0
 (try clear hr0); (try clear hc0)
 have H : ((semigroupref14_Shape.f k l0).bind fun t249 => (if t249 = 0 then (semigroupref14_Associative.l0 k l0 (l0.length : Int) 0) else (some (0, 0, 0, t249)))) = some (r1, r2, r3, r4) := h
 clear h
 replace H := Option.bind_eq_some_iff.mp H
 obtain ⟨t249, A20, H⟩ := H
 replace H : (if t249 = 0 then (semigroupref14_Associative.l0 k l0 (l0.length : Int) 0) else (some (0, 0, 0, t249))) = some (r1, r2, r3, r4) := H
 have A2 := Aside0.mk A20
 clear A20
 by_cases c3 : t249 = 0
 ·rw [if_pos c3] at H
  have c3b0 : (t249 == 0) = true := beq_iff_eq.mpr c3
  have c3b1 : (t249 != 0) = false := bne_eq_false_iff_eq.mpr c3
  clear c3
  have H' := Aside0.mk H
  clear H
  go_enter Try.func82, Try.ntmps82
  go_wp2_with (first | (go_at_call 43; (with_reducible refine (semigroupref14_Shape.calls k _ _ l0 t249 _ ?side1 ?side2 A2.out).mono ?_); (case side1 => q_cc HR0.out); (case side2 => exact HC0.out); rintro e w' ⟨rfl, ⟨nd, rfl⟩⟩; (try first | exact ⟨rfl, _, World.drewN_drewN _ _ _⟩ | exact ⟨rfl, _, Eq.trans (World.drewN_drewN _ _ _) (congrArg (World.drewN _) (Nat.add_assoc _ _ _))⟩)))
  repeat (go_quiet (first | (go_at_call 43; (with_reducible refine (semigroupref14_Shape.calls k _ _ l0 t249 _ ?side1 ?side2 A2.out).mono ?_); (case side1 => q_cc HR0.out); (case side2 => exact HC0.out); rintro e w' ⟨rfl, ⟨nd, rfl⟩⟩; (try first | exact ⟨rfl, _, World.drewN_drewN _ _ _⟩ | exact ⟨rfl, _, Eq.trans (World.drewN_drewN _ _ _) (congrArg (World.drewN _) (Nat.add_assoc _ _ _))⟩))); try go_wp2_with (first | (go_at_call 43; (with_reducible refine (semigroupref14_Shape.calls k _ _ l0 t249 _ ?side1 ?side2 A2.out).mono ?_); (case side1 => q_cc HR0.out); (case side2 => exact HC0.out); rintro e w' ⟨rfl, ⟨nd, rfl⟩⟩; (try first | exact ⟨rfl, _, World.drewN_drewN _ _ _⟩ | exact ⟨rfl, _, Eq.trans (World.drewN_drewN _ _ _) (congrArg (World.drewN _) (Nat.add_assoc _ _ _))⟩))))
  go_loopg [17] k (fun kq v17 w' => ∃ (x17_1 : Int), v17 = .int .i64 x17_1 ∧ Aside0 (semigroupref14_Associative.l0 kq l0 (l0.length : Int) x17_1 = some (r1, r2, r3, r4)) ∧ Aside0 (kq ≤ k) ∧ Drawn0 w w')
  case atStart => exact ⟨(0), q_rs, H', ⟨Nat.le_refl _⟩, by repeat (first | exact Drawn0.refl _ | apply Drawn0.step)⟩
  case round =>
   clear H'
   q_x p2 c3 c3b0 c3b1
   obtain ⟨x17_1, rfl, HA, HK1, ⟨m1, rfl⟩⟩ := hrel
   cases gk with
   | zero => exact absurd HA.out (by simp [semigroupref14_Associative.l0])
   | succ k1 =>
    have H := HA.out
    clear HA
    simp only [semigroupref14_Associative.l0] at H
    by_cases c4 : x17_1 < (l0.length : Int)
    ·rw [if_pos c4] at H
     have c4b0 : decide (x17_1 < (l0.length : Int)) = true := decide_eq_true c4
     clear c4
     have H' := Aside0.mk H
     clear H
     go_wp2
     repeat (go_quiet (fail); try go_wp2)
     go_loopg [22] k1 (fun kq v22 w' => ∃ (x22_2 : Int), v22 = .int .i64 x22_2 ∧ Aside0 (semigroupref14_Associative.l1 kq l0 x17_1 (l0.length : Int) x17_1 (l0.length : Int) x22_2 = some (r1, r2, r3, r4)) ∧ Aside0 (kq ≤ k1) ∧ Drawn0 w w')
     case atStart => exact ⟨(0), q_rs, H', ⟨Nat.le_refl _⟩, by repeat (first | exact Drawn0.refl _ | apply Drawn0.step)⟩
     case round =>
      clear H'
      q_x p2 c3 c3b0 c3b1 c4 c4b0 p2
      obtain ⟨x22_2, rfl, HA, HK2, ⟨m2, rfl⟩⟩ := hrel
      cases gk with
      | zero => exact absurd HA.out (by simp [semigroupref14_Associative.l1])
      | succ k2 =>
       have H := HA.out
       clear HA
       simp only [semigroupref14_Associative.l1] at H
       by_cases c5 : x22_2 < (l0.length : Int)
       ·rw [if_pos c5] at H
        have c5b0 : decide (x22_2 < (l0.length : Int)) = true := decide_eq_true c5
        clear c5
        have H' := Aside0.mk H
        clear H
        go_wp2
        repeat (go_quiet (fail); try go_wp2)
        go_loopg [27] k2 (fun kq v27 w' => ∃ (x27_3 : Int), v27 = .int .i64 x27_3 ∧ Aside0 (semigroupref14_Associative.l2 kq l0 x17_1 x22_2 (l0.length : Int) x17_1 (l0.length : Int) x22_2 (l0.length : Int) x27_3 = some (r1, r2, r3, r4)) ∧ Aside0 (kq ≤ k2) ∧ Drawn0 w w')
        case atStart => exact ⟨(0), q_rs, H', ⟨Nat.le_refl _⟩, by repeat (first | exact Drawn0.refl _ | apply Drawn0.step)⟩
        case round =>
         clear H'
         q_x p2 c3 c3b0 c3b1 c4 c4b0 c5 c5b0 p2
         obtain ⟨x27_3, rfl, HA, HK3, ⟨m3, rfl⟩⟩ := hrel
         cases gk with
         | zero => exact absurd HA.out (by simp [semigroupref14_Associative.l2])
         | succ k3 =>
          have H := HA.out
          clear HA
          simp only [semigroupref14_Associative.l2] at H
          by_cases c6 : x27_3 < (l0.length : Int)
          ·rw [if_pos c6] at H
           have c6b0 : decide (x27_3 < (l0.length : Int)) = true := decide_eq_true c6
           clear c6
           by_cases c7 : 0 ≤ x17_1
           ·rw [if_pos c7] at H
            have c7b0 : decide (0 ≤ x17_1) = true := decide_eq_true c7
            clear c7
            by_cases c8 : x17_1 < (l0.length : Int)
            ·rw [if_pos c8] at H
             have c8b0 : decide (x17_1 < (l0.length : Int)) = true := decide_eq_true c8
             clear c8
             by_cases c9 : 0 ≤ x22_2
             ·rw [if_pos c9] at H
              have c9b0 : decide (0 ≤ x22_2) = true := decide_eq_true c9
              clear c9
              by_cases c10 : x22_2 < ((rd_L1 l0 x17_1).length : Int)
              ·rw [if_pos c10] at H
               have c10b0 : decide (x22_2 < ((rd_L1 l0 x17_1).length : Int)) = true := decide_eq_true c10
               clear c10
               by_cases c11 : 0 ≤ (rd (rd_L1 l0 x17_1) x22_2)
               ·rw [if_pos c11] at H
                have c11b0 : decide (0 ≤ (rd (rd_L1 l0 x17_1) x22_2)) = true := decide_eq_true c11
                clear c11
                by_cases c12 : (rd (rd_L1 l0 x17_1) x22_2) < (l0.length : Int)
                ·rw [if_pos c12] at H
                 have c12b0 : decide ((rd (rd_L1 l0 x17_1) x22_2) < (l0.length : Int)) = true := decide_eq_true c12
                 clear c12
                 by_cases c13 : 0 ≤ x27_3
                 ·rw [if_pos c13] at H
                  have c13b0 : decide (0 ≤ x27_3) = true := decide_eq_true c13
                  clear c13
                  by_cases c14 : x27_3 < ((rd_L1 l0 (rd (rd_L1 l0 x17_1) x22_2)).length : Int)
                  ·rw [if_pos c14] at H
                   have c14b0 : decide (x27_3 < ((rd_L1 l0 (rd (rd_L1 l0 x17_1) x22_2)).length : Int)) = true := decide_eq_true c14
                   clear c14
                   by_cases c15 : x22_2 < (l0.length : Int)
                   ·rw [if_pos c15] at H
                    have c15b0 : decide (x22_2 < (l0.length : Int)) = true := decide_eq_true c15
                    clear c15
                    by_cases c16 : x27_3 < ((rd_L1 l0 x22_2).length : Int)
                    ·rw [if_pos c16] at H
                     have c16b0 : decide (x27_3 < ((rd_L1 l0 x22_2).length : Int)) = true := decide_eq_true c16
                     clear c16
                     by_cases c17 : 0 ≤ (rd (rd_L1 l0 x22_2) x27_3)
                     ·rw [if_pos c17] at H
                      have c17b0 : decide (0 ≤ (rd (rd_L1 l0 x22_2) x27_3)) = true := decide_eq_true c17
                      clear c17
                      by_cases c18 : (rd (rd_L1 l0 x22_2) x27_3) < ((rd_L1 l0 x17_1).length : Int)
                      ·rw [if_pos c18] at H
                       have c18b0 : decide ((rd (rd_L1 l0 x22_2) x27_3) < ((rd_L1 l0 x17_1).length : Int)) = true := decide_eq_true c18
                       clear c18
                       by_cases c19 : (rd (rd_L1 l0 (rd (rd_L1 l0 x17_1) x22_2)) x27_3) = (rd (rd_L1 l0 x17_1) (rd (rd_L1 l0 x22_2) x27_3))
                       ·rw [if_pos c19] at H
                        have c19b0 : ((rd (rd_L1 l0 (rd (rd_L1 l0 x17_1) x22_2)) x27_3) == (rd (rd_L1 l0 x17_1) (rd (rd_L1 l0 x22_2) x27_3))) = true := beq_iff_eq.mpr c19
                        have c19b1 : ((rd (rd_L1 l0 (rd (rd_L1 l0 x17_1) x22_2)) x27_3) != (rd (rd_L1 l0 x17_1) (rd (rd_L1 l0 x22_2) x27_3))) = false := bne_eq_false_iff_eq.mpr c19
                        clear c19
                        have H' := Aside0.mk H
                        clear H
                        have p250 : 0 ≤ (x17_1 : Int) := of_decide_eq_true q_as
                        have q250 : x17_1 < (l0.length : Int) := of_decide_eq_true q_as
                        obtain ⟨ad250, A250_0, c250_0, e250, hx250_0, hl250_0, hi250_0⟩ := at_L1 HR0.out x17_1 p250 q250
                        cases e250
                        have HR250_0 := Aside0.mk hi250_0
                        have HC250_0 := Aside0.mk hl250_0
                        (try clear hi250_0); (try clear hl250_0)
                        q_t p250 q250
                        have p251 : 0 ≤ (x22_2 : Int) := of_decide_eq_true q_as
                        have q251 : x22_2 < ((rd_L1 l0 x17_1).length : Int) := of_decide_eq_true q_as
                        obtain ⟨ad251, e251, hx251_0⟩ := Kd.at_int HR250_0.out x22_2 p251 q251
                        cases e251
                        q_t p251 q251
                        have p252 : 0 ≤ ((rd (rd_L1 l0 x17_1) x22_2) : Int) := of_decide_eq_true q_as
                        have q252 : (rd (rd_L1 l0 x17_1) x22_2) < (l0.length : Int) := of_decide_eq_true q_as
                        obtain ⟨ad252, A252_0, c252_0, e252, hx252_0, hl252_0, hi252_0⟩ := at_L1 HR0.out (rd (rd_L1 l0 x17_1) x22_2) p252 q252
                        obtain rfl : ad250 = ad252 := (by injection e252)
                        have HR252_0 := Aside0.mk hi252_0
                        have HC252_0 := Aside0.mk hl252_0
                        (try clear hi252_0); (try clear hl252_0)
                        q_t p252 q252
                        have p253 : 0 ≤ (x27_3 : Int) := of_decide_eq_true q_as
                        have q253 : x27_3 < ((rd_L1 l0 (rd (rd_L1 l0 x17_1) x22_2)).length : Int) := of_decide_eq_true q_as
                        obtain ⟨ad253, e253, hx253_0⟩ := Kd.at_int HR252_0.out x27_3 p253 q253
                        cases e253
                        q_t p253 q253
                        have p254 : 0 ≤ (x17_1 : Int) := of_decide_eq_true q_as
                        have q254 : x17_1 < (l0.length : Int) := of_decide_eq_true q_as
                        obtain ⟨ad254, A254_0, c254_0, e254, hx254_0, hl254_0, hi254_0⟩ := at_L1 HR0.out x17_1 p254 q254
                        obtain rfl : ad250 = ad254 := (by injection e254)
                        have HR254_0 := Aside0.mk hi254_0
                        have HC254_0 := Aside0.mk hl254_0
                        (try clear hi254_0); (try clear hl254_0)
                        q_t p254 q254
                        have ea_ := Option.some.inj (hx250_0.symm.trans hx254_0)
                        injection ea_ with ea_ en_ ec_
                        subst ea_
                        subst ec_
                        clear en_
                        have p255 : 0 ≤ (x22_2 : Int) := of_decide_eq_true q_as
                        have q255 : x22_2 < (l0.length : Int) := of_decide_eq_true q_as
                        obtain ⟨ad255, A255_0, c255_0, e255, hx255_0, hl255_0, hi255_0⟩ := at_L1 HR0.out x22_2 p255 q255
                        obtain rfl : ad250 = ad255 := (by injection e255)
                        have HR255_0 := Aside0.mk hi255_0
                        have HC255_0 := Aside0.mk hl255_0
                        (try clear hi255_0); (try clear hl255_0)
                        q_t p255 q255
                        have p256 : 0 ≤ (x27_3 : Int) := of_decide_eq_true q_as
                        have q256 : x27_3 < ((rd_L1 l0 x22_2).length : Int) := of_decide_eq_true q_as
                        obtain ⟨ad256, e256, hx256_0⟩ := Kd.at_int HR255_0.out x27_3 p256 q256
                        cases e256
                        q_t p256 q256
                        have p257 : 0 ≤ ((rd (rd_L1 l0 x22_2) x27_3) : Int) := of_decide_eq_true q_as
                        have q257 : (rd (rd_L1 l0 x22_2) x27_3) < ((rd_L1 l0 x17_1).length : Int) := of_decide_eq_true q_as
                        obtain ⟨ad257, e257, hx257_0⟩ := Kd.at_int HR254_0.out (rd (rd_L1 l0 x22_2) x27_3) p257 q257
                        cases e257
                        q_t p257 q257
                        go_wp2
                        repeat (go_quiet (fail); try go_wp2)
                        go_roundg k3
                        case measure => have := HK1.out; have := HK2.out; have := HK3.out; omega
                        case rel => exact ⟨(wrap64 (x27_3 + 1)), q_rs, H', ⟨by have := HK1.out; have := HK2.out; have := HK3.out; omega⟩, by repeat (first | exact Drawn0.refl _ | apply Drawn0.step)⟩
                       ·rw [if_neg c19] at H
                        have c19b0 : ((rd (rd_L1 l0 (rd (rd_L1 l0 x17_1) x22_2)) x27_3) == (rd (rd_L1 l0 x17_1) (rd (rd_L1 l0 x22_2) x27_3))) = false := beq_eq_false_iff_ne.mpr c19
                        have c19b1 : ((rd (rd_L1 l0 (rd (rd_L1 l0 x17_1) x22_2)) x27_3) != (rd (rd_L1 l0 x17_1) (rd (rd_L1 l0 x22_2) x27_3))) = true := bne_iff_ne.mpr c19
                        simp only [Option.some.injEq, Prod.mk.injEq] at H
                        obtain ⟨rfl, rfl, rfl, rfl⟩ := H
                        have p250 : 0 ≤ (x17_1 : Int) := of_decide_eq_true q_as
                        have q250 : x17_1 < (l0.length : Int) := of_decide_eq_true q_as
                        obtain ⟨ad250, A250_0, c250_0, e250, hx250_0, hl250_0, hi250_0⟩ := at_L1 HR0.out x17_1 p250 q250
                        cases e250
                        have HR250_0 := Aside0.mk hi250_0
                        have HC250_0 := Aside0.mk hl250_0
                        (try clear hi250_0); (try clear hl250_0)
                        q_t p250 q250
                        have p251 : 0 ≤ (x22_2 : Int) := of_decide_eq_true q_as
                        have q251 : x22_2 < ((rd_L1 l0 x17_1).length : Int) := of_decide_eq_true q_as
                        obtain ⟨ad251, e251, hx251_0⟩ := Kd.at_int HR250_0.out x22_2 p251 q251
                        cases e251
                        q_t p251 q251
                        have p252 : 0 ≤ ((rd (rd_L1 l0 x17_1) x22_2) : Int) := of_decide_eq_true q_as
                        have q252 : (rd (rd_L1 l0 x17_1) x22_2) < (l0.length : Int) := of_decide_eq_true q_as
                        obtain ⟨ad252, A252_0, c252_0, e252, hx252_0, hl252_0, hi252_0⟩ := at_L1 HR0.out (rd (rd_L1 l0 x17_1) x22_2) p252 q252
                        obtain rfl : ad250 = ad252 := (by injection e252)
                        have HR252_0 := Aside0.mk hi252_0
                        have HC252_0 := Aside0.mk hl252_0
                        (try clear hi252_0); (try clear hl252_0)
                        q_t p252 q252
                        have p253 : 0 ≤ (x27_3 : Int) := of_decide_eq_true q_as
                        have q253 : x27_3 < ((rd_L1 l0 (rd (rd_L1 l0 x17_1) x22_2)).length : Int) := of_decide_eq_true q_as
                        obtain ⟨ad253, e253, hx253_0⟩ := Kd.at_int HR252_0.out x27_3 p253 q253
                        cases e253
                        q_t p253 q253
                        have p254 : 0 ≤ (x17_1 : Int) := of_decide_eq_true q_as
                        have q254 : x17_1 < (l0.length : Int) := of_decide_eq_true q_as
                        obtain ⟨ad254, A254_0, c254_0, e254, hx254_0, hl254_0, hi254_0⟩ := at_L1 HR0.out x17_1 p254 q254
                        obtain rfl : ad250 = ad254 := (by injection e254)
                        have HR254_0 := Aside0.mk hi254_0
                        have HC254_0 := Aside0.mk hl254_0
                        (try clear hi254_0); (try clear hl254_0)
                        q_t p254 q254
                        have ea_ := Option.some.inj (hx250_0.symm.trans hx254_0)
                        injection ea_ with ea_ en_ ec_
                        subst ea_
                        subst ec_
                        clear en_
                        have p255 : 0 ≤ (x22_2 : Int) := of_decide_eq_true q_as
                        have q255 : x22_2 < (l0.length : Int) := of_decide_eq_true q_as
                        obtain ⟨ad255, A255_0, c255_0, e255, hx255_0, hl255_0, hi255_0⟩ := at_L1 HR0.out x22_2 p255 q255
                        obtain rfl : ad250 = ad255 := (by injection e255)
                        have HR255_0 := Aside0.mk hi255_0
                        have HC255_0 := Aside0.mk hl255_0
                        (try clear hi255_0); (try clear hl255_0)
                        q_t p255 q255
                        have p256 : 0 ≤ (x27_3 : Int) := of_decide_eq_true q_as
                        have q256 : x27_3 < ((rd_L1 l0 x22_2).length : Int) := of_decide_eq_true q_as
                        obtain ⟨ad256, e256, hx256_0⟩ := Kd.at_int HR255_0.out x27_3 p256 q256
                        cases e256
                        q_t p256 q256
                        have p257 : 0 ≤ ((rd (rd_L1 l0 x22_2) x27_3) : Int) := of_decide_eq_true q_as
                        have q257 : (rd (rd_L1 l0 x22_2) x27_3) < ((rd_L1 l0 x17_1).length : Int) := of_decide_eq_true q_as
                        obtain ⟨ad257, e257, hx257_0⟩ := Kd.at_int HR254_0.out (rd (rd_L1 l0 x22_2) x27_3) p257 q257
                        cases e257
                        q_t p257 q257
                        go_wp2
                        repeat (go_quiet (fail); try go_wp2)
                        refine bodyPost_ret (results_list (rs := [.tmp 2, .tmp 3, .tmp 4, .tmp 5]) rfl (by simp) (.tmp (.tmp (.tmp (.tmp .nil))))) rfl ?_
                        exact ⟨by first | rfl | (simp; done) | (simp [*]; done), by repeat (first | exact Drawn0.refl _ | apply Drawn0.step)⟩
                      ·rw [if_neg c18] at H
                       exact absurd H (by simp)
                     ·rw [if_neg c17] at H
                      exact absurd H (by simp)
                    ·rw [if_neg c16] at H
                     exact absurd H (by simp)
                   ·rw [if_neg c15] at H
                    exact absurd H (by simp)
                  ·rw [if_neg c14] at H
                   exact absurd H (by simp)
                 ·rw [if_neg c13] at H
                  exact absurd H (by simp)
                ·rw [if_neg c12] at H
                 exact absurd H (by simp)
               ·rw [if_neg c11] at H
                exact absurd H (by simp)
              ·rw [if_neg c10] at H
               exact absurd H (by simp)
             ·rw [if_neg c9] at H
              exact absurd H (by simp)
            ·rw [if_neg c8] at H
             exact absurd H (by simp)
           ·rw [if_neg c7] at H
            exact absurd H (by simp)
          ·rw [if_neg c6] at H
           have c6b0 : decide (x27_3 < (l0.length : Int)) = false := decide_eq_false c6
           clear c6
           have H' := Aside0.mk H
           clear H
           go_wp2
           repeat (go_quiet (fail); try go_wp2)
           go_roundg k3
           case measure => have := HK1.out; have := HK2.out; have := HK3.out; omega
           case rel => exact ⟨(wrap64 (x22_2 + 1)), q_rs, H', ⟨by have := HK1.out; have := HK2.out; have := HK3.out; omega⟩, by repeat (first | exact Drawn0.refl _ | apply Drawn0.step)⟩
       ·rw [if_neg c5] at H
        have c5b0 : decide (x22_2 < (l0.length : Int)) = false := decide_eq_false c5
        clear c5
        have H' := Aside0.mk H
        clear H
        go_wp2
        repeat (go_quiet (fail); try go_wp2)
        go_roundg k2
        case measure => have := HK1.out; have := HK2.out; omega
        case rel => exact ⟨(wrap64 (x17_1 + 1)), q_rs, H', ⟨by have := HK1.out; have := HK2.out; omega⟩, by repeat (first | exact Drawn0.refl _ | apply Drawn0.step)⟩
    ·rw [if_neg c4] at H
     have c4b0 : decide (x17_1 < (l0.length : Int)) = false := decide_eq_false c4
     clear c4
     simp only [Option.some.injEq, Prod.mk.injEq] at H
     obtain ⟨rfl, rfl, rfl, rfl⟩ := H
     go_wp2
     repeat (go_quiet (fail); try go_wp2)
     refine bodyPost_ret (results_list (rs := [.tmp 2, .tmp 3, .tmp 4, .tmp 5]) rfl (by simp) (.tmp (.tmp (.tmp (.tmp .nil))))) rfl ?_
     exact ⟨by first | rfl | (simp; done) | (simp [*]; done), by repeat (first | exact Drawn0.refl _ | apply Drawn0.step)⟩
 ·rw [if_neg c3] at H
  have c3b0 : (t249 == 0) = false := beq_eq_false_iff_ne.mpr c3
  have c3b1 : (t249 != 0) = true := bne_iff_ne.mpr c3
  simp only [Option.some.injEq, Prod.mk.injEq] at H
  obtain ⟨rfl, rfl, rfl, rfl⟩ := H
  go_enter Try.func82, Try.ntmps82
  go_wp2_with (first | (go_at_call 43; (with_reducible refine (semigroupref14_Shape.calls k _ _ l0 t249 _ ?side1 ?side2 A2.out).mono ?_); (case side1 => q_cc HR0.out); (case side2 => exact HC0.out); rintro e w' ⟨rfl, ⟨nd, rfl⟩⟩; (try first | exact ⟨rfl, _, World.drewN_drewN _ _ _⟩ | exact ⟨rfl, _, Eq.trans (World.drewN_drewN _ _ _) (congrArg (World.drewN _) (Nat.add_assoc _ _ _))⟩)))
  repeat (go_quiet (first | (go_at_call 43; (with_reducible refine (semigroupref14_Shape.calls k _ _ l0 t249 _ ?side1 ?side2 A2.out).mono ?_); (case side1 => q_cc HR0.out); (case side2 => exact HC0.out); rintro e w' ⟨rfl, ⟨nd, rfl⟩⟩; (try first | exact ⟨rfl, _, World.drewN_drewN _ _ _⟩ | exact ⟨rfl, _, Eq.trans (World.drewN_drewN _ _ _) (congrArg (World.drewN _) (Nat.add_assoc _ _ _))⟩))); try go_wp2_with (first | (go_at_call 43; (with_reducible refine (semigroupref14_Shape.calls k _ _ l0 t249 _ ?side1 ?side2 A2.out).mono ?_); (case side1 => q_cc HR0.out); (case side2 => exact HC0.out); rintro e w' ⟨rfl, ⟨nd, rfl⟩⟩; (try first | exact ⟨rfl, _, World.drewN_drewN _ _ _⟩ | exact ⟨rfl, _, Eq.trans (World.drewN_drewN _ _ _) (congrArg (World.drewN _) (Nat.add_assoc _ _ _))⟩))))
  refine bodyPost_ret (results_list (rs := [.tmp 2, .tmp 3, .tmp 4, .tmp 5]) rfl (by simp) (.tmp (.tmp (.tmp (.tmp .nil))))) rfl ?_
  exact ⟨by first | rfl | (simp; done) | (simp [*]; done), by repeat (first | exact Drawn0.refl _ | apply Drawn0.step)⟩

/-! ### semigroupref14_Validate: function 72 -/
def semigroupref14_Validate.f (k : Nat) (l0 : List (List Int)) : Option (Int) := (semigroupref14_Associative.f k l0).bind fun bt258 => (some bt258.2.2.2)
theorem semigroupref14_Validate.mono : ∀ a0 k, LeO (semigroupref14_Validate.f k a0) (semigroupref14_Validate.f (k + 1) a0) := by
 intro a0 k
 unfold semigroupref14_Validate.f
 repeat' first
   | (with_reducible exact semigroupref14_Associative.mono _ _)
   | (with_reducible exact LeO.refl _)
   | (with_reducible exact LeO.none _)
   | (with_reducible refine LeO.ite ?_ ?_)
   | (with_reducible refine LeO.bind ?_ (fun _ => ?_))
   | exact semigroupref14_Associative.mono _ _
   | exact LeO.none _
   | refine LeO.ite ?_ ?_
   | refine LeO.bind ?_ (fun _ => ?_)
set_option maxHeartbeats 8000000 in
set_option maxRecDepth 100000 in
theorem semigroupref14_Validate.calls (k : Nat) (A0 : Option Addr) (c0 : Nat) (l0 : List (List Int)) (r : Int) (w : World) (hr0 : Kd.C (Kd.slice 3 (Kd.int .i64)) w A0 l0.length l0) (hc0 : l0.length ≤ c0) (h : semigroupref14_Validate.f k l0 = some r) :
  Calls Try.prog 72 #[.slice A0 l0.length c0] w fun e w' => e = .returned (.int .i64 r) ∧ Drawn0 w w' := by
 have HR0 := Aside0.mk hr0
 have HC0 := Aside0.mk hc0
 (try clear hr0); (try clear hc0)
 have H : ((semigroupref14_Associative.f k l0).bind fun bt258 => (some bt258.2.2.2)) = some r := h
 clear h
 replace H := Option.bind_eq_some_iff.mp H
 obtain ⟨⟨t258, t259, t260, t261⟩, A20, H⟩ := H
 replace H : (some t261) = some r := H
 have A2 := Aside0.mk A20
 clear A20
 obtain rfl := Option.some.inj H
 go_enter Try.func72, Try.ntmps72
 go_wp2_with (first | ((with_reducible refine gate_callee (f := 82) rfl ?_); refine goesL_ (some 9) rfl rfl Try.func82 (by kernel_rfl) rfl #[.slice A0 l0.length c0] rfl q_ml ?_; (with_reducible refine (semigroupref14_Associative.calls k _ _ l0 t258 t259 t260 t261 _ ?side1 ?side2 A2.out).mono ?_); (case side1 => q_cc HR0.out); (case side2 => exact HC0.out); rintro e w' ⟨rfl, ⟨nd, rfl⟩⟩; refine ⟨_, rfl, ?_⟩))
 go_ret
 exact ⟨by first | rfl | (simp; done) | (simp [*]; done), by repeat (first | exact Drawn0.refl _ | apply Drawn0.step)⟩

/-! ### semigroupref14_Valid: function 58 -/
def semigroupref14_Valid.f (k : Nat) (l0 : List (List Int)) : Option (Bool) := (semigroupref14_Validate.f k l0).bind fun t262 => (some (t262 == 0))
theorem semigroupref14_Valid.mono : ∀ a0 k, LeO (semigroupref14_Valid.f k a0) (semigroupref14_Valid.f (k + 1) a0) := by
 intro a0 k
 unfold semigroupref14_Valid.f
 repeat' first
   | (with_reducible exact semigroupref14_Validate.mono _ _)
   | (with_reducible exact LeO.refl _)
   | (with_reducible exact LeO.none _)
   | (with_reducible refine LeO.ite ?_ ?_)
   | (with_reducible refine LeO.bind ?_ (fun _ => ?_))
   | exact semigroupref14_Validate.mono _ _
   | exact LeO.none _
   | refine LeO.ite ?_ ?_
   | refine LeO.bind ?_ (fun _ => ?_)
set_option maxHeartbeats 8000000 in
set_option maxRecDepth 100000 in
theorem semigroupref14_Valid.calls (k : Nat) (A0 : Option Addr) (c0 : Nat) (l0 : List (List Int)) (r : Bool) (w : World) (hr0 : Kd.C (Kd.slice 3 (Kd.int .i64)) w A0 l0.length l0) (hc0 : l0.length ≤ c0) (h : semigroupref14_Valid.f k l0 = some r) :
  Calls Try.prog 58 #[.slice A0 l0.length c0] w fun e w' => e = .returned (.bool r) ∧ Drawn0 w w' := by
 have HR0 := Aside0.mk hr0
 have HC0 := Aside0.mk hc0
 (try clear hr0); (try clear hc0)
 have H : ((semigroupref14_Validate.f k l0).bind fun t262 => (some (t262 == 0))) = some r := h
 clear h
 replace H := Option.bind_eq_some_iff.mp H
 obtain ⟨t262, A20, H⟩ := H
 replace H : (some (t262 == 0)) = some r := H
 have A2 := Aside0.mk A20
 clear A20
 obtain rfl := Option.some.inj H
 go_enter Try.func58, Try.ntmps58
 go_wp2_with (first | ((with_reducible refine gate_callee (f := 72) rfl ?_); refine goesL_ (some 4) rfl rfl Try.func72 (by kernel_rfl) rfl #[.slice A0 l0.length c0] rfl q_ml ?_; (with_reducible refine (semigroupref14_Validate.calls k _ _ l0 t262 _ ?side1 ?side2 A2.out).mono ?_); (case side1 => q_cc HR0.out); (case side2 => exact HC0.out); rintro e w' ⟨rfl, ⟨nd, rfl⟩⟩; refine ⟨_, rfl, ?_⟩))
 go_ret
 exact ⟨by first | rfl | (simp; done) | (simp [*]; done), by repeat (first | exact Drawn0.refl _ | apply Drawn0.step)⟩

/-! ### semigroupref14_Identity: function 63 -/
mutual
def semigroupref14_Identity.l0 : Nat → List (List Int) → Int → Int → Option (Int)
 | 0, _, _, _ => none
 | k + 1, x0, x7, x8 => if x8 < x7 then (semigroupref14_Identity.l1 k x0 x8 true x7 x8 (x0.length : Int) 0) else (some (-1))
def semigroupref14_Identity.l1 : Nat → List (List Int) → Int → Bool → Int → Int → Int → Int → Option (Int)
 | 0, _, _, _, _, _, _, _ => none
 | k + 1, x0, x3, x4, x7, x8, x12, x13 => if x13 < x12 then (if x4 = true then (if 0 ≤ x3 then (if x3 < (x0.length : Int) then (if 0 ≤ x13 then (if x13 < ((rd_L1 x0 x3).length : Int) then (if (rd (rd_L1 x0 x3) x13) = x13 then (if x13 < (x0.length : Int) then (if x3 < ((rd_L1 x0 x13).length : Int) then (semigroupref14_Identity.l1 k x0 x3 ((rd (rd_L1 x0 x13) x3) == x13) x7 x8 x12 (wrap64 (x13 + 1))) else (none)) else (none)) else (semigroupref14_Identity.l1 k x0 x3 false x7 x8 x12 (wrap64 (x13 + 1)))) else (none)) else (none)) else (none)) else (none)) else (semigroupref14_Identity.l1 k x0 x3 false x7 x8 x12 (wrap64 (x13 + 1)))) else (if x4 = true then (some x3) else (semigroupref14_Identity.l0 k x0 x7 (wrap64 (x8 + 1))))
end
def semigroupref14_Identity.f (k : Nat) (l0 : List (List Int)) : Option (Int) := semigroupref14_Identity.l0 k l0 (l0.length : Int) 0
theorem semigroupref14_Identity.mono_l : ∀ k, (∀ y0 y1 y2, LeO (semigroupref14_Identity.l0 k y0 y1 y2) (semigroupref14_Identity.l0 (k + 1) y0 y1 y2)) ∧ (∀ y0 y1 y2 y3 y4 y5 y6, LeO (semigroupref14_Identity.l1 k y0 y1 y2 y3 y4 y5 y6) (semigroupref14_Identity.l1 (k + 1) y0 y1 y2 y3 y4 y5 y6))
 | 0 => ⟨fun _ _ _ r h => by simp [semigroupref14_Identity.l0] at h, fun _ _ _ _ _ _ _ r h => by simp [semigroupref14_Identity.l1] at h⟩
 | k + 1 => by
  obtain ⟨ih0, ih1⟩ := semigroupref14_Identity.mono_l k
  refine ⟨?_, ?_⟩
  ·intro y0 y1 y2
   unfold semigroupref14_Identity.l0
   repeat' first
   | (with_reducible exact ih0 _ _ _)
   | (with_reducible exact ih1 _ _ _ _ _ _ _)
   | (with_reducible exact LeO.refl _)
   | (with_reducible exact LeO.none _)
   | (with_reducible refine LeO.ite ?_ ?_)
   | (with_reducible refine LeO.bind ?_ (fun _ => ?_))
   | exact ih0 _ _ _
   | exact ih1 _ _ _ _ _ _ _
   | exact LeO.none _
   | refine LeO.ite ?_ ?_
   | refine LeO.bind ?_ (fun _ => ?_)
  ·intro y0 y1 y2 y3 y4 y5 y6
   unfold semigroupref14_Identity.l1
   repeat' first
   | (with_reducible exact ih0 _ _ _)
   | (with_reducible exact ih1 _ _ _ _ _ _ _)
   | (with_reducible exact LeO.refl _)
   | (with_reducible exact LeO.none _)
   | (with_reducible refine LeO.ite ?_ ?_)
   | (with_reducible refine LeO.bind ?_ (fun _ => ?_))
   | exact ih0 _ _ _
   | exact ih1 _ _ _ _ _ _ _
   | exact LeO.none _
   | refine LeO.ite ?_ ?_
   | refine LeO.bind ?_ (fun _ => ?_)
theorem semigroupref14_Identity.mono : ∀ a0 k, LeO (semigroupref14_Identity.f k a0) (semigroupref14_Identity.f (k + 1) a0) := by
 intro a0 k
 obtain ⟨ih0, ih1⟩ := semigroupref14_Identity.mono_l k
 unfold semigroupref14_Identity.f
 repeat' first
   | (with_reducible exact ih0 _ _ _)
   | (with_reducible exact ih1 _ _ _ _ _ _ _)
   | (with_reducible exact LeO.refl _)
   | (with_reducible exact LeO.none _)
   | (with_reducible refine LeO.ite ?_ ?_)
   | (with_reducible refine LeO.bind ?_ (fun _ => ?_))
   | exact ih0 _ _ _
   | exact ih1 _ _ _ _ _ _ _
   | exact LeO.none _
   | refine LeO.ite ?_ ?_
   | refine LeO.bind ?_ (fun _ => ?_)
set_option maxHeartbeats 8000000 in
set_option maxRecDepth 100000 in
theorem semigroupref14_Identity.calls (k : Nat) (A0 : Option Addr) (c0 : Nat) (l0 : List (List Int)) (r : Int) (w : World) (hr0 : Kd.C (Kd.slice 3 (Kd.int .i64)) w A0 l0.length l0) (hc0 : l0.length ≤ c0) (h : semigroupref14_Identity.f k l0 = some r) :
  Calls Try.prog 63 #[.slice A0 l0.length c0] w fun e w' => e = .returned (.int .i64 r) ∧ Drawn0 w w' := by
 have HR0 := Aside0.mk hr0
 have HC0 := Aside0.mk hc0
 (try clear hr0); (try clear hc0)
 have H : (semigroupref14_Identity.l0 k l0 (l0.length : Int) 0) = some r := h
 clear h
 have H' := Aside0.mk H
 clear H
 go_enter Try.func63, Try.ntmps63
 go_wp2
 go_loopg [8] k (fun kq v8 w' => ∃ (x8_1 : Int), v8 = .int .i64 x8_1 ∧ Aside0 (semigroupref14_Identity.l0 kq l0 (l0.length : Int) x8_1 = some r) ∧ Aside0 (kq ≤ k) ∧ Drawn0 w w')
 case atStart => exact ⟨(0), q_rs, H', ⟨Nat.le_refl _⟩, by repeat (first | exact Drawn0.refl _ | apply Drawn0.step)⟩
 case round =>
  clear H'
  obtain ⟨x8_1, rfl, HA, HK1, ⟨m1, rfl⟩⟩ := hrel
  cases gk with
  | zero => exact absurd HA.out (by simp [semigroupref14_Identity.l0])
  | succ k1 =>
   have H := HA.out
   clear HA
   simp only [semigroupref14_Identity.l0] at H
   by_cases c2 : x8_1 < (l0.length : Int)
   ·rw [if_pos c2] at H
    have c2b0 : decide (x8_1 < (l0.length : Int)) = true := decide_eq_true c2
    clear c2
    have H' := Aside0.mk H
    clear H
    go_wp2
    go_loopg [4, 13] k1 (fun kq v4 v13 w' => ∃ (x4_2 : Bool) (x13_2 : Int), v4 = .bool x4_2 ∧ v13 = .int .i64 x13_2 ∧ Aside0 (semigroupref14_Identity.l1 kq l0 x8_1 x4_2 (l0.length : Int) x8_1 (l0.length : Int) x13_2 = some r) ∧ Aside0 (kq ≤ k1) ∧ Drawn0 w w')
    case atStart => exact ⟨(true), (0), q_rs, q_rs, H', ⟨Nat.le_refl _⟩, by repeat (first | exact Drawn0.refl _ | apply Drawn0.step)⟩
    case round =>
     clear H'
     q_x c2 c2b0 p2
     obtain ⟨x4_2, x13_2, rfl, rfl, HA, HK2, ⟨m2, rfl⟩⟩ := hrel
     cases gk with
     | zero => exact absurd HA.out (by simp [semigroupref14_Identity.l1])
     | succ k2 =>
      have H := HA.out
      clear HA
      simp only [semigroupref14_Identity.l1] at H
      by_cases c3 : x13_2 < (l0.length : Int)
      ·rw [if_pos c3] at H
       have c3b0 : decide (x13_2 < (l0.length : Int)) = true := decide_eq_true c3
       clear c3
       by_cases c4 : x4_2 = true
       ·subst c4
        have H1 : (if 0 ≤ x8_1 then (if x8_1 < (l0.length : Int) then (if 0 ≤ x13_2 then (if x13_2 < ((rd_L1 l0 x8_1).length : Int) then (if (rd (rd_L1 l0 x8_1) x13_2) = x13_2 then (if x13_2 < (l0.length : Int) then (if x8_1 < ((rd_L1 l0 x13_2).length : Int) then (semigroupref14_Identity.l1 k2 l0 x8_1 ((rd (rd_L1 l0 x13_2) x8_1) == x13_2) (l0.length : Int) x8_1 (l0.length : Int) (wrap64 (x13_2 + 1))) else (none)) else (none)) else (semigroupref14_Identity.l1 k2 l0 x8_1 false (l0.length : Int) x8_1 (l0.length : Int) (wrap64 (x13_2 + 1)))) else (none)) else (none)) else (none)) else (none)) = some r := by rw [if_pos rfl] at H; exact H
        clear H
        have H := H1
        clear H1
        by_cases c5 : 0 ≤ x8_1
        ·rw [if_pos c5] at H
         have c5b0 : decide (0 ≤ x8_1) = true := decide_eq_true c5
         clear c5
         by_cases c6 : x8_1 < (l0.length : Int)
         ·rw [if_pos c6] at H
          have c6b0 : decide (x8_1 < (l0.length : Int)) = true := decide_eq_true c6
          clear c6
          by_cases c7 : 0 ≤ x13_2
          ·rw [if_pos c7] at H
           have c7b0 : decide (0 ≤ x13_2) = true := decide_eq_true c7
           clear c7
           by_cases c8 : x13_2 < ((rd_L1 l0 x8_1).length : Int)
           ·rw [if_pos c8] at H
            have c8b0 : decide (x13_2 < ((rd_L1 l0 x8_1).length : Int)) = true := decide_eq_true c8
            clear c8
            by_cases c9 : (rd (rd_L1 l0 x8_1) x13_2) = x13_2
            ·rw [if_pos c9] at H
             have c9b0 : ((rd (rd_L1 l0 x8_1) x13_2) == x13_2) = true := beq_iff_eq.mpr c9
             have c9b1 : ((rd (rd_L1 l0 x8_1) x13_2) != x13_2) = false := bne_eq_false_iff_eq.mpr c9
             clear c9
             by_cases c10 : x13_2 < (l0.length : Int)
             ·rw [if_pos c10] at H
              have c10b0 : decide (x13_2 < (l0.length : Int)) = true := decide_eq_true c10
              clear c10
              by_cases c11 : x8_1 < ((rd_L1 l0 x13_2).length : Int)
              ·rw [if_pos c11] at H
               have c11b0 : decide (x8_1 < ((rd_L1 l0 x13_2).length : Int)) = true := decide_eq_true c11
               clear c11
               have H' := Aside0.mk H
               clear H
               have p263 : 0 ≤ (x8_1 : Int) := of_decide_eq_true q_as
               have q263 : x8_1 < (l0.length : Int) := of_decide_eq_true q_as
               obtain ⟨ad263, A263_0, c263_0, e263, hx263_0, hl263_0, hi263_0⟩ := at_L1 HR0.out x8_1 p263 q263
               cases e263
               have HR263_0 := Aside0.mk hi263_0
               have HC263_0 := Aside0.mk hl263_0
               (try clear hi263_0); (try clear hl263_0)
               q_t p263 q263
               have p264 : 0 ≤ (x13_2 : Int) := of_decide_eq_true q_as
               have q264 : x13_2 < ((rd_L1 l0 x8_1).length : Int) := of_decide_eq_true q_as
               obtain ⟨ad264, e264, hx264_0⟩ := Kd.at_int HR263_0.out x13_2 p264 q264
               cases e264
               q_t p264 q264
               have p265 : 0 ≤ (x13_2 : Int) := of_decide_eq_true q_as
               have q265 : x13_2 < (l0.length : Int) := of_decide_eq_true q_as
               obtain ⟨ad265, A265_0, c265_0, e265, hx265_0, hl265_0, hi265_0⟩ := at_L1 HR0.out x13_2 p265 q265
               obtain rfl : ad263 = ad265 := (by injection e265)
               have HR265_0 := Aside0.mk hi265_0
               have HC265_0 := Aside0.mk hl265_0
               (try clear hi265_0); (try clear hl265_0)
               q_t p265 q265
               have p266 : 0 ≤ (x8_1 : Int) := of_decide_eq_true q_as
               have q266 : x8_1 < ((rd_L1 l0 x13_2).length : Int) := of_decide_eq_true q_as
               obtain ⟨ad266, e266, hx266_0⟩ := Kd.at_int HR265_0.out x8_1 p266 q266
               cases e266
               q_t p266 q266
               go_wp2
               go_roundg k2
               case measure => have := HK1.out; have := HK2.out; omega
               case rel => exact ⟨(((rd (rd_L1 l0 x13_2) x8_1) == x13_2)), (wrap64 (x13_2 + 1)), q_rs, q_rs, H', ⟨by have := HK1.out; have := HK2.out; omega⟩, by repeat (first | exact Drawn0.refl _ | apply Drawn0.step)⟩
              ·rw [if_neg c11] at H
               exact absurd H (by simp)
             ·rw [if_neg c10] at H
              exact absurd H (by simp)
            ·rw [if_neg c9] at H
             have c9b0 : ((rd (rd_L1 l0 x8_1) x13_2) == x13_2) = false := beq_eq_false_iff_ne.mpr c9
             have c9b1 : ((rd (rd_L1 l0 x8_1) x13_2) != x13_2) = true := bne_iff_ne.mpr c9
             have H' := Aside0.mk H
             clear H
             have p263 : 0 ≤ (x8_1 : Int) := of_decide_eq_true q_as
             have q263 : x8_1 < (l0.length : Int) := of_decide_eq_true q_as
             obtain ⟨ad263, A263_0, c263_0, e263, hx263_0, hl263_0, hi263_0⟩ := at_L1 HR0.out x8_1 p263 q263
             cases e263
             have HR263_0 := Aside0.mk hi263_0
             have HC263_0 := Aside0.mk hl263_0
             (try clear hi263_0); (try clear hl263_0)
             q_t p263 q263
             have p264 : 0 ≤ (x13_2 : Int) := of_decide_eq_true q_as
             have q264 : x13_2 < ((rd_L1 l0 x8_1).length : Int) := of_decide_eq_true q_as
             obtain ⟨ad264, e264, hx264_0⟩ := Kd.at_int HR263_0.out x13_2 p264 q264
             cases e264
             q_t p264 q264
             go_wp2
             go_roundg k2
             case measure => have := HK1.out; have := HK2.out; omega
             case rel => exact ⟨(false), (wrap64 (x13_2 + 1)), q_rs, q_rs, H', ⟨by have := HK1.out; have := HK2.out; omega⟩, by repeat (first | exact Drawn0.refl _ | apply Drawn0.step)⟩
           ·rw [if_neg c8] at H
            exact absurd H (by simp)
          ·rw [if_neg c7] at H
           exact absurd H (by simp)
         ·rw [if_neg c6] at H
          exact absurd H (by simp)
        ·rw [if_neg c5] at H
         exact absurd H (by simp)
       ·replace c4 := Bool.eq_false_iff.mpr c4
        subst c4
        have H1 : (semigroupref14_Identity.l1 k2 l0 x8_1 false (l0.length : Int) x8_1 (l0.length : Int) (wrap64 (x13_2 + 1))) = some r := by rw [if_neg (show ¬ (false = true) by decide)] at H; exact H
        clear H
        have H := H1
        clear H1
        have H' := Aside0.mk H
        clear H
        go_wp2
        go_roundg k2
        case measure => have := HK1.out; have := HK2.out; omega
        case rel => exact ⟨(false), (wrap64 (x13_2 + 1)), q_rs, q_rs, H', ⟨by have := HK1.out; have := HK2.out; omega⟩, by repeat (first | exact Drawn0.refl _ | apply Drawn0.step)⟩
      ·rw [if_neg c3] at H
       have c3b0 : decide (x13_2 < (l0.length : Int)) = false := decide_eq_false c3
       clear c3
       by_cases c12 : x4_2 = true
       ·subst c12
        have H1 : (some x8_1) = some r := by rw [if_pos rfl] at H; exact H
        clear H
        have H := H1
        clear H1
        obtain rfl := Option.some.inj H
        go_wp2
        go_ret
        exact ⟨by first | rfl | (simp; done) | (simp [*]; done), by repeat (first | exact Drawn0.refl _ | apply Drawn0.step)⟩
       ·replace c12 := Bool.eq_false_iff.mpr c12
        subst c12
        have H1 : (semigroupref14_Identity.l0 k2 l0 (l0.length : Int) (wrap64 (x8_1 + 1))) = some r := by rw [if_neg (show ¬ (false = true) by decide)] at H; exact H
        clear H
        have H := H1
        clear H1
        have H' := Aside0.mk H
        clear H
        go_wp2
        go_roundg k2
        case measure => have := HK1.out; have := HK2.out; omega
        case rel => exact ⟨(wrap64 (x8_1 + 1)), q_rs, H', ⟨by have := HK1.out; have := HK2.out; omega⟩, by repeat (first | exact Drawn0.refl _ | apply Drawn0.step)⟩
   ·rw [if_neg c2] at H
    have c2b0 : decide (x8_1 < (l0.length : Int)) = false := decide_eq_false c2
    clear c2
    obtain rfl := Option.some.inj H
    go_wp2
    go_ret
    exact ⟨by first | rfl | (simp; done) | (simp [*]; done), by repeat (first | exact Drawn0.refl _ | apply Drawn0.step)⟩

/-! ### semigroupref16_Inverse: function 64 -/
def semigroupref16_Inverse.l0 : Nat → List (List Int) → Int → Int → Int → Int → Option (Int)
 | 0, _, _, _, _, _ => none
 | k + 1, x0, x1, x5, x10, x11 => if x11 < x10 then (if 0 ≤ x1 then (if x1 < (x0.length : Int) then (if 0 ≤ x11 then (if x11 < ((rd_L1 x0 x1).length : Int) then (if (rd (rd_L1 x0 x1) x11) = x5 then (if x11 < (x0.length : Int) then (if x1 < ((rd_L1 x0 x11).length : Int) then (if (rd (rd_L1 x0 x11) x1) = x5 then (some x11) else (semigroupref16_Inverse.l0 k x0 x1 x5 x10 (wrap64 (x11 + 1)))) else (none)) else (none)) else (semigroupref16_Inverse.l0 k x0 x1 x5 x10 (wrap64 (x11 + 1)))) else (none)) else (none)) else (none)) else (none)) else (some (-1))
def semigroupref16_Inverse.f (k : Nat) (l0 : List (List Int)) (a1 : Int) : Option (Int) := (semigroupref14_Identity.f k l0).bind fun t267 => (semigroupref16_Inverse.l0 k l0 a1 t267 (l0.length : Int) 0)
theorem semigroupref16_Inverse.mono_l : ∀ k, (∀ y0 y1 y2 y3 y4, LeO (semigroupref16_Inverse.l0 k y0 y1 y2 y3 y4) (semigroupref16_Inverse.l0 (k + 1) y0 y1 y2 y3 y4))
 | 0 => fun _ _ _ _ _ r h => by simp [semigroupref16_Inverse.l0] at h
 | k + 1 => by
  have ih0 := semigroupref16_Inverse.mono_l k
  ·intro y0 y1 y2 y3 y4
   unfold semigroupref16_Inverse.l0
   repeat' first
   | (with_reducible exact ih0 _ _ _ _ _)
   | (with_reducible exact semigroupref14_Identity.mono _ _)
   | (with_reducible exact LeO.refl _)
   | (with_reducible exact LeO.none _)
   | (with_reducible refine LeO.ite ?_ ?_)
   | (with_reducible refine LeO.bind ?_ (fun _ => ?_))
   | exact ih0 _ _ _ _ _
   | exact semigroupref14_Identity.mono _ _
   | exact LeO.none _
   | refine LeO.ite ?_ ?_
   | refine LeO.bind ?_ (fun _ => ?_)
theorem semigroupref16_Inverse.mono : ∀ a0 a1 k, LeO (semigroupref16_Inverse.f k a0 a1) (semigroupref16_Inverse.f (k + 1) a0 a1) := by
 intro a0 a1 k
 have ih0 := semigroupref16_Inverse.mono_l k
 unfold semigroupref16_Inverse.f
 repeat' first
   | (with_reducible exact ih0 _ _ _ _ _)
   | (with_reducible exact semigroupref14_Identity.mono _ _)
   | (with_reducible exact LeO.refl _)
   | (with_reducible exact LeO.none _)
   | (with_reducible refine LeO.ite ?_ ?_)
   | (with_reducible refine LeO.bind ?_ (fun _ => ?_))
   | exact ih0 _ _ _ _ _
   | exact semigroupref14_Identity.mono _ _
   | exact LeO.none _
   | refine LeO.ite ?_ ?_
   | refine LeO.bind ?_ (fun _ => ?_)
set_option maxHeartbeats 8000000 in
set_option maxRecDepth 100000 in
theorem semigroupref16_Inverse.calls (k : Nat) (A0 : Option Addr) (c0 : Nat) (l0 : List (List Int)) (a1 : Int) (r : Int) (w : World) (hr0 : Kd.C (Kd.slice 3 (Kd.int .i64)) w A0 l0.length l0) (hc0 : l0.length ≤ c0) (h : semigroupref16_Inverse.f k l0 a1 = some r) :
  Calls Try.prog 64 #[.slice A0 l0.length c0, .int .i64 a1] w fun e w' => e = .returned (.int .i64 r) ∧ Drawn0 w w' := by
 have HR0 := Aside0.mk hr0
 have HC0 := Aside0.mk hc0
 (try clear hr0); (try clear hc0)
 have H : ((semigroupref14_Identity.f k l0).bind fun t267 => (semigroupref16_Inverse.l0 k l0 a1 t267 (l0.length : Int) 0)) = some r := h
 clear h
 replace H := Option.bind_eq_some_iff.mp H
 obtain ⟨t267, A30, H⟩ := H
 replace H : (semigroupref16_Inverse.l0 k l0 a1 t267 (l0.length : Int) 0) = some r := H
 have A3 := Aside0.mk A30
 clear A30
 have H' := Aside0.mk H
 clear H
 go_enter Try.func64, Try.ntmps64
 go_wp2_with (first | ((with_reducible refine gate_callee (f := 63) rfl ?_); refine goesL_ (some 8) rfl rfl Try.func63 (by kernel_rfl) rfl #[.slice A0 l0.length c0] rfl q_ml ?_; (with_reducible refine (semigroupref14_Identity.calls k _ _ l0 t267 _ ?side1 ?side2 A3.out).mono ?_); (case side1 => q_cc HR0.out); (case side2 => exact HC0.out); rintro e w' ⟨rfl, ⟨nd, rfl⟩⟩; refine ⟨_, rfl, ?_⟩))
 go_loopg [11] k (fun kq v11 w' => ∃ (x11_1 : Int), v11 = .int .i64 x11_1 ∧ Aside0 (semigroupref16_Inverse.l0 kq l0 a1 t267 (l0.length : Int) x11_1 = some r) ∧ Aside0 (kq ≤ k) ∧ Drawn0 w w')
 case atStart => exact ⟨(0), q_rs, H', ⟨Nat.le_refl _⟩, by repeat (first | exact Drawn0.refl _ | apply Drawn0.step)⟩
 case round =>
  clear H'
  try clear p2
  obtain ⟨x11_1, rfl, HA, HK1, ⟨m1, rfl⟩⟩ := hrel
  cases gk with
  | zero => exact absurd HA.out (by simp [semigroupref16_Inverse.l0])
  | succ k1 =>
   have H := HA.out
   clear HA
   simp only [semigroupref16_Inverse.l0] at H
   by_cases c4 : x11_1 < (l0.length : Int)
   ·rw [if_pos c4] at H
    have c4b0 : decide (x11_1 < (l0.length : Int)) = true := decide_eq_true c4
    clear c4
    by_cases c5 : 0 ≤ a1
    ·rw [if_pos c5] at H
     have c5b0 : decide (0 ≤ a1) = true := decide_eq_true c5
     clear c5
     by_cases c6 : a1 < (l0.length : Int)
     ·rw [if_pos c6] at H
      have c6b0 : decide (a1 < (l0.length : Int)) = true := decide_eq_true c6
      clear c6
      by_cases c7 : 0 ≤ x11_1
      ·rw [if_pos c7] at H
       have c7b0 : decide (0 ≤ x11_1) = true := decide_eq_true c7
       clear c7
       by_cases c8 : x11_1 < ((rd_L1 l0 a1).length : Int)
       ·rw [if_pos c8] at H
        have c8b0 : decide (x11_1 < ((rd_L1 l0 a1).length : Int)) = true := decide_eq_true c8
        clear c8
        by_cases c9 : (rd (rd_L1 l0 a1) x11_1) = t267
        ·rw [if_pos c9] at H
         have c9b0 : ((rd (rd_L1 l0 a1) x11_1) == t267) = true := beq_iff_eq.mpr c9
         have c9b1 : ((rd (rd_L1 l0 a1) x11_1) != t267) = false := bne_eq_false_iff_eq.mpr c9
         clear c9
         by_cases c10 : x11_1 < (l0.length : Int)
         ·rw [if_pos c10] at H
          have c10b0 : decide (x11_1 < (l0.length : Int)) = true := decide_eq_true c10
          clear c10
          by_cases c11 : a1 < ((rd_L1 l0 x11_1).length : Int)
          ·rw [if_pos c11] at H
           have c11b0 : decide (a1 < ((rd_L1 l0 x11_1).length : Int)) = true := decide_eq_true c11
           clear c11
           by_cases c12 : (rd (rd_L1 l0 x11_1) a1) = t267
           ·rw [if_pos c12] at H
            have c12b0 : ((rd (rd_L1 l0 x11_1) a1) == t267) = true := beq_iff_eq.mpr c12
            have c12b1 : ((rd (rd_L1 l0 x11_1) a1) != t267) = false := bne_eq_false_iff_eq.mpr c12
            clear c12
            obtain rfl := Option.some.inj H
            have p268 : 0 ≤ (a1 : Int) := of_decide_eq_true q_as
            have q268 : a1 < (l0.length : Int) := of_decide_eq_true q_as
            obtain ⟨ad268, A268_0, c268_0, e268, hx268_0, hl268_0, hi268_0⟩ := at_L1 HR0.out a1 p268 q268
            cases e268
            have HR268_0 := Aside0.mk hi268_0
            have HC268_0 := Aside0.mk hl268_0
            (try clear hi268_0); (try clear hl268_0)
            q_t p268 q268
            have p269 : 0 ≤ (x11_1 : Int) := of_decide_eq_true q_as
            have q269 : x11_1 < ((rd_L1 l0 a1).length : Int) := of_decide_eq_true q_as
            obtain ⟨ad269, e269, hx269_0⟩ := Kd.at_int HR268_0.out x11_1 p269 q269
            cases e269
            q_t p269 q269
            have p270 : 0 ≤ (x11_1 : Int) := of_decide_eq_true q_as
            have q270 : x11_1 < (l0.length : Int) := of_decide_eq_true q_as
            obtain ⟨ad270, A270_0, c270_0, e270, hx270_0, hl270_0, hi270_0⟩ := at_L1 HR0.out x11_1 p270 q270
            obtain rfl : ad268 = ad270 := (by injection e270)
            have HR270_0 := Aside0.mk hi270_0
            have HC270_0 := Aside0.mk hl270_0
            (try clear hi270_0); (try clear hl270_0)
            q_t p270 q270
            have p271 : 0 ≤ (a1 : Int) := of_decide_eq_true q_as
            have q271 : a1 < ((rd_L1 l0 x11_1).length : Int) := of_decide_eq_true q_as
            obtain ⟨ad271, e271, hx271_0⟩ := Kd.at_int HR270_0.out a1 p271 q271
            cases e271
            q_t p271 q271
            go_wp2
            go_ret
            exact ⟨by first | rfl | (simp; done) | (simp [*]; done), by repeat (first | exact Drawn0.refl _ | apply Drawn0.step)⟩
           ·rw [if_neg c12] at H
            have c12b0 : ((rd (rd_L1 l0 x11_1) a1) == t267) = false := beq_eq_false_iff_ne.mpr c12
            have c12b1 : ((rd (rd_L1 l0 x11_1) a1) != t267) = true := bne_iff_ne.mpr c12
            have H' := Aside0.mk H
            clear H
            have p268 : 0 ≤ (a1 : Int) := of_decide_eq_true q_as
            have q268 : a1 < (l0.length : Int) := of_decide_eq_true q_as
            obtain ⟨ad268, A268_0, c268_0, e268, hx268_0, hl268_0, hi268_0⟩ := at_L1 HR0.out a1 p268 q268
            cases e268
            have HR268_0 := Aside0.mk hi268_0
            have HC268_0 := Aside0.mk hl268_0
            (try clear hi268_0); (try clear hl268_0)
            q_t p268 q268
            have p269 : 0 ≤ (x11_1 : Int) := of_decide_eq_true q_as
            have q269 : x11_1 < ((rd_L1 l0 a1).length : Int) := of_decide_eq_true q_as
            obtain ⟨ad269, e269, hx269_0⟩ := Kd.at_int HR268_0.out x11_1 p269 q269
            cases e269
            q_t p269 q269
            have p270 : 0 ≤ (x11_1 : Int) := of_decide_eq_true q_as
            have q270 : x11_1 < (l0.length : Int) := of_decide_eq_true q_as
            obtain ⟨ad270, A270_0, c270_0, e270, hx270_0, hl270_0, hi270_0⟩ := at_L1 HR0.out x11_1 p270 q270
            obtain rfl : ad268 = ad270 := (by injection e270)
            have HR270_0 := Aside0.mk hi270_0
            have HC270_0 := Aside0.mk hl270_0
            (try clear hi270_0); (try clear hl270_0)
            q_t p270 q270
            have p271 : 0 ≤ (a1 : Int) := of_decide_eq_true q_as
            have q271 : a1 < ((rd_L1 l0 x11_1).length : Int) := of_decide_eq_true q_as
            obtain ⟨ad271, e271, hx271_0⟩ := Kd.at_int HR270_0.out a1 p271 q271
            cases e271
            q_t p271 q271
            go_wp2
            go_roundg k1
            case measure => have := HK1.out; omega
            case rel => exact ⟨(wrap64 (x11_1 + 1)), q_rs, H', ⟨by have := HK1.out; omega⟩, by repeat (first | exact Drawn0.refl _ | apply Drawn0.step)⟩
          ·rw [if_neg c11] at H
           exact absurd H (by simp)
         ·rw [if_neg c10] at H
          exact absurd H (by simp)
        ·rw [if_neg c9] at H
         have c9b0 : ((rd (rd_L1 l0 a1) x11_1) == t267) = false := beq_eq_false_iff_ne.mpr c9
         have c9b1 : ((rd (rd_L1 l0 a1) x11_1) != t267) = true := bne_iff_ne.mpr c9
         have H' := Aside0.mk H
         clear H
         have p268 : 0 ≤ (a1 : Int) := of_decide_eq_true q_as
         have q268 : a1 < (l0.length : Int) := of_decide_eq_true q_as
         obtain ⟨ad268, A268_0, c268_0, e268, hx268_0, hl268_0, hi268_0⟩ := at_L1 HR0.out a1 p268 q268
         cases e268
         have HR268_0 := Aside0.mk hi268_0
         have HC268_0 := Aside0.mk hl268_0
         (try clear hi268_0); (try clear hl268_0)
         q_t p268 q268
         have p269 : 0 ≤ (x11_1 : Int) := of_decide_eq_true q_as
         have q269 : x11_1 < ((rd_L1 l0 a1).length : Int) := of_decide_eq_true q_as
         obtain ⟨ad269, e269, hx269_0⟩ := Kd.at_int HR268_0.out x11_1 p269 q269
         cases e269
         q_t p269 q269
         go_wp2
         go_roundg k1
         case measure => have := HK1.out; omega
         case rel => exact ⟨(wrap64 (x11_1 + 1)), q_rs, H', ⟨by have := HK1.out; omega⟩, by repeat (first | exact Drawn0.refl _ | apply Drawn0.step)⟩
       ·rw [if_neg c8] at H
        exact absurd H (by simp)
      ·rw [if_neg c7] at H
       exact absurd H (by simp)
     ·rw [if_neg c6] at H
      exact absurd H (by simp)
    ·rw [if_neg c5] at H
     exact absurd H (by simp)
   ·rw [if_neg c4] at H
    have c4b0 : decide (x11_1 < (l0.length : Int)) = false := decide_eq_false c4
    clear c4
    obtain rfl := Option.some.inj H
    go_wp2
    go_ret
    exact ⟨by first | rfl | (simp; done) | (simp [*]; done), by repeat (first | exact Drawn0.refl _ | apply Drawn0.step)⟩

/-! ### semigroupref16_IsGroup: function 45 -/
mutual
def semigroupref16_IsGroup.j0 : Nat → List (List Int) → Bool → Option (Bool)
 | 0, _, _ => none
 | k + 1, x0, x11 => if x11 = true then (some false) else (semigroupref16_IsGroup.l0 k x0 (x0.length : Int) 0)
def semigroupref16_IsGroup.l0 : Nat → List (List Int) → Int → Int → Option (Bool)
 | 0, _, _, _ => none
 | k + 1, x0, x13, x14 => if x14 < x13 then ((semigroupref16_Inverse.f k x0 x14).bind fun t274 => (if t274 < 0 then (some false) else (semigroupref16_IsGroup.l0 k x0 x13 (wrap64 (x14 + 1))))) else (some true)
end
def semigroupref16_IsGroup.f (k : Nat) (l0 : List (List Int)) : Option (Bool) := (semigroupref14_Valid.f k l0).bind fun t272 => (if t272 = true then ((semigroupref14_Identity.f k l0).bind fun t273 => (semigroupref16_IsGroup.j0 k l0 (decide (t273 < 0)))) else (semigroupref16_IsGroup.j0 k l0 true))
theorem semigroupref16_IsGroup.mono_l : ∀ k, (∀ y0 y1, LeO (semigroupref16_IsGroup.j0 k y0 y1) (semigroupref16_IsGroup.j0 (k + 1) y0 y1)) ∧ (∀ y0 y1 y2, LeO (semigroupref16_IsGroup.l0 k y0 y1 y2) (semigroupref16_IsGroup.l0 (k + 1) y0 y1 y2))
 | 0 => ⟨fun _ _ r h => by simp [semigroupref16_IsGroup.j0] at h, fun _ _ _ r h => by simp [semigroupref16_IsGroup.l0] at h⟩
 | k + 1 => by
  obtain ⟨ih0, ih1⟩ := semigroupref16_IsGroup.mono_l k
  refine ⟨?_, ?_⟩
  ·intro y0 y1
   unfold semigroupref16_IsGroup.j0
   repeat' first
   | (with_reducible exact ih0 _ _)
   | (with_reducible exact ih1 _ _ _)
   | (with_reducible exact semigroupref14_Identity.mono _ _)
   | (with_reducible exact semigroupref14_Valid.mono _ _)
   | (with_reducible exact semigroupref16_Inverse.mono _ _ _)
   | (with_reducible exact LeO.refl _)
   | (with_reducible exact LeO.none _)
   | (with_reducible refine LeO.ite ?_ ?_)
   | (with_reducible refine LeO.bind ?_ (fun _ => ?_))
   | exact ih0 _ _
   | exact ih1 _ _ _
   | exact semigroupref14_Identity.mono _ _
   | exact semigroupref14_Valid.mono _ _
   | exact semigroupref16_Inverse.mono _ _ _
   | exact LeO.none _
   | refine LeO.ite ?_ ?_
   | refine LeO.bind ?_ (fun _ => ?_)
  ·intro y0 y1 y2
   unfold semigroupref16_IsGroup.l0
   repeat' first
   | (with_reducible exact ih0 _ _)
   | (with_reducible exact ih1 _ _ _)
   | (with_reducible exact semigroupref14_Identity.mono _ _)
   | (with_reducible exact semigroupref14_Valid.mono _ _)
   | (with_reducible exact semigroupref16_Inverse.mono _ _ _)
   | (with_reducible exact LeO.refl _)
   | (with_reducible exact LeO.none _)
   | (with_reducible refine LeO.ite ?_ ?_)
   | (with_reducible refine LeO.bind ?_ (fun _ => ?_))
   | exact ih0 _ _
   | exact ih1 _ _ _
   | exact semigroupref14_Identity.mono _ _
   | exact semigroupref14_Valid.mono _ _
   | exact semigroupref16_Inverse.mono _ _ _
   | exact LeO.none _
   | refine LeO.ite ?_ ?_
   | refine LeO.bind ?_ (fun _ => ?_)
theorem semigroupref16_IsGroup.mono : ∀ a0 k, LeO (semigroupref16_IsGroup.f k a0) (semigroupref16_IsGroup.f (k + 1) a0) := by
 intro a0 k
 obtain ⟨ih0, ih1⟩ := semigroupref16_IsGroup.mono_l k
 unfold semigroupref16_IsGroup.f
 repeat' first
   | (with_reducible exact ih0 _ _)
   | (with_reducible exact ih1 _ _ _)
   | (with_reducible exact semigroupref14_Identity.mono _ _)
   | (with_reducible exact semigroupref14_Valid.mono _ _)
   | (with_reducible exact semigroupref16_Inverse.mono _ _ _)
   | (with_reducible exact LeO.refl _)
   | (with_reducible exact LeO.none _)
   | (with_reducible refine LeO.ite ?_ ?_)
   | (with_reducible refine LeO.bind ?_ (fun _ => ?_))
   | exact ih0 _ _
   | exact ih1 _ _ _
   | exact semigroupref14_Identity.mono _ _
   | exact semigroupref14_Valid.mono _ _
   | exact semigroupref16_Inverse.mono _ _ _
   | exact LeO.none _
   | refine LeO.ite ?_ ?_
   | refine LeO.bind ?_ (fun _ => ?_)
set_option maxHeartbeats 8000000 in
set_option maxRecDepth 100000 in
theorem semigroupref16_IsGroup.calls (k : Nat) (A0 : Option Addr) (c0 : Nat) (l0 : List (List Int)) (r : Bool) (w : World) (hr0 : Kd.C (Kd.slice 3 (Kd.int .i64)) w A0 l0.length l0) (hc0 : l0.length ≤ c0) (h : semigroupref16_IsGroup.f k l0 = some r) :
  Calls Try.prog 45 #[.slice A0 l0.length c0] w fun e w' => e = .returned (.bool r) ∧ Drawn0 w w' := by
 have HR0 := Aside0.mk hr0
 have HC0 := Aside0.mk hc0
 (try clear hr0); (try clear hc0)
 have H : ((semigroupref14_Valid.f k l0).bind fun t272 => (if t272 = true then ((semigroupref14_Identity.f k l0).bind fun t273 => (semigroupref16_IsGroup.j0 k l0 (decide (t273 < 0)))) else (semigroupref16_IsGroup.j0 k l0 true))) = some r := h
 clear h
 have HC2 := Aside0.mk H
 clear H
 go_enter Try.func45, Try.ntmps45
 go_upto_region 1 with (fail)
 go_cut [11] (fun v11 wc => ∃ (kq : Nat) (x11_1 : Bool), v11 = .bool x11_1 ∧ Aside0 (semigroupref16_IsGroup.j0 kq l0 x11_1 = some r) ∧ Aside0 (kq ≤ k) ∧ Drawn0 w wc)
 case first =>
  have H := HC2.out
  clear HC2
  replace H := Option.bind_eq_some_iff.mp H
  obtain ⟨t272, A30, H⟩ := H
  replace H : (if t272 = true then ((semigroupref14_Identity.f k l0).bind fun t273 => (semigroupref16_IsGroup.j0 k l0 (decide (t273 < 0)))) else (semigroupref16_IsGroup.j0 k l0 true)) = some r := H
  have A3 := Aside0.mk A30
  clear A30
  by_cases c4 : t272 = true
  ·subst c4
   have H1 : ((semigroupref14_Identity.f k l0).bind fun t273 => (semigroupref16_IsGroup.j0 k l0 (decide (t273 < 0)))) = some r := by rw [if_pos rfl] at H; exact H
   clear H
   have H := H1
   clear H1
   replace H := Option.bind_eq_some_iff.mp H
   obtain ⟨t273, A50, H⟩ := H
   replace H : (semigroupref16_IsGroup.j0 k l0 (decide (t273 < 0))) = some r := H
   have A5 := Aside0.mk A50
   clear A50
   have H' := Aside0.mk H
   clear H
   go_wp2_with (first | ((with_reducible refine gate_callee (f := 58) rfl ?_); refine goesL_ (some 5) rfl rfl Try.func58 (by kernel_rfl) rfl #[.slice A0 l0.length c0] rfl q_ml ?_; (with_reducible refine (semigroupref14_Valid.calls k _ _ l0 true _ ?side1 ?side2 A3.out).mono ?_); (case side1 => q_cc HR0.out); (case side2 => exact HC0.out); rintro e w' ⟨rfl, ⟨nd, rfl⟩⟩; refine ⟨_, rfl, ?_⟩) | (go_at_call 63; (with_reducible refine (semigroupref14_Identity.calls k _ _ l0 t273 _ ?side1 ?side2 A5.out).mono ?_); (case side1 => q_cc HR0.out); (case side2 => exact HC0.out); rintro e w' ⟨rfl, ⟨nd, rfl⟩⟩))
   go_meet
   case rel => exact ⟨_, (decide (t273 < 0)), q_rs, H', ⟨by first | omega | exact Nat.le_refl _⟩, by repeat (first | exact Drawn0.refl _ | apply Drawn0.step)⟩
  ·replace c4 := Bool.eq_false_iff.mpr c4
   subst c4
   have H1 : (semigroupref16_IsGroup.j0 k l0 true) = some r := by rw [if_neg (show ¬ (false = true) by decide)] at H; exact H
   clear H
   have H := H1
   clear H1
   have H' := Aside0.mk H
   clear H
   go_wp2_with (first | ((with_reducible refine gate_callee (f := 58) rfl ?_); refine goesL_ (some 5) rfl rfl Try.func58 (by kernel_rfl) rfl #[.slice A0 l0.length c0] rfl q_ml ?_; (with_reducible refine (semigroupref14_Valid.calls k _ _ l0 false _ ?side1 ?side2 A3.out).mono ?_); (case side1 => q_cc HR0.out); (case side2 => exact HC0.out); rintro e w' ⟨rfl, ⟨nd, rfl⟩⟩; refine ⟨_, rfl, ?_⟩))
   go_meet
   case rel => exact ⟨_, (true), q_rs, H', ⟨by first | omega | exact Nat.le_refl _⟩, by repeat (first | exact Drawn0.refl _ | apply Drawn0.step)⟩
 case rest =>
  clear HC2
  q_x p2 c4 c5
  obtain ⟨kq, x11_1, rfl, HA, HJ1, ⟨mc1, rfl⟩⟩ := hcut
  cases kq with
  | zero => exact absurd HA.out (by simp [semigroupref16_IsGroup.j0])
  | succ kj1 =>
   have H := HA.out
   clear HA
   simp only [semigroupref16_IsGroup.j0] at H
   by_cases c6 : x11_1 = true
   ·subst c6
    have H1 : (some false) = some r := by rw [if_pos rfl] at H; exact H
    clear H
    have H := H1
    clear H1
    obtain rfl := Option.some.inj H
    go_wp2
    go_ret
    exact ⟨by first | rfl | (simp; done) | (simp [*]; done), by repeat (first | exact Drawn0.refl _ | apply Drawn0.step)⟩
   ·replace c6 := Bool.eq_false_iff.mpr c6
    subst c6
    have H1 : (semigroupref16_IsGroup.l0 kj1 l0 (l0.length : Int) 0) = some r := by rw [if_neg (show ¬ (false = true) by decide)] at H; exact H
    clear H
    have H := H1
    clear H1
    have H' := Aside0.mk H
    clear H
    go_wp2
    go_loopg [14] kj1 (fun kq v14 w' => ∃ (x14_2 : Int), v14 = .int .i64 x14_2 ∧ Aside0 (semigroupref16_IsGroup.l0 kq l0 (l0.length : Int) x14_2 = some r) ∧ Aside0 (kq ≤ kj1) ∧ Drawn0 w w')
    case atStart => exact ⟨(0), q_rs, H', ⟨Nat.le_refl _⟩, by repeat (first | exact Drawn0.refl _ | apply Drawn0.step)⟩
    case round =>
     clear H'
     q_x c1 p2 c4 c5 c6 p2
     obtain ⟨x14_2, rfl, HA, HK2, ⟨m2, rfl⟩⟩ := hrel
     cases gk with
     | zero => exact absurd HA.out (by simp [semigroupref16_IsGroup.l0])
     | succ k2 =>
      have H := HA.out
      clear HA
      simp only [semigroupref16_IsGroup.l0] at H
      by_cases c7 : x14_2 < (l0.length : Int)
      ·rw [if_pos c7] at H
       have c7b0 : decide (x14_2 < (l0.length : Int)) = true := decide_eq_true c7
       clear c7
       replace H := Option.bind_eq_some_iff.mp H
       obtain ⟨t274, A80, H⟩ := H
       replace H : (if t274 < 0 then (some false) else (semigroupref16_IsGroup.l0 k2 l0 (l0.length : Int) (wrap64 (x14_2 + 1)))) = some r := H
       have A8 := Aside0.mk A80
       clear A80
       by_cases c9 : t274 < 0
       ·rw [if_pos c9] at H
        have c9b0 : decide (t274 < 0) = true := decide_eq_true c9
        clear c9
        obtain rfl := Option.some.inj H
        go_wp2_with (first | ((with_reducible refine gate_callee (f := 64) rfl ?_); refine goesL_ (some 19) rfl rfl Try.func64 (by kernel_rfl) rfl #[.slice A0 l0.length c0, .int .i64 x14_2] rfl q_ml ?_; (with_reducible refine (semigroupref16_Inverse.calls k2 _ _ l0 x14_2 t274 _ ?side1 ?side2 A8.out).mono ?_); (case side1 => q_cc HR0.out); (case side2 => exact HC0.out); rintro e w' ⟨rfl, ⟨nd, rfl⟩⟩; refine ⟨_, rfl, ?_⟩))
        go_ret
        exact ⟨by first | rfl | (simp; done) | (simp [*]; done), by repeat (first | exact Drawn0.refl _ | apply Drawn0.step)⟩
       ·rw [if_neg c9] at H
        have c9b0 : decide (t274 < 0) = false := decide_eq_false c9
        clear c9
        have H' := Aside0.mk H
        clear H
        go_wp2_with (first | ((with_reducible refine gate_callee (f := 64) rfl ?_); refine goesL_ (some 19) rfl rfl Try.func64 (by kernel_rfl) rfl #[.slice A0 l0.length c0, .int .i64 x14_2] rfl q_ml ?_; (with_reducible refine (semigroupref16_Inverse.calls k2 _ _ l0 x14_2 t274 _ ?side1 ?side2 A8.out).mono ?_); (case side1 => q_cc HR0.out); (case side2 => exact HC0.out); rintro e w' ⟨rfl, ⟨nd, rfl⟩⟩; refine ⟨_, rfl, ?_⟩))
        go_roundg k2
        case measure => have := HJ1.out; have := HK2.out; omega
        case rel => exact ⟨(wrap64 (x14_2 + 1)), q_rs, H', ⟨by have := HJ1.out; have := HK2.out; omega⟩, by repeat (first | exact Drawn0.refl _ | apply Drawn0.step)⟩
      ·rw [if_neg c7] at H
       have c7b0 : decide (x14_2 < (l0.length : Int)) = false := decide_eq_false c7
       clear c7
       obtain rfl := Option.some.inj H
       go_wp2
       go_ret
       exact ⟨by first | rfl | (simp; done) | (simp [*]; done), by repeat (first | exact Drawn0.refl _ | apply Drawn0.step)⟩

/-! ### semigroupref17_Validate: function 15 -/
mutual
def semigroupref17_Validate.j0 : Nat → Bool → List (List Int) → Int → Int → List (List Int) → Bool → Option (Int)
 | 0, _, _, _, _, _, _ => none
 | k + 1, x29, x276000, x276001, x276002, x276003, x276004 => if x29 = true then (some 4) else (semigroupref17_Validate.l0 k x276003 (x276003.length : Int) 0 x276000 x276001 x276002 x276003 x276004)
def semigroupref17_Validate.l0 : Nat → List (List Int) → Int → Int → List (List Int) → Int → Int → List (List Int) → Bool → Option (Int)
 | 0, _, _, _, _, _, _, _, _ => none
 | k + 1, x31, x32, x33, x276000, x276001, x276002, x276003, x276004 => if x33 < x32 then (if 0 ≤ x33 then (if x33 < (x31.length : Int) then (if ((rd_L1 x31 x33).length : Int) = x276001 then (semigroupref17_Validate.l1 k x31 x32 x33 (rd_L1 x31 x33) ((rd_L1 x31 x33).length : Int) 0 x276000 x276001 x276002 x276003 x276004) else (some 4)) else (none)) else (none)) else (if x276004 = true then (if (x276000.length : Int) = 0 then (none) else (if x276001 > (wrap64 ((400 - 1) / (x276000.length : Int))) then (some 3) else (if x276002 = 0 then (none) else (if (wrap64 (x276001 * (x276000.length : Int))) > (wrap64 ((400 - 1) / x276002)) then (some 3) else (some 0))))) else (if (x276000.length : Int) = 0 then (none) else (if x276001 > (wrap64 ((400 : Int) / (x276000.length : Int))) then (some 3) else (if x276002 = 0 then (none) else (if (wrap64 (x276001 * (x276000.length : Int))) > (wrap64 ((400 : Int) / x276002)) then (some 3) else (some 0))))))
def semigroupref17_Validate.l1 : Nat → List (List Int) → Int → Int → List Int → Int → Int → List (List Int) → Int → Int → List (List Int) → Bool → Option (Int)
 | 0, _, _, _, _, _, _, _, _, _, _, _ => none
 | k + 1, x31, x32, x33, x42, x43, x44, x276000, x276001, x276002, x276003, x276004 => if x44 < x43 then (if 0 ≤ x44 then (if x44 < (x42.length : Int) then (if (rd x42 x44) < (-1) then (some 4) else (if (rd x42 x44) ≥ (x276000.length : Int) then (some 4) else (if (rd x42 x44) < 0 then (if x276004 = true then (semigroupref17_Validate.l1 k x31 x32 x33 x42 x43 (wrap64 (x44 + 1)) x276000 x276001 x276002 x276003 x276004) else (some 4)) else (semigroupref17_Validate.l1 k x31 x32 x33 x42 x43 (wrap64 (x44 + 1)) x276000 x276001 x276002 x276003 x276004)))) else (none)) else (none)) else (semigroupref17_Validate.l0 k x31 x32 (wrap64 (x33 + 1)) x276000 x276001 x276002 x276003 x276004)
end
def semigroupref17_Validate.f (k : Nat) (l0_0 : List (List Int)) (a0_1 : Int) (a0_2 : Int) (l0_3 : List (List Int)) (a0_4 : Bool) : Option (Int) := (semigroupref16_IsGroup.f k l0_0).bind fun t276 => (if t276 = true then (if a0_1 < 1 then (semigroupref17_Validate.j0 k true l0_0 a0_1 a0_2 l0_3 a0_4) else (if a0_2 < 1 then (semigroupref17_Validate.j0 k true l0_0 a0_1 a0_2 l0_3 a0_4) else (semigroupref17_Validate.j0 k ((l0_3.length : Int) != a0_2) l0_0 a0_1 a0_2 l0_3 a0_4))) else (semigroupref17_Validate.j0 k true l0_0 a0_1 a0_2 l0_3 a0_4))
theorem semigroupref17_Validate.mono_l : ∀ k, (∀ y0 y1 y2 y3 y4 y5, LeO (semigroupref17_Validate.j0 k y0 y1 y2 y3 y4 y5) (semigroupref17_Validate.j0 (k + 1) y0 y1 y2 y3 y4 y5)) ∧ (∀ y0 y1 y2 y3 y4 y5 y6 y7, LeO (semigroupref17_Validate.l0 k y0 y1 y2 y3 y4 y5 y6 y7) (semigroupref17_Validate.l0 (k + 1) y0 y1 y2 y3 y4 y5 y6 y7)) ∧ (∀ y0 y1 y2 y3 y4 y5 y6 y7 y8 y9 y10, LeO (semigroupref17_Validate.l1 k y0 y1 y2 y3 y4 y5 y6 y7 y8 y9 y10) (semigroupref17_Validate.l1 (k + 1) y0 y1 y2 y3 y4 y5 y6 y7 y8 y9 y10))
 | 0 => ⟨fun _ _ _ _ _ _ r h => by simp [semigroupref17_Validate.j0] at h, fun _ _ _ _ _ _ _ _ r h => by simp [semigroupref17_Validate.l0] at h, fun _ _ _ _ _ _ _ _ _ _ _ r h => by simp [semigroupref17_Validate.l1] at h⟩
 | k + 1 => by
  obtain ⟨ih0, ih1, ih2⟩ := semigroupref17_Validate.mono_l k
  refine ⟨?_, ?_, ?_⟩
  ·intro y0 y1 y2 y3 y4 y5
   unfold semigroupref17_Validate.j0
   repeat' first
   | (with_reducible exact ih0 _ _ _ _ _ _)
   | (with_reducible exact ih1 _ _ _ _ _ _ _ _)
   | (with_reducible exact ih2 _ _ _ _ _ _ _ _ _ _ _)
   | (with_reducible exact semigroupref16_IsGroup.mono _ _)
   | (with_reducible exact LeO.refl _)
   | (with_reducible exact LeO.none _)
   | (with_reducible refine LeO.ite ?_ ?_)
   | (with_reducible refine LeO.bind ?_ (fun _ => ?_))
   | exact ih0 _ _ _ _ _ _
   | exact ih1 _ _ _ _ _ _ _ _
   | exact ih2 _ _ _ _ _ _ _ _ _ _ _
   | exact semigroupref16_IsGroup.mono _ _
   | exact LeO.none _
   | refine LeO.ite ?_ ?_
   | refine LeO.bind ?_ (fun _ => ?_)
  ·intro y0 y1 y2 y3 y4 y5 y6 y7
   unfold semigroupref17_Validate.l0
   repeat' first
   | (with_reducible exact ih0 _ _ _ _ _ _)
   | (with_reducible exact ih1 _ _ _ _ _ _ _ _)
   | (with_reducible exact ih2 _ _ _ _ _ _ _ _ _ _ _)
   | (with_reducible exact semigroupref16_IsGroup.mono _ _)
   | (with_reducible exact LeO.refl _)
   | (with_reducible exact LeO.none _)
   | (with_reducible refine LeO.ite ?_ ?_)
   | (with_reducible refine LeO.bind ?_ (fun _ => ?_))
   | exact ih0 _ _ _ _ _ _
   | exact ih1 _ _ _ _ _ _ _ _
   | exact ih2 _ _ _ _ _ _ _ _ _ _ _
   | exact semigroupref16_IsGroup.mono _ _
   | exact LeO.none _
   | refine LeO.ite ?_ ?_
   | refine LeO.bind ?_ (fun _ => ?_)
  ·intro y0 y1 y2 y3 y4 y5 y6 y7 y8 y9 y10
   unfold semigroupref17_Validate.l1
   repeat' first
   | (with_reducible exact ih0 _ _ _ _ _ _)
   | (with_reducible exact ih1 _ _ _ _ _ _ _ _)
   | (with_reducible exact ih2 _ _ _ _ _ _ _ _ _ _ _)
   | (with_reducible exact semigroupref16_IsGroup.mono _ _)
   | (with_reducible exact LeO.refl _)
   | (with_reducible exact LeO.none _)
   | (with_reducible refine LeO.ite ?_ ?_)
   | (with_reducible refine LeO.bind ?_ (fun _ => ?_))
   | exact ih0 _ _ _ _ _ _
   | exact ih1 _ _ _ _ _ _ _ _
   | exact ih2 _ _ _ _ _ _ _ _ _ _ _
   | exact semigroupref16_IsGroup.mono _ _
   | exact LeO.none _
   | refine LeO.ite ?_ ?_
   | refine LeO.bind ?_ (fun _ => ?_)
theorem semigroupref17_Validate.mono : ∀ a0 a1 a2 a3 a4 k, LeO (semigroupref17_Validate.f k a0 a1 a2 a3 a4) (semigroupref17_Validate.f (k + 1) a0 a1 a2 a3 a4) := by
 intro a0 a1 a2 a3 a4 k
 obtain ⟨ih0, ih1, ih2⟩ := semigroupref17_Validate.mono_l k
 unfold semigroupref17_Validate.f
 repeat' first
   | (with_reducible exact ih0 _ _ _ _ _ _)
   | (with_reducible exact ih1 _ _ _ _ _ _ _ _)
   | (with_reducible exact ih2 _ _ _ _ _ _ _ _ _ _ _)
   | (with_reducible exact semigroupref16_IsGroup.mono _ _)
   | (with_reducible exact LeO.refl _)
   | (with_reducible exact LeO.none _)
   | (with_reducible refine LeO.ite ?_ ?_)
   | (with_reducible refine LeO.bind ?_ (fun _ => ?_))
   | exact ih0 _ _ _ _ _ _
   | exact ih1 _ _ _ _ _ _ _ _
   | exact ih2 _ _ _ _ _ _ _ _ _ _ _
   | exact semigroupref16_IsGroup.mono _ _
   | exact LeO.none _
   | refine LeO.ite ?_ ?_
   | refine LeO.bind ?_ (fun _ => ?_)
set_option maxHeartbeats 8000000 in
set_option maxRecDepth 100000 in
theorem semigroupref17_Validate.calls (k : Nat) (A0_0 : Option Addr) (c0_0 : Nat) (l0_0 : List (List Int)) (a0_1 : Int) (a0_2 : Int) (A0_3 : Option Addr) (c0_3 : Nat) (l0_3 : List (List Int)) (a0_4 : Bool) (r : Int) (w : World) (hr0_0 : Kd.C (Kd.slice 3 (Kd.int .i64)) w A0_0 l0_0.length l0_0) (hc0_0 : l0_0.length ≤ c0_0) (hr0_3 : Kd.C (Kd.slice 3 (Kd.int .i64)) w A0_3 l0_3.length l0_3) (hc0_3 : l0_3.length ≤ c0_3) (h : semigroupref17_Validate.f k l0_0 a0_1 a0_2 l0_3 a0_4 = some r) :
  Calls Try.prog 15 #[.agg #[.slice A0_0 l0_0.length c0_0, .int .i64 a0_1, .int .i64 a0_2, .slice A0_3 l0_3.length c0_3, .bool a0_4]] w fun e w' => e = .returned (.int .i64 r) ∧ Below w.heap.size w w' := by
 have hu24 := Try.underlying24
 have HR0_0 := Aside0.mk hr0_0
 have HC0_0 := Aside0.mk hc0_0
 (try clear hr0_0); (try clear hc0_0)
 have HR0_3 := Aside0.mk hr0_3
 have HC0_3 := Aside0.mk hc0_3
 (try clear hr0_3); (try clear hc0_3)
 have HB := Aside0.mk (Below.refl w.heap.size w)
 have H : ((semigroupref16_IsGroup.f k l0_0).bind fun t276 => (if t276 = true then (if a0_1 < 1 then (semigroupref17_Validate.j0 k true l0_0 a0_1 a0_2 l0_3 a0_4) else (if a0_2 < 1 then (semigroupref17_Validate.j0 k true l0_0 a0_1 a0_2 l0_3 a0_4) else (semigroupref17_Validate.j0 k ((l0_3.length : Int) != a0_2) l0_0 a0_1 a0_2 l0_3 a0_4))) else (semigroupref17_Validate.j0 k true l0_0 a0_1 a0_2 l0_3 a0_4))) = some r := h
 clear h
 have HC2 := Aside0.mk H
 clear H
 go_enter Try.func15, Try.ntmps15
 go_upto_region 1 with (first | ((with_reducible refine gate_dst (N := 1) rfl ?_); (try (refine gate_guard (by rfl) ?_; dsimp only)); refine box_event ?hg (N := 1) ?hd (cs := #[.slice A0_0 l0_0.length c0_0, .int .i64 a0_1, .int .i64 a0_2, .slice A0_3 l0_3.length c0_3, .bool a0_4]) (t := 24) ?hr ?_; (case hd => rfl); (case hg => rfl); q_hr; intro gb275 hg w3 hbox hb; have n0_ := Aside0.mk (below_step q_hb hb); have n1_ := Aside0.mk (hbox); have n2_ := Aside0.mk ((by rw [hg]; exact q_bs : w.heap.size ≤ gb275)); have n3_ := Aside0.mk ((by rw [hg]; exact q_bs : w.heap.size ≤ gb275)); clear HB; have HB := n0_; have BK275 := n1_; have GW275 := n2_; have GE275 := n3_; clear n0_ n1_ n2_ n3_; (q_x hb hbox); (try clear hg)))
 repeat (go_quiet (first | ((with_reducible refine gate_dst (N := 1) rfl ?_); (try (refine gate_guard (by rfl) ?_; dsimp only)); refine box_event ?hg (N := 1) ?hd (cs := #[.slice A0_0 l0_0.length c0_0, .int .i64 a0_1, .int .i64 a0_2, .slice A0_3 l0_3.length c0_3, .bool a0_4]) (t := 24) ?hr ?_; (case hd => rfl); (case hg => rfl); q_hr; intro gb275 hg w3 hbox hb; have n0_ := Aside0.mk (below_step q_hb hb); have n1_ := Aside0.mk (hbox); have n2_ := Aside0.mk ((by rw [hg]; exact q_bs : w.heap.size ≤ gb275)); have n3_ := Aside0.mk ((by rw [hg]; exact q_bs : w.heap.size ≤ gb275)); clear HB; have HB := n0_; have BK275 := n1_; have GW275 := n2_; have GE275 := n3_; clear n0_ n1_ n2_ n3_; (q_x hb hbox); (try clear hg))); go_upto_region 1 with (first | ((with_reducible refine gate_dst (N := 1) rfl ?_); (try (refine gate_guard (by rfl) ?_; dsimp only)); refine box_event ?hg (N := 1) ?hd (cs := #[.slice A0_0 l0_0.length c0_0, .int .i64 a0_1, .int .i64 a0_2, .slice A0_3 l0_3.length c0_3, .bool a0_4]) (t := 24) ?hr ?_; (case hd => rfl); (case hg => rfl); q_hr; intro gb275 hg w3 hbox hb; have n0_ := Aside0.mk (below_step q_hb hb); have n1_ := Aside0.mk (hbox); have n2_ := Aside0.mk ((by rw [hg]; exact q_bs : w.heap.size ≤ gb275)); have n3_ := Aside0.mk ((by rw [hg]; exact q_bs : w.heap.size ≤ gb275)); clear HB; have HB := n0_; have BK275 := n1_; have GW275 := n2_; have GE275 := n3_; clear n0_ n1_ n2_ n3_; (q_x hb hbox); (try clear hg))))
 (try simp only [Act.put, List.setIfInBounds_toArray, List.set_cons_zero, List.set_cons_succ])
 go_cut [29] (fun v29 wc => ∃ (kq : Nat) (x29_1 : Bool), v29 = .bool x29_1 ∧ Aside0 (semigroupref17_Validate.j0 kq x29_1 l0_0 a0_1 a0_2 l0_3 a0_4 = some r) ∧ Aside0 (kq ≤ k) ∧ Aside0 (wc.heap[gb275]? = some (.cells #[(.slice A0_0 l0_0.length c0_0), .int .i64 a0_1, .int .i64 a0_2, (.slice A0_3 l0_3.length c0_3), .bool a0_4] 24 (0, 0))) ∧ Aside0 (Below w.heap.size w wc))
 case first =>
  have H := HC2.out
  clear HC2
  replace H := Option.bind_eq_some_iff.mp H
  obtain ⟨t276, A40, H⟩ := H
  replace H : (if t276 = true then (if a0_1 < 1 then (semigroupref17_Validate.j0 k true l0_0 a0_1 a0_2 l0_3 a0_4) else (if a0_2 < 1 then (semigroupref17_Validate.j0 k true l0_0 a0_1 a0_2 l0_3 a0_4) else (semigroupref17_Validate.j0 k ((l0_3.length : Int) != a0_2) l0_0 a0_1 a0_2 l0_3 a0_4))) else (semigroupref17_Validate.j0 k true l0_0 a0_1 a0_2 l0_3 a0_4)) = some r := H
  have A4 := Aside0.mk A40
  clear A40
  by_cases c5 : t276 = true
  ·subst c5
   have H1 : (if a0_1 < 1 then (semigroupref17_Validate.j0 k true l0_0 a0_1 a0_2 l0_3 a0_4) else (if a0_2 < 1 then (semigroupref17_Validate.j0 k true l0_0 a0_1 a0_2 l0_3 a0_4) else (semigroupref17_Validate.j0 k ((l0_3.length : Int) != a0_2) l0_0 a0_1 a0_2 l0_3 a0_4))) = some r := by rw [if_pos rfl] at H; exact H
   clear H
   have H := H1
   clear H1
   by_cases c6 : a0_1 < 1
   ·rw [if_pos c6] at H
    have c6b0 : decide (a0_1 < 1) = true := decide_eq_true c6
    clear c6
    (first | rw [c6b0] | (simp only [i64_w, i32_w]; rw [c6b0]) | skip)
    have H' := Aside0.mk H
    clear H
    have hcz7_0 : w3.cell? ⟨gb275, 0, none⟩ = some (.slice A0_0 l0_0.length c0_0) := (blk_cell BK275.out 0).trans rfl
    have hcz7_1 : w3.cell? ⟨gb275, 1, none⟩ = some (.int .i64 a0_1) := (blk_cell BK275.out 1).trans rfl
    have hcz7_2 : w3.cell? ⟨gb275, 2, none⟩ = some (.int .i64 a0_2) := (blk_cell BK275.out 2).trans rfl
    have hcz7_3 : w3.cell? ⟨gb275, 3, none⟩ = some (.slice A0_3 l0_3.length c0_3) := (blk_cell BK275.out 3).trans rfl
    have hcz7_4 : w3.cell? ⟨gb275, 4, none⟩ = some (.bool a0_4) := (blk_cell BK275.out 4).trans rfl
    have hfz7_0 := blk_frozen BK275.out 0
    have hfz7_1 := blk_frozen BK275.out 1
    have hfz7_2 := blk_frozen BK275.out 2
    have hfz7_3 := blk_frozen BK275.out 3
    have hfz7_4 := blk_frozen BK275.out 4
    go_wp2_with (first | (go_at_call 45; (with_reducible refine (semigroupref16_IsGroup.calls k _ _ l0_0 true _ ?side1 ?side2 A4.out).mono ?_); (case side1 => q_cc (Kd.C_below HR0_0.out HB.out)); (case side2 => exact HC0_0.out); rintro e w' ⟨rfl, ⟨nd, rfl⟩⟩; (try first | exact ⟨rfl, _, World.drewN_drewN _ _ _⟩ | exact ⟨rfl, _, Eq.trans (World.drewN_drewN _ _ _) (congrArg (World.drewN _) (Nat.add_assoc _ _ _))⟩)))
    repeat (go_quiet (first | (go_at_call 45; (with_reducible refine (semigroupref16_IsGroup.calls k _ _ l0_0 true _ ?side1 ?side2 A4.out).mono ?_); (case side1 => q_cc (Kd.C_below HR0_0.out HB.out)); (case side2 => exact HC0_0.out); rintro e w' ⟨rfl, ⟨nd, rfl⟩⟩; (try first | exact ⟨rfl, _, World.drewN_drewN _ _ _⟩ | exact ⟨rfl, _, Eq.trans (World.drewN_drewN _ _ _) (congrArg (World.drewN _) (Nat.add_assoc _ _ _))⟩))); try go_wp2_with (first | (go_at_call 45; (with_reducible refine (semigroupref16_IsGroup.calls k _ _ l0_0 true _ ?side1 ?side2 A4.out).mono ?_); (case side1 => q_cc (Kd.C_below HR0_0.out HB.out)); (case side2 => exact HC0_0.out); rintro e w' ⟨rfl, ⟨nd, rfl⟩⟩; (try first | exact ⟨rfl, _, World.drewN_drewN _ _ _⟩ | exact ⟨rfl, _, Eq.trans (World.drewN_drewN _ _ _) (congrArg (World.drewN _) (Nat.add_assoc _ _ _))⟩))))
    go_meet
    case rel => exact ⟨_, (true), q_rs, H', ⟨by first | omega | exact Nat.le_refl _⟩, ⟨by q_bk; exact BK275.out⟩, ⟨by repeat (first | (with_reducible first | exact HB.out | apply below_alloc | apply pw_below_drewN | apply below_drew1 | refine below_set ?_ GE275.out) | exact HB.out)⟩⟩
   ·rw [if_neg c6] at H
    have c6b0 : decide (a0_1 < 1) = false := decide_eq_false c6
    clear c6
    (first | rw [c6b0] | (simp only [i64_w, i32_w]; rw [c6b0]) | skip)
    by_cases c8 : a0_2 < 1
    ·rw [if_pos c8] at H
     have c8b0 : decide (a0_2 < 1) = true := decide_eq_true c8
     clear c8
     have H' := Aside0.mk H
     clear H
     have hcz9_0 : w3.cell? ⟨gb275, 0, none⟩ = some (.slice A0_0 l0_0.length c0_0) := (blk_cell BK275.out 0).trans rfl
     have hcz9_1 : w3.cell? ⟨gb275, 1, none⟩ = some (.int .i64 a0_1) := (blk_cell BK275.out 1).trans rfl
     have hcz9_2 : w3.cell? ⟨gb275, 2, none⟩ = some (.int .i64 a0_2) := (blk_cell BK275.out 2).trans rfl
     have hcz9_3 : w3.cell? ⟨gb275, 3, none⟩ = some (.slice A0_3 l0_3.length c0_3) := (blk_cell BK275.out 3).trans rfl
     have hcz9_4 : w3.cell? ⟨gb275, 4, none⟩ = some (.bool a0_4) := (blk_cell BK275.out 4).trans rfl
     have hfz9_0 := blk_frozen BK275.out 0
     have hfz9_1 := blk_frozen BK275.out 1
     have hfz9_2 := blk_frozen BK275.out 2
     have hfz9_3 := blk_frozen BK275.out 3
     have hfz9_4 := blk_frozen BK275.out 4
     go_wp2_with (first | (go_at_call 45; (with_reducible refine (semigroupref16_IsGroup.calls k _ _ l0_0 true _ ?side1 ?side2 A4.out).mono ?_); (case side1 => q_cc (Kd.C_below HR0_0.out HB.out)); (case side2 => exact HC0_0.out); rintro e w' ⟨rfl, ⟨nd, rfl⟩⟩; (try first | exact ⟨rfl, _, World.drewN_drewN _ _ _⟩ | exact ⟨rfl, _, Eq.trans (World.drewN_drewN _ _ _) (congrArg (World.drewN _) (Nat.add_assoc _ _ _))⟩)))
     repeat (go_quiet (first | (go_at_call 45; (with_reducible refine (semigroupref16_IsGroup.calls k _ _ l0_0 true _ ?side1 ?side2 A4.out).mono ?_); (case side1 => q_cc (Kd.C_below HR0_0.out HB.out)); (case side2 => exact HC0_0.out); rintro e w' ⟨rfl, ⟨nd, rfl⟩⟩; (try first | exact ⟨rfl, _, World.drewN_drewN _ _ _⟩ | exact ⟨rfl, _, Eq.trans (World.drewN_drewN _ _ _) (congrArg (World.drewN _) (Nat.add_assoc _ _ _))⟩))); try go_wp2_with (first | (go_at_call 45; (with_reducible refine (semigroupref16_IsGroup.calls k _ _ l0_0 true _ ?side1 ?side2 A4.out).mono ?_); (case side1 => q_cc (Kd.C_below HR0_0.out HB.out)); (case side2 => exact HC0_0.out); rintro e w' ⟨rfl, ⟨nd, rfl⟩⟩; (try first | exact ⟨rfl, _, World.drewN_drewN _ _ _⟩ | exact ⟨rfl, _, Eq.trans (World.drewN_drewN _ _ _) (congrArg (World.drewN _) (Nat.add_assoc _ _ _))⟩))))
     go_meet
     case rel => exact ⟨_, (true), q_rs, H', ⟨by first | omega | exact Nat.le_refl _⟩, ⟨by q_bk; exact BK275.out⟩, ⟨by repeat (first | (with_reducible first | exact HB.out | apply below_alloc | apply pw_below_drewN | apply below_drew1 | refine below_set ?_ GE275.out) | exact HB.out)⟩⟩
    ·rw [if_neg c8] at H
     have c8b0 : decide (a0_2 < 1) = false := decide_eq_false c8
     clear c8
     have H' := Aside0.mk H
     clear H
     have hcz10_0 : w3.cell? ⟨gb275, 0, none⟩ = some (.slice A0_0 l0_0.length c0_0) := (blk_cell BK275.out 0).trans rfl
     have hcz10_1 : w3.cell? ⟨gb275, 1, none⟩ = some (.int .i64 a0_1) := (blk_cell BK275.out 1).trans rfl
     have hcz10_2 : w3.cell? ⟨gb275, 2, none⟩ = some (.int .i64 a0_2) := (blk_cell BK275.out 2).trans rfl
     have hcz10_3 : w3.cell? ⟨gb275, 3, none⟩ = some (.slice A0_3 l0_3.length c0_3) := (blk_cell BK275.out 3).trans rfl
     have hcz10_4 : w3.cell? ⟨gb275, 4, none⟩ = some (.bool a0_4) := (blk_cell BK275.out 4).trans rfl
     have hfz10_0 := blk_frozen BK275.out 0
     have hfz10_1 := blk_frozen BK275.out 1
     have hfz10_2 := blk_frozen BK275.out 2
     have hfz10_3 := blk_frozen BK275.out 3
     have hfz10_4 := blk_frozen BK275.out 4
     go_wp2_with (first | (go_at_call 45; (with_reducible refine (semigroupref16_IsGroup.calls k _ _ l0_0 true _ ?side1 ?side2 A4.out).mono ?_); (case side1 => q_cc (Kd.C_below HR0_0.out HB.out)); (case side2 => exact HC0_0.out); rintro e w' ⟨rfl, ⟨nd, rfl⟩⟩; (try first | exact ⟨rfl, _, World.drewN_drewN _ _ _⟩ | exact ⟨rfl, _, Eq.trans (World.drewN_drewN _ _ _) (congrArg (World.drewN _) (Nat.add_assoc _ _ _))⟩)))
     repeat (go_quiet (first | (go_at_call 45; (with_reducible refine (semigroupref16_IsGroup.calls k _ _ l0_0 true _ ?side1 ?side2 A4.out).mono ?_); (case side1 => q_cc (Kd.C_below HR0_0.out HB.out)); (case side2 => exact HC0_0.out); rintro e w' ⟨rfl, ⟨nd, rfl⟩⟩; (try first | exact ⟨rfl, _, World.drewN_drewN _ _ _⟩ | exact ⟨rfl, _, Eq.trans (World.drewN_drewN _ _ _) (congrArg (World.drewN _) (Nat.add_assoc _ _ _))⟩))); try go_wp2_with (first | (go_at_call 45; (with_reducible refine (semigroupref16_IsGroup.calls k _ _ l0_0 true _ ?side1 ?side2 A4.out).mono ?_); (case side1 => q_cc (Kd.C_below HR0_0.out HB.out)); (case side2 => exact HC0_0.out); rintro e w' ⟨rfl, ⟨nd, rfl⟩⟩; (try first | exact ⟨rfl, _, World.drewN_drewN _ _ _⟩ | exact ⟨rfl, _, Eq.trans (World.drewN_drewN _ _ _) (congrArg (World.drewN _) (Nat.add_assoc _ _ _))⟩))))
     go_meet
     case rel => exact ⟨_, (((l0_3.length : Int) != a0_2)), q_rs, H', ⟨by first | omega | exact Nat.le_refl _⟩, ⟨by q_bk; exact BK275.out⟩, ⟨by repeat (first | (with_reducible first | exact HB.out | apply below_alloc | apply pw_below_drewN | apply below_drew1 | refine below_set ?_ GE275.out) | exact HB.out)⟩⟩
  ·replace c5 := Bool.eq_false_iff.mpr c5
   subst c5
   have H1 : (semigroupref17_Validate.j0 k true l0_0 a0_1 a0_2 l0_3 a0_4) = some r := by rw [if_neg (show ¬ (false = true) by decide)] at H; exact H
   clear H
   have H := H1
   clear H1
   have H' := Aside0.mk H
   clear H
   have hcz11_0 : w3.cell? ⟨gb275, 0, none⟩ = some (.slice A0_0 l0_0.length c0_0) := (blk_cell BK275.out 0).trans rfl
   have hcz11_1 : w3.cell? ⟨gb275, 1, none⟩ = some (.int .i64 a0_1) := (blk_cell BK275.out 1).trans rfl
   have hcz11_2 : w3.cell? ⟨gb275, 2, none⟩ = some (.int .i64 a0_2) := (blk_cell BK275.out 2).trans rfl
   have hcz11_3 : w3.cell? ⟨gb275, 3, none⟩ = some (.slice A0_3 l0_3.length c0_3) := (blk_cell BK275.out 3).trans rfl
   have hcz11_4 : w3.cell? ⟨gb275, 4, none⟩ = some (.bool a0_4) := (blk_cell BK275.out 4).trans rfl
   have hfz11_0 := blk_frozen BK275.out 0
   have hfz11_1 := blk_frozen BK275.out 1
   have hfz11_2 := blk_frozen BK275.out 2
   have hfz11_3 := blk_frozen BK275.out 3
   have hfz11_4 := blk_frozen BK275.out 4
   go_wp2_with (first | (go_at_call 45; (with_reducible refine (semigroupref16_IsGroup.calls k _ _ l0_0 false _ ?side1 ?side2 A4.out).mono ?_); (case side1 => q_cc (Kd.C_below HR0_0.out HB.out)); (case side2 => exact HC0_0.out); rintro e w' ⟨rfl, ⟨nd, rfl⟩⟩; (try first | exact ⟨rfl, _, World.drewN_drewN _ _ _⟩ | exact ⟨rfl, _, Eq.trans (World.drewN_drewN _ _ _) (congrArg (World.drewN _) (Nat.add_assoc _ _ _))⟩)))
   repeat (go_quiet (first | (go_at_call 45; (with_reducible refine (semigroupref16_IsGroup.calls k _ _ l0_0 false _ ?side1 ?side2 A4.out).mono ?_); (case side1 => q_cc (Kd.C_below HR0_0.out HB.out)); (case side2 => exact HC0_0.out); rintro e w' ⟨rfl, ⟨nd, rfl⟩⟩; (try first | exact ⟨rfl, _, World.drewN_drewN _ _ _⟩ | exact ⟨rfl, _, Eq.trans (World.drewN_drewN _ _ _) (congrArg (World.drewN _) (Nat.add_assoc _ _ _))⟩))); try go_wp2_with (first | (go_at_call 45; (with_reducible refine (semigroupref16_IsGroup.calls k _ _ l0_0 false _ ?side1 ?side2 A4.out).mono ?_); (case side1 => q_cc (Kd.C_below HR0_0.out HB.out)); (case side2 => exact HC0_0.out); rintro e w' ⟨rfl, ⟨nd, rfl⟩⟩; (try first | exact ⟨rfl, _, World.drewN_drewN _ _ _⟩ | exact ⟨rfl, _, Eq.trans (World.drewN_drewN _ _ _) (congrArg (World.drewN _) (Nat.add_assoc _ _ _))⟩))))
   go_meet
   case rel => exact ⟨_, (true), q_rs, H', ⟨by first | omega | exact Nat.le_refl _⟩, ⟨by q_bk; exact BK275.out⟩, ⟨by repeat (first | (with_reducible first | exact HB.out | apply below_alloc | apply pw_below_drewN | apply below_drew1 | refine below_set ?_ GE275.out) | exact HB.out)⟩⟩
 case rest =>
  clear HC2
  q_x c1 p2 c5 c6 c6b0 c8 c8b0 hcz10_0 hcz10_1 hcz10_2 hcz10_3 hcz10_4 hcz11_0 hcz11_1 hcz11_2 hcz11_3 hcz11_4 hcz7_0 hcz7_1 hcz7_2 hcz7_3 hcz7_4 hcz9_0 hcz9_1 hcz9_2 hcz9_3 hcz9_4 hfz10_0 hfz10_1 hfz10_2 hfz10_3 hfz10_4 hfz11_0 hfz11_1 hfz11_2 hfz11_3 hfz11_4 hfz7_0 hfz7_1 hfz7_2 hfz7_3 hfz7_4 hfz9_0 hfz9_1 hfz9_2 hfz9_3 hfz9_4
  obtain ⟨kq, x29_1, rfl, HA, HJ1, BK275, HB⟩ := hcut
  cases kq with
  | zero => exact absurd HA.out (by simp [semigroupref17_Validate.j0])
  | succ kj1 =>
   have H := HA.out
   clear HA
   simp only [semigroupref17_Validate.j0] at H
   by_cases c12 : x29_1 = true
   ·subst c12
    have H1 : (some 4) = some r := by rw [if_pos rfl] at H; exact H
    clear H
    have H := H1
    clear H1
    obtain rfl := Option.some.inj H
    go_wp2
    repeat (go_quiet (fail); try go_wp2)
    go_ret
    exact ⟨by first | rfl | q_em | q_en, by repeat (first | (with_reducible first | exact HB.out | apply below_alloc | apply pw_below_drewN | apply below_drew1 | refine below_set ?_ GE275.out) | exact HB.out)⟩
   ·replace c12 := Bool.eq_false_iff.mpr c12
    subst c12
    have H1 : (semigroupref17_Validate.l0 kj1 l0_3 (l0_3.length : Int) 0 l0_0 a0_1 a0_2 l0_3 a0_4) = some r := by rw [if_neg (show ¬ (false = true) by decide)] at H; exact H
    clear H
    have H := H1
    clear H1
    have H' := Aside0.mk H
    clear H
    have hcz13_0 : wc.cell? ⟨gb275, 0, none⟩ = some (.slice A0_0 l0_0.length c0_0) := (blk_cell BK275.out 0).trans rfl
    have hcz13_1 : wc.cell? ⟨gb275, 1, none⟩ = some (.int .i64 a0_1) := (blk_cell BK275.out 1).trans rfl
    have hcz13_2 : wc.cell? ⟨gb275, 2, none⟩ = some (.int .i64 a0_2) := (blk_cell BK275.out 2).trans rfl
    have hcz13_3 : wc.cell? ⟨gb275, 3, none⟩ = some (.slice A0_3 l0_3.length c0_3) := (blk_cell BK275.out 3).trans rfl
    have hcz13_4 : wc.cell? ⟨gb275, 4, none⟩ = some (.bool a0_4) := (blk_cell BK275.out 4).trans rfl
    have hfz13_0 := blk_frozen BK275.out 0
    have hfz13_1 := blk_frozen BK275.out 1
    have hfz13_2 := blk_frozen BK275.out 2
    have hfz13_3 := blk_frozen BK275.out 3
    have hfz13_4 := blk_frozen BK275.out 4
    go_wp2
    repeat (go_quiet (fail); try go_wp2)
    go_loopg [33] kj1 (fun kq v33 w' => ∃ (x33_2 : Int), v33 = .int .i64 x33_2 ∧ Aside0 (semigroupref17_Validate.l0 kq l0_3 (l0_3.length : Int) x33_2 l0_0 a0_1 a0_2 l0_3 a0_4 = some r) ∧ Aside0 (kq ≤ kj1) ∧ Aside0 (w'.heap[gb275]? = some (.cells #[(.slice A0_0 l0_0.length c0_0), .int .i64 a0_1, .int .i64 a0_2, (.slice A0_3 l0_3.length c0_3), .bool a0_4] 24 (0, 0))) ∧ Aside0 (Below w.heap.size w w'))
    case atStart => exact ⟨(0), q_rs, H', ⟨Nat.le_refl _⟩, ⟨by q_bk; exact BK275.out⟩, ⟨by repeat (first | (with_reducible first | exact HB.out | apply below_alloc | apply pw_below_drewN | apply below_drew1 | refine below_set ?_ GE275.out) | exact HB.out)⟩⟩
    case round =>
     clear H'
     q_x c1 p2 c5 c6 c6b0 c8 c8b0 c12 hcz10_0 hcz10_1 hcz10_2 hcz10_3 hcz10_4 hcz11_0 hcz11_1 hcz11_2 hcz11_3 hcz11_4 hcz13_0 hcz13_1 hcz13_2 hcz13_3 hcz13_4 hcz7_0 hcz7_1 hcz7_2 hcz7_3 hcz7_4 hcz9_0 hcz9_1 hcz9_2 hcz9_3 hcz9_4 hfz10_0 hfz10_1 hfz10_2 hfz10_3 hfz10_4 hfz11_0 hfz11_1 hfz11_2 hfz11_3 hfz11_4 hfz13_0 hfz13_1 hfz13_2 hfz13_3 hfz13_4 hfz7_0 hfz7_1 hfz7_2 hfz7_3 hfz7_4 hfz9_0 hfz9_1 hfz9_2 hfz9_3 hfz9_4 p2
     obtain ⟨x33_2, rfl, HA, HK2, BK275, HB⟩ := hrel
     cases gk with
     | zero => exact absurd HA.out (by simp [semigroupref17_Validate.l0])
     | succ k2 =>
      have H := HA.out
      clear HA
      simp only [semigroupref17_Validate.l0] at H
      by_cases c14 : x33_2 < (l0_3.length : Int)
      ·rw [if_pos c14] at H
       have c14b0 : decide (x33_2 < (l0_3.length : Int)) = true := decide_eq_true c14
       clear c14
       by_cases c15 : 0 ≤ x33_2
       ·rw [if_pos c15] at H
        have c15b0 : decide (0 ≤ x33_2) = true := decide_eq_true c15
        clear c15
        by_cases c16 : x33_2 < (l0_3.length : Int)
        ·rw [if_pos c16] at H
         have c16b0 : decide (x33_2 < (l0_3.length : Int)) = true := decide_eq_true c16
         clear c16
         by_cases c17 : ((rd_L1 l0_3 x33_2).length : Int) = a0_1
         ·rw [if_pos c17] at H
          have c17b0 : (((rd_L1 l0_3 x33_2).length : Int) == a0_1) = true := beq_iff_eq.mpr c17
          have c17b1 : (((rd_L1 l0_3 x33_2).length : Int) != a0_1) = false := bne_eq_false_iff_eq.mpr c17
          clear c17
          have H' := Aside0.mk H
          clear H
          have p277 : 0 ≤ (x33_2 : Int) := of_decide_eq_true q_as
          have q277 : x33_2 < (l0_3.length : Int) := of_decide_eq_true q_as
          obtain ⟨ad277, A277_0, c277_0, e277, hx277_0, hl277_0, hi277_0⟩ := at_L1 HR0_3.out x33_2 p277 q277
          cases e277
          replace hx277_0 := (HB.out.cell (World.block_lt_of_cell? w _ hx277_0)).trans hx277_0
          have HR277_0 := Aside0.mk hi277_0
          have HC277_0 := Aside0.mk hl277_0
          (try clear hi277_0); (try clear hl277_0)
          q_t p277 q277
          have hcz18_0 : wr.cell? ⟨gb275, 0, none⟩ = some (.slice A0_0 l0_0.length c0_0) := (blk_cell BK275.out 0).trans rfl
          have hcz18_1 : wr.cell? ⟨gb275, 1, none⟩ = some (.int .i64 a0_1) := (blk_cell BK275.out 1).trans rfl
          have hcz18_2 : wr.cell? ⟨gb275, 2, none⟩ = some (.int .i64 a0_2) := (blk_cell BK275.out 2).trans rfl
          have hcz18_3 : wr.cell? ⟨gb275, 3, none⟩ = some (.slice (some ad277) l0_3.length c0_3) := (blk_cell BK275.out 3).trans rfl
          have hcz18_4 : wr.cell? ⟨gb275, 4, none⟩ = some (.bool a0_4) := (blk_cell BK275.out 4).trans rfl
          have hfz18_0 := blk_frozen BK275.out 0
          have hfz18_1 := blk_frozen BK275.out 1
          have hfz18_2 := blk_frozen BK275.out 2
          have hfz18_3 := blk_frozen BK275.out 3
          have hfz18_4 := blk_frozen BK275.out 4
          go_wp2
          repeat (go_quiet (fail); try go_wp2)
          go_loopg [44] k2 (fun kq v44 w' => ∃ (x44_3 : Int), v44 = .int .i64 x44_3 ∧ Aside0 (semigroupref17_Validate.l1 kq l0_3 (l0_3.length : Int) x33_2 (rd_L1 l0_3 x33_2) ((rd_L1 l0_3 x33_2).length : Int) x44_3 l0_0 a0_1 a0_2 l0_3 a0_4 = some r) ∧ Aside0 (kq ≤ k2) ∧ Aside0 (w'.heap[gb275]? = some (.cells #[(.slice A0_0 l0_0.length c0_0), .int .i64 a0_1, .int .i64 a0_2, (.slice (some ad277) l0_3.length c0_3), .bool a0_4] 24 (0, 0))) ∧ Aside0 (Below w.heap.size w w'))
          case atStart => exact ⟨(0), q_rs, H', ⟨Nat.le_refl _⟩, ⟨by q_bk; exact BK275.out⟩, ⟨by repeat (first | (with_reducible first | exact HB.out | apply below_alloc | apply pw_below_drewN | apply below_drew1 | refine below_set ?_ GE275.out) | exact HB.out)⟩⟩
          case round =>
           clear H'
           q_x c1 c2 p2 q2 hx2 c5 c6 c6b0 c8 c8b0 c12 c14 c14b0 c15 c15b0 c16 c16b0 c17 c17b0 c17b1 hcz10_0 hcz10_1 hcz10_2 hcz10_3 hcz10_4 hcz11_0 hcz11_1 hcz11_2 hcz11_3 hcz11_4 hcz13_0 hcz13_1 hcz13_2 hcz13_3 hcz13_4 hcz18_0 hcz18_1 hcz18_2 hcz18_3 hcz18_4 hcz7_0 hcz7_1 hcz7_2 hcz7_3 hcz7_4 hcz9_0 hcz9_1 hcz9_2 hcz9_3 hcz9_4 hfz10_0 hfz10_1 hfz10_2 hfz10_3 hfz10_4 hfz11_0 hfz11_1 hfz11_2 hfz11_3 hfz11_4 hfz13_0 hfz13_1 hfz13_2 hfz13_3 hfz13_4 hfz18_0 hfz18_1 hfz18_2 hfz18_3 hfz18_4 hfz7_0 hfz7_1 hfz7_2 hfz7_3 hfz7_4 hfz9_0 hfz9_1 hfz9_2 hfz9_3 hfz9_4 hx277_0 p2 p277 q277
           obtain ⟨x44_3, rfl, HA, HK3, BK275, HB⟩ := hrel
           cases gk with
           | zero => exact absurd HA.out (by simp [semigroupref17_Validate.l1])
           | succ k3 =>
            have H := HA.out
            clear HA
            simp only [semigroupref17_Validate.l1] at H
            by_cases c19 : x44_3 < ((rd_L1 l0_3 x33_2).length : Int)
            ·rw [if_pos c19] at H
             have c19b0 : decide (x44_3 < ((rd_L1 l0_3 x33_2).length : Int)) = true := decide_eq_true c19
             clear c19
             by_cases c20 : 0 ≤ x44_3
             ·rw [if_pos c20] at H
              have c20b0 : decide (0 ≤ x44_3) = true := decide_eq_true c20
              clear c20
              by_cases c21 : x44_3 < ((rd_L1 l0_3 x33_2).length : Int)
              ·rw [if_pos c21] at H
               have c21b0 : decide (x44_3 < ((rd_L1 l0_3 x33_2).length : Int)) = true := decide_eq_true c21
               clear c21
               by_cases c22 : (rd (rd_L1 l0_3 x33_2) x44_3) < (-1)
               ·rw [if_pos c22] at H
                have c22b0 : decide ((rd (rd_L1 l0_3 x33_2) x44_3) < (-1)) = true := decide_eq_true c22
                clear c22
                obtain rfl := Option.some.inj H
                have p278 : 0 ≤ (x44_3 : Int) := of_decide_eq_true q_as
                have q278 : x44_3 < ((rd_L1 l0_3 x33_2).length : Int) := of_decide_eq_true q_as
                obtain ⟨ad278, e278, hx278_0⟩ := Kd.at_int HR277_0.out x44_3 p278 q278
                cases e278
                replace hx278_0 := (HB.out.cell (World.block_lt_of_cell? w _ hx278_0)).trans hx278_0
                q_t p278 q278
                go_wp2
                repeat (go_quiet (fail); try go_wp2)
                go_ret
                exact ⟨by first | rfl | q_em | q_en, by repeat (first | (with_reducible first | exact HB.out | apply below_alloc | apply pw_below_drewN | apply below_drew1 | refine below_set ?_ GE275.out) | exact HB.out)⟩
               ·rw [if_neg c22] at H
                have c22b0 : decide ((rd (rd_L1 l0_3 x33_2) x44_3) < (-1)) = false := decide_eq_false c22
                clear c22
                by_cases c23 : (rd (rd_L1 l0_3 x33_2) x44_3) ≥ (l0_0.length : Int)
                ·rw [if_pos c23] at H
                 have c23b0 : decide ((l0_0.length : Int) ≤ (rd (rd_L1 l0_3 x33_2) x44_3)) = true := decide_eq_true c23
                 clear c23
                 obtain rfl := Option.some.inj H
                 have p278 : 0 ≤ (x44_3 : Int) := of_decide_eq_true q_as
                 have q278 : x44_3 < ((rd_L1 l0_3 x33_2).length : Int) := of_decide_eq_true q_as
                 obtain ⟨ad278, e278, hx278_0⟩ := Kd.at_int HR277_0.out x44_3 p278 q278
                 cases e278
                 replace hx278_0 := (HB.out.cell (World.block_lt_of_cell? w _ hx278_0)).trans hx278_0
                 q_t p278 q278
                 have hcz24_0 : wr.cell? ⟨gb275, 0, none⟩ = some (.slice A0_0 l0_0.length c0_0) := (blk_cell BK275.out 0).trans rfl
                 have hcz24_1 : wr.cell? ⟨gb275, 1, none⟩ = some (.int .i64 a0_1) := (blk_cell BK275.out 1).trans rfl
                 have hcz24_2 : wr.cell? ⟨gb275, 2, none⟩ = some (.int .i64 a0_2) := (blk_cell BK275.out 2).trans rfl
                 have hcz24_3 : wr.cell? ⟨gb275, 3, none⟩ = some (.slice (some ad277) l0_3.length c0_3) := (blk_cell BK275.out 3).trans rfl
                 have hcz24_4 : wr.cell? ⟨gb275, 4, none⟩ = some (.bool a0_4) := (blk_cell BK275.out 4).trans rfl
                 have hfz24_0 := blk_frozen BK275.out 0
                 have hfz24_1 := blk_frozen BK275.out 1
                 have hfz24_2 := blk_frozen BK275.out 2
                 have hfz24_3 := blk_frozen BK275.out 3
                 have hfz24_4 := blk_frozen BK275.out 4
                 go_wp2
                 repeat (go_quiet (fail); try go_wp2)
                 go_ret
                 exact ⟨by first | rfl | q_em | q_en, by repeat (first | (with_reducible first | exact HB.out | apply below_alloc | apply pw_below_drewN | apply below_drew1 | refine below_set ?_ GE275.out) | exact HB.out)⟩
                ·rw [if_neg c23] at H
                 have c23b0 : decide ((l0_0.length : Int) ≤ (rd (rd_L1 l0_3 x33_2) x44_3)) = false := decide_eq_false c23
                 clear c23
                 by_cases c25 : (rd (rd_L1 l0_3 x33_2) x44_3) < 0
                 ·rw [if_pos c25] at H
                  have c25b0 : decide ((rd (rd_L1 l0_3 x33_2) x44_3) < 0) = true := decide_eq_true c25
                  clear c25
                  by_cases c26 : a0_4 = true
                  ·subst c26
                   have H1 : (semigroupref17_Validate.l1 k3 l0_3 (l0_3.length : Int) x33_2 (rd_L1 l0_3 x33_2) ((rd_L1 l0_3 x33_2).length : Int) (wrap64 (x44_3 + 1)) l0_0 a0_1 a0_2 l0_3 true) = some r := by rw [if_pos rfl] at H; exact H
                   clear H
                   have H := H1
                   clear H1
                   have H' := Aside0.mk H
                   clear H
                   have p278 : 0 ≤ (x44_3 : Int) := of_decide_eq_true q_as
                   have q278 : x44_3 < ((rd_L1 l0_3 x33_2).length : Int) := of_decide_eq_true q_as
                   obtain ⟨ad278, e278, hx278_0⟩ := Kd.at_int HR277_0.out x44_3 p278 q278
                   cases e278
                   replace hx278_0 := (HB.out.cell (World.block_lt_of_cell? w _ hx278_0)).trans hx278_0
                   q_t p278 q278
                   have hcz27_0 : wr.cell? ⟨gb275, 0, none⟩ = some (.slice A0_0 l0_0.length c0_0) := (blk_cell BK275.out 0).trans rfl
                   have hcz27_1 : wr.cell? ⟨gb275, 1, none⟩ = some (.int .i64 a0_1) := (blk_cell BK275.out 1).trans rfl
                   have hcz27_2 : wr.cell? ⟨gb275, 2, none⟩ = some (.int .i64 a0_2) := (blk_cell BK275.out 2).trans rfl
                   have hcz27_3 : wr.cell? ⟨gb275, 3, none⟩ = some (.slice (some ad277) l0_3.length c0_3) := (blk_cell BK275.out 3).trans rfl
                   have hcz27_4 : wr.cell? ⟨gb275, 4, none⟩ = some (.bool true) := (blk_cell BK275.out 4).trans rfl
                   have hfz27_0 := blk_frozen BK275.out 0
                   have hfz27_1 := blk_frozen BK275.out 1
                   have hfz27_2 := blk_frozen BK275.out 2
                   have hfz27_3 := blk_frozen BK275.out 3
                   have hfz27_4 := blk_frozen BK275.out 4
                   go_wp2
                   repeat (go_quiet (fail); try go_wp2)
                   go_roundg k3
                   case measure => have := HJ1.out; have := HK2.out; have := HK3.out; omega
                   case rel => exact ⟨(wrap64 (x44_3 + 1)), q_rs, H', ⟨by have := HJ1.out; have := HK2.out; have := HK3.out; omega⟩, ⟨by q_bk; exact BK275.out⟩, ⟨by repeat (first | (with_reducible first | exact HB.out | apply below_alloc | apply pw_below_drewN | apply below_drew1 | refine below_set ?_ GE275.out) | exact HB.out)⟩⟩
                  ·replace c26 := Bool.eq_false_iff.mpr c26
                   subst c26
                   have H1 : (some 4) = some r := by rw [if_neg (show ¬ (false = true) by decide)] at H; exact H
                   clear H
                   have H := H1
                   clear H1
                   obtain rfl := Option.some.inj H
                   have p278 : 0 ≤ (x44_3 : Int) := of_decide_eq_true q_as
                   have q278 : x44_3 < ((rd_L1 l0_3 x33_2).length : Int) := of_decide_eq_true q_as
                   obtain ⟨ad278, e278, hx278_0⟩ := Kd.at_int HR277_0.out x44_3 p278 q278
                   cases e278
                   replace hx278_0 := (HB.out.cell (World.block_lt_of_cell? w _ hx278_0)).trans hx278_0
                   q_t p278 q278
                   have hcz28_0 : wr.cell? ⟨gb275, 0, none⟩ = some (.slice A0_0 l0_0.length c0_0) := (blk_cell BK275.out 0).trans rfl
                   have hcz28_1 : wr.cell? ⟨gb275, 1, none⟩ = some (.int .i64 a0_1) := (blk_cell BK275.out 1).trans rfl
                   have hcz28_2 : wr.cell? ⟨gb275, 2, none⟩ = some (.int .i64 a0_2) := (blk_cell BK275.out 2).trans rfl
                   have hcz28_3 : wr.cell? ⟨gb275, 3, none⟩ = some (.slice (some ad277) l0_3.length c0_3) := (blk_cell BK275.out 3).trans rfl
                   have hcz28_4 : wr.cell? ⟨gb275, 4, none⟩ = some (.bool false) := (blk_cell BK275.out 4).trans rfl
                   have hfz28_0 := blk_frozen BK275.out 0
                   have hfz28_1 := blk_frozen BK275.out 1
                   have hfz28_2 := blk_frozen BK275.out 2
                   have hfz28_3 := blk_frozen BK275.out 3
                   have hfz28_4 := blk_frozen BK275.out 4
                   go_wp2
                   repeat (go_quiet (fail); try go_wp2)
                   go_ret
                   exact ⟨by first | rfl | q_em | q_en, by repeat (first | (with_reducible first | exact HB.out | apply below_alloc | apply pw_below_drewN | apply below_drew1 | refine below_set ?_ GE275.out) | exact HB.out)⟩
                 ·rw [if_neg c25] at H
                  have c25b0 : decide ((rd (rd_L1 l0_3 x33_2) x44_3) < 0) = false := decide_eq_false c25
                  clear c25
                  have H' := Aside0.mk H
                  clear H
                  have p278 : 0 ≤ (x44_3 : Int) := of_decide_eq_true q_as
                  have q278 : x44_3 < ((rd_L1 l0_3 x33_2).length : Int) := of_decide_eq_true q_as
                  obtain ⟨ad278, e278, hx278_0⟩ := Kd.at_int HR277_0.out x44_3 p278 q278
                  cases e278
                  replace hx278_0 := (HB.out.cell (World.block_lt_of_cell? w _ hx278_0)).trans hx278_0
                  q_t p278 q278
                  have hcz29_0 : wr.cell? ⟨gb275, 0, none⟩ = some (.slice A0_0 l0_0.length c0_0) := (blk_cell BK275.out 0).trans rfl
                  have hcz29_1 : wr.cell? ⟨gb275, 1, none⟩ = some (.int .i64 a0_1) := (blk_cell BK275.out 1).trans rfl
                  have hcz29_2 : wr.cell? ⟨gb275, 2, none⟩ = some (.int .i64 a0_2) := (blk_cell BK275.out 2).trans rfl
                  have hcz29_3 : wr.cell? ⟨gb275, 3, none⟩ = some (.slice (some ad277) l0_3.length c0_3) := (blk_cell BK275.out 3).trans rfl
                  have hcz29_4 : wr.cell? ⟨gb275, 4, none⟩ = some (.bool a0_4) := (blk_cell BK275.out 4).trans rfl
                  have hfz29_0 := blk_frozen BK275.out 0
                  have hfz29_1 := blk_frozen BK275.out 1
                  have hfz29_2 := blk_frozen BK275.out 2
                  have hfz29_3 := blk_frozen BK275.out 3
                  have hfz29_4 := blk_frozen BK275.out 4
                  go_wp2
                  repeat (go_quiet (fail); try go_wp2)
                  go_roundg k3
                  case measure => have := HJ1.out; have := HK2.out; have := HK3.out; omega
                  case rel => exact ⟨(wrap64 (x44_3 + 1)), q_rs, H', ⟨by have := HJ1.out; have := HK2.out; have := HK3.out; omega⟩, ⟨by q_bk; exact BK275.out⟩, ⟨by repeat (first | (with_reducible first | exact HB.out | apply below_alloc | apply pw_below_drewN | apply below_drew1 | refine below_set ?_ GE275.out) | exact HB.out)⟩⟩
              ·rw [if_neg c21] at H
               exact absurd H (by simp)
             ·rw [if_neg c20] at H
              exact absurd H (by simp)
            ·rw [if_neg c19] at H
             have c19b0 : decide (x44_3 < ((rd_L1 l0_3 x33_2).length : Int)) = false := decide_eq_false c19
             clear c19
             have H' := Aside0.mk H
             clear H
             go_wp2
             repeat (go_quiet (fail); try go_wp2)
             go_roundg k3
             case measure => have := HJ1.out; have := HK2.out; have := HK3.out; omega
             case rel => exact ⟨(wrap64 (x33_2 + 1)), q_rs, H', ⟨by have := HJ1.out; have := HK2.out; have := HK3.out; omega⟩, ⟨by q_bk; exact BK275.out⟩, ⟨by repeat (first | (with_reducible first | exact HB.out | apply below_alloc | apply pw_below_drewN | apply below_drew1 | refine below_set ?_ GE275.out) | exact HB.out)⟩⟩
         ·rw [if_neg c17] at H
          have c17b0 : (((rd_L1 l0_3 x33_2).length : Int) == a0_1) = false := beq_eq_false_iff_ne.mpr c17
          have c17b1 : (((rd_L1 l0_3 x33_2).length : Int) != a0_1) = true := bne_iff_ne.mpr c17
          obtain rfl := Option.some.inj H
          have p277 : 0 ≤ (x33_2 : Int) := of_decide_eq_true q_as
          have q277 : x33_2 < (l0_3.length : Int) := of_decide_eq_true q_as
          obtain ⟨ad277, A277_0, c277_0, e277, hx277_0, hl277_0, hi277_0⟩ := at_L1 HR0_3.out x33_2 p277 q277
          cases e277
          replace hx277_0 := (HB.out.cell (World.block_lt_of_cell? w _ hx277_0)).trans hx277_0
          have HR277_0 := Aside0.mk hi277_0
          have HC277_0 := Aside0.mk hl277_0
          (try clear hi277_0); (try clear hl277_0)
          q_t p277 q277
          have hcz30_0 : wr.cell? ⟨gb275, 0, none⟩ = some (.slice A0_0 l0_0.length c0_0) := (blk_cell BK275.out 0).trans rfl
          have hcz30_1 : wr.cell? ⟨gb275, 1, none⟩ = some (.int .i64 a0_1) := (blk_cell BK275.out 1).trans rfl
          have hcz30_2 : wr.cell? ⟨gb275, 2, none⟩ = some (.int .i64 a0_2) := (blk_cell BK275.out 2).trans rfl
          have hcz30_3 : wr.cell? ⟨gb275, 3, none⟩ = some (.slice (some ad277) l0_3.length c0_3) := (blk_cell BK275.out 3).trans rfl
          have hcz30_4 : wr.cell? ⟨gb275, 4, none⟩ = some (.bool a0_4) := (blk_cell BK275.out 4).trans rfl
          have hfz30_0 := blk_frozen BK275.out 0
          have hfz30_1 := blk_frozen BK275.out 1
          have hfz30_2 := blk_frozen BK275.out 2
          have hfz30_3 := blk_frozen BK275.out 3
          have hfz30_4 := blk_frozen BK275.out 4
          go_wp2
          repeat (go_quiet (fail); try go_wp2)
          go_ret
          exact ⟨by first | rfl | q_em | q_en, by repeat (first | (with_reducible first | exact HB.out | apply below_alloc | apply pw_below_drewN | apply below_drew1 | refine below_set ?_ GE275.out) | exact HB.out)⟩
        ·rw [if_neg c16] at H
         exact absurd H (by simp)
       ·rw [if_neg c15] at H
        exact absurd H (by simp)
      ·rw [if_neg c14] at H
       have c14b0 : decide (x33_2 < (l0_3.length : Int)) = false := decide_eq_false c14
       clear c14
       by_cases c31 : a0_4 = true
       ·subst c31
        have H1 : (if (l0_0.length : Int) = 0 then (none) else (if a0_1 > (wrap64 ((400 - 1) / (l0_0.length : Int))) then (some 3) else (if a0_2 = 0 then (none) else (if (wrap64 (a0_1 * (l0_0.length : Int))) > (wrap64 ((400 - 1) / a0_2)) then (some 3) else (some 0))))) = some r := by rw [if_pos rfl] at H; exact H
        clear H
        have H := H1
        clear H1
        by_cases c32 : (l0_0.length : Int) = 0
        ·rw [if_pos c32] at H
         exact absurd H (by simp)
        ·rw [if_neg c32] at H
         have c32b0 : ((l0_0.length : Int) == 0) = false := beq_eq_false_iff_ne.mpr c32
         have c32b1 : ((l0_0.length : Int) != 0) = true := bne_iff_ne.mpr c32
         have c32b2 : ¬ (l0_0 = []) := fun h_ => c32 (by rw [h_]; rfl)
         by_cases c33 : a0_1 > (wrap64 ((400 - 1) / (l0_0.length : Int)))
         ·rw [if_pos c33] at H
          have c33b0 : decide ((wrap64 ((400 - 1) / (l0_0.length : Int))) < a0_1) = true := decide_eq_true c33
          (try (obtain ⟨jqc33b0_0, hjqc33b0_0⟩ : ∃ j_ : Int, IntKind.i64.wrap (Int.tdiv 399 (l0_0.length : Int)) = j_ := ⟨_, rfl⟩))
          (try (have c33b0n := c33b0; simp only [show (400 - 1 : Int) = 399 from rfl, ← Int.tdiv_eq_ediv_of_nonneg (show (0 : Int) ≤ 399 by decide), ← Int.tdiv_eq_ediv_of_nonneg (show (0 : Int) ≤ 400 by decide), ← i64_w, hjqc33b0_0] at c33b0n; clear c33b0))
          clear c33
          obtain rfl := Option.some.inj H
          have hcz34_0 : wr.cell? ⟨gb275, 0, none⟩ = some (.slice A0_0 l0_0.length c0_0) := (blk_cell BK275.out 0).trans rfl
          have hcz34_1 : wr.cell? ⟨gb275, 1, none⟩ = some (.int .i64 a0_1) := (blk_cell BK275.out 1).trans rfl
          have hcz34_2 : wr.cell? ⟨gb275, 2, none⟩ = some (.int .i64 a0_2) := (blk_cell BK275.out 2).trans rfl
          have hcz34_3 : wr.cell? ⟨gb275, 3, none⟩ = some (.slice A0_3 l0_3.length c0_3) := (blk_cell BK275.out 3).trans rfl
          have hcz34_4 : wr.cell? ⟨gb275, 4, none⟩ = some (.bool true) := (blk_cell BK275.out 4).trans rfl
          have hfz34_0 := blk_frozen BK275.out 0
          have hfz34_1 := blk_frozen BK275.out 1
          have hfz34_2 := blk_frozen BK275.out 2
          have hfz34_3 := blk_frozen BK275.out 3
          have hfz34_4 := blk_frozen BK275.out 4
          go_wp2
          repeat (go_quiet (fail); try go_wp2)
          go_ret
          exact ⟨by first | rfl | q_em | q_en, by repeat (first | (with_reducible first | exact HB.out | apply below_alloc | apply pw_below_drewN | apply below_drew1 | refine below_set ?_ GE275.out) | exact HB.out)⟩
         ·rw [if_neg c33] at H
          have c33b0 : decide ((wrap64 ((400 - 1) / (l0_0.length : Int))) < a0_1) = false := decide_eq_false c33
          (try (obtain ⟨jqc33b0_0, hjqc33b0_0⟩ : ∃ j_ : Int, IntKind.i64.wrap (Int.tdiv 399 (l0_0.length : Int)) = j_ := ⟨_, rfl⟩))
          (try (have c33b0n := c33b0; simp only [show (400 - 1 : Int) = 399 from rfl, ← Int.tdiv_eq_ediv_of_nonneg (show (0 : Int) ≤ 399 by decide), ← Int.tdiv_eq_ediv_of_nonneg (show (0 : Int) ≤ 400 by decide), ← i64_w, hjqc33b0_0] at c33b0n; clear c33b0))
          clear c33
          by_cases c35 : a0_2 = 0
          ·rw [if_pos c35] at H
           exact absurd H (by simp)
          ·rw [if_neg c35] at H
           have c35b0 : (a0_2 == 0) = false := beq_eq_false_iff_ne.mpr c35
           have c35b1 : (a0_2 != 0) = true := bne_iff_ne.mpr c35
           by_cases c36 : (wrap64 (a0_1 * (l0_0.length : Int))) > (wrap64 ((400 - 1) / a0_2))
           ·rw [if_pos c36] at H
            have c36b0 : decide ((wrap64 ((400 - 1) / a0_2)) < (wrap64 (a0_1 * (l0_0.length : Int)))) = true := decide_eq_true c36
            (try (obtain ⟨jqc36b0_0, hjqc36b0_0⟩ : ∃ j_ : Int, IntKind.i64.wrap (Int.tdiv 399 a0_2) = j_ := ⟨_, rfl⟩))
            (try (obtain ⟨jqc36b0_1, hjqc36b0_1⟩ : ∃ j_ : Int, IntKind.i64.wrap (a0_1 * (l0_0.length : Int)) = j_ := ⟨_, rfl⟩))
            (try (have c36b0n := c36b0; simp only [show (400 - 1 : Int) = 399 from rfl, ← Int.tdiv_eq_ediv_of_nonneg (show (0 : Int) ≤ 399 by decide), ← Int.tdiv_eq_ediv_of_nonneg (show (0 : Int) ≤ 400 by decide), ← i64_w, hjqc36b0_0, hjqc36b0_1] at c36b0n; clear c36b0))
            clear c36
            obtain rfl := Option.some.inj H
            have hcz37_0 : wr.cell? ⟨gb275, 0, none⟩ = some (.slice A0_0 l0_0.length c0_0) := (blk_cell BK275.out 0).trans rfl
            have hcz37_1 : wr.cell? ⟨gb275, 1, none⟩ = some (.int .i64 a0_1) := (blk_cell BK275.out 1).trans rfl
            have hcz37_2 : wr.cell? ⟨gb275, 2, none⟩ = some (.int .i64 a0_2) := (blk_cell BK275.out 2).trans rfl
            have hcz37_3 : wr.cell? ⟨gb275, 3, none⟩ = some (.slice A0_3 l0_3.length c0_3) := (blk_cell BK275.out 3).trans rfl
            have hcz37_4 : wr.cell? ⟨gb275, 4, none⟩ = some (.bool true) := (blk_cell BK275.out 4).trans rfl
            have hfz37_0 := blk_frozen BK275.out 0
            have hfz37_1 := blk_frozen BK275.out 1
            have hfz37_2 := blk_frozen BK275.out 2
            have hfz37_3 := blk_frozen BK275.out 3
            have hfz37_4 := blk_frozen BK275.out 4
            go_wp2
            repeat (go_quiet (fail); try go_wp2)
            go_ret
            exact ⟨by first | rfl | q_em | q_en, by repeat (first | (with_reducible first | exact HB.out | apply below_alloc | apply pw_below_drewN | apply below_drew1 | refine below_set ?_ GE275.out) | exact HB.out)⟩
           ·rw [if_neg c36] at H
            have c36b0 : decide ((wrap64 ((400 - 1) / a0_2)) < (wrap64 (a0_1 * (l0_0.length : Int)))) = false := decide_eq_false c36
            (try (obtain ⟨jqc36b0_0, hjqc36b0_0⟩ : ∃ j_ : Int, IntKind.i64.wrap (Int.tdiv 399 a0_2) = j_ := ⟨_, rfl⟩))
            (try (obtain ⟨jqc36b0_1, hjqc36b0_1⟩ : ∃ j_ : Int, IntKind.i64.wrap (a0_1 * (l0_0.length : Int)) = j_ := ⟨_, rfl⟩))
            (try (have c36b0n := c36b0; simp only [show (400 - 1 : Int) = 399 from rfl, ← Int.tdiv_eq_ediv_of_nonneg (show (0 : Int) ≤ 399 by decide), ← Int.tdiv_eq_ediv_of_nonneg (show (0 : Int) ≤ 400 by decide), ← i64_w, hjqc36b0_0, hjqc36b0_1] at c36b0n; clear c36b0))
            clear c36
            obtain rfl := Option.some.inj H
            have hcz38_0 : wr.cell? ⟨gb275, 0, none⟩ = some (.slice A0_0 l0_0.length c0_0) := (blk_cell BK275.out 0).trans rfl
            have hcz38_1 : wr.cell? ⟨gb275, 1, none⟩ = some (.int .i64 a0_1) := (blk_cell BK275.out 1).trans rfl
            have hcz38_2 : wr.cell? ⟨gb275, 2, none⟩ = some (.int .i64 a0_2) := (blk_cell BK275.out 2).trans rfl
            have hcz38_3 : wr.cell? ⟨gb275, 3, none⟩ = some (.slice A0_3 l0_3.length c0_3) := (blk_cell BK275.out 3).trans rfl
            have hcz38_4 : wr.cell? ⟨gb275, 4, none⟩ = some (.bool true) := (blk_cell BK275.out 4).trans rfl
            have hfz38_0 := blk_frozen BK275.out 0
            have hfz38_1 := blk_frozen BK275.out 1
            have hfz38_2 := blk_frozen BK275.out 2
            have hfz38_3 := blk_frozen BK275.out 3
            have hfz38_4 := blk_frozen BK275.out 4
            go_wp2
            repeat (go_quiet (fail); try go_wp2)
            go_ret
            exact ⟨by first | rfl | q_em | q_en, by repeat (first | (with_reducible first | exact HB.out | apply below_alloc | apply pw_below_drewN | apply below_drew1 | refine below_set ?_ GE275.out) | exact HB.out)⟩
       ·replace c31 := Bool.eq_false_iff.mpr c31
        subst c31
        have H1 : (if (l0_0.length : Int) = 0 then (none) else (if a0_1 > (wrap64 ((400 : Int) / (l0_0.length : Int))) then (some 3) else (if a0_2 = 0 then (none) else (if (wrap64 (a0_1 * (l0_0.length : Int))) > (wrap64 ((400 : Int) / a0_2)) then (some 3) else (some 0))))) = some r := by rw [if_neg (show ¬ (false = true) by decide)] at H; exact H
        clear H
        have H := H1
        clear H1
        by_cases c39 : (l0_0.length : Int) = 0
        ·rw [if_pos c39] at H
         exact absurd H (by simp)
        ·rw [if_neg c39] at H
         have c39b0 : ((l0_0.length : Int) == 0) = false := beq_eq_false_iff_ne.mpr c39
         have c39b1 : ((l0_0.length : Int) != 0) = true := bne_iff_ne.mpr c39
         have c39b2 : ¬ (l0_0 = []) := fun h_ => c39 (by rw [h_]; rfl)
         by_cases c40 : a0_1 > (wrap64 ((400 : Int) / (l0_0.length : Int)))
         ·rw [if_pos c40] at H
          have c40b0 : decide ((wrap64 ((400 : Int) / (l0_0.length : Int))) < a0_1) = true := decide_eq_true c40
          (try (obtain ⟨jqc40b0_0, hjqc40b0_0⟩ : ∃ j_ : Int, IntKind.i64.wrap (Int.tdiv 400 (l0_0.length : Int)) = j_ := ⟨_, rfl⟩))
          (try (have c40b0n := c40b0; simp only [show (400 - 1 : Int) = 399 from rfl, ← Int.tdiv_eq_ediv_of_nonneg (show (0 : Int) ≤ 399 by decide), ← Int.tdiv_eq_ediv_of_nonneg (show (0 : Int) ≤ 400 by decide), ← i64_w, hjqc40b0_0] at c40b0n; clear c40b0))
          clear c40
          obtain rfl := Option.some.inj H
          have hcz41_0 : wr.cell? ⟨gb275, 0, none⟩ = some (.slice A0_0 l0_0.length c0_0) := (blk_cell BK275.out 0).trans rfl
          have hcz41_1 : wr.cell? ⟨gb275, 1, none⟩ = some (.int .i64 a0_1) := (blk_cell BK275.out 1).trans rfl
          have hcz41_2 : wr.cell? ⟨gb275, 2, none⟩ = some (.int .i64 a0_2) := (blk_cell BK275.out 2).trans rfl
          have hcz41_3 : wr.cell? ⟨gb275, 3, none⟩ = some (.slice A0_3 l0_3.length c0_3) := (blk_cell BK275.out 3).trans rfl
          have hcz41_4 : wr.cell? ⟨gb275, 4, none⟩ = some (.bool false) := (blk_cell BK275.out 4).trans rfl
          have hfz41_0 := blk_frozen BK275.out 0
          have hfz41_1 := blk_frozen BK275.out 1
          have hfz41_2 := blk_frozen BK275.out 2
          have hfz41_3 := blk_frozen BK275.out 3
          have hfz41_4 := blk_frozen BK275.out 4
          go_wp2
          repeat (go_quiet (fail); try go_wp2)
          go_ret
          exact ⟨by first | rfl | q_em | q_en, by repeat (first | (with_reducible first | exact HB.out | apply below_alloc | apply pw_below_drewN | apply below_drew1 | refine below_set ?_ GE275.out) | exact HB.out)⟩
         ·rw [if_neg c40] at H
          have c40b0 : decide ((wrap64 ((400 : Int) / (l0_0.length : Int))) < a0_1) = false := decide_eq_false c40
          (try (obtain ⟨jqc40b0_0, hjqc40b0_0⟩ : ∃ j_ : Int, IntKind.i64.wrap (Int.tdiv 400 (l0_0.length : Int)) = j_ := ⟨_, rfl⟩))
          (try (have c40b0n := c40b0; simp only [show (400 - 1 : Int) = 399 from rfl, ← Int.tdiv_eq_ediv_of_nonneg (show (0 : Int) ≤ 399 by decide), ← Int.tdiv_eq_ediv_of_nonneg (show (0 : Int) ≤ 400 by decide), ← i64_w, hjqc40b0_0] at c40b0n; clear c40b0))
          clear c40
          by_cases c42 : a0_2 = 0
          ·rw [if_pos c42] at H
           exact absurd H (by simp)
          ·rw [if_neg c42] at H
           have c42b0 : (a0_2 == 0) = false := beq_eq_false_iff_ne.mpr c42
           have c42b1 : (a0_2 != 0) = true := bne_iff_ne.mpr c42
           by_cases c43 : (wrap64 (a0_1 * (l0_0.length : Int))) > (wrap64 ((400 : Int) / a0_2))
           ·rw [if_pos c43] at H
            have c43b0 : decide ((wrap64 ((400 : Int) / a0_2)) < (wrap64 (a0_1 * (l0_0.length : Int)))) = true := decide_eq_true c43
            (try (obtain ⟨jqc43b0_0, hjqc43b0_0⟩ : ∃ j_ : Int, IntKind.i64.wrap (Int.tdiv 400 a0_2) = j_ := ⟨_, rfl⟩))
            (try (obtain ⟨jqc43b0_1, hjqc43b0_1⟩ : ∃ j_ : Int, IntKind.i64.wrap (a0_1 * (l0_0.length : Int)) = j_ := ⟨_, rfl⟩))
            (try (have c43b0n := c43b0; simp only [show (400 - 1 : Int) = 399 from rfl, ← Int.tdiv_eq_ediv_of_nonneg (show (0 : Int) ≤ 399 by decide), ← Int.tdiv_eq_ediv_of_nonneg (show (0 : Int) ≤ 400 by decide), ← i64_w, hjqc43b0_0, hjqc43b0_1] at c43b0n; clear c43b0))
            clear c43
            obtain rfl := Option.some.inj H
            have hcz44_0 : wr.cell? ⟨gb275, 0, none⟩ = some (.slice A0_0 l0_0.length c0_0) := (blk_cell BK275.out 0).trans rfl
            have hcz44_1 : wr.cell? ⟨gb275, 1, none⟩ = some (.int .i64 a0_1) := (blk_cell BK275.out 1).trans rfl
            have hcz44_2 : wr.cell? ⟨gb275, 2, none⟩ = some (.int .i64 a0_2) := (blk_cell BK275.out 2).trans rfl
            have hcz44_3 : wr.cell? ⟨gb275, 3, none⟩ = some (.slice A0_3 l0_3.length c0_3) := (blk_cell BK275.out 3).trans rfl
            have hcz44_4 : wr.cell? ⟨gb275, 4, none⟩ = some (.bool false) := (blk_cell BK275.out 4).trans rfl
            have hfz44_0 := blk_frozen BK275.out 0
            have hfz44_1 := blk_frozen BK275.out 1
            have hfz44_2 := blk_frozen BK275.out 2
            have hfz44_3 := blk_frozen BK275.out 3
            have hfz44_4 := blk_frozen BK275.out 4
            go_wp2
            repeat (go_quiet (fail); try go_wp2)
            go_ret
            exact ⟨by first | rfl | q_em | q_en, by repeat (first | (with_reducible first | exact HB.out | apply below_alloc | apply pw_below_drewN | apply below_drew1 | refine below_set ?_ GE275.out) | exact HB.out)⟩
           ·rw [if_neg c43] at H
            have c43b0 : decide ((wrap64 ((400 : Int) / a0_2)) < (wrap64 (a0_1 * (l0_0.length : Int)))) = false := decide_eq_false c43
            (try (obtain ⟨jqc43b0_0, hjqc43b0_0⟩ : ∃ j_ : Int, IntKind.i64.wrap (Int.tdiv 400 a0_2) = j_ := ⟨_, rfl⟩))
            (try (obtain ⟨jqc43b0_1, hjqc43b0_1⟩ : ∃ j_ : Int, IntKind.i64.wrap (a0_1 * (l0_0.length : Int)) = j_ := ⟨_, rfl⟩))
            (try (have c43b0n := c43b0; simp only [show (400 - 1 : Int) = 399 from rfl, ← Int.tdiv_eq_ediv_of_nonneg (show (0 : Int) ≤ 399 by decide), ← Int.tdiv_eq_ediv_of_nonneg (show (0 : Int) ≤ 400 by decide), ← i64_w, hjqc43b0_0, hjqc43b0_1] at c43b0n; clear c43b0))
            clear c43
            obtain rfl := Option.some.inj H
            have hcz45_0 : wr.cell? ⟨gb275, 0, none⟩ = some (.slice A0_0 l0_0.length c0_0) := (blk_cell BK275.out 0).trans rfl
            have hcz45_1 : wr.cell? ⟨gb275, 1, none⟩ = some (.int .i64 a0_1) := (blk_cell BK275.out 1).trans rfl
            have hcz45_2 : wr.cell? ⟨gb275, 2, none⟩ = some (.int .i64 a0_2) := (blk_cell BK275.out 2).trans rfl
            have hcz45_3 : wr.cell? ⟨gb275, 3, none⟩ = some (.slice A0_3 l0_3.length c0_3) := (blk_cell BK275.out 3).trans rfl
            have hcz45_4 : wr.cell? ⟨gb275, 4, none⟩ = some (.bool false) := (blk_cell BK275.out 4).trans rfl
            have hfz45_0 := blk_frozen BK275.out 0
            have hfz45_1 := blk_frozen BK275.out 1
            have hfz45_2 := blk_frozen BK275.out 2
            have hfz45_3 := blk_frozen BK275.out 3
            have hfz45_4 := blk_frozen BK275.out 4
            go_wp2
            repeat (go_quiet (fail); try go_wp2)
            go_ret
            exact ⟨by first | rfl | q_em | q_en, by repeat (first | (with_reducible first | exact HB.out | apply below_alloc | apply pw_below_drewN | apply below_drew1 | refine below_set ?_ GE275.out) | exact HB.out)⟩

/-! ### semigroupref17_base: function 46 -/
def semigroupref17_base.f (l0_0 : List (List Int)) (a0_1 : Int) (a0_2 : Int) (l0_3 : List (List Int)) (a0_4 : Bool) : Option (Int) := if a0_4 = true then (some 1) else (some 0)
set_option maxHeartbeats 8000000 in
set_option maxRecDepth 100000 in
theorem semigroupref17_base.calls (A0_0 : Option Addr) (c0_0 : Nat) (l0_0 : List (List Int)) (a0_1 : Int) (a0_2 : Int) (A0_3 : Option Addr) (c0_3 : Nat) (l0_3 : List (List Int)) (a0_4 : Bool) (r : Int) (w : World) (hr0_0 : Kd.C (Kd.slice 3 (Kd.int .i64)) w A0_0 l0_0.length l0_0) (hc0_0 : l0_0.length ≤ c0_0) (hr0_3 : Kd.C (Kd.slice 3 (Kd.int .i64)) w A0_3 l0_3.length l0_3) (hc0_3 : l0_3.length ≤ c0_3) (h : semigroupref17_base.f l0_0 a0_1 a0_2 l0_3 a0_4 = some r) :
  Calls Try.prog 46 #[.agg #[.slice A0_0 l0_0.length c0_0, .int .i64 a0_1, .int .i64 a0_2, .slice A0_3 l0_3.length c0_3, .bool a0_4]] w fun e w' => e = .returned (.int .i64 r) ∧ Below w.heap.size w w' := by
 have hu24 := Try.underlying24
 have HR0_0 := Aside0.mk hr0_0
 have HC0_0 := Aside0.mk hc0_0
 (try clear hr0_0); (try clear hc0_0)
 have HR0_3 := Aside0.mk hr0_3
 have HC0_3 := Aside0.mk hc0_3
 (try clear hr0_3); (try clear hc0_3)
 have HB := Aside0.mk (Below.refl w.heap.size w)
 have H : (if a0_4 = true then (some 1) else (some 0)) = some r := h
 clear h
 by_cases c2 : a0_4 = true
 ·subst c2
  have H1 : (some 1) = some r := by rw [if_pos rfl] at H; exact H
  clear H
  have H := H1
  clear H1
  obtain rfl := Option.some.inj H
  go_enter Try.func46, Try.ntmps46
  go_wp2_with (first | ((with_reducible refine gate_dst (N := 1) rfl ?_); refine box_event ?hg (N := 1) ?hd (cs := #[.slice A0_0 l0_0.length c0_0, .int .i64 a0_1, .int .i64 a0_2, .slice A0_3 l0_3.length c0_3, .bool true]) (t := 24) ?hr ?_; (case hd => rfl); (case hg => rfl); q_hr; intro gb279 hg w3 hbox hb; have n0_ := Aside0.mk (below_step q_hb hb); have n1_ := Aside0.mk (hbox); have n2_ := Aside0.mk ((by rw [hg]; exact q_bs : w.heap.size ≤ gb279)); have n3_ := Aside0.mk ((by rw [hg]; exact q_bs : w.heap.size ≤ gb279)); clear HB; have HB := n0_; have BK279 := n1_; have GW279 := n2_; have GE279 := n3_; clear n0_ n1_ n2_ n3_; (q_x hb hbox hg); have hcz4_0 : w3.cell? ⟨gb279, 0, none⟩ = some (.slice A0_0 l0_0.length c0_0) := (blk_cell BK279.out 0).trans rfl; have hcz4_1 : w3.cell? ⟨gb279, 1, none⟩ = some (.int .i64 a0_1) := (blk_cell BK279.out 1).trans rfl; have hcz4_2 : w3.cell? ⟨gb279, 2, none⟩ = some (.int .i64 a0_2) := (blk_cell BK279.out 2).trans rfl; have hcz4_3 : w3.cell? ⟨gb279, 3, none⟩ = some (.slice A0_3 l0_3.length c0_3) := (blk_cell BK279.out 3).trans rfl; have hcz4_4 : w3.cell? ⟨gb279, 4, none⟩ = some (.bool true) := (blk_cell BK279.out 4).trans rfl; have hfz4_0 := blk_frozen BK279.out 0; have hfz4_1 := blk_frozen BK279.out 1; have hfz4_2 := blk_frozen BK279.out 2; have hfz4_3 := blk_frozen BK279.out 3; have hfz4_4 := blk_frozen BK279.out 4))
  go_ret
  exact ⟨by first | rfl | q_em | q_en, by repeat (first | (with_reducible first | exact HB.out | apply below_alloc | apply pw_below_drewN | apply below_drew1 | refine below_set ?_ GE279.out) | exact HB.out)⟩
 ·replace c2 := Bool.eq_false_iff.mpr c2
  subst c2
  have H1 : (some 0) = some r := by rw [if_neg (show ¬ (false = true) by decide)] at H; exact H
  clear H
  have H := H1
  clear H1
  obtain rfl := Option.some.inj H
  go_enter Try.func46, Try.ntmps46
  go_wp2_with (first | ((with_reducible refine gate_dst (N := 1) rfl ?_); refine box_event ?hg (N := 1) ?hd (cs := #[.slice A0_0 l0_0.length c0_0, .int .i64 a0_1, .int .i64 a0_2, .slice A0_3 l0_3.length c0_3, .bool false]) (t := 24) ?hr ?_; (case hd => rfl); (case hg => rfl); q_hr; intro gb279 hg w5 hbox hb; have n0_ := Aside0.mk (below_step q_hb hb); have n1_ := Aside0.mk (hbox); have n2_ := Aside0.mk ((by rw [hg]; exact q_bs : w.heap.size ≤ gb279)); have n3_ := Aside0.mk ((by rw [hg]; exact q_bs : w.heap.size ≤ gb279)); clear HB; have HB := n0_; have BK279 := n1_; have GW279 := n2_; have GE279 := n3_; clear n0_ n1_ n2_ n3_; (q_x hb hbox hg); have hcz6_0 : w5.cell? ⟨gb279, 0, none⟩ = some (.slice A0_0 l0_0.length c0_0) := (blk_cell BK279.out 0).trans rfl; have hcz6_1 : w5.cell? ⟨gb279, 1, none⟩ = some (.int .i64 a0_1) := (blk_cell BK279.out 1).trans rfl; have hcz6_2 : w5.cell? ⟨gb279, 2, none⟩ = some (.int .i64 a0_2) := (blk_cell BK279.out 2).trans rfl; have hcz6_3 : w5.cell? ⟨gb279, 3, none⟩ = some (.slice A0_3 l0_3.length c0_3) := (blk_cell BK279.out 3).trans rfl; have hcz6_4 : w5.cell? ⟨gb279, 4, none⟩ = some (.bool false) := (blk_cell BK279.out 4).trans rfl; have hfz6_0 := blk_frozen BK279.out 0; have hfz6_1 := blk_frozen BK279.out 1; have hfz6_2 := blk_frozen BK279.out 2; have hfz6_3 := blk_frozen BK279.out 3; have hfz6_4 := blk_frozen BK279.out 4))
  go_ret
  exact ⟨by first | rfl | q_em | q_en, by repeat (first | (with_reducible first | exact HB.out | apply below_alloc | apply pw_below_drewN | apply below_drew1 | refine below_set ?_ GE279.out) | exact HB.out)⟩

/-! ### semigroupref17_Size: function 16 -/
def semigroupref17_Size.f (l0_0 : List (List Int)) (a0_1 : Int) (a0_2 : Int) (l0_3 : List (List Int)) (a0_4 : Bool) : Option (Int) := (semigroupref17_base.f l0_0 a0_1 a0_2 l0_3 a0_4).bind fun t281 => (some (wrap64 ((wrap64 ((wrap64 (a0_1 * (l0_0.length : Int))) * a0_2)) + t281)))
def semigroupref17_Size.T1 : Bool × List (List Nat × List Nat) := (true, [([], []), ([0], [0]), ([], []), ([2], [2]), ([3], [3]), ([1, 4], [1, 4]), ([], []), ([6], [6]), ([5, 7], [5, 7]), ([], []), ([9], [9]), ([8, 10], [8, 10]), ([11, 10, 0, 1, 2, 3, 4, 5, 6, 7, 8, 9, 10, 11], [11])])
def semigroupref17_Size.B1 : List Nat := [0, 1, 0, 4, 12, 31, 0, 64, 255, 0, 512, 2047, 4095]
theorem semigroupref17_Size.tab1 : rtab .any (opsOf Try.f16 1) = semigroupref17_Size.T1 := by kernel_rfl
theorem semigroupref17_Size.bits1 : waitsOk semigroupref17_Size.T1.2 semigroupref17_Size.B1 = true := by kernel_rfl
set_option maxHeartbeats 8000000 in
set_option maxRecDepth 100000 in
theorem semigroupref17_Size.calls (A0_0 : Option Addr) (c0_0 : Nat) (l0_0 : List (List Int)) (a0_1 : Int) (a0_2 : Int) (A0_3 : Option Addr) (c0_3 : Nat) (l0_3 : List (List Int)) (a0_4 : Bool) (r : Int) (w : World) (hr0_0 : Kd.C (Kd.slice 3 (Kd.int .i64)) w A0_0 l0_0.length l0_0) (hc0_0 : l0_0.length ≤ c0_0) (hr0_3 : Kd.C (Kd.slice 3 (Kd.int .i64)) w A0_3 l0_3.length l0_3) (hc0_3 : l0_3.length ≤ c0_3) (h : semigroupref17_Size.f l0_0 a0_1 a0_2 l0_3 a0_4 = some r) :
  Calls Try.prog 16 #[.agg #[.slice A0_0 l0_0.length c0_0, .int .i64 a0_1, .int .i64 a0_2, .slice A0_3 l0_3.length c0_3, .bool a0_4]] w fun e w' => e = .returned (.int .i64 r) ∧ Below w.heap.size w w' := by
 have hu24 := Try.underlying24
 have HR0_0 := Aside0.mk hr0_0
 have HC0_0 := Aside0.mk hc0_0
 (try clear hr0_0); (try clear hc0_0)
 have HR0_3 := Aside0.mk hr0_3
 have HC0_3 := Aside0.mk hc0_3
 (try clear hr0_3); (try clear hc0_3)
 have HB := Aside0.mk (Below.refl w.heap.size w)
 have H : ((semigroupref17_base.f l0_0 a0_1 a0_2 l0_3 a0_4).bind fun t281 => (some (wrap64 ((wrap64 ((wrap64 (a0_1 * (l0_0.length : Int))) * a0_2)) + t281)))) = some r := h
 clear h
 replace H := Option.bind_eq_some_iff.mp H
 obtain ⟨t281, A20, H⟩ := H
 replace H : (some (wrap64 ((wrap64 ((wrap64 (a0_1 * (l0_0.length : Int))) * a0_2)) + t281))) = some r := H
 have A2 := Aside0.mk A20
 clear A20
 obtain rfl := Option.some.inj H
 go_enter Try.func16, Try.ntmps16
 try go_wp2_with (first | ((with_reducible refine gate_dst (N := 1) rfl ?_); refine box_event ?hg (N := 1) ?hd (cs := #[.slice A0_0 l0_0.length c0_0, .int .i64 a0_1, .int .i64 a0_2, .slice A0_3 l0_3.length c0_3, .bool a0_4]) (t := 24) ?hr ?_; (case hd => rfl); (case hg => rfl); q_hr; intro gb280 hg w3 hbox hb; have n0_ := Aside0.mk (below_step q_hb hb); have n1_ := Aside0.mk (hbox); have n2_ := Aside0.mk ((by rw [hg]; exact q_bs : w.heap.size ≤ gb280)); have n3_ := Aside0.mk ((by rw [hg]; exact q_bs : w.heap.size ≤ gb280)); clear HB; have HB := n0_; have BK280 := n1_; have GW280 := n2_; have GE280 := n3_; clear n0_ n1_ n2_ n3_; (q_x hb hbox); (try clear hg)))
 have n0_ := Aside0.mk (blk_drew BK280.out)
 have n1_ := Aside0.mk (below_drew1 HB.out)
 clear HB BK280
 have BK280 := n0_
 have HB := n1_
 clear n0_ n1_
 refine start_ (n := 13) (S := fun w' => w'.cell? ⟨gb280, 0, none⟩ = some (.slice A0_0 l0_0.length c0_0) ∧ w'.cell? ⟨gb280, 1, none⟩ = some (.int .i64 a0_1) ∧ w'.cell? ⟨gb280, 2, none⟩ = some (.int .i64 a0_2) ∧ w'.cell? ⟨gb280, 3, none⟩ = some (.slice A0_3 l0_3.length c0_3) ∧ w'.cell? ⟨gb280, 4, none⟩ = some (.bool a0_4)) (ds := []) #[false, false, false, false, false, false, false, false, false, false, false, false, false] (by kernel_rfl) rfl rfl ⟨(blk_cell BK280.out 0).trans rfl, (blk_cell BK280.out 1).trans rfl, (blk_cell BK280.out 2).trans rfl, (blk_cell BK280.out 3).trans rfl, (blk_cell BK280.out 4).trans rfl⟩ (fun hHeld => ?_); refine with_tabW semigroupref17_Size.tab1 semigroupref17_Size.bits1 (fun HT_ HW_ => ?_)
 generalize w3.drew = w4 at BK280 HB hHeld ⊢
 refine pure_ (i := 0) (N := some 3) (v := ?_) (a' := ?_) #[true, false, false, false, false, false, false, false, false, false, false, false, false] rfl rfl q_ho q_id (Or.inl ⟨by rfl, ?_⟩) ?_ ?_
 rotate_left
 ·intro w'
  go_simp
  with_reducible rfl
 rotate_left
 ·q_si
  rfl
 refine pure_ (i := 2) (N := some 5) (v := ?_) (a' := ?_) #[true, false, true, false, false, false, false, false, false, false, false, false, false] rfl rfl q_ho q_id (Or.inl ⟨by rfl, ?_⟩) ?_ ?_
 rotate_left
 ·intro w'
  go_simp
  with_reducible rfl
 rotate_left
 ·q_si
  rfl
 refine pure_ (i := 6) (N := some 9) (v := ?_) (a' := ?_) #[true, false, true, false, false, false, true, false, false, false, false, false, false] rfl rfl q_ho q_id (Or.inl ⟨by rfl, ?_⟩) ?_ ?_
 rotate_left
 ·intro w'
  go_simp
  with_reducible rfl
 rotate_left
 ·q_si
  rfl
 refine take_ (i := 1) (N := some 4) (v := ?_) (a' := ?_) #[true, true, true, false, false, false, true, false, false, false, false, false, false] rfl rfl q_to q_id (Or.inl ⟨by rfl, ?_⟩) hHeld ?_ ?_
 rotate_left
 ·rintro w' ⟨s0, s1, s2, s3, s4⟩
  go_simp
  with_reducible rfl
 rotate_left
 ·q_si
  rfl
 refine take_ (i := 3) (N := some 6) (v := ?_) (a' := ?_) #[true, true, true, true, false, false, true, false, false, false, false, false, false] rfl rfl q_to q_id (Or.inl ⟨by rfl, ?_⟩) hHeld ?_ ?_
 rotate_left
 ·rintro w' ⟨s0, s1, s2, s3, s4⟩
  go_simp
  with_reducible rfl
 rotate_left
 ·q_si
  rfl
 refine pure_ (i := 4) (N := some 7) (v := ?_) (a' := ?_) #[true, true, true, true, true, false, true, false, false, false, false, false, false] rfl rfl q_ho q_id (Or.inl ⟨by rfl, ?_⟩) ?_ ?_
 rotate_left
 ·intro w'
  go_simp
  with_reducible rfl
 rotate_left
 ·q_si
  rfl
 refine pure_ (i := 5) (N := some 8) (v := ?_) (a' := ?_) #[true, true, true, true, true, true, true, false, false, false, false, false, false] rfl rfl q_ho q_id (Or.inl ⟨by rfl, ?_⟩) ?_ ?_
 rotate_left
 ·intro w'
  go_simp
  with_reducible rfl
 rotate_left
 ·q_si
  rfl
 refine take_ (i := 7) (N := some 10) (v := ?_) (a' := ?_) #[true, true, true, true, true, true, true, true, false, false, false, false, false] rfl rfl q_to q_id (Or.inl ⟨by rfl, ?_⟩) hHeld ?_ ?_
 rotate_left
 ·rintro w' ⟨s0, s1, s2, s3, s4⟩
  go_simp
  with_reducible rfl
 rotate_left
 ·q_si
  rfl
 refine pure_ (i := 8) (N := some 11) (v := ?_) (a' := ?_) #[true, true, true, true, true, true, true, true, true, false, false, false, false] rfl rfl q_ho q_id (Or.inl ⟨by rfl, ?_⟩) ?_ ?_
 rotate_left
 ·intro w'
  go_simp
  with_reducible rfl
 rotate_left
 ·q_si
  rfl
 refine take_ (i := 9) (N := some 12) (v := ?_) (a' := ?_) #[true, true, true, true, true, true, true, true, true, true, false, false, false] rfl rfl q_to q_id (Or.inl ⟨by rfl, ?_⟩) hHeld ?_ ?_
 rotate_left
 ·rintro w' ⟨s0, s1, s2, s3, s4⟩
  go_simp
  with_reducible rfl
 rotate_left
 ·q_si
  rfl
 refine one_ (i := 10) (N := some 13) #[true, true, true, true, true, true, true, true, true, true, true, false, false] rfl rfl (one_of HT_.out (by kernel_rfl)) (by decide) (fun K hK => ?_)
 refine goes_ Try.func46 (by kernel_rfl) rfl #[.agg #[.slice A0_0 l0_0.length c0_0, .int .i64 a0_1, .int .i64 a0_2, .slice A0_3 l0_3.length c0_3, .bool a0_4]] (by rfl) rfl rfl q_ml ?_
 with_reducible refine (semigroupref17_base.calls _ _ l0_0 a0_1 a0_2 _ _ l0_3 a0_4 t281 _ ?side1 ?side2 ?side3 ?side4 A2.out).mono ?_
 (case side1 => q_cc (Kd.C_below HR0_0.out HB.out))
 (case side2 => exact HC0_0.out)
 (case side3 => q_cc (Kd.C_below HR0_3.out HB.out))
 (case side4 => exact HC0_3.out)
 rintro e w5 ⟨rfl, hb⟩
 refine ⟨_, rfl, ?_⟩
 have n0_ := Aside0.mk (blk_below (g := gb280) (o := .cells #[.slice A0_0 l0_0.length c0_0, .int .i64 a0_1, .int .i64 a0_2, .slice A0_3 l0_3.length c0_3, .bool a0_4] 24 (0, 0)) (by q_bk; exact BK280.out) hb)
 have n1_ := Aside0.mk (below_step (q_hs GE280.out) hb)
 clear HB BK280
 have BK280 := n0_
 have HB := n1_
 clear n0_ n1_
 (try clear hb)
 (try clear hb2)
 (try clear hk)
 (try clear hi)
 refine hK.out _ _ ⟨(blk_cell BK280.out 0).trans rfl, (blk_cell BK280.out 1).trans rfl, (blk_cell BK280.out 2).trans rfl, (blk_cell BK280.out 3).trans rfl, (blk_cell BK280.out 4).trans rfl⟩ (fun hHeld => ?_)
 clear hK K
 refine norm_ (a' := ?_) ?_ ?_
 rotate_left
 ·show Act.put _ (some 13) _ = _
  simp only [Act.put, List.setIfInBounds_toArray, List.set_cons_zero, List.set_cons_succ, i64_w, i32_w]
  rfl
 refine pure_ (i := 11) (N := some 14) (v := ?_) (a' := ?_) #[true, true, true, true, true, true, true, true, true, true, true, true, false] rfl rfl q_ho q_id (Or.inl ⟨by rfl, ?_⟩) ?_ ?_
 rotate_left
 ·intro w'
  go_simp
  with_reducible rfl
 rotate_left
 ·q_si
  rfl
 refine pure_ (i := 12) (N := some 2) (v := ?_) (a' := ?_) #[true, true, true, true, true, true, true, true, true, true, true, true, true] rfl rfl q_ho q_id (Or.inl ⟨by rfl, ?_⟩) ?_ ?_
 rotate_left
 ·intro w'
  go_simp
  with_reducible rfl
 rotate_left
 ·q_si
  rfl
 refine done_ (done_of HT_.out (by kernel_rfl)) ?_
 try go_wp2
 go_ret
 exact ⟨by first | rfl | q_em | q_en, by repeat (first | (with_reducible first | exact HB.out | apply below_alloc | apply pw_below_drewN | apply below_drew1 | refine below_set ?_ GE280.out) | exact HB.out)⟩

/-! ### semigroupref03_Same: function 33 -/
def semigroupref03_Same.l0 : Nat → List Int → List Int → Int → Int → Option (Bool)
 | 0, _, _, _, _ => none
 | k + 1, x0, x1, x12, x13 => if x13 < x12 then (if 0 ≤ x13 then (if x13 < (x0.length : Int) then (if x13 < (x1.length : Int) then (if (rd x0 x13) = (rd x1 x13) then (semigroupref03_Same.l0 k x0 x1 x12 (wrap64 (x13 + 1))) else (some false)) else (none)) else (none)) else (none)) else (some true)
def semigroupref03_Same.f (k : Nat) (l0 : List Int) (l1 : List Int) : Option (Bool) := if (l0.length : Int) = (l1.length : Int) then (semigroupref03_Same.l0 k l0 l1 (l0.length : Int) 0) else (some false)
theorem semigroupref03_Same.mono_l : ∀ k, (∀ y0 y1 y2 y3, LeO (semigroupref03_Same.l0 k y0 y1 y2 y3) (semigroupref03_Same.l0 (k + 1) y0 y1 y2 y3))
 | 0 => fun _ _ _ _ r h => by simp [semigroupref03_Same.l0] at h
 | k + 1 => by
  have ih0 := semigroupref03_Same.mono_l k
  ·intro y0 y1 y2 y3
   unfold semigroupref03_Same.l0
   repeat' first
   | (with_reducible exact ih0 _ _ _ _)
   | (with_reducible exact LeO.refl _)
   | (with_reducible exact LeO.none _)
   | (with_reducible refine LeO.ite ?_ ?_)
   | (with_reducible refine LeO.bind ?_ (fun _ => ?_))
   | exact ih0 _ _ _ _
   | exact LeO.none _
   | refine LeO.ite ?_ ?_
   | refine LeO.bind ?_ (fun _ => ?_)
theorem semigroupref03_Same.mono : ∀ a0 a1 k, LeO (semigroupref03_Same.f k a0 a1) (semigroupref03_Same.f (k + 1) a0 a1) := by
 intro a0 a1 k
 have ih0 := semigroupref03_Same.mono_l k
 unfold semigroupref03_Same.f
 repeat' first
   | (with_reducible exact ih0 _ _ _ _)
   | (with_reducible exact LeO.refl _)
   | (with_reducible exact LeO.none _)
   | (with_reducible refine LeO.ite ?_ ?_)
   | (with_reducible refine LeO.bind ?_ (fun _ => ?_))
   | exact ih0 _ _ _ _
   | exact LeO.none _
   | refine LeO.ite ?_ ?_
   | refine LeO.bind ?_ (fun _ => ?_)
set_option maxHeartbeats 8000000 in
set_option maxRecDepth 100000 in
theorem semigroupref03_Same.calls (k : Nat) (A0 : Option Addr) (c0 : Nat) (l0 : List Int) (A1 : Option Addr) (c1 : Nat) (l1 : List Int) (r : Bool) (w : World) (hr0 : Kd.C (Kd.int .i64) w A0 l0.length l0) (hc0 : l0.length ≤ c0) (hr1 : Kd.C (Kd.int .i64) w A1 l1.length l1) (hc1 : l1.length ≤ c1) (h : semigroupref03_Same.f k l0 l1 = some r) :
  Calls Try.prog 33 #[.slice A0 l0.length c0, .slice A1 l1.length c1] w fun e w' => e = .returned (.bool r) ∧ Drawn0 w w' := by
 have HR0 := Aside0.mk hr0
 have HC0 := Aside0.mk hc0
 (try clear hr0); (try clear hc0)
 have HR1 := Aside0.mk hr1
 have HC1 := Aside0.mk hc1
 (try clear hr1); (try clear hc1)
 have H : (if (l0.length : Int) = (l1.length : Int) then (semigroupref03_Same.l0 k l0 l1 (l0.length : Int) 0) else (some false)) = some r := h
 clear h
 by_cases c3 : (l0.length : Int) = (l1.length : Int)
 ·rw [if_pos c3] at H
  have c3b0 : ((l0.length : Int) == (l1.length : Int)) = true := beq_iff_eq.mpr c3
  have c3b1 : ((l0.length : Int) != (l1.length : Int)) = false := bne_eq_false_iff_eq.mpr c3
  have c3b2 : (l0.length == l1.length) = true := by first | simpa using c3 | (simp at c3 ⊢; omega)
  clear c3
  have H' := Aside0.mk H
  clear H
  go_enter Try.func33, Try.ntmps33
  go_wp2
  repeat (go_quiet (fail); try go_wp2)
  go_loopg [13] k (fun kq v13 w' => ∃ (x13_1 : Int), v13 = .int .i64 x13_1 ∧ Aside0 (semigroupref03_Same.l0 kq l0 l1 (l0.length : Int) x13_1 = some r) ∧ Aside0 (kq ≤ k) ∧ Drawn0 w w')
  case atStart => exact ⟨(0), q_rs, H', ⟨Nat.le_refl _⟩, by repeat (first | exact Drawn0.refl _ | apply Drawn0.step)⟩
  case round =>
   clear H'
   q_x c1 p2 c3 c3b0 c3b1 c3b2
   obtain ⟨x13_1, rfl, HA, HK1, ⟨m1, rfl⟩⟩ := hrel
   cases gk with
   | zero => exact absurd HA.out (by simp [semigroupref03_Same.l0])
   | succ k1 =>
    have H := HA.out
    clear HA
    simp only [semigroupref03_Same.l0] at H
    by_cases c4 : x13_1 < (l0.length : Int)
    ·rw [if_pos c4] at H
     have c4b0 : decide (x13_1 < (l0.length : Int)) = true := decide_eq_true c4
     clear c4
     by_cases c5 : 0 ≤ x13_1
     ·rw [if_pos c5] at H
      have c5b0 : decide (0 ≤ x13_1) = true := decide_eq_true c5
      clear c5
      by_cases c6 : x13_1 < (l0.length : Int)
      ·rw [if_pos c6] at H
       have c6b0 : decide (x13_1 < (l0.length : Int)) = true := decide_eq_true c6
       clear c6
       by_cases c7 : x13_1 < (l1.length : Int)
       ·rw [if_pos c7] at H
        have c7b0 : decide (x13_1 < (l1.length : Int)) = true := decide_eq_true c7
        clear c7
        by_cases c8 : (rd l0 x13_1) = (rd l1 x13_1)
        ·rw [if_pos c8] at H
         have c8b0 : ((rd l0 x13_1) == (rd l1 x13_1)) = true := beq_iff_eq.mpr c8
         have c8b1 : ((rd l0 x13_1) != (rd l1 x13_1)) = false := bne_eq_false_iff_eq.mpr c8
         clear c8
         have H' := Aside0.mk H
         clear H
         have p282 : 0 ≤ (x13_1 : Int) := of_decide_eq_true q_as
         have q282 : x13_1 < (l0.length : Int) := of_decide_eq_true q_as
         obtain ⟨ad282, e282, hx282_0⟩ := Kd.at_int HR0.out x13_1 p282 q282
         cases e282
         q_t p282 q282
         have p283 : 0 ≤ (x13_1 : Int) := of_decide_eq_true q_as
         have q283 : x13_1 < (l1.length : Int) := of_decide_eq_true q_as
         obtain ⟨ad283, e283, hx283_0⟩ := Kd.at_int HR1.out x13_1 p283 q283
         cases e283
         q_t p283 q283
         go_wp2
         repeat (go_quiet (fail); try go_wp2)
         go_roundg k1
         case measure => have := HK1.out; omega
         case rel => exact ⟨(wrap64 (x13_1 + 1)), q_rs, H', ⟨by have := HK1.out; omega⟩, by repeat (first | exact Drawn0.refl _ | apply Drawn0.step)⟩
        ·rw [if_neg c8] at H
         have c8b0 : ((rd l0 x13_1) == (rd l1 x13_1)) = false := beq_eq_false_iff_ne.mpr c8
         have c8b1 : ((rd l0 x13_1) != (rd l1 x13_1)) = true := bne_iff_ne.mpr c8
         obtain rfl := Option.some.inj H
         have p282 : 0 ≤ (x13_1 : Int) := of_decide_eq_true q_as
         have q282 : x13_1 < (l0.length : Int) := of_decide_eq_true q_as
         obtain ⟨ad282, e282, hx282_0⟩ := Kd.at_int HR0.out x13_1 p282 q282
         cases e282
         q_t p282 q282
         have p283 : 0 ≤ (x13_1 : Int) := of_decide_eq_true q_as
         have q283 : x13_1 < (l1.length : Int) := of_decide_eq_true q_as
         obtain ⟨ad283, e283, hx283_0⟩ := Kd.at_int HR1.out x13_1 p283 q283
         cases e283
         q_t p283 q283
         go_wp2
         repeat (go_quiet (fail); try go_wp2)
         go_ret
         exact ⟨by first | rfl | (simp; done) | (simp [*]; done), by repeat (first | exact Drawn0.refl _ | apply Drawn0.step)⟩
       ·rw [if_neg c7] at H
        exact absurd H (by simp)
      ·rw [if_neg c6] at H
       exact absurd H (by simp)
     ·rw [if_neg c5] at H
      exact absurd H (by simp)
    ·rw [if_neg c4] at H
     have c4b0 : decide (x13_1 < (l0.length : Int)) = false := decide_eq_false c4
     clear c4
     obtain rfl := Option.some.inj H
     go_wp2
     repeat (go_quiet (fail); try go_wp2)
     go_ret
     exact ⟨by first | rfl | (simp; done) | (simp [*]; done), by repeat (first | exact Drawn0.refl _ | apply Drawn0.step)⟩
 ·rw [if_neg c3] at H
  have c3b0 : ((l0.length : Int) == (l1.length : Int)) = false := beq_eq_false_iff_ne.mpr c3
  have c3b1 : ((l0.length : Int) != (l1.length : Int)) = true := bne_iff_ne.mpr c3
  have c3b2 : (l0.length == l1.length) = false := by first | simpa using c3 | (simp at c3 ⊢; omega)
  obtain rfl := Option.some.inj H
  go_enter Try.func33, Try.ntmps33
  go_wp2
  repeat (go_quiet (fail); try go_wp2)
  go_ret
  exact ⟨by first | rfl | (simp; done) | (simp [*]; done), by repeat (first | exact Drawn0.refl _ | apply Drawn0.step)⟩

/-! ### semigroupref03_SameRows: function 18 -/
def semigroupref03_SameRows.l0 : Nat → List (List Int) → List (List Int) → Int → Int → Option (Bool)
 | 0, _, _, _, _ => none
 | k + 1, x0, x1, x12, x13 => if x13 < x12 then (if 0 ≤ x13 then (if x13 < (x0.length : Int) then (if x13 < (x1.length : Int) then ((semigroupref03_Same.f k (rd_L1 x0 x13) (rd_L1 x1 x13)).bind fun t286 => (if t286 = true then (semigroupref03_SameRows.l0 k x0 x1 x12 (wrap64 (x13 + 1))) else (some false))) else (none)) else (none)) else (none)) else (some true)
def semigroupref03_SameRows.f (k : Nat) (l0 : List (List Int)) (l1 : List (List Int)) : Option (Bool) := if (l0.length : Int) = (l1.length : Int) then (semigroupref03_SameRows.l0 k l0 l1 (l0.length : Int) 0) else (some false)
theorem semigroupref03_SameRows.mono_l : ∀ k, (∀ y0 y1 y2 y3, LeO (semigroupref03_SameRows.l0 k y0 y1 y2 y3) (semigroupref03_SameRows.l0 (k + 1) y0 y1 y2 y3))
 | 0 => fun _ _ _ _ r h => by simp [semigroupref03_SameRows.l0] at h
 | k + 1 => by
  have ih0 := semigroupref03_SameRows.mono_l k
  ·intro y0 y1 y2 y3
   unfold semigroupref03_SameRows.l0
   repeat' first
   | (with_reducible exact ih0 _ _ _ _)
   | (with_reducible exact semigroupref03_Same.mono _ _ _)
   | (with_reducible exact LeO.refl _)
   | (with_reducible exact LeO.none _)
   | (with_reducible refine LeO.ite ?_ ?_)
   | (with_reducible refine LeO.bind ?_ (fun _ => ?_))
   | exact ih0 _ _ _ _
   | exact semigroupref03_Same.mono _ _ _
   | exact LeO.none _
   | refine LeO.ite ?_ ?_
   | refine LeO.bind ?_ (fun _ => ?_)
theorem semigroupref03_SameRows.mono : ∀ a0 a1 k, LeO (semigroupref03_SameRows.f k a0 a1) (semigroupref03_SameRows.f (k + 1) a0 a1) := by
 intro a0 a1 k
 have ih0 := semigroupref03_SameRows.mono_l k
 unfold semigroupref03_SameRows.f
 repeat' first
   | (with_reducible exact ih0 _ _ _ _)
   | (with_reducible exact semigroupref03_Same.mono _ _ _)
   | (with_reducible exact LeO.refl _)
   | (with_reducible exact LeO.none _)
   | (with_reducible refine LeO.ite ?_ ?_)
   | (with_reducible refine LeO.bind ?_ (fun _ => ?_))
   | exact ih0 _ _ _ _
   | exact semigroupref03_Same.mono _ _ _
   | exact LeO.none _
   | refine LeO.ite ?_ ?_
   | refine LeO.bind ?_ (fun _ => ?_)
set_option maxHeartbeats 8000000 in
set_option maxRecDepth 100000 in
theorem semigroupref03_SameRows.calls (k : Nat) (A0 : Option Addr) (c0 : Nat) (l0 : List (List Int)) (A1 : Option Addr) (c1 : Nat) (l1 : List (List Int)) (r : Bool) (w : World) (hr0 : Kd.C (Kd.slice 3 (Kd.int .i64)) w A0 l0.length l0) (hc0 : l0.length ≤ c0) (hr1 : Kd.C (Kd.slice 3 (Kd.int .i64)) w A1 l1.length l1) (hc1 : l1.length ≤ c1) (h : semigroupref03_SameRows.f k l0 l1 = some r) :
  Calls Try.prog 18 #[.slice A0 l0.length c0, .slice A1 l1.length c1] w fun e w' => e = .returned (.bool r) ∧ Drawn0 w w' := by
 have HR0 := Aside0.mk hr0
 have HC0 := Aside0.mk hc0
 (try clear hr0); (try clear hc0)
 have HR1 := Aside0.mk hr1
 have HC1 := Aside0.mk hc1
 (try clear hr1); (try clear hc1)
 have H : (if (l0.length : Int) = (l1.length : Int) then (semigroupref03_SameRows.l0 k l0 l1 (l0.length : Int) 0) else (some false)) = some r := h
 clear h
 by_cases c3 : (l0.length : Int) = (l1.length : Int)
 ·rw [if_pos c3] at H
  have c3b0 : ((l0.length : Int) == (l1.length : Int)) = true := beq_iff_eq.mpr c3
  have c3b1 : ((l0.length : Int) != (l1.length : Int)) = false := bne_eq_false_iff_eq.mpr c3
  have c3b2 : (l0.length == l1.length) = true := by first | simpa using c3 | (simp at c3 ⊢; omega)
  clear c3
  have H' := Aside0.mk H
  clear H
  go_enter Try.func18, Try.ntmps18
  go_wp2
  repeat (go_quiet (fail); try go_wp2)
  go_loopg [13] k (fun kq v13 w' => ∃ (x13_1 : Int), v13 = .int .i64 x13_1 ∧ Aside0 (semigroupref03_SameRows.l0 kq l0 l1 (l0.length : Int) x13_1 = some r) ∧ Aside0 (kq ≤ k) ∧ Drawn0 w w')
  case atStart => exact ⟨(0), q_rs, H', ⟨Nat.le_refl _⟩, by repeat (first | exact Drawn0.refl _ | apply Drawn0.step)⟩
  case round =>
   clear H'
   q_x c1 p2 c3 c3b0 c3b1 c3b2
   obtain ⟨x13_1, rfl, HA, HK1, ⟨m1, rfl⟩⟩ := hrel
   cases gk with
   | zero => exact absurd HA.out (by simp [semigroupref03_SameRows.l0])
   | succ k1 =>
    have H := HA.out
    clear HA
    simp only [semigroupref03_SameRows.l0] at H
    by_cases c4 : x13_1 < (l0.length : Int)
    ·rw [if_pos c4] at H
     have c4b0 : decide (x13_1 < (l0.length : Int)) = true := decide_eq_true c4
     clear c4
     by_cases c5 : 0 ≤ x13_1
     ·rw [if_pos c5] at H
      have c5b0 : decide (0 ≤ x13_1) = true := decide_eq_true c5
      clear c5
      by_cases c6 : x13_1 < (l0.length : Int)
      ·rw [if_pos c6] at H
       have c6b0 : decide (x13_1 < (l0.length : Int)) = true := decide_eq_true c6
       clear c6
       by_cases c7 : x13_1 < (l1.length : Int)
       ·rw [if_pos c7] at H
        have c7b0 : decide (x13_1 < (l1.length : Int)) = true := decide_eq_true c7
        clear c7
        replace H := Option.bind_eq_some_iff.mp H
        obtain ⟨t286, A80, H⟩ := H
        replace H : (if t286 = true then (semigroupref03_SameRows.l0 k1 l0 l1 (l0.length : Int) (wrap64 (x13_1 + 1))) else (some false)) = some r := H
        have A8 := Aside0.mk A80
        clear A80
        by_cases c9 : t286 = true
        ·subst c9
         have H1 : (semigroupref03_SameRows.l0 k1 l0 l1 (l0.length : Int) (wrap64 (x13_1 + 1))) = some r := by rw [if_pos rfl] at H; exact H
         clear H
         have H := H1
         clear H1
         have H' := Aside0.mk H
         clear H
         have p284 : 0 ≤ (x13_1 : Int) := of_decide_eq_true q_as
         have q284 : x13_1 < (l0.length : Int) := of_decide_eq_true q_as
         obtain ⟨ad284, A284_0, c284_0, e284, hx284_0, hl284_0, hi284_0⟩ := at_L1 HR0.out x13_1 p284 q284
         cases e284
         have HR284_0 := Aside0.mk hi284_0
         have HC284_0 := Aside0.mk hl284_0
         (try clear hi284_0); (try clear hl284_0)
         q_t p284 q284
         have p285 : 0 ≤ (x13_1 : Int) := of_decide_eq_true q_as
         have q285 : x13_1 < (l1.length : Int) := of_decide_eq_true q_as
         obtain ⟨ad285, A285_0, c285_0, e285, hx285_0, hl285_0, hi285_0⟩ := at_L1 HR1.out x13_1 p285 q285
         cases e285
         have HR285_0 := Aside0.mk hi285_0
         have HC285_0 := Aside0.mk hl285_0
         (try clear hi285_0); (try clear hl285_0)
         q_t p285 q285
         go_wp2_with (first | (go_at_call 33; (with_reducible refine (semigroupref03_Same.calls k1 _ _ (rd_L1 l0 x13_1) _ _ (rd_L1 l1 x13_1) true _ ?side1 ?side2 ?side3 ?side4 A8.out).mono ?_); (case side1 => q_cc HR284_0.out); (case side2 => exact HC284_0.out); (case side3 => q_cc HR285_0.out); (case side4 => exact HC285_0.out); rintro e w' ⟨rfl, ⟨nd, rfl⟩⟩; (try first | exact ⟨rfl, _, World.drewN_drewN _ _ _⟩ | exact ⟨rfl, _, Eq.trans (World.drewN_drewN _ _ _) (congrArg (World.drewN _) (Nat.add_assoc _ _ _))⟩)))
         repeat (go_quiet (first | (go_at_call 33; (with_reducible refine (semigroupref03_Same.calls k1 _ _ (rd_L1 l0 x13_1) _ _ (rd_L1 l1 x13_1) true _ ?side1 ?side2 ?side3 ?side4 A8.out).mono ?_); (case side1 => q_cc HR284_0.out); (case side2 => exact HC284_0.out); (case side3 => q_cc HR285_0.out); (case side4 => exact HC285_0.out); rintro e w' ⟨rfl, ⟨nd, rfl⟩⟩; (try first | exact ⟨rfl, _, World.drewN_drewN _ _ _⟩ | exact ⟨rfl, _, Eq.trans (World.drewN_drewN _ _ _) (congrArg (World.drewN _) (Nat.add_assoc _ _ _))⟩))); try go_wp2_with (first | (go_at_call 33; (with_reducible refine (semigroupref03_Same.calls k1 _ _ (rd_L1 l0 x13_1) _ _ (rd_L1 l1 x13_1) true _ ?side1 ?side2 ?side3 ?side4 A8.out).mono ?_); (case side1 => q_cc HR284_0.out); (case side2 => exact HC284_0.out); (case side3 => q_cc HR285_0.out); (case side4 => exact HC285_0.out); rintro e w' ⟨rfl, ⟨nd, rfl⟩⟩; (try first | exact ⟨rfl, _, World.drewN_drewN _ _ _⟩ | exact ⟨rfl, _, Eq.trans (World.drewN_drewN _ _ _) (congrArg (World.drewN _) (Nat.add_assoc _ _ _))⟩))))
         go_roundg k1
         case measure => have := HK1.out; omega
         case rel => exact ⟨(wrap64 (x13_1 + 1)), q_rs, H', ⟨by have := HK1.out; omega⟩, by repeat (first | exact Drawn0.refl _ | apply Drawn0.step)⟩
        ·replace c9 := Bool.eq_false_iff.mpr c9
         subst c9
         have H1 : (some false) = some r := by rw [if_neg (show ¬ (false = true) by decide)] at H; exact H
         clear H
         have H := H1
         clear H1
         obtain rfl := Option.some.inj H
         have p284 : 0 ≤ (x13_1 : Int) := of_decide_eq_true q_as
         have q284 : x13_1 < (l0.length : Int) := of_decide_eq_true q_as
         obtain ⟨ad284, A284_0, c284_0, e284, hx284_0, hl284_0, hi284_0⟩ := at_L1 HR0.out x13_1 p284 q284
         cases e284
         have HR284_0 := Aside0.mk hi284_0
         have HC284_0 := Aside0.mk hl284_0
         (try clear hi284_0); (try clear hl284_0)
         q_t p284 q284
         have p285 : 0 ≤ (x13_1 : Int) := of_decide_eq_true q_as
         have q285 : x13_1 < (l1.length : Int) := of_decide_eq_true q_as
         obtain ⟨ad285, A285_0, c285_0, e285, hx285_0, hl285_0, hi285_0⟩ := at_L1 HR1.out x13_1 p285 q285
         cases e285
         have HR285_0 := Aside0.mk hi285_0
         have HC285_0 := Aside0.mk hl285_0
         (try clear hi285_0); (try clear hl285_0)
         q_t p285 q285
         go_wp2_with (first | (go_at_call 33; (with_reducible refine (semigroupref03_Same.calls k1 _ _ (rd_L1 l0 x13_1) _ _ (rd_L1 l1 x13_1) false _ ?side1 ?side2 ?side3 ?side4 A8.out).mono ?_); (case side1 => q_cc HR284_0.out); (case side2 => exact HC284_0.out); (case side3 => q_cc HR285_0.out); (case side4 => exact HC285_0.out); rintro e w' ⟨rfl, ⟨nd, rfl⟩⟩; (try first | exact ⟨rfl, _, World.drewN_drewN _ _ _⟩ | exact ⟨rfl, _, Eq.trans (World.drewN_drewN _ _ _) (congrArg (World.drewN _) (Nat.add_assoc _ _ _))⟩)))
         repeat (go_quiet (first | (go_at_call 33; (with_reducible refine (semigroupref03_Same.calls k1 _ _ (rd_L1 l0 x13_1) _ _ (rd_L1 l1 x13_1) false _ ?side1 ?side2 ?side3 ?side4 A8.out).mono ?_); (case side1 => q_cc HR284_0.out); (case side2 => exact HC284_0.out); (case side3 => q_cc HR285_0.out); (case side4 => exact HC285_0.out); rintro e w' ⟨rfl, ⟨nd, rfl⟩⟩; (try first | exact ⟨rfl, _, World.drewN_drewN _ _ _⟩ | exact ⟨rfl, _, Eq.trans (World.drewN_drewN _ _ _) (congrArg (World.drewN _) (Nat.add_assoc _ _ _))⟩))); try go_wp2_with (first | (go_at_call 33; (with_reducible refine (semigroupref03_Same.calls k1 _ _ (rd_L1 l0 x13_1) _ _ (rd_L1 l1 x13_1) false _ ?side1 ?side2 ?side3 ?side4 A8.out).mono ?_); (case side1 => q_cc HR284_0.out); (case side2 => exact HC284_0.out); (case side3 => q_cc HR285_0.out); (case side4 => exact HC285_0.out); rintro e w' ⟨rfl, ⟨nd, rfl⟩⟩; (try first | exact ⟨rfl, _, World.drewN_drewN _ _ _⟩ | exact ⟨rfl, _, Eq.trans (World.drewN_drewN _ _ _) (congrArg (World.drewN _) (Nat.add_assoc _ _ _))⟩))))
         go_ret
         exact ⟨by first | rfl | (simp; done) | (simp [*]; done), by repeat (first | exact Drawn0.refl _ | apply Drawn0.step)⟩
       ·rw [if_neg c7] at H
        exact absurd H (by simp)
      ·rw [if_neg c6] at H
       exact absurd H (by simp)
     ·rw [if_neg c5] at H
      exact absurd H (by simp)
    ·rw [if_neg c4] at H
     have c4b0 : decide (x13_1 < (l0.length : Int)) = false := decide_eq_false c4
     clear c4
     obtain rfl := Option.some.inj H
     go_wp2
     repeat (go_quiet (fail); try go_wp2)
     go_ret
     exact ⟨by first | rfl | (simp; done) | (simp [*]; done), by repeat (first | exact Drawn0.refl _ | apply Drawn0.step)⟩
 ·rw [if_neg c3] at H
  have c3b0 : ((l0.length : Int) == (l1.length : Int)) = false := beq_eq_false_iff_ne.mpr c3
  have c3b1 : ((l0.length : Int) != (l1.length : Int)) = true := bne_iff_ne.mpr c3
  have c3b2 : (l0.length == l1.length) = false := by first | simpa using c3 | (simp at c3 ⊢; omega)
  obtain rfl := Option.some.inj H
  go_enter Try.func18, Try.ntmps18
  go_wp2
  repeat (go_quiet (fail); try go_wp2)
  go_ret
  exact ⟨by first | rfl | (simp; done) | (simp [*]; done), by repeat (first | exact Drawn0.refl _ | apply Drawn0.step)⟩

/-! ### semigroupref17_Number: function 27 -/
def semigroupref17_Number.f (l0_0 : List (List Int)) (a0_1 : Int) (a0_2 : Int) (l0_3 : List (List Int)) (a0_4 : Bool) (a1 : Int) (a2 : Int) (a3 : Int) : Option (Int) := if a1 < 0 then (some (-1)) else (if a1 ≥ a0_1 then (some (-1)) else (if a2 < 0 then (some (-1)) else (if a2 ≥ (l0_0.length : Int) then (some (-1)) else (if a3 < 0 then (some (-1)) else (if a3 ≥ a0_2 then (some (-1)) else ((semigroupref17_base.f l0_0 a0_1 a0_2 l0_3 a0_4).bind fun t288 => (some (wrap64 ((wrap64 ((wrap64 ((wrap64 ((wrap64 (a1 * (l0_0.length : Int))) + a2)) * a0_2)) + a3)) + t288)))))))))
def semigroupref17_Number.T3 : Bool × List (List Nat × List Nat) := (true, [([], []), ([], []), ([1], [1]), ([2], [2]), ([0, 3], [0, 3]), ([], []), ([4, 5], [4, 5]), ([], []), ([7], [7]), ([6, 8], [6, 8]), ([], []), ([9, 10], [9, 10]), ([], []), ([12], [12]), ([11, 13], [11, 13]), ([14, 13, 0, 1, 2, 3, 4, 5, 6, 7, 8, 9, 10, 11, 12, 13, 14], [14])])
def semigroupref17_Number.B3 : List Nat := [0, 0, 2, 6, 15, 0, 63, 0, 128, 511, 0, 2047, 0, 4096, 16383, 32767]
theorem semigroupref17_Number.tab3 : rtab .any (opsOf Try.f27 3) = semigroupref17_Number.T3 := by kernel_rfl
theorem semigroupref17_Number.bits3 : waitsOk semigroupref17_Number.T3.2 semigroupref17_Number.B3 = true := by kernel_rfl
set_option maxHeartbeats 8000000 in
set_option maxRecDepth 100000 in
theorem semigroupref17_Number.calls (A0_0 : Option Addr) (c0_0 : Nat) (l0_0 : List (List Int)) (a0_1 : Int) (a0_2 : Int) (A0_3 : Option Addr) (c0_3 : Nat) (l0_3 : List (List Int)) (a0_4 : Bool) (a1 : Int) (a2 : Int) (a3 : Int) (r : Int) (w : World) (hr0_0 : Kd.C (Kd.slice 3 (Kd.int .i64)) w A0_0 l0_0.length l0_0) (hc0_0 : l0_0.length ≤ c0_0) (hr0_3 : Kd.C (Kd.slice 3 (Kd.int .i64)) w A0_3 l0_3.length l0_3) (hc0_3 : l0_3.length ≤ c0_3) (h : semigroupref17_Number.f l0_0 a0_1 a0_2 l0_3 a0_4 a1 a2 a3 = some r) :
  Calls Try.prog 27 #[.agg #[.slice A0_0 l0_0.length c0_0, .int .i64 a0_1, .int .i64 a0_2, .slice A0_3 l0_3.length c0_3, .bool a0_4], .int .i64 a1, .int .i64 a2, .int .i64 a3] w fun e w' => e = .returned (.int .i64 r) ∧ Below w.heap.size w w' := by
 have hu24 := Try.underlying24
 have HR0_0 := Aside0.mk hr0_0
 have HC0_0 := Aside0.mk hc0_0
 (try clear hr0_0); (try clear hc0_0)
 have HR0_3 := Aside0.mk hr0_3
 have HC0_3 := Aside0.mk hc0_3
 (try clear hr0_3); (try clear hc0_3)
 have HB := Aside0.mk (Below.refl w.heap.size w)
 have H : (if a1 < 0 then (some (-1)) else (if a1 ≥ a0_1 then (some (-1)) else (if a2 < 0 then (some (-1)) else (if a2 ≥ (l0_0.length : Int) then (some (-1)) else (if a3 < 0 then (some (-1)) else (if a3 ≥ a0_2 then (some (-1)) else ((semigroupref17_base.f l0_0 a0_1 a0_2 l0_3 a0_4).bind fun t288 => (some (wrap64 ((wrap64 ((wrap64 ((wrap64 ((wrap64 (a1 * (l0_0.length : Int))) + a2)) * a0_2)) + a3)) + t288)))))))))) = some r := h
 clear h
 by_cases c5 : a1 < 0
 ·rw [if_pos c5] at H
  have c5b0 : decide (a1 < 0) = true := decide_eq_true c5
  clear c5
  obtain rfl := Option.some.inj H
  go_enter Try.func27, Try.ntmps27
  go_wp2_with (first | ((with_reducible refine gate_dst (N := 4) rfl ?_); (try (refine gate_guard (by rfl) ?_; dsimp only)); refine box_event ?hg (N := 4) ?hd (cs := #[.slice A0_0 l0_0.length c0_0, .int .i64 a0_1, .int .i64 a0_2, .slice A0_3 l0_3.length c0_3, .bool a0_4]) (t := 24) ?hr ?_; (case hd => rfl); (case hg => rfl); q_hr; intro gb287 hg w6 hbox hb; have n0_ := Aside0.mk (below_step q_hb hb); have n1_ := Aside0.mk (hbox); have n2_ := Aside0.mk ((by rw [hg]; exact q_bs : w.heap.size ≤ gb287)); have n3_ := Aside0.mk ((by rw [hg]; exact q_bs : w.heap.size ≤ gb287)); clear HB; have HB := n0_; have BK287 := n1_; have GW287 := n2_; have GE287 := n3_; clear n0_ n1_ n2_ n3_; (q_x hb hbox); (try clear hg)))
  go_ret
  exact ⟨by first | rfl | q_em | q_en, by repeat (first | (with_reducible first | exact HB.out | apply below_alloc | apply pw_below_drewN | apply below_drew1 | refine below_set ?_ GE287.out) | exact HB.out)⟩
 ·rw [if_neg c5] at H
  have c5b0 : decide (a1 < 0) = false := decide_eq_false c5
  clear c5
  by_cases c7 : a1 ≥ a0_1
  ·rw [if_pos c7] at H
   have c7b0 : decide (a0_1 ≤ a1) = true := decide_eq_true c7
   clear c7
   obtain rfl := Option.some.inj H
   go_enter Try.func27, Try.ntmps27
   go_wp2_with (first | ((with_reducible refine gate_dst (N := 4) rfl ?_); (try (refine gate_guard (by rfl) ?_; dsimp only)); refine box_event ?hg (N := 4) ?hd (cs := #[.slice A0_0 l0_0.length c0_0, .int .i64 a0_1, .int .i64 a0_2, .slice A0_3 l0_3.length c0_3, .bool a0_4]) (t := 24) ?hr ?_; (case hd => rfl); (case hg => rfl); q_hr; intro gb287 hg w8 hbox hb; have n0_ := Aside0.mk (below_step q_hb hb); have n1_ := Aside0.mk (hbox); have n2_ := Aside0.mk ((by rw [hg]; exact q_bs : w.heap.size ≤ gb287)); have n3_ := Aside0.mk ((by rw [hg]; exact q_bs : w.heap.size ≤ gb287)); clear HB; have HB := n0_; have BK287 := n1_; have GW287 := n2_; have GE287 := n3_; clear n0_ n1_ n2_ n3_; (q_x hb hbox hg); have hcz9_0 : w8.cell? ⟨gb287, 0, none⟩ = some (.slice A0_0 l0_0.length c0_0) := (blk_cell BK287.out 0).trans rfl; have hcz9_1 : w8.cell? ⟨gb287, 1, none⟩ = some (.int .i64 a0_1) := (blk_cell BK287.out 1).trans rfl; have hcz9_2 : w8.cell? ⟨gb287, 2, none⟩ = some (.int .i64 a0_2) := (blk_cell BK287.out 2).trans rfl; have hcz9_3 : w8.cell? ⟨gb287, 3, none⟩ = some (.slice A0_3 l0_3.length c0_3) := (blk_cell BK287.out 3).trans rfl; have hcz9_4 : w8.cell? ⟨gb287, 4, none⟩ = some (.bool a0_4) := (blk_cell BK287.out 4).trans rfl; have hfz9_0 := blk_frozen BK287.out 0; have hfz9_1 := blk_frozen BK287.out 1; have hfz9_2 := blk_frozen BK287.out 2; have hfz9_3 := blk_frozen BK287.out 3; have hfz9_4 := blk_frozen BK287.out 4))
   go_ret
   exact ⟨by first | rfl | q_em | q_en, by repeat (first | (with_reducible first | exact HB.out | apply below_alloc | apply pw_below_drewN | apply below_drew1 | refine below_set ?_ GE287.out) | exact HB.out)⟩
  ·rw [if_neg c7] at H
   have c7b0 : decide (a0_1 ≤ a1) = false := decide_eq_false c7
   clear c7
   by_cases c10 : a2 < 0
   ·rw [if_pos c10] at H
    have c10b0 : decide (a2 < 0) = true := decide_eq_true c10
    clear c10
    obtain rfl := Option.some.inj H
    go_enter Try.func27, Try.ntmps27
    go_wp2_with (first | ((with_reducible refine gate_dst (N := 4) rfl ?_); (try (refine gate_guard (by rfl) ?_; dsimp only)); refine box_event ?hg (N := 4) ?hd (cs := #[.slice A0_0 l0_0.length c0_0, .int .i64 a0_1, .int .i64 a0_2, .slice A0_3 l0_3.length c0_3, .bool a0_4]) (t := 24) ?hr ?_; (case hd => rfl); (case hg => rfl); q_hr; intro gb287 hg w11 hbox hb; have n0_ := Aside0.mk (below_step q_hb hb); have n1_ := Aside0.mk (hbox); have n2_ := Aside0.mk ((by rw [hg]; exact q_bs : w.heap.size ≤ gb287)); have n3_ := Aside0.mk ((by rw [hg]; exact q_bs : w.heap.size ≤ gb287)); clear HB; have HB := n0_; have BK287 := n1_; have GW287 := n2_; have GE287 := n3_; clear n0_ n1_ n2_ n3_; (q_x hb hbox hg); have hcz12_0 : w11.cell? ⟨gb287, 0, none⟩ = some (.slice A0_0 l0_0.length c0_0) := (blk_cell BK287.out 0).trans rfl; have hcz12_1 : w11.cell? ⟨gb287, 1, none⟩ = some (.int .i64 a0_1) := (blk_cell BK287.out 1).trans rfl; have hcz12_2 : w11.cell? ⟨gb287, 2, none⟩ = some (.int .i64 a0_2) := (blk_cell BK287.out 2).trans rfl; have hcz12_3 : w11.cell? ⟨gb287, 3, none⟩ = some (.slice A0_3 l0_3.length c0_3) := (blk_cell BK287.out 3).trans rfl; have hcz12_4 : w11.cell? ⟨gb287, 4, none⟩ = some (.bool a0_4) := (blk_cell BK287.out 4).trans rfl; have hfz12_0 := blk_frozen BK287.out 0; have hfz12_1 := blk_frozen BK287.out 1; have hfz12_2 := blk_frozen BK287.out 2; have hfz12_3 := blk_frozen BK287.out 3; have hfz12_4 := blk_frozen BK287.out 4))
    go_ret
    exact ⟨by first | rfl | q_em | q_en, by repeat (first | (with_reducible first | exact HB.out | apply below_alloc | apply pw_below_drewN | apply below_drew1 | refine below_set ?_ GE287.out) | exact HB.out)⟩
   ·rw [if_neg c10] at H
    have c10b0 : decide (a2 < 0) = false := decide_eq_false c10
    clear c10
    by_cases c13 : a2 ≥ (l0_0.length : Int)
    ·rw [if_pos c13] at H
     have c13b0 : decide ((l0_0.length : Int) ≤ a2) = true := decide_eq_true c13
     clear c13
     obtain rfl := Option.some.inj H
     go_enter Try.func27, Try.ntmps27
     go_wp2_with (first | ((with_reducible refine gate_dst (N := 4) rfl ?_); (try (refine gate_guard (by rfl) ?_; dsimp only)); refine box_event ?hg (N := 4) ?hd (cs := #[.slice A0_0 l0_0.length c0_0, .int .i64 a0_1, .int .i64 a0_2, .slice A0_3 l0_3.length c0_3, .bool a0_4]) (t := 24) ?hr ?_; (case hd => rfl); (case hg => rfl); q_hr; intro gb287 hg w14 hbox hb; have n0_ := Aside0.mk (below_step q_hb hb); have n1_ := Aside0.mk (hbox); have n2_ := Aside0.mk ((by rw [hg]; exact q_bs : w.heap.size ≤ gb287)); have n3_ := Aside0.mk ((by rw [hg]; exact q_bs : w.heap.size ≤ gb287)); clear HB; have HB := n0_; have BK287 := n1_; have GW287 := n2_; have GE287 := n3_; clear n0_ n1_ n2_ n3_; (q_x hb hbox hg); have hcz15_0 : w14.cell? ⟨gb287, 0, none⟩ = some (.slice A0_0 l0_0.length c0_0) := (blk_cell BK287.out 0).trans rfl; have hcz15_1 : w14.cell? ⟨gb287, 1, none⟩ = some (.int .i64 a0_1) := (blk_cell BK287.out 1).trans rfl; have hcz15_2 : w14.cell? ⟨gb287, 2, none⟩ = some (.int .i64 a0_2) := (blk_cell BK287.out 2).trans rfl; have hcz15_3 : w14.cell? ⟨gb287, 3, none⟩ = some (.slice A0_3 l0_3.length c0_3) := (blk_cell BK287.out 3).trans rfl; have hcz15_4 : w14.cell? ⟨gb287, 4, none⟩ = some (.bool a0_4) := (blk_cell BK287.out 4).trans rfl; have hfz15_0 := blk_frozen BK287.out 0; have hfz15_1 := blk_frozen BK287.out 1; have hfz15_2 := blk_frozen BK287.out 2; have hfz15_3 := blk_frozen BK287.out 3; have hfz15_4 := blk_frozen BK287.out 4))
     go_ret
     exact ⟨by first | rfl | q_em | q_en, by repeat (first | (with_reducible first | exact HB.out | apply below_alloc | apply pw_below_drewN | apply below_drew1 | refine below_set ?_ GE287.out) | exact HB.out)⟩
    ·rw [if_neg c13] at H
     have c13b0 : decide ((l0_0.length : Int) ≤ a2) = false := decide_eq_false c13
     clear c13
     by_cases c16 : a3 < 0
     ·rw [if_pos c16] at H
      have c16b0 : decide (a3 < 0) = true := decide_eq_true c16
      clear c16
      obtain rfl := Option.some.inj H
      go_enter Try.func27, Try.ntmps27
      go_wp2_with (first | ((with_reducible refine gate_dst (N := 4) rfl ?_); (try (refine gate_guard (by rfl) ?_; dsimp only)); refine box_event ?hg (N := 4) ?hd (cs := #[.slice A0_0 l0_0.length c0_0, .int .i64 a0_1, .int .i64 a0_2, .slice A0_3 l0_3.length c0_3, .bool a0_4]) (t := 24) ?hr ?_; (case hd => rfl); (case hg => rfl); q_hr; intro gb287 hg w17 hbox hb; have n0_ := Aside0.mk (below_step q_hb hb); have n1_ := Aside0.mk (hbox); have n2_ := Aside0.mk ((by rw [hg]; exact q_bs : w.heap.size ≤ gb287)); have n3_ := Aside0.mk ((by rw [hg]; exact q_bs : w.heap.size ≤ gb287)); clear HB; have HB := n0_; have BK287 := n1_; have GW287 := n2_; have GE287 := n3_; clear n0_ n1_ n2_ n3_; (q_x hb hbox hg); have hcz18_0 : w17.cell? ⟨gb287, 0, none⟩ = some (.slice A0_0 l0_0.length c0_0) := (blk_cell BK287.out 0).trans rfl; have hcz18_1 : w17.cell? ⟨gb287, 1, none⟩ = some (.int .i64 a0_1) := (blk_cell BK287.out 1).trans rfl; have hcz18_2 : w17.cell? ⟨gb287, 2, none⟩ = some (.int .i64 a0_2) := (blk_cell BK287.out 2).trans rfl; have hcz18_3 : w17.cell? ⟨gb287, 3, none⟩ = some (.slice A0_3 l0_3.length c0_3) := (blk_cell BK287.out 3).trans rfl; have hcz18_4 : w17.cell? ⟨gb287, 4, none⟩ = some (.bool a0_4) := (blk_cell BK287.out 4).trans rfl; have hfz18_0 := blk_frozen BK287.out 0; have hfz18_1 := blk_frozen BK287.out 1; have hfz18_2 := blk_frozen BK287.out 2; have hfz18_3 := blk_frozen BK287.out 3; have hfz18_4 := blk_frozen BK287.out 4))
      go_ret
      exact ⟨by first | rfl | q_em | q_en, by repeat (first | (with_reducible first | exact HB.out | apply below_alloc | apply pw_below_drewN | apply below_drew1 | refine below_set ?_ GE287.out) | exact HB.out)⟩
     ·rw [if_neg c16] at H
      have c16b0 : decide (a3 < 0) = false := decide_eq_false c16
      clear c16
      by_cases c19 : a3 ≥ a0_2
      ·rw [if_pos c19] at H
       have c19b0 : decide (a0_2 ≤ a3) = true := decide_eq_true c19
       clear c19
       obtain rfl := Option.some.inj H
       go_enter Try.func27, Try.ntmps27
       go_wp2_with (first | ((with_reducible refine gate_dst (N := 4) rfl ?_); (try (refine gate_guard (by rfl) ?_; dsimp only)); refine box_event ?hg (N := 4) ?hd (cs := #[.slice A0_0 l0_0.length c0_0, .int .i64 a0_1, .int .i64 a0_2, .slice A0_3 l0_3.length c0_3, .bool a0_4]) (t := 24) ?hr ?_; (case hd => rfl); (case hg => rfl); q_hr; intro gb287 hg w20 hbox hb; have n0_ := Aside0.mk (below_step q_hb hb); have n1_ := Aside0.mk (hbox); have n2_ := Aside0.mk ((by rw [hg]; exact q_bs : w.heap.size ≤ gb287)); have n3_ := Aside0.mk ((by rw [hg]; exact q_bs : w.heap.size ≤ gb287)); clear HB; have HB := n0_; have BK287 := n1_; have GW287 := n2_; have GE287 := n3_; clear n0_ n1_ n2_ n3_; (q_x hb hbox hg); have hcz21_0 : w20.cell? ⟨gb287, 0, none⟩ = some (.slice A0_0 l0_0.length c0_0) := (blk_cell BK287.out 0).trans rfl; have hcz21_1 : w20.cell? ⟨gb287, 1, none⟩ = some (.int .i64 a0_1) := (blk_cell BK287.out 1).trans rfl; have hcz21_2 : w20.cell? ⟨gb287, 2, none⟩ = some (.int .i64 a0_2) := (blk_cell BK287.out 2).trans rfl; have hcz21_3 : w20.cell? ⟨gb287, 3, none⟩ = some (.slice A0_3 l0_3.length c0_3) := (blk_cell BK287.out 3).trans rfl; have hcz21_4 : w20.cell? ⟨gb287, 4, none⟩ = some (.bool a0_4) := (blk_cell BK287.out 4).trans rfl; have hfz21_0 := blk_frozen BK287.out 0; have hfz21_1 := blk_frozen BK287.out 1; have hfz21_2 := blk_frozen BK287.out 2; have hfz21_3 := blk_frozen BK287.out 3; have hfz21_4 := blk_frozen BK287.out 4))
       go_ret
       exact ⟨by first | rfl | q_em | q_en, by repeat (first | (with_reducible first | exact HB.out | apply below_alloc | apply pw_below_drewN | apply below_drew1 | refine below_set ?_ GE287.out) | exact HB.out)⟩
      ·rw [if_neg c19] at H
       have c19b0 : decide (a0_2 ≤ a3) = false := decide_eq_false c19
       clear c19
       replace H := Option.bind_eq_some_iff.mp H
       obtain ⟨t288, A220, H⟩ := H
       replace H : (some (wrap64 ((wrap64 ((wrap64 ((wrap64 ((wrap64 (a1 * (l0_0.length : Int))) + a2)) * a0_2)) + a3)) + t288))) = some r := H
       have A22 := Aside0.mk A220
       clear A220
       obtain rfl := Option.some.inj H
       go_enter Try.func27, Try.ntmps27
       try go_wp2_with (first | ((with_reducible refine gate_dst (N := 4) rfl ?_); (try (refine gate_guard (by rfl) ?_; dsimp only)); refine box_event ?hg (N := 4) ?hd (cs := #[.slice A0_0 l0_0.length c0_0, .int .i64 a0_1, .int .i64 a0_2, .slice A0_3 l0_3.length c0_3, .bool a0_4]) (t := 24) ?hr ?_; (case hd => rfl); (case hg => rfl); q_hr; intro gb287 hg w23 hbox hb; have n0_ := Aside0.mk (below_step q_hb hb); have n1_ := Aside0.mk (hbox); have n2_ := Aside0.mk ((by rw [hg]; exact q_bs : w.heap.size ≤ gb287)); have n3_ := Aside0.mk ((by rw [hg]; exact q_bs : w.heap.size ≤ gb287)); clear HB; have HB := n0_; have BK287 := n1_; have GW287 := n2_; have GE287 := n3_; clear n0_ n1_ n2_ n3_; (q_x hb hbox hg); have hcz24_0 : w23.cell? ⟨gb287, 0, none⟩ = some (.slice A0_0 l0_0.length c0_0) := (blk_cell BK287.out 0).trans rfl; have hcz24_1 : w23.cell? ⟨gb287, 1, none⟩ = some (.int .i64 a0_1) := (blk_cell BK287.out 1).trans rfl; have hcz24_2 : w23.cell? ⟨gb287, 2, none⟩ = some (.int .i64 a0_2) := (blk_cell BK287.out 2).trans rfl; have hcz24_3 : w23.cell? ⟨gb287, 3, none⟩ = some (.slice A0_3 l0_3.length c0_3) := (blk_cell BK287.out 3).trans rfl; have hcz24_4 : w23.cell? ⟨gb287, 4, none⟩ = some (.bool a0_4) := (blk_cell BK287.out 4).trans rfl; have hfz24_0 := blk_frozen BK287.out 0; have hfz24_1 := blk_frozen BK287.out 1; have hfz24_2 := blk_frozen BK287.out 2; have hfz24_3 := blk_frozen BK287.out 3; have hfz24_4 := blk_frozen BK287.out 4))
       have n0_ := Aside0.mk (blk_drew BK287.out)
       have n1_ := Aside0.mk (below_drew1 HB.out)
       clear HB BK287
       have BK287 := n0_
       have HB := n1_
       clear n0_ n1_
       refine start_ (n := 16) (S := fun w' => w'.cell? ⟨gb287, 0, none⟩ = some (.slice A0_0 l0_0.length c0_0) ∧ w'.cell? ⟨gb287, 1, none⟩ = some (.int .i64 a0_1) ∧ w'.cell? ⟨gb287, 2, none⟩ = some (.int .i64 a0_2) ∧ w'.cell? ⟨gb287, 3, none⟩ = some (.slice A0_3 l0_3.length c0_3) ∧ w'.cell? ⟨gb287, 4, none⟩ = some (.bool a0_4)) (ds := []) #[false, false, false, false, false, false, false, false, false, false, false, false, false, false, false, false] (by kernel_rfl) rfl rfl ⟨(blk_cell BK287.out 0).trans rfl, (blk_cell BK287.out 1).trans rfl, (blk_cell BK287.out 2).trans rfl, (blk_cell BK287.out 3).trans rfl, (blk_cell BK287.out 4).trans rfl⟩ (fun hHeld => ?_); refine with_tabW semigroupref17_Number.tab3 semigroupref17_Number.bits3 (fun HT_ HW_ => ?_)
       generalize w23.drew = w25 at BK287 HB hHeld ⊢
       refine pure_ (i := 0) (N := some 38) (v := ?_) (a' := ?_) #[true, false, false, false, false, false, false, false, false, false, false, false, false, false, false, false] rfl rfl q_ho q_id (Or.inl ⟨by rfl, ?_⟩) ?_ ?_
       rotate_left
       ·intro w'
        go_simp
        with_reducible rfl
       rotate_left
       ·q_si
        rfl
       refine pure_ (i := 1) (N := some 39) (v := ?_) (a' := ?_) #[true, true, false, false, false, false, false, false, false, false, false, false, false, false, false, false] rfl rfl q_ho q_id (Or.inl ⟨by rfl, ?_⟩) ?_ ?_
       rotate_left
       ·intro w'
        go_simp
        with_reducible rfl
       rotate_left
       ·q_si
        rfl
       refine pure_ (i := 5) (N := some 43) (v := ?_) (a' := ?_) #[true, true, false, false, false, true, false, false, false, false, false, false, false, false, false, false] rfl rfl q_ho q_id (Or.inl ⟨by rfl, ?_⟩) ?_ ?_
       rotate_left
       ·intro w'
        go_simp
        with_reducible rfl
       rotate_left
       ·q_si
        rfl
       refine pure_ (i := 7) (N := some 45) (v := ?_) (a' := ?_) #[true, true, false, false, false, true, false, true, false, false, false, false, false, false, false, false] rfl rfl q_ho q_id (Or.inl ⟨by rfl, ?_⟩) ?_ ?_
       rotate_left
       ·intro w'
        go_simp
        with_reducible rfl
       rotate_left
       ·q_si
        rfl
       refine pure_ (i := 10) (N := some 48) (v := ?_) (a' := ?_) #[true, true, false, false, false, true, false, true, false, false, true, false, false, false, false, false] rfl rfl q_ho q_id (Or.inl ⟨by rfl, ?_⟩) ?_ ?_
       rotate_left
       ·intro w'
        go_simp
        with_reducible rfl
       rotate_left
       ·q_si
        rfl
       refine take_ (i := 2) (N := some 40) (v := ?_) (a' := ?_) #[true, true, true, false, false, true, false, true, false, false, true, false, false, false, false, false] rfl rfl q_to q_id (Or.inl ⟨by rfl, ?_⟩) hHeld ?_ ?_
       rotate_left
       ·rintro w' ⟨s0, s1, s2, s3, s4⟩
        go_simp
        with_reducible rfl
       rotate_left
       ·q_si
        rfl
       refine pure_ (i := 3) (N := some 41) (v := ?_) (a' := ?_) #[true, true, true, true, false, true, false, true, false, false, true, false, false, false, false, false] rfl rfl q_ho q_id (Or.inl ⟨by rfl, ?_⟩) ?_ ?_
       rotate_left
       ·intro w'
        go_simp
        with_reducible rfl
       rotate_left
       ·q_si
        rfl
       refine pure_ (i := 4) (N := some 42) (v := ?_) (a' := ?_) #[true, true, true, true, true, true, false, true, false, false, true, false, false, false, false, false] rfl rfl q_ho q_id (Or.inl ⟨by rfl, ?_⟩) ?_ ?_
       rotate_left
       ·intro w'
        go_simp
        with_reducible rfl
       rotate_left
       ·q_si
        rfl
       refine pure_ (i := 6) (N := some 44) (v := ?_) (a' := ?_) #[true, true, true, true, true, true, true, true, false, false, true, false, false, false, false, false] rfl rfl q_ho q_id (Or.inl ⟨by rfl, ?_⟩) ?_ ?_
       rotate_left
       ·intro w'
        go_simp
        with_reducible rfl
       rotate_left
       ·q_si
        rfl
       refine take_ (i := 8) (N := some 46) (v := ?_) (a' := ?_) #[true, true, true, true, true, true, true, true, true, false, true, false, false, false, false, false] rfl rfl q_to q_id (Or.inl ⟨by rfl, ?_⟩) hHeld ?_ ?_
       rotate_left
       ·rintro w' ⟨s0, s1, s2, s3, s4⟩
        go_simp
        with_reducible rfl
       rotate_left
       ·q_si
        rfl
       refine pure_ (i := 9) (N := some 47) (v := ?_) (a' := ?_) #[true, true, true, true, true, true, true, true, true, true, true, false, false, false, false, false] rfl rfl q_ho q_id (Or.inl ⟨by rfl, ?_⟩) ?_ ?_
       rotate_left
       ·intro w'
        go_simp
        with_reducible rfl
       rotate_left
       ·q_si
        rfl
       refine pure_ (i := 11) (N := some 49) (v := ?_) (a' := ?_) #[true, true, true, true, true, true, true, true, true, true, true, true, false, false, false, false] rfl rfl q_ho q_id (Or.inl ⟨by rfl, ?_⟩) ?_ ?_
       rotate_left
       ·intro w'
        go_simp
        with_reducible rfl
       rotate_left
       ·q_si
        rfl
       refine take_ (i := 12) (N := some 50) (v := ?_) (a' := ?_) #[true, true, true, true, true, true, true, true, true, true, true, true, true, false, false, false] rfl rfl q_to q_id (Or.inl ⟨by rfl, ?_⟩) hHeld ?_ ?_
       rotate_left
       ·rintro w' ⟨s0, s1, s2, s3, s4⟩
        go_simp
        with_reducible rfl
       rotate_left
       ·q_si
        rfl
       refine one_ (i := 13) (N := some 51) #[true, true, true, true, true, true, true, true, true, true, true, true, true, true, false, false] rfl rfl (one_of HT_.out (by kernel_rfl)) (by decide) (fun K hK => ?_)
       refine goes_ Try.func46 (by kernel_rfl) rfl #[.agg #[.slice A0_0 l0_0.length c0_0, .int .i64 a0_1, .int .i64 a0_2, .slice A0_3 l0_3.length c0_3, .bool a0_4]] (by rfl) rfl rfl q_ml ?_
       with_reducible refine (semigroupref17_base.calls _ _ l0_0 a0_1 a0_2 _ _ l0_3 a0_4 t288 _ ?side1 ?side2 ?side3 ?side4 A22.out).mono ?_
       (case side1 => q_cc (Kd.C_below HR0_0.out HB.out))
       (case side2 => exact HC0_0.out)
       (case side3 => q_cc (Kd.C_below HR0_3.out HB.out))
       (case side4 => exact HC0_3.out)
       rintro e w26 ⟨rfl, hb⟩
       refine ⟨_, rfl, ?_⟩
       have n0_ := Aside0.mk (blk_below (g := gb287) (o := .cells #[.slice A0_0 l0_0.length c0_0, .int .i64 a0_1, .int .i64 a0_2, .slice A0_3 l0_3.length c0_3, .bool a0_4] 24 (0, 0)) (by q_bk; exact BK287.out) hb)
       have n1_ := Aside0.mk (below_step (q_hs GE287.out) hb)
       clear HB BK287
       have BK287 := n0_
       have HB := n1_
       clear n0_ n1_
       (try clear hb)
       (try clear hb2)
       (try clear hk)
       (try clear hi)
       refine hK.out _ _ ⟨(blk_cell BK287.out 0).trans rfl, (blk_cell BK287.out 1).trans rfl, (blk_cell BK287.out 2).trans rfl, (blk_cell BK287.out 3).trans rfl, (blk_cell BK287.out 4).trans rfl⟩ (fun hHeld => ?_)
       clear hK K
       refine norm_ (a' := ?_) ?_ ?_
       rotate_left
       ·show Act.put _ (some 51) _ = _
        simp only [Act.put, List.setIfInBounds_toArray, List.set_cons_zero, List.set_cons_succ, i64_w, i32_w]
        rfl
       refine pure_ (i := 14) (N := some 52) (v := ?_) (a' := ?_) #[true, true, true, true, true, true, true, true, true, true, true, true, true, true, true, false] rfl rfl q_ho q_id (Or.inl ⟨by rfl, ?_⟩) ?_ ?_
       rotate_left
       ·intro w'
        go_simp
        with_reducible rfl
       rotate_left
       ·q_si
        rfl
       refine pure_ (i := 15) (N := some 8) (v := ?_) (a' := ?_) #[true, true, true, true, true, true, true, true, true, true, true, true, true, true, true, true] rfl rfl q_ho q_id (Or.inl ⟨by rfl, ?_⟩) ?_ ?_
       rotate_left
       ·intro w'
        go_simp
        with_reducible rfl
       rotate_left
       ·q_si
        rfl
       refine done_ (done_of HT_.out (by kernel_rfl)) ?_
       try go_wp2
       go_ret
       exact ⟨by first | rfl | q_em | q_en, by repeat (first | (with_reducible first | exact HB.out | apply below_alloc | apply pw_below_drewN | apply below_drew1 | refine below_set ?_ GE287.out) | exact HB.out)⟩


end Go.Proofs.Ytnoickhdbinciaa.PAll
