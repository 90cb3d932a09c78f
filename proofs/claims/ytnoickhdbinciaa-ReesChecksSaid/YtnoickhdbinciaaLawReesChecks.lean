/- The statement of ReesChecks: for every input the call returns true and leaves its arguments. No condition. -/
import Derived.Test.YtnoickhdbinciaaRows
import Derived.Test.YtnoickhdbinciaaRReesChecksChk
import Derived.Test.YtnoickhdbinciaaRReesChecksL
import Derived.WalkKit
import Derived.ProofKit
import Derived.OpenShut
import Derived.ShutString
import Derived.ChangeOld
import Derived.Below
import Derived.SizedLaws
import Derived.Carry
import Derived.Deep.Fields
namespace Go.Proofs.Ytnoickhdbinciaa.reesChecks
open Go.ChangeShapes Go.WideShapes Go.ChangeAt Go.RowKit Go.Ab
open Go.ChangeMaps (open_string shut_string)
set_option linter.unusedVariables false
theorem own : ownKnob Try.prog.godebug = none := by kernel_rfl
theorem laidOut : laidOutB Try.prog = true := by kernel_rfl
theorem mixed : Try.prog.follows .mixedOrders = true := by kernel_rfl
set_option maxRecDepth 100000 in
theorem lifted (os : Os) (started : os.Started) (H : Type) (enc : TypeId × Value → H) :
    ReturnsInHanded {} Try.checked os 9 .any (Rows.reesChecksSpec.pre6 enc Try.prog Try.f9 Rows.reesChecksRow.domain false) (Rows.reesChecksSpec.post enc Try.prog Try.f9 false true false false) := by
  refine returnsInHanded_of_change_sized (C := Try.checked) own started (by kernel_rfl) Try.func9
    (ChangeSpec.witness6 (enc := enc) (C := Try.checked) false ⟨#[], #[.slice none 0 0, .int .i64 0, .agg #[.slice none 0 0, .int .i64 0, .int .i64 0, .slice none 0 0, .bool false], .slice none 0 0], []⟩ 8 (by kernel_rfl) (by kernel_rfl) (by kernel_rfl) (by kernel_rfl)) ?_
  intro W base args ds gs before hval0 hW hcnd hsz0 _
  have hsz : (DataW.weightsEach Try.prog (Try.f9.params.toList ++ Rows.reesChecksSpec.plain.varTypes Try.prog) (ds ++ gs)).all (· ≤ reachBytes) = true := hsz0
  have hval : ∀ (j : Nat) t v, Try.f9.params[j]? = some t → args[j]? = some v → Value.okWide Try.prog W .any base t v := hval0
  have hW' := hW
  obtain ⟨p, q, hA0, hV, rfl, hfz, hnd⟩ := hW
  have hA : DataW.TrodAll enc Try.prog W 0 (fun _ => true) true Try.f9.params.toList args.toList ds p := hA0
  rw [Try.params9] at hA hval hsz
  obtain ⟨v0, vs0, d0, ds0, p0, q0, hargs, rfl, rfl, h0, r0⟩ := trodAll_cons hA
  obtain ⟨v1, vs1, d1, ds1, p1, q1, rfl, rfl, rfl, h1, r1⟩ := trodAll_cons r0
  obtain ⟨v2, vs2, d2, ds2, p2, q2, rfl, rfl, rfl, h2, r2⟩ := trodAll_cons r1
  obtain ⟨v3, vs3, d3, ds3, p3, q3, rfl, rfl, rfl, h3, r3⟩ := trodAll_cons r2
  obtain ⟨rfl, rfl, rfl⟩ := trodAll_nil r3
  obtain rfl : args = #[v0, v1, v2, v3] := by cases args; simp_all
  obtain ⟨rfl, rfl⟩ := trodVars_none hV
  have k0 := h0
  have lt0 : ∀ x ∈ p0, x.block < W.heap.size := by obtain ⟨m, hm⟩ := k0; exact DataW.trod_lt m _ _ _ hm
  obtain ⟨t0, hr0, hq0⟩ := open_argD (fids := fids) Try.underlying22 (hval 0 22 v0 rfl rfl) h0 (opensD_slice Try.underlying22 (by kernel_rfl) (opensD_slice Try.underlying39 (by kernel_rfl) (opensD_int (fids := fids) Try.underlying3)))
  obtain ⟨l0, b0, rfl, hb0, hl0, hw0⟩ := rowQ_rows hq0
  obtain ⟨a1, rfl, rfl, rfl, w1⟩ := open_int Try.underlying3 (hval 1 3 v1 rfl rfl) h1
  have k2 := h2
  have lt2 : ∀ x ∈ p2, x.block < W.heap.size := by obtain ⟨m, hm⟩ := k2; exact DataW.trod_lt m _ _ _ hm
  obtain ⟨cs2, rfl, sz2, fl2⟩ := open_structD Try.underlying24 (by kernel_rfl) (Go.Deep.hone_of (by kernel_rfl)) (hval 2 24 v2 rfl rfl) h2
  obtain ⟨n2_0, u2_0, y2_0, e2_0, t2_0⟩ := fl2 0 _ rfl
  obtain ⟨d2_0, c2_0, g2_0, hr2_0, hq2_0⟩ := (opensD_slice Try.underlying22 (by kernel_rfl) (opensD_slice Try.underlying39 (by kernel_rfl) (opensD_int (fids := fids) Try.underlying3))) _ _ _ t2_0
  obtain rfl := List.head_eq_of_cons_eq g2_0
  obtain ⟨l2_0, b2_0, rfl, hb2_0, hl2_0, hw2_0⟩ := rowQ_rows hq2_0
  obtain ⟨n2_1, u2_1, y2_1, e2_1, t2_1⟩ := fl2 1 _ rfl
  obtain ⟨d2_1, c2_1, g2_1, hr2_1, hq2_1⟩ := (opensD_int (fids := fids) Try.underlying3) _ _ _ t2_1
  obtain rfl := List.head_eq_of_cons_eq g2_1
  obtain ⟨a2_1, rfl, w2_1⟩ := hq2_1
  obtain ⟨n2_2, u2_2, y2_2, e2_2, t2_2⟩ := fl2 2 _ rfl
  obtain ⟨d2_2, c2_2, g2_2, hr2_2, hq2_2⟩ := (opensD_int (fids := fids) Try.underlying3) _ _ _ t2_2
  obtain rfl := List.head_eq_of_cons_eq g2_2
  obtain ⟨a2_2, rfl, w2_2⟩ := hq2_2
  obtain ⟨n2_3, u2_3, y2_3, e2_3, t2_3⟩ := fl2 3 _ rfl
  obtain ⟨d2_3, c2_3, g2_3, hr2_3, hq2_3⟩ := (opensD_slice Try.underlying22 (by kernel_rfl) (opensD_slice Try.underlying39 (by kernel_rfl) (opensD_int (fids := fids) Try.underlying3))) _ _ _ t2_3
  obtain rfl := List.head_eq_of_cons_eq g2_3
  obtain ⟨l2_3, b2_3, rfl, hb2_3, hl2_3, hw2_3⟩ := rowQ_rows hq2_3
  obtain ⟨n2_4, u2_4, y2_4, e2_4, t2_4⟩ := fl2 4 _ rfl
  obtain ⟨d2_4, c2_4, g2_4, hr2_4, hq2_4⟩ := (opensD_bool (fids := fids) Try.underlying4) _ _ _ t2_4
  obtain rfl := List.head_eq_of_cons_eq g2_4
  obtain ⟨a2_4, rfl⟩ := hq2_4
  obtain rfl : cs2 = #[u2_0, u2_1, u2_2, u2_3, u2_4] := by
    apply Array.ext_getElem?
    intro i
    rcases i with _ | _ | _ | _ | _ | i
    · exact e2_0
    · exact e2_1
    · exact e2_2
    · exact e2_3
    · exact e2_4
    · rw [Array.getElem?_eq_none (by have := sz2; simp at this; omega), Array.getElem?_eq_none (by simp)]
  have k3 := h3
  have lt3 : ∀ x ∈ p3, x.block < W.heap.size := by obtain ⟨m, hm⟩ := k3; exact DataW.trod_lt m _ _ _ hm
  obtain ⟨t3, hr3, hq3⟩ := open_argD (fids := fids) Try.underlying39 (hval 3 39 v3 rfl rfl) h3 (opensD_slice Try.underlying39 (by kernel_rfl) (opensD_int (fids := fids) Try.underlying3))
  obtain ⟨l3, b3, rfl, hb3, hl3, hw3⟩ := rowQ_ints hq3
  clear hA0 hval0 hsz0 hsz
  obtain ⟨s0, es0, ht0⟩ := lay_rows l0 b0 hb0 (fun p hp => (hw0 p hp).1) []
  obtain ⟨s2_0, es2_0, ht2_0⟩ := lay_rows l2_0 b2_0 hb2_0 (fun p hp => (hw2_0 p hp).1) (lay (.one (.int .i64 a1)) (lay (rows .i64 l0 b0) []).2).2
  obtain ⟨s2_3, es2_3, ht2_3⟩ := lay_rows l2_3 b2_3 hb2_3 (fun p hp => (hw2_3 p hp).1) (lay (.one (.int .i64 a2_2)) (lay (.one (.int .i64 a2_1)) (lay (rows .i64 l2_0 b2_0) (lay (.one (.int .i64 a1)) (lay (rows .i64 l0 b0) []).2).2).2).2).2
  obtain ⟨s3, es3, ht3⟩ := lay_ints l3 b3 hb3 (lay (.one (.bool a2_4)) (lay (rows .i64 l2_3 b2_3) (lay (.one (.int .i64 a2_2)) (lay (.one (.int .i64 a2_1)) (lay (rows .i64 l2_0 b2_0) (lay (.one (.int .i64 a1)) (lay (rows .i64 l0 b0) []).2).2).2).2).2).2).2
  have E2 : layL [(rows .i64 l2_0 b2_0), (.one (.int .i64 a2_1)), (.one (.int .i64 a2_2)), (rows .i64 l2_3 b2_3), (.one (.bool a2_4))] (lay (.one (.int .i64 a1)) (lay (rows .i64 l0 b0) []).2).2 = ([.sl s2_0, .int .i64 a2_1, .int .i64 a2_2, .sl s2_3, .bool a2_4], (lay (.one (.bool a2_4)) (lay (rows .i64 l2_3 b2_3) (lay (.one (.int .i64 a2_2)) (lay (.one (.int .i64 a2_1)) (lay (rows .i64 l2_0 b2_0) (lay (.one (.int .i64 a1)) (lay (rows .i64 l0 b0) []).2).2).2).2).2).2).2) := layL_cons' es2_0 rfl (layL_cons' rfl rfl (layL_cons' rfl rfl (layL_cons' es2_3 rfl (layL_cons' rfl rfl (layL_nil' _)))))
  have E : layL [(rows .i64 l0 b0), (.one (.int .i64 a1)), (.agg [(rows .i64 l2_0 b2_0), (.one (.int .i64 a2_1)), (.one (.int .i64 a2_2)), (rows .i64 l2_3 b2_3), (.one (.bool a2_4))]), (ints .i64 l3 b3)] [] = ([.sl s0, .int .i64 a1, .agg [.sl s2_0, .int .i64 a2_1, .int .i64 a2_2, .sl s2_3, .bool a2_4], .sl s3], (lay (ints .i64 l3 b3) (lay (.one (.bool a2_4)) (lay (rows .i64 l2_3 b2_3) (lay (.one (.int .i64 a2_2)) (lay (.one (.int .i64 a2_1)) (lay (rows .i64 l2_0 b2_0) (lay (.one (.int .i64 a1)) (lay (rows .i64 l0 b0) []).2).2).2).2).2).2).2).2) := layL_cons' es0 rfl (layL_cons' rfl rfl (layL_cons' (lay_agg1 E2) (lay_agg2 E2) (layL_cons' es3 rfl (layL_nil' _))))
  obtain ⟨k, H', h⟩ := law_end (G := G) (g := 55) (args := [.sl s0, .int .i64 a1, .agg [.sl s2_0, .int .i64 a2_1, .int .i64 a2_2, .sl s2_3, .bool a2_4], .sl s3]) (Go.Ab.law_ReesChecks (H := (lay (ints .i64 l3 b3) (lay (.one (.bool a2_4)) (lay (rows .i64 l2_3 b2_3) (lay (.one (.int .i64 a2_2)) (lay (.one (.int .i64 a2_1)) (lay (rows .i64 l2_0 b2_0) (lay (.one (.int .i64 a1)) (lay (rows .i64 l0 b0) []).2).2).2).2).2).2).2).2) ⟨by simpa using hl0, fun v hv => by obtain ⟨p, hp, rfl⟩ := List.mem_map.1 hv; exact (hw0 p hp).2⟩ (ht0.le ((lay_le (.one (.int .i64 a1)) _).trans ((lay_le (rows .i64 l2_0 b2_0) _).trans ((lay_le (.one (.int .i64 a2_1)) _).trans ((lay_le (.one (.int .i64 a2_2)) _).trans ((lay_le (rows .i64 l2_3 b2_3) _).trans ((lay_le (.one (.bool a2_4)) _).trans ((lay_le (ints .i64 l3 b3) _).trans (Le.refl _))))))))) w1 ⟨by simpa using hl2_0, fun v hv => by obtain ⟨p, hp, rfl⟩ := List.mem_map.1 hv; exact (hw2_0 p hp).2⟩ (ht2_0.le ((lay_le (.one (.int .i64 a2_1)) _).trans ((lay_le (.one (.int .i64 a2_2)) _).trans ((lay_le (rows .i64 l2_3 b2_3) _).trans ((lay_le (.one (.bool a2_4)) _).trans ((lay_le (ints .i64 l3 b3) _).trans (Le.refl _))))))) w2_1 w2_2 ⟨by simpa using hl2_3, fun v hv => by obtain ⟨p, hp, rfl⟩ := List.mem_map.1 hv; exact (hw2_3 p hp).2⟩ (ht2_3.le ((lay_le (.one (.bool a2_4)) _).trans ((lay_le (ints .i64 l3 b3) _).trans (Le.refl _)))) ⟨hl3, hw3⟩ (ht3.le (Le.refl _)))
  have h' : run G k PV 55 0 (layL [(rows .i64 l0 b0), (.one (.int .i64 a1)), (.agg [(rows .i64 l2_0 b2_0), (.one (.int .i64 a2_1)), (.one (.int .i64 a2_2)), (rows .i64 l2_3 b2_3), (.one (.bool a2_4))]), (ints .i64 l3 b3)] []).1 (layL [(rows .i64 l0 b0), (.one (.int .i64 a1)), (.agg [(rows .i64 l2_0 b2_0), (.one (.int .i64 a2_1)), (.one (.int .i64 a2_2)), (rows .i64 l2_3 b2_3), (.one (.bool a2_4))]), (ints .i64 l3 b3)] []).2.length (layL [(rows .i64 l0 b0), (.one (.int .i64 a1)), (.agg [(rows .i64 l2_0 b2_0), (.one (.int .i64 a2_1)), (.one (.int .i64 a2_2)), (rows .i64 l2_3 b2_3), (.one (.bool a2_4))]), (ints .i64 l3 b3)] []).2 pr = some (.bool true, H') := by rw [E]; exact h
  refine (law_calls hG mixed (g := 55) rfl (.cons _ _ _ _ hr0 (.cons _ _ _ _ (.one _ _ (.int .i64 a1)) (.cons _ _ _ _ (.agg _ [u2_0, u2_1, u2_2, u2_3, u2_4] (.cons _ _ _ _ hr2_0 (.cons _ _ _ _ hr2_1 (.cons _ _ _ _ hr2_2 (.cons _ _ _ _ hr2_3 (.cons _ _ _ _ hr2_4 .nil)))))) (.cons _ _ _ _ hr3 .nil)))) h').mono fun e W' ⟨he, bel⟩ => ?_
  subst he
  exact ⟨_, rfl, _, _, _, [], _, [], hW', trodAll_mk1 (shut_bool Try.underlying4 _), (trodAll_cons_mk (Below.trod laidOut (by kernel_rfl) (of_decide_eq_true (by kernel_rfl)) k0 bel lt0) (trodAll_cons_mk (shut_int Try.underlying3 w1) (trodAll_cons_mk (Below.trod laidOut (by kernel_rfl) (of_decide_eq_true (by kernel_rfl)) k2 bel lt2) (trodAll_cons_mk (Below.trod laidOut (by kernel_rfl) (of_decide_eq_true (by kernel_rfl)) k3 bel lt3) trodAll_mk0)))), rfl, bel.frame _, fun h => by cases h⟩
theorem over : Rows.reesChecksRow.holds Try.pinned (OpenSpec.ofChange Rows.reesChecksSpec) :=
  OpenClaim.holds_of_wide 9 Try.f9 rfl rfl rfl rfl rfl rfl rfl ⟨rfl, rfl, rfl, rfl, rfl⟩ rfl rfl rfl rfl rfl (by kernel_rfl) Try.func9 (by kernel_rfl)
    (of_decide_eq_true (by kernel_rfl)) (by unfold Func.isWrapper; first | (rw [if_pos (by decide +kernel)]; kernel_rfl) | (rw [if_neg (by decide +kernel)]; exact ⟨rfl, rfl⟩))
    (fun os started H enc _ => lifted os started H enc)
theorem proved : Rows.ReesChecksSaid := over
#print axioms proved
end Go.Proofs.Ytnoickhdbinciaa.reesChecks
namespace Go.Proofs.Ytnoickhdbinciaa
/-- The row, under a short name, for the claim. -/
theorem reesChecks_holds : Rows.ReesChecksSaid := reesChecks.proved
end Go.Proofs.Ytnoickhdbinciaa
