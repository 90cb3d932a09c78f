/- The statement of ReesSimple: for every input the call returns true and leaves its arguments. No condition. -/
import Derived.Test.YtnoickhdbinciaaRows
import Derived.Test.YtnoickhdbinciaaRReesSimpleChk
import Derived.Test.YtnoickhdbinciaaRReesSimpleL
import Derived.WalkKit
import Derived.ProofKit
import Derived.OpenShut
import Derived.ShutString
import Derived.ChangeOld
import Derived.Below
import Derived.SizedLaws
import Derived.Carry
import Derived.Deep.Fields
namespace Go.Proofs.Ytnoickhdbinciaa.reesSimple
open Go.ChangeShapes Go.WideShapes Go.ChangeAt Go.RowKit Go.Ab
open Go.ChangeMaps (open_string shut_string)
set_option linter.unusedVariables false
theorem own : ownKnob Try.prog.godebug = none := by kernel_rfl
theorem laidOut : laidOutB Try.prog = true := by kernel_rfl
theorem mixed : Try.prog.follows .mixedOrders = true := by kernel_rfl
set_option maxRecDepth 100000 in
theorem lifted (os : Os) (started : os.Started) (H : Type) (enc : TypeId × Value → H) :
    ReturnsInHanded {} Try.checked os 6 .any (Rows.reesSimpleSpec.pre6 enc Try.prog Try.f6 Rows.reesSimpleRow.domain false) (Rows.reesSimpleSpec.post enc Try.prog Try.f6 false true false false) := by
  refine returnsInHanded_of_change_sized (C := Try.checked) own started (by kernel_rfl) Try.func6
    (ChangeSpec.witness6 (enc := enc) (C := Try.checked) false ⟨#[], #[.agg #[.slice none 0 0, .int .i64 0, .int .i64 0, .slice none 0 0, .bool false]], []⟩ 8 (by kernel_rfl) (by kernel_rfl) (by kernel_rfl) (by kernel_rfl)) ?_
  intro W base args ds gs before hval0 hW hcnd hsz0 _
  have hsz : (DataW.weightsEach Try.prog (Try.f6.params.toList ++ Rows.reesSimpleSpec.plain.varTypes Try.prog) (ds ++ gs)).all (· ≤ reachBytes) = true := hsz0
  have hval : ∀ (j : Nat) t v, Try.f6.params[j]? = some t → args[j]? = some v → Value.okWide Try.prog W .any base t v := hval0
  have hW' := hW
  obtain ⟨p, q, hA0, hV, rfl, hfz, hnd⟩ := hW
  have hA : DataW.TrodAll enc Try.prog W 0 (fun _ => true) true Try.f6.params.toList args.toList ds p := hA0
  rw [Try.params6] at hA hval hsz
  obtain ⟨v0, vs0, d0, ds0, p0, q0, hargs, rfl, rfl, h0, r0⟩ := trodAll_cons hA
  obtain ⟨rfl, rfl, rfl⟩ := trodAll_nil r0
  obtain rfl : args = #[v0] := by cases args; simp_all
  obtain ⟨rfl, rfl⟩ := trodVars_none hV
  have k0 := h0
  have lt0 : ∀ x ∈ p0, x.block < W.heap.size := by obtain ⟨m, hm⟩ := k0; exact DataW.trod_lt m _ _ _ hm
  obtain ⟨cs0, rfl, sz0, fl0⟩ := open_structD Try.underlying24 (by kernel_rfl) (Go.Deep.hone_of (by kernel_rfl)) (hval 0 24 v0 rfl rfl) h0
  obtain ⟨n0_0, u0_0, y0_0, e0_0, t0_0⟩ := fl0 0 _ rfl
  obtain ⟨d0_0, c0_0, g0_0, hr0_0, hq0_0⟩ := (opensD_slice Try.underlying22 (by kernel_rfl) (opensD_slice Try.underlying39 (by kernel_rfl) (opensD_int (fids := fids) Try.underlying3))) _ _ _ t0_0
  obtain rfl := List.head_eq_of_cons_eq g0_0
  obtain ⟨l0_0, b0_0, rfl, hb0_0, hl0_0, hw0_0⟩ := rowQ_rows hq0_0
  obtain ⟨n0_1, u0_1, y0_1, e0_1, t0_1⟩ := fl0 1 _ rfl
  obtain ⟨d0_1, c0_1, g0_1, hr0_1, hq0_1⟩ := (opensD_int (fids := fids) Try.underlying3) _ _ _ t0_1
  obtain rfl := List.head_eq_of_cons_eq g0_1
  obtain ⟨a0_1, rfl, w0_1⟩ := hq0_1
  obtain ⟨n0_2, u0_2, y0_2, e0_2, t0_2⟩ := fl0 2 _ rfl
  obtain ⟨d0_2, c0_2, g0_2, hr0_2, hq0_2⟩ := (opensD_int (fids := fids) Try.underlying3) _ _ _ t0_2
  obtain rfl := List.head_eq_of_cons_eq g0_2
  obtain ⟨a0_2, rfl, w0_2⟩ := hq0_2
  obtain ⟨n0_3, u0_3, y0_3, e0_3, t0_3⟩ := fl0 3 _ rfl
  obtain ⟨d0_3, c0_3, g0_3, hr0_3, hq0_3⟩ := (opensD_slice Try.underlying22 (by kernel_rfl) (opensD_slice Try.underlying39 (by kernel_rfl) (opensD_int (fids := fids) Try.underlying3))) _ _ _ t0_3
  obtain rfl := List.head_eq_of_cons_eq g0_3
  obtain ⟨l0_3, b0_3, rfl, hb0_3, hl0_3, hw0_3⟩ := rowQ_rows hq0_3
  obtain ⟨n0_4, u0_4, y0_4, e0_4, t0_4⟩ := fl0 4 _ rfl
  obtain ⟨d0_4, c0_4, g0_4, hr0_4, hq0_4⟩ := (opensD_bool (fids := fids) Try.underlying4) _ _ _ t0_4
  obtain rfl := List.head_eq_of_cons_eq g0_4
  obtain ⟨a0_4, rfl⟩ := hq0_4
  obtain rfl : cs0 = #[u0_0, u0_1, u0_2, u0_3, u0_4] := by
    apply Array.ext_getElem?
    intro i
    rcases i with _ | _ | _ | _ | _ | i
    · exact e0_0
    · exact e0_1
    · exact e0_2
    · exact e0_3
    · exact e0_4
    · rw [Array.getElem?_eq_none (by have := sz0; simp at this; omega), Array.getElem?_eq_none (by simp)]
  clear hA0 hval0 hsz0 hsz
  obtain ⟨s0_0, es0_0, ht0_0⟩ := lay_rows l0_0 b0_0 hb0_0 (fun p hp => (hw0_0 p hp).1) []
  obtain ⟨s0_3, es0_3, ht0_3⟩ := lay_rows l0_3 b0_3 hb0_3 (fun p hp => (hw0_3 p hp).1) (lay (.one (.int .i64 a0_2)) (lay (.one (.int .i64 a0_1)) (lay (rows .i64 l0_0 b0_0) []).2).2).2
  have E0 : layL [(rows .i64 l0_0 b0_0), (.one (.int .i64 a0_1)), (.one (.int .i64 a0_2)), (rows .i64 l0_3 b0_3), (.one (.bool a0_4))] [] = ([.sl s0_0, .int .i64 a0_1, .int .i64 a0_2, .sl s0_3, .bool a0_4], (lay (.one (.bool a0_4)) (lay (rows .i64 l0_3 b0_3) (lay (.one (.int .i64 a0_2)) (lay (.one (.int .i64 a0_1)) (lay (rows .i64 l0_0 b0_0) []).2).2).2).2).2) := layL_cons' es0_0 rfl (layL_cons' rfl rfl (layL_cons' rfl rfl (layL_cons' es0_3 rfl (layL_cons' rfl rfl (layL_nil' _)))))
  have E : layL [(.agg [(rows .i64 l0_0 b0_0), (.one (.int .i64 a0_1)), (.one (.int .i64 a0_2)), (rows .i64 l0_3 b0_3), (.one (.bool a0_4))])] [] = ([.agg [.sl s0_0, .int .i64 a0_1, .int .i64 a0_2, .sl s0_3, .bool a0_4]], (lay (.one (.bool a0_4)) (lay (rows .i64 l0_3 b0_3) (lay (.one (.int .i64 a0_2)) (lay (.one (.int .i64 a0_1)) (lay (rows .i64 l0_0 b0_0) []).2).2).2).2).2) := layL_cons' (lay_agg1 E0) (lay_agg2 E0) (layL_nil' _)
  obtain ⟨k, H', h⟩ := law_end (G := G) (g := 37) (args := [.agg [.sl s0_0, .int .i64 a0_1, .int .i64 a0_2, .sl s0_3, .bool a0_4]]) (Go.Ab.law_ReesSimple (H := (lay (.one (.bool a0_4)) (lay (rows .i64 l0_3 b0_3) (lay (.one (.int .i64 a0_2)) (lay (.one (.int .i64 a0_1)) (lay (rows .i64 l0_0 b0_0) []).2).2).2).2).2) ⟨by simpa using hl0_0, fun v hv => by obtain ⟨p, hp, rfl⟩ := List.mem_map.1 hv; exact (hw0_0 p hp).2⟩ (ht0_0.le ((lay_le (.one (.int .i64 a0_1)) _).trans ((lay_le (.one (.int .i64 a0_2)) _).trans ((lay_le (rows .i64 l0_3 b0_3) _).trans ((lay_le (.one (.bool a0_4)) _).trans (Le.refl _)))))) w0_1 w0_2 ⟨by simpa using hl0_3, fun v hv => by obtain ⟨p, hp, rfl⟩ := List.mem_map.1 hv; exact (hw0_3 p hp).2⟩ (ht0_3.le ((lay_le (.one (.bool a0_4)) _).trans (Le.refl _))))
  have h' : run G k PV 37 0 (layL [(.agg [(rows .i64 l0_0 b0_0), (.one (.int .i64 a0_1)), (.one (.int .i64 a0_2)), (rows .i64 l0_3 b0_3), (.one (.bool a0_4))])] []).1 (layL [(.agg [(rows .i64 l0_0 b0_0), (.one (.int .i64 a0_1)), (.one (.int .i64 a0_2)), (rows .i64 l0_3 b0_3), (.one (.bool a0_4))])] []).2.length (layL [(.agg [(rows .i64 l0_0 b0_0), (.one (.int .i64 a0_1)), (.one (.int .i64 a0_2)), (rows .i64 l0_3 b0_3), (.one (.bool a0_4))])] []).2 pr = some (.bool true, H') := by rw [E]; exact h
  refine (law_calls hG mixed (g := 37) rfl (.cons _ _ _ _ (.agg _ [u0_0, u0_1, u0_2, u0_3, u0_4] (.cons _ _ _ _ hr0_0 (.cons _ _ _ _ hr0_1 (.cons _ _ _ _ hr0_2 (.cons _ _ _ _ hr0_3 (.cons _ _ _ _ hr0_4 .nil)))))) .nil) h').mono fun e W' ⟨he, bel⟩ => ?_
  subst he
  exact ⟨_, rfl, _, _, _, [], _, [], hW', trodAll_mk1 (shut_bool Try.underlying4 _), (trodAll_cons_mk (Below.trod laidOut (by kernel_rfl) (of_decide_eq_true (by kernel_rfl)) k0 bel lt0) trodAll_mk0), rfl, bel.frame _, fun h => by cases h⟩
theorem over : Rows.reesSimpleRow.holds Try.pinned (OpenSpec.ofChange Rows.reesSimpleSpec) :=
  OpenClaim.holds_of_wide 6 Try.f6 rfl rfl rfl rfl rfl rfl rfl ⟨rfl, rfl, rfl, rfl, rfl⟩ rfl rfl rfl rfl rfl (by kernel_rfl) Try.func6 (by kernel_rfl)
    (of_decide_eq_true (by kernel_rfl)) (by unfold Func.isWrapper; first | (rw [if_pos (by decide +kernel)]; kernel_rfl) | (rw [if_neg (by decide +kernel)]; exact ⟨rfl, rfl⟩))
    (fun os started H enc _ => lifted os started H enc)
theorem proved : Rows.ReesSimpleSaid := over
#print axioms proved
end Go.Proofs.Ytnoickhdbinciaa.reesSimple
namespace Go.Proofs.Ytnoickhdbinciaa
/-- The row, under a short name, for the claim. -/
theorem reesSimple_holds : Rows.ReesSimpleSaid := reesSimple.proved
end Go.Proofs.Ytnoickhdbinciaa
