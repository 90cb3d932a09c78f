/- The statement of ReesFactors: for every input the call returns true and leaves its arguments. No condition. -/
import Derived.Test.YtnoickhdbinciaaRows
import Derived.Test.YtnoickhdbinciaaRReesFactorsChk
import Derived.Test.YtnoickhdbinciaaRReesFactorsL
import Derived.WalkKit
import Derived.ProofKit
import Derived.OpenShut
import Derived.ShutString
import Derived.ChangeOld
import Derived.Below
import Derived.SizedLaws
import Derived.Carry
import Derived.Deep.Fields
namespace Go.Proofs.Ytnoickhdbinciaa.reesFactors
open Go.ChangeShapes Go.WideShapes Go.ChangeAt Go.RowKit Go.Ab
open Go.ChangeMaps (open_string shut_string)
set_option linter.unusedVariables false
theorem own : ownKnob Try.prog.godebug = none := by kernel_rfl
theorem laidOut : laidOutB Try.prog = true := by kernel_rfl
theorem mixed : Try.prog.follows .mixedOrders = true := by kernel_rfl
set_option maxRecDepth 100000 in
theorem lifted (os : Os) (started : os.Started) (H : Type) (enc : TypeId × Value → H) :
    ReturnsInHanded {} Try.checked os 8 .any (Rows.reesFactorsSpec.pre6 enc Try.prog Try.f8 Rows.reesFactorsRow.domain false) (Rows.reesFactorsSpec.post enc Try.prog Try.f8 false true false false) := by
  refine returnsInHanded_of_change_sized (C := Try.checked) own started (by kernel_rfl) Try.func8
    (ChangeSpec.witness6 (enc := enc) (C := Try.checked) false ⟨#[], #[.slice none 0 0], []⟩ 8 (by kernel_rfl) (by kernel_rfl) (by kernel_rfl) (by kernel_rfl)) ?_
  intro W base args ds gs before hval0 hW hcnd hsz0 _
  have hsz : (DataW.weightsEach Try.prog (Try.f8.params.toList ++ Rows.reesFactorsSpec.plain.varTypes Try.prog) (ds ++ gs)).all (· ≤ reachBytes) = true := hsz0
  have hval : ∀ (j : Nat) t v, Try.f8.params[j]? = some t → args[j]? = some v → Value.okWide Try.prog W .any base t v := hval0
  have hW' := hW
  obtain ⟨p, q, hA0, hV, rfl, hfz, hnd⟩ := hW
  have hA : DataW.TrodAll enc Try.prog W 0 (fun _ => true) true Try.f8.params.toList args.toList ds p := hA0
  rw [Try.params8] at hA hval hsz
  obtain ⟨v0, vs0, d0, ds0, p0, q0, hargs, rfl, rfl, h0, r0⟩ := trodAll_cons hA
  obtain ⟨rfl, rfl, rfl⟩ := trodAll_nil r0
  obtain rfl : args = #[v0] := by cases args; simp_all
  obtain ⟨rfl, rfl⟩ := trodVars_none hV
  have k0 := h0
  have lt0 : ∀ x ∈ p0, x.block < W.heap.size := by obtain ⟨m, hm⟩ := k0; exact DataW.trod_lt m _ _ _ hm
  obtain ⟨t0, hr0, hq0⟩ := open_argD (fids := fids) Try.underlying22 (hval 0 22 v0 rfl rfl) h0 (opensD_slice Try.underlying22 (by kernel_rfl) (opensD_slice Try.underlying39 (by kernel_rfl) (opensD_int (fids := fids) Try.underlying3)))
  obtain ⟨l0, b0, rfl, hb0, hl0, hw0⟩ := rowQ_rows hq0
  clear hA0 hval0 hsz0 hsz
  obtain ⟨s0, es0, ht0⟩ := lay_rows l0 b0 hb0 (fun p hp => (hw0 p hp).1) []
  have E : layL [(rows .i64 l0 b0)] [] = ([.sl s0], (lay (rows .i64 l0 b0) []).2) := layL_cons' es0 rfl (layL_nil' _)
  obtain ⟨k, H', h⟩ := law_end (G := G) (g := 34) (args := [.sl s0]) (Go.Ab.law_ReesFactors (H := (lay (rows .i64 l0 b0) []).2) ⟨by simpa using hl0, fun v hv => by obtain ⟨p, hp, rfl⟩ := List.mem_map.1 hv; exact (hw0 p hp).2⟩ (ht0.le (Le.refl _)))
  have h' : run G k PV 34 0 (layL [(rows .i64 l0 b0)] []).1 (layL [(rows .i64 l0 b0)] []).2.length (layL [(rows .i64 l0 b0)] []).2 pr = some (.bool true, H') := by rw [E]; exact h
  refine (law_calls hG mixed (g := 34) rfl (.cons _ _ _ _ hr0 .nil) h').mono fun e W' ⟨he, bel⟩ => ?_
  subst he
  exact ⟨_, rfl, _, _, _, [], _, [], hW', trodAll_mk1 (shut_bool Try.underlying4 _), (trodAll_cons_mk (Below.trod laidOut (by kernel_rfl) (of_decide_eq_true (by kernel_rfl)) k0 bel lt0) trodAll_mk0), rfl, bel.frame _, fun h => by cases h⟩
theorem over : Rows.reesFactorsRow.holds Try.pinned (OpenSpec.ofChange Rows.reesFactorsSpec) :=
  OpenClaim.holds_of_wide 8 Try.f8 rfl rfl rfl rfl rfl rfl rfl ⟨rfl, rfl, rfl, rfl, rfl⟩ rfl rfl rfl rfl rfl (by kernel_rfl) Try.func8 (by kernel_rfl)
    (of_decide_eq_true (by kernel_rfl)) (by unfold Func.isWrapper; first | (rw [if_pos (by decide +kernel)]; kernel_rfl) | (rw [if_neg (by decide +kernel)]; exact ⟨rfl, rfl⟩))
    (fun os started H enc _ => lifted os started H enc)
theorem proved : Rows.ReesFactorsSaid := over
#print axioms proved
end Go.Proofs.Ytnoickhdbinciaa.reesFactors
namespace Go.Proofs.Ytnoickhdbinciaa
/-- The row, under a short name, for the claim. -/
theorem reesFactors_holds : Rows.ReesFactorsSaid := reesFactors.proved
end Go.Proofs.Ytnoickhdbinciaa
