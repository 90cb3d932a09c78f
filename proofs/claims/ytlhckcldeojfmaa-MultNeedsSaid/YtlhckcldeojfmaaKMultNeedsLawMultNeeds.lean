/- The statement of MultNeeds, from its pure statement: for every input the call returns true and leaves its arguments. No condition. -/
import Derived.Test.YtlhckcldeojfmaaRows
import Derived.Test.YtlhckcldeojfmaaKMultNeedsP2
import Derived.Test.YtlhckcldeojfmaaKMultNeedsPureMultNeeds
import Derived.Test.YtlhckcldeojfmaaKMultNeedsOpen
import Derived.Test.YtlhckcldeojfmaaKMultNeedsWSized
import Derived.WalkKit
import Derived.ProofKit
import Derived.OpenShut
import Derived.ShutString
import Derived.ChangeOld
import Derived.Below
import Derived.SizedLaws
import Derived.Carry
import Derived.Deep.Fields
namespace Go.Proofs.Ytlhckcldeojfmaa.multNeeds
open Go.ChangeShapes Go.WideShapes Go.ChangeAt Go.RowKit Go.Proofs.YtlhckcldeojfmaaW.PrintWords Go.Proofs.Ytlhckcldeojfmaa.Open
open Go.ChangeMaps (open_string shut_string)
set_option linter.unusedVariables false
theorem own : ownKnob Try.prog.godebug = none := by kernel_rfl
theorem laidOut : laidOutB Try.prog = true := by kernel_rfl
set_option maxRecDepth 100000 in
theorem lifted (os : Os) (started : os.Started) (H : Type) (enc : TypeId × Value → H) :
    ReturnsInHanded {} Try.checked os 14 .any (Rows.multNeedsSpec.pre6 enc Try.prog Try.f14 Rows.multNeedsRow.domain false) (Rows.multNeedsSpec.post enc Try.prog Try.f14 false true false false) := by
  refine returnsInHanded_of_change_sized (C := Try.checked) own started (by kernel_rfl) Try.func14
    (ChangeSpec.witness6 (enc := enc) (C := Try.checked) false ⟨#[], #[.slice none 0 0, .slice none 0 0], []⟩ 8 (by kernel_rfl) (by kernel_rfl) (by kernel_rfl) (by kernel_rfl)) ?_
  intro W base args ds gs before hval0 hW hcnd hsz0 _
  have hsz : (DataW.weightsEach Try.prog (Try.f14.params.toList ++ Rows.multNeedsSpec.plain.varTypes Try.prog) (ds ++ gs)).all (· ≤ reachBytes) = true := hsz0
  have hval : ∀ (j : Nat) t v, Try.f14.params[j]? = some t → args[j]? = some v → Value.okWide Try.prog W .any base t v := hval0
  have hW' := hW
  obtain ⟨p, q, hA0, hV, rfl, hfz, hnd⟩ := hW
  have hA : DataW.TrodAll enc Try.prog W 0 (fun _ => true) true Try.f14.params.toList args.toList ds p := hA0
  rw [Try.params14] at hA hval hsz
  obtain ⟨v0, vs0, d0, ds0, p0, q0, hargs, rfl, rfl, h0, r0⟩ := trodAll_cons hA
  obtain ⟨v1, vs1, d1, ds1, p1, q1, rfl, rfl, rfl, h1, r1⟩ := trodAll_cons r0
  obtain ⟨rfl, rfl, rfl⟩ := trodAll_nil r1
  obtain rfl : args = #[v0, v1] := by cases args; simp_all
  obtain ⟨rfl, rfl⟩ := trodVars_none hV
  have k0 := h0
  have lt0 : ∀ x ∈ p0, x.block < W.heap.size := by obtain ⟨m, hm⟩ := k0; exact DataW.trod_lt m _ _ _ hm
  obtain ⟨a0, c0, l0, rfl, hc0, hr0, hq0⟩ := open_arg (en := 30) Try.underlying22 (hval 0 22 v0 rfl rfl) h0 (opens_slice (en := 30) Try.underlying22 (by kernel_rfl) rfl (opens_slice (en := 3) Try.underlying30 (by kernel_rfl) rfl (opens_int Try.underlying3)))
  have k1 := h1
  have lt1 : ∀ x ∈ p1, x.block < W.heap.size := by obtain ⟨m, hm⟩ := k1; exact DataW.trod_lt m _ _ _ hm
  obtain ⟨a1, c1, l1, rfl, hc1, hr1, hq1⟩ := open_arg (en := 3) Try.underlying30 (hval 1 30 v1 rfl rfl) h1 (opens_slice (en := 3) Try.underlying30 (by kernel_rfl) rfl (opens_int Try.underlying3))
  have y1 : l1.length * 8 ≤ 140737488351232 := sized_ints hsz (j := 1) (t := 30) rfl rfl Try.underlying30 Try.underlying3 (by kernel_rfl) (by kernel_rfl) h1
  clear hA0 hval0 hsz0 hsz
  obtain ⟨k, h⟩ := Pure.MultNeeds l0 l1 hq0 hq1 y1
  refine (PAll.semigrouplaw14_MultNeeds.calls k _ _ l0 _ _ l1 true W hr0 hc0 hr1 hc1 h).mono fun e W' ⟨he, bel0⟩ => ?_
  have bel : Below W.heap.size W W' := by first | exact bel0 | exact bel0.below
  subst he
  exact ⟨_, rfl, _, _, _, [], _, [], hW', trodAll_mk1 (shut_bool Try.underlying4 _), (trodAll_cons_mk (Below.trod laidOut (by kernel_rfl) (of_decide_eq_true (by kernel_rfl)) k0 bel lt0) (trodAll_cons_mk (Below.trod laidOut (by kernel_rfl) (of_decide_eq_true (by kernel_rfl)) k1 bel lt1) trodAll_mk0)), rfl, bel.frame _, fun h => by cases h⟩
theorem over : Rows.multNeedsRow.holds Try.pinned (OpenSpec.ofChange Rows.multNeedsSpec) :=
  OpenClaim.holds_of_wide 14 Try.f14 rfl rfl rfl rfl rfl rfl rfl ⟨rfl, rfl, rfl, rfl, rfl⟩ rfl rfl rfl rfl rfl (by kernel_rfl) Try.func14 (by kernel_rfl)
    (of_decide_eq_true (by kernel_rfl)) (by unfold Func.isWrapper; first | (rw [if_pos (by decide +kernel)]; kernel_rfl) | (rw [if_neg (by decide +kernel)]; exact ⟨rfl, rfl⟩))
    (fun os started H enc _ => lifted os started H enc)
theorem proved : Rows.MultNeedsSaid := over
#print axioms proved
end Go.Proofs.Ytlhckcldeojfmaa.multNeeds
namespace Go.Proofs.Ytlhckcldeojfmaa
/-- The row, under a short name, for the claim. -/
theorem multNeeds_holds : Rows.MultNeedsSaid := multNeeds.proved
end Go.Proofs.Ytlhckcldeojfmaa
