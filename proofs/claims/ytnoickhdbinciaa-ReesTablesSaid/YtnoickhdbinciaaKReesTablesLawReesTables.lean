/- The statement of ReesTables, from its pure statement: for every input the call returns true and leaves its arguments. No condition. -/
import Derived.Test.YtnoickhdbinciaaRows
import Derived.Test.YtnoickhdbinciaaKReesTablesP4
import Derived.Test.YtnoickhdbinciaaKReesTablesPureReesTables
import Derived.Test.YtnoickhdbinciaaKReesTablesOpen
import Derived.Test.YtnoickhdbinciaaKReesTablesWSized
import Derived.WalkKit
import Derived.ProofKit
import Derived.OpenShut
import Derived.ShutString
import Derived.ChangeOld
import Derived.Below
import Derived.SizedLaws
import Derived.Carry
import Derived.Deep.Fields
namespace Go.Proofs.Ytnoickhdbinciaa.reesTables
open Go.ChangeShapes Go.WideShapes Go.ChangeAt Go.RowKit Go.Proofs.YtnoickhdbinciaaW.PrintWords Go.Proofs.Ytnoickhdbinciaa.Open
open Go.ChangeMaps (open_string shut_string)
set_option linter.unusedVariables false
theorem own : ownKnob Try.prog.godebug = none := by kernel_rfl
theorem laidOut : laidOutB Try.prog = true := by kernel_rfl
set_option maxRecDepth 100000 in
theorem lifted (os : Os) (started : os.Started) (H : Type) (enc : TypeId × Value → H) :
    ReturnsInHanded {} Try.checked os 3 .any (Rows.reesTablesSpec.pre6 enc Try.prog Try.f3 Rows.reesTablesRow.domain false) (Rows.reesTablesSpec.post enc Try.prog Try.f3 false true false false) := by
  refine returnsInHanded_of_change_sized (C := Try.checked) own started (by kernel_rfl) Try.func3
    (ChangeSpec.witness6 (enc := enc) (C := Try.checked) false ⟨#[], #[.agg #[.slice none 0 0, .int .i64 0, .int .i64 0, .slice none 0 0, .bool false]], []⟩ 8 (by kernel_rfl) (by kernel_rfl) (by kernel_rfl) (by kernel_rfl)) ?_
  intro W base args ds gs before hval0 hW hcnd hsz0 _
  have hsz : (DataW.weightsEach Try.prog (Try.f3.params.toList ++ Rows.reesTablesSpec.plain.varTypes Try.prog) (ds ++ gs)).all (· ≤ reachBytes) = true := hsz0
  have hval : ∀ (j : Nat) t v, Try.f3.params[j]? = some t → args[j]? = some v → Value.okWide Try.prog W .any base t v := hval0
  have hW' := hW
  obtain ⟨p, q, hA0, hV, rfl, hfz, hnd⟩ := hW
  have hA : DataW.TrodAll enc Try.prog W 0 (fun _ => true) true Try.f3.params.toList args.toList ds p := hA0
  rw [Try.params3] at hA hval hsz
  obtain ⟨v0, vs0, d0, ds0, p0, q0, hargs, rfl, rfl, h0, r0⟩ := trodAll_cons hA
  obtain ⟨rfl, rfl, rfl⟩ := trodAll_nil r0
  obtain rfl : args = #[v0] := by cases args; simp_all
  obtain ⟨rfl, rfl⟩ := trodVars_none hV
  have k0 := h0
  have lt0 : ∀ x ∈ p0, x.block < W.heap.size := by obtain ⟨m, hm⟩ := k0; exact DataW.trod_lt m _ _ _ hm
  obtain ⟨cs0, rfl, sz0, fl0⟩ := open_struct Try.underlying24 (by kernel_rfl) (Go.Deep.hone_of (by kernel_rfl)) (hval 0 24 v0 rfl rfl) h0
  obtain ⟨n0_0, u0_0, y0_0, e0_0, t0_0⟩ := fl0 0 _ rfl
  obtain ⟨l0_0, ⟨A0_0, c0_0, g0_0, hc0_0, hr0_0⟩, hq0_0⟩ := (opens_slice (en := 39) Try.underlying22 (by kernel_rfl) rfl (opens_slice (en := 3) Try.underlying39 (by kernel_rfl) rfl (opens_int Try.underlying3))) _ _ _ t0_0
  obtain rfl := List.head_eq_of_cons_eq g0_0
  obtain ⟨n0_1, u0_1, y0_1, e0_1, t0_1⟩ := fl0 1 _ rfl
  obtain ⟨a0_1, g0_1, w0_1⟩ := (opens_int Try.underlying3) _ _ _ t0_1
  obtain rfl := List.head_eq_of_cons_eq (show [u0_1] = _ from g0_1)
  obtain ⟨n0_2, u0_2, y0_2, e0_2, t0_2⟩ := fl0 2 _ rfl
  obtain ⟨a0_2, g0_2, w0_2⟩ := (opens_int Try.underlying3) _ _ _ t0_2
  obtain rfl := List.head_eq_of_cons_eq (show [u0_2] = _ from g0_2)
  obtain ⟨n0_3, u0_3, y0_3, e0_3, t0_3⟩ := fl0 3 _ rfl
  obtain ⟨l0_3, ⟨A0_3, c0_3, g0_3, hc0_3, hr0_3⟩, hq0_3⟩ := (opens_slice (en := 39) Try.underlying22 (by kernel_rfl) rfl (opens_slice (en := 3) Try.underlying39 (by kernel_rfl) rfl (opens_int Try.underlying3))) _ _ _ t0_3
  obtain rfl := List.head_eq_of_cons_eq g0_3
  obtain ⟨n0_4, u0_4, y0_4, e0_4, t0_4⟩ := fl0 4 _ rfl
  obtain ⟨a0_4, g0_4, w0_4⟩ := (opens_bool Try.underlying4) _ _ _ t0_4
  obtain rfl := List.head_eq_of_cons_eq (show [u0_4] = _ from g0_4)
  obtain rfl : cs0 = #[.slice A0_0 l0_0.length c0_0, .int .i64 a0_1, .int .i64 a0_2, .slice A0_3 l0_3.length c0_3, .bool a0_4] := by
    apply Array.ext_getElem?
    intro i
    rcases i with _ | _ | _ | _ | _ | i
    · exact e0_0
    · exact e0_1
    · exact e0_2
    · exact e0_3
    · exact e0_4
    · rw [Array.getElem?_eq_none (by have := sz0; simp at this; omega), Array.getElem?_eq_none (by simp)]
  clear hA0 hval0 hsz0 hsz
  obtain ⟨k, h⟩ := Pure.ReesTables l0_0 a0_1 a0_2 l0_3 a0_4 hq0_0 w0_1 w0_2 hq0_3
  refine (PAll.semigrouplaw17_ReesTables.calls k _ _ l0_0 a0_1 a0_2 _ _ l0_3 a0_4 true W hr0_0 hc0_0 hr0_3 hc0_3 h).mono fun e W' ⟨he, bel0⟩ => ?_
  have bel : Below W.heap.size W W' := by first | exact bel0 | exact bel0.below
  subst he
  exact ⟨_, rfl, _, _, _, [], _, [], hW', trodAll_mk1 (shut_bool Try.underlying4 _), (trodAll_cons_mk (Below.trod laidOut (by kernel_rfl) (of_decide_eq_true (by kernel_rfl)) k0 bel lt0) trodAll_mk0), rfl, bel.frame _, fun h => by cases h⟩
theorem over : Rows.reesTablesRow.holds Try.pinned (OpenSpec.ofChange Rows.reesTablesSpec) :=
  OpenClaim.holds_of_wide 3 Try.f3 rfl rfl rfl rfl rfl rfl rfl ⟨rfl, rfl, rfl, rfl, rfl⟩ rfl rfl rfl rfl rfl (by kernel_rfl) Try.func3 (by kernel_rfl)
    (of_decide_eq_true (by kernel_rfl)) (by unfold Func.isWrapper; first | (rw [if_pos (by decide +kernel)]; kernel_rfl) | (rw [if_neg (by decide +kernel)]; exact ⟨rfl, rfl⟩))
    (fun os started H enc _ => lifted os started H enc)
theorem proved : Rows.ReesTablesSaid := over
#print axioms proved
end Go.Proofs.Ytnoickhdbinciaa.reesTables
namespace Go.Proofs.Ytnoickhdbinciaa
/-- The row, under a short name, for the claim. -/
theorem reesTables_holds : Rows.ReesTablesSaid := reesTables.proved
end Go.Proofs.Ytnoickhdbinciaa
