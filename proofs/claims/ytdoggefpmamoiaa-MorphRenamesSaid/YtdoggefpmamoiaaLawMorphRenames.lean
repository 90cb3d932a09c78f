/- The statement of MorphRenames: for every input the call returns true and leaves its arguments. No condition. -/
import Derived.Test.YtdoggefpmamoiaaRows
import Derived.Test.YtdoggefpmamoiaaRMorphRenamesChk
import Derived.Test.YtdoggefpmamoiaaRMorphRenamesL
import Derived.WalkKit
import Derived.ProofKit
import Derived.OpenShut
import Derived.ShutString
import Derived.ChangeOld
import Derived.Below
import Derived.SizedLaws
import Derived.Carry
import Derived.Deep.Fields
namespace Go.Proofs.Ytdoggefpmamoiaa.morphRenames
open Go.ChangeShapes Go.WideShapes Go.ChangeAt Go.RowKit Go.Ab
open Go.ChangeMaps (open_string shut_string)
set_option linter.unusedVariables false
theorem own : ownKnob Try.prog.godebug = none := by kernel_rfl
theorem laidOut : laidOutB Try.prog = true := by kernel_rfl
theorem mixed : Try.prog.follows .mixedOrders = true := by kernel_rfl
set_option maxRecDepth 100000 in
theorem lifted (os : Os) (started : os.Started) (H : Type) (enc : TypeId × Value → H) :
    ReturnsInHanded {} Try.checked os 8 .any (Rows.morphRenamesSpec.pre6 enc Try.prog Try.f8 Rows.morphRenamesRow.domain false) (Rows.morphRenamesSpec.post enc Try.prog Try.f8 false true false false) := by
  refine returnsInHanded_of_change_sized (C := Try.checked) own started (by kernel_rfl) Try.func8
    (ChangeSpec.witness6 (enc := enc) (C := Try.checked) false ⟨#[], #[.slice none 0 0, .slice none 0 0, .int .i64 0, .int .i64 0], []⟩ 8 (by kernel_rfl) (by kernel_rfl) (by kernel_rfl) (by kernel_rfl)) ?_
  intro W base args ds gs before hval0 hW hcnd hsz0 _
  have hsz : (DataW.weightsEach Try.prog (Try.f8.params.toList ++ Rows.morphRenamesSpec.plain.varTypes Try.prog) (ds ++ gs)).all (· ≤ reachBytes) = true := hsz0
  have hval : ∀ (j : Nat) t v, Try.f8.params[j]? = some t → args[j]? = some v → Value.okWide Try.prog W .any base t v := hval0
  have hW' := hW
  obtain ⟨p, q, hA0, hV, rfl, hfz, hnd⟩ := hW
  have hA : DataW.TrodAll enc Try.prog W 0 (fun _ => true) true Try.f8.params.toList args.toList ds p := hA0
  rw [Try.params8] at hA hval hsz
  obtain ⟨v0, vs0, d0, ds0, p0, q0, hargs, rfl, rfl, h0, r0⟩ := trodAll_cons hA
  obtain ⟨v1, vs1, d1, ds1, p1, q1, rfl, rfl, rfl, h1, r1⟩ := trodAll_cons r0
  obtain ⟨v2, vs2, d2, ds2, p2, q2, rfl, rfl, rfl, h2, r2⟩ := trodAll_cons r1
  obtain ⟨v3, vs3, d3, ds3, p3, q3, rfl, rfl, rfl, h3, r3⟩ := trodAll_cons r2
  obtain ⟨rfl, rfl, rfl⟩ := trodAll_nil r3
  obtain rfl : args = #[v0, v1, v2, v3] := by cases args; simp_all
  obtain ⟨rfl, rfl⟩ := trodVars_none hV
  have k0 := h0
  have lt0 : ∀ x ∈ p0, x.block < W.heap.size := by obtain ⟨m, hm⟩ := k0; exact DataW.trod_lt m _ _ _ hm
  obtain ⟨t0, hr0, hq0⟩ := open_argD (fids := fids) Try.underlying22 (hval 0 22 v0 rfl rfl) h0 (opensD_slice Try.underlying22 (by kernel_rfl) (opensD_slice Try.underlying31 (by kernel_rfl) (opensD_int (fids := fids) Try.underlying3)))
  obtain ⟨l0, b0, rfl, hb0, hl0, hw0⟩ := rowQ_rows hq0
  have k1 := h1
  have lt1 : ∀ x ∈ p1, x.block < W.heap.size := by obtain ⟨m, hm⟩ := k1; exact DataW.trod_lt m _ _ _ hm
  obtain ⟨t1, hr1, hq1⟩ := open_argD (fids := fids) Try.underlying31 (hval 1 31 v1 rfl rfl) h1 (opensD_slice Try.underlying31 (by kernel_rfl) (opensD_int (fids := fids) Try.underlying3))
  obtain ⟨l1, b1, rfl, hb1, hl1, hw1⟩ := rowQ_ints hq1
  obtain ⟨a2, rfl, rfl, rfl, w2⟩ := open_int Try.underlying3 (hval 2 3 v2 rfl rfl) h2
  obtain ⟨a3, rfl, rfl, rfl, w3⟩ := open_int Try.underlying3 (hval 3 3 v3 rfl rfl) h3
  clear hA0 hval0 hsz0 hsz
  obtain ⟨s0, es0, ht0⟩ := lay_rows l0 b0 hb0 (fun p hp => (hw0 p hp).1) []
  obtain ⟨s1, es1, ht1⟩ := lay_ints l1 b1 hb1 (lay (rows .i64 l0 b0) []).2
  have E : layL [(rows .i64 l0 b0), (ints .i64 l1 b1), (.one (.int .i64 a2)), (.one (.int .i64 a3))] [] = ([.sl s0, .sl s1, .int .i64 a2, .int .i64 a3], (lay (.one (.int .i64 a3)) (lay (.one (.int .i64 a2)) (lay (ints .i64 l1 b1) (lay (rows .i64 l0 b0) []).2).2).2).2) := layL_cons' es0 rfl (layL_cons' es1 rfl (layL_cons' rfl rfl (layL_cons' rfl rfl (layL_nil' _))))
  obtain ⟨k, H', h⟩ := law_end (G := G) (g := 24) (args := [.sl s0, .sl s1, .int .i64 a2, .int .i64 a3]) (Go.Ab.law_MorphRenames (H := (lay (.one (.int .i64 a3)) (lay (.one (.int .i64 a2)) (lay (ints .i64 l1 b1) (lay (rows .i64 l0 b0) []).2).2).2).2) ⟨by simpa using hl0, fun v hv => by obtain ⟨p, hp, rfl⟩ := List.mem_map.1 hv; exact (hw0 p hp).2⟩ (ht0.le ((lay_le (ints .i64 l1 b1) _).trans ((lay_le (.one (.int .i64 a2)) _).trans ((lay_le (.one (.int .i64 a3)) _).trans (Le.refl _))))) ⟨hl1, hw1⟩ (ht1.le ((lay_le (.one (.int .i64 a2)) _).trans ((lay_le (.one (.int .i64 a3)) _).trans (Le.refl _)))) w2 w3)
  have h' : run G k PV 24 0 (layL [(rows .i64 l0 b0), (ints .i64 l1 b1), (.one (.int .i64 a2)), (.one (.int .i64 a3))] []).1 (layL [(rows .i64 l0 b0), (ints .i64 l1 b1), (.one (.int .i64 a2)), (.one (.int .i64 a3))] []).2.length (layL [(rows .i64 l0 b0), (ints .i64 l1 b1), (.one (.int .i64 a2)), (.one (.int .i64 a3))] []).2 pr = some (.bool true, H') := by rw [E]; exact h
  refine (law_calls hG mixed (g := 24) rfl (.cons _ _ _ _ hr0 (.cons _ _ _ _ hr1 (.cons _ _ _ _ (.one _ _ (.int .i64 a2)) (.cons _ _ _ _ (.one _ _ (.int .i64 a3)) .nil)))) h').mono fun e W' ⟨he, bel⟩ => ?_
  subst he
  exact ⟨_, rfl, _, _, _, [], _, [], hW', trodAll_mk1 (shut_bool Try.underlying4 _), (trodAll_cons_mk (Below.trod laidOut (by kernel_rfl) (of_decide_eq_true (by kernel_rfl)) k0 bel lt0) (trodAll_cons_mk (Below.trod laidOut (by kernel_rfl) (of_decide_eq_true (by kernel_rfl)) k1 bel lt1) (trodAll_cons_mk (shut_int Try.underlying3 w2) (trodAll_cons_mk (shut_int Try.underlying3 w3) trodAll_mk0)))), rfl, bel.frame _, fun h => by cases h⟩
theorem over : Rows.morphRenamesRow.holds Try.pinned (OpenSpec.ofChange Rows.morphRenamesSpec) :=
  OpenClaim.holds_of_wide 8 Try.f8 rfl rfl rfl rfl rfl rfl rfl ⟨rfl, rfl, rfl, rfl, rfl⟩ rfl rfl rfl rfl rfl (by kernel_rfl) Try.func8 (by kernel_rfl)
    (of_decide_eq_true (by kernel_rfl)) (by unfold Func.isWrapper; first | (rw [if_pos (by decide +kernel)]; kernel_rfl) | (rw [if_neg (by decide +kernel)]; exact ⟨rfl, rfl⟩))
    (fun os started H enc _ => lifted os started H enc)
theorem proved : Rows.MorphRenamesSaid := over
#print axioms proved
end Go.Proofs.Ytdoggefpmamoiaa.morphRenames
namespace Go.Proofs.Ytdoggefpmamoiaa
/-- The row, under a short name, for the claim. -/
theorem morphRenames_holds : Rows.MorphRenamesSaid := morphRenames.proved
end Go.Proofs.Ytdoggefpmamoiaa
