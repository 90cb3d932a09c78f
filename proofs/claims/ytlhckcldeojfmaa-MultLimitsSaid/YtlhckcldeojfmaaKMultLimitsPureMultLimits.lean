/- The pure statement of MultLimits: for all numbers the printed law answers true. No condition. -/
import Derived.Test.YtlhckcldeojfmaaKMultLimitsF14f
import Derived.Test.YtlhckcldeojfmaaKMultLimitsP2
namespace Go.Proofs.Ytlhckcldeojfmaa.Pure
open Go.RowKit Go.Proofs.YtlhckcldeojfmaaW.PrintWords Go.Proofs.Ytlhckcldeojfmaa.B Go.Proofs.Ytlhckcldeojfmaa.F Go.Proofs.Ytlhckcldeojfmaa.PAll
set_option linter.unusedVariables false
theorem in2_sq {t : List (List Int)} (hs : Sq t) : In2 t := by
  have := hs.le
  refine ⟨by omega, fun v hv => ?_⟩
  obtain ⟨i, hi, rfl⟩ := List.getElem_of_mem hv
  have e : t[i] = R t (i : Int) := by
    show _ = t.getD ((i : Int)).toNat []
    rw [List.getD_eq_getElem?_getD]
    simp [hi]
  rw [e]
  have hr := hs.row i (by omega) (by omega)
  refine ⟨by omega, ?_⟩
  rw [rd_all (P := fun u => (Lit.int .i64 u).wf = true)]
  intro y h0 h1
  have a := hs.lo i y (by omega) (by omega) h0 (by omega)
  have b := hs.hi i y (by omega) (by omega) h0 (by omega)
  have c : rd (R t i) y = M t i y := rfl
  simp only [Lit.wf, Bool.and_eq_true, decide_eq_true_eq, IntKind.min, IntKind.max, IntKind.signed, IntKind.bits]
  simp
  omega
theorem MultLimits (a0 : Int) (a1 : Int) (h0 : (Lit.int .u8 a0).wf = true) (h1 : (Lit.int .u8 a1).wf = true) : ∃ k, semigrouplaw14_MultLimits.f k a0 a1 = some true := by
  have awk : Ev (fun k => (semigrouplaw14_awake.f k).bind fun t229 => some t229) true := ev_call awake_ev (ev_some rfl)
  have b0 := wf_u8 h0
  have b1 := wf_u8 h1
  have red : ∀ a : Int, 0 ≤ a → a ≤ 255 → wrap64 (Int.tmod (wrap64 a) 30 + 1) = (((a % 30).toNat + 1 : Nat) : Int) := by
    intro a x y
    rw [wrap_in (i := a) (by omega) (by omega), Int.tmod_eq_emod_of_nonneg x, wrap_in (by omega) (by omega)]
    omega
  have hz : ∀ n : Nat, 1 ≤ n → n ≤ 30 → Va (tab n fun _ _ => 0) := by
    intro n x y
    have hl := tab_len n (fun _ _ => (0 : Int))
    refine ⟨tab_sq (by omega) (by omega) (fun _ _ _ _ _ _ => by omega), ?_⟩
    intro x y z a b c d e f
    rw [hl] at b d f
    rw [tab_M a b c d, tab_M c d e f, tab_M (by omega) (by omega) e f, tab_M a b (by omega) (by omega)]
  apply ev_get
  unfold semigrouplaw14_MultLimits.f
  simp only [red a0 b0.1 b0.2, red a1 b1.1 b1.2]
  generalize hn : (a0 % 30).toNat + 1 = n
  generalize hm : (a1 % 30).toNat + 1 = m
  have n1 : 1 ≤ n := by omega
  have n2 : n ≤ 30 := by omega
  have m1 : 1 ≤ m := by omega
  have m2 : m ≤ 30 := by omega
  have vn := hz n n1 n2
  have vm := hz m m1 m2
  refine ev_call (semigrouplaw14_zeros_ev (by omega)) (ev_call (semigrouplaw14_zeros_ev (by omega)) (ev_call (mult_Direct_ev (in2_sq vn.toSq) (in2_sq vm.toSq)) ?_))
  have hb : n * m ≤ 30 * 30 := Nat.mul_le_mul n2 m2
  have hmul : (n : Int) * (m : Int) = ((n * m : Nat) : Int) := (Int.natCast_mul _ _).symm
  rw [hmul, wrap_in (by omega) (by omega), tab_len, tab_len]
  refine ev_ite (fun h => ?_) (fun h => ?_)
  · rw [if_neg (by omega)]
    exact ev_pos (by simp) awk
  · rw [if_pos ⟨val_va.2 vn, val_va.2 vm, by omega⟩]
    refine ev_pos ?_ awk
    unfold dir
    rw [tab_len, tab_len, tab_len]
end Go.Proofs.Ytlhckcldeojfmaa.Pure
