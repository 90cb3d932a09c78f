/- Rows compared, members; tables of Rees matrix semigroups, regularity. What they answer. No condition but that a structure comes in. -/
import Derived.Test.YtmdndoghdbhipaaRGreenStableF6
import Derived.Test.YtmdndoghdbhipaaAbAW
import Derived.Test.YtmdndoghdbhipaaAbM10
set_option linter.unusedVariables false
set_option linter.unusedSimpArgs false
namespace Go.Ab
open Go
theorem semigroupref03_Same_ev {a b : Sl} {x y : List Int} {H : AH} {lo : Nat} (ha : Row H a x) (hb : Row H b y) (hl : x.length ≤ 9223372036854775807) : Ev (fun ρ k κ => semigroupref03_Same k a b lo H κ) (Is (decide (x = y)) H) := by
  refine ev_eq (fun _ k _ => semigroupref03_Same_eq k) ?_
  rw [ha.len, hb.len]
  refine ev_nif (fun h => ev_ret ⟨by rw [decide_eq_false]; exact fun e => h (by rw [e]), rfl⟩) (fun h => ?_)
  refine ev_for0 (g := fun i ρ k κ => semigroupref03_Same_1 k a b (x.length : Int) i lo H κ) (x.length : Int) (fun i => ∀ j : Int, 0 ≤ j → j < i → rd x j = rd y j) ?_ ?_ 0 (by omega) (by omega) (fun j a b => by omega)
  · intro i i0 i1 hi
    by_cases hv : rd x i = rd y i
    · right
      refine ⟨fun j a b => ?_, fun h' => ?_⟩
      · by_cases hj : j = i
        · rw [hj]; exact hv
        · exact hi j a (by omega)
      · refine ev_eq (fun _ k _ => semigroupref03_Same_1_eq k) (ev_pos i1 (ev_rdI ha i0 i1 (ev_rdI hb i0 (by omega) (ev_nneg hv ?_))))
        rw [W_add i0 i1 (by omega)]; exact h'
    · left
      refine ev_eq (fun _ k _ => semigroupref03_Same_1_eq k) (ev_pos i1 (ev_rdI ha i0 i1 (ev_rdI hb i0 (by omega) (ev_npos hv (ev_ret ⟨by rw [decide_eq_false]; exact fun e => hv (by rw [e]), rfl⟩)))))
  · intro hi
    refine ev_eq (fun _ k _ => semigroupref03_Same_1_eq k) (ev_neg (by omega) (ev_ret ⟨?_, rfl⟩))
    rw [decide_eq_true]
    exact rd_ext (by omega) hi
theorem Mk.zero {P : List (List Int)} {m k : Int} (m0 : 0 ≤ m) (k0 : 0 ≤ k) : Mk P m k 0 0 (List.replicate m.toNat false) (List.replicate k.toNat false) := by
  refine ⟨by simp; omega, by simp; omega, fun i' a0 a1 => ?_, fun l' a0 a1 => ?_⟩
  · rw [rb_rep a0 (by omega)]
    simp only [Bool.false_eq_true, false_iff]
    rintro ⟨l', s1, s2, s3, s4, s5⟩
    omega
  · rw [rb_rep a0 (by omega)]
    simp only [Bool.false_eq_true, false_iff]
    rintro ⟨i', s1, s2, s3, s4, s5⟩
    omega
end Go.Ab
