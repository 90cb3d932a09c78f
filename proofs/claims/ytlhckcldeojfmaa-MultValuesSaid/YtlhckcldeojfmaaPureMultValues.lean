/- The pure statement of MultValues: for every table, images and words the printed law answers true. No condition. -/
import Derived.Test.YtlhckcldeojfmaaF14e
import Derived.Test.YtlhckcldeojfmaaPAllx3
import Derived.Test.YtlhckcldeojfmaaPAllx15
namespace Go.Proofs.Ytlhckcldeojfmaa.Pure
open Go.RowKit Go.Proofs.YtlhckcldeojfmaaW.PrintWords Go.Proofs.Ytlhckcldeojfmaa.B Go.Proofs.Ytlhckcldeojfmaa.F Go.Proofs.Ytlhckcldeojfmaa.PAll
set_option linter.unusedVariables false
theorem idn_spec {t : List (List Int)} (h : 0 ≤ idn t) : idn t < (t.length : Int) ∧ ∀ x : Int, 0 ≤ x → x < (t.length : Int) → M t (idn t) x = x ∧ M t x (idn t) = x := by
  unfold idn at *
  rcases first_spec (n := t.length) (P := IsId t) with ⟨e, _⟩ | ⟨_, b, c, _⟩
  · omega
  · exact ⟨b, c⟩
theorem value_append {t : List (List Int)} (hv : Va t) {im : List Int} {u w : ByteArray} (hu : 0 ≤ value t im u) (hw : 0 ≤ value t im w) (hs : ((u ++ w).size : Int) ≤ 2048) :
    value t im (u ++ w) = M t (value t im u) (value t im w) ∧ value t im u < (t.length : Int) ∧ value t im w < (t.length : Int) := by
  unfold value at hu hw
  split at hu
  · rename_i h1
    split at hw
    · rename_i h2
      obtain ⟨hE, wu⟩ := h1
      obtain ⟨_, ww⟩ := h2
      have hsz : (u ++ w).size = u.size + w.size := ByteArray.size_append
      have wuw : WordOk (u ++ w) (im.length : Int) := by
        refine ⟨wu.1, wu.2.1, hs, fun i i0 i1 => ?_⟩
        rw [bt_append u w i0]
        split
        · exact wu.2.2.2 i i0 (by omega)
        · exact ww.2.2.2 _ (by omega) (by omega)
      unfold value
      rw [if_pos (show El t im ∧ WordOk (u ++ w) (im.length : Int) from ⟨hE, wuw⟩), if_pos (show El t im ∧ WordOk u (im.length : Int) from ⟨hE, wu⟩), if_pos (show El t im ∧ WordOk w (im.length : Int) from ⟨hE, ww⟩)]
      by_cases hu0 : u.size = 0
      · rw [if_pos hu0] at hu ⊢
        obtain ⟨i1, i2⟩ := idn_spec hu
        have hbt : ∀ i : Int, 0 ≤ i → bt (u ++ w) i = bt w i := fun i i0 => by rw [bt_append u w i0, if_neg (by omega), hu0]; simp
        have hvl : ∀ i, vl t im (u ++ w) i = vl t im w i := by
          intro i
          induction i with
          | zero => simp only [vl]; rw [hbt 0 (Int.le_refl _)]
          | succ i ih => simp only [vl]; rw [ih, hbt _ (by omega)]
        by_cases hw0 : w.size = 0
        · rw [if_pos hw0] at hw ⊢
          rw [if_pos (show (u ++ w).size = 0 by omega)]
          exact ⟨(i2 _ hw i1).1.symm, i1, i1⟩
        · rw [if_neg hw0] at hw ⊢
          rw [if_neg (show ¬ (u ++ w).size = 0 by omega), hvl, hsz, hu0, Nat.zero_add]
          have hin := vl_in hv.toSq hE ww (w.size - 1) (by omega)
          exact ⟨(i2 _ hin.1 hin.2).1.symm, i1, hin.2⟩
      · rw [if_neg hu0] at hu ⊢
        rw [if_neg (show ¬ (u ++ w).size = 0 by omega)]
        have hin := vl_in hv.toSq hE wu (u.size - 1) (by omega)
        by_cases hw0 : w.size = 0
        · rw [if_pos hw0] at hw ⊢
          obtain ⟨i1, i2⟩ := idn_spec hw
          have hvl : ∀ i, i < u.size → vl t im (u ++ w) i = vl t im u i := by
            intro i hi
            induction i with
            | zero => simp only [vl]; rw [bt_append u w (Int.le_refl _), if_pos (by omega)]
            | succ i ih => simp only [vl]; rw [ih (by omega), bt_append u w (by omega), if_pos (by omega)]
          rw [hsz, hw0, Nat.add_zero, hvl _ (by omega)]
          exact ⟨(i2 _ hin.1 hin.2).2.symm, hin.2, i1⟩
        · rw [if_neg hw0] at hw ⊢
          have hin2 := vl_in hv.toSq hE ww (w.size - 1) (by omega)
          have := vl_append hv hE wu ww (by omega) (w.size - 1) (by omega)
          rw [show (u ++ w).size - 1 = u.size + (w.size - 1) by omega]
          exact ⟨this, hin.2, hin2.2⟩
    · omega
  · omega
open Classical in
theorem MultValues (l0 : List (List Int)) (l1 : List Int) (a2 : ByteArray) (a3 : ByteArray) (h0 : (l0.length ≤ 9223372036854775807 ∧ ∀ v ∈ l0, (v.length ≤ 9223372036854775807 ∧ ∀ u ∈ v, (Lit.int .i64 u).wf = true))) (h1 : (l1.length ≤ 9223372036854775807 ∧ ∀ v ∈ l1, (Lit.int .i64 v).wf = true)) (y1 : l1.length * 8 ≤ 140737488351232) (h2 : a2.size ≤ 140737488351232) (h3 : a3.size ≤ 140737488351232) : ∃ k, semigrouplaw14_MultValues.f k l0 l1 a2 a3 = some true := by
  have awk : Ev (fun k => (semigrouplaw14_awake.f k).bind fun t229 => some t229) true := ev_call awake_ev (ev_some rfl)
  have no : ∀ x y, Ev (fun k => semigrouplaw14_MultValues.j1 k l0 l1 a2 a3 x y true) true := by
    intro x y
    apply ev_succ
    simp only [semigrouplaw14_MultValues.j1]
    exact ev_pos (by simp) awk
  have key : Ev (fun k => semigrouplaw14_MultValues.j0 k l0 l1 a2 a3 false) true := by
    apply ev_succ
    simp only [semigrouplaw14_MultValues.j0]
    refine ev_neg (by simp) (ev_call (mult_Value_ev h0 h1.1) (ev_call (semigroupref14_Valid_ev h0) ?_))
    by_cases hv : val l0 = 0
    · simp only [if_pos hv]
      have va := va_of hv
      have hs := va.toSq
      refine ev_pos (by simp [hv]) (ev_call (semigroupref14_Value_ev hs h1.1) (ev_pos rfl (ev_call (mult_Value_ev h0 h1.1) ?_)))
      simp only [if_pos hv]
      refine ev_ite (fun _ => no _ _) (fun hx => ev_ite (fun _ => no _ _) (fun hy => ?_))
      refine ev_pos (by omega) (ev_call semigroupref01_Valid_ev ?_)
      by_cases hok : WordOk (a2 ++ a3) 6
      · simp only [hok, decide_true, Bool.not_true]
        obtain ⟨e1, e2, e3⟩ := value_append va (u := a2) (w := a3) (im := l1) (by omega) (by omega) hok.2.2.1
        have r1 := hs.row (value l0 l1 a2) (by omega) e2
        apply ev_succ
        simp only [semigrouplaw14_MultValues.j1, rdR]
        refine ev_neg (by simp) (ev_pos e2 (ev_pos e3 (ev_pos (by omega) (ev_call (mult_Value_ev h0 h1.1) (ev_pos (by omega) (ev_pos (by omega) (ev_pos (by omega) (ev_pos ?_ awk))))))))
        rw [if_pos hv]
        exact e1
      · simp only [hok, decide_false, Bool.not_false]
        exact no _ _
    · simp only [if_neg hv]
      exact ev_neg (by simp [hv]) (ev_pos (by simp) awk)
  apply ev_get
  unfold semigrouplaw14_MultValues.f
  refine ev_call (semigroupref14_Shape_ev h0) ?_
  refine ev_ite (fun h => ?_) (fun _ => key)
  by_cases h2 : (l0.length : Int) > 20
  · simp only [h2, decide_true]
    apply ev_succ
    unfold semigrouplaw14_MultValues.j0
    exact ev_pos rfl awk
  · simp only [h2, decide_false]
    exact key
end Go.Proofs.Ytlhckcldeojfmaa.Pure
