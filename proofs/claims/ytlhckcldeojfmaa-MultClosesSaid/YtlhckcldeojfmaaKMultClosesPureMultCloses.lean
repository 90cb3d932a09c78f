/- The pure statement of MultCloses: for every table and lists the printed law answers true. No condition. -/
import Derived.Test.YtlhckcldeojfmaaKMultClosesF14g
import Derived.Test.YtlhckcldeojfmaaKMultClosesF14h
import Derived.Test.YtlhckcldeojfmaaKMultClosesP2
namespace Go.Proofs.Ytlhckcldeojfmaa.Pure
open Go.RowKit Go.Proofs.YtlhckcldeojfmaaW.PrintWords Go.Proofs.Ytlhckcldeojfmaa.B Go.Proofs.Ytlhckcldeojfmaa.F Go.Proofs.Ytlhckcldeojfmaa.PAll
set_option linter.unusedVariables false
theorem in2_sq {t : List (List Int)} (hs : Sq t) : In2 t := by
  have := hs.le
  refine ⟨by omega, fun v hv => ?_⟩
  obtain ⟨i, hi, rfl⟩ := List.getElem_of_mem hv
  have e : t[i] = R t (i : Int) := by
    show _ = t.getD ((i : Int)).toNat []
    rw [List.getD_eq_getElem?_getD]
    simp [hi]
  rw [e]
  have hr := hs.row i (by omega) (by omega)
  refine ⟨by omega, ?_⟩
  rw [rd_all (P := fun u => (Lit.int .i64 u).wf = true)]
  intro y h0 h1
  have a := hs.lo i y (by omega) (by omega) h0 (by omega)
  have b := hs.hi i y (by omega) (by omega) h0 (by omega)
  have c : rd (R t i) y = M t i y := rfl
  simp only [Lit.wf, Bool.and_eq_true, decide_eq_true_eq, IntKind.min, IntKind.max, IntKind.signed, IntKind.bits]
  simp
  omega
open Classical in
theorem sel_pair (P : Int → Prop) (i : Int) (m : Nat) : List.Pairwise (· < ·) (sel P i m) := by
  induction m generalizing i with
  | zero => simp [sel]
  | succ m ih =>
    rw [sel_s]
    split
    · refine List.pairwise_cons.2 ⟨fun x hx => ?_, ih (i + 1)⟩
      have := (sel_mem.1 hx).1
      omega
    · exact ih (i + 1)
theorem sel_asc (P : Int → Prop) (m : Nat) : Ascd (sel P 0 m) := by
  intro i i0 i1
  have h := List.pairwise_iff_getElem.1 (sel_pair P 0 m) (i - 1).toNat i.toNat (by omega) (by omega) (by omega)
  unfold rd
  rw [List.getD_eq_getElem?_getD, List.getD_eq_getElem?_getD, List.getElem?_eq_getElem (by omega), List.getElem?_eq_getElem (by omega)]
  exact h
theorem at_mem {l : List Int} {y : Int} : (0 ≤ atUp l l.length y ↔ y ∈ l) ∧ (0 ≤ atUp l l.length y → atUp l l.length y < (l.length : Int) ∧ rd l (atUp l l.length y) = y) := by
  unfold atUp
  rcases first_spec (n := l.length) (P := fun j => rd l j = y) with ⟨e, h⟩ | ⟨a, b, c, d⟩
  · rw [e]
    refine ⟨⟨fun h => by omega, fun hy => ?_⟩, fun h => by omega⟩
    obtain ⟨i, i0, i1, e2⟩ := rd_mem_iff.1 hy
    exact absurd e2 (h i i0 i1)
  · refine ⟨⟨fun _ => ?_, fun _ => a⟩, fun _ => ⟨b, c⟩⟩
    rw [← c]; exact rd_mem a b
theorem sub_va {t : List (List Int)} (hv : Va t) {l : List Int} (hE : El t l) (ha : Ascd l) (h0 : 0 < l.length) (hc : ∀ x ∈ l, ∀ y ∈ l, M t x y ∈ l) : Va (tab l.length fun i j => atUp l l.length (M t (rd l i) (rd l j))) := by
  have hle := hv.le
  have hlen := asc_len hE ha
  have hm : ∀ i j : Int, 0 ≤ i → i < (l.length : Int) → 0 ≤ j → j < (l.length : Int) → 0 ≤ atUp l l.length (M t (rd l i) (rd l j)) := fun i j a b c d => at_mem.1.2 (hc _ (rd_mem a b) _ (rd_mem c d))
  have hin : ∀ i j : Int, 0 ≤ i → i < (l.length : Int) → 0 ≤ j → j < (l.length : Int) → 0 ≤ atUp l l.length (M t (rd l i) (rd l j)) ∧ atUp l l.length (M t (rd l i) (rd l j)) < (l.length : Int) := fun i j a b c d => ⟨hm i j a b c d, (at_mem.2 (hm i j a b c d)).1⟩
  refine ⟨tab_sq (by omega) (by omega) hin, fun x y z a b c d e f => ?_⟩
  rw [tab_len] at b d f
  have i1 := hin x y a b c d
  have i2 := hin y z c d e f
  rw [tab_M a b c d, tab_M c d e f, tab_M i1.1 i1.2 e f, tab_M a b i2.1 i2.2, (at_mem.2 i1.1).2, (at_mem.2 i2.1).2]
  have hx := hE _ (rd_mem a b)
  have hy := hE _ (rd_mem c d)
  have hz := hE _ (rd_mem e f)
  rw [hv.asc _ _ _ hx.1 hx.2 hy.1 hy.2 hz.1 hz.2]
open Classical in
theorem MultCloses (l0 : List (List Int)) (l1 : List Int) (l2 : List Int) (h0 : (l0.length ≤ 9223372036854775807 ∧ ∀ v ∈ l0, (v.length ≤ 9223372036854775807 ∧ ∀ u ∈ v, (Lit.int .i64 u).wf = true))) (h1 : (l1.length ≤ 9223372036854775807 ∧ ∀ v ∈ l1, (Lit.int .i64 v).wf = true)) (y1 : l1.length * 8 ≤ 140737488351232) (h2 : (l2.length ≤ 9223372036854775807 ∧ ∀ v ∈ l2, (Lit.int .i64 v).wf = true)) (y2 : l2.length * 8 ≤ 140737488351232) : ∃ k, semigrouplaw14_MultCloses.f k l0 l1 l2 = some true := by
  have awk : ∀ n : Nat, Ev (fun k => (semigrouplaw14_awake.f k).bind fun t => some t) true := fun _ => ev_call awake_ev (ev_some rfl)
  have no : Ev (fun k => semigrouplaw14_MultCloses.j0 k l0 l1 l2 true) true := by
    apply ev_succ
    simp only [semigrouplaw14_MultCloses.j0]
    exact ev_pos (by simp) (awk 0)
  apply ev_get
  unfold semigrouplaw14_MultCloses.f
  have hsmall : Ev (fun k => semigrouplaw14_small.f k l0 14) (decide ((l0.length : Int) ≤ 14) && (val l0 == 0)) := by
    unfold semigrouplaw14_small.f
    refine ev_ite (fun h => ev_call (semigroupref14_Valid_ev h0) (ev_some (by simp [h]))) (fun h => ev_some (by simp [h]))
  refine ev_call hsmall (ev_ite (fun hsm => ?_) (fun _ => no))
  have hval : val l0 = 0 := by simp at hsm; exact hsm.2
  have hv := va_of hval
  have hs := hv.toSq
  have hle := hs.le
  refine ev_call (semigroupref14_In_ev h1.1) (ev_ite (fun hin => ?_) (fun _ => no))
  have hE : El l0 l1 := by simpa using hin
  by_cases hz : (l1.length : Int) = 0
  · rw [show ((l1.length : Int) == 0) = true by simp [hz]]
    exact no
  rw [show ((l1.length : Int) == 0) = false by simpa using hz]
  apply ev_succ
  simp only [semigrouplaw14_MultCloses.j0]
  refine ev_neg (by simp) (ev_call (mult_Generated_ev h0 h1.1) ?_)
  rw [if_pos ⟨hval, hE⟩]
  generalize hg : sel (Cl l0 l1) 0 l0.length = g
  have hmem : ∀ x, x ∈ g ↔ Cl l0 l1 x := by
    intro x
    rw [← hg, sel_mem]
    constructor
    · exact fun h => h.2.2
    · intro h
      have := h.el hs
      exact ⟨this.1, by omega, h⟩
  have hgE : El l0 g := fun x hx => ((hmem x).1 hx).el hs
  have hgA : Ascd g := hg ▸ sel_asc _ _
  have hgl : g.length ≤ l0.length := asc_len hgE hgA
  have hcl : ∀ x ∈ g, ∀ y ∈ g, M l0 x y ∈ g := fun x hx y hy => (hmem _).2 (.mul ((hmem x).1 hx) ((hmem y).1 hy))
  have hsub : ∀ x ∈ l1, x ∈ g := fun x hx => (hmem x).2 (.base hx (hE x hx).1 (hE x hx).2)
  have hg0 : 0 < g.length := List.length_pos_of_mem (hsub (rd l1 0) (rd_mem (by omega) (by omega)))
  have hR : subR l0 g = (tab g.length fun i j => atUp g g.length (M l0 (rd g i) (rd g j)), 0) := by
    unfold subR
    rw [if_pos hval, if_pos ⟨hgE, hgA, hg0⟩, if_neg]
    rintro ⟨i, j, a, b, c, d, e⟩
    have := at_mem.1.2 (hcl _ (rd_mem a b) _ (rd_mem c d))
    unfold SubBad at e
    omega
  have hva := sub_va hv hgE hgA hg0 hcl
  refine ev_call (mult_Sub_ev h0 (by omega)) ?_
  rw [hR]
  refine ev_pos rfl (ev_call (mult_Validate_ev (in2_sq hva.toSq)) (ev_pos (val_va.2 hva) ?_))
  rw [show (((tab g.length fun i j => atUp g g.length (M l0 (rd g i) (rd g j))).length : Int) != (g.length : Int)) = false by rw [tab_len]; simp]
  apply ev_succ
  simp only [semigrouplaw14_MultCloses.j1]
  obtain ⟨b, hb, hbe⟩ := semigroupref03_Set_ev (l := g) (n := l0.length) (by omega) (by omega)
  refine ev_neg (by simp) (ev_call hbe ?_)
  have hlen1 := h1.1
  refine ev_for0 (g := fun i k => semigrouplaw14_MultCloses.l0 k l0 l1 l2 g b l1 (l1.length : Int) i) (l1.length : Int) (fun _ => True) ?_ ?_ 0 (by omega) (by omega) trivial
  · intro i i0 i1 _
    right
    refine ⟨trivial, fun H => ?_⟩
    have hx := rd_mem i0 i1
    have hxe := hE _ hx
    have hbl := hb.1
    apply ev_succ
    simp only [semigrouplaw14_MultCloses.l0]
    rw [wrap_add i0 i1 (by omega)]
    exact ev_pos i1 (ev_pos i0 (ev_pos i1 (ev_pos hxe.1 (ev_pos (by omega) (ev_pos ((hb.2 _ hxe.1 hxe.2).2 (hsub _ hx)) H)))))
  · intro _
    apply ev_succ
    simp only [semigrouplaw14_MultCloses.l0]
    refine ev_neg (by omega) (ev_call (mult_Sub_ev h0 h2.1) (ev_ite (fun hR2 => ?_) (fun _ => awk 0)))
    have hcond : El l0 l2 ∧ ∀ x ∈ l2, ∀ y ∈ l2, M l0 x y ∈ l2 := by
      unfold subR at hR2
      rw [if_pos hval] at hR2
      split at hR2
      · rename_i hc
        split at hR2
        · cases hR2
        · rename_i hnb
          refine ⟨hc.1, fun x hx y hy => ?_⟩
          obtain ⟨i, i0, i1, rfl⟩ := rd_mem_iff.1 hx
          obtain ⟨j, j0, j1, rfl⟩ := rd_mem_iff.1 hy
          refine at_mem.1.1 (Classical.byContradiction fun hn => hnb ⟨i, j, i0, i1, j0, j1, ?_⟩)
          unfold SubBad
          omega
      · cases hR2
    obtain ⟨b2, hb2, hbe2⟩ := semigroupref03_Set_ev (l := l2) (n := l0.length) h2.1 (by omega)
    refine ev_call hbe2 ?_
    have hbl2 := hb2.1
    by_cases hall : ∀ x ∈ l1, x ∈ l2
    · have hsup : ∀ x ∈ g, x ∈ l2 := by
        intro x hx
        have hc := (hmem x).1 hx
        clear hx
        induction hc with
        | base h _ _ => exact hall _ h
        | mul _ _ i1 i2 => exact hcond.2 _ i1 _ i2
      refine ev_for0 (g := fun i k => semigrouplaw14_MultCloses.l1 k g b2 l1 (l1.length : Int) i) (l1.length : Int) (fun _ => True) ?_ ?_ 0 (by omega) (by omega) trivial
      · intro i i0 i1 _
        right
        refine ⟨trivial, fun H => ?_⟩
        have hx := rd_mem i0 i1
        have hxe := hE _ hx
        apply ev_succ
        simp only [semigrouplaw14_MultCloses.l1]
        rw [wrap_add i0 i1 (by omega)]
        exact ev_pos i1 (ev_pos i0 (ev_pos i1 (ev_pos hxe.1 (ev_pos (by omega) (ev_pos ((hb2.2 _ hxe.1 hxe.2).2 (hall _ hx)) H)))))
      · intro _
        apply ev_succ
        simp only [semigrouplaw14_MultCloses.l1]
        refine ev_neg (by omega) ?_
        refine ev_for0 (g := fun i k => semigrouplaw14_MultCloses.l2 k b2 g (g.length : Int) i) (g.length : Int) (fun _ => True) ?_ ?_ 0 (by omega) (by omega) trivial
        · intro i i0 i1 _
          right
          refine ⟨trivial, fun H => ?_⟩
          have hx := rd_mem i0 i1
          have hxe := hgE _ hx
          apply ev_succ
          simp only [semigrouplaw14_MultCloses.l2]
          rw [wrap_add i0 i1 (by omega)]
          exact ev_pos i1 (ev_pos i0 (ev_pos i1 (ev_pos hxe.1 (ev_pos (by omega) (ev_pos ((hb2.2 _ hxe.1 hxe.2).2 (hsup _ hx)) H)))))
        · intro _
          apply ev_succ
          simp only [semigrouplaw14_MultCloses.l2]
          exact ev_neg (by omega) (awk 0)
    · refine ev_for0 (g := fun i k => semigrouplaw14_MultCloses.l1 k g b2 l1 (l1.length : Int) i) (l1.length : Int) (fun i => ∀ j : Int, 0 ≤ j → j < i → rd l1 j ∈ l2) ?_ ?_ 0 (by omega) (by omega) (fun j a b => by omega)
      · intro i i0 i1 hi
        have hx := rd_mem i0 i1
        have hxe := hE _ hx
        by_cases hin2 : rd l1 i ∈ l2
        · right
          refine ⟨fun j a b => ?_, fun H => ?_⟩
          · by_cases hji : j = i
            · rw [hji]; exact hin2
            · exact hi j a (by omega)
          · apply ev_succ
            simp only [semigrouplaw14_MultCloses.l1]
            rw [wrap_add i0 i1 (by omega)]
            exact ev_pos i1 (ev_pos i0 (ev_pos i1 (ev_pos hxe.1 (ev_pos (by omega) (ev_pos ((hb2.2 _ hxe.1 hxe.2).2 hin2) H)))))
        · left
          apply ev_succ
          simp only [semigrouplaw14_MultCloses.l1]
          exact ev_pos i1 (ev_pos i0 (ev_pos i1 (ev_pos hxe.1 (ev_pos (by omega) (ev_neg (fun h => hin2 ((hb2.2 _ hxe.1 hxe.2).1 h)) (awk 0))))))
      · intro hi
        refine absurd (fun x hx => ?_) hall
        obtain ⟨i, i0, i1, rfl⟩ := rd_mem_iff.1 hx
        exact hi i i0 i1
end Go.Proofs.Ytlhckcldeojfmaa.Pure
