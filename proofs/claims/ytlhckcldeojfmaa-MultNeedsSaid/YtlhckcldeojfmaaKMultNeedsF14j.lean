/- What the printed functions Generators and Indecomposable of the program answer. No condition but that a table comes in. -/
import Derived.Test.YtlhckcldeojfmaaKMultNeedsF14g
import Derived.Test.YtlhckcldeojfmaaKMultNeedsP2
namespace Go.Proofs.Ytlhckcldeojfmaa.F
open Go.RowKit Go.Proofs.YtlhckcldeojfmaaW.PrintWords Go.Proofs.Ytlhckcldeojfmaa.B Go.Proofs.Ytlhckcldeojfmaa.PAll
set_option linter.unusedVariables false
set_option linter.unusedSimpArgs false
open Classical

/-- The generators, found greedily. -/
noncomputable def gsp (t : List (List Int)) : Nat → List Int
  | 0 => []
  | x + 1 => if Cl t (gsp t x) x then gsp t x else gsp t x ++ [(x : Int)]
theorem Cl.mono {t : List (List Int)} {l m : List Int} (h : ∀ x ∈ l, x ∈ m) {x : Int} (hx : Cl t l x) : Cl t m x := by
  induction hx with
  | base a b c => exact .base (h _ a) b c
  | mul _ _ i j => exact .mul i j
theorem gsp_ok {t : List (List Int)} : ∀ k, k ≤ t.length → El t (gsp t k) ∧ (gsp t k).length ≤ k ∧ ∀ y : Int, 0 ≤ y → y < k → Cl t (gsp t k) y
  | 0, _ => ⟨by simp [gsp, El], by simp [gsp], fun y a b => by omega⟩
  | k + 1, hk => by
    obtain ⟨a, b, c⟩ := gsp_ok (t := t) k (by omega)
    unfold gsp
    by_cases h : Cl t (gsp t k) k
    · rw [if_pos h]
      refine ⟨a, by omega, fun y y0 y1 => ?_⟩
      by_cases hy : y = (k : Int)
      · rw [hy]; exact h
      · exact c y y0 (by omega)
    · rw [if_neg h]
      refine ⟨fun x hx => ?_, by simp; omega, fun y y0 y1 => ?_⟩
      · rcases List.mem_append.1 hx with hx | hx
        · exact a x hx
        · have : x = (k : Int) := by simpa using hx
          omega
      · by_cases hy : y = (k : Int)
        · rw [hy]; exact .base (by simp) (by omega) (by omega)
        · exact (c y y0 (by omega)).mono (fun x hx => List.mem_append_left _ hx)
/-- Marks of what is generated. -/
def MkC (t : List (List Int)) (l : List Int) (b : List Bool) : Prop := b.length = t.length ∧ ∀ y : Int, 0 ≤ y → y < (t.length : Int) → (rdOf false b y = true ↔ Cl t l y)
theorem mult_Generators_l1 {t : List (List Int)} (hs : Sq t) {l g : List Int} {b : List Bool} {x : Int} (x0 : 0 ≤ x) (x1 : x < (t.length : Int)) {r : List Int} (hb : b.length = t.length) (hg : El t g) (hgl : g.length ≤ 400)
    (hK : ∀ b', b'.length = t.length → (∀ y : Int, 0 ≤ y → y < (t.length : Int) → (rdOf false b' y = true ↔ rdOf false b y = true ∨ y ∈ g)) → Ev (fun k => mult_Generators.l0 k t l b' (t.length : Int) (x + 1)) r) :
    Ev (fun k => mult_Generators.l1 k t l b (t.length : Int) x g (g.length : Int) 0) r := by
  have hle := hs.le
  refine ev_for (α := List Bool) (g := fun i b k => mult_Generators.l1 k t l b (t.length : Int) x g (g.length : Int) i) (g.length : Int) (fun i b' => b'.length = t.length ∧ ∀ y : Int, 0 ≤ y → y < (t.length : Int) → (rdOf false b' y = true ↔ rdOf false b y = true ∨ ∃ j : Int, 0 ≤ j ∧ j < i ∧ rd g j = y)) ?_ ?_ 0 b (by omega) (by omega) ⟨hb, fun y a c => ⟨fun h => .inl h, fun h => h.elim id (fun ⟨j, a, b, _⟩ => absurd b (by omega))⟩⟩
  · intro i b' i0 i1 ⟨h1, h2⟩
    right
    have hge := hg _ (rd_mem i0 i1)
    refine ⟨b'.set (rd g i).toNat true, ⟨by simpa using h1, fun y y0 y1 => ?_⟩, fun H => ?_⟩
    · rw [rb_set hge.1 (by omega) y0]
      by_cases hy : y = rd g i
      · rw [if_pos hy]
        simp only [true_iff]
        exact .inr ⟨i, i0, by omega, hy.symm⟩
      · rw [if_neg hy, h2 y y0 y1]
        constructor
        · rintro (h | ⟨j, a, c, d⟩)
          · exact .inl h
          · exact .inr ⟨j, a, by omega, d⟩
        · rintro (h | ⟨j, a, c, d⟩)
          · exact .inl h
          · refine .inr ⟨j, a, ?_, d⟩
            have : j ≠ i := by rintro rfl; exact hy d.symm
            omega
    · apply ev_succ
      simp only [mult_Generators.l1]
      rw [wrap_add i0 i1 (by omega)]
      exact ev_pos i1 (ev_pos i0 (ev_pos i1 (ev_pos hge.1 (ev_pos (by omega) H))))
  · intro b' ⟨h1, h2⟩
    apply ev_succ
    simp only [mult_Generators.l1]
    rw [wrap_add x0 x1 (by omega)]
    refine ev_neg (by omega) (hK b' h1 fun y y0 y1 => ?_)
    rw [h2 y y0 y1, rd_mem_iff]
theorem mult_Generators_ev {t : List (List Int)} (ht : In2 t) : Ev (fun k => mult_Generators.f k t) (if val t = 0 then gsp t t.length else []) := by
  unfold mult_Generators.f
  refine ev_call (mult_Validate_ev ht) (ev_ite (fun h => ?_) (fun h => ev_some (by rw [if_neg h])))
  rw [if_pos h]
  have hv := va_of h
  have hs := hv.toSq
  have hle := hs.le
  refine ev_pos (by omega) (ev_pos (by omega) ?_)
  refine ev_for (α := List Int × List Bool) (g := fun x s k => mult_Generators.l0 k t s.1 s.2 (t.length : Int) x) (t.length : Int) (fun x s => s.1 = gsp t x.toNat ∧ MkC t s.1 s.2) ?_ ?_ 0 ([], _) (by omega) (by omega) ⟨rfl, by simp, fun y y0 y1 => ?_⟩
  · rintro x ⟨l, b⟩ x0 x1 ⟨h1, h2⟩
    simp only at h1 h2
    obtain ⟨k, rfl⟩ : ∃ k : Nat, x = (k : Int) := ⟨x.toNat, by omega⟩
    rw [Int.toNat_natCast] at h1
    obtain ⟨ga, gb, gc⟩ := gsp_ok (t := t) k (by omega)
    rw [← h1] at ga gb gc
    have hnx : gsp t ((k : Int) + 1).toNat = if Cl t l k then l else l ++ [(k : Int)] := by
      rw [show ((k : Int) + 1).toNat = k + 1 by omega]
      show (if Cl t (gsp t k) k then gsp t k else gsp t k ++ [(k : Int)]) = _
      rw [← h1]
    have hbl := h2.1
    by_cases hc : Cl t l k
    · right
      refine ⟨(l, b), ⟨by rw [hnx, if_pos hc], h2⟩, fun H => ?_⟩
      apply ev_succ
      simp only [mult_Generators.l0]
      rw [wrap_add x0 x1 (by omega)]
      exact ev_pos x1 (ev_pos x0 (ev_pos (by omega) (ev_pos ((h2.2 k x0 x1).2 hc) H)))
    · refine Classical.byContradiction fun hno => hno (.inl ?_)
      have hE : El t (l ++ [(k : Int)]) := by
        intro y hy
        rcases List.mem_append.1 hy with hy | hy
        · exact ga y hy
        · have : y = (k : Int) := by simpa using hy
          omega
      apply ev_succ
      simp only [mult_Generators.l0]
      refine ev_pos x1 (ev_pos x0 (ev_pos (by omega) (ev_neg (fun hh => hc ((h2.2 k x0 x1).1 hh)) (ev_pos (by omega) (ev_call (ev_some rfl) ?_)))))
      rw [mult_generated_ev hv hE (by simp; omega)]
      refine ev_call (ev_some rfl) ?_
      have hsl := sel_len (P := Cl t (l ++ [(k : Int)])) (i := 0) (m := t.length)
      refine mult_Generators_l1 hs x0 x1 hbl (fun y hy => (sel_mem.1 hy).2.2.el hs) (by omega) fun b' hb' hm => ?_
      refine Classical.byContradiction fun hn => hno (.inr ⟨(l ++ [(k : Int)], b'), ⟨by rw [hnx, if_neg hc], hb', fun y y0 y1 => ?_⟩, fun H => absurd H hn⟩)
      rw [hm y y0 y1, h2.2 y y0 y1, sel_mem]
      constructor
      · rintro (h | h)
        · exact h.mono (fun z hz => List.mem_append_left _ hz)
        · exact h.2.2
      · exact fun h => .inr ⟨y0, by omega, h⟩
  · rintro ⟨l, b⟩ ⟨h1, h2⟩
    simp only at h1
    apply ev_succ
    simp only [mult_Generators.l0]
    exact ev_neg (by omega) (ev_some (by rw [h1, Int.toNat_natCast]))
  · rw [show ((t.length : Int)).toNat = t.length by omega, rb_rep y0 y1]
    simp only [Bool.false_eq_true, false_iff]
    intro hc
    clear y0 y1
    induction hc with
    | base h _ _ => simp at h
    | mul _ _ i _ => exact i
/-- A product of two. -/
def Prd (t : List (List Int)) (x : Int) : Prop := ∃ a b : Int, 0 ≤ a ∧ a < (t.length : Int) ∧ 0 ≤ b ∧ b < (t.length : Int) ∧ M t a b = x
noncomputable def ind (t : List (List Int)) : List Int := sel (fun x => ¬ Prd t x) 0 t.length
theorem mult_Indecomposable_ev {t : List (List Int)} (ht : In2 t) : Ev (fun k => mult_Indecomposable.f k t) (if val t = 0 then ind t else []) := by
  unfold mult_Indecomposable.f
  refine ev_call (mult_Validate_ev ht) (ev_ite (fun h => ?_) (fun h => ev_some (by rw [if_neg h])))
  rw [if_pos h]
  have hs := (va_of h).toSq
  have hle := hs.le
  refine ev_pos (by omega) (ev_pos (by omega) ?_)
  refine ev_for (α := List Bool) (g := fun a b k => mult_Indecomposable.l0 k b t (t.length : Int) a) (t.length : Int) (fun a b => b.length = t.length ∧ ∀ y : Int, 0 ≤ y → y < (t.length : Int) → (rdOf false b y = true ↔ ∃ a' c : Int, 0 ≤ a' ∧ a' < a ∧ 0 ≤ c ∧ c < (t.length : Int) ∧ M t a' c = y)) ?_ ?_ 0 _ (by omega) (by omega) ⟨by simp, fun y y0 y1 => ?_⟩
  · intro a b a0 a1 ⟨h1, h2⟩
    have hr := hs.row a a0 a1
    refine Classical.byContradiction fun hno => hno (.inl ?_)
    apply ev_succ
    simp only [mult_Indecomposable.l0, rdR]
    refine ev_pos a1 (ev_pos a0 (ev_pos a1 ?_))
    rw [hr]
    refine ev_for (α := List Bool) (g := fun c b k => mult_Indecomposable.l1 k b t (t.length : Int) a (R t a) (t.length : Int) c) (t.length : Int) (fun c b => b.length = t.length ∧ ∀ y : Int, 0 ≤ y → y < (t.length : Int) → (rdOf false b y = true ↔ ∃ a' c' : Int, 0 ≤ a' ∧ 0 ≤ c' ∧ c' < (t.length : Int) ∧ (a' < a ∨ (a' = a ∧ c' < c)) ∧ M t a' c' = y)) ?_ ?_ 0 b (by omega) (by omega) ⟨h1, fun y y0 y1 => ?_⟩
    · intro c b c0 c1 ⟨q1, q2⟩
      right
      have m0 := hs.lo a c a0 a1 c0 c1
      have m1 := hs.hi a c a0 a1 c0 c1
      refine ⟨b.set (M t a c).toNat true, ⟨by simpa using q1, fun y y0 y1 => ?_⟩, fun H => ?_⟩
      · rw [rb_set m0 (by omega) y0]
        by_cases hy : y = M t a c
        · rw [if_pos hy]
          simp only [true_iff]
          exact ⟨a, c, a0, c0, c1, .inr ⟨rfl, by omega⟩, hy.symm⟩
        · rw [if_neg hy, q2 y y0 y1]
          constructor
          · rintro ⟨a', c', u1, u2, u3, u4, u5⟩
            exact ⟨a', c', u1, u2, u3, by omega, u5⟩
          · rintro ⟨a', c', u1, u2, u3, u4, u5⟩
            have : ¬ (a' = a ∧ c' = c) := by rintro ⟨rfl, rfl⟩; exact hy u5.symm
            exact ⟨a', c', u1, u2, u3, by omega, u5⟩
      · apply ev_succ
        simp only [mult_Indecomposable.l1, rdM]
        rw [wrap_add c0 c1 (by omega)]
        exact ev_pos c1 (ev_pos c0 (ev_pos (by omega) (ev_pos m0 (ev_pos (by omega) H))))
    · intro b ⟨q1, q2⟩
      apply ev_succ
      simp only [mult_Indecomposable.l1]
      rw [wrap_add a0 a1 (by omega)]
      refine ev_neg (by omega) (Classical.byContradiction fun hn => hno (.inr ⟨b, ⟨q1, fun y y0 y1 => ?_⟩, fun H => absurd H hn⟩))
      rw [q2 y y0 y1]
      constructor
      · rintro ⟨a', c', u1, u2, u3, u4, u5⟩; exact ⟨a', c', u1, by omega, u2, u3, u5⟩
      · rintro ⟨a', c', u1, u2, u3, u4, u5⟩; exact ⟨a', c', u1, u3, u4, by omega, u5⟩
    · rw [h2 y y0 y1]
      constructor
      · rintro ⟨a', c', u1, u2, u3, u4, u5⟩; exact ⟨a', c', u1, u3, u4, by omega, u5⟩
      · rintro ⟨a', c', u1, u2, u3, u4, u5⟩; exact ⟨a', c', u1, by omega, u2, u3, u5⟩
  · intro b ⟨h1, h2⟩
    apply ev_succ
    simp only [mult_Indecomposable.l0]
    refine ev_neg (by omega) ?_
    rw [h1]
    have hp : ∀ y : Int, 0 ≤ y → y < (t.length : Int) → (rdOf false b y = true ↔ Prd t y) := h2
    refine ev_for (α := List Int) (g := fun y l k => mult_Indecomposable.l2 k l b (t.length : Int) y) (t.length : Int) (fun y l => l = sel (fun x => ¬ Prd t x) 0 y.toNat) ?_ ?_ 0 [] (by omega) (by omega) (by simp [sel])
    · intro y l y0 y1 hl
      right
      obtain ⟨k, rfl⟩ : ∃ k : Nat, y = (k : Int) := ⟨y.toNat, by omega⟩
      have hlen := sel_len (P := fun x => ¬ Prd t x) (i := 0) (m := k)
      rw [Int.toNat_natCast] at hl
      rw [← hl] at hlen
      have hn : sel (fun x => ¬ Prd t x) 0 ((k : Int) + 1).toNat = if Prd t k then l else l ++ [(k : Int)] := by
        rw [show ((k : Int) + 1).toNat = k + 1 by omega, sel_snoc, ← hl, Int.zero_add]
        by_cases hq : Prd t k
        · rw [if_pos hq]; simp [sel, hq]
        · rw [if_neg hq]; simp [sel, hq]
      by_cases hq : Prd t k
      · refine ⟨l, by rw [hn, if_pos hq], fun H => ?_⟩
        apply ev_succ
        simp only [mult_Indecomposable.l2]
        rw [wrap_add y0 y1 (by omega)]
        exact ev_pos y1 (ev_pos y0 (ev_pos (by omega) (ev_pos ((hp k y0 y1).2 hq) H)))
      · refine ⟨l ++ [(k : Int)], by rw [hn, if_neg hq], fun H => ?_⟩
        apply ev_succ
        simp only [mult_Indecomposable.l2]
        rw [wrap_add y0 y1 (by omega)]
        exact ev_pos y1 (ev_pos y0 (ev_pos (by omega) (ev_neg (fun hh => hq ((hp k y0 y1).1 hh)) (ev_pos (by omega) H))))
    · intro l hl
      apply ev_succ
      simp only [mult_Indecomposable.l2]
      exact ev_neg (by omega) (ev_some (by rw [hl, Int.toNat_natCast]; rfl))
  · rw [show ((t.length : Int)).toNat = t.length by omega, rb_rep y0 y1]
    simp only [Bool.false_eq_true, false_iff]
    rintro ⟨a', c', u1, u2, _⟩
    omega
theorem ind_in {t : List (List Int)} (hs : Sq t) {l : List Int} {x : Int} (hx : x ∈ ind t) (hc : Cl t l x) : x ∈ l := by
  have hn := (sel_mem.1 hx).2.2
  cases hc with
  | base h _ _ => exact h
  | mul h1 h2 => exact absurd ⟨_, _, (h1.el hs).1, (h1.el hs).2, (h2.el hs).1, (h2.el hs).2, rfl⟩ hn
end Go.Proofs.Ytlhckcldeojfmaa.F
