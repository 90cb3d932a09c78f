/- What mult.generated answers: the subsemigroup that the elements generate. No condition but that it is a semigroup and they are elements. -/
import Derived.Test.YtlhckcldeojfmaaKMultNeedsHandGen
import Derived.Test.YtlhckcldeojfmaaKMultNeedsF14d
import Derived.Test.YtlhckcldeojfmaaKMultNeedsP2
namespace Go.Proofs.Ytlhckcldeojfmaa.F
open Go.RowKit Go.Proofs.YtlhckcldeojfmaaW.PrintWords Go.Proofs.Ytlhckcldeojfmaa.B Go.Proofs.Ytlhckcldeojfmaa.PAll
set_option linter.unusedVariables false
set_option linter.unusedSimpArgs false

theorem sel_s (P : Int → Prop) (i : Int) (m : Nat) [Decidable (P i)] : sel P i (m + 1) = if P i then i :: sel P (i + 1) m else sel P (i + 1) m := by
  conv => lhs; unfold sel
  by_cases h : P i <;> simp [h]
open Classical in
theorem sel_app (P : Int → Prop) (i : Int) (m m' : Nat) : sel P i (m + m') = sel P i m ++ sel P (i + m) m' := by
  induction m generalizing i with
  | zero => simp [sel]
  | succ m ih =>
    rw [show m + 1 + m' = (m + m') + 1 by omega, sel_s, sel_s, ih, show i + 1 + (m : Int) = i + ((m + 1 : Nat) : Int) by omega]
    split <;> simp
theorem sel_snoc (P : Int → Prop) (i : Int) (m : Nat) : sel P i (m + 1) = sel P i m ++ sel P (i + m) 1 := sel_app P i m 1
theorem trues_sel (b : List Bool) : ∀ k, trues b k = sel (fun x => rdOf false b x = true) 0 k
  | 0 => by simp [trues, sel]
  | k + 1 => by
    rw [sel_snoc, ← trues_sel b k]
    show (if rdOf false b k = true then trues b k ++ [(k : Int)] else trues b k) = _
    rw [Int.zero_add]
    by_cases h : rdOf false b (k : Int) = true
    · rw [if_pos h]; simp [sel, h]
    · rw [if_neg h]; simp [sel, h]
theorem rd_pre {a e : List Int} {i : Int} (h0 : 0 ≤ i) (h : i < (a.length : Int)) : rd (a ++ e) i = rd a i := by
  unfold rd
  rw [List.getD_eq_getElem?_getD, List.getD_eq_getElem?_getD, List.getElem?_append_left (by omega)]
/-- Marked and listed, and generated. -/
structure JG (t : List (List Int)) (l : List Int) (s : GS) : Prop extends GI t.length s where
  mrk : ∀ x : Int, 0 ≤ x → x < (t.length : Int) → (rdOf false s.1 x = true ↔ x ∈ s.2)
  cl : ∀ x ∈ s.2, Cl t l x
section
variable {t : List (List Int)} {l : List Int}
theorem put1_J (hs : Sq t) {s : GS} (h : JG t l s) {x : Int} (hx : Cl t l x) : JG t l (put1 s x) ∧ x ∈ (put1 s x).2 ∧ ∃ e, (put1 s x).2 = s.2 ++ e := by
  obtain ⟨x0, x1⟩ := hx.el hs
  have hl := h.len
  have hg := (put1_ok h.toGI x0 x1).1
  by_cases hin : rdOf false s.1 x = true
  · have e : put1 s x = s := by unfold put1 putB putL; rw [if_pos hin, if_pos hin]
    rw [e]
    exact ⟨h, (h.mrk x x0 x1).1 hin, [], by simp⟩
  · have e : put1 s x = (s.1.set x.toNat true, s.2 ++ [x]) := by unfold put1 putB putL; rw [if_neg hin, if_neg hin]
    rw [e] at hg ⊢
    refine ⟨⟨hg, fun y y0 y1 => ?_, fun y hy => ?_⟩, by simp, [x], rfl⟩
    · rw [rb_set x0 (by omega) y0]
      by_cases hy : y = x
      · rw [if_pos hy, hy]; simp
      · rw [if_neg hy, h.mrk y y0 y1]; simp [hy]
    · rcases List.mem_append.1 hy with hy | hy
      · exact h.cl y hy
      · have : y = x := by simpa using hy
        rw [this]; exact hx
theorem gen0_J (hs : Sq t) (hE : El t l) : ∀ k, k ≤ l.length → JG t l (gen0 t.length l k) ∧ ∀ i, i < k → rd l (i : Nat) ∈ (gen0 t.length l k).2
  | 0, _ => ⟨⟨⟨by simp [gen0], by simp [gen0], by simp [gen0]⟩, fun x x0 x1 => by show rdOf false (List.replicate t.length false) x = true ↔ x ∈ []; rw [rb_rep x0 x1]; simp, by simp [gen0]⟩, fun i hi => by omega⟩
  | k + 1, hk => by
    obtain ⟨a, b⟩ := gen0_J hs hE k (by omega)
    have hm := hand_rd (l := l) (k := k) (by omega)
    obtain ⟨c, d, e, he⟩ := put1_J hs a (.base hm (hE _ hm).1 (hE _ hm).2)
    refine ⟨c, fun i hi => ?_⟩
    show _ ∈ (put1 _ _).2
    by_cases hik : i = k
    · rw [hik]; exact d
    · rw [he]; exact List.mem_append_left _ (b i (by omega))
theorem genI_J (hs : Sq t) (hE : El t l) {s : GS} (h : JG t l s) {i : Nat} (hi : i < s.2.length) : ∀ j, j ≤ l.length → JG t l (genI t l s i j) ∧ (∃ e, (genI t l s i j).2 = s.2 ++ e) ∧ ∀ q, q < j → M t (rd s.2 i) (rd l (q : Nat)) ∈ (genI t l s i j).2
  | 0, _ => ⟨h, ⟨[], by simp [genI]⟩, fun q hq => by omega⟩
  | j + 1, hj => by
    obtain ⟨a, ⟨e, he⟩, b⟩ := genI_J hs hE h hi j (by omega)
    have hr : rd (genI t l s i j).2 (i : Int) = rd s.2 i := by rw [he]; exact rd_pre (by omega) (by omega)
    have hm := hand_rd (l := l) (k := j) (by omega)
    have hcl : Cl t l (M t (rd s.2 (i : Int)) (rd l (j : Int))) := .mul (h.cl _ (hand_rd hi)) (.base hm (hE _ hm).1 (hE _ hm).2)
    obtain ⟨c, d, e2, he2⟩ := put1_J hs a hcl
    have hg : genI t l s i (j + 1) = put1 (genI t l s i j) (M t (rd s.2 (i : Int)) (rd l (j : Int))) := by
      show put1 _ (rd (rd_L1 t (rd (genI t l s i j).2 i)) (rd l j)) = _
      rw [hr]; rfl
    rw [hg]
    refine ⟨c, ⟨e ++ e2, by rw [he2, he, List.append_assoc]⟩, fun q hq => ?_⟩
    by_cases hqj : q = j
    · rw [hqj]; exact d
    · rw [he2]; exact List.mem_append_left _ (b q (by omega))
theorem genR_J (hs : Sq t) (hE : El t l) : ∀ k, (∀ j, j < k → j < (genR t l j).2.length) → JG t l (genR t l k) ∧ (∀ q, q < l.length → rd l (q : Nat) ∈ (genR t l k).2) ∧ ∀ i : Nat, i < k → i < (genR t l k).2.length ∧ ∀ q, q < l.length → M t (rd (genR t l k).2 (i : Nat)) (rd l (q : Nat)) ∈ (genR t l k).2
  | 0, _ => by
    obtain ⟨a, b⟩ := gen0_J hs hE l.length (Nat.le_refl _)
    exact ⟨a, b, fun i hi => by omega⟩
  | k + 1, hall => by
    obtain ⟨a, b, c⟩ := genR_J hs hE k (fun j hj => hall j (by omega))
    have hk := hall k (by omega)
    obtain ⟨d, ⟨e, he⟩, f⟩ := genI_J hs hE a hk l.length (Nat.le_refl _)
    refine ⟨d, fun q hq => ?_, fun i hi => ?_⟩
    · show _ ∈ (genI t l (genR t l k) k l.length).2
      rw [he]; exact List.mem_append_left _ (b q hq)
    · show i < (genI t l (genR t l k) k l.length).2.length ∧ ∀ q, q < l.length → M t (rd (genI t l (genR t l k) k l.length).2 (i : Nat)) (rd l (q : Nat)) ∈ (genI t l (genR t l k) k l.length).2
      by_cases hik : i = k
      · subst hik
        refine ⟨by rw [he]; simp; omega, fun q hq => ?_⟩
        have := f q hq
        rw [he, rd_pre (by omega) (by omega)]
        rw [he] at this
        exact this
      · obtain ⟨c1, c2⟩ := c i (by omega)
        refine ⟨by rw [he]; simp; omega, fun q hq => ?_⟩
        rw [he, rd_pre (by omega) (by omega)]
        exact List.mem_append_left _ (c2 q hq)
theorem least_nat {P : Nat → Prop} (h : ∃ n, P n) : ∃ n, P n ∧ ∀ m, m < n → ¬ P m := by
  obtain ⟨n, hn⟩ := h
  induction n using Nat.strongRecOn with
  | _ n ih =>
    by_cases hx : ∃ m, m < n ∧ P m
    · obtain ⟨m, a, b⟩ := hx; exact ih m a b
    · exact ⟨n, hn, fun m a b => hx ⟨m, a, b⟩⟩
theorem genOk_of (hs : Sq t) (hE : El t l) (hl : l.length ≤ 9223372036854775807) : genOk t l := by
  have hle := hs.le
  refine ⟨by omega, fun v hv => ?_, hE, hl⟩
  obtain ⟨i, hi, rfl⟩ := List.getElem_of_mem hv
  have e : t[i] = R t (i : Int) := by
    show _ = t.getD ((i : Int)).toNat []
    rw [List.getD_eq_getElem?_getD]
    simp [hi]
  rw [e]
  have hr := hs.row i (by omega) (by omega)
  refine ⟨by omega, ?_⟩
  rw [rd_all (P := fun u => 0 ≤ u ∧ u < (t.length : Int))]
  intro y h0 h1
  exact ⟨hs.lo i y (by omega) (by omega) h0 (by omega), hs.hi i y (by omega) (by omega) h0 (by omega)⟩
theorem mult_generated_ev (hv : Va t) (hE : El t l) (hl : l.length ≤ 9223372036854775807) : mult_generated.f t l = some (sel (Cl t l) 0 t.length) := by
  have hs := hv.toSq
  have hok := genOk_of hs hE hl
  obtain ⟨k, hk, hmin⟩ := least_nat (P := fun k => ¬ k < (genR t l k).2.length) (Classical.byContradiction fun hno => by
    have hall : ∀ j, j < (genR t l j).2.length := fun j => Classical.byContradiction fun h => hno ⟨j, h⟩
    have h1 := (genR_ok hok (t.length + 1) (fun j _ => hall j)).cnt
    have h2 := hall (t.length + 1)
    omega)
  have hall : ∀ j, j < k → j < (genR t l j).2.length := fun j hj => Classical.byContradiction fun h => hmin j hj h
  obtain ⟨hkn, hend⟩ := genF_end hok hall hk
  obtain ⟨J, g0, g1⟩ := genR_J hs hE k hall
  unfold mult_generated.f
  rw [if_pos hok, hend, trues_sel]
  congr 1
  refine sel_congr fun x x0 x1 => ?_
  rw [J.mrk x x0 (by omega)]
  refine ⟨fun h => J.cl x h, fun h => ?_⟩
  have right : ∀ y, Cl t l y → ∀ x ∈ (genR t l k).2, M t x y ∈ (genR t l k).2 := by
    intro y hy
    induction hy with
    | base hm a b =>
      intro x hx
      obtain ⟨i, i0, i1, rfl⟩ := rd_mem_iff.1 hx
      obtain ⟨q, q0, q1, rfl⟩ := rd_mem_iff.1 hm
      have := (g1 i.toNat (by omega)).2 q.toNat (by omega)
      rwa [show ((i.toNat : Nat) : Int) = i by omega, show ((q.toNat : Nat) : Int) = q by omega] at this
    | mul h1 h2 i1 i2 =>
      rename_i y z
      intro x hx
      have a := J.el x hx
      have b := h1.el hs
      have c := h2.el hs
      rw [← hv.asc x y z a.1 a.2 b.1 b.2 c.1 c.2]
      exact i2 _ (i1 x hx)
  clear x0 x1
  induction h with
  | base hm a b =>
    obtain ⟨q, q0, q1, rfl⟩ := rd_mem_iff.1 hm
    have := g0 q.toNat (by omega)
    rwa [show ((q.toNat : Nat) : Int) = q by omega] at this
  | mul h1 h2 i1 i2 => exact right _ h2 _ i1
end
open Classical in
theorem mult_Generated_ev {t : List (List Int)} {l : List Int} (ht : In2 t) (hl : l.length ≤ 9223372036854775807) : Ev (fun k => mult_Generated.f k t l) (if val t = 0 ∧ El t l then sel (Cl t l) 0 t.length else []) := by
  unfold mult_Generated.f
  refine ev_call (mult_Validate_ev ht) (ev_ite (fun h => ?_) (fun h => ev_some (by rw [if_neg (fun hh => h hh.1)])))
  refine ev_call (mult_elements_ev hl) (ev_ite (fun h2 => ?_) (fun h2 => ev_some (by rw [if_neg (fun hh => h2 (by simpa using hh.2))])))
  have hE : El t l := by simpa using h2
  rw [if_pos ⟨h, hE⟩, mult_generated_ev (va_of h) hE hl]
  exact ev_call (ev_some rfl) (ev_some rfl)
end Go.Proofs.Ytlhckcldeojfmaa.F
