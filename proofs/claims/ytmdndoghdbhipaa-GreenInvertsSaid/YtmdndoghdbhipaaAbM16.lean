/- How many inverses an element has. Plain lemmas. No condition but that a table is valid. -/
import Derived.Test.YtmdndoghdbhipaaAbM15
set_option linter.unusedVariables false
set_option linter.unusedSimpArgs false
set_option linter.unusedSectionVars false
namespace Go.Ab
open Go
theorem nodup_map_on {α β : Type} {f : α → β} {l : List α} (hl : l.Nodup) (h : ∀ a ∈ l, ∀ b ∈ l, f a = f b → a = b) : (l.map f).Nodup := by
  unfold List.Nodup at *
  rw [List.pairwise_map]
  exact hl.imp_of_mem fun {a b} ha hb hne e => hne (h a ha b hb e)
theorem sel_nodup {P : Int → Prop} : ∀ {m : Nat} {i : Int}, (sel P i m).Nodup
  | 0, i => by simp [sel]
  | m + 1, i => by
    rw [sel_succ]
    split
    · refine List.nodup_cons.2 ⟨fun h => ?_, sel_nodup⟩
      have := (sel_mem.1 h).1
      omega
    · exact sel_nodup
/-- All pairs. -/
def prs {α β : Type} (b : List α) (c : List β) : List (α × β) := b.flatMap fun x => c.map fun y => (x, y)
theorem prs_len {α β : Type} (b : List α) (c : List β) : (prs b c).length = b.length * c.length := by
  unfold prs
  induction b with
  | nil => simp
  | cons x b ih => simp only [List.flatMap_cons, List.length_append, List.length_map, ih, List.length_cons]; rw [Nat.add_mul]; omega
theorem prs_mem {α β : Type} {b : List α} {c : List β} {p : α × β} : p ∈ prs b c ↔ p.1 ∈ b ∧ p.2 ∈ c := by
  unfold prs
  simp only [List.mem_flatMap, List.mem_map]
  constructor
  · rintro ⟨x, hx, y, hy, rfl⟩; exact ⟨hx, hy⟩
  · rintro ⟨h1, h2⟩; exact ⟨p.1, h1, p.2, h2, rfl⟩
theorem prs_nodup {α β : Type} {b : List α} {c : List β} (hb : b.Nodup) (hc : c.Nodup) : (prs b c).Nodup := by
  unfold prs
  induction b with
  | nil => simp
  | cons x b ih =>
    obtain ⟨h1, h2⟩ := List.nodup_cons.1 hb
    simp only [List.flatMap_cons]
    refine List.nodup_append.2 ⟨nodup_map_on hc fun a _ b _ e => by simpa using e, ih h2, fun p hp q hq e => ?_⟩
    subst e
    obtain ⟨y, _, rfl⟩ := List.mem_map.1 hp
    exact h1 (prs_mem.1 hq).1
theorem same_len {α β : Type} {a : List α} {b : List β} {f : α → β} (ha : a.Nodup) (hb : b.Nodup) (hi : ∀ x ∈ a, ∀ y ∈ a, f x = f y → x = y) (hm : ∀ x ∈ a, f x ∈ b) (hs : ∀ y ∈ b, ∃ x ∈ a, f x = y) : a.length = b.length := by
  have h1 := (nodup_map_on ha hi).length_le_of_subset (l₂ := b) fun y hy => by
    obtain ⟨x, hx, rfl⟩ := List.mem_map.1 hy; exact hm x hx
  have h2 := hb.length_le_of_subset (l₂ := a.map f) fun y hy => by
    obtain ⟨x, hx, rfl⟩ := hs y hy; exact List.mem_map.2 ⟨x, hx, rfl⟩
  simp at h1 h2
  omega
section
variable {t : List (List Int)} (hv : Va t) {x : Int} (x0 : 0 ≤ x) (x1 : x < (t.length : Int))
include hv x0 x1
theorem inv2_iff (y : Elt t) : Inv2 (⟨x, x0, x1⟩ : Elt t) y ↔ (M t (M t x y.1) x = x ∧ M t (M t y.1 x) y.1 = y.1) := by
  unfold Inv2
  rw [Subtype.ext_iff, Subtype.ext_iff, elt_mul hv.toSq, elt_mul hv.toSq, elt_mul hv.toSq, elt_mul hv.toSq]
open Classical in
theorem inv_count : (sel (fun y => M t (M t x y) x = x ∧ M t (M t y x) y = y) 0 t.length).length = ((idem t).filter fun e => decide (rd (gL t) e = rd (gL t) x)).length * ((idem t).filter fun e => decide (rd (gR t) e = rd (gR t) x)).length := by
  have hs := elt_sem hv
  have hsq := hv.toSq
  have midem : ∀ e, e ∈ idem t ↔ (0 ≤ e ∧ e < (t.length : Int)) ∧ M t e e = e := fun e => by unfold idem; rw [sel_mem]; simp [and_assoc]
  rw [← prs_len]
  refine same_len (f := fun y => (M t y x, M t x y)) sel_nodup (prs_nodup (sel_nodup.filter _) (sel_nodup.filter _)) (fun y hy z hz e => ?_) (fun y hy => ?_) (fun p hp => ?_)
  · obtain ⟨y0, y1, y2⟩ := sel_mem.1 hy
    obtain ⟨z0, z1, z2⟩ := sel_mem.1 hz
    have e : M t y x = M t z x ∧ M t x y = M t x z := by simpa using e
    have := inv_inj hs ((inv2_iff hv x0 x1 ⟨y, y0, by omega⟩).2 y2) ((inv2_iff hv x0 x1 ⟨z, z0, by omega⟩).2 z2) (Subtype.ext (by rw [elt_mul hsq, elt_mul hsq]; exact e.2)) (Subtype.ext (by rw [elt_mul hsq, elt_mul hsq]; exact e.1))
    exact Subtype.ext_iff.1 this
  · obtain ⟨y0, y1, y2⟩ := sel_mem.1 hy
    obtain ⟨h1, h2, h3, h4⟩ := inv_idm hs ((inv2_iff hv x0 x1 ⟨y, y0, by omega⟩).2 y2)
    rw [elt_idm hv, elt_mul hsq] at h1 h2
    rw [elt_R hv, elt_mul hsq] at h3
    rw [elt_L hv, elt_mul hsq] at h4
    refine prs_mem.2 ⟨List.mem_filter.2 ⟨(midem _).2 ⟨⟨hsq.lo _ _ y0 (by omega) x0 x1, hsq.hi _ _ y0 (by omega) x0 x1⟩, h2⟩, ?_⟩, List.mem_filter.2 ⟨(midem _).2 ⟨⟨hsq.lo _ _ x0 x1 y0 (by omega), hsq.hi _ _ x0 x1 y0 (by omega)⟩, h1⟩, ?_⟩⟩
    · exact decide_eq_true h4.symm
    · exact decide_eq_true h3.symm
  · obtain ⟨hf, he⟩ := prs_mem.1 hp
    obtain ⟨f1, f2⟩ := List.mem_filter.1 hf
    obtain ⟨e1, e2⟩ := List.mem_filter.1 he
    obtain ⟨⟨f0, f1⟩, f3⟩ := (midem _).1 f1
    obtain ⟨⟨e0, e1⟩, e3⟩ := (midem _).1 e1
    have f2 := of_decide_eq_true f2
    have e2 := of_decide_eq_true e2
    obtain ⟨y, h1, h2, h3⟩ := inv_sur hs (x := ⟨x, x0, x1⟩) (e := ⟨p.2, e0, e1⟩) (f := ⟨p.1, f0, f1⟩) ((elt_idm hv _).2 e3) ((elt_idm hv _).2 f3) ((elt_R hv _ _).2 e2.symm) ((elt_L hv _ _).2 f2.symm)
    refine ⟨y.1, sel_mem.2 ⟨y.2.1, by have := y.2.2; omega, (inv2_iff hv x0 x1 y).1 h1⟩, ?_⟩
    have a1 := Subtype.ext_iff.1 h2
    have a2 := Subtype.ext_iff.1 h3
    rw [elt_mul hsq] at a1 a2
    exact Prod.ext a2 a1
theorem inv_some : 0 < (sel (fun y => M t (M t x y) x = x ∧ M t (M t y x) y = y) 0 t.length).length ↔ ∃ e : Int, 0 ≤ e ∧ e < (t.length : Int) ∧ rd (gJ t) e = rd (gJ t) x ∧ M t e e = e := by
  have hs := elt_sem hv
  have hsq := hv.toSq
  constructor
  · intro h
    obtain ⟨y, hy⟩ := List.exists_mem_of_length_pos h
    obtain ⟨y0, y1, y2⟩ := sel_mem.1 hy
    obtain ⟨h1, h2, h3, h4⟩ := inv_idm hs ((inv2_iff hv x0 x1 ⟨y, y0, by omega⟩).2 y2)
    have h5 := (elt_J hv _ _).1 (rE_jE hs h3)
    rw [elt_idm hv, elt_mul hsq] at h1
    rw [elt_mul hsq] at h5
    exact ⟨M t x y, hsq.lo _ _ x0 x1 y0 (by omega), hsq.hi _ _ x0 x1 y0 (by omega), h5.symm, h1⟩
  · rintro ⟨e, e0, e1, e2, e3⟩
    obtain ⟨y, hy⟩ := reg_inv hs (x := ⟨x, x0, x1⟩) (e := ⟨e, e0, e1⟩) ((elt_idm hv _).2 e3) ((elt_J hv _ _).2 e2.symm)
    exact List.length_pos_of_mem (sel_mem.2 ⟨y.2.1, by have := y.2.2; omega, (inv2_iff hv x0 x1 y).1 hy⟩)
end
end Go.Ab
