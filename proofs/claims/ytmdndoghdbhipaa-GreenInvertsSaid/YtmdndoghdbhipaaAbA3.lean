/- Loads and stores of cells; what they do to the relation of the two memories. -/
import Derived.Test.YtmdndoghdbhipaaAbA2
namespace Go.Ab
open Go Go.RowKit

theorem addr_add (b o i : Nat) : Addr.add ⟨b, o, none⟩ i = ⟨b, o + i, none⟩ := by
  unfold Addr.add
  split
  · rename_i h; subst h; rfl
  · rfl

theorem loadCellsFrom_run (P : Program) (w : World) (b o : Nat) : ∀ (cs : List Value) (i : Nat) (acc : Array Value), (∀ (j : Nat) (c : Value), cs[j]? = some c → w.cell? ⟨b, o + i + j, none⟩ = some c) →
    (loadCellsFrom ⟨b, o, none⟩ i cs.length acc).run P w = .ok (acc ++ cs.toArray) w := by
  intro cs
  induction cs with
  | nil => intro i acc _; simp [loadCellsFrom]
  | cons c cs ih =>
    intro i acc h
    have h0 := h 0 c (by simp)
    simp only [List.length_cons, loadCellsFrom, Sem.run_bind, run_load, addr_add]
    rw [show o + i = o + i + 0 from rfl, h0]
    simp only [Result.andThen_ok]
    rw [ih (i + 1) (acc.push c) (fun j c' hj => by have := h (j + 1) c' (by simpa using hj); rw [show o + (i + 1) + j = o + i + (j + 1) by omega]; exact this)]
    congr 1
    apply Array.ext'
    simp
theorem loadCells_run (P : Program) (w : World) (b o : Nat) (cs : List Value) (h : ∀ (j : Nat) (c : Value), cs[j]? = some c → w.cell? ⟨b, o + j, none⟩ = some c) :
    (loadCells ⟨b, o, none⟩ cs.length).run P w = .ok cs.toArray w := by
  unfold loadCells
  rw [loadCellsFrom_run P w b o cs 0 #[] (by simpa using h)]
  simp

structure Wrote (b o : Nat) (vs : List Value) (w w' : World) : Prop where
  size : w'.heap.size = w.heap.size
  os : w'.os = w.os
  tape : w'.tape = w.tape
  output : w'.output = w.output
  other : ∀ k, k ≠ b → w'.heap[k]? = w.heap[k]?
  cell : ∀ j, w'.cell? ⟨b, j, none⟩ = if o ≤ j ∧ j < o + vs.length then vs[j - o]? else w.cell? ⟨b, j, none⟩
  frz : ∀ j, w'.frozen? ⟨b, j, none⟩ = w.frozen? ⟨b, j, none⟩

theorem Wrote.below {b o : Nat} {vs : List Value} {w w' : World} (h : Wrote b o vs w w') {B : Nat} (hb : B ≤ b) : Below B w w' :=
  ⟨h.os, h.tape, h.output, Nat.le_of_eq h.size.symm, fun k hk => h.other k (by omega)⟩

theorem storeCells_run (P : Program) (b o : Nat) : ∀ (vs : List Value) (i : Nat) (w : World), (∀ v ∈ vs, v.oneCell' = true) →
    (∀ j, j < vs.length → (w.cell? ⟨b, o + i + j, none⟩).isSome = true ∧ w.frozen? ⟨b, o + i + j, none⟩ = false) →
    ∃ w', (storeCells ⟨b, o, none⟩ vs i).run P w = .ok () w' ∧ Wrote b (o + i) vs w w' := by
  intro vs
  induction vs with
  | nil => exact fun i w _ _ => ⟨w, by simp [storeCells], ⟨rfl, rfl, rfl, rfl, fun _ _ => rfl, fun j => by rw [if_neg (by simp only [List.length_nil]; omega)], fun _ => rfl⟩⟩
  | cons v vs ih =>
    intro i w h1 h2
    obtain ⟨hc, hf⟩ := h2 0 (by simp)
    obtain ⟨u, hu⟩ := Option.isSome_iff_exists.1 hc
    simp only [Nat.add_zero] at hu hf
    have hv : v.oneCell' = true := h1 v (by simp)
    have hsame := World.cell?_setCell_same w ⟨b, o + i, none⟩ v hu
    have hoth : ∀ j, j ≠ o + i → (w.setCell ⟨b, o + i, none⟩ v).cell? ⟨b, j, none⟩ = w.cell? ⟨b, j, none⟩ := fun j hj =>
      World.cell?_setCell_other w _ _ v (by intro h; exact hj (by injection h with _ h2; omega))
    obtain ⟨w', hr, hw⟩ := ih (i + 1) (w.setCell ⟨b, o + i, none⟩ v) (fun x hx => h1 x (by simp [hx])) (fun j hj => by
      have := h2 (j + 1) (by simp; omega)
      rw [show o + i + (j + 1) = o + (i + 1) + j by omega] at this
      refine ⟨?_, by rw [World.frozen?_setCell]; exact this.2⟩
      rw [hoth _ (by omega)]; exact this.1)
    refine ⟨w', ?_, ?_⟩
    · simp only [storeCells, Sem.run_bind, addr_add, run_store P _ _ _ _ hv, hu, hf]
      simpa using hr
    · refine ⟨by rw [hw.size]; simp, by rw [hw.os]; rfl, by rw [hw.tape]; rfl, by rw [hw.output]; rfl, fun k hk => ?_, fun j => ?_, fun j => by rw [hw.frz, World.frozen?_setCell]⟩
      · rw [hw.other k hk]; exact Below.heap_setCell _ _ _ _ hk
      · rw [hw.cell]
        by_cases hj : j = o + i
        · subst hj
          rw [if_neg (by omega), if_pos (by simp)]
          simp [hsame]
        · by_cases hin : o + (i + 1) ≤ j ∧ j < o + (i + 1) + vs.length
          · rw [if_pos hin, if_pos (by simp; omega)]
            rw [show j - (o + i) = (j - (o + (i + 1))) + 1 by omega]
            simp
          · rw [if_neg hin, if_neg (by simp; omega), hoth j hj]

variable {C : Ctx} {μ : MU} {H : AH} {w w' : World}

theorem HR.cell (h : HR C μ H w) {b : Nat} {e : Ent} {vs : List AV} {sz j : Nat} {v : AV} (hb : H[b]? = some (.cells vs sz)) (he : μ[b]? = some (some e)) (hv : vs[j]? = some v) :
    ∃ c, w.cell? ⟨e.B, e.o + j, none⟩ = some c ∧ VR C.fids μ v c := (h.blk b _ e hb he).2.1 j v hv

/-- A row of cells. -/
theorem HR.cells (h : HR C μ H w) {b : Nat} {e : Ent} {vs : List AV} {sz o n : Nat} (hb : H[b]? = some (.cells vs sz)) (he : μ[b]? = some (some e)) (hn : o + n ≤ vs.length) :
    ∃ cs : List Value, cs.length = n ∧ VRs C.fids μ ((vs.drop o).take n) cs ∧ ∀ (j : Nat) (c : Value), cs[j]? = some c → w.cell? ⟨e.B, e.o + o + j, none⟩ = some c := by
  induction n generalizing o with
  | zero => exact ⟨[], rfl, by simpa using VRs.nil, fun j c hj => by simp at hj⟩
  | succ n ih =>
    obtain ⟨v, hv⟩ : ∃ v, vs[o]? = some v := ⟨vs[o], List.getElem?_eq_getElem (by omega)⟩
    obtain ⟨c, hc, hr⟩ := h.cell hb he hv
    obtain ⟨cs, h1, h2, h3⟩ := ih (o := o + 1) (by omega)
    refine ⟨c :: cs, by simp [h1], ?_, fun j c' hj => ?_⟩
    · have : vs.drop o = v :: vs.drop (o + 1) := by rw [List.drop_eq_getElem_cons (by omega)]; rw [List.getElem?_eq_getElem (by omega)] at hv; simp at hv; rw [hv]
      rw [this]; exact VRs.cons _ _ _ _ hr h2
    · cases j with
      | zero => simp at hj; subst hj; simpa using hc
      | succ j => have := h3 j c' (by simpa using hj); rw [show e.o + o + (j + 1) = e.o + (o + 1) + j by omega]; exact this

/-- A block of the call's own is changed. -/
theorem HR.change (h : HR C μ H w) {b : Nat} {blk blk' : Blk} {e : Ent} (hb : H[b]? = some blk) (hd : blk ≠ .dead) (he : μ[b]? = some (some e)) (hlo : C.lo0 ≤ b)
    (hs : w.heap.size ≤ w'.heap.size) (hk : ∀ k, k < w.heap.size → k ≠ e.B → w'.heap[k]? = w.heap[k]?) (hB : BR C.fids μ (C.lo0 ≤ b) blk' e w') : HR C μ (H.set b blk') w' := by
  have hbl : b < H.length := (List.getElem?_eq_some_iff.1 hb).1
  have hget : ∀ (j : Nat) x, (H.set b blk')[j]? = some x → (j = b ∧ x = blk') ∨ (j ≠ b ∧ H[j]? = some x) := fun j x hj => by
    by_cases hij : b = j
    · subst hij; rw [List.getElem?_set_self hbl] at hj; cases hj; exact .inl ⟨rfl, rfl⟩
    · rw [List.getElem?_set_ne hij] at hj; exact .inr ⟨Ne.symm hij, hj⟩
  refine ⟨by simpa using h.len, ?_, ?_, fun i e' he' => ?_, by have := h.base; omega, by simpa using h.low⟩
  · intro j b' e' hb' he'
    rcases hget j b' hb' with ⟨h1, h2⟩ | ⟨h1, h2⟩
    · subst h1; subst h2; rw [he] at he'; cases he'; exact hB
    · by_cases hdead : b' = .dead
      · subst hdead; trivial
      · exact (h.blk j b' e' h2 he').of (Ref.refl _) (hk _ (h.own j e' he').1 (Ne.symm (h.sep b j blk b' e e' (Ne.symm h1) hb h2 he he' hd hdead hlo)))
  · intro i j bi bj ei ej hij hbi hbj hei hej hdi hdj hlo'
    rcases hget i bi hbi with ⟨h1, h2⟩ | ⟨h1, h2⟩
    · rcases hget j bj hbj with ⟨h3, h4⟩ | ⟨h3, h4⟩
      · exact absurd (h1.trans h3.symm) hij
      · subst h1; rw [he] at hei; cases hei
        exact h.sep i j blk bj e ej hij hb h4 he hej hd hdj hlo
    · rcases hget j bj hbj with ⟨h3, h4⟩ | ⟨h3, h4⟩
      · subst h3; rw [he] at hej; cases hej
        exact h.sep i j bi blk ei e hij h2 hb hei he hdi hd hlo'
      · exact h.sep i j bi bj ei ej hij h2 h4 hei hej hdi hdj hlo'
  · have := h.own i e' he'; exact ⟨by omega, this.2⟩

/-- A new abstract block at a real block that no live block lies at. -/
theorem HR.pushOld (h : HR C μ H w) (b : Blk) (e : Ent) (h1 : C.base ≤ e.B) (h2 : e.B < w.heap.size) (h3 : ∀ (j : Nat) (bj : Blk) (ej : Ent), H[j]? = some bj → μ[j]? = some (some ej) → bj ≠ .dead → ej.B ≠ e.B)
    (hb : BR C.fids (μ ++ [some e]) True b e w) : HR C (μ ++ [some e]) (H ++ [b]) w := by
  have hl := h.len
  have hlow := h.low
  refine ⟨by simp [hl], ?_, ?_, ?_, h.base, by simp; omega⟩
  · intro i b' e' hb' he'
    rw [getElem?_snoc] at hb' he'
    by_cases hi : i = H.length
    · subst hi
      rw [if_pos rfl] at hb'; rw [if_pos hl.symm] at he'
      cases hb'; cases he'
      have : C.lo0 ≤ H.length := hlow
      cases b with
      | cells vs sz => obtain ⟨a, b, c⟩ := hb; exact ⟨a, b, fun _ => c trivial⟩
      | map es => obtain ⟨ms, ck, a, b, _, c⟩ := hb; exact ⟨ms, ck, a, b, this, c⟩
      | dead => trivial
    · rw [if_neg hi] at hb'; rw [if_neg (by omega)] at he'
      exact (h.blk i b' e' hb' he').of (Ref.app _ _) rfl
  · intro i j bi bj ei ej hij hbi hbj hei hej hdi hdj hlo
    rw [getElem?_snoc] at hbi hbj hei hej
    by_cases hi : i = H.length
    · subst hi
      rw [if_pos hl.symm] at hei; cases hei
      rw [if_neg (by omega)] at hej hbj
      exact Ne.symm (h3 j bj ej hbj hej hdj)
    · rw [if_neg hi] at hbi; rw [if_neg (by omega)] at hei
      by_cases hj : j = H.length
      · subst hj
        rw [if_pos hl.symm] at hej; cases hej
        exact h3 i bi ei hbi hei hdi
      · rw [if_neg hj] at hbj; rw [if_neg (by omega)] at hej
        exact h.sep i j bi bj ei ej hij hbi hbj hei hej hdi hdj hlo
  · intro i e' he'
    rw [getElem?_snoc] at he'
    by_cases hi : i = μ.length
    · rw [if_pos hi] at he'; cases he'; exact ⟨h2, fun _ => h1⟩
    · rw [if_neg hi] at he'; exact h.own i e' he'

/-- A store of cells into a block of the call's own. -/
theorem HR.store (h : HR C μ H w) {b : Nat} {vs us : List AV} {sz o : Nat} {e : Ent} {cs : List Value} (hb : H[b]? = some (.cells vs sz)) (he : μ[b]? = some (some e)) (hlo : C.lo0 ≤ b)
    (hn : o + us.length ≤ vs.length) (hu : VRs C.fids μ us cs) (hw : Wrote e.B (e.o + o) cs w w') : HR C μ (H.set b (.cells (overlay vs o us) sz)) w' := by
  obtain ⟨h1, h2, h3⟩ := h.blk b _ e hb he
  obtain ⟨h4, h5⟩ := h3 hlo
  have hul := hu.length
  have hol : (overlay vs o us).length = vs.length := by simp [overlay]; omega
  refine h.change hb (by simp) he hlo (Nat.le_of_eq hw.size.symm) (fun k _ hk => hw.other k hk) ⟨h1, fun j v hj => ?_, fun _ => ⟨by omega, fun j hj => ?_⟩⟩
  · rw [hw.cell]
    by_cases hin : o ≤ j ∧ j < o + us.length
    · rw [if_pos (by omega)]
      have hj' : us[j - o]? = some v := by
        rw [← hj]; unfold overlay
        rw [List.append_assoc, List.getElem?_append_right (by simp; omega), List.getElem?_append_left (by simp; omega)]
        congr 1; simp; omega
      obtain ⟨c, hc, hv⟩ := hu.get hj'
      exact ⟨c, by rw [show e.o + j - (e.o + o) = j - o by omega]; exact hc, hv⟩
    · rw [if_neg (by omega)]
      have hj' : vs[j]? = some v := by
        rw [← hj]; unfold overlay
        rcases Nat.lt_or_ge j o with hlt | hge
        · rw [List.append_assoc, List.getElem?_append_left (by simp; omega), List.getElem?_take_of_lt hlt]
        · rw [List.getElem?_append_right (by simp; omega), List.getElem?_drop]
          congr 1; simp; omega
      exact h2 j v hj'
  · rw [hw.frz, hw.cell]
    obtain ⟨ha, hf⟩ := h5 j hj
    refine ⟨?_, hf⟩
    split
    · rename_i hin; rw [List.getElem?_eq_getElem (by omega)]; rfl
    · exact ha
theorem overlay_one (vs : List AV) (o : Nat) (u : AV) (h : o < vs.length) : overlay vs o [u] = vs.set o u := by
  unfold overlay
  apply List.ext_getElem?
  intro j
  rcases Nat.lt_trichotomy j o with hj | hj | hj
  · rw [List.append_assoc, List.getElem?_append_left (by simp; omega), List.getElem?_take_of_lt hj, List.getElem?_set_ne (by omega)]
  · subst hj
    rw [List.append_assoc, List.getElem?_append_right (by simp; omega), List.getElem?_set_self (by omega)]
    simp [Nat.min_eq_left (Nat.le_of_lt h)]
  · rw [List.getElem?_append_right (by simp; omega), List.getElem?_drop, List.getElem?_set_ne (by omega)]
    congr 1; simp; omega
end Go.Ab
