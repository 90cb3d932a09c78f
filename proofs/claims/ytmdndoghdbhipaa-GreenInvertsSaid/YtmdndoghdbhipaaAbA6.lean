/- Each operation's law: addresses, new blocks, composites, lengths. -/
import Derived.Test.YtmdndoghdbhipaaAbA5
set_option linter.unusedSimpArgs false
set_option linter.unusedVariables false
namespace Go.Ab
open Go Go.RowKit

section
variable {C : Ctx} {o : Oper} {a : Act} {w : World} {μ : MU} {H H' : AH} {σ : Env} {v : AV} {lo : Nat} {call : CallT}

theorem op_fadr {s : TypeId} {f off : Nat} {x : Operand} {x' : Opd} {fd : Field} {n : Nat} (hop : o.op = .fieldAddr s x f) (hf : fieldB C.P s f = some fd) (hoff : fd.offset = off) (hsz : sizeB C.P fd.type = some n) (hn : n ≠ 0) (hx : chkOpd C.fids x x' = true)
    (h : evOp call lo (.fadr x' off) σ H pr = some (v, H')) (hσ : ER C.fids μ σ a) (hH : HR C μ H w) : Runs C o a w (Done C μ H w v H') := by
  simp only [evOp] at h
  obtain ⟨p, hp, h⟩ := asP_some h
  have vx := chkOpd_sound hx hσ
  rw [hp] at vx
  obtain ⟨e, hex, he⟩ := vx.ptr_inv
  simp only [pr, Option.some.injEq, Prod.mk.injEq] at h
  obtain ⟨rfl, rfl⟩ := h
  obtain ⟨fs, hu, hfs⟩ := field_und hf
  subst hoff
  have := VR.ptr (fids := C.fids) p.b (p.o + fd.offset) e he
  exact Runs.value (c := .pointer (some ⟨e.B, e.o + (p.o + fd.offset), none⟩)) (by simp [execOp, hop, hex, Instr.fieldAt, underlying, hu, hfs, Instr.sureAddr, fieldPlace, sizeOf_run C.P w hsz, hn, addr_add, Nat.add_assoc]) (done_same hH this)

theorem op_fld {s : TypeId} {f off : Nat} {x : Operand} {x' : Opd} {fd : Field} {n : Option Nat} (hop : o.op = .field s x f) (hf : fieldB C.P s f = some fd) (hoff : fd.offset = off)
    (hsz : match n with | none => isAggB C.P fd.type = some false | some n => isAggB C.P fd.type = some true ∧ sizeB C.P fd.type = some n) (hx : chkOpd C.fids x x' = true)
    (h : evOp call lo (.fld x' off n) σ H pr = some (v, H')) (hσ : ER C.fids μ σ a) (hH : HR C μ H w) : Runs C o a w (Done C μ H w v H') := by
  simp only [evOp] at h
  obtain ⟨vs, hp, h⟩ := asAgg_some h
  have vx := chkOpd_sound hx hσ
  rw [hp] at vx
  obtain ⟨cs, hex, hcs⟩ := vx.agg_inv
  obtain ⟨fs, hu, hfs⟩ := field_und hf
  subst hoff
  cases n with
  | none =>
    simp only at h hsz
    split at h
    · rename_i v' hv'
      simp only [pr, Option.some.injEq, Prod.mk.injEq] at h
      obtain ⟨rfl, rfl⟩ := h
      obtain ⟨c, hc, hr⟩ := hcs.get hv'
      exact Runs.value (c := c) (by simp [execOp, hop, hex, Instr.field, underlying, hu, hfs, Go.asAgg, part, isAgg_run C.P w hsz, hc]) (done_same hH hr)
    · simp at h
  | some n =>
    simp only at h hsz
    obtain ⟨hb, h⟩ := cond_none h
    simp only [pr, Option.some.injEq, Prod.mk.injEq] at h
    obtain ⟨rfl, rfl⟩ := h
    simp only [decide_eq_true_eq] at hb
    refine Runs.value (c := .agg ((cs.drop fd.offset).take n).toArray) ?_ (done_same hH (.agg _ _ ((hcs.drop _).take _)))
    simp [execOp, hop, hex, Instr.field, underlying, hu, hfs, Go.asAgg, part, isAgg_run C.P w hsz.1, sizeOf_run C.P w hsz.2, List.extract]

theorem op_iadr {t e : TypeId} {sz : Nat} {x y : Operand} {x' y' : Opd} (hop : o.op = .indexAddr t x y) (ht : sliceB C.P t = some e) (hsz : sizeB C.P e = some sz) (hx : chkOpd C.fids x x' = true) (hy : chkOpd C.fids y y' = true)
    (h : evOp call lo (.iadr x' y' sz) σ H pr = some (v, H')) (hσ : ER C.fids μ σ a) (hH : HR C μ H w) : Runs C o a w (Done C μ H w v H') := by
  simp only [evOp] at h
  obtain ⟨s, hs, h⟩ := asS_some h
  obtain ⟨ki, i, hi, h⟩ := asN_some h
  obtain ⟨p, hp, h0, hlt, hfin⟩ := idx_some h
  have vx := chkOpd_sound hx hσ
  have vy := chkOpd_sound hy hσ
  rw [hi] at vy
  obtain ⟨s1, s2⟩ := s
  simp only at hp hlt
  rw [hs, hp] at vx
  obtain ⟨e', cap, hex, he, hc, hl, _⟩ : ∃ e cap, a.eval x = .slice (some ⟨e.B, e.o + p.o, none⟩) s2 cap ∧ μ[p.b]? = some (some e) ∧ p.o + cap * e.sz ≤ e.cap ∧ s2 ≤ cap ∧ 0 < e.sz := by
    rcases vx.sl_inv with h | ⟨_, _, _, h, _⟩
    · exact h
    · omega
  have hey := vy.int_inv
  obtain ⟨h1, h2⟩ := pr_inj hfin
  subst h1; subst h2
  have := VR.ptr (fids := C.fids) p.b (p.o + i.toNat * sz) e' he
  exact Runs.value (c := .pointer (some ⟨e'.B, e'.o + (p.o + i.toNat * sz), none⟩)) (by
    simp [execOp, hop, hex, hey, Instr.indexAt, asIntOf, underlying, slice_und ht, h0, hlt, sizeOf_run C.P w hsz, addr_add, Nat.add_assoc]) (done_same hH this)

theorem op_aadr {t e : TypeId} {len sz : Nat} {x y : Operand} {x' y' : Opd} (hop : o.op = .indexAddr t x y) (ht : arrayB C.P t = some (len, e)) (hsz : sizeB C.P e = some sz) (hx : chkOpd C.fids x x' = true) (hy : chkOpd C.fids y y' = true)
    (h : evOp call lo (.aadr x' y' len sz) σ H pr = some (v, H')) (hσ : ER C.fids μ σ a) (hH : HR C μ H w) : Runs C o a w (Done C μ H w v H') := by
  simp only [evOp] at h
  obtain ⟨p, hp, h⟩ := asP_some h
  obtain ⟨ki, i, hi, h⟩ := asN_some h
  obtain ⟨hb, h⟩ := cond_none h
  simp only [Bool.and_eq_true, decide_eq_true_eq] at hb
  have vx := chkOpd_sound hx hσ
  have vy := chkOpd_sound hy hσ
  rw [hp] at vx; rw [hi] at vy
  obtain ⟨e', hex, he⟩ := vx.ptr_inv
  have hey := vy.int_inv
  obtain ⟨h1, h2⟩ := pr_inj h
  subst h1; subst h2
  have := VR.ptr (fids := C.fids) p.b (p.o + i.toNat * sz) e' he
  exact Runs.value (c := .pointer (some ⟨e'.B, e'.o + (p.o + i.toNat * sz), none⟩)) (by
    simp [execOp, hop, hex, hey, Instr.indexAt, asIntOf, underlying, array_und ht, hb.1, hb.2, sizeOf_run C.P w hsz, addr_add, Nat.add_assoc, Instr.sureAddr]) (done_same hH this)

/-- A new block of cells. -/
theorem push_cells (hH : HR C μ H w) {vs : List AV} {cs : List Value} {sz : Nat} {el : TypeId} (hv : VRs C.fids μ vs cs) :
    HR C (μ ++ [some ⟨w.heap.size, 0, cs.length, sz⟩]) (H ++ [.cells vs sz]) (w.alloc (.cells cs.toArray el)) := by
  refine hH.push _ _ _ rfl ⟨rfl, fun j v hj => ?_, fun _ => ⟨Nat.le_of_eq hv.length, fun j hj => ?_⟩⟩
  · obtain ⟨c, hc, hr⟩ := hv.get hj
    refine ⟨c, ?_, hr.mono (Ref.app _ _)⟩
    simp only [Nat.zero_add, World.cell?_alloc_new]
    simpa using hc
  · simp only at hj
    simp [hj]
theorem keep_snoc (hH : HR C μ H w) (b : Blk) : Keep μ H (H ++ [b]) := fun i hi => by
  have h1 : i < μ.length := (List.getElem?_eq_some_iff.1 hi).1
  rw [List.getElem?_append_left (by rw [← hH.len]; exact h1)]
theorem new_ptr (hH : HR C μ H w) {e : Ent} (he : e.o = 0) : VR C.fids (μ ++ [some e]) (.ptr (some ⟨H.length, 0⟩)) (.pointer (some ⟨e.B, 0, none⟩)) := by
  have := VR.ptr (fids := C.fids) (μ := μ ++ [some e]) H.length 0 e (by rw [← hH.len]; simp)
  rw [he] at this; exact this

theorem op_alloc {t : TypeId} {zs : List AV} {z : Value} (hop : o.op = .alloc t) (hz : zeroB C.P t = some z) (hc : chkVs z.cells.toList zs = true)
    (h : evOp call lo (.alloc zs) σ H pr = some (v, H')) (hσ : ER C.fids μ σ a) (hH : HR C μ H w) : Runs C o a w (Done C μ H w v H') := by
  simp only [evOp, alc, pr, Option.some.injEq, Prod.mk.injEq] at h
  obtain ⟨rfl, rfl⟩ := h
  have hv : VRs C.fids μ zs z.cells.toList := chkVs_sound hc
  refine Runs.value (c := .pointer (some ⟨w.heap.size, 0, none⟩)) (w' := w.alloc (.cells z.cells t)) (by simp [execOp, hop, Instr.alloc, zero_run C.P w hz, newVar, newRow]) ?_
  refine ⟨_, ⟨_, rfl⟩, new_ptr hH rfl, by simpa using push_cells (el := t) (sz := zs.length) hH hv, (Below.refl _ _).alloc hH.base _, keep_snoc hH _⟩

theorem singles_get : ∀ {us : List AV} {cs : List Value}, VRs C.fids μ us cs → singles us = true → ∀ c ∈ cs, c.oneCell' = true := by
  intro us
  induction us with
  | nil => intro cs h _ c hc; cases h; simp at hc
  | cons u us ih =>
    intro cs h hs c hc
    cases h with
    | cons _ c' _ cs' h1 h2 =>
      cases hsu : single u <;> simp [singles, hsu] at hs
      rcases List.mem_cons.1 hc with rfl | hc
      · exact h1.single hsu
      · exact ih h2 hs c hc

theorem op_box {t : TypeId} {n : Nat} {x : Operand} {x' : Opd} (hop : o.op = .box t x) (hx : chkOpd C.fids x x' = true)
    (h : evOp call lo (.box n x') σ H pr = some (v, H')) (hσ : ER C.fids μ σ a) (hH : HR C μ H w) : Runs C o a w (Done C μ H w v H') := by
  simp only [evOp] at h
  obtain ⟨hb, h⟩ := cond_none h
  simp only [Bool.and_eq_true, decide_eq_true_eq] at hb
  simp only [alc, pr, Option.some.injEq, Prod.mk.injEq] at h
  obtain ⟨rfl, rfl⟩ := h
  have vx := chkOpd_sound hx hσ
  have hv := vx.cells hb.1.1
  refine Runs.value (c := .pointer (some ⟨w.heap.size, 0, none⟩)) (w' := w.alloc (.cells (a.eval x).cells t)) (by simp [execOp, hop, Instr.box, newVar, newRow]) ?_
  exact ⟨_, ⟨_, rfl⟩, new_ptr hH rfl, by simpa using push_cells (el := t) (sz := (cellsV (opd σ x')).length) hH hv, (Below.refl _ _).alloc hH.base _, keep_snoc hH _⟩

/-! ### Composites -/
theorem overlay_get {α : Type} (vs us : List α) (o j : Nat) (h : o + us.length ≤ vs.length) : (overlay vs o us)[j]? = if o ≤ j ∧ j < o + us.length then us[j - o]? else vs[j]? := by
  unfold overlay
  have hl : (vs.take o).length = o := by simp; omega
  rcases Nat.lt_or_ge j o with h1 | h1
  · rw [if_neg (by omega), List.append_assoc, List.getElem?_append_left (by omega), List.getElem?_take_of_lt h1]
  · rcases Nat.lt_or_ge j (o + us.length) with h2 | h2
    · rw [if_pos ⟨h1, h2⟩, List.append_assoc, List.getElem?_append_right (by omega), hl, List.getElem?_append_left (by omega)]
    · rw [if_neg (by omega), List.getElem?_append_right (by simp only [List.length_append]; omega), List.getElem?_drop]
      congr 1; simp only [List.length_append]; omega
theorem foldl_set (off : Nat) : ∀ (vs : List Value) (k : Nat) (cells : Array Value), off + k + vs.length ≤ cells.size →
    ((vs.zipIdx k).foldl (fun cs p => cs.setIfInBounds (off + p.2) p.1) cells) = (overlay cells.toList (off + k) vs).toArray := by
  intro vs
  induction vs with
  | nil => intro k cells h; simp [overlay]
  | cons v vs ih =>
    intro k cells h
    simp only [List.zipIdx_cons, List.foldl_cons]
    simp only [List.length_cons] at h
    rw [ih (k + 1) _ (by simp; omega)]
    congr 1
    apply List.ext_getElem?
    intro j
    rw [Array.toList_setIfInBounds, overlay_get _ _ _ _ (by simp; omega), overlay_get _ _ _ _ (by simp; omega)]
    simp only [List.length_cons]
    by_cases h1 : off + (k + 1) ≤ j ∧ j < off + (k + 1) + vs.length
    · rw [if_pos h1, if_pos (by omega), show j - (off + k) = (j - (off + (k + 1))) + 1 by omega]; simp
    · rw [if_neg h1]
      by_cases h2 : j = off + k
      · subst h2; rw [if_pos (by omega), List.getElem?_set_self (by simp; omega)]; simp
      · rw [if_neg (by omega), List.getElem?_set_ne (by omega)]
theorem foldl_cells (off : Nat) (cs cells : Array Value) (h : off + cs.size ≤ cells.size) :
    (cs.zipIdx.foldl (fun cs p => cs.setIfInBounds (off + p.2) p.1) cells) = (overlay cells.toList off cs.toList).toArray := by
  rw [← Array.foldl_toList, Array.toList_zipIdx]
  exact foldl_set off cs.toList 0 cells (by simpa using h)
theorem overlay_length {α : Type} (vs : List α) (o : Nat) (us : List α) (h : o + us.length ≤ vs.length) : (overlay vs o us).length = vs.length := by
  simp [overlay]; omega
theorem VRs.overlay {fids : List Nat} {vs us : List AV} {cs ds : List Value} (h : VRs fids μ vs cs) (k : VRs fids μ us ds) (n : Nat) : VRs fids μ (overlay vs n us) (Ab.overlay cs n ds) := by
  unfold Ab.overlay
  rw [k.length]
  exact ((h.take _).append k).append (h.drop _)

def chkParts (fids : List Nat) (place : Nat → Option (Nat × Nat)) : List (Nat × Operand) → List (Nat × Nat × Opd) → Bool
  | [], [] => true
  | (i, x) :: ps, (o, n, y) :: qs => decide (place i = some (o, n)) && chkOpd fids x y && chkParts fids place ps qs
  | _, _ => false
theorem fill_run {place : Nat → Option (Nat × Nat)} (hσ : ER C.fids μ σ a) : ∀ {ps : List (Nat × Operand)} {qs : List (Nat × Nat × Opd)} {zs : List AV} {cells : Array Value} {us : List AV}, chkParts C.fids place ps qs = true →
    fillP σ zs qs some = some us → VRs C.fids μ zs cells.toList → ∃ out, Instr.fill place cells (ps.map fun p => (p.1, a.eval p.2)) = some out ∧ VRs C.fids μ us out.toList := by
  intro ps
  induction ps with
  | nil =>
    intro qs zs cells us hc h hz
    cases qs with
    | nil => simp only [fillP, Option.some.injEq] at h; subst h; exact ⟨cells, rfl, hz⟩
    | cons q qs => simp [chkParts] at hc
  | cons p ps ih =>
    intro qs zs cells us hc h hz
    cases qs with
    | nil => simp [chkParts] at hc
    | cons q qs =>
      obtain ⟨i, x⟩ := p
      obtain ⟨ofs, n, y⟩ := q
      simp only [chkParts, Bool.and_eq_true, decide_eq_true_eq] at hc
      obtain ⟨⟨hp, hx⟩, hc⟩ := hc
      unfold fillP at h
      try simp only at h
      obtain ⟨hb, h⟩ := cond_none h
      simp only [Bool.and_eq_true, decide_eq_true_eq] at hb
      obtain ⟨⟨hk, hn⟩, hle⟩ := hb
      have vx := (chkOpd_sound hx hσ).cells hk
      have hl := vx.length
      have hzl := hz.length
      simp only [Array.length_toList] at hl hzl
      have hfit : ofs + (a.eval x).cells.size ≤ cells.size := by omega
      obtain ⟨out, ho, hv⟩ := ih (cells := (overlay cells.toList ofs (a.eval x).cells.toList).toArray) hc h (by simpa using hz.overlay vx ofs)
      refine ⟨out, ?_, hv⟩
      simp only [List.map_cons, Instr.fill, hp]
      rw [if_neg (by simp; omega), foldl_cells _ _ _ hfit]
      exact ho
theorem fillP_split {ρ : Type} {r : ρ} {qs : List (Nat × Nat × Opd)} : ∀ {zs : List AV} {κ : List AV → Option ρ}, fillP σ zs qs κ = some r → ∃ us, fillP σ zs qs some = some us ∧ κ us = some r := by
  induction qs with
  | nil => intro zs κ h; unfold fillP at h; exact ⟨zs, by unfold fillP; rfl, h⟩
  | cons q qs ih =>
    intro zs κ h
    obtain ⟨ofs, n, y⟩ := q
    unfold fillP at h ⊢
    try simp only at h ⊢
    obtain ⟨hb, h⟩ := cond_none h
    rw [hb]
    exact ih h

def placesB (P : Program) (t : TypeId) : Option (Array (Nat × Nat)) :=
  match P.underlying t with
  | some (.struct fs) => some (fs.map fun f => (f.offset, (sizeB P f.type).getD 0))
  | _ => none
def allSized (P : Program) (t : TypeId) : Bool :=
  match P.underlying t with
  | some (.struct fs) => fs.toList.all fun f => (sizeB P f.type).isSome
  | _ => false
theorem places_runL (P : Program) (w : World) : ∀ (l : List Field), (l.all fun f => (sizeB P f.type).isSome) = true →
    (l.mapM fun f => (do pure (f.offset, ← sizeOf f.type) : Sem (Nat × Nat))).run P w = .ok (l.map fun f => (f.offset, (sizeB P f.type).getD 0)) w := by
  intro l
  induction l with
  | nil => intro _; rfl
  | cons f l ih =>
    intro h
    simp only [List.all_cons, Bool.and_eq_true] at h
    obtain ⟨n, hn⟩ := Option.isSome_iff_exists.1 h.1
    rw [List.mapM_cons]
    simp only [Sem.run_bind, sizeOf_run P w hn, Result.andThen_ok, Sem.run_pure, ih h.2, List.map_cons, hn, Option.getD_some]
theorem places_run (P : Program) (w : World) (fs : Array Field) (h : (fs.toList.all fun f => (sizeB P f.type).isSome) = true) :
    (fs.mapM fun f => (do pure (f.offset, ← sizeOf f.type) : Sem (Nat × Nat))).run P w = .ok (fs.map fun f => (f.offset, (sizeB P f.type).getD 0)) w := by
  have h1 := places_runL P w fs.toList h
  rw [Array.mapM_eq_mapM_toList]
  simp only [Sem.run_map, h1, Result.andThen_ok]
  congr 1
  apply Array.ext'; simp

theorem op_bldS {t : TypeId} {zs : List AV} {z : Value} {ps : Array (Nat × Operand)} {qs : List (Nat × Nat × Opd)} {pl : Array (Nat × Nat)} (hop : o.op = .build t ps) (hz : zeroB C.P t = some z) (hc : chkVs z.cells.toList zs = true)
    (hpl : placesB C.P t = some pl) (hal : allSized C.P t = true) (hps : chkParts C.fids (pl[·]?) ps.toList qs = true)
    (h : evOp call lo (.bld zs qs) σ H pr = some (v, H')) (hσ : ER C.fids μ σ a) (hH : HR C μ H w) : Runs C o a w (Done C μ H w v H') := by
  simp only [evOp] at h
  obtain ⟨us, hu, h⟩ := fillP_split h
  simp only [pr, Option.some.injEq, Prod.mk.injEq] at h
  obtain ⟨rfl, rfl⟩ := h
  obtain ⟨out, ho, hv⟩ := fill_run (cells := z.cells) hσ hps hu (chkVs_sound hc)
  unfold placesB at hpl
  unfold allSized at hal
  split at hpl
  · rename_i fs hfs
    simp only [Option.some.injEq] at hpl
    subst hpl
    rw [hfs] at hal
    simp only at hal
    refine Runs.value (c := .agg out) (w' := w) ?_ (done_same hH ?_)
    · have e1 : (ps.map fun p => (p.1, a.eval p.2)).toList = ps.toList.map fun p => (p.1, a.eval p.2) := by simp
      have e2 : (fun (x : Nat × Operand) => match x with | (i, x) => (i, a.eval x)) = fun p => (p.1, a.eval p.2) := by funext p; rfl
      simp only [execOp, hop, Instr.build, Sem.run_bind, zero_run C.P w hz, Result.andThen_ok, underlying, run_program, hfs, Sem.run_pure, places_run C.P w fs hal, e2, e1, ho]
    · have := VR.agg (fids := C.fids) us out.toList hv
      simpa using this
  · simp at hpl

theorem op_bldA {t e : TypeId} {len sz : Nat} {zs : List AV} {z : Value} {ps : Array (Nat × Operand)} {qs : List (Nat × Nat × Opd)} (hop : o.op = .build t ps) (hz : zeroB C.P t = some z) (hc : chkVs z.cells.toList zs = true)
    (ht : arrayB C.P t = some (len, e)) (hsz : sizeB C.P e = some sz) (hps : chkParts C.fids (fun i => some (i * sz, sz)) ps.toList qs = true)
    (h : evOp call lo (.bld zs qs) σ H pr = some (v, H')) (hσ : ER C.fids μ σ a) (hH : HR C μ H w) : Runs C o a w (Done C μ H w v H') := by
  simp only [evOp] at h
  obtain ⟨us, hu, h⟩ := fillP_split h
  simp only [pr, Option.some.injEq, Prod.mk.injEq] at h
  obtain ⟨rfl, rfl⟩ := h
  obtain ⟨out, ho, hv⟩ := fill_run (cells := z.cells) hσ hps hu (chkVs_sound hc)
  refine Runs.value (c := .agg out) (w' := w) ?_ (done_same hH ?_)
  · have e1 : (ps.map fun p => (p.1, a.eval p.2)).toList = ps.toList.map fun p => (p.1, a.eval p.2) := by simp
    have e2 : (fun (x : Nat × Operand) => match x with | (i, x) => (i, a.eval x)) = fun p => (p.1, a.eval p.2) := by funext p; rfl
    simp only [execOp, hop, Instr.build, Sem.run_bind, zero_run C.P w hz, Result.andThen_ok, underlying, run_program, array_und ht, Sem.run_pure, sizeOf_run C.P w hsz, e2, e1, ho]
  · have := VR.agg (fids := C.fids) us out.toList hv
    simpa using this

theorem new_sl (hH : HR C μ H w) {e : Ent} (he : e.o = 0) {len cap : Nat} (hl : len ≤ cap) (hc : cap * e.sz ≤ e.cap) (hz : 0 < e.sz) : VR C.fids (μ ++ [some e]) (.sl ⟨some ⟨H.length, 0⟩, len⟩) (.slice (some ⟨e.B, 0, none⟩) len cap) := by
  have := VR.sl (fids := C.fids) (μ := μ ++ [some e]) H.length 0 len cap e (by rw [← hH.len]; simp) (by omega) hl hz
  rw [he] at this; exact this

theorem op_bsl {t e : TypeId} {len sz : Nat} {zs : List AV} {z : Value} {ps : Array (Nat × Operand)} {qs : List (Nat × Nat × Opd)} (hop : o.op = .buildSlice t len ps) (ht : sliceB C.P t = some e) (hsz : sizeB C.P e = some sz)
    (hbig : len * sz ≤ 16777216 ∧ 0 < sz) (hz : zeroB C.P e = some z) (hc : chkVs ((Array.range (len * sz)).map (z.cells[· % z.cells.size]!)).toList zs = true)
    (hps : chkParts C.fids (fun i => some (i * sz, sz)) ps.toList qs = true)
    (h : evOp call lo (.bsl sz zs len qs) σ H pr = some (v, H')) (hσ : ER C.fids μ σ a) (hH : HR C μ H w) : Runs C o a w (Done C μ H w v H') := by
  simp only [evOp] at h
  obtain ⟨us, hu, h⟩ := fillP_split h
  obtain ⟨hsg, h⟩ := cond_none h
  simp only [mkb, pr, Option.some.injEq, Prod.mk.injEq] at h
  obtain ⟨rfl, rfl⟩ := h
  obtain ⟨out, ho, hv⟩ := fill_run (cells := (Array.range (len * sz)).map (z.cells[· % z.cells.size]!)) hσ hps hu (chkVs_sound hc)
  have houtl : out.size = len * sz := by
    have h1 := hv.length
    have h2 : us.length = zs.length := by
      have : ∀ {qs : List (Nat × Nat × Opd)} {zs us : List AV}, fillP σ zs qs some = some us → us.length = zs.length := by
        intro qs
        induction qs with
        | nil => intro zs us h; unfold fillP at h; cases h; rfl
        | cons q qs ih =>
          intro zs us h
          obtain ⟨o', n', y'⟩ := q
          unfold fillP at h
          try simp only at h
          obtain ⟨hb, h⟩ := cond_none h
          simp only [Bool.and_eq_true, decide_eq_true_eq] at hb
          rw [ih h, overlay_length _ _ _ (by omega)]
      exact this hu
    have h3 := (chkVs_sound (fids := C.fids) (μ := μ) hc).length
    simp at h1 h3
    omega
  refine Runs.value (c := .slice (some ⟨w.heap.size, 0, none⟩) len len) (w' := w.alloc (.cells out e)) ?_ ?_
  · have e1 : (ps.map fun p => (p.1, a.eval p.2)).toList = ps.toList.map fun p => (p.1, a.eval p.2) := by simp
    have e2 : (fun (x : Nat × Operand) => match x with | (i, x) => (i, a.eval x)) = fun p => (p.1, a.eval p.2) := by funext p; rfl
    simp only [execOp, hop, Instr.buildSlice, Sem.run_bind, Result.andThen_ok, underlying, run_program, slice_und ht, Sem.run_pure, sizeOf_run C.P w hsz, Sem.run_ite, run_unsupported]
    rw [if_neg (by simp; omega)]
    by_cases h0 : len * sz = 0
    · simp only [h0, if_true, Result.andThen_ok] at *
      simp only [e2, e1]
      have e4 : ∀ f : Nat → Value, Array.map f (Array.range 0) = #[] := fun f => by simp
      rw [e4] at ho ⊢
      rw [ho]
      simp [newRow]
    · simp only [h0, if_false, zero_run C.P w hz, Result.andThen_ok, e2, e1, ho]
      simp [newRow]
  · refine ⟨_, ⟨_, rfl⟩, new_sl (e := ⟨w.heap.size, 0, out.toList.length, sz⟩) hH rfl (Nat.le_refl _) (by simp; omega) hbig.2, by simpa using push_cells (el := e) (sz := sz) hH hv, (Below.refl _ _).alloc hH.base _, keep_snoc hH _⟩
end
end Go.Ab
