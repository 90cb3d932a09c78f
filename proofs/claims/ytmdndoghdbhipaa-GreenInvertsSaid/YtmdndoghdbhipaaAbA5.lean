/- Each operation's law: values, loads, stores, addresses. -/
import Derived.Test.YtmdndoghdbhipaaAbA4
set_option linter.unusedSimpArgs false
set_option linter.unusedVariables false
namespace Go.Ab
open Go Go.RowKit

section
variable {C : Ctx} {o : Oper} {a : Act} {w : World} {μ : MU} {H H' : AH} {σ : Env} {v : AV} {lo : Nat} {call : CallT}

abbrev Done (C : Ctx) (μ : MU) (H : AH) (w : World) (v : AV) (H' : AH) : Value → World → Prop := fun c w' => ∃ μ', Good C μ H w v H' c w' μ'

theorem done_same (hH : HR C μ H w) {c : Value} (hv : VR C.fids μ v c) : Done C μ H w v H c w := ⟨μ, Good.same hH hv⟩

theorem op_mov {x : Operand} {y : Opd} (hop : o.op = .move x ∨ o.op = .assign x) (hc : chkOpd C.fids x y = true) (h : evOp call lo (.mov y) σ H pr = some (v, H')) (hσ : ER C.fids μ σ a) (hH : HR C μ H w) :
    Runs C o a w (Done C μ H w v H') := by
  simp only [evOp, pr, Option.some.injEq, Prod.mk.injEq] at h
  obtain ⟨rfl, rfl⟩ := h
  have hv := chkOpd_sound hc hσ
  refine Runs.value (c := a.eval x) (w' := w) ?_ (done_same hH hv)
  rcases hop with hop | hop <;> simp [execOp, hop]

theorem eqGuard_int (P : Program) (w : World) (op : BinOp) (t : TypeId) (x y : Operand) (k k' : IntKind) (n m : Int) : (eqGuard op t x y (.int k n) (.int k' m)).run P w = .ok () w := by
  unfold eqGuard; split <;> rfl
theorem eqGuard_bool (P : Program) (w : World) (op : BinOp) (t : TypeId) (x y : Operand) (n m : Bool) : (eqGuard op t x y (.bool n) (.bool m)).run P w = .ok () w := by
  unfold eqGuard; split <;> rfl

theorem op_bin {b b' : BinOp} {k : IntKind} {t t' : TypeId} {x y : Operand} {x' y' : Opd} (hop : o.op = .binOp b t x y t') (hb : b = b') (hok : okBin b = true) (hx : chkOpd C.fids x x' = true) (hy : chkOpd C.fids y y' = true)
    (h : evOp call lo (.bin b' k x' y') σ H pr = some (v, H')) (hσ : ER C.fids μ σ a) (hH : HR C μ H w) : Runs C o a w (Done C μ H w v H') := by
  subst hb
  simp only [evOp] at h
  obtain ⟨n, hn, h⟩ := asI_some h
  obtain ⟨m, hm, h⟩ := asI_some h
  have vx := chkOpd_sound hx hσ
  have vy := chkOpd_sound hy hσ
  rw [hn] at vx; rw [hm] at vy
  cases hex : a.eval x <;> rw [hex] at vx <;> cases vx
  cases hey : a.eval y <;> rw [hey] at vy <;> cases vy
  have he : ∀ c, (binOp b t (.int k n) (.int k m)).run C.P w = .ok c w → (execOp a.eval o).run C.P w = .ok (.value c) w := fun c hc => by
    simp [execOp, hop, hex, hey, eqGuard_int, hc]
  cases b <;> simp [okBin] at hok <;> simp only [binI, pr] at h
  case quo | rem =>
    by_cases h0 : m = 0
    · simp [h0] at h
    · simp [h0] at h
      obtain ⟨rfl, rfl⟩ := h
      exact Runs.value (he _ (by simp [binOp, Op.intDiv, h0]; rfl)) (done_same hH (by constructor))
  all_goals
    simp only [Option.some.injEq, Prod.mk.injEq] at h
    obtain ⟨rfl, rfl⟩ := h
    refine Runs.value (he _ (by simp [binOp, Op.intArith, Op.intCmp]; rfl)) (done_same hH ?_)
    first
      | constructor
      | (simp only [beq_eq_decide, bne, BEq.beq]; constructor)

theorem equalIn_bool {P : Program} {w : World} {t : TypeId} (ht : P.underlying t = some .bool) {n m : Bool} (d : Nat) : (Op.equalIn (d + 1) t (.bool n) (.bool m)).run P w = .ok (n == m) w := by
  simp only [Op.equalIn]
  simp [underlying, ht]
theorem op_beq {b : BinOp} {neg : Bool} {t t' : TypeId} {x y : Operand} {x' y' : Opd} (hop : o.op = .binOp b t x y t') (hb : b = bif neg then .neq else .eql) (ht : C.P.underlying t = some .bool)
    (hx : chkOpd C.fids x x' = true) (hy : chkOpd C.fids y y' = true)
    (h : evOp call lo (.beq neg x' y') σ H pr = some (v, H')) (hσ : ER C.fids μ σ a) (hH : HR C μ H w) : Runs C o a w (Done C μ H w v H') := by
  simp only [evOp] at h
  obtain ⟨n, hn, h⟩ := asB_some h
  obtain ⟨m, hm, h⟩ := asB_some h
  have vx := chkOpd_sound hx hσ
  have vy := chkOpd_sound hy hσ
  rw [hn] at vx; rw [hm] at vy
  cases hex : a.eval x <;> rw [hex] at vx <;> cases vx
  cases hey : a.eval y <;> rw [hey] at vy <;> cases vy
  simp only [pr, Option.some.injEq, Prod.mk.injEq] at h
  obtain ⟨rfl, rfl⟩ := h
  have heq : (Op.equal t (.bool n) (.bool m)).run C.P w = .ok (n == m) w := by
    exact equalIn_bool ht 9999
  cases neg
  · subst hb
    exact Runs.value (c := .bool (n == m)) (by simp [execOp, hop, hex, hey, eqGuard_bool, binOp, heq]) (done_same hH (by constructor))
  · subst hb
    exact Runs.value (c := .bool (!(n == m))) (by simp [execOp, hop, hex, hey, eqGuard_bool, binOp, heq]) (done_same hH (by constructor))

theorem op_not {t : TypeId} {x : Operand} {x' : Opd} (hop : o.op = .unOp .not t x) (hx : chkOpd C.fids x x' = true)
    (h : evOp call lo (.not x') σ H pr = some (v, H')) (hσ : ER C.fids μ σ a) (hH : HR C μ H w) : Runs C o a w (Done C μ H w v H') := by
  simp only [evOp] at h
  obtain ⟨n, hn, h⟩ := asB_some h
  have vx := chkOpd_sound hx hσ
  rw [hn] at vx
  cases hex : a.eval x <;> rw [hex] at vx <;> cases vx
  simp only [pr, Option.some.injEq, Prod.mk.injEq] at h
  obtain ⟨rfl, rfl⟩ := h
  exact Runs.value (c := .bool !n) (by simp [execOp, hop, hex, Op.unary]) (done_same hH (by constructor))

theorem op_conv {s d : TypeId} {k k' : IntKind} {x : Operand} {x' : Opd} (hop : o.op = .convert s d x) (hs : (C.P.underlying s).isSome = true) (hd : C.P.underlying d = some (.int k')) (hx : chkOpd C.fids x x' = true)
    (h : evOp call lo (.conv k k' x') σ H pr = some (v, H')) (hσ : ER C.fids μ σ a) (hH : HR C μ H w) : Runs C o a w (Done C μ H w v H') := by
  simp only [evOp] at h
  obtain ⟨n, hn, h⟩ := asI_some h
  have vx := chkOpd_sound hx hσ
  rw [hn] at vx
  cases hex : a.eval x <;> rw [hex] at vx <;> cases vx
  simp only [pr, Option.some.injEq, Prod.mk.injEq] at h
  obtain ⟨rfl, rfl⟩ := h
  obtain ⟨ds, hds⟩ := Option.isSome_iff_exists.1 hs
  exact Runs.value (c := .int k' (k'.wrap n)) (by simp [execOp, hop, hex, convert, underlying, hds, hd, Conv.intToInt]) (done_same hH (by constructor))

theorem isAgg_run (P : Program) (w : World) {t : TypeId} {b : Bool} (h : isAggB P t = some b) : (isAgg t).run P w = .ok b w := by
  unfold isAggB at h
  cases hu : P.underlying t with
  | none => rw [hu] at h; simp at h
  | some d => rw [hu] at h; cases d <;> simp at h <;> subst h <;> simp [isAgg, underlying, hu]
theorem sizeOf_run (P : Program) (w : World) {t : TypeId} {n : Nat} (h : sizeB P t = some n) : (sizeOf t).run P w = .ok n w := by
  unfold sizeB at h
  cases hu : P.info? t with
  | none => rw [hu] at h; simp at h
  | some d => rw [hu] at h; simp at h; subst h; simp [sizeOf, typeInfo, hu]
theorem zero_run (P : Program) (w : World) {t : TypeId} {z : Value} (h : zeroB P t = some z) : (zeroValue t).run P w = .ok z w := by
  unfold zeroB at h
  cases hu : P.info? t with
  | none => rw [hu] at h; simp at h
  | some d => rw [hu] at h; simp at h; simp [zeroValue, typeInfo, hu, h]
theorem info_run (P : Program) (w : World) {t : TypeId} {n : Nat} (h : bytesB P t = some n) : ∃ i, (typeInfo t).run P w = .ok i w ∧ i.bytes = n := by
  unfold bytesB at h
  cases hu : P.info? t with
  | none => rw [hu] at h; simp at h
  | some d => rw [hu] at h; simp at h; exact ⟨d, by simp [typeInfo, hu], h⟩
theorem slice_und {P : Program} {t e : TypeId} (h : sliceB P t = some e) : P.underlying t = some (.slice e) := by
  unfold sliceB at h; split at h
  · rename_i e' he; rw [he]; cases h; rfl
  · simp at h
theorem array_und {P : Program} {t : TypeId} {n : Nat} {e : TypeId} (h : arrayB P t = some (n, e)) : P.underlying t = some (.array n e) := by
  unfold arrayB at h; split at h
  · rename_i e' he; rw [he]; cases h; rfl
  · simp at h
theorem field_und {P : Program} {t : TypeId} {f : Nat} {fd : Field} (h : fieldB P t f = some fd) : ∃ fs, P.underlying t = some (.struct fs) ∧ fs[f]? = some fd := by
  unfold fieldB at h; split at h
  · rename_i e' he; exact ⟨_, he, h⟩
  · simp at h

/-- A load. -/
theorem loadVar_run (hH : HR C μ H w) {t : TypeId} {t1 : T1} (ht : chkT1 C.P t t1 = true) {b ofs : Nat} {e : Ent} (he : μ[b]? = some (some e)) {v : AV} (h : ldT H t1 ⟨b, ofs⟩ some = some v) :
    ∃ c, (loadVar t ⟨e.B, e.o + ofs, none⟩).run C.P w = .ok c w ∧ VR C.fids μ v c := by
  cases t1 with
  | lf l =>
    simp only [ldT] at h
    obtain ⟨vs, sz, v', hb, hv, h⟩ := ldc_some h
    have := castLf_some h
    simp only [Option.some.injEq] at this
    subst this
    obtain ⟨c, hc, hr⟩ := hH.cell hb he hv
    simp only [chkT1, decide_eq_true_eq] at ht
    refine ⟨c, ?_, hr⟩
    simp [loadVar, isAgg_run C.P w ht, hc]
  | agg ls =>
    simp only [ldT] at h
    obtain ⟨vs, sz, hb, hn, h⟩ := ldn_some h
    have := (castLfs_some h).1
    simp only [Option.some.injEq] at this
    subst this
    simp only at hn
    obtain ⟨cs, h1, h2, h3⟩ := hH.cells hb he hn
    simp only [chkT1, Bool.and_eq_true, decide_eq_true_eq] at ht
    refine ⟨.agg cs.toArray, ?_, .agg _ _ h2⟩
    have := loadCells_run C.P w e.B (e.o + ofs) cs h3
    rw [h1] at this
    simp [loadVar, isAgg_run C.P w ht.1, sizeOf_run C.P w ht.2, this]

theorem op_ld {t : TypeId} {t1 : T1} {x : Operand} {x' : Opd} (hop : o.op = .load t x) (ht : chkT1 C.P t t1 = true) (hx : chkOpd C.fids x x' = true)
    (h : evOp call lo (.ld t1 x') σ H pr = some (v, H')) (hσ : ER C.fids μ σ a) (hH : HR C μ H w) : Runs C o a w (Done C μ H w v H') := by
  simp only [evOp] at h
  obtain ⟨p, hp, h⟩ := asP_some h
  obtain ⟨v', hv', h⟩ := ldT_some h
  simp only [pr, Option.some.injEq, Prod.mk.injEq] at h
  obtain ⟨rfl, rfl⟩ := h
  have vx := chkOpd_sound hx hσ
  rw [hp] at vx
  cases hex : a.eval x <;> rw [hex] at vx <;> cases vx
  rename_i b ofs e he
  obtain ⟨c, hr, hv⟩ := loadVar_run hH ht he (hv' some)
  exact Runs.value (c := c) (by simp [execOp, hop, hex, Instr.loadAt, Instr.sureAddr, hr]) (done_same hH hv)

theorem op_st {t : TypeId} {n : Option Nat} {x y : Operand} {x' y' : Opd} (hop : o.op = .store t x y) (ht : sizeB C.P t = some (n.getD 1)) (hx : chkOpd C.fids x x' = true) (hy : chkOpd C.fids y y' = true) (hlo : C.lo0 ≤ lo)
    (h : evOp call lo (.st n x' y') σ H pr = some (v, H')) (hσ : ER C.fids μ σ a) (hH : HR C μ H w) : Runs C o a w (Done C μ H w v H') := by
  simp only [evOp] at h
  obtain ⟨p, hp, h⟩ := asP_some h
  have vx := chkOpd_sound hx hσ
  have vy := chkOpd_sound hy hσ
  rw [hp] at vx
  cases hex : a.eval x <;> rw [hex] at vx <;> cases vx
  rename_i b ofs e he
  -- the cells that are stored
  obtain ⟨us, sz, vs, hb, hlb, hn, hus, hs1, hH'⟩ : ∃ us sz vs, H[b]? = some (.cells vs sz) ∧ lo ≤ b ∧ ofs + us.length ≤ vs.length ∧ us.length = n.getD 1 ∧ (VRs C.fids μ us (a.eval y).cells.toList ∧ ∀ c ∈ (a.eval y).cells.toList, c.oneCell' = true) ∧
      v = .tup [] ∧ H' = H.set b (.cells (overlay vs ofs us) sz) := by
    cases n with
    | none =>
      simp only at h
      obtain ⟨hs, h⟩ := cond_none h
      obtain ⟨vs, sz, hb, hlb, hn, h⟩ := stc_some h
      simp only [pr, Option.some.injEq, Prod.mk.injEq] at h
      simp only at hb hlb hn h
      have h1 := vy.single hs
      have h2 := cells_of_oneCell h1
      refine ⟨[opd σ y'], sz, vs, hb, hlb, by simp; omega, rfl, ⟨?_, ?_⟩, h.1.symm, ?_⟩
      · rw [h2]; exact .cons _ _ _ _ vy .nil
      · rw [h2]; simpa using h1
      · rw [← h.2, overlay_one _ _ _ hn]
    | some n =>
      simp only at h
      obtain ⟨us, hu, h⟩ := asAgg_some h
      obtain ⟨hs, h⟩ := cond_none h
      simp only [Bool.and_eq_true, decide_eq_true_eq] at hs
      obtain ⟨vs, sz, hb, hlb, hn, h⟩ := stn_some h
      simp only [pr, Option.some.injEq, Prod.mk.injEq] at h
      simp only at hb hlb hn h
      rw [hu] at vy
      refine ⟨us, sz, vs, hb, hlb, hn, hs.1, ?_, h.1.symm, h.2.symm⟩
      cases hey : a.eval y <;> rw [hey] at vy <;> cases vy
      rename_i cs hvs
      refine ⟨by simpa [Value.cells] using hvs, ?_⟩
      simp only [Value.cells]
      have : ∀ {us : List AV} {cs : List Value}, VRs C.fids μ us cs → singles us = true → ∀ c ∈ cs, c.oneCell' = true := by
        intro us
        induction us with
        | nil => intro cs h _ c hc; cases h; simp at hc
        | cons u us ih =>
          intro cs h hs c hc
          cases h with
          | cons _ c' _ cs' h1 h2 =>
            cases hsu : single u <;> simp [singles, hsu] at hs
            rcases List.mem_cons.1 hc with rfl | hc
            · exact h1.single hsu
            · exact ih h2 hs c hc
      exact this hvs hs.2
  obtain ⟨hv, rfl⟩ := hH'
  subst hv
  obtain ⟨hu1, hu2⟩ := hs1
  have hlb0 : C.lo0 ≤ b := Nat.le_trans hlo hlb
  obtain ⟨g1, g2, g3⟩ := hH.blk b _ e hb he
  obtain ⟨g4, g5⟩ := g3 hlb0
  have hlen := hu1.length
  obtain ⟨w', hr, hw⟩ := storeCells_run C.P e.B (e.o + ofs) (a.eval y).cells.toList 0 w hu2 (fun j hj => by
    have := g5 (ofs + j) (by omega)
    rw [show e.o + ofs + 0 + j = e.o + (ofs + j) by omega]; exact this)
  have hsz : (a.eval y).cells.size = n.getD 1 := by rw [← hus, hlen]; simp
  refine Runs.skip (w' := w') ?_ ⟨μ, Ext.refl _, ?_, hH.store hb he hlb0 hn hu1 hw, hw.below ((hH.own b e he).2 hlb0), ?_⟩
  · simp [execOp, hop, hex, Instr.storeAt, Instr.sureAddr, storeVar, sizeOf_run C.P w ht, hsz, hr]
  · exact .tup _ [] .nil
  · intro i hi
    have : i ≠ b := fun e' => by subst e'; rw [hi] at he; cases he
    rw [List.getElem?_set_ne (Ne.symm this)]
end
end Go.Ab
