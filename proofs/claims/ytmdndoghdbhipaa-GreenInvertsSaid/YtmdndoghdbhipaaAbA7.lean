/- Each operation's law: made slices, lengths, parts of tuples, appends. -/
import Derived.Test.YtmdndoghdbhipaaAbA6
import Derived.IntWalk
set_option linter.unusedSimpArgs false
set_option linter.unusedVariables false
namespace Go.Ab
open Go Go.RowKit

section
variable {C : Ctx} {o : Oper} {a : Act} {w : World} {μ : MU} {H H' : AH} {σ : Env} {v : AV} {lo : Nat} {call : CallT}

theorem op_len {t : TypeId} {x : Operand} {x' : Opd} {ats : Array TypeId} (hop : o.op = .call ⟨.builtin .len, #[x], ats⟩) (ht : ats[0]? = some t) (he : (sliceB C.P t).isSome = true) (hx : chkOpd C.fids x x' = true)
    (h : evOp call lo (.len x') σ H pr = some (v, H')) (hσ : ER C.fids μ σ a) (hH : HR C μ H w) : Runs C o a w (Done C μ H w v H') := by
  simp only [evOp] at h
  obtain ⟨s, hs, h⟩ := asS_some h
  obtain ⟨h1, h2⟩ := pr_inj h
  subst h1; subst h2
  have vx := chkOpd_sound hx hσ
  rw [hs] at vx
  obtain ⟨q, cap, hex⟩ := vx.sl_any
  obtain ⟨e, he⟩ := Option.isSome_iff_exists.1 he
  exact Runs.value (c := .int .i64 s.len) (by simp [execOp, hop, resolve, invoke, builtin, Builtin.len_, ht, hex, underlying, slice_und he, goInt]) (done_same hH (by constructor))

theorem op_lens {t : TypeId} {x : Operand} {x' : Opd} {ats : Array TypeId} (hop : o.op = .call ⟨.builtin .len, #[x], ats⟩) (ht : ats[0]? = some t) (he : C.P.underlying t = some .string) (hx : chkOpd C.fids x x' = true)
    (h : evOp call lo (.lens x') σ H pr = some (v, H')) (hσ : ER C.fids μ σ a) (hH : HR C μ H w) : Runs C o a w (Done C μ H w v H') := by
  simp only [evOp] at h
  obtain ⟨s, hs, h⟩ := asStr_some h
  obtain ⟨h1, h2⟩ := pr_inj h
  subst h1; subst h2
  have vx := chkOpd_sound hx hσ
  rw [hs] at vx
  have hex := vx.str_inv
  exact Runs.value (c := .int .i64 s.size) (by simp [execOp, hop, resolve, invoke, builtin, Builtin.len_, ht, hex, underlying, he, goInt]) (done_same hH (by constructor))

theorem op_ext {i j : Nat} {x : Operand} {x' : Opd} (hop : o.op = .extract x i) (hij : i = j) (hx : chkOpd C.fids x x' = true)
    (h : evOp call lo (.ext x' j) σ H pr = some (v, H')) (hσ : ER C.fids μ σ a) (hH : HR C μ H w) : Runs C o a w (Done C μ H w v H') := by
  subst hij
  simp only [evOp] at h
  obtain ⟨l, hs, h⟩ := asTup_some h
  split at h
  · rename_i u hu
    obtain ⟨h1, h2⟩ := pr_inj h
    subst h1; subst h2
    have vx := chkOpd_sound hx hσ
    rw [hs] at vx
    obtain ⟨cs, hex, hcs⟩ := vx.tup_inv
    obtain ⟨c, hc, hr⟩ := hcs.get hu
    exact Runs.value (c := c) (by simp [execOp, hop, hex, Instr.extract, hc]) (done_same hH hr)
  · simp at h

theorem flat_get {α : Type} (zs : List α) (h0 : zs.length ≠ 0) : ∀ (l j : Nat), j < l * zs.length → (List.replicate l zs).flatten[j]? = zs[j % zs.length]? := by
  intro l
  induction l with
  | zero => intro j hj; simp at hj
  | succ l ih =>
    intro j hj
    rw [List.replicate_succ, List.flatten_cons]
    rcases Nat.lt_or_ge j zs.length with h | h
    · rw [List.getElem?_append_left h, Nat.mod_eq_of_lt h]
    · rw [List.getElem?_append_right h, ih _ (by rw [Nat.succ_mul] at hj; omega)]
      congr 1
      rw [Nat.mod_eq_sub_mod h]
theorem flat_length {α : Type} (zs : List α) (l : Nat) : (List.replicate l zs).flatten.length = l * zs.length := by
  induction l with
  | zero => simp
  | succ l ih => rw [List.replicate_succ, List.flatten_cons, List.length_append, ih, Nat.succ_mul, Nat.add_comm]

/-- A new block whose first cells are known. -/
theorem push_cells' (hH : HR C μ H w) {vs : List AV} {cs : List Value} {sz : Nat} {el : TypeId} (hv : ∀ (j : Nat) (v : AV), vs[j]? = some v → ∃ c, cs[j]? = some c ∧ VR C.fids μ v c) :
    HR C (μ ++ [some ⟨w.heap.size, 0, cs.length, sz⟩]) (H ++ [.cells vs sz]) (w.alloc (.cells cs.toArray el)) := by
  refine hH.push _ _ _ rfl ⟨rfl, fun j v hj => ?_, fun _ => ⟨?_, fun j hj => ?_⟩⟩
  · obtain ⟨c, hc, hr⟩ := hv j v hj
    refine ⟨c, ?_, hr.mono (Ref.app _ _)⟩
    simp only [Nat.zero_add, World.cell?_alloc_new]
    simpa using hc
  · simp only
    rcases Nat.lt_or_ge cs.length vs.length with h | h
    · obtain ⟨c, hc, _⟩ := hv cs.length _ (List.getElem?_eq_getElem h)
      simp at hc
    · exact h
  · simp only at hj
    simp [hj]

theorem op_mksl {t e : TypeId} {zs : List AV} {bytes : Nat} {z : Value} {x y : Operand} {x' y' : Opd} (hop : o.op = .makeSlice t x y) (ht : sliceB C.P t = some e) (hb : bytesB C.P e = some bytes) (hb0 : bytes ≠ 0) (hsz : sizeB C.P e = some zs.length) (h0 : zs.length ≠ 0)
    (hz : zeroB C.P e = some z) (hc : chkVs z.cells.toList zs = true) (hx : chkOpd C.fids x x' = true) (hy : chkOpd C.fids y y' = true)
    (h : evOp call lo (.mksl zs bytes x' y') σ H pr = some (v, H')) (hσ : ER C.fids μ σ a) (hH : HR C μ H w) : Runs C o a w (Done C μ H w v H') := by
  simp only [evOp] at h
  obtain ⟨l, hl, h⟩ := asI_some h
  obtain ⟨c, hcp, h⟩ := asI_some h
  simp only [mks] at h
  obtain ⟨hb', h⟩ := cond_none h
  simp only [Bool.and_eq_true, decide_eq_true_eq] at hb'
  obtain ⟨⟨hl0, hlc⟩, hroom⟩ := hb'
  have hrm : (room : Int) = 70368744177664 := rfl
  obtain ⟨h1, h2⟩ := pr_inj h
  subst h1; subst h2
  have vx := chkOpd_sound hx hσ
  have vy := chkOpd_sound hy hσ
  rw [hl] at vx; rw [hcp] at vy
  have hex := vx.int_inv
  have hey := vy.int_inv
  obtain ⟨i, hi, hib⟩ := info_run C.P w hb
  have hc63 : c ≤ 70368744177664 := by
    have : c * 1 ≤ c * (bytes : Int) := Int.mul_le_mul_of_nonneg_left (by omega) (by omega)
    omega
  have wl : IntKind.i64.wrap l = l := IntWalk.i64_in _ (by omega)
  have wc : IntKind.i64.wrap c = c := IntWalk.i64_in _ (by omega)
  have hvz := chkVs_sound (fids := C.fids) (μ := μ) hc
  have hzl : z.cells.size = zs.length := by have := hvz.length; simp at this; omega
  have hn0 : ∀ n, n = c.toNat * zs.length → (Array.range n).map (fun j => (if n = 0 then (#[] : Array Value) else z.cells)[j % (if n = 0 then (#[] : Array Value) else z.cells).size]!) = (Array.range n).map (z.cells[· % z.cells.size]!) := by
    intro n _
    by_cases hn : n = 0
    · subst hn; simp
    · simp [hn]
  let cs : List Value := ((Array.range (c.toNat * zs.length)).map (z.cells[· % z.cells.size]!)).toList
  have hcs : cs.length = c.toNat * zs.length := by simp [cs]
  have hcsA : cs.toArray = (Array.range (c.toNat * zs.length)).map (z.cells[· % z.cells.size]!) := Array.toArray_toList
  refine Runs.value (c := .slice (some ⟨w.heap.size, 0, none⟩) l.toNat c.toNat) (w' := w.alloc (.cells cs.toArray e)) ?_ ?_
  · have hbc : (bytes : Int) * c ≤ 70368744177664 := by rw [Int.mul_comm, ← hrm]; exact hroom
    simp only [execOp, hop, hex, hey, Instr.makeSlice, Sem.run_bind, Result.andThen_ok, underlying, run_program, slice_und ht, Sem.run_pure, Go.asInt, asIntOf, hi, hib, wl, wc, run_askRoom, sizeOf_run C.P w hsz]
    rw [if_neg (by simp; omega)]
    simp only [Sem.run_bind, run_askRoom, Result.andThen_ok, sizeOf_run C.P w hsz]
    rw [hcsA]
    by_cases hn : c.toNat * zs.length = 0
    · have e4 : ∀ f : Nat → Value, Array.map f (Array.range 0) = #[] := fun f => by simp
      simp only [hn, if_true, Sem.run_pure, Result.andThen_ok, newRow, Sem.run_bind, run_newObj, e4]
      rfl
    · simp only [hn, if_false, zero_run C.P w hz, Sem.run_bind, Sem.run_pure, Result.andThen_ok, newRow, run_newObj]
      rfl
  · refine ⟨_, ⟨_, rfl⟩, new_sl (e := ⟨w.heap.size, 0, cs.length, zs.length⟩) hH rfl (by omega) (by simp [hcs]) (by simp only; omega), push_cells' hH (fun j v hj => ?_), (Below.refl _ _).alloc hH.base _, keep_snoc hH _⟩
    have hjl : j < l.toNat * zs.length := by
      have := (List.getElem?_eq_some_iff.1 hj).1
      rw [flat_length] at this; exact this
    rw [flat_get zs h0 _ _ hjl] at hj
    obtain ⟨q, hq, hr⟩ := hvz.get hj
    have hle : l.toNat * zs.length ≤ c.toNat * zs.length := Nat.mul_le_mul_right _ (by omega)
    have hqs : z.cells[j % zs.length]? = some q := by simpa using hq
    refine ⟨q, ?_, hr⟩
    simp only [cs, Array.toList_map, Array.toList_range, List.getElem?_map]
    rw [List.getElem?_range (by omega)]
    simp only [Option.map_some, hzl]
    rw [Array.getElem!_eq_getD, Array.getD_eq_getD_getElem?, hqs]; rfl

/-! ### Appends -/
theorem growBy_le (newLen : Nat) : ∀ (rounds c : Nat), 256 ≤ c → c ≤ 2 * newLen → Builtin.growBy newLen rounds c ≤ 2 * newLen := by
  intro rounds
  induction rounds with
  | zero => intro c _ h; exact h
  | succ n ih =>
    intro c h1 h2
    unfold Builtin.growBy
    split
    · exact h2
    · exact ih _ (by omega) (by omega)
theorem next_le (need cap : Nat) (h : cap < need) : Builtin.nextslicecap need cap ≤ 2 * need := by
  unfold Builtin.nextslicecap
  split
  · omega
  · split
    · omega
    · exact growBy_le _ _ _ (by omega) (by omega)
theorem choose_cap (P : Program) (w : World) (need old : Nat) (el : TypeId) (h : need < 9223372036854775808) : ∃ n, need ≤ n ∧ (choose (.appendCap need old el)).run P w = .ok n w.drew := by
  refine ⟨_, ?_, by rw [run_choose]; simp only [Question.forced, Bool.false_eq_true, if_false]; rfl⟩
  simp only [Question.cut]
  omega

theorem notInt {P : Program} {t e : TypeId} (h : sliceB P t = some e) : ∀ k, P.underlying t ≠ some (.int k) := fun k hk => by rw [slice_und h] at hk; cases hk

theorem app_in {P : Program} {ats : Array TypeId} {ty t e t2 e2 : TypeId} {size sLen sCap n : Nat} {base : Option Addr} {xv : Value} {cs : List Value} {w w' : World} (h0 : ats[0]? = some t) (h1 : ats[1]? = some t2)
    (ht : sliceB P t = some e) (ht2 : sliceB P t2 = some e2) (hsz : sizeB P e = some size) (hl : (Builtin.lenOf xv).run P w = .ok n w) (hf : (Builtin.firstCells size n xv).run P w = .ok cs.toArray w) (hn : sLen + n ≤ sCap)
    (hs : match base with | none => w' = w | some a => (storeCells (a.add (sLen * size)) cs).run P w = .ok () w') :
    (Builtin.append_ ats ty #[.slice base sLen sCap, xv]).run P w = .ok (.slice base (sLen + n) sCap) w' := by
  unfold Builtin.append_
  have h2 := slice_und ht2
  simp only [h0, h1, List.getElem?_toArray, List.getElem?_cons_zero, List.getElem?_cons_succ, Sem.run_bind, underlying, run_program, Result.andThen_ok, slice_und ht, Sem.run_pure, sizeOf_run P w hsz, h2, hl, Bool.false_eq_true, if_false, Bool.not_false, if_true, hn, hf]
  cases base with
  | none => simp only at hs; subst hs; simp
  | some a => simp only at hs; simp [hs]

theorem app_grow {P : Program} {ats : Array TypeId} {ty t e t2 e2 : TypeId} {size bytes sLen sCap n : Nat} {base : Option Addr} {xv z : Value} {cs old : List Value} {w : World} (h0 : ats[0]? = some t) (h1 : ats[1]? = some t2)
    (ht : sliceB P t = some e) (ht2 : sliceB P t2 = some e2) (hsz : sizeB P e = some size) (hb : bytesB P e = some bytes) (hb0 : bytes ≠ 0) (hz : zeroB P e = some z) (hzs : z.cells.size = size)
    (hl : (Builtin.lenOf xv).run P w = .ok n w) (hf : (Builtin.firstCells size n xv).run P w.drew = .ok cs.toArray w.drew) (ho : (Builtin.firstCells size sLen (.slice base sLen sCap)).run P w.drew = .ok old.toArray w.drew) (hn : ¬ sLen + n ≤ sCap)
    (hroom : (sLen + n) * bytes ≤ room) :
    ∃ newCap rest, sLen + n ≤ newCap ∧ rest.length = (newCap - (sLen + n)) * size ∧
      (Builtin.append_ ats ty #[.slice base sLen sCap, xv]).run P w = .ok (.slice (some ⟨w.heap.size, 0, none⟩) (sLen + n) newCap) (w.drew.alloc (.cells (old ++ cs ++ rest).toArray e)) := by
  have hr2 : (sLen + n) * 1 ≤ (sLen + n) * bytes := Nat.mul_le_mul_left _ (by omega)
  have hrm : room = 70368744177664 := rfl
  obtain ⟨newCap, hc1, hc2⟩ := choose_cap P w (sLen + n) sCap e (by omega)
  obtain ⟨i, hi, hib⟩ := info_run P w hb
  obtain ⟨i', hi', hib'⟩ := info_run P w.drew hb
  have hnext := next_le (sLen + n) sCap (by omega)
  have hbig : ¬ Builtin.nextslicecap (sLen + n) sCap * bytes > 2 ^ 48 := by
    have : Builtin.nextslicecap (sLen + n) sCap * bytes ≤ 2 * (sLen + n) * bytes := Nat.mul_le_mul_right _ hnext
    rw [Nat.mul_assoc] at this
    omega
  refine ⟨newCap, (Builtin.zeroCells z.cells (newCap - (sLen + n))).toList, hc1, by simp [Builtin.zeroCells, hzs], ?_⟩
  unfold Builtin.append_
  have h2 := slice_und ht2
  simp only [h0, h1, List.getElem?_toArray, List.getElem?_cons_zero, List.getElem?_cons_succ, Sem.run_bind, underlying, run_program, Result.andThen_ok, slice_und ht, Sem.run_pure, sizeOf_run P w hsz, h2, hl, Bool.false_eq_true, if_false, Bool.not_false, if_true, hn,
    hi, hib, hb0, or_self, and_false, hbig, hc2, hi', hib', run_askRoom, ho, hf, zero_run P w.drew hz, newRow, run_newObj, Sem.run_ite]
  have hx : (old ++ cs ++ (Builtin.zeroCells z.cells (newCap - (sLen + n))).toList).toArray = old.toArray ++ cs.toArray ++ Builtin.zeroCells z.cells (newCap - (sLen + n)) := by
    apply Array.ext'; simp
  rw [hx]
  rfl

/-- Killing a block. -/
theorem HR.kill (h : HR C μ H w) {b : Nat} {blk : Blk} {e : Ent} (hb : H[b]? = some blk) (hd : blk ≠ .dead) (he : μ[b]? = some (some e)) (hlo : C.lo0 ≤ b) : HR C μ (H.set b .dead) w :=
  h.change hb hd he hlo (Nat.le_refl _) (fun _ _ _ => rfl) trivial

theorem op_app {t t2 e e2 : TypeId} {sz bytes : Nat} {z : Value} {x y : Operand} {x' y' : Opd} {ats : Array TypeId} (hop : o.op = .call ⟨.builtin .append, #[x, y], ats⟩) (h0 : ats[0]? = some t) (h1 : ats[1]? = some t2)
    (ht : sliceB C.P t = some e) (ht2 : sliceB C.P t2 = some e2) (hsz : sizeB C.P e = some sz) (hb : bytesB C.P e = some bytes) (hb0 : bytes ≠ 0) (hz : zeroB C.P e = some z) (hzs : z.cells.size = sz) (hsz0 : 0 < sz)
    (hx : chkOpd C.fids x x' = true) (hy : chkOpd C.fids y y' = true) (hlo : C.lo0 ≤ lo)
    (h : evOp call lo (.app sz bytes x' y') σ H pr = some (v, H')) (hσ : ER C.fids μ σ a) (hH : HR C μ H w) : Runs C o a w (Done C μ H w v H') := by
  simp only [evOp] at h
  obtain ⟨s, hs, h⟩ := asS_some h
  obtain ⟨u, hu, h⟩ := asS_some h
  have vx := chkOpd_sound hx hσ
  have vy := chkOpd_sound hy hσ
  rw [hs] at vx; rw [hu] at vy
  have hexec : ∀ {c w'}, (Builtin.append_ ats o.type #[a.eval x, a.eval y]).run C.P w = .ok c w' → (execOp a.eval o).run C.P w = .ok (.value c) w' := fun {c w'} hr => by
    simp [execOp, hop, resolve, invoke, builtin, hr]
  -- nothing is appended
  have same : ∀ {cs : List Value}, (Builtin.lenOf (a.eval y)).run C.P w = .ok 0 w → (Builtin.firstCells sz 0 (a.eval y)).run C.P w = .ok (#[] : Array Value) w → v = .sl s → H' = H → Runs C o a w (Done C μ H w v H') := by
    intro cs hl hf h1' h2'
    subst h1'; subst h2'
    obtain ⟨q, cap, hex⟩ := vx.sl_any
    have hcap : s.len ≤ cap := by
      rw [hex] at vx
      cases vx with
      | nilsl x => exact Nat.le_refl _
      | sl b ofs len cap' e' he hc hl hz => exact hl
      | sle b ofs x e he => exact Nat.le_refl _
    refine Runs.value (c := .slice q s.len cap) (w' := w) (hexec ?_) (done_same hH (by rw [← hex]; exact vx))
    rw [hex]
    have := app_in (P := C.P) (ty := o.type) (size := sz) (cs := []) (w := w) (w' := w) (base := q) (n := 0) h0 h1 ht ht2 hsz hl hf (by simpa using hcap) (by cases q <;> simp [storeCells])
    simpa using this
  simp only [appS] at h
  cases hup : u.p with
  | none =>
    rw [hup] at h
    simp only at h
    obtain ⟨hul, h⟩ := cond_none h
    obtain ⟨g1, g2⟩ := pr_inj h
    obtain ⟨xe, hey, hul⟩ := vy.nilsl_inv' hup
    exact same (cs := []) (by rw [hey]; rfl) (by rw [hey]; cases xe <;> simp [Builtin.firstCells, loadCells, loadCellsFrom]) g1.symm g2.symm
  | some q =>
    rw [hup] at h
    simp only at h
    obtain ⟨vs, szq, hq, hqn, h⟩ := ldn_some h
    rcases vy.sl_inv' hup with ⟨eq, capq, hey, heq, hcq, hlq, _⟩ | ⟨xe, _, hey, hul, _⟩
    case inr =>
      unfold app at h
      rw [hul] at h
      simp only [decide_true, cond_true] at h
      obtain ⟨g1, g2⟩ := pr_inj h
      exact same (cs := []) (by rw [hey]; rfl) (by rw [hey]; cases xe <;> simp [Builtin.firstCells, loadCells, loadCellsFrom]) g1.symm g2.symm
    obtain ⟨cs, hcl, hcv, hcc⟩ := hH.cells hq heq hqn
    have hlen : (Builtin.lenOf (a.eval y)).run C.P w = .ok u.len w := by rw [hey]; rfl
    have hfirst : ∀ w1 : World, w1.heap = w.heap → (Builtin.firstCells sz u.len (a.eval y)).run C.P w1 = .ok cs.toArray w1 := fun w1 hw1 => by
      rw [hey]
      have := loadCells_run C.P w1 eq.B (eq.o + q.o) cs (fun j c hj => by
        have := hcc j c hj
        unfold World.cell? at this ⊢; rw [hw1]; exact this)
      rw [hcl] at this
      exact this
    unfold app at h
    by_cases hn0 : u.len = 0
    · rw [hn0] at h hlen hfirst hcl
      simp only [decide_true, cond_true] at h
      obtain ⟨g1, g2⟩ := pr_inj h
      have hcs : cs = [] := by simpa using hcl
      subst hcs
      exact same (cs := []) hlen (hfirst w rfl) g1.symm g2.symm
    · simp only [hn0, decide_false, cond_false] at h
      obtain ⟨hc1, h⟩ := cond_none h
      simp only [Bool.and_eq_true, decide_eq_true_eq] at hc1
      obtain ⟨⟨hroom, hcl2⟩, hsing⟩ := hc1
      cases hsp : s.p with
      | none =>
        rw [hsp] at h
        simp only at h
        obtain ⟨hsl, h⟩ := cond_none h
        obtain ⟨xe, hex, hsl⟩ := vx.nilsl_inv' hsp
        obtain ⟨g1, g2⟩ := pr_inj h
        subst g1; subst g2
        obtain ⟨nc, rest, hnc, hrest, hr⟩ := app_grow (P := C.P) (ty := o.type) (w := w) (base := xe) (sLen := 0) (sCap := 0) (n := u.len) (cs := cs) (old := []) h0 h1 ht ht2 hsz hb hb0 hz hzs hlen (hfirst w.drew rfl) (by cases xe <;> simp [Builtin.firstCells, loadCells, loadCellsFrom]) (by omega) (by rw [hsl] at hroom; exact hroom)
        simp only [Nat.zero_add, List.nil_append] at hr hnc hrest
        rw [hex] at hexec
        refine Runs.value (hexec hr) ?_
        have hHd := hH.heap (w' := w.drew) rfl
        refine ⟨_, ⟨_, rfl⟩, new_sl (e := ⟨w.heap.size, 0, (cs ++ rest).length, sz⟩) hH rfl hnc ?_ hsz0, push_cells' (el := e) (sz := sz) hHd (fun j v hj => ?_), ?_, keep_snoc hH _⟩
        · simp only [List.length_append, hcl, hrest]
          rw [← Nat.add_mul]; exact Nat.le_of_eq (by congr 1; omega)
        · obtain ⟨c, hc, hv⟩ := hcv.get hj
          exact ⟨c, by rw [List.getElem?_append_left (List.getElem?_eq_some_iff.1 hc).1]; exact hc, hv⟩
        · exact ((Below.refl _ _).drew).alloc hH.base _
      | some p =>
        rw [hsp] at h
        simp only at h
        split at h
        · rename_i vs0 sz' hpb
          obtain ⟨hc2, h⟩ := cond_none h
          simp only [Bool.and_eq_true, decide_eq_true_eq] at hc2
          obtain ⟨⟨hlop, hszz⟩, hend⟩ := hc2
          subst hszz
          obtain ⟨g1, g2⟩ := pr_inj h
          rcases vx.sl_inv' hsp with ⟨ep, cap, hex, hep, hcp, hlp, hz0⟩ | ⟨xe, ep, hex, hsl, hep⟩
          case inr =>
            have hlo0 : C.lo0 ≤ p.b := Nat.le_trans hlo hlop
            have hkeep : ∀ b' : Blk, Keep μ H (H.set p.b .dead ++ [b']) := fun b' i hi => by
              have hil : i < μ.length := (List.getElem?_eq_some_iff.1 hi).1
              have hne : p.b ≠ i := fun e' => by subst e'; rw [hi] at hep; cases hep
              rw [List.getElem?_append_left (by rw [List.length_set, ← hH.len]; exact hil), List.getElem?_set_ne hne]
            subst g1; subst g2
            obtain ⟨nc, rest, hnc, hrest, hr⟩ := app_grow (P := C.P) (ty := o.type) (w := w) (base := xe) (sLen := 0) (sCap := 0) (n := u.len) (cs := cs) (old := []) h0 h1 ht ht2 hsz hb hb0 hz hzs hlen (hfirst w.drew rfl) (by cases xe <;> simp [Builtin.firstCells, loadCells, loadCellsFrom]) (by omega) (by rw [hsl] at hroom; exact hroom)
            simp only [Nat.zero_add, List.nil_append] at hr hnc hrest
            rw [hex] at hexec
            refine Runs.value (hexec hr) ?_
            have hkill := (hH.kill hpb (by simp) hep hlo0).heap (w' := w.drew) rfl
            rw [hsl]
            simp only [Nat.zero_mul, List.take_zero, List.nil_append, Nat.zero_add]
            have hmn : (H.set p.b .dead).length = H.length := List.length_set ..
            refine ⟨_, ⟨_, rfl⟩, ?_, push_cells' (el := e) (sz := sz') hkill (fun j v hj => ?_), ((Below.refl _ _).drew).alloc hH.base _, hkeep _⟩
            · exact new_sl (e := ⟨w.heap.size, 0, (cs ++ rest).length, sz'⟩) hH rfl hnc (by
                simp only [List.length_append, hcl, hrest]
                rw [← Nat.add_mul]; exact Nat.le_of_eq (by congr 1; omega)) hsz0
            · obtain ⟨c, hc, hv⟩ := hcv.get hj
              exact ⟨c, by rw [List.getElem?_append_left (List.getElem?_eq_some_iff.1 hc).1]; exact hc, hv⟩
          have hlo0 : C.lo0 ≤ p.b := Nat.le_trans hlo hlop
          obtain ⟨k1, k2, k3⟩ := hH.blk p.b _ ep hpb hep
          obtain ⟨k4, k5⟩ := k3 hlo0
          have howp := hH.own p.b ep hep
          have hkeep : ∀ b' : Blk, Keep μ H (H.set p.b .dead ++ [b']) := fun b' i hi => by
            have hil : i < μ.length := (List.getElem?_eq_some_iff.1 hi).1
            have hne : p.b ≠ i := fun e' => by subst e'; rw [hi] at hep; cases hep
            rw [List.getElem?_append_left (by rw [List.length_set, ← hH.len]; exact hil), List.getElem?_set_ne hne]
          have hpo : p.o ≤ vs0.length := by omega
          obtain ⟨os, ol, ov, oc⟩ := hH.cells (n := s.len * sz') hpb hep (o := p.o) (by omega)
          have hdl : ((vs0.drop p.o).take (s.len * sz')).length = s.len * sz' := by simp; omega
          have hmn : H.length = μ.length := hH.len.symm
          subst g1; subst g2
          rw [hex] at hexec
          by_cases hfit : s.len + u.len ≤ cap
          · -- it fits
            have hfits : (s.len + u.len) * ep.sz ≤ cap * ep.sz := Nat.mul_le_mul_right _ hfit
            rw [Nat.add_mul] at hfits
            rw [k1] at hcp hfits
            obtain ⟨w', hr, hw⟩ := storeCells_run C.P ep.B (ep.o + p.o + s.len * sz') cs 0 w (singles_get hcv hsing) (fun j hj => by
              have := k5 (p.o + s.len * sz' + j) (by omega)
              rw [show ep.o + p.o + s.len * sz' + 0 + j = ep.o + (p.o + s.len * sz' + j) by omega]; exact this)
            have hr' := app_in (P := C.P) (ty := o.type) (w := w) (w' := w') (base := some ⟨ep.B, ep.o + p.o, none⟩) (n := u.len) (cs := cs) h0 h1 ht ht2 hsz hlen (hfirst w rfl) hfit (by simp only [addr_add]; exact hr)
            refine Runs.value (hexec hr') ?_
            have hkill : HR C μ (H.set p.b .dead) w' := hH.change hpb (by simp) hep hlo0 (Nat.le_of_eq hw.size.symm) (fun k _ hk => hw.other k hk) trivial
            refine ⟨μ ++ [some ⟨ep.B, ep.o + p.o, ep.cap - p.o, ep.sz⟩], ⟨_, rfl⟩, ?_, ?_, hw.below (howp.2 hlo0), hkeep _⟩
            · have := VR.sl (fids := C.fids) (μ := μ ++ [some ⟨ep.B, ep.o + p.o, ep.cap - p.o, ep.sz⟩]) H.length 0 (s.len + u.len) cap ⟨ep.B, ep.o + p.o, ep.cap - p.o, ep.sz⟩ (by rw [hmn]; simp) (by simp only [k1]; omega) hfit hz0
              simpa using this
            · refine hkill.pushOld _ _ (howp.2 hlo0) (by rw [hw.size]; exact howp.1) ?_ ⟨k1, fun j v hj => ?_, fun _ => ⟨?_, fun j hj => ?_⟩⟩
              · intro j bj ej hbj hej hdj
                by_cases hjp : p.b = j
                · subst hjp; rw [List.getElem?_set_self (List.getElem?_eq_some_iff.1 hpb).1] at hbj; cases hbj; exact absurd rfl hdj
                · rw [List.getElem?_set_ne hjp] at hbj
                  exact Ne.symm (hH.sep p.b j _ bj ep ej hjp hpb hbj hep hej (by simp) hdj hlo0)
              · simp only
                rw [hw.cell]
                rcases Nat.lt_or_ge j (s.len * sz') with hjl | hjg
                · rw [if_neg (by omega)]
                  rw [List.getElem?_append_left (by omega)] at hj
                  obtain ⟨c, hc, hv⟩ := ov.get hj
                  exact ⟨c, oc j c hc, hv.mono (Ref.app _ _)⟩
                · rw [List.getElem?_append_right (by omega), hdl] at hj
                  obtain ⟨c, hc, hv⟩ := hcv.get hj
                  have hcl3 := (List.getElem?_eq_some_iff.1 hc).1
                  rw [if_pos (by omega)]
                  exact ⟨c, by rw [show ep.o + p.o + j - (ep.o + p.o + s.len * sz' + 0) = j - s.len * sz' by omega]; exact hc, hv.mono (Ref.app _ _)⟩
              · have := hcv.length
                simp only [List.length_append, hdl]
                omega
              · simp only at hj ⊢
                have := k5 (p.o + j) (by omega)
                rw [hw.frz, hw.cell]
                rw [show ep.o + (p.o + j) = ep.o + p.o + j by omega] at this
                refine ⟨?_, this.2⟩
                split
                · rename_i hin; rw [List.getElem?_eq_getElem (by omega)]; rfl
                · exact this.1
          · -- a new row
            obtain ⟨nc, rest, hnc, hrest, hr⟩ := app_grow (P := C.P) (ty := o.type) (w := w) (base := some ⟨ep.B, ep.o + p.o, none⟩) (sLen := s.len) (sCap := cap) (n := u.len) (cs := cs) (old := os) h0 h1 ht ht2 hsz hb hb0 hz hzs hlen (hfirst w.drew rfl)
              (by
                have := loadCells_run C.P w.drew ep.B (ep.o + p.o) os (fun j c hj => oc j c hj)
                rw [ol] at this; exact this) hfit hroom
            refine Runs.value (hexec hr) ?_
            have hkill := (hH.kill hpb (by simp) hep hlo0).heap (w' := w.drew) rfl
            have hov : VRs C.fids μ ((vs0.drop p.o).take (s.len * sz') ++ (vs.drop q.o).take (u.len * sz')) (os ++ cs) := ov.append hcv
            refine ⟨_, ⟨_, rfl⟩, ?_, push_cells' (el := e) (sz := sz') hkill (fun j v hj => ?_), ((Below.refl _ _).drew).alloc hH.base _, hkeep _⟩
            · have := new_sl (e := ⟨w.heap.size, 0, (os ++ cs ++ rest).length, sz'⟩) hH rfl hnc (by
                simp only [List.length_append, ol, hcl, hrest]
                rw [← Nat.add_mul, ← Nat.add_mul]; exact Nat.le_of_eq (by congr 1; omega)) hsz0
              exact this
            · obtain ⟨c, hc, hv⟩ := hov.get hj
              exact ⟨c, by rw [List.getElem?_append_left (List.getElem?_eq_some_iff.1 hc).1]; exact hc, hv⟩
        · simp at h

/-! Functions of values alone. -/
theorem eqGuard_str (P : Program) (w : World) (op : BinOp) (t : TypeId) (x y : Operand) (n m : ByteArray) : (eqGuard op t x y (.string n) (.string m)).run P w = .ok () w := by
  unfold eqGuard; split <;> rfl
theorem eqGuard_ptr (P : Program) (w : World) (op : BinOp) (t : TypeId) (x y : Operand) (n m : Option Addr) : (eqGuard op t x y (.pointer n) (.pointer m)).run P w = .ok () w := by
  unfold eqGuard; split <;> rfl
theorem equalIn_nil {P : Program} {w : World} {t e : TypeId} (ht : P.underlying t = some (.pointer e)) {q : Option Addr} (d : Nat) : (Op.equalIn (d + 1) t (.pointer q) (.pointer none)).run P w = .ok q.isNone w := by
  cases q <;> simp [Op.equalIn, underlying, ht]
theorem chkOpds_two {x y : Operand} {ys : List Opd} (h : chkOpds C.fids [x, y] ys = true) (hσ : ER C.fids μ σ a) : ∃ u v, ys.map (opd σ) = [u, v] ∧ VR C.fids μ u (a.eval x) ∧ VR C.fids μ v (a.eval y) := by
  cases ys with
  | nil => simp [chkOpds] at h
  | cons y1 ys => cases ys with
    | nil => simp [chkOpds] at h
    | cons y2 ys => cases ys with
      | cons _ _ => simp [chkOpds] at h
      | nil =>
        simp only [chkOpds, Bool.and_eq_true] at h
        exact ⟨_, _, rfl, chkOpd_sound h.1 hσ, chkOpd_sound h.2.1 hσ⟩
theorem zeroO_eq {y : Opd} (h : zeroO y = true) : opd σ y = .int .i64 0 := by
  cases y with
  | t n => simp [zeroO] at h
  | c v => cases v <;> simp [zeroO] at h; rename_i k n; cases k <;> simp [zeroO] at h; subst h; rfl
theorem bounds_run {P : Program} {isSl : Bool} {len cap : Nat} {l h : Int} {lo hi : Option Value} (h0 : 0 ≤ l) (h1 : l ≤ h) (h2 : h ≤ (len : Int)) (hlc : len ≤ cap)
    (hlo : (∃ k, lo = some (.int k l)) ∨ lo = none ∧ l = 0) (hhi : (∃ k, hi = some (.int k h)) ∨ hi = none ∧ h = (len : Int)) : (Instr.sliceBounds isSl len cap lo hi none).run P w = .ok (l.toNat, h.toNat, cap) w := by
  have hb : ∀ (k : IntKind) (n : Int) (m : Nat) (code : BoundsCode), 0 ≤ n → n ≤ (m : Int) → (Instr.sliceBound (.int k n) m code).run P w = .ok n.toNat w := fun k n m code a b => by
    simp [Instr.sliceBound, asIntOf, a, b]
  have k1 : ∀ k code, (Instr.sliceBound (.int k h) cap code).run P w = .ok h.toNat w := fun k code => hb k h cap code (by omega) (by omega)
  have k2 : ∀ k code, (Instr.sliceBound (.int k l) h.toNat code).run P w = .ok l.toNat w := fun k code => hb k l h.toNat code h0 (by omega)
  unfold Instr.sliceBounds
  rcases hhi with ⟨kh, rfl⟩ | ⟨rfl, rfl⟩ <;> rcases hlo with ⟨kl, rfl⟩ | ⟨rfl, rfl⟩ <;> simp_all
/-- The bounds of a slicing. -/
theorem sl_opds {x : Operand} {lo hi : Option Operand} {ys : List Opd} (h : chkSl C.fids x lo hi ys = true) (hσ : ER C.fids μ σ a) :
    ∃ u l, VR C.fids μ u (a.eval x) ∧ ((lo.map a.eval = none ∧ l = .int .i64 0) ∨ ∃ c, lo.map a.eval = some c ∧ VR C.fids μ l c) ∧
      ((hi = none ∧ ys.map (opd σ) = [u, l]) ∨ ∃ hv c, hi.map a.eval = some c ∧ VR C.fids μ hv c ∧ ys.map (opd σ) = [u, l, hv]) := by
  unfold chkSl at h
  split at h <;> (try simp only [Bool.and_eq_true] at h)
  · exact ⟨_, _, chkOpd_sound h.1 hσ, .inl ⟨rfl, zeroO_eq h.2⟩, .inl ⟨rfl, rfl⟩⟩
  · exact ⟨_, _, chkOpd_sound h.1 hσ, .inr ⟨_, rfl, chkOpd_sound h.2 hσ⟩, .inl ⟨rfl, rfl⟩⟩
  · exact ⟨_, _, chkOpd_sound h.1.1 hσ, .inl ⟨rfl, zeroO_eq h.1.2⟩, .inr ⟨_, _, rfl, chkOpd_sound h.2 hσ, rfl⟩⟩
  · exact ⟨_, _, chkOpd_sound h.1.1 hσ, .inr ⟨_, rfl, chkOpd_sound h.1.2 hσ⟩, .inr ⟨_, _, rfl, chkOpd_sound h.2 hσ, rfl⟩⟩
  · simp at h
theorem slc_run {t e : TypeId} {sz : Nat} {s s' : Sl} {l h : Int} {c : Value} {lo hi : Option Value} (ht : sliceB C.P t = some e) (hsz : sizeB C.P e = some sz) (hv : VR C.fids μ (.sl s) c)
    (hlo : (∃ k, lo = some (.int k l)) ∨ lo = none ∧ l = 0) (hhi : (∃ k, hi = some (.int k h)) ∨ hi = none ∧ h = (s.len : Int)) (hr : slc s l h sz some = some s') :
    ∃ c', (Instr.sliceAt t c lo hi none).run C.P w = .ok c' w ∧ VR C.fids μ (.sl s') c' := by
  unfold slc at hr
  obtain ⟨hc, hr⟩ := cond_none hr
  simp only [Bool.and_eq_true, Bool.or_eq_true, decide_eq_true_eq] at hc
  obtain ⟨⟨⟨h0, h1⟩, h2⟩, h3⟩ := hc
  obtain ⟨sp, sn⟩ := s
  simp only at h2 hr hhi
  have step : ∀ (x : Option Addr) (cap : Nat), sn ≤ cap → (Instr.sliceAt t (.slice x sn cap) lo hi none).run C.P w = .ok (.slice (if cap = l.toNat then x else x.map (·.add (l.toNat * sz))) (h.toNat - l.toNat) (cap - l.toNat)) w := fun x cap hcap => by
    simp [Instr.sliceAt, Instr.slice, underlying, slice_und ht, bounds_run (w := w) (P := C.P) (isSl := true) h0 h1 h2 hcap hlo hhi, sizeOf_run C.P w hsz]
  cases sp with
  | none =>
    cases hr
    obtain ⟨x, rfl, hn⟩ := hv.nilsl_inv
    subst hn
    have hl0 : l = 0 := by omega
    have hh0 : h = 0 := by omega
    subst hl0; subst hh0
    exact ⟨_, step x 0 (Nat.le_refl _), by simpa using VR.nilsl x⟩
  | some p =>
    cases hr
    rcases hv.sl_inv with ⟨e', cap, rfl, he, hcp, hle, hz⟩ | ⟨x, e', rfl, hn, he⟩
    · refine ⟨_, step _ cap hle, ?_⟩
      have hnat : h.toNat - l.toNat = (h - l).toNat := by omega
      rw [hnat]
      by_cases hcl : cap = l.toNat
      · rw [if_pos hcl]
        have e1 : (h - l).toNat = 0 := by omega
        have e2 : cap - l.toNat = 0 := by omega
        rw [e1, e2]
        exact .sle _ _ _ e' he
      · rw [if_neg hcl]
        have hm : l.toNat ≤ cap := by omega
        have hmul : (cap - l.toNat) * e'.sz + l.toNat * e'.sz = cap * e'.sz := by rw [← Nat.add_mul]; congr 1; omega
        have hlz : l.toNat * sz ≤ l.toNat * e'.sz := by
          rcases h3 with h3 | h3
          · subst h3; simp
          · subst h3; exact Nat.mul_le_mul_left _ hz
        have := VR.sl (fids := C.fids) (μ := μ) p.b (p.o + l.toNat * sz) (h - l).toNat (cap - l.toNat) e' he (by omega) (by omega) hz
        simpa [addr_add, Nat.add_assoc] using this
    · subst hn
      have hl0 : l = 0 := by omega
      have hh0 : h = 0 := by omega
      subst hl0; subst hh0
      exact ⟨_, step x 0 (Nat.le_refl _), by simpa using VR.sle (fids := C.fids) (μ := μ) p.b p.o x e' he⟩
theorem op_pf {f : PF} {ys : List Opd} (hc : chkPF C.P C.fids o.op f ys = true) (h : evOp call lo (.pf f ys) σ H pr = some (v, H')) (hσ : ER C.fids μ σ a) (hH : HR C μ H w) : Runs C o a w (Done C μ H w v H') := by
  simp only [evOp] at h
  obtain ⟨u, hu0, h1⟩ := evPF_some h
  obtain ⟨g1, g2⟩ := pr_inj h1
  subst g1; subst g2
  have hu := hu0 AV some
  clear hu0 h1 h
  suffices ∃ c, (execOp a.eval o).run C.P w = .ok (.value c) w ∧ VR C.fids μ u c by
    obtain ⟨c, h1, h2⟩ := this; exact Runs.value h1 (done_same hH h2)
  cases f <;> simp only [chkPF] at hc
  case bits b' k =>
    split at hc
    · rename_i b t x y t' hop
      simp only [Bool.and_eq_true, decide_eq_true_eq] at hc
      obtain ⟨⟨rfl, hok⟩, h3⟩ := hc
      obtain ⟨p, q, e, hp, hq⟩ := chkOpds_two h3 hσ
      rw [e] at hu
      simp only [evPF] at hu
      obtain ⟨n, e1, hu1⟩ := asI_some hu
      obtain ⟨m, e2, hu2⟩ := asI_some hu1
      subst e1; subst e2
      replace hu := hu2
      have ex := hp.int_inv
      have ey := hq.int_inv
      cases hu
      refine ⟨_, ?_, .int _ _⟩
      cases b <;> simp [okBits] at hok <;> simp [execOp, hop, ex, ey, eqGuard_int, binOp, Op.intBits, bitsI]
    · simp at hc
  case shf b' k k' =>
    split at hc
    · rename_i b t x y t' hop
      simp only [Bool.and_eq_true, Bool.or_eq_true, decide_eq_true_eq] at hc
      obtain ⟨⟨rfl, hok⟩, h3⟩ := hc
      obtain ⟨p, q, e, hp, hq⟩ := chkOpds_two h3 hσ
      rw [e] at hu
      simp only [evPF] at hu
      obtain ⟨n, e1, hu1⟩ := asI_some hu
      obtain ⟨m, e2, hu2⟩ := asI_some hu1
      subst e1; subst e2
      replace hu := hu2
      have ex := hp.int_inv
      have ey := hq.int_inv
      by_cases hm : m < 0
      · simp [hm] at hu
      simp only [hm, decide_false, cond_false] at hu
      cases hu
      refine ⟨_, ?_, .int _ _⟩
      rcases hok with rfl | rfl <;> simp [execOp, hop, ex, ey, eqGuard_int, binOp, Op.shift, shfI, hm]
    · simp at hc
  case mx k =>
    split at hc
    · rename_i xs ats hop
      cases hxs : xs.toList with
      | nil => rw [hxs] at hc; cases ys with | nil => simp [evPF] at hu | cons _ _ => simp [chkOpds] at hc
      | cons x xs1 => cases xs1 with
        | nil => rw [hxs] at hc; cases ys with
          | nil => simp [chkOpds] at hc
          | cons y ys => cases ys with | nil => simp [evPF] at hu | cons _ _ => simp [chkOpds] at hc
        | cons y xs2 => cases xs2 with
          | nil =>
            rw [hxs] at hc
            obtain ⟨p, q, e, hp, hq⟩ := chkOpds_two hc hσ
            rw [e] at hu
            simp only [evPF] at hu
            obtain ⟨n, e1, hu1⟩ := asI_some hu
            obtain ⟨m, e2, hu2⟩ := asI_some hu1
            subst e1; subst e2
            replace hu := hu2
            have ex := hp.int_inv
            have ey := hq.int_inv
            cases hu
            have hx : xs = #[x, y] := by cases xs; simp at hxs; subst hxs; rfl
            subst hx
            exact ⟨_, by simp [execOp, hop, resolve, invoke, builtin, Builtin.max_, Builtin.max2, ex, ey, mxI], .int _ _⟩
          | cons z xs3 =>
            rw [hxs] at hc
            exfalso
            cases ys with
            | nil => simp [chkOpds] at hc
            | cons y1 ys => cases ys with
              | nil => simp [chkOpds] at hc
              | cons y2 ys => cases ys with
                | nil => simp [chkOpds] at hc
                | cons y3 ys => simp [evPF] at hu
    · simp at hc
  case mn k =>
    split at hc
    · rename_i xs ats hop
      cases hxs : xs.toList with
      | nil => rw [hxs] at hc; cases ys with | nil => simp [evPF] at hu | cons _ _ => simp [chkOpds] at hc
      | cons x xs1 => cases xs1 with
        | nil => rw [hxs] at hc; cases ys with
          | nil => simp [chkOpds] at hc
          | cons y ys => cases ys with | nil => simp [evPF] at hu | cons _ _ => simp [chkOpds] at hc
        | cons y xs2 => cases xs2 with
          | nil =>
            rw [hxs] at hc
            obtain ⟨p, q, e, hp, hq⟩ := chkOpds_two hc hσ
            rw [e] at hu
            simp only [evPF] at hu
            obtain ⟨n, e1, hu1⟩ := asI_some hu
            obtain ⟨m, e2, hu2⟩ := asI_some hu1
            subst e1; subst e2
            replace hu := hu2
            have ex := hp.int_inv
            have ey := hq.int_inv
            cases hu
            have hx : xs = #[x, y] := by cases xs; simp at hxs; subst hxs; rfl
            subst hx
            exact ⟨_, by simp [execOp, hop, resolve, invoke, builtin, Builtin.min_, Builtin.min2, ex, ey, mnI], .int _ _⟩
          | cons z xs3 =>
            rw [hxs] at hc
            exfalso
            cases ys with
            | nil => simp [chkOpds] at hc
            | cons y1 ys => cases ys with
              | nil => simp [chkOpds] at hc
              | cons y2 ys => cases ys with
                | nil => simp [chkOpds] at hc
                | cons y3 ys => simp [evPF] at hu
    · simp at hc
  case slc sz =>
    split at hc
    · rename_i t x lo hi hop
      split at hc
      · rename_i e he
        simp only [Bool.and_eq_true, decide_eq_true_eq] at hc
        obtain ⟨hsz, hch⟩ := hc
        obtain ⟨s, l, hs, hl, hh⟩ := sl_opds hch hσ
        have fin : ∀ {s1 : Sl} {l1 h1 : Int} {s2 : Sl}, s = .sl s1 → (∃ k, l = .int k l1) → ((∃ k, hi.map a.eval = some (.int k h1)) ∨ hi.map a.eval = none ∧ h1 = (s1.len : Int)) → slc s1 l1 h1 sz some = some s2 → ∃ c, (execOp a.eval o).run C.P w = .ok (.value c) w ∧ VR C.fids μ (.sl s2) c := by
          intro s1 l1 h1 s2 e1 e2 e3 e4
          obtain ⟨kl, e2⟩ := e2
          subst e1; subst e2
          obtain ⟨c', r1, r2⟩ := slc_run (w := w) he hsz hs (lo := lo.map a.eval) (hi := hi.map a.eval) (l := l1) (by
            rcases hl with ⟨k1, k2⟩ | ⟨c, k1, k2⟩
            · exact .inr ⟨k1, by cases k2; rfl⟩
            · exact .inl ⟨_, by rw [k1, k2.int_inv]⟩) e3 e4
          exact ⟨c', by simp [execOp, hop, r1], r2⟩
        rcases hh with ⟨k1, k2⟩ | ⟨hv, c, k1, k2, k3⟩
        · rw [k2] at hu
          simp only [evPF] at hu
          obtain ⟨s1, e1, hu⟩ := asS_some hu
          obtain ⟨_, l1, e2, hu⟩ := asN_some hu
          have hs2 : ∃ s2, slc s1 l1 s1.len sz some = some s2 ∧ u = .sl s2 := by
            unfold slc at hu ⊢
            obtain ⟨g, hu⟩ := cond_none hu
            simp only [g, cond_true]
            split at hu <;> (cases hu; exact ⟨_, rfl, rfl⟩)
          obtain ⟨s2, g1, g2⟩ := hs2
          subst g2
          exact fin e1 ⟨_, e2⟩ (.inr ⟨by rw [k1]; rfl, rfl⟩) g1
        · rw [k3] at hu
          simp only [evPF] at hu
          obtain ⟨s1, e1, hu⟩ := asS_some hu
          obtain ⟨_, l1, e2, hu⟩ := asN_some hu
          obtain ⟨_, h1, e3, hu⟩ := asN_some hu
          have hs2 : ∃ s2, slc s1 l1 h1 sz some = some s2 ∧ u = .sl s2 := by
            unfold slc at hu ⊢
            obtain ⟨g, hu⟩ := cond_none hu
            simp only [g, cond_true]
            split at hu <;> (cases hu; exact ⟨_, rfl, rfl⟩)
          obtain ⟨s2, g1, g2⟩ := hs2
          subst g2
          rw [e3] at k2
          exact fin e1 ⟨_, e2⟩ (.inl ⟨_, by rw [k1, k2.int_inv]⟩) g1
      · simp at hc
    · simp at hc
  case stx =>
    split at hc
    · rename_i t x i hop
      simp only [Bool.and_eq_true] at hc
      obtain ⟨ht, h3⟩ := hc
      have ht : C.P.underlying t = some .string := by unfold strB at ht; split at ht; assumption; simp at ht
      obtain ⟨p, q, e, hp, hq⟩ := chkOpds_two h3 hσ
      rw [e] at hu
      simp only [evPF] at hu
      obtain ⟨s, e1, hu1⟩ := asStr_some hu
      obtain ⟨_, n, e2, hu2⟩ := asN_some hu1
      subst e1; subst e2
      replace hu := hu2
      have ex := hp.str_inv
      have ey := hq.int_inv
      unfold stx at hu
      split at hu
      · rename_i b hb
        cases hu
        refine ⟨_, ?_, .int _ _⟩
        simp only [execOp, hop, ex, ey, Instr.index, asIntOf, Sem.run_bind, Sem.run_pure, Result.andThen_ok, underlying, run_program, ht, hb]
      · simp at hu
    · simp at hc
  case sts =>
    split at hc
    · rename_i t x lo hi hop
      simp only [Bool.and_eq_true] at hc
      obtain ⟨ht, hch⟩ := hc
      have ht : C.P.underlying t = some .string := by unfold strB at ht; split at ht; assumption; simp at ht
      obtain ⟨s, l, hs, hl, hh⟩ := sl_opds hch hσ
      have fin : ∀ {s1 : ByteArray} {l1 h1 : Int} {s2 : ByteArray}, s = .str s1 → (∃ k, l = .int k l1) → ((∃ k, hi.map a.eval = some (.int k h1)) ∨ hi.map a.eval = none ∧ h1 = (s1.size : Int)) → sts s1 l1 h1 some = some s2 → ∃ c, (execOp a.eval o).run C.P w = .ok (.value c) w ∧ VR C.fids μ (.str s2) c := by
        intro s1 l1 h1 s2 e1 e2 e3 e4
        obtain ⟨kl, e2⟩ := e2
        subst e1; subst e2
        unfold sts at e4
        obtain ⟨g, e4⟩ := cond_none e4
        simp only [Bool.and_eq_true, decide_eq_true_eq] at g
        cases e4
        have ex := hs.str_inv
        have hb := bounds_run (w := w) (P := C.P) (isSl := false) (cap := s1.size) g.1.1 g.1.2 g.2 (Nat.le_refl _) (lo := lo.map a.eval) (by
          rcases hl with ⟨k1, k2⟩ | ⟨c, k1, k2⟩
          · exact .inr ⟨k1, by cases k2; rfl⟩
          · exact .inl ⟨_, by rw [k1, k2.int_inv]⟩) e3
        refine ⟨_, ?_, .str _⟩
        simp [execOp, hop, ex, Instr.sliceAt, Instr.slice, underlying, ht, hb]
      rcases hh with ⟨k1, k2⟩ | ⟨hv, c, k1, k2, k3⟩
      · rw [k2] at hu
        simp only [evPF] at hu
        obtain ⟨s1, e1, hu⟩ := asStr_some hu
        obtain ⟨_, l1, e2, hu⟩ := asN_some hu
        have hs2 : ∃ s2, sts s1 l1 s1.size some = some s2 ∧ u = .str s2 := by
          unfold sts at hu ⊢
          obtain ⟨g, hu⟩ := cond_none hu
          simp only [g, cond_true]
          cases hu; exact ⟨_, rfl, rfl⟩
        obtain ⟨s2, g1, g2⟩ := hs2
        subst g2
        exact fin e1 ⟨_, e2⟩ (.inr ⟨by rw [k1]; rfl, rfl⟩) g1
      · rw [k3] at hu
        simp only [evPF] at hu
        obtain ⟨s1, e1, hu⟩ := asStr_some hu
        obtain ⟨_, l1, e2, hu⟩ := asN_some hu
        obtain ⟨_, h1, e3, hu⟩ := asN_some hu
        have hs2 : ∃ s2, sts s1 l1 h1 some = some s2 ∧ u = .str s2 := by
          unfold sts at hu ⊢
          obtain ⟨g, hu⟩ := cond_none hu
          simp only [g, cond_true]
          cases hu; exact ⟨_, rfl, rfl⟩
        obtain ⟨s2, g1, g2⟩ := hs2
        subst g2
        rw [e3] at k2
        exact fin e1 ⟨_, e2⟩ (.inl ⟨_, by rw [k1, k2.int_inv]⟩) g1
    · simp at hc
  case sop b' =>
    split at hc
    · rename_i b t x y t' hop
      simp only [Bool.and_eq_true, decide_eq_true_eq] at hc
      obtain ⟨rfl, h3⟩ := hc
      obtain ⟨p, q, e, hp, hq⟩ := chkOpds_two h3 hσ
      rw [e] at hu
      simp only [evPF] at hu
      obtain ⟨n, e1, hu1⟩ := asStr_some hu
      obtain ⟨m, e2, hu2⟩ := asStr_some hu1
      subst e1; subst e2
      replace hu := hu2
      have ex := hp.str_inv
      have ey := hq.str_inv
      cases b <;> simp only [sopS] at hu <;> first
        | (cases hu; exact ⟨_, by simp only [execOp, hop, ex, ey, eqGuard_str, binOp, Op.stringOp, Sem.run_bind, Result.andThen_ok]; rfl, by constructor⟩)
        | (unfold stc2 at hu
           obtain ⟨g, hu⟩ := cond_none hu
           simp only [decide_eq_true_eq] at g
           cases hu
           refine ⟨_, ?_, .str _⟩
           have g2 : ¬ (((n.size + m.size : Nat) : Int) > IntKind.i64.max) := by simp [IntKind.max, IntKind.signed, IntKind.bits]; omega
           simp only [execOp, hop, ex, ey, eqGuard_str, binOp, Op.stringOp, Sem.run_bind, Result.andThen_ok, if_neg g2]
           rfl)
        | (simp at hu)
    · simp at hc
  case pnil neg =>
    split at hc
    · rename_i b t x t' hop
      simp only [Bool.and_eq_true, decide_eq_true_eq] at hc
      obtain ⟨⟨hb, ht⟩, h3⟩ := hc
      have ht : ∃ e, C.P.underlying t = some (.pointer e) := by unfold ptrB at ht; split at ht; exact ⟨_, by assumption⟩; simp at ht
      obtain ⟨e, ht⟩ := ht
      cases ys with
      | nil => simp [chkOpds] at h3
      | cons y ys => cases ys with
        | cons _ _ => simp [chkOpds] at h3
        | nil =>
          simp only [chkOpds, Bool.and_true] at h3
          have vx := chkOpd_sound h3 hσ
          simp only [List.map_cons, List.map_nil, evPF] at hu
          obtain ⟨p, e1, hu⟩ := asPO_some hu
          rw [e1] at vx
          cases hu
          have hex : ∃ q, a.eval x = .pointer q ∧ q.isSome = p.isSome := by
            cases p with
            | none => cases hx : a.eval x <;> rw [hx] at vx <;> cases vx; exact ⟨_, rfl, rfl⟩
            | some p => obtain ⟨e, hx, _⟩ := vx.ptr_inv; exact ⟨_, hx, rfl⟩
          obtain ⟨q, hex, hq⟩ := hex
          have heq : (Op.equal t (.pointer q) (.pointer none)).run C.P w = .ok q.isNone w := by
            exact equalIn_nil ht 9999
          have ec : a.eval (.const (.pointer none)) = .pointer none := rfl
          cases neg
          · subst hb
            exact ⟨.bool q.isNone, by simp [execOp, hop, hex, ec, eqGuard_ptr, binOp, heq], by
              have : q.isNone = p.isNone := by cases q <;> cases p <;> simp_all
              rw [this]; constructor⟩
          · subst hb
            exact ⟨.bool (!q.isNone), by simp [execOp, hop, hex, ec, eqGuard_ptr, binOp, heq], by
              have : (!q.isNone) = p.isSome := by cases q <;> cases p <;> simp_all
              rw [this]; constructor⟩
    · simp at hc
end
end Go.Ab
