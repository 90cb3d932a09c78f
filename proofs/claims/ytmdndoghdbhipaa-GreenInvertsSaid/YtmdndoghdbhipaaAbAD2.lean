/- Regions that draw their order, second part: new blocks, whenever they are made; flat lists of operations. -/
import Derived.Test.YtmdndoghdbhipaaAbAD1
set_option linter.unusedSimpArgs false
set_option linter.unusedVariables false
namespace Go.Ab
open Go Go.RowKit

/-- A new block is made, whatever the heap. -/
def AllocRaw (C : Ctx) (o : Oper) (a : Act) (w : World) (μ : MU) (H : AH) (v : AV) (H' : AH) : Prop :=
  ∃ (us : List AV) (cs : List Value) (sz : Nat) (el : TypeId) (mk : Nat → AV) (c : Value), v = mk H.length ∧ H' = H ++ [.cells us sz] ∧
    (execOp a.eval o).run C.P w = .ok (.value c) (w.alloc (.cells cs.toArray el)) ∧ (∀ (j : Nat) (u : AV), us[j]? = some u → ∃ d, cs[j]? = some d ∧ VR C.fids μ u d) ∧
    ∀ (μ' : MU) (b : Nat), μ'[b]? = some (some ⟨w.heap.size, 0, cs.length, sz⟩) → VR C.fids μ' (mk b) c

section
variable {C : Ctx} {o : Oper} {a : Act} {w : World} {μ : MU} {H H' : AH} {σ : Env} {v : AV} {lo : Nat} {call : CallT}

theorem raw_bsl {t e : TypeId} {len sz : Nat} {zs : List AV} {z : Value} {ps : Array (Nat × Operand)} {qs : List (Nat × Nat × Opd)} (hop : o.op = .buildSlice t len ps) (ht : sliceB C.P t = some e) (hsz : sizeB C.P e = some sz)
    (hbig : len * sz ≤ 16777216 ∧ 0 < sz) (hz : zeroB C.P e = some z) (hc : chkVs ((Array.range (len * sz)).map (z.cells[· % z.cells.size]!)).toList zs = true)
    (hps : chkParts C.fids (fun i => some (i * sz, sz)) ps.toList qs = true)
    (h : evOp call lo (.bsl sz zs len qs) σ H pr = some (v, H')) (hσ : ER C.fids μ σ a) : AllocRaw C o a w μ H v H' := by
  simp only [evOp] at h
  obtain ⟨us, hu, h⟩ := fillP_split h
  obtain ⟨hsg, h⟩ := cond_none h
  simp only [mkb, pr, Option.some.injEq, Prod.mk.injEq] at h
  obtain ⟨rfl, rfl⟩ := h
  obtain ⟨out, ho, hv⟩ := fill_run (cells := (Array.range (len * sz)).map (z.cells[· % z.cells.size]!)) hσ hps hu (chkVs_sound hc)
  have houtl : out.size = len * sz := by
    have h1 := hv.length
    have h2 : us.length = zs.length := by
      have : ∀ {qs : List (Nat × Nat × Opd)} {zs us : List AV}, fillP σ zs qs some = some us → us.length = zs.length := by
        intro qs
        induction qs with
        | nil => intro zs us h; unfold fillP at h; cases h; rfl
        | cons q qs ih =>
          intro zs us h
          obtain ⟨o', n', y'⟩ := q
          unfold fillP at h
          try simp only at h
          obtain ⟨hb, h⟩ := cond_none h
          simp only [Bool.and_eq_true, decide_eq_true_eq] at hb
          rw [ih h, overlay_length _ _ _ (by omega)]
      exact this hu
    have h3 := (chkVs_sound (fids := C.fids) (μ := μ) hc).length
    simp at h1 h3
    omega
  refine ⟨us, out.toList, sz, e, fun b => .sl ⟨some ⟨b, 0⟩, len⟩, .slice (some ⟨w.heap.size, 0, none⟩) len len, rfl, rfl, ?_, fun j v hj => hv.get hj, fun μ' b hb => ?_⟩
  · have e1 : (ps.map fun p => (p.1, a.eval p.2)).toList = ps.toList.map fun p => (p.1, a.eval p.2) := by simp
    have e2 : (fun (x : Nat × Operand) => match x with | (i, x) => (i, a.eval x)) = fun p => (p.1, a.eval p.2) := by funext p; rfl
    simp only [execOp, hop, Instr.buildSlice, Sem.run_bind, Result.andThen_ok, underlying, run_program, slice_und ht, Sem.run_pure, sizeOf_run C.P w hsz, Sem.run_ite, run_unsupported]
    rw [if_neg (by simp; omega)]
    by_cases h0 : len * sz = 0
    · simp only [h0, if_true, Result.andThen_ok] at *
      simp only [e2, e1]
      have e4 : ∀ f : Nat → Value, Array.map f (Array.range 0) = #[] := fun f => by simp
      rw [e4] at ho ⊢
      rw [ho]
      simp [newRow]
    · simp only [h0, if_false, zero_run C.P w hz, Result.andThen_ok, e2, e1, ho]
      simp [newRow]
  · have := VR.sl (fids := C.fids) (μ := μ') b 0 len len _ hb (by simp; omega) (Nat.le_refl _) hbig.2
    simpa using this

theorem raw_mksl {t e : TypeId} {zs : List AV} {bytes : Nat} {z : Value} {x y : Operand} {x' y' : Opd} (hop : o.op = .makeSlice t x y) (ht : sliceB C.P t = some e) (hb : bytesB C.P e = some bytes) (hb0 : bytes ≠ 0) (hsz : sizeB C.P e = some zs.length) (h0 : zs.length ≠ 0)
    (hz : zeroB C.P e = some z) (hc : chkVs z.cells.toList zs = true) (hx : chkOpd C.fids x x' = true) (hy : chkOpd C.fids y y' = true)
    (h : evOp call lo (.mksl zs bytes x' y') σ H pr = some (v, H')) (hσ : ER C.fids μ σ a) : AllocRaw C o a w μ H v H' := by
  simp only [evOp] at h
  obtain ⟨l, hl, h⟩ := asI_some h
  obtain ⟨c, hcp, h⟩ := asI_some h
  simp only [mks] at h
  obtain ⟨hb', h⟩ := cond_none h
  simp only [Bool.and_eq_true, decide_eq_true_eq] at hb'
  obtain ⟨⟨hl0, hlc⟩, hroom⟩ := hb'
  have hrm : (room : Int) = 70368744177664 := rfl
  obtain ⟨h1, h2⟩ := pr_inj h
  subst h1; subst h2
  have vx := chkOpd_sound hx hσ
  have vy := chkOpd_sound hy hσ
  rw [hl] at vx; rw [hcp] at vy
  have hex := vx.int_inv
  have hey := vy.int_inv
  obtain ⟨i, hi, hib⟩ := info_run C.P w hb
  have hc63 : c ≤ 70368744177664 := by
    have : c * 1 ≤ c * (bytes : Int) := Int.mul_le_mul_of_nonneg_left (by omega) (by omega)
    omega
  have wl : IntKind.i64.wrap l = l := IntWalk.i64_in _ (by omega)
  have wc : IntKind.i64.wrap c = c := IntWalk.i64_in _ (by omega)
  have hvz := chkVs_sound (fids := C.fids) (μ := μ) hc
  have hzl : z.cells.size = zs.length := by have := hvz.length; simp at this; omega
  have hn0 : ∀ n, n = c.toNat * zs.length → (Array.range n).map (fun j => (if n = 0 then (#[] : Array Value) else z.cells)[j % (if n = 0 then (#[] : Array Value) else z.cells).size]!) = (Array.range n).map (z.cells[· % z.cells.size]!) := by
    intro n _
    by_cases hn : n = 0
    · subst hn; simp
    · simp [hn]
  let cs : List Value := ((Array.range (c.toNat * zs.length)).map (z.cells[· % z.cells.size]!)).toList
  have hcs : cs.length = c.toNat * zs.length := by simp [cs]
  have hcsA : cs.toArray = (Array.range (c.toNat * zs.length)).map (z.cells[· % z.cells.size]!) := Array.toArray_toList
  refine ⟨(List.replicate l.toNat zs).flatten, cs, zs.length, e, fun b => .sl ⟨some ⟨b, 0⟩, l.toNat⟩, .slice (some ⟨w.heap.size, 0, none⟩) l.toNat c.toNat, rfl, rfl, ?_, fun j v hj => ?_, fun μ' b hb => ?_⟩
  · have hbc : (bytes : Int) * c ≤ 70368744177664 := by rw [Int.mul_comm, ← hrm]; exact hroom
    simp only [execOp, hop, hex, hey, Instr.makeSlice, Sem.run_bind, Result.andThen_ok, underlying, run_program, slice_und ht, Sem.run_pure, Go.asInt, asIntOf, hi, hib, wl, wc, run_askRoom, sizeOf_run C.P w hsz]
    rw [if_neg (by simp; omega)]
    simp only [Sem.run_bind, run_askRoom, Result.andThen_ok, sizeOf_run C.P w hsz]
    rw [hcsA]
    by_cases hn : c.toNat * zs.length = 0
    · have e4 : ∀ f : Nat → Value, Array.map f (Array.range 0) = #[] := fun f => by simp
      simp only [hn, if_true, Sem.run_pure, Result.andThen_ok, newRow, Sem.run_bind, run_newObj, e4]
      rfl
    · simp only [hn, if_false, zero_run C.P w hz, Sem.run_bind, Sem.run_pure, Result.andThen_ok, newRow, run_newObj]
      rfl
  · have hjl : j < l.toNat * zs.length := by
      have := (List.getElem?_eq_some_iff.1 hj).1
      rw [flat_length] at this; exact this
    rw [flat_get zs h0 _ _ hjl] at hj
    obtain ⟨q, hq, hr⟩ := hvz.get hj
    have hle : l.toNat * zs.length ≤ c.toNat * zs.length := Nat.mul_le_mul_right _ (by omega)
    have hqs : z.cells[j % zs.length]? = some q := by simpa using hq
    refine ⟨q, ?_, hr⟩
    simp only [cs, Array.toList_map, Array.toList_range, List.getElem?_map]
    rw [List.getElem?_range (by omega)]
    simp only [Option.map_some, hzl]
    rw [Array.getElem!_eq_getD, Array.getD_eq_getD_getElem?, hqs]; rfl
  · have := VR.sl (fids := C.fids) (μ := μ') b 0 l.toNat c.toNat _ hb (by simp [hcs]) (by omega) (by simp only; omega)
    simpa using this

theorem alloc_raw {io : IOp} (hcls : io.cls = 2) (hc : chkOp C o.op io = true) (h : evOp call lo io σ H pr = some (v, H')) (hσ : ER C.fids μ σ a) : AllocRaw C o a w μ H v H' := by
  cases io <;> simp [IOp.cls] at hcls <;> simp only [chkOp] at hc
  case alloc zs =>
    split at hc
    · rename_i t hop
      split at hc
      · rename_i z hz
        simp only [evOp, alc] at h
        obtain ⟨rfl, rfl⟩ := pr_inj h
        refine ⟨zs, z.cells.toList, zs.length, t, fun b => .ptr (some ⟨b, 0⟩), .pointer (some ⟨w.heap.size, 0, none⟩), rfl, rfl, ?_, fun j u hj => (chkVs_sound hc).get hj, fun μ' b hb => ?_⟩
        · simp [execOp, hop, Instr.alloc, zero_run C.P w hz, newVar, newRow]
        · have := VR.ptr (fids := C.fids) b 0 _ hb; simpa using this
      · simp at hc
    · simp at hc
  case box n x' =>
    split at hc
    · rename_i t x hop
      simp only [evOp] at h
      obtain ⟨hb, h⟩ := cond_none h
      simp only [Bool.and_eq_true, decide_eq_true_eq] at hb
      simp only [alc] at h
      obtain ⟨rfl, rfl⟩ := pr_inj h
      have hv := (chkOpd_sound hc hσ).cells hb.1.1
      refine ⟨cellsV (opd σ x'), (a.eval x).cells.toList, (cellsV (opd σ x')).length, t, fun b => .ptr (some ⟨b, 0⟩), .pointer (some ⟨w.heap.size, 0, none⟩), rfl, rfl, ?_, fun j u hj => hv.get hj, fun μ' b hb => ?_⟩
      · simp [execOp, hop, Instr.box, newVar, newRow]
      · have := VR.ptr (fids := C.fids) b 0 _ hb; simpa using this
    · simp at hc
  case bsl sz zs len qs =>
    split at hc
    · rename_i t n ps hop
      split at hc
      · rename_i e he
        simp only [Bool.and_eq_true, decide_eq_true_eq] at hc
        obtain ⟨⟨⟨⟨rfl, h1⟩, h2⟩, h3⟩, h4⟩ := hc
        split at h3
        · rename_i z hz; exact raw_bsl hop he h1 h2 hz h3 h4 h hσ
        · simp at h3
      · simp at hc
    · simp at hc
  case mksl zs bytes x' y' =>
    split at hc
    · rename_i t x y hop
      split at hc
      · rename_i e he
        simp only [Bool.and_eq_true, decide_eq_true_eq] at hc
        obtain ⟨⟨⟨⟨⟨⟨h1, h2⟩, h3⟩, h4⟩, h5⟩, h6⟩, h7⟩ := hc
        split at h5
        · rename_i z hz; exact raw_mksl hop he h1 h2 h3 h4 hz h5 h6 h7 h hσ
        · simp at h5
      · simp at hc
    · simp at hc
  all_goals (rename_i fresh _; cases fresh <;> simp at hcls)
end

/-! ### Flat lists -/
inductive FK where
  | op (o : IOp)
  | pick (gt : Nat) (want : Bool) (px : Opd)
structure FOp where
  i : Nat
  d : Option Nat
  g : GC
  k : FK
def gl : GC → List Nat
  | none => []
  | some (t, _) => [t]
def FOp.looks (f : FOp) : List Nat := gl f.g ++ match f.k with | .op o => o.looks | .pick gt _ px => gt :: px.looks
def FOp.cls (f : FOp) : Nat :=
  match f.k with
  | .pick _ _ _ => 0
  | .op o => bif decide (o.cls = 2) && f.g.isSome then 5 else o.cls
def Steps.flat (g : GC) : Steps → List FOp
  | .nil => []
  | .op i d o r => ⟨i, d, g, .op o⟩ :: r.flat g
  | .chk _ r => r.flat g
  | .grp gt want inner i pd px r => inner.flat (some (gt, want)) ++ ⟨i, some pd, g, .pick gt want px⟩ :: r.flat g

def GMet (g : GC) (σ : Env) : Prop := match g with | none => True | some (t, w) => σ t = .bool w
def GUn (g : GC) (σ : Env) : Prop := match g with | none => False | some (t, w) => σ t = .bool (!w) ∨ σ t = .tup []
/-- One operation of a flat list. -/
def FStep (call : CallT) (lo : Nat) (f : FOp) (σ : Env) (H : AH) (v : AV) (H' : AH) : Prop :=
  (GMet f.g σ ∧ match f.k with
    | .op o => evOp call lo o σ H pr = some (v, H')
    | .pick gt want px => H' = H ∧ ∃ g b, σ gt = .bool g ∧ v = .bool b ∧ (g = want → opd σ px = .bool b) ∧ (g ≠ want → b = !want)) ∨
  (GUn f.g σ ∧ v = .tup [] ∧ H' = H)
inductive FTrace (call : CallT) (lo : Nat) : List FOp → Env → AH → Env → AH → Prop where
  | nil (σ : Env) (H : AH) : FTrace call lo [] σ H σ H
  | cons (f : FOp) (l : List FOp) (σ : Env) (H : AH) (v : AV) (H1 : AH) (σ' : Env) (H' : AH) (h : FStep call lo f σ H v H1) (t : FTrace call lo l (putO σ f.d v) H1 σ' H') : FTrace call lo (f :: l) σ H σ' H'
theorem FTrace.app {call : CallT} {lo : Nat} {l m : List FOp} {σ σ1 σ2 : Env} {H H1 H2 : AH} (h : FTrace call lo l σ H σ1 H1) (k : FTrace call lo m σ1 H1 σ2 H2) : FTrace call lo (l ++ m) σ H σ2 H2 := by
  induction h with
  | nil => exact k
  | cons f l σ H v H1 σ' H' h t ih => exact .cons f _ σ H v H1 _ _ h (ih k)

/-- What was forgotten is not looked at again. -/
def chkF (D : List Nat) : Steps → Bool
  | .nil => true
  | .op _ _ o r => (o.looks.all fun x => !memN x D) && chkF D r
  | .chk _ r => chkF D r
  | .grp gt _ inner _ _ px r => !memN gt D && chkF D inner && chkF (inner.dsts ++ D) r

def Like (D : List Nat) (σ τ : Env) : Prop := ∀ x, σ x = τ x ∨ (σ x = .unk ∧ memN x D = true)
theorem Like.agree {D : List Nat} {σ τ : Env} (h : Like D σ τ) {l : List Nat} (hl : l.all (fun x => !memN x D) = true) : AgreeOn l σ τ := fun x hx => by
  rcases h x with h | ⟨_, h⟩
  · exact h
  · have := List.all_eq_true.1 hl x hx; simp [h] at this
theorem Like.put {D : List Nat} {σ τ : Env} (h : Like D σ τ) (d : Option Nat) (v : AV) : Like D (putO σ d v) (putO τ d v) := fun x => by
  cases d with
  | none => exact h x
  | some d =>
    simp only [putO, Ab.put]
    cases Nat.beq x d
    · exact h x
    · exact .inl rfl
theorem putO_get (σ : Env) (d : Option Nat) (v : AV) (x : Nat) : putO σ d v x = if d = some x then v else σ x := by
  cases d with
  | none => simp [putO]
  | some d =>
    simp only [putO, Ab.put]
    cases hx : Nat.beq x d
    · have : ¬ d = x := fun e => by subst e; simp at hx
      simp [this]
    · have : x = d := Nat.eq_of_beq_eq_true hx
      simp [this]

section
variable {C : Ctx} {ops : Array Oper} {nt : Nat} {call : CallT} {lo : Nat}
theorem flat_skip : ∀ (ss : Steps) (gt : Nat) (want : Bool) (seen : List Nat) (σ : Env) (H : AH), chkS C ops nt (some (gt, want)) seen ss = true → (σ gt = .bool (!want) ∨ σ gt = .tup []) → (∀ d, memN d seen = true → σ d = .tup []) →
    ∃ σ', FTrace call lo (ss.flat (some (gt, want))) σ H σ' H ∧ (∀ x, memN x ss.dsts = false → σ' x = σ x) ∧ ∀ x, memN x ss.dsts = true → σ' x = .tup []
  | .nil, gt, want, seen, σ, H, _, _, _ => ⟨σ, .nil σ H, fun _ _ => rfl, fun x hx => by simp [Steps.dsts, memN] at hx⟩
  | .chk _ rest, gt, want, seen, σ, H, hc, hg, hs => by
    unfold chkS at hc
    exact flat_skip rest gt want seen σ H hc hg hs
  | .op i d io rest, gt, want, seen, σ, H, hc, hg, hs => by
    unfold chkS at hc
    split at hc
    · rename_i o hi
      simp only [Bool.and_eq_true, decide_eq_true_eq] at hc
      obtain ⟨⟨⟨⟨⟨h1, h2⟩, h3⟩, h4⟩, h5⟩, h6⟩ := hc
      have hgd : d ≠ some gt := by intro e; simp [freeB, dl, e, memN] at h5
      obtain ⟨σ', t, e1, e2⟩ := flat_skip rest gt want (dl d ++ seen) (putO σ d (.tup [])) H h6 (by rw [putO_get, if_neg hgd]; exact hg) (fun x hx => by
        rw [putO_get]
        split
        · rfl
        · rename_i hne
          rw [memN_app, memN_dl, Bool.or_eq_true] at hx
          rcases hx with hx | hx
          · exact absurd (of_decide_eq_true hx) hne
          · exact hs x hx)
      refine ⟨σ', .cons ⟨i, d, some (gt, want), .op io⟩ _ σ H (.tup []) H σ' H (.inr ⟨hg, rfl, rfl⟩) t, fun x hx => ?_, fun x hx => ?_⟩
      · rw [Steps.dsts, memN_app, memN_dl, Bool.or_eq_false_iff, decide_eq_false_iff_not] at hx
        rw [e1 x hx.2, putO_get, if_neg hx.1]
      · by_cases hr : memN x rest.dsts = true
        · exact e2 x hr
        · have hr' : memN x rest.dsts = false := by simpa using hr
          rw [Steps.dsts, memN_app, memN_dl, hr', Bool.or_false, decide_eq_true_eq] at hx
          rw [e1 x hr', putO_get, if_pos hx]
    · simp at hc
  | .grp gt2 want2 inner i pd px rest, gt, want, seen, σ, H, hc, hg, hs => by
    unfold chkS at hc
    split at hc
    · rename_i o hi
      simp only [Bool.and_eq_true, decide_eq_true_eq, Bool.or_eq_true, Bool.not_eq_true', Option.isNone_some, Bool.false_eq_true, false_or] at hc
      obtain ⟨⟨⟨⟨⟨⟨⟨⟨h1, h2⟩, h3⟩, h4⟩, h5⟩, h6⟩, h7⟩, h8⟩, h9⟩ := hc
      have hfr : memN gt (pd :: inner.dsts) = false := by simpa [freeB] using h5
      rw [memN_cons, Bool.or_eq_false_iff] at hfr
      have hpd : pd ≠ gt := fun e => by subst e; simp at hfr
      obtain ⟨σ1, t1, e1, e2⟩ := flat_skip inner gt2 want2 [] σ H h8 (.inr (hs gt2 h7)) (fun d hd => by simp [memN] at hd)
      have hg1 : σ1 gt = .bool (!want) ∨ σ1 gt = .tup [] := by rw [e1 gt hfr.2]; exact hg
      obtain ⟨σ2, t2, e3, e4⟩ := flat_skip rest gt want (pd :: (inner.dsts ++ seen)) (putO σ1 (some pd) (.tup [])) H h9 (by rw [putO_get, if_neg (by simpa using hpd)]; exact hg1) (fun x hx => by
        rw [putO_get]
        split
        · rfl
        · rename_i hne
          rw [memN_cons, memN_app] at hx
          simp only [Bool.or_eq_true, decide_eq_true_eq] at hx
          rcases hx with rfl | hx | hx
          · exact absurd rfl hne
          · exact e2 x hx
          · by_cases hin : memN x inner.dsts = true
            · exact e2 x hin
            · rw [e1 x (by simpa using hin)]; exact hs x hx)
      refine ⟨σ2, t1.app (.cons ⟨i, some pd, some (gt, want), .pick gt2 want2 px⟩ _ σ1 H (.tup []) H σ2 H (.inr ⟨hg1, rfl, rfl⟩) t2), fun x hx => ?_, fun x hx => ?_⟩
      · rw [Steps.dsts, memN_app, memN_cons] at hx
        simp only [Bool.or_eq_false_iff, decide_eq_false_iff_not] at hx
        rw [e3 x hx.2.2, putO_get, if_neg (by simpa using Ne.symm hx.2.1), e1 x hx.1]
      · by_cases hr : memN x rest.dsts = true
        · exact e4 x hr
        · have hr' : memN x rest.dsts = false := by simpa using hr
          rw [e3 x hr', putO_get]
          split
          · rfl
          · rename_i hne
            rw [Steps.dsts, memN_app, memN_cons, hr'] at hx
            simp only [Bool.or_false, Bool.or_eq_true, decide_eq_true_eq] at hx
            rcases hx with hx | rfl
            · exact e2 x hx
            · exact absurd rfl hne
    · simp at hc

/-- The evaluator's way through a region is a way through its flat list. -/
theorem flat_of (hS : CallSplit call) : ∀ (ss : Steps) (g : GC) (seen : List Nat) {ρ : Type} (σ τ : Env) (H : AH) (κ : Env → AH → Option ρ) (r : ρ) (D : List Nat), evS call lo ss ρ σ H κ = some r → chkS C ops nt g seen ss = true → chkF D ss = true → Like D σ τ → GMet g τ →
    ∃ σ' H' τ' D', FTrace call lo (ss.flat g) τ H τ' H' ∧ κ σ' H' = some r ∧ Like D' σ' τ' ∧ (∀ x, memN x ss.dsts = false → τ' x = τ x)
  | .nil, g, seen, _, σ, τ, H, κ, r, D, h, _, _, hl, _ => ⟨σ, H, τ, D, .nil τ H, h, hl, fun _ _ => rfl⟩
  | .chk x rest, g, seen, _, σ, τ, H, κ, r, D, h, hc, hf, hl, hg => by
    unfold evS at h
    unfold chkS at hc
    unfold chkF at hf
    obtain ⟨_, h⟩ := cond_none h
    exact flat_of hS rest g seen σ τ H κ r D h hc hf hl hg
  | .op i d io rest, g, seen, _, σ, τ, H, κ, r, D, h, hc, hf, hl, hg => by
    unfold evS at h
    unfold chkS at hc
    unfold chkF at hf
    split at hc
    · rename_i o hi
      simp only [Bool.and_eq_true, decide_eq_true_eq] at hc hf
      obtain ⟨⟨⟨⟨⟨h1, h2⟩, h3⟩, h4⟩, h5⟩, h6⟩ := hc
      obtain ⟨v, H1, he, h⟩ := evOp_split hS h
      have he' : evOp call lo io τ H pr = some (v, H1) := by rw [← evOp_agree (hl.agree hf.1)]; exact he PV pr
      have hg1 : GMet g (putO τ d v) := by
        cases g with
        | none => trivial
        | some p =>
          obtain ⟨gt, want⟩ := p
          have : memN gt (dl d) = false := by simpa [freeB] using h5
          rw [memN_dl, decide_eq_false_iff_not] at this
          show putO τ d v gt = _
          rw [putO_get, if_neg this]; exact hg
      obtain ⟨σ', H', τ', D', t, hk, hl', hs'⟩ := flat_of hS rest g (dl d ++ seen) (putO σ d v) (putO τ d v) H1 κ r D h h6 hf.2 (hl.put d v) hg1
      refine ⟨σ', H', τ', D', .cons ⟨i, d, g, .op io⟩ _ τ H v H1 τ' H' (.inl ⟨hg, he'⟩) t, hk, hl', fun x hx => ?_⟩
      rw [Steps.dsts, memN_app, memN_dl, Bool.or_eq_false_iff, decide_eq_false_iff_not] at hx
      rw [hs' x hx.2, putO_get, if_neg hx.1]
    · simp at hc
  | .grp gt want inner i pd px rest, g, seen, _, σ, τ, H, κ, r, D, h, hc, hf, hl, hg => by
    unfold evS at h
    unfold chkS at hc
    unfold chkF at hf
    split at hc
    · rename_i o hi
      simp only [Bool.and_eq_true, decide_eq_true_eq, Bool.or_eq_true, Bool.not_eq_true'] at hc hf
      obtain ⟨⟨⟨⟨⟨⟨⟨⟨h1, h2⟩, h3⟩, h4⟩, h5⟩, h6⟩, h7⟩, h8⟩, h9⟩ := hc
      obtain ⟨⟨f1, f2⟩, f3⟩ := hf
      obtain ⟨gb, hgb, h⟩ := asB_some h
      obtain ⟨q, hq, h⟩ := Option.bind_eq_some_iff.1 h
      have hgτ : τ gt = .bool gb := by
        rcases hl gt with e | ⟨e, _⟩
        · rw [← e]; exact hgb
        · rw [hgb] at e; cases e
      have outer : ∀ {τ1 : Env} {v : AV}, (∀ x, memN x inner.dsts = false → τ1 x = τ x) → GMet g τ1 ∧ GMet g (putO τ1 (some pd) v) := by
        intro τ1 v e
        cases g with
        | none => exact ⟨trivial, trivial⟩
        | some p =>
          obtain ⟨g0, w0⟩ := p
          have : memN g0 (pd :: inner.dsts) = false := by simpa [freeB] using h5
          rw [memN_cons, Bool.or_eq_false_iff, decide_eq_false_iff_not] at this
          have e0 : τ1 g0 = .bool w0 := by rw [e g0 this.2]; exact hg
          refine ⟨e0, ?_⟩
          show putO τ1 (some pd) v g0 = _
          rw [putO_get, if_neg (by simpa using Ne.symm this.1)]; exact e0
      have behind : ∀ (τ1 : Env) (H1 : AH) (b : Bool), q = (b, H1) → FTrace call lo (inner.flat (some (gt, want))) τ H τ1 H1 → (∀ x, memN x inner.dsts = false → τ1 x = τ x) →
          ((gb = want → opd τ1 px = .bool b) ∧ (gb ≠ want → b = !want)) →
          ∃ σ' H' τ' D', FTrace call lo (Steps.flat g (.grp gt want inner i pd px rest)) τ H τ' H' ∧ κ σ' H' = some r ∧ Like D' σ' τ' ∧ (∀ x, memN x (Steps.dsts (.grp gt want inner i pd px rest)) = false → τ' x = τ x) := by
        intro τ1 H1 b hqb t1 e1 hb
        subst hqb
        have hgt1 : τ1 gt = .bool gb := by rw [e1 gt h6]; exact hgτ
        have hl1 : Like (inner.dsts ++ D) (put (forget σ inner.dsts) pd (.bool b)) (putO τ1 (some pd) (.bool b)) := by
          intro x
          rw [putO_get]
          simp only [put, forget]
          cases hx : Nat.beq x pd
          · have hne : ¬ pd = x := fun e => by subst e; simp at hx
            simp only [cond_false, Option.some.injEq, hne, if_false]
            cases hin : memN x inner.dsts
            · simp only [cond_false]
              rcases hl x with e | ⟨e, e'⟩
              · exact .inl (by rw [e1 x hin]; exact e)
              · exact .inr ⟨e, by rw [memN_app, e']; simp⟩
            · exact .inr ⟨rfl, by rw [memN_app, hin]; simp⟩
          · have : x = pd := Nat.eq_of_beq_eq_true hx
            subst this
            exact .inl (by simp)
        obtain ⟨σ', H', τ', D', t, hk, hl', hs'⟩ := flat_of hS rest g (pd :: (inner.dsts ++ seen)) _ _ H1 κ r _ h h9 f3 hl1 (outer e1).2
        refine ⟨σ', H', τ', D', t1.app (.cons ⟨i, some pd, g, .pick gt want px⟩ _ τ1 H1 (.bool b) H1 τ' H' (.inl ⟨(outer (v := .unk) e1).1, rfl, gb, b, hgt1, rfl, hb⟩) t), hk, hl', fun x hx => ?_⟩
        rw [Steps.dsts, memN_app, memN_cons] at hx
        simp only [Bool.or_eq_false_iff, decide_eq_false_iff_not] at hx
        rw [hs' x hx.2.2, putO_get, if_neg (by simpa using Ne.symm hx.2.1), e1 x hx.1]
      by_cases hgw : gb = want
      · subst hgw
        have hif : (bif gb then gb else !gb) = true := by cases gb <;> rfl
        rw [hif, cond_true] at hq
        obtain ⟨σ1, H1, τ1, D1, t1, hk1, hl1, e1⟩ := flat_of hS inner (some (gt, gb)) [] σ τ H _ q D hq h8 f2 hl hgτ
        obtain ⟨b, hb, hk1⟩ := asB_some hk1
        simp only [Option.some.injEq] at hk1
        refine behind τ1 H1 b hk1.symm t1 e1 ⟨fun _ => ?_, fun e => absurd rfl e⟩
        cases px with
        | c v => exact hb
        | t n =>
          simp only [opd] at hb ⊢
          rcases hl1 n with e | ⟨e, _⟩
          · rw [← e]; exact hb
          · rw [hb] at e; cases e
      · have hif : (bif want then gb else !gb) = false := by cases gb <;> cases want <;> simp at hgw ⊢
        rw [hif, cond_false] at hq
        simp only [Option.some.injEq] at hq
        have hgn : gb = !want := by cases gb <;> cases want <;> simp at hgw ⊢
        obtain ⟨τ1, t1, e1, _⟩ := flat_skip (call := call) (lo := lo) inner gt want [] τ H h8 (.inl (by rw [hgτ, hgn])) (fun d hd => by simp [memN] at hd)
        exact behind τ1 H (!want) hq.symm t1 e1 ⟨fun e => absurd e hgw, fun _ => rfl⟩
    · simp at hc
end
end Go.Ab
