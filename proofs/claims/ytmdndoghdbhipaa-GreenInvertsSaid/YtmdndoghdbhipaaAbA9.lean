/- Regions in the order of the text. -/
import Derived.Test.YtmdndoghdbhipaaAbA8
set_option linter.unusedSimpArgs false
set_option linter.unusedVariables false
namespace Go.Ab
open Go Go.RowKit

def Steps.idxs : Steps → List Nat
  | .nil => []
  | .op i _ _ r => i :: r.idxs
  | .chk _ r => r.idxs
  | .grp _ _ inner i _ _ r => inner.idxs ++ i :: r.idxs

abbrev GC := Option (Nat × Bool)
/-- The operation stands under this guard and no other. -/
def guardB (ops : Array Oper) (o : Oper) : GC → Bool
  | none => o.guard.isNone
  | some (gt, want) => (match o.guard with
    | some (j, w) => decide (w = want) && decide ((ops[j]?).bind (·.dst) = some gt)
    | none => false)
def freeB : GC → List Nat → Bool
  | none, _ => true
  | some (gt, _), ds => !memN gt ds
def dstB (nt : Nat) : Option Nat → Bool
  | none => true
  | some d => decide (d < nt)
def pickB (fids : List Nat) (op : Op) (gt : Nat) (want : Bool) (px : Opd) : Bool :=
  match op with
  | .pick (.tmp c) a b => decide (c = gt) && (match want with
    | true => chkOpd fids a px && (match b with | .const (.bool f) => !f | _ => false)
    | false => chkOpd fids b px && (match a with | .const (.bool f) => f | _ => false))
  | _ => false

def chkS (C : Ctx) (ops : Array Oper) (nt : Nat) : GC → List Nat → Steps → Bool
  | _, _, .nil => true
  | g, seen, .op i d io rest => (match ops[i]? with
    | some o => chkOp C o.op io && decide (o.dst = d) && dstB nt d && guardB ops o g && freeB g (dl d) && chkS C ops nt g (dl d ++ seen) rest
    | none => false)
  | g, seen, .chk _ rest => chkS C ops nt g seen rest
  | g, seen, .grp gt want inner i pd px rest => (match ops[i]? with
    | some o => pickB C.fids o.op gt want px && decide (o.dst = some pd) && decide (pd < nt) && guardB ops o g && freeB g (pd :: inner.dsts) && !memN gt inner.dsts &&
        (g.isNone || memN gt seen) && chkS C ops nt (some (gt, want)) [] inner && chkS C ops nt g (pd :: (inner.dsts ++ seen)) rest
    | none => false)

section
variable {C : Ctx} {ops : Array Oper} {nt : Nat}

theorem memN_iff {x : Nat} : ∀ {l : List Nat}, memN x l = true ↔ x ∈ l
  | [] => by simp [memN]
  | y :: l => by
    unfold memN
    cases h : Nat.beq x y
    · simp only [cond_false, List.mem_cons, memN_iff]
      have : x ≠ y := fun e => by subst e; simp at h
      simp [this]
    · have : x = y := Nat.eq_of_beq_eq_true h
      simp [this]
theorem memN_app {x : Nat} {l m : List Nat} : memN x (l ++ m) = (memN x l || memN x m) := by
  rw [Bool.eq_iff_iff]; simp [memN_iff]
theorem memN_cons {x y : Nat} {m : List Nat} : memN x (y :: m) = (decide (x = y) || memN x m) := by
  rw [Bool.eq_iff_iff]; simp [memN_iff]

theorem getD_put (a : Act) (d : Option Nat) (v : Value) (x : Nat) (hd : dstB a.tmps.size d = true) : (a.put d v).tmps.getD x undef = if d = some x then v else a.tmps.getD x undef := by
  cases d with
  | none => simp [Act.put]
  | some d =>
    simp only [dstB, decide_eq_true_eq] at hd
    simp only [Act.put, Array.getD_eq_getD_getElem?]
    by_cases h : d = x
    · subst h; simp [hd]
    · rw [Array.getElem?_setIfInBounds_ne h, if_neg (by simpa using h)]
theorem size_put (a : Act) (d : Option Nat) (v : Value) : (a.put d v).tmps.size = a.tmps.size := by
  cases d <;> simp [Act.put]
theorem defs_put (a : Act) (d : Option Nat) (v : Value) : (a.put d v).defers = a.defers := by
  cases d <;> simp [Act.put]

theorem ER.put {fids : List Nat} {μ μ' : MU} {σ : Env} {a : Act} (h : ER fids μ σ a) (hr : Ref μ μ') {d : Option Nat} {v : AV} {c : Value} (hv : VR fids μ' v c) (hd : dstB a.tmps.size d = true) : ER fids μ' (putO σ d v) (a.put d c) := by
  intro x
  rw [getD_put a d c x hd]
  cases d with
  | none => simpa [putO] using (h x).mono hr
  | some d =>
    simp only [putO, Ab.put]
    cases hx : Nat.beq x d
    · have : ¬ d = x := fun e => by subst e; simp at hx
      simp only [cond_false, Option.some.injEq, this, if_false]
      exact (h x).mono hr
    · have : x = d := Nat.eq_of_beq_eq_true hx
      subst this
      simpa using hv

/-- What the guard's temporary says. -/
theorem wanted_of {o : Oper} {gt : Nat} {want : Bool} (hg : guardB ops o (some (gt, want)) = true) (tm : Array Value) :
    Region.wanted o (yielded ops tm) = ((match tm[gt]? with | some (.bool b) => some b | _ => none) == some want) := by
  unfold guardB at hg
  simp only at hg
  unfold Region.wanted
  split at hg
  · rename_i j w hj
    simp only [Bool.and_eq_true, decide_eq_true_eq] at hg
    obtain ⟨rfl, h2⟩ := hg
    rw [hj]
    simp only [yielded, h2, Option.bind_some]
    rfl
  · simp at hg
theorem memN_dl {x : Nat} {d : Option Nat} : memN x (dl d) = decide (d = some x) := by
  cases d with
  | none => simp [dl, memN]
  | some d => rw [Bool.eq_iff_iff, memN_iff]; simp [dl]; exact eq_comm
theorem wanted_none {o : Oper} (hg : guardB ops o none = true) (y : Nat → Option Bool) : Region.wanted o y = true := by
  unfold guardB at hg
  simp only [Option.isNone_iff_eq_none] at hg
  simp [Region.wanted, hg]

/-- The guard is met. -/
def Met (g : GC) (a : Act) : Prop := match g with | none => True | some (gt, want) => a.tmps.getD gt undef = .bool want
theorem getD_some {tm : Array Value} {x : Nat} {v : Value} (h : tm.getD x undef = v) (hv : v ≠ undef) : tm[x]? = some v := by
  rw [Array.getD_eq_getD_getElem?] at h
  cases hx : tm[x]? with
  | none => rw [hx] at h; simp at h; exact absurd h.symm hv
  | some u => rw [hx] at h; simp at h; rw [h]
theorem undef_ne_bool (b : Bool) : Value.bool b ≠ undef := by intro h; cases h
theorem Met.wanted {g : GC} {a : Act} {o : Oper} (h : Met g a) (hg : guardB ops o g = true) : Region.wanted o (yielded ops a.tmps) = true := by
  cases g with
  | none => exact wanted_none hg _
  | some p =>
    obtain ⟨gt, want⟩ := p
    rw [wanted_of hg, getD_some h (undef_ne_bool _)]
    simp

structure Aft (C : Ctx) (nt : Nat) (μ : MU) (H : AH) (w : World) (a : Act) (ds : List Nat) (σ' : Env) (H' : AH) (a' : Act) (w' : World) (μ' : MU) : Prop where
  ext : Ext μ μ'
  er : ER C.fids μ' σ' a'
  sz : a'.tmps.size = nt
  hr : HR C μ' H' w'
  below : Below C.base w w'
  keep : Keep μ H H'
  defs : a'.defers = a.defers
  same : ∀ x, memN x ds = false → a'.tmps.getD x undef = a.tmps.getD x undef

theorem Good.grow {C : Ctx} {μ μ' : MU} {H H' : AH} {w w' : World} {v : AV} {c : Value} (hH : HR C μ H w) (h : Good C μ H w v H' c w' μ') : H.length ≤ H'.length := by
  obtain ⟨ν, e⟩ := h.ext
  rw [← hH.len, ← h.hr.len, e]; simp
theorem Aft.grow {μ μ' : MU} {H H' : AH} {w w' : World} {a a' : Act} {ds : List Nat} {σ' : Env} (hH : HR C μ H w) (h : Aft C nt μ H w a ds σ' H' a' w' μ') : H.length ≤ H'.length := by
  obtain ⟨ν, e⟩ := h.ext
  rw [← hH.len, ← h.hr.len, e]; simp
theorem Aft.trans {μ μ1 μ2 : MU} {H H1 H2 : AH} {w w1 w2 : World} {a a1 a2 : Act} {d1 d2 : List Nat} {σ1 σ2 : Env} (h : Aft C nt μ H w a d1 σ1 H1 a1 w1 μ1) (k : Aft C nt μ1 H1 w1 a1 d2 σ2 H2 a2 w2 μ2) :
    Aft C nt μ H w a (d1 ++ d2) σ2 H2 a2 w2 μ2 :=
  ⟨h.ext.trans k.ext, k.er, k.sz, k.hr, h.below.trans k.below, h.keep.trans k.keep h.ext, k.defs.trans h.defs, fun x hx => by
    rw [memN_app, Bool.or_eq_false_iff] at hx; rw [k.same x hx.2, h.same x hx.1]⟩

variable {Q : Exit → Act → World → Prop}

theorem wpOps_run {i : Nat} {o : Oper} {l : List Nat} {a : Act} {w : World} (hi : ops[i]? = some o) (hw : Region.wanted o (yielded ops a.tmps) = true) (h : Oper.wp C.P o a w (wpOps C.P ops Q l) Q) : wpOps C.P ops Q (i :: l) a w := by
  simp only [wpOps, hi, hw, if_true]; exact .inl h
theorem wpOps_skip {i : Nat} {o : Oper} {l : List Nat} {a : Act} {w : World} (hi : ops[i]? = some o) (hw : Region.wanted o (yielded ops a.tmps) = false) (h : wpOps C.P ops Q l (a.put o.dst undef) w) : wpOps C.P ops Q (i :: l) a w := by
  simp only [wpOps, hi, hw]; exact h

/-- Under a guard that is not met nothing is done. -/
theorem steps_skip {w : World} : ∀ (ss : Steps) (gt : Nat) (want : Bool) (seen : List Nat) (a : Act) (l : List Nat), chkS C ops nt (some (gt, want)) seen ss = true → a.tmps.size = nt → a.tmps.getD gt undef ≠ .bool want →
    (∀ d, memN d seen = true → a.tmps.getD d undef = undef) →
    (∀ a' : Act, a'.tmps.size = nt → a'.defers = a.defers → (∀ x, memN x ss.dsts = false → a'.tmps.getD x undef = a.tmps.getD x undef) → (∀ x, memN x ss.dsts = true → a'.tmps.getD x undef = undef) → wpOps C.P ops Q l a' w) →
    wpOps C.P ops Q (ss.idxs ++ l) a w
  | .nil, gt, want, seen, a, l, _, hn, _, _, hk => hk a hn rfl (fun _ _ => rfl) (fun x hx => by simp [Steps.dsts, memN] at hx)
  | .chk _ rest, gt, want, seen, a, l, hc, hn, hg, hs, hk => by
    simp only [chkS] at hc
    exact steps_skip rest gt want seen a l hc hn hg hs hk
  | .op i d io rest, gt, want, seen, a, l, hc, hn, hg, hs, hk => by
    simp only [chkS] at hc
    split at hc
    · rename_i o hi
      simp only [Bool.and_eq_true, decide_eq_true_eq] at hc
      obtain ⟨⟨⟨⟨⟨h1, h2⟩, h3⟩, h4⟩, h5⟩, h6⟩ := hc
      subst h2
      have hw : Region.wanted o (yielded ops a.tmps) = false := by
        rw [wanted_of h4]
        cases hx : a.tmps[gt]? with
        | none => rfl
        | some u =>
          have : a.tmps.getD gt undef = u := by rw [Array.getD_eq_getD_getElem?, hx]; rfl
          rw [this] at hg
          cases u <;> simp
          intro e; subst e; exact hg rfl
      have hdn : dstB a.tmps.size o.dst = true := by rw [hn]; exact h3
      have hgd : o.dst ≠ some gt := by
        intro e; simp [freeB, dl, e, memN] at h5
      refine wpOps_skip hi hw (steps_skip rest gt want (dl o.dst ++ seen) _ l h6 (by rw [size_put]; exact hn) (by rw [getD_put _ _ _ _ hdn, if_neg hgd]; exact hg) (fun x hx => ?_) (fun a' g1 g2 g3 g4 => hk a' g1 (by rw [g2, defs_put]) (fun x hx => ?_) (fun x hx => ?_)))
      · rw [getD_put _ _ _ _ hdn]
        split
        · rfl
        · rename_i hne
          rw [memN_app, Bool.or_eq_true] at hx
          rcases hx with hx | hx
          · cases hd : o.dst with
            | none => rw [hd] at hx; simp [dl, memN] at hx
            | some d => rw [hd] at hx; rw [memN_iff] at hx; simp [dl] at hx; subst hx; exact absurd hd hne
          · exact hs x hx
      · rw [Steps.dsts, memN_app, memN_dl] at hx
        simp only [Bool.or_eq_false_iff, decide_eq_false_iff_not] at hx
        rw [g3 x hx.2, getD_put _ _ _ _ hdn, if_neg hx.1]
      · by_cases hr : memN x rest.dsts = true
        · exact g4 x hr
        · have hr' : memN x rest.dsts = false := by simpa using hr
          rw [Steps.dsts, memN_app, memN_dl, hr'] at hx
          simp only [Bool.or_false, decide_eq_true_eq] at hx
          rw [g3 x hr', getD_put _ _ _ _ hdn, if_pos hx]
    · simp at hc
  | .grp gt2 want2 inner i pd px rest, gt, want, seen, a, l, hc, hn, hg, hs, hk => by
    simp only [chkS] at hc
    split at hc
    · rename_i o hi
      simp only [Bool.and_eq_true, decide_eq_true_eq, Bool.or_eq_true, Bool.not_eq_true', Option.isNone_some, Bool.false_eq_true, false_or] at hc
      obtain ⟨⟨⟨⟨⟨⟨⟨⟨h1, h2⟩, h3⟩, h4⟩, h5⟩, h6⟩, h7⟩, h8⟩, h9⟩ := hc
      have hfr : memN gt (pd :: inner.dsts) = false := by simpa [freeB] using h5
      rw [memN_cons, Bool.or_eq_false_iff] at hfr
      have hpd : pd ≠ gt := fun e => by subst e; simp at hfr
      rw [Steps.idxs, List.append_assoc, List.cons_append]
      refine steps_skip inner gt2 want2 [] a _ h8 hn (by rw [hs gt2 h7]; exact fun e => undef_ne_bool _ e.symm) (fun d hd => by simp [memN] at hd) (fun a1 g1 g2 g3 g4 => ?_)
      have hdn : dstB a1.tmps.size o.dst = true := by rw [g1, h2]; simpa [dstB] using h3
      have hw : Region.wanted o (yielded ops a1.tmps) = false := by
        rw [wanted_of h4]
        have hg1 : a1.tmps.getD gt undef ≠ .bool want := by rw [g3 gt hfr.2]; exact hg
        cases hx : a1.tmps[gt]? with
        | none => rfl
        | some u =>
          have : a1.tmps.getD gt undef = u := by rw [Array.getD_eq_getD_getElem?, hx]; rfl
          rw [this] at hg1
          cases u <;> simp
          intro e; subst e; exact hg1 rfl
      refine wpOps_skip hi hw (steps_skip rest gt want (pd :: (inner.dsts ++ seen)) _ l h9 (by rw [size_put]; exact g1) ?_ (fun x hx => ?_) (fun a' k1 k2 k3 k4 => hk a' k1 (by rw [k2, defs_put, g2]) (fun x hx => ?_) (fun x hx => ?_)))
      · rw [getD_put _ _ _ _ hdn, h2, if_neg (by simpa using hpd), g3 gt hfr.2]; exact hg
      · rw [getD_put _ _ _ _ hdn, h2]
        split
        · rfl
        · rename_i hne
          rw [memN_cons, memN_app] at hx
          simp only [Bool.or_eq_true, decide_eq_true_eq] at hx
          rcases hx with rfl | hx | hx
          · exact absurd rfl hne
          · exact g4 x hx
          · by_cases hin : memN x inner.dsts = true
            · exact g4 x hin
            · rw [g3 x (by simpa using hin)]; exact hs x hx
      · rw [Steps.dsts, memN_app, memN_cons] at hx
        simp only [Bool.or_eq_false_iff, decide_eq_false_iff_not] at hx
        rw [k3 x hx.2.2, getD_put _ _ _ _ hdn, h2, if_neg (by simpa using Ne.symm hx.2.1), g3 x hx.1]
      · by_cases hr : memN x rest.dsts = true
        · exact k4 x hr
        · have hr' : memN x rest.dsts = false := by simpa using hr
          rw [k3 x hr', getD_put _ _ _ _ hdn, h2]
          split
          · rfl
          · rename_i hne
            rw [Steps.dsts, memN_app, memN_cons, hr'] at hx
            simp only [Bool.or_false, Bool.or_eq_true, decide_eq_true_eq] at hx
            rcases hx with hx | rfl
            · exact g4 x hx
            · exact absurd rfl hne
    · simp at hc
end
end Go.Ab
