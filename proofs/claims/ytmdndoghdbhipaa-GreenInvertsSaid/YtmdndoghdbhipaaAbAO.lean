/- What came in: arguments laid as an abstract heap; the end of a law. -/
import Derived.Test.YtmdndoghdbhipaaAbA12
import Derived.Deep.Slices
set_option linter.unusedSimpArgs false
set_option linter.unusedVariables false
namespace Go.Ab
open Go Go.RowKit Go.ChangeShapes Go.WideShapes Go.Deep

/-- What an argument reads as: one cell, or a row of such (elements of one cell; the flag: there is no room at all). -/
inductive Dt where
  | one (v : AV)
  | row (l : List Dt) (bare : Bool)
  | agg (l : List Dt)

mutual
inductive RdD (fids : List Nat) (w : World) : Dt → Value → Prop where
  | one (v : AV) (c : Value) (h : VR fids [] v c) : RdD fids w (.one v) c
  | bare (x : Option Addr) : RdD fids w (.row [] true) (.slice x 0 0)
  | row (l : List Dt) (cs : List Value) (B o cap : Nat) (hl : l.length ≤ cap) (hB : B < w.heap.size) (hc : ∀ (j : Nat) (c : Value), cs[j]? = some c → w.cell? ⟨B, o + j, none⟩ = some c) (h : RdDs fids w l cs) :
      RdD fids w (.row l false) (.slice (some ⟨B, o, none⟩) l.length cap)
  | agg (l : List Dt) (cs : List Value) (h : RdDs fids w l cs) : RdD fids w (.agg l) (.agg cs.toArray)
inductive RdDs (fids : List Nat) (w : World) : List Dt → List Value → Prop where
  | nil : RdDs fids w [] []
  | cons (d : Dt) (c : Value) (l : List Dt) (cs : List Value) (h : RdD fids w d c) (hs : RdDs fids w l cs) : RdDs fids w (d :: l) (c :: cs)
end
theorem RdDs.length {fids : List Nat} {w : World} : ∀ {l : List Dt} {cs : List Value}, RdDs fids w l cs → l.length = cs.length
  | _, _, .nil => rfl
  | _, _, .cons _ _ _ _ _ hs => by simp [RdDs.length hs]
theorem RdDs.of {fids : List Nat} {w : World} : ∀ {l : List Dt} {cs : List Value}, l.length = cs.length → (∀ (j : Nat) (d : Dt) (c : Value), l[j]? = some d → cs[j]? = some c → RdD fids w d c) → RdDs fids w l cs
  | [], [], _, _ => .nil
  | d :: l, c :: cs, hl, h => .cons d c l cs (h 0 d c (by simp) (by simp)) (RdDs.of (by simpa using hl) fun j x y hx hy => h (j + 1) x y (by simpa using hx) (by simpa using hy))
  | [], _ :: _, hl, _ => by simp at hl
  | _ :: _, [], hl, _ => by simp at hl

mutual
def lay : Dt → AH → AV × AH
  | .one v, H => (v, H)
  | .agg l, H => (.agg (layL l H).1, (layL l H).2)
  | .row l bare, H => bif bare then (.sl ⟨none, 0⟩, H) else (.sl ⟨some ⟨(layL l H).2.length, 0⟩, (layL l H).1.length⟩, (layL l H).2 ++ [.cells (layL l H).1 1])
def layL : List Dt → AH → List AV × AH
  | [], H => ([], H)
  | d :: l, H => ((lay d H).1 :: (layL l (lay d H).2).1, (layL l (lay d H).2).2)
end

/-- The relation of memories while arguments are laid: nothing is the call's own. -/
structure HR0 (fids : List Nat) (μ : MU) (H : AH) (w : World) : Prop where
  len : μ.length = H.length
  blk : ∀ (i : Nat) (b : Blk) (e : Ent), H[i]? = some b → μ[i]? = some (some e) → BR fids μ False b e w
  own : ∀ (i : Nat) (e : Ent), μ[i]? = some (some e) → e.B < w.heap.size

theorem HR0.push {fids : List Nat} {μ : MU} {H : AH} {w : World} (h : HR0 fids μ H w) (b : Blk) (e : Ent) (he : e.B < w.heap.size) (hb : BR fids (μ ++ [some e]) False b e w) : HR0 fids (μ ++ [some e]) (H ++ [b]) w := by
  have hl := h.len
  refine ⟨by simp [hl], fun i b' e' hb' he' => ?_, fun i e' he' => ?_⟩
  · rw [getElem?_snoc] at hb' he'
    by_cases hi : i = H.length
    · subst hi
      rw [if_pos rfl] at hb'; rw [if_pos hl.symm] at he'
      cases hb'; cases he'; exact hb
    · rw [if_neg hi] at hb'; rw [if_neg (by omega)] at he'
      exact (h.blk i b' e' hb' he').of (Ref.app _ _) rfl
  · rw [getElem?_snoc] at he'
    by_cases hi : i = μ.length
    · rw [if_pos hi] at he'; cases he'; exact he
    · rw [if_neg hi] at he'; exact h.own i e' he'

mutual
theorem lay_sound {fids : List Nat} {w : World} : ∀ (d : Dt) (c : Value) (μ : MU) (H : AH), RdD fids w d c → HR0 fids μ H w → ∃ ν, VR fids (μ ++ ν) (lay d H).1 c ∧ HR0 fids (μ ++ ν) (lay d H).2 w
  | _, _, μ, H, .one v c h, hH => ⟨[], h.mono (fun i e hi => by simp at hi), by simpa [lay] using hH⟩
  | _, _, μ, H, .agg l cs h, hH => by
    obtain ⟨ν, hv, hh⟩ := layL_sound l cs μ H h hH
    exact ⟨ν, by simpa only [lay] using VR.agg _ _ hv, by simpa only [lay] using hh⟩
  | _, _, μ, H, .bare x, hH => ⟨[], .nilsl x, by simpa [lay] using hH⟩
  | _, _, μ, H, .row l cs B o cap hl hB hc h, hH => by
    obtain ⟨ν, hv, hh⟩ := layL_sound l cs μ H h hH
    have hlen : (layL l H).1.length = l.length := by rw [hv.length, h.length]
    have hml := hh.len
    refine ⟨ν ++ [some ⟨B, o, cap, 1⟩], ?_, ?_⟩
    · simp only [lay, cond_false, hlen]
      have := VR.sl (fids := fids) (μ := μ ++ (ν ++ [some ⟨B, o, cap, 1⟩])) (layL l H).2.length 0 l.length cap ⟨B, o, cap, 1⟩ (by rw [← List.append_assoc, ← hml]; simp) (by simp) hl
      simpa using this
    · simp only [lay, cond_false]
      rw [← List.append_assoc]
      refine hh.push _ _ hB ⟨rfl, fun j v hj => ?_, fun f => f.elim⟩
      obtain ⟨c, hc', hr⟩ := hv.get hj
      exact ⟨c, hc j c hc', hr.mono (Ref.app _ _)⟩
theorem layL_sound {fids : List Nat} {w : World} : ∀ (l : List Dt) (cs : List Value) (μ : MU) (H : AH), RdDs fids w l cs → HR0 fids μ H w →
    ∃ ν, VRs fids (μ ++ ν) (layL l H).1 cs ∧ HR0 fids (μ ++ ν) (layL l H).2 w
  | _, _, μ, H, .nil, hH => ⟨[], .nil, by simpa [layL] using hH⟩
  | _, _, μ, H, .cons d c l cs h hs, hH => by
    obtain ⟨ν, h1, h2⟩ := lay_sound d c μ H h hH
    obtain ⟨ν', h3, h4⟩ := layL_sound l cs (μ ++ ν) (lay d H).2 hs h2
    exact ⟨ν ++ ν', by rw [← List.append_assoc]; exact .cons _ _ _ _ (h1.mono (Ref.app _ _)) h3, by rw [← List.append_assoc]; exact h4⟩
end

/-! The check looks at the program and the functions' numbers alone. -/
section
variable {P : Program} {fids : List Nat} {a b a' b' : Nat}
theorem chkOp_same (op : Op) (io : IOp) : chkOp ⟨P, fids, a, b⟩ op io = chkOp ⟨P, fids, a', b'⟩ op io := by cases io <;> rfl
theorem chkS_same (ops : Array Oper) (nt : Nat) : ∀ (ss : Steps) (g : GC) (seen : List Nat), chkS ⟨P, fids, a, b⟩ ops nt g seen ss = chkS ⟨P, fids, a', b'⟩ ops nt g seen ss
  | .nil, _, _ => by unfold chkS; rfl
  | .chk _ r, g, seen => by unfold chkS; exact chkS_same ops nt r g seen
  | .op i d io r, g, seen => by
    unfold chkS
    split
    · rename_i o _; rw [chkOp_same (a' := a') (b' := b') o.op io, chkS_same ops nt r]
    · rfl
  | .grp gt want inner i pd px r, g, seen => by
    unfold chkS
    split
    · rw [chkS_same ops nt inner, chkS_same ops nt r]
    · rfl
theorem chkReg_same (ops : Array Oper) (draw : Bool) (nt : Nat) (ss : Steps) : chkReg ⟨P, fids, a, b⟩ ops draw nt ss = chkReg ⟨P, fids, a', b'⟩ ops draw nt ss := by
  cases draw
  · simp only [chkReg]; rw [chkS_same]
  · simp only [chkReg, chkD]; rw [chkS_same]
theorem chkC_same (body : Code) (nt : Nat) (labels : List (List At)) : ∀ (c : IRc) (todo : List At), chkC ⟨P, fids, a, b⟩ body nt labels c todo = chkC ⟨P, fids, a', b'⟩ body nt labels c todo
  | .reg ss next, todo => by
    unfold chkC
    split
    · split
      · rw [chkReg_same (a' := a') (b' := b'), chkC_same body nt labels next]
      · rfl
    · rfl
  | .ite c p q, todo => by
    unfold chkC
    split
    · split
      · rw [chkC_same body nt labels p, chkC_same body nt labels q]
      · rfl
    · rfl
  | .jump j, todo => by unfold chkC; rfl
  | .ret, todo => by unfold chkC; rfl
theorem chkPieces_same (body : Code) (nt : Nat) (labels : List (List At)) : ∀ (ps : List Piece), chkPieces ⟨P, fids, a, b⟩ body nt labels ps = chkPieces ⟨P, fids, a', b'⟩ body nt labels ps
  | [] => rfl
  | p :: ps => by simp only [chkPieces]; rw [chkC_same (a' := a') (b' := b'), chkPieces_same body nt labels ps]
theorem chkFn_same (f : FuncId) (fn : Fn) : chkFn ⟨P, fids, a, b⟩ f fn = chkFn ⟨P, fids, a', b'⟩ f fn := by
  unfold chkFn
  simp only
  split
  · split
    · rw [chkPieces_same]
    · rfl
  · rfl
theorem chkG_same : ∀ (fs : List FuncId) (fns : List Fn), chkG ⟨P, fids, a, b⟩ fs fns = chkG ⟨P, fids, a', b'⟩ fs fns
  | [], [] => rfl
  | f :: fs, fn :: fns => by simp only [chkG]; rw [chkFn_same (a' := a') (b' := b'), chkG_same fs fns]
  | [], _ :: _ => rfl
  | _ :: _, [] => rfl
end

/-- THE END OF A LAW: what the evaluator says of laid arguments, the code does. -/
theorem law_calls {P : Program} {fids : List Nat} {G : Pg} (hG : chkG ⟨P, fids, 0, 0⟩ fids G = true) (hw : P.follows .mixedOrders = true) {k g f : Nat} {ds : List Dt} {cs : List Value} {w : World} {b : Bool} {H' : AH} (hg : fids[g]? = some f)
    (hr : RdDs fids w ds cs)
    (h : run G k PV g 0 (layL ds []).1 (layL ds []).2.length (layL ds []).2 pr = some (.bool b, H')) : Calls P f cs.toArray w fun e w' => e = .returned (.bool b) ∧ Below w.heap.size w w' := by
  obtain ⟨ν, h1, h2⟩ := layL_sound ds cs [] [] hr ⟨rfl, fun i b e hi => by simp at hi, fun i e hi => by simp at hi⟩
  simp only [List.nil_append] at h1 h2
  let C : Ctx := ⟨P, fids, (layL ds []).2.length, w.heap.size⟩
  have hG' : chkG C C.fids G = true := by rw [← hG]; exact chkG_same _ _
  have hHR : HR C ν (layL ds []).2 w := by
    have hlt : ∀ {i : Nat} {b : Blk}, (layL ds []).2[i]? = some b → i < (layL ds []).2.length := fun hi => (List.getElem?_eq_some_iff.1 hi).1
    refine ⟨h2.len, fun i b e hb he => ?_, fun i j bi bj ei ej _ hbi _ _ _ _ _ hlo => ?_, fun i e he => ⟨h2.own i e he, fun hlo => ?_⟩, Nat.le_refl _, Nat.le_refl _⟩
    · have hn : ¬ (layL ds []).2.length ≤ i := by have := hlt hb; omega
      have hB := h2.blk i b e hb he
      cases b with
      | cells vs sz => exact ⟨hB.1, hB.2.1, fun ho => absurd ho hn⟩
      | map es => obtain ⟨ms, ck, _, _, ho, _⟩ := hB; exact ho.elim
      | dead => trivial
    · exact absurd hlo (by have := hlt hbi; simp only [C]; omega)
    · have := (List.getElem?_eq_some_iff.1 he).1
      rw [h2.len] at this
      exact absurd hlo (by simp only [C]; omega)
  refine (run_sound (C := C) hG' hw hg h (Nat.le_refl _) (Nat.le_refl _) h1 hHR).mono fun e w' ⟨c, hc, μ', hgd⟩ => ?_
  subst hc
  exact ⟨by rw [hgd.val.bool_inv], hgd.below⟩

/-! ### Arguments as they are read -/
section
variable {HH : Type} {enc : TypeId × Value → HH} {P : Program} {w : World} {base : Nat} {held : Bool} {fids : List Nat}

/-- A value of type t opens as a datum of which Q. -/
def OpensD (enc : TypeId × Value → HH) (P : Program) (w : World) (base : Nat) (held : Bool) (fids : List Nat) (t : TypeId) (Q : Dt → Prop) : Prop :=
  ∀ fuel cs x, DataW.trod enc P w base (fun _ => true) held fuel t cs = some x → ∃ d c, cs = [c] ∧ RdD fids w d c ∧ Q d

theorem opensD_int {t : TypeId} {k : IntKind} (ht : P.underlying t = some (.int k)) : OpensD enc P w base held fids t (fun d => ∃ n, d = .one (.int k n) ∧ (Lit.int k n).wf = true) := by
  intro fuel cs x h
  obtain ⟨m, rfl, _, hw⟩ := DataW.trod_int ht h
  exact ⟨.one (.int k m), _, rfl, .one _ _ (.int k m), m, rfl, hw⟩

theorem opensD_bool {t : TypeId} (ht : P.underlying t = some .bool) : OpensD enc P w base held fids t (fun d => ∃ b, d = .one (.bool b)) := by
  intro fuel cs x h
  obtain ⟨b, rfl, _⟩ := DataW.trod_bool ht h
  exact ⟨.one (.bool b), _, rfl, .one _ _ (.bool b), b, rfl⟩
/-- An argument that is a struct of fields of one cell: its fields' values. -/
theorem open_structD {t : TypeId} {fs : Array Field} {r : Reach} {b0 : Nat} {v : Value} {dd : DataW HH} {ps : List MemPlace} (ht : P.underlying t = some (.struct fs)) (hC : P.cellsOf t = fs.size)
    (hf : ∀ (i : Nat) (f : Field), fs[i]? = some f → f.offset = i ∧ P.cellsOf f.type = 1) (hval : Value.okWide P w r b0 t v) (h : DataW.Trod enc P w base (fun _ => true) held t v dd ps) :
    ∃ cs : Array Value, v = .agg cs ∧ cs.size = fs.size ∧ ∀ (i : Nat) (f : Field), fs[i]? = some f → ∃ (n : Nat) (u : Value) (y : DataW HH × List MemPlace), cs[i]? = some u ∧ DataW.trod enc P w base (fun _ => true) held n f.type [u] = some y := by
  obtain ⟨cs, rfl, hsz⟩ := okWide_struct ht hval
  obtain ⟨fuel, hx⟩ := h
  obtain ⟨xs, n, _, _, hl, hlen, hfs⟩ := DataW.trod_struct ht hx
  refine ⟨cs, rfl, hsz.trans hC, fun i f hif => ?_⟩
  obtain ⟨ho, hc⟩ := hf i f hif
  have hi : i < fs.size := (Array.getElem?_eq_some_iff.1 hif).1
  have hi2 : i < cs.size := by omega
  have := hfs i f hif
  rw [List.getElem?_eq_getElem (by omega)] at this
  refine ⟨n, cs[i], xs[i]'(by omega), Array.getElem?_eq_getElem hi2, ?_⟩
  have e : ((Value.agg cs).cells.toList.drop f.offset).take (P.cellsOf f.type) = [cs[i]] := by
    rw [ho, hc]
    show (cs.toList.drop i).take 1 = _
    rw [List.drop_eq_getElem_cons (by simpa using hi2)]
    simp
  rw [← e]
  exact this

/-- A row whose data are of Q. -/
def RowQ (Q : Dt → Prop) (d : Dt) : Prop := ∃ l bare, d = .row l bare ∧ (bare = true → l = []) ∧ l.length ≤ 9223372036854775807 ∧ ∀ x ∈ l, Q x

theorem list_ofD {p : Nat → Dt → Prop} : ∀ n : Nat, (∀ i, i < n → ∃ v, p i v) → ∃ l : List Dt, l.length = n ∧ ∀ (j : Nat) (v : Dt), l[j]? = some v → p j v
  | 0, _ => ⟨[], rfl, fun j v hj => by simp at hj⟩
  | n + 1, h => by
    obtain ⟨l, hl, hp⟩ := list_ofD n (fun i hi => h i (by omega))
    obtain ⟨v, hv⟩ := h n (by omega)
    refine ⟨l ++ [v], by simp [hl], fun j u hj => ?_⟩
    rw [getElem?_snoc] at hj
    by_cases hjn : j = l.length
    · rw [if_pos hjn] at hj; cases hj; rw [hjn, hl]; exact hv
    · rw [if_neg hjn] at hj; exact hp j u hj

theorem opensD_slice {t e : TypeId} {Q : Dt → Prop} (ht : P.underlying t = some (.slice e)) (ce : P.cellsOf e = 1) (h : OpensD enc P w base held fids e Q) : OpensD enc P w base held fids t (RowQ Q) := by
  intro fuel cs x hx
  rcases open_slice1 ht ce hx with ⟨rfl, _⟩ | ⟨a, len, cap, m, n, V, D, Pl, rfl, _, hl, hm, hmm, _, hV⟩
  · exact ⟨.row [] true, _, rfl, .bare none, [], true, rfl, fun _ => rfl, by simp, by simp⟩
  · simp only [if_true] at hmm
    subst hmm
    rcases Nat.eq_zero_or_pos m with h0 | h0
    · subst h0
      have : len = 0 := by omega
      subst this
      exact ⟨.row [] true, _, rfl, .bare (some a), [], true, rfl, fun _ => rfl, by simp, by simp⟩
    · have hc0 := (hV 0 h0).1
      have hspot : a.spot = none := by
        cases hs : a.spot with
        | none => rfl
        | some s =>
          simp only [Addr.add, if_true, World.cell?] at hc0
          split at hc0
          · rw [hs] at hc0; simp at hc0
          · simp at hc0
      have hblk : a.block < w.heap.size := World.block_lt_of_cell? w a (by simpa [Addr.add] using hc0)
      obtain ⟨B, o, sp⟩ := a
      simp only at hspot hblk
      subst hspot
      obtain ⟨l, hlen, hf⟩ := list_ofD (p := fun i d => ∃ c, w.cell? ⟨B, o + i, none⟩ = some c ∧ RdD fids w d c ∧ Q d) len (fun i hi => by
        obtain ⟨h1, h2⟩ := hV i (by omega)
        rw [addr_add] at h1
        obtain ⟨d, c, hc, hd, hq⟩ := h _ _ _ h2
        cases hc
        exact ⟨d, _, h1, hd, hq⟩)
      subst hlen
      obtain ⟨cs, hcs⟩ : ∃ cs : List Value, cs.length = l.length ∧ ∀ (j : Nat) (d : Dt) (c : Value), l[j]? = some d → cs[j]? = some c → w.cell? ⟨B, o + j, none⟩ = some c ∧ RdD fids w d c := by
        have : ∀ (l : List Dt) (o : Nat), (∀ (j : Nat) (d : Dt), l[j]? = some d → ∃ c, w.cell? ⟨B, o + j, none⟩ = some c ∧ RdD fids w d c) → ∃ cs : List Value, cs.length = l.length ∧ ∀ (j : Nat) (d : Dt) (c : Value), l[j]? = some d → cs[j]? = some c → w.cell? ⟨B, o + j, none⟩ = some c ∧ RdD fids w d c := by
          intro l
          induction l with
          | nil => intro o _; exact ⟨[], rfl, fun j d c hj => by simp at hj⟩
          | cons d l ih =>
            intro o h
            obtain ⟨c, h1, h2⟩ := h 0 d (by simp)
            obtain ⟨cs, h3, h4⟩ := ih (o + 1) (fun j d' hj => by
              obtain ⟨c', h5, h6⟩ := h (j + 1) d' (by simpa using hj)
              exact ⟨c', by rw [show o + 1 + j = o + (j + 1) by omega]; exact h5, h6⟩)
            refine ⟨c :: cs, by simp [h3], fun j d' c' hj hc => ?_⟩
            cases j with
            | zero => simp at hj hc; subst hj; subst hc; exact ⟨by simpa using h1, h2⟩
            | succ j =>
              have := h4 j d' c' (by simpa using hj) (by simpa using hc)
              rw [show o + (j + 1) = o + 1 + j by omega]; exact this
        exact this l o fun j d hj => by obtain ⟨c, h1, h2, _⟩ := hf j d hj; exact ⟨c, h1, h2⟩
      refine ⟨.row l false, _, rfl, .row l cs B o m hl hblk (fun j c hc => ?_) (RdDs.of hcs.1.symm fun j d c h1 h2 => (hcs.2 j d c h1 h2).2), l, false, rfl, (fun e => by cases e), (by unfold maxLen at hm; omega), fun d hd => ?_⟩
      · have hj : j < l.length := by rw [← hcs.1]; exact (List.getElem?_eq_some_iff.1 hc).1
        exact (hcs.2 j _ c (List.getElem?_eq_getElem hj) hc).1
      · obtain ⟨i, hi⟩ := List.getElem?_of_mem hd
        obtain ⟨c, _, _, h3⟩ := hf i d hi; exact h3

/-- An argument. -/
theorem open_argD {t : TypeId} {Q : Dt → Prop} {v : Value} {dd : DataW HH} {ps : List MemPlace} {e : TypeId} (ht : P.underlying t = some (.slice e)) {r : Reach} {b0 : Nat} (hval : Value.okWide P w r b0 t v) (h : DataW.Trod enc P w base (fun _ => true) held t v dd ps)
    (ho : OpensD enc P w base held fids t Q) : ∃ d, RdD fids w d v ∧ Q d := by
  obtain ⟨a, len, cap, rfl⟩ := okWide_slice ht hval
  obtain ⟨fuel, hf⟩ := h
  obtain ⟨d, c, hc, hd, hq⟩ := ho _ _ _ hf
  simp [Value.cells] at hc
  subst hc
  exact ⟨d, hd, hq⟩
end

/-! ### Laid rows as lists -/
/-- A row of whole numbers. -/
def ints (k : IntKind) (l : List Int) (bare : Bool) : Dt := .row (l.map fun n => .one (.int k n)) bare
theorem rowQ_ints {k : IntKind} {d : Dt} (h : RowQ (fun d => ∃ n, d = .one (.int k n) ∧ (Lit.int k n).wf = true) d) : ∃ l bare, d = ints k l bare ∧ (bare = true → l = []) ∧ l.length ≤ 9223372036854775807 ∧ ∀ n ∈ l, (Lit.int k n).wf = true := by
  obtain ⟨l, bare, rfl, hb, hl, hq⟩ := h
  have : ∃ m : List Int, l = m.map (fun n => .one (.int k n)) ∧ ∀ n ∈ m, (Lit.int k n).wf = true := by
    clear hb hl
    induction l with
    | nil => exact ⟨[], rfl, by simp⟩
    | cons x l ih =>
      obtain ⟨n, hn, hw⟩ := hq x (by simp)
      obtain ⟨m, hm, hms⟩ := ih (fun y hy => hq y (by simp [hy]))
      exact ⟨n :: m, by simp [hn, hm], by simpa [hw] using hms⟩
  obtain ⟨m, rfl, hm⟩ := this
  exact ⟨m, bare, rfl, fun e => by simpa using hb e, by simpa using hl, hm⟩
/-- A row of rows. -/
def rows (k : IntKind) (l : List (List Int × Bool)) (bare : Bool) : Dt := .row (l.map fun p => ints k p.1 p.2) bare
theorem rowQ_rows {k : IntKind} {d : Dt} (h : RowQ (RowQ (fun d => ∃ n, d = .one (.int k n) ∧ (Lit.int k n).wf = true)) d) :
    ∃ l bare, d = rows k l bare ∧ (bare = true → l = []) ∧ l.length ≤ 9223372036854775807 ∧ ∀ p ∈ l, (p.2 = true → p.1 = []) ∧ p.1.length ≤ 9223372036854775807 ∧ ∀ n ∈ p.1, (Lit.int k n).wf = true := by
  obtain ⟨l, bare, rfl, hb, hl, hq⟩ := h
  have : ∃ m : List (List Int × Bool), l = m.map (fun p => ints k p.1 p.2) ∧ ∀ p ∈ m, (p.2 = true → p.1 = []) ∧ p.1.length ≤ 9223372036854775807 ∧ ∀ n ∈ p.1, (Lit.int k n).wf = true := by
    clear hb hl
    induction l with
    | nil => exact ⟨[], rfl, by simp⟩
    | cons x l ih =>
      obtain ⟨xs, b, hx, h1, h2, h3⟩ := rowQ_ints (hq x (by simp))
      obtain ⟨m, hm, hms⟩ := ih (fun y hy => hq y (by simp [hy]))
      refine ⟨(xs, b) :: m, by simp [hx, hm], fun p hp => ?_⟩
      rcases List.mem_cons.1 hp with rfl | hp
      · exact ⟨h1, h2, h3⟩
      · exact hms p hp
  obtain ⟨m, rfl, hm⟩ := this
  exact ⟨m, bare, rfl, fun e => by simpa using hb e, by simpa using hl, hm⟩

/-- A slice of the abstract heap that reads as a list. -/
def RowOf {α : Type} (R : AV → α → Prop) (H : AH) (s : Sl) (xs : List α) : Prop :=
  s.len = xs.length ∧ (∀ (j : Nat) (x : α), xs[j]? = some x → ∃ p vs sz v, s.p = some p ∧ H[p.b]? = some (.cells vs sz) ∧ vs[p.o + j]? = some v ∧ R v x) ∧ ∀ p, s.p = some p → ∃ vs sz, H[p.b]? = some (.cells vs sz) ∧ p.o + s.len ≤ vs.length
def Row (H : AH) (s : Sl) (xs : List Int) : Prop := RowOf (fun v x => v = .int .i64 x) H s xs
def Tab (H : AH) (s : Sl) (T : List (List Int)) : Prop := RowOf (fun v row => ∃ r, v = .sl r ∧ Row H r row) H s T

theorem layL_length : ∀ (l : List Dt) (H : AH), (layL l H).1.length = l.length
  | [], _ => by simp [layL]
  | d :: l, H => by simp [layL, layL_length l]
mutual
theorem lay_ext : ∀ (d : Dt) (H : AH), ∃ E, (lay d H).2 = H ++ E
  | .one v, H => ⟨[], by simp [lay]⟩
  | .agg l, H => by obtain ⟨E, h⟩ := layL_ext l H; exact ⟨E, by simp only [lay]; exact h⟩
  | .row l bare, H => by
    cases bare
    · obtain ⟨E, h⟩ := layL_ext l H; exact ⟨E ++ [.cells (layL l H).1 1], by simp [lay, h]⟩
    · exact ⟨[], by simp [lay]⟩
theorem layL_ext : ∀ (l : List Dt) (H : AH), ∃ E, (layL l H).2 = H ++ E
  | [], H => ⟨[], by simp [layL]⟩
  | d :: l, H => by
    obtain ⟨E, h⟩ := lay_ext d H
    obtain ⟨E', h'⟩ := layL_ext l (lay d H).2
    exact ⟨E ++ E', by simp only [layL]; rw [h', h, List.append_assoc]⟩
end
theorem RowOf.ext {α : Type} {R : AV → α → Prop} {H : AH} {s : Sl} {xs : List α} (h : RowOf R H s xs) (E : AH) : RowOf R (H ++ E) s xs :=
  ⟨h.1, fun j x hj => by
    obtain ⟨p, vs, sz, v, h1, h2, h3, h4⟩ := h.2.1 j x hj
    exact ⟨p, vs, sz, v, h1, by rw [List.getElem?_append_left (List.getElem?_eq_some_iff.1 h2).1]; exact h2, h3, h4⟩, fun p hp => by
    obtain ⟨vs, sz, h1, h2⟩ := h.2.2 p hp
    exact ⟨vs, sz, by rw [List.getElem?_append_left (List.getElem?_eq_some_iff.1 h1).1]; exact h1, h2⟩⟩
theorem RowOf.imp {α : Type} {R R' : AV → α → Prop} {H : AH} {s : Sl} {xs : List α} (h : RowOf R H s xs) (hr : ∀ v x, R v x → R' v x) : RowOf R' H s xs :=
  ⟨h.1, fun j x hj => by
    obtain ⟨p, vs, sz, v, h1, h2, h3, h4⟩ := h.2.1 j x hj
    exact ⟨p, vs, sz, v, h1, h2, h3, hr _ _ h4⟩, h.2.2⟩
theorem Tab.ext {H : AH} {s : Sl} {T : List (List Int)} (h : Tab H s T) (E : AH) : Tab (H ++ E) s T :=
  (RowOf.ext h E).imp fun v x ⟨r, h1, h2⟩ => ⟨r, h1, RowOf.ext h2 E⟩

/-- A laid row reads as its list. -/
theorem lay_row {α : Type} {R : AH → AV → α → Prop} (f : α → Dt) (hmono : ∀ H E v x, R H v x → R (H ++ E) v x) (hone : ∀ (x : α) (H : AH), R (lay (f x) H).2 (lay (f x) H).1 x) :
    ∀ (l : List α) (H : AH) (j : Nat) (x : α), l[j]? = some x → ∃ v, (layL (l.map f) H).1[j]? = some v ∧ R (layL (l.map f) H).2 v x
  | [], H, j, x, h => by simp at h
  | a :: l, H, 0, x, h => by
    simp at h; subst h
    obtain ⟨E, hE⟩ := layL_ext (l.map f) (lay (f a) H).2
    exact ⟨(lay (f a) H).1, by simp [layL], by simp only [List.map_cons, layL]; rw [hE]; exact hmono _ _ _ _ (hone a H)⟩
  | a :: l, H, j + 1, x, h => by
    obtain ⟨v, h1, h2⟩ := lay_row f hmono hone l (lay (f a) H).2 j x (by simpa using h)
    exact ⟨v, by simpa [layL] using h1, by simpa [layL] using h2⟩
theorem lay_rowOf {α : Type} {R : AH → AV → α → Prop} (f : α → Dt) (hmono : ∀ H E v x, R H v x → R (H ++ E) v x) (hone : ∀ (x : α) (H : AH), R (lay (f x) H).2 (lay (f x) H).1 x) (l : List α) (bare : Bool) (hb : bare = true → l = []) (H : AH) :
    ∃ s, (lay (.row (l.map f) bare) H).1 = .sl s ∧ RowOf (R (lay (.row (l.map f) bare) H).2) (lay (.row (l.map f) bare) H).2 s l := by
  cases bare with
  | true =>
    have := hb rfl
    subst this
    exact ⟨⟨none, 0⟩, by simp [lay], rfl, fun j x hj => by simp at hj, fun p hp => by cases hp⟩
  | false =>
    refine ⟨⟨some ⟨(layL (l.map f) H).2.length, 0⟩, (layL (l.map f) H).1.length⟩, by simp only [lay, cond_false], by simp [layL_length], fun j x hj => ?_, fun p hp => ?_⟩
    case refine_2 => cases hp; exact ⟨(layL (l.map f) H).1, 1, by simp [lay], by simp⟩
    obtain ⟨v, h1, h2⟩ := lay_row f hmono hone l H j x hj
    exact ⟨_, (layL (l.map f) H).1, 1, v, rfl, by simp [lay], by simpa using h1, by simp only [lay, cond_false]; exact hmono _ _ _ _ h2⟩
theorem lay_ints (l : List Int) (bare : Bool) (hb : bare = true → l = []) (H : AH) : ∃ s, (lay (ints .i64 l bare) H).1 = .sl s ∧ Row (lay (ints .i64 l bare) H).2 s l :=
  lay_rowOf (R := fun _ v x => v = .int .i64 x) (fun n => .one (.int .i64 n)) (fun _ _ _ _ h => h) (fun x H => by simp [lay]) l bare hb H
theorem lay_rows (l : List (List Int × Bool)) (bare : Bool) (hb : bare = true → l = []) (hl : ∀ p ∈ l, p.2 = true → p.1 = []) (H : AH) : ∃ s, (lay (rows .i64 l bare) H).1 = .sl s ∧ Tab (lay (rows .i64 l bare) H).2 s (l.map (·.1)) := by
  obtain ⟨s, h1, h2⟩ := lay_rowOf (R := fun H v (x : List Int × Bool) => (x.2 = true → x.1 = []) → ∃ r, v = .sl r ∧ Row H r x.1) (fun p => ints .i64 p.1 p.2) (fun H E v x h hx => by
    obtain ⟨r, h1, h2⟩ := h hx; exact ⟨r, h1, RowOf.ext h2 E⟩) (fun x H hx => lay_ints x.1 x.2 hx H) l bare hb H
  refine ⟨s, h1, by simpa using h2.1, fun j x hj => ?_, h2.2.2⟩
  simp only [List.getElem?_map, Option.map_eq_some_iff] at hj
  obtain ⟨y, hy, rfl⟩ := hj
  obtain ⟨p, vs, sz, v, g1, g2, g3, g4⟩ := h2.2.1 j y hy
  exact ⟨p, vs, sz, v, g1, g2, g3, g4 (hl y (List.mem_of_getElem? hy))⟩
end Go.Ab
