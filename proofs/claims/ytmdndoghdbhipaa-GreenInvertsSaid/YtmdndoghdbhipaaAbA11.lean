/- Control: lists of what is to be done, by numbers; from a list's beginning to a function's end. -/
import Derived.Test.YtmdndoghdbhipaaAbA10
set_option linter.unusedSimpArgs false
set_option linter.unusedVariables false
namespace Go.Ab
open Go Go.RowKit

def csize : Code → Nat
  | .seq a b => csize a + csize b + 1
  | .cond _ a b => csize a + csize b + 1
  | .block _ b => csize b + 1
  | .loop b => csize b + 1
  | _ => 1
/-- The part of the code with this number (numbers in the order of the text). -/
def codeAt : Code → Nat → Option Code
  | c, 0 => some c
  | .seq a b, n + 1 => bif decide (n < csize a) then codeAt a n else codeAt b (n - csize a)
  | .cond _ a b, n + 1 => bif decide (n < csize a) then codeAt a n else codeAt b (n - csize a)
  | .block _ b, n + 1 => codeAt b n
  | .loop b, n + 1 => codeAt b n
  | _, _ + 1 => none

theorem csize_pos (c : Code) : 0 < csize c := by cases c <;> simp [csize]
theorem codeAt_add : ∀ (c : Code) (n : Nat) (d : Code), codeAt c n = some d → ∀ m, m < csize d → codeAt c (n + m) = codeAt d m ∧ n + m < csize c := by
  intro c
  induction c with
  | seq a b iha ihb =>
    intro n d h m hm
    cases n with
    | zero => simp only [codeAt, Option.some.injEq] at h; subst h; simpa using hm
    | succ n =>
      simp only [codeAt] at h
      by_cases hn : n < csize a
      · simp only [hn, decide_true, cond_true] at h
        obtain ⟨h1, h2⟩ := iha n d h m hm
        rw [show n + 1 + m = (n + m) + 1 by omega]
        simp only [codeAt, h2, decide_true, cond_true, csize]
        exact ⟨h1, by omega⟩
      · simp only [hn, decide_false, cond_false] at h
        obtain ⟨h1, h2⟩ := ihb _ d h m hm
        rw [show n + 1 + m = (n + m) + 1 by omega]
        have : ¬ n + m < csize a := by omega
        simp only [codeAt, this, decide_false, cond_false, csize]
        rw [show n + m - csize a = n - csize a + m by omega]
        exact ⟨h1, by omega⟩
  | cond x a b iha ihb =>
    intro n d h m hm
    cases n with
    | zero => simp only [codeAt, Option.some.injEq] at h; subst h; simpa using hm
    | succ n =>
      simp only [codeAt] at h
      by_cases hn : n < csize a
      · simp only [hn, decide_true, cond_true] at h
        obtain ⟨h1, h2⟩ := iha n d h m hm
        rw [show n + 1 + m = (n + m) + 1 by omega]
        simp only [codeAt, h2, decide_true, cond_true, csize]
        exact ⟨h1, by omega⟩
      · simp only [hn, decide_false, cond_false] at h
        obtain ⟨h1, h2⟩ := ihb _ d h m hm
        rw [show n + 1 + m = (n + m) + 1 by omega]
        have : ¬ n + m < csize a := by omega
        simp only [codeAt, this, decide_false, cond_false, csize]
        rw [show n + m - csize a = n - csize a + m by omega]
        exact ⟨h1, by omega⟩
  | block x b ihb =>
    intro n d h m hm
    cases n with
    | zero => simp only [codeAt, Option.some.injEq] at h; subst h; simpa using hm
    | succ n =>
      simp only [codeAt] at h
      obtain ⟨h1, h2⟩ := ihb _ d h m hm
      rw [show n + 1 + m = (n + m) + 1 by omega]
      simp only [codeAt, csize]
      exact ⟨h1, by omega⟩
  | loop b ihb =>
    intro n d h m hm
    cases n with
    | zero => simp only [codeAt, Option.some.injEq] at h; subst h; simpa using hm
    | succ n =>
      simp only [codeAt] at h
      obtain ⟨h1, h2⟩ := ihb _ d h m hm
      rw [show n + 1 + m = (n + m) + 1 by omega]
      simp only [codeAt, csize]
      exact ⟨h1, by omega⟩
  | _ =>
    intro n d h m hm
    cases n with
    | zero => simp only [codeAt, Option.some.injEq] at h; subst h; simpa using hm
    | succ n => simp [codeAt] at h

def itemAt (body : Code) : At → Option Item
  | .code n => (codeAt body n).map .code
  | .inBlock n => (match codeAt body n with | some (.block id _) => some (.inBlock id) | _ => none)
  | .inLoop n => (match codeAt body n with | some (.loop b) => some (.inLoop b) | _ => none)
def Its (body : Code) : List At → List Item → Prop
  | [], [] => True
  | x :: xs, y :: ys => itemAt body x = some y ∧ Its body xs ys
  | _, _ => False

def exitAt (body : Code) (id : Nat) : List At → Option (List At)
  | [] => none
  | .inBlock n :: k => (match codeAt body n with | some (.block id' _) => bif Nat.beq id' id then some k else exitAt body id k | _ => none)
  | _ :: k => exitAt body id k
/-- One step that does nothing but go on. -/
def adv (body : Code) : List At → Option (List At)
  | [] => none
  | .inBlock _ :: k => some k
  | .inLoop n :: k => some (.code (n + 1) :: .inLoop n :: k)
  | .code n :: k =>
    match codeAt body n with
    | some (.seq a _) => some (.code (n + 1) :: .code (n + 1 + csize a) :: k)
    | some .skip => some k
    | some (.block _ _) => some (.code (n + 1) :: .inBlock n :: k)
    | some (.loop _) => some (.code (n + 1) :: .inLoop n :: k)
    | some (.exit id) => exitAt body id k
    | _ => none
def normT (body : Code) : Nat → List At → List At
  | 0, t => t
  | f + 1, t => (match adv body t with | some t' => normT body f t' | none => t)

/-- From this list on the function comes to its end. -/
def TW (P : Program) (f : FuncId) (todo : List Item) (a : Act) (w : World) (R : Value → World → Prop) : Prop :=
  ∀ (b : Frame) (cs : List Frame), b.fn = f → b.kind = .normal → ∃ v w' fr, R v w' ∧ Go.Steps P (lone (b.at a todo) cs w) (lone fr cs w') ∧ fr.fn = f ∧ fr.leaving P w' (.returned v)

theorem TW.step {P : Program} {f : FuncId} {t t' : List Item} {a : Act} {w : World} {R : Value → World → Prop} (h : TW P f t' a w R) (hs : ∀ (b : Frame) (cs : List Frame), step P (lone (b.at a t) cs w) = .next (lone (b.at a t') cs w)) : TW P f t a w R :=
  fun b cs hb hk => let ⟨v, w', fr, h1, h2, h3⟩ := h b cs hb hk; ⟨v, w', fr, h1, .head (hs b cs) h2, h3⟩
theorem TW.mono {P : Program} {f : FuncId} {t : List Item} {a : Act} {w : World} {R R' : Value → World → Prop} (h : TW P f t a w R) (hr : ∀ v w', R v w' → R' v w') : TW P f t a w R' :=
  fun b cs hb hk => let ⟨v, w', fr, h1, h2⟩ := h b cs hb hk; ⟨v, w', fr, hr _ _ h1, h2⟩

theorem TW.region {P : Program} {f : FuncId} {id : Nat} {ops : Array Oper} {draw : Bool} {k : List Item} {a : Act} {w : World} {R : Value → World → Prop}
    (h : (Code.region id ops draw).wp P (fun e a' w' => e = .normal ∧ TW P f k a' w' R) a w) : TW P f (.code (.region id ops draw) :: k) a w R := by
  intro b cs hb hk
  obtain ⟨e, a', w', ⟨rfl, ht⟩, harr⟩ := h b k cs
  obtain ⟨v, w2, fr, h1, h2, h3⟩ := ht b cs hb hk
  exact ⟨v, w2, fr, h1, Go.Steps.trans harr h2, h3⟩

theorem TW.done {P : Program} {f : FuncId} {fn : Func} {t : List Item} {a : Act} {w : World} {R : Value → World → Prop} {v : Value} (ht : t = [] ∨ ∃ k, t = .code .ret :: k) (hf : P.funcs[f]? = some fn) (hd : a.defers = [])
    (hr : (results fn a.tmps).run P w = .ok v w) (hR : R v w) : TW P f t a w R := by
  intro b cs hb hk
  rcases ht with rfl | ⟨k, rfl⟩
  · exact ⟨v, w, { b.at a [] with mode := .returning }, hR, .one step_end, hb, rfl, hd, hk, fn, by rw [← hb] at hf; exact hf, hr⟩
  · exact ⟨v, w, { b.at a (.code .ret :: k) with mode := .returning }, hR, .one step_ret, hb, rfl, hd, hk, fn, by rw [← hb] at hf; exact hf, hr⟩

theorem Its.exit {body : Code} {id : Nat} : ∀ {xs xs' : List At} {ys : List Item}, Its body xs ys → exitAt body id xs = some xs' → ∃ ys', exitTo id ys = some ys' ∧ Its body xs' ys'
  | [], _, _, _, h => by simp [exitAt] at h
  | .inBlock n :: k, xs', [], hi, _ => hi.elim
  | .inBlock n :: k, xs', y :: ys, hi, h => by
    obtain ⟨h1, h2⟩ := hi
    simp only [exitAt] at h
    simp only [itemAt] at h1
    split at h
    · rename_i id' b' hc
      rw [hc] at h1
      simp only [Option.some.injEq] at h1
      subst h1
      cases hb : Nat.beq id' id
      · rw [hb] at h; simp only [cond_false] at h
        obtain ⟨ys', g1, g2⟩ := Its.exit h2 h
        have hne : (id' == id) = false := by
          cases he : id' == id
          · rfl
          · have : id' = id := by simpa using he
            subst this; simp at hb
        exact ⟨ys', by simp [exitTo, hne, g1], g2⟩
      · rw [hb] at h; simp only [cond_true, Option.some.injEq] at h
        subst h
        have : id' = id := Nat.eq_of_beq_eq_true hb
        subst this
        exact ⟨ys, by simp [exitTo], h2⟩
    · simp at h
  | .code n :: k, xs', [], hi, _ => hi.elim
  | .code n :: k, xs', y :: ys, hi, h => by
    obtain ⟨h1, h2⟩ := hi
    simp only [exitAt] at h
    obtain ⟨ys', g1, g2⟩ := Its.exit h2 h
    simp only [itemAt, Option.map_eq_some_iff] at h1
    obtain ⟨c, _, rfl⟩ := h1
    exact ⟨ys', by simp [exitTo, g1], g2⟩
  | .inLoop n :: k, xs', [], hi, _ => hi.elim
  | .inLoop n :: k, xs', y :: ys, hi, h => by
    obtain ⟨h1, h2⟩ := hi
    simp only [exitAt] at h
    obtain ⟨ys', g1, g2⟩ := Its.exit h2 h
    simp only [itemAt] at h1
    split at h1
    · simp only [Option.some.injEq] at h1; subst h1; exact ⟨ys', by simp [exitTo, g1], g2⟩
    · simp at h1

theorem adv_sound {P : Program} {f : FuncId} {body : Code} {xs xs' : List At} {a : Act} {w : World} {R : Value → World → Prop} (h : adv body xs = some xs') {ys : List Item} (hi : Its body xs ys) :
    ∃ ys', Its body xs' ys' ∧ (TW P f ys' a w R → TW P f ys a w R) := by
  cases xs with
  | nil => simp [adv] at h
  | cons x k =>
    cases ys with
    | nil => exact hi.elim
    | cons y ys =>
      obtain ⟨h1, h2⟩ := hi
      cases x with
      | inBlock n =>
        simp only [adv, Option.some.injEq] at h; subst h
        simp only [itemAt] at h1
        split at h1
        · simp only [Option.some.injEq] at h1; subst h1
          exact ⟨ys, h2, fun t => t.step fun b cs => step_inBlock⟩
        · simp at h1
      | inLoop n =>
        simp only [adv, Option.some.injEq] at h; subst h
        have h1' := h1
        simp only [itemAt] at h1
        split at h1
        · rename_i b' hc
          simp only [Option.some.injEq] at h1; subst h1
          have := (codeAt_add body n _ hc 1 (by simp [csize]; exact csize_pos _)).1
          exact ⟨.code b' :: .inLoop b' :: ys, ⟨by simp only [itemAt, this, codeAt]; rfl, h1', h2⟩, fun t => t.step fun b cs => step_inLoop⟩
        · simp at h1
      | code n =>
        simp only [itemAt, Option.map_eq_some_iff] at h1
        obtain ⟨c, hc, rfl⟩ := h1
        simp only [adv, hc] at h
        cases c <;> simp only [reduceCtorEq, Option.some.injEq] at h
        case skip => subst h; exact ⟨ys, h2, fun t => t.step fun b cs => step_skip⟩
        case seq p q =>
          subst h
          have e1 := (codeAt_add body n _ hc 1 (by simp [csize]; have := csize_pos p; omega)).1
          have e2 := (codeAt_add body n _ hc (1 + csize p) (by simp [csize]; have := csize_pos q; omega)).1
          rw [show n + (1 + csize p) = n + 1 + csize p by omega] at e2
          refine ⟨.code p :: .code q :: ys, ⟨?_, ?_, h2⟩, fun t => t.step fun b cs => step_seq⟩
          · simp only [itemAt, e1, codeAt]; simp [csize_pos p]
          · simp only [itemAt, e2]; rw [Nat.add_comm 1]; simp [codeAt]
        case block id b' =>
          subst h
          have e1 := (codeAt_add body n _ hc 1 (by simp [csize]; exact csize_pos _)).1
          refine ⟨.code b' :: .inBlock id :: ys, ⟨?_, by simp only [itemAt, hc], h2⟩, fun t => t.step fun b cs => step_block⟩
          simp only [itemAt, e1, codeAt]; rfl
        case loop b' =>
          subst h
          have e1 := (codeAt_add body n _ hc 1 (by simp [csize]; exact csize_pos _)).1
          refine ⟨.code b' :: .inLoop b' :: ys, ⟨?_, by simp only [itemAt, hc], h2⟩, fun t => t.step fun b cs => step_loop⟩
          simp only [itemAt, e1, codeAt]; rfl
        case exit id =>
          obtain ⟨ys', g1, g2⟩ := Its.exit h2 h
          exact ⟨ys', g2, fun t => t.step fun b cs => step_exit g1⟩

theorem norm_sound {P : Program} {f : FuncId} {body : Code} {a : Act} {w : World} {R : Value → World → Prop} : ∀ (n : Nat) {xs : List At} {ys : List Item}, Its body xs ys →
    ∃ ys', Its body (normT body n xs) ys' ∧ (TW P f ys' a w R → TW P f ys a w R) := by
  intro n
  induction n with
  | zero => intro xs ys hi; exact ⟨ys, hi, id⟩
  | succ n ih =>
    intro xs ys hi
    unfold normT
    cases ha : adv body xs with
    | none => exact ⟨ys, hi, id⟩
    | some xs' =>
      obtain ⟨ys1, h1, h2⟩ := adv_sound (P := P) (f := f) (a := a) (w := w) (R := R) ha hi
      obtain ⟨ys2, h3, h4⟩ := ih h1
      exact ⟨ys2, h3, fun t => h2 (h4 t)⟩
theorem Its.uniq {body : Code} : ∀ {xs : List At} {ys zs : List Item}, Its body xs ys → Its body xs zs → ys = zs
  | [], [], [], _, _ => rfl
  | x :: xs, y :: ys, z :: zs, ⟨h1, h2⟩, ⟨h3, h4⟩ => by rw [h1] at h3; cases h3; rw [Its.uniq h2 h4]
  | [], _ :: _, _, h, _ => h.elim
  | [], [], _ :: _, _, h => h.elim
  | _ :: _, [], _, h, _ => h.elim
  | _ :: _, _ :: _, [], _, h => h.elim
end Go.Ab
