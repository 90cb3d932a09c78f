/- Regions that draw their order. -/
import Derived.Test.YtmdndoghdbhipaaAbAD2
set_option linter.unusedSimpArgs false
set_option linter.unusedVariables false
namespace Go.Ab
open Go Go.RowKit

def compatB : Nat → Nat → Bool
  | 0, _ => true
  | _, 0 => true
  | 1, 1 => true
  | 1, 2 => true
  | 1, 3 => true
  | 2, 1 => true
  | 2, 2 => true
  | 2, 3 => true
  | 2, 4 => true
  | 2, 5 => true
  | 3, 1 => true
  | 4, 1 => true
  | _, _ => false
/-- p, which stands ahead of f, may as well come behind it. -/
def commB (p f : FOp) : Bool :=
  ((dl p.d).all fun x => !memN x f.looks && !memN x (dl f.d)) && ((dl f.d).all fun x => !memN x p.looks) && compatB p.cls f.cls

structure En where
  f : FOp
  m : Nat
def maskAt (i : Nat) : List En → Nat
  | [] => 0
  | e :: l => bif Nat.beq e.f.i i then e.m else maskAt i l
def hasI (i : Nat) : List En → Bool
  | [] => false
  | e :: l => bif Nat.beq e.f.i i then true else hasI i l
def maskOf (acc : List En) : List Edge → Nat
  | [] => 0
  | e :: l => bif Region.binds .any e then (2 ^ e.on ||| maskAt e.on acc) ||| maskOf acc l else maskOf acc l
def depsIn (acc : List En) : List Edge → Bool
  | [] => true
  | e :: l => (!Region.binds .any e || hasI e.on acc) && depsIn acc l
def allB (f : FOp) (m : Nat) : List En → Bool
  | [] => true
  | e :: l => (Nat.testBit m e.f.i || commB e.f f) && allB f m l
def chkOrd (ops : Array Oper) : List En → List FOp → Bool
  | _, [] => true
  | acc, f :: fs => (match ops[f.i]? with
    | some o => depsIn acc o.after.toList && !hasI f.i acc && allB f (maskOf acc o.after.toList) acc && chkOrd ops (⟨f, maskOf acc o.after.toList⟩ :: acc) fs
    | none => false)
def hasF (i : Nat) : List FOp → Bool
  | [] => false
  | f :: l => bif Nat.beq f.i i then true else hasF i l
def chkD (C : Ctx) (ops : Array Oper) (nt : Nat) (ss : Steps) : Bool :=
  chkS C ops nt none [] ss && chkF [] ss && chkOrd ops [] (ss.flat none) && (List.range ops.size).all (fun i => hasF i (ss.flat none))

inductive Rch (ops : Array Oper) : Nat → Nat → Prop where
  | dep (j : Nat) (o : Oper) (e : Edge) (h : ops[j]? = some o) (he : e ∈ o.after.toList) (hb : Region.binds .any e = true) : Rch ops e.on j
  | far (i j : Nat) (o : Oper) (e : Edge) (h : ops[j]? = some o) (he : e ∈ o.after.toList) (hb : Region.binds .any e = true) (r : Rch ops i e.on) : Rch ops i j

theorem hasI_some {i : Nat} : ∀ {acc : List En}, hasI i acc = true → ∃ e ∈ acc, e.f.i = i
  | [], h => by simp [hasI] at h
  | e :: l, h => by
    unfold hasI at h
    cases hb : Nat.beq e.f.i i
    · rw [hb] at h; obtain ⟨x, hx, hi⟩ := hasI_some h; exact ⟨x, by simp [hx], hi⟩
    · exact ⟨e, by simp, Nat.eq_of_beq_eq_true hb⟩
theorem hasI_none {i : Nat} : ∀ {acc : List En}, hasI i acc = false → ∀ e ∈ acc, e.f.i ≠ i
  | [], _, e, he => by simp at he
  | x :: l, h, e, he => by
    unfold hasI at h
    cases hb : Nat.beq x.f.i i
    · rw [hb] at h
      rcases List.mem_cons.1 he with rfl | he
      · intro e'; subst e'; simp at hb
      · exact hasI_none h e he
    · rw [hb] at h; simp at h
theorem maskAt_some {i j : Nat} : ∀ {acc : List En}, Nat.testBit (maskAt i acc) j = true → ∃ e ∈ acc, e.f.i = i ∧ Nat.testBit e.m j = true
  | [], h => by simp [maskAt] at h
  | e :: l, h => by
    unfold maskAt at h
    cases hb : Nat.beq e.f.i i
    · rw [hb] at h; obtain ⟨x, hx, h1, h2⟩ := maskAt_some h; exact ⟨x, by simp [hx], h1, h2⟩
    · rw [hb] at h; exact ⟨e, by simp, Nat.eq_of_beq_eq_true hb, h⟩
theorem maskOf_some {acc : List En} {j : Nat} : ∀ {l : List Edge}, Nat.testBit (maskOf acc l) j = true → ∃ e ∈ l, Region.binds .any e = true ∧ (e.on = j ∨ Nat.testBit (maskAt e.on acc) j = true)
  | [], h => by simp [maskOf] at h
  | e :: l, h => by
    unfold maskOf at h
    cases hb : Region.binds .any e
    · rw [hb] at h; obtain ⟨x, hx, h1⟩ := maskOf_some h; exact ⟨x, by simp [hx], h1⟩
    · rw [hb, cond_true, Nat.testBit_or, Nat.testBit_or, Nat.testBit_two_pow, Bool.or_eq_true, Bool.or_eq_true] at h
      rcases h with (h | h) | h
      · exact ⟨e, by simp, hb, .inl (of_decide_eq_true h)⟩
      · exact ⟨e, by simp, hb, .inr h⟩
      · obtain ⟨x, hx, h1⟩ := maskOf_some h; exact ⟨x, by simp [hx], h1⟩
theorem depsIn_some {acc : List En} : ∀ {l : List Edge}, depsIn acc l = true → ∀ e ∈ l, Region.binds .any e = true → ∃ x ∈ acc, x.f.i = e.on
  | [], _, e, he, _ => by simp at he
  | y :: l, h, e, he, hb => by
    simp only [depsIn, Bool.and_eq_true, Bool.or_eq_true, Bool.not_eq_true'] at h
    rcases List.mem_cons.1 he with rfl | he
    · rcases h.1 with h1 | h1
      · rw [hb] at h1; cases h1
      · exact hasI_some h1
    · exact depsIn_some h.2 e he hb
theorem allB_some {f : FOp} {m : Nat} : ∀ {acc : List En}, allB f m acc = true → ∀ e ∈ acc, Nat.testBit m e.f.i = true ∨ commB e.f f = true
  | [], _, e, he => by simp at he
  | y :: l, h, e, he => by
    simp only [allB, Bool.and_eq_true, Bool.or_eq_true] at h
    rcases List.mem_cons.1 he with rfl | he
    · exact h.1
    · exact allB_some h.2 e he

structure OrdAt (ops : Array Oper) (F : List FOp) : Prop where
  pair : ∀ (q p : Nat) (f g : FOp), F[q]? = some f → F[p]? = some g → p < q → (Rch ops g.i f.i ∨ commB g f = true) ∧ g.i ≠ f.i
  deps : ∀ (q : Nat) (f : FOp) (o : Oper) (e : Edge), F[q]? = some f → ops[f.i]? = some o → e ∈ o.after.toList → Region.binds .any e = true → ∃ (p : Nat) (g : FOp), p < q ∧ F[p]? = some g ∧ g.i = e.on

theorem chkOrd_spec {ops : Array Oper} : ∀ (fs : List FOp) (acc : List En), (∀ e ∈ acc, ∀ i, Nat.testBit e.m i = true → Rch ops i e.f.i) → chkOrd ops acc fs = true →
    ∀ (q : Nat) (f : FOp), fs[q]? = some f → (∀ e ∈ acc, (Rch ops e.f.i f.i ∨ commB e.f f = true) ∧ e.f.i ≠ f.i) ∧ (∀ (p : Nat) (g : FOp), fs[p]? = some g → p < q → (Rch ops g.i f.i ∨ commB g f = true) ∧ g.i ≠ f.i) ∧
      ∀ (o : Oper) (e : Edge), ops[f.i]? = some o → e ∈ o.after.toList → Region.binds .any e = true → (∃ x ∈ acc, x.f.i = e.on) ∨ ∃ (p : Nat) (g : FOp), p < q ∧ fs[p]? = some g ∧ g.i = e.on
  | [], _, _, _, q, f, h => by simp at h
  | f0 :: fs, acc, hm, hc, q, f, hq => by
    simp only [chkOrd] at hc
    split at hc
    · rename_i o ho
      simp only [Bool.and_eq_true, Bool.not_eq_true'] at hc
      obtain ⟨⟨⟨h1, h2⟩, h3⟩, h4⟩ := hc
      have hmask : ∀ i, Nat.testBit (maskOf acc o.after.toList) i = true → Rch ops i f0.i := fun i hi => by
        obtain ⟨e, he, hb, hh⟩ := maskOf_some hi
        rcases hh with rfl | hh
        · exact .dep _ o e ho he hb
        · obtain ⟨x, hx, hxi, hxm⟩ := maskAt_some hh
          have := hm x hx i hxm
          rw [hxi] at this
          exact .far i _ o e ho he hb this
      cases q with
      | zero =>
        simp only [List.getElem?_cons_zero, Option.some.injEq] at hq
        subst hq
        refine ⟨fun e he => ⟨?_, hasI_none h2 e he⟩, fun p g _ hp => absurd hp (by omega), fun o' e ho' he hb => ?_⟩
        · rcases allB_some h3 e he with h | h
          · exact .inl (hmask _ h)
          · exact .inr h
        · rw [ho] at ho'; cases ho'
          exact .inl (depsIn_some h1 e he hb)
      | succ q =>
        obtain ⟨g1, g2, g3⟩ := chkOrd_spec fs (⟨f0, maskOf acc o.after.toList⟩ :: acc) (fun e he => by
          rcases List.mem_cons.1 he with rfl | he
          · exact hmask
          · exact hm e he) h4 q f (by simpa using hq)
        refine ⟨fun e he => g1 e (by simp [he]), fun p g hp hpq => ?_, fun o' e ho' he hb => ?_⟩
        · cases p with
          | zero => simp only [List.getElem?_cons_zero, Option.some.injEq] at hp; subst hp; exact g1 _ (List.mem_cons_self ..)
          | succ p => exact g2 p g (by simpa using hp) (by omega)
        · rcases g3 o' e ho' he hb with ⟨x, hx, hxi⟩ | ⟨p, g, h5, h6, h7⟩
          · rcases List.mem_cons.1 hx with rfl | hx
            · exact .inr ⟨0, f0, by omega, rfl, hxi⟩
            · exact .inl ⟨x, hx, hxi⟩
          · exact .inr ⟨p + 1, g, by omega, by simpa using h6, h7⟩
    · simp at hc
theorem ordAt_of {ops : Array Oper} {F : List FOp} (h : chkOrd ops [] F = true) : OrdAt ops F :=
  ⟨fun q p f g hq hp hpq => ((chkOrd_spec F [] (fun e he => by simp at he) h q f hq).2.1 p g hp hpq), fun q f o e hq ho he hb => by
    rcases (chkOrd_spec F [] (fun e he => by simp at he) h q f hq).2.2 o e ho he hb with ⟨x, hx, _⟩ | h
    · simp at hx
    · exact h⟩

/-- Each operation of the flat list was checked. -/
structure FChk (C : Ctx) (ops : Array Oper) (nt : Nat) (f : FOp) (o : Oper) : Prop where
  at_ : ops[f.i]? = some o
  dst : o.dst = f.d
  lt : dstB nt f.d = true
  grd : guardB ops o f.g = true
  kind : match f.k with | .op io => chkOp C o.op io = true | .pick gt want px => pickB C.fids o.op gt want px = true
theorem flat_chk {C : Ctx} {ops : Array Oper} {nt : Nat} : ∀ (ss : Steps) (g : GC) (seen : List Nat), chkS C ops nt g seen ss = true → ∀ f ∈ ss.flat g, ∃ o, FChk C ops nt f o
  | .nil, _, _, _, f, hf => by simp [Steps.flat] at hf
  | .chk _ r, g, seen, h, f, hf => by unfold chkS at h; exact flat_chk r g seen h f hf
  | .op i d io r, g, seen, h, f, hf => by
    unfold chkS at h
    split at h
    · rename_i o hi
      simp only [Bool.and_eq_true, decide_eq_true_eq] at h
      obtain ⟨⟨⟨⟨⟨h1, h2⟩, h3⟩, h4⟩, h5⟩, h6⟩ := h
      rcases List.mem_cons.1 hf with rfl | hf
      · exact ⟨o, hi, h2, h3, h4, h1⟩
      · exact flat_chk r g _ h6 f hf
    · simp at h
  | .grp gt want inner i pd px r, g, seen, h, f, hf => by
    unfold chkS at h
    split at h
    · rename_i o hi
      simp only [Bool.and_eq_true, decide_eq_true_eq, Bool.or_eq_true, Bool.not_eq_true'] at h
      obtain ⟨⟨⟨⟨⟨⟨⟨⟨h1, h2⟩, h3⟩, h4⟩, h5⟩, h6⟩, h7⟩, h8⟩, h9⟩ := h
      rcases List.mem_append.1 hf with hf | hf
      · exact flat_chk inner _ _ h8 f hf
      · rcases List.mem_cons.1 hf with rfl | hf
        · exact ⟨o, hi, h2, by simpa [dstB] using h3, h4, h1⟩
        · exact flat_chk r g _ h9 f hf
    · simp at h
end Go.Ab
