/- Calls; the check of any operation, and its soundness. -/
import Derived.Test.YtmdndoghdbhipaaAbAK
set_option linter.unusedSimpArgs false
set_option linter.unusedVariables false
namespace Go.Ab
open Go Go.RowKit

/-- A call goes in steps: first the call, then what follows. -/
def CallSplit (call : CallT) : Prop := ∀ (ρ : Type) (g : Nat) (args : List AV) (lo : Nat) (H : AH) (κ : AV → AH → Option ρ) (r : ρ), call ρ g args lo H κ = some r →
  ∃ v H', (∀ (ρ' : Type) (κ' : AV → AH → Option ρ'), call ρ' g args lo H κ' = κ' v H') ∧ κ v H' = some r
def CallOK (C : Ctx) (call : CallT) : Prop := ∀ (g f : Nat) (args : List AV) (cargs : List Value) (lo : Nat) (H : AH) (v : AV) (H' : AH) (w : World) (μ : MU), C.fids[g]? = some f →
  call PV g args lo H pr = some (v, H') → C.lo0 ≤ lo → lo ≤ H.length → VRs C.fids μ args cargs → HR C μ H w → Calls C.P f cargs.toArray w fun e w' => ∃ c, e = .returned c ∧ Done C μ H w v H' c w'
/-- The functions have bodies. -/
def FnsOK (C : Ctx) : Prop := ∀ (g f : Nat), C.fids[g]? = some f → ∃ fn, C.P.funcs[f]? = some fn ∧ (fn.name == "runtime.NumGoroutine") = false ∧ fn.body.isNone = false

section
variable {C : Ctx} {o : Oper} {a : Act} {w : World} {μ : MU} {H H' : AH} {σ : Env} {v : AV} {lo : Nat} {call : CallT}

theorem callFunc_run (hF : FnsOK C) {g f : Nat} (hg : C.fids[g]? = some f) (args : Array Value) : (callFunc f args).run C.P w = .ok (.enter f args) w := by
  obtain ⟨fn, h1, h2, h3⟩ := hF g f hg
  simp only [callFunc, Sem.run_bind, run_program, Result.andThen_ok, h1, h2, h3, Bool.false_eq_true, if_false, Sem.run_pure]

theorem wp_call {K : Act → World → Prop} {Q : Exit → Act → World → Prop} (hF : FnsOK C) (hC : CallOK C call) {g f : Nat} {args : List AV} {cargs : List Value} {lo' : Nat} (hg : C.fids[g]? = some f)
    (he : (execOp a.eval o).run C.P w = .ok (.enter f cargs.toArray) w) (hcall : call PV g args lo' H pr = some (v, H')) (hlo : C.lo0 ≤ lo') (hle : lo' ≤ H.length) (hv : VRs C.fids μ args cargs) (hH : HR C μ H w)
    (hk : ∀ c w', Done C μ H w v H' c w' → K (a.put o.dst c) w') : Oper.wp C.P o a w K Q := by
  unfold Oper.wp
  rw [he, Oper.upon_enter]
  refine (hC g f args cargs lo' H v H' w μ hg hcall hlo hle hv hH).mono fun e w' ⟨c, hc, hd⟩ => ?_
  subst hc
  exact hk c w' hd

theorem op_call {K : Act → World → Prop} {Q : Exit → Act → World → Prop} (hF : FnsOK C) (hC : CallOK C call) (hS : CallSplit call) {f g : FuncId} {xs : Array Operand} {ys : List Opd} {ats : Array TypeId} {fresh : Bool} {rt : Ty}
    (hop : o.op = .call ⟨.value (.func f), xs, ats⟩) (hg : C.fids[g]? = some f) (hx : chkOpds C.fids xs.toList ys = true) (hlo : C.lo0 ≤ lo) (hle : lo ≤ H.length)
    (h : evOp call lo (.call g ys fresh rt) σ H pr = some (v, H')) (hσ : ER C.fids μ σ a) (hH : HR C μ H w) (hk : ∀ c w', Done C μ H w v H' c w' → K (a.put o.dst c) w') : Oper.wp C.P o a w K Q := by
  simp only [evOp] at h
  obtain ⟨v', H1, hc, h⟩ := hS _ _ _ _ _ _ _ h
  have h := castTy_some h
  obtain ⟨g1, g2⟩ := pr_inj h
  subst g1; subst g2
  refine wp_call hF hC hg (cargs := xs.toList.map a.eval) ?_ (hc PV pr) ?_ ?_ (chkOpds_sound hx hσ) hH hk
  · have : (xs.toList.map a.eval).toArray = xs.map a.eval := by apply Array.ext'; simp
    rw [this]
    have := callFunc_run (w := w) hF hg (xs.map a.eval)
    simp [execOp, hop, resolve, Act.eval, Deferred.ofValue, invoke, this]
  · cases fresh
    · exact hlo
    · exact hH.low
  · cases fresh
    · exact hle
    · exact Nat.le_refl _

theorem op_callv {K : Act → World → Prop} {Q : Exit → Act → World → Prop} (hF : FnsOK C) (hC : CallOK C call) (hS : CallSplit call) {x : Operand} {x' : Opd} {xs : Array Operand} {ys : List Opd} {ats : Array TypeId} {fresh : Bool} {rt : Ty}
    (hop : o.op = .call ⟨.value x, xs, ats⟩) (hx0 : chkOpd C.fids x x' = true) (hx : chkOpds C.fids xs.toList ys = true) (hlo : C.lo0 ≤ lo) (hle : lo ≤ H.length)
    (h : evOp call lo (.callv x' ys fresh rt) σ H pr = some (v, H')) (hσ : ER C.fids μ σ a) (hH : HR C μ H w) (hk : ∀ c w', Done C μ H w v H' c w' → K (a.put o.dst c) w') : Oper.wp C.P o a w K Q := by
  simp only [evOp] at h
  have vx := chkOpd_sound hx0 hσ
  split at h
  · rename_i g caps hgc
    rw [hgc] at vx
    obtain ⟨f, cs, hex, hg, hcs⟩ : ∃ f cs, a.eval x = .func (.func f) #[] cs ∧ C.fids[g]? = some f ∧ VRs C.fids μ caps cs.toList := by
      generalize a.eval x = z at vx
      cases vx with
      | clo g f caps cs hf hc => exact ⟨f, _, rfl, hf, by simpa using hc⟩
    obtain ⟨v', H1, hc, h⟩ := hS _ _ _ _ _ _ _ h
    have h := castTy_some h
    obtain ⟨g1, g2⟩ := pr_inj h
    subst g1; subst g2
    refine wp_call hF hC hg (cargs := xs.toList.map a.eval ++ cs.toList) ?_ (hc PV pr) ?_ ?_ ((chkOpds_sound hx hσ).append hcs) hH hk
    · have e1 : (xs.toList.map a.eval ++ cs.toList).toArray = xs.map a.eval ++ cs := by apply Array.ext'; simp
      rw [e1]
      have := callFunc_run (w := w) hF hg (xs.map a.eval ++ cs)
      simp [execOp, hop, resolve, hex, Deferred.ofValue, invoke, this]
    · cases fresh
      · exact hlo
      · exact hH.low
    · cases fresh
      · exact hle
      · exact Nat.le_refl _
  · simp at h

theorem op_mkf {f g : Nat} {xs : Array Operand} {ys : List Opd} (hop : o.op = .makeFunc (.func f) #[] xs) (hg : C.fids[g]? = some f) (hx : chkOpds C.fids xs.toList ys = true)
    (h : evOp call lo (.mkf g ys) σ H pr = some (v, H')) (hσ : ER C.fids μ σ a) (hH : HR C μ H w) : Runs C o a w (Done C μ H w v H') := by
  simp only [evOp] at h
  obtain ⟨g1, g2⟩ := pr_inj h
  subst g1; subst g2
  have hv := chkOpds_sound hx hσ
  refine Runs.value (c := .func (.func f) #[] (xs.map a.eval)) (w' := w) (by simp [execOp, hop, Instr.makeFunc]) (done_same hH ?_)
  have := VR.clo (fids := C.fids) (μ := μ) g f _ _ hg hv
  have e1 : (xs.toList.map a.eval).toArray = xs.map a.eval := by apply Array.ext'; simp
  rw [e1] at this; exact this

theorem op_nilck {x : Operand} {x' : Opd} (hop : o.op = .nilCheck x) (hx : chkOpd C.fids x x' = true)
    (h : evOp call lo (.nilck x') σ H pr = some (v, H')) (hσ : ER C.fids μ σ a) (hH : HR C μ H w) : Runs C o a w (Done C μ H w v H') := by
  simp only [evOp] at h
  obtain ⟨p, hp, h⟩ := asP_some h
  obtain ⟨g1, g2⟩ := pr_inj h
  subst g1; subst g2
  have vx := chkOpd_sound hx hσ
  rw [hp] at vx
  obtain ⟨e, hex, he⟩ := vx.ptr_inv
  rw [hex] at vx
  exact Runs.value (c := .pointer (some ⟨e.B, e.o + p.o, none⟩)) (by simp [execOp, hop, hex]) (done_same hH vx)
end

/-! ### The check -/
def chkOp (C : Ctx) (op : Op) : IOp → Bool
  | .mkm r' => (match op with
    | .makeMap t r => (mapB C.P t).isSome && (match r, r' with | none, none => true | some x, some y => chkOpd C.fids x y | _, _ => false)
    | _ => false)
  | .look st _ z x' y' ok' => (match op with
    | .lookup t x y ok => (match mapB C.P t with
      | some (kt, et) => decide (ok = ok') && keyB C.P st kt && (match zeroB C.P et with | some zc => chkV zc z | none => false) && chkOpd C.fids x x' && chkOpd C.fids y y'
      | none => false)
    | _ => false)
  | .mupd st x' y' u' => (match op with
    | .mapUpdate t x y u => (match mapB C.P t with | some (kt, _) => keyB C.P st kt && chkOpd C.fids x x' && chkOpd C.fids y y' && chkOpd C.fids u u' | none => false)
    | .insert t x y u => (match mapB C.P t with | some (kt, _) => keyB C.P st kt && chkOpd C.fids x x' && chkOpd C.fids y y' && chkOpd C.fids u u' | none => false)
    | _ => false)
  | .lenm x' => (match op with
    | .call ⟨.builtin .len, xs, ats⟩ => (match xs.toList, ats[0]? with | [x], some t => (mapB C.P t).isSome && chkOpd C.fids x x' | _, _ => false)
    | _ => false)
  | .pf f ys => chkPF C.P C.fids op f ys
  | .mov y => (match op with
    | .move x => chkOpd C.fids x y
    | .assign x => chkOpd C.fids x y
    | _ => false)
  | .bin b' _ x' y' => (match op with
    | .binOp b _ x y _ => decide (b = b') && okBin b && chkOpd C.fids x x' && chkOpd C.fids y y'
    | _ => false)
  | .beq neg x' y' => (match op with
    | .binOp b t x y _ => decide (b = bif neg then .neq else .eql) && (match C.P.underlying t with | some .bool => true | _ => false) && chkOpd C.fids x x' && chkOpd C.fids y y'
    | _ => false)
  | .not x' => (match op with
    | .unOp u _ x => decide (u = .not) && chkOpd C.fids x x'
    | _ => false)
  | .conv _ k' x' => (match op with
    | .convert s d x => (C.P.underlying s).isSome && (match C.P.underlying d with | some (.int k) => decide (k = k') | _ => false) && chkOpd C.fids x x'
    | _ => false)
  | .ld t1 x' => (match op with
    | .load t x => chkT1 C.P t t1 && chkOpd C.fids x x'
    | _ => false)
  | .st n x' y' => (match op with
    | .store t x y => decide (sizeB C.P t = some (n.getD 1)) && chkOpd C.fids x x' && chkOpd C.fids y y'
    | _ => false)
  | .fadr x' off => (match op with
    | .fieldAddr s x f => (match fieldB C.P s f with
      | some fd => decide (fd.offset = off) && (match sizeB C.P fd.type with | some n => decide (n ≠ 0) | none => false) && chkOpd C.fids x x'
      | none => false)
    | _ => false)
  | .fld x' off n => (match op with
    | .field s x f => (match fieldB C.P s f with
      | some fd => decide (fd.offset = off) && (match n with | none => decide (isAggB C.P fd.type = some false) | some n => decide (isAggB C.P fd.type = some true) && decide (sizeB C.P fd.type = some n)) && chkOpd C.fids x x'
      | none => false)
    | _ => false)
  | .iadr x' y' sz => (match op with
    | .indexAddr t x y => (match sliceB C.P t with
      | some e => decide (sizeB C.P e = some sz) && chkOpd C.fids x x' && chkOpd C.fids y y'
      | none => false)
    | _ => false)
  | .aadr x' y' len sz => (match op with
    | .indexAddr t x y => (match arrayB C.P t with
      | some (n, e) => decide (n = len) && decide (sizeB C.P e = some sz) && chkOpd C.fids x x' && chkOpd C.fids y y'
      | none => false)
    | _ => false)
  | .alloc zs => (match op with
    | .alloc t => (match zeroB C.P t with | some z => chkVs z.cells.toList zs | none => false)
    | _ => false)
  | .box _ x' => (match op with
    | .box _ x => chkOpd C.fids x x'
    | _ => false)
  | .bld zs qs => (match op with
    | .build t ps => (match zeroB C.P t with | some z => chkVs z.cells.toList zs | none => false) &&
      (match placesB C.P t with
      | some pl => allSized C.P t && chkParts C.fids (pl[·]?) ps.toList qs
      | none => (match arrayB C.P t with
        | some (_, e) => (match sizeB C.P e with | some sz => chkParts C.fids (fun i => some (i * sz, sz)) ps.toList qs | none => false)
        | none => false))
    | _ => false)
  | .bsl sz zs len qs => (match op with
    | .buildSlice t n ps => (match sliceB C.P t with
      | some e => decide (n = len) && decide (sizeB C.P e = some sz) && decide (len * sz ≤ 16777216 ∧ 0 < sz) &&
        (match zeroB C.P e with | some z => chkVs ((Array.range (len * sz)).map (z.cells[· % z.cells.size]!)).toList zs | none => false) && chkParts C.fids (fun i => some (i * sz, sz)) ps.toList qs
      | none => false)
    | _ => false)
  | .mksl zs bytes x' y' => (match op with
    | .makeSlice t x y => (match sliceB C.P t with
      | some e => decide (bytesB C.P e = some bytes) && decide (bytes ≠ 0) && decide (sizeB C.P e = some zs.length) && decide (zs.length ≠ 0) &&
        (match zeroB C.P e with | some z => chkVs z.cells.toList zs | none => false) && chkOpd C.fids x x' && chkOpd C.fids y y'
      | none => false)
    | _ => false)
  | .len x' => (match op with
    | .call ⟨.builtin .len, xs, ats⟩ => (match xs.toList, ats[0]? with | [x], some t => (sliceB C.P t).isSome && chkOpd C.fids x x' | _, _ => false)
    | _ => false)
  | .lens x' => (match op with
    | .call ⟨.builtin .len, xs, ats⟩ => (match xs.toList, ats[0]? with | [x], some t => (match C.P.underlying t with | some .string => true | _ => false) && chkOpd C.fids x x' | _, _ => false)
    | _ => false)
  | .app sz bytes x' y' => (match op with
    | .call ⟨.builtin .append, xs, ats⟩ => (match xs.toList, ats[0]?, ats[1]? with
      | [x, y], some t, some t2 => (match sliceB C.P t with
        | some e => (sliceB C.P t2).isSome && decide (sizeB C.P e = some sz) && decide (bytesB C.P e = some bytes) && decide (bytes ≠ 0) &&
          (match zeroB C.P e with | some z => decide (z.cells.size = sz ∧ 0 < sz) | none => false) && chkOpd C.fids x x' && chkOpd C.fids y y'
        | none => false)
      | _, _, _ => false)
    | _ => false)
  | .ext x' j => (match op with
    | .extract x i => decide (i = j) && chkOpd C.fids x x'
    | _ => false)
  | .call g ys _ _ => (match op with
    | .call ⟨.value (.func f), xs, _⟩ => decide (C.fids[g]? = some f) && chkOpds C.fids xs.toList ys
    | _ => false)
  | .callv x' ys _ _ => (match op with
    | .call ⟨.value x, xs, _⟩ => chkOpd C.fids x x' && chkOpds C.fids xs.toList ys
    | _ => false)
  | .mkf g ys => (match op with
    | .makeFunc (.func f) first xs => decide (C.fids[g]? = some f) && decide (first.toList.length = 0) && chkOpds C.fids xs.toList ys
    | _ => false)
  | .nilck x' => (match op with
    | .nilCheck x => chkOpd C.fids x x'
    | _ => false)

theorem toList_one {α : Type} {xs : Array α} {x : α} (h : xs.toList = [x]) : xs = #[x] := by cases xs; simp at h; subst h; rfl
theorem toList_two {α : Type} {xs : Array α} {x y : α} (h : xs.toList = [x, y]) : xs = #[x, y] := by cases xs; simp at h; subst h; rfl

theorem op_sound {C : Ctx} {o : Oper} {a : Act} {w : World} {μ : MU} {H H' : AH} {σ : Env} {v : AV} {lo : Nat} {call : CallT} {io : IOp} {K : Act → World → Prop} {Q : Exit → Act → World → Prop} (hF : FnsOK C) (hC : CallOK C call) (hS : CallSplit call)
    (hlo : C.lo0 ≤ lo) (hle : lo ≤ H.length) (hc : chkOp C o.op io = true) (h : evOp call lo io σ H pr = some (v, H')) (hσ : ER C.fids μ σ a) (hH : HR C μ H w) (hk : ∀ c w', Done C μ H w v H' c w' → K (a.put o.dst c) w') : Oper.wp C.P o a w K Q := by
  cases io <;> simp only [chkOp] at hc
  case mkm r' =>
    split at hc
    · rename_i t r hop
      simp only [Bool.and_eq_true] at hc
      obtain ⟨h1, h2⟩ := hc
      obtain ⟨⟨k, e⟩, h1⟩ := Option.isSome_iff_exists.1 h1
      refine (op_mkm hop h1 ?_ h hσ hH).wp hk
      cases r <;> cases r' <;> simp_all
    · simp at hc
  case look st l z x' y' ok' =>
    split at hc
    · rename_i t x y ok hop
      split at hc
      · rename_i kt et ht
        simp only [Bool.and_eq_true, decide_eq_true_eq] at hc
        obtain ⟨⟨⟨⟨rfl, h1⟩, h2⟩, h3⟩, h4⟩ := hc
        split at h2
        · rename_i zc hz; exact (op_look hop ht h1 hz h2 h3 h4 h hσ hH).wp hk
        · simp at h2
      · simp at hc
    · simp at hc
  case mupd st x' y' u' =>
    split at hc
    · rename_i t x y u hop
      split at hc
      · rename_i kt et ht
        simp only [Bool.and_eq_true] at hc
        exact (op_mupd (.inl hop) ht hc.1.1.1 hc.1.1.2 hc.1.2 hc.2 hlo h hσ hH).wp hk
      · simp at hc
    · rename_i t x y u hop
      split at hc
      · rename_i kt et ht
        simp only [Bool.and_eq_true] at hc
        exact (op_mupd (.inr hop) ht hc.1.1.1 hc.1.1.2 hc.1.2 hc.2 hlo h hσ hH).wp hk
      · simp at hc
    · simp at hc
  case lenm x' =>
    split at hc
    · rename_i xs ats hop
      split at hc
      · rename_i x t hx ht
        simp only [Bool.and_eq_true] at hc
        rw [toList_one hx] at hop
        obtain ⟨⟨k, e⟩, h1⟩ := Option.isSome_iff_exists.1 hc.1
        exact (op_lenm hop ht h1 hc.2 h hσ hH).wp hk
      · simp at hc
    · simp at hc
  case pf f ys => exact (op_pf hc h hσ hH).wp hk
  case mov y =>
    split at hc
    · rename_i x hop; exact (op_mov (.inl hop) hc h hσ hH).wp hk
    · rename_i x hop; exact (op_mov (.inr hop) hc h hσ hH).wp hk
    · simp at hc
  case bin b' k x' y' =>
    split at hc
    · rename_i b t x y t' hop
      simp only [Bool.and_eq_true, decide_eq_true_eq] at hc
      exact (op_bin hop hc.1.1.1 hc.1.1.2 hc.1.2 hc.2 h hσ hH).wp hk
    · simp at hc
  case beq neg x' y' =>
    split at hc
    · rename_i b t x y t' hop
      simp only [Bool.and_eq_true, decide_eq_true_eq] at hc
      obtain ⟨⟨⟨h1, h2⟩, h3⟩, h4⟩ := hc
      have ht : C.P.underlying t = some .bool := by split at h2; assumption; simp at h2
      exact (op_beq hop h1 ht h3 h4 h hσ hH).wp hk
    · simp at hc
  case not x' =>
    split at hc
    · rename_i u t x hop
      simp only [Bool.and_eq_true, decide_eq_true_eq] at hc
      obtain ⟨rfl, h2⟩ := hc
      exact (op_not hop h2 h hσ hH).wp hk
    · simp at hc
  case conv k k' x' =>
    split at hc
    · rename_i s d x hop
      simp only [Bool.and_eq_true] at hc
      obtain ⟨⟨h1, h2⟩, h3⟩ := hc
      have hd : C.P.underlying d = some (.int k') := by
        split at h2
        · rename_i kk hkk; simp at h2; subst h2; exact hkk
        · simp at h2
      exact (op_conv hop h1 hd h3 h hσ hH).wp hk
    · simp at hc
  case ld t1 x' =>
    split at hc
    · rename_i t x hop
      simp only [Bool.and_eq_true] at hc
      exact (op_ld hop hc.1 hc.2 h hσ hH).wp hk
    · simp at hc
  case st n x' y' =>
    split at hc
    · rename_i t x y hop
      simp only [Bool.and_eq_true, decide_eq_true_eq] at hc
      exact (op_st hop hc.1.1 hc.1.2 hc.2 hlo h hσ hH).wp hk
    · simp at hc
  case fadr x' off =>
    split at hc
    · rename_i s x f hop
      split at hc
      · rename_i fd hfd
        simp only [Bool.and_eq_true, decide_eq_true_eq] at hc
        obtain ⟨⟨h1, h2⟩, h3⟩ := hc
        split at h2
        · rename_i n hn
          exact (op_fadr hop hfd h1 hn (of_decide_eq_true h2) h3 h hσ hH).wp hk
        · simp at h2
      · simp at hc
    · simp at hc
  case fld x' off n =>
    split at hc
    · rename_i s x f hop
      split at hc
      · rename_i fd hfd
        simp only [Bool.and_eq_true, decide_eq_true_eq] at hc
        obtain ⟨⟨h1, h2⟩, h3⟩ := hc
        refine (op_fld hop hfd h1 ?_ h3 h hσ hH).wp hk
        cases n with
        | none => simpa using h2
        | some n => simpa using h2
      · simp at hc
    · simp at hc
  case iadr x' y' sz =>
    split at hc
    · rename_i t x y hop
      split at hc
      · rename_i e he
        simp only [Bool.and_eq_true, decide_eq_true_eq] at hc
        exact (op_iadr hop he hc.1.1 hc.1.2 hc.2 h hσ hH).wp hk
      · simp at hc
    · simp at hc
  case aadr x' y' len sz =>
    split at hc
    · rename_i t x y hop
      split at hc
      · rename_i n e he
        simp only [Bool.and_eq_true, decide_eq_true_eq] at hc
        obtain ⟨⟨⟨rfl, h1⟩, h2⟩, h3⟩ := hc
        exact (op_aadr hop he h1 h2 h3 h hσ hH).wp hk
      · simp at hc
    · simp at hc
  case alloc zs =>
    split at hc
    · rename_i t hop
      split at hc
      · rename_i z hz; exact (op_alloc hop hz hc h hσ hH).wp hk
      · simp at hc
    · simp at hc
  case box n x' =>
    split at hc
    · rename_i t x hop; exact (op_box hop hc h hσ hH).wp hk
    · simp at hc
  case bld zs qs =>
    split at hc
    · rename_i t ps hop
      simp only [Bool.and_eq_true] at hc
      obtain ⟨h1, h2⟩ := hc
      split at h1
      · rename_i z hz
        split at h2
        · rename_i pl hpl
          simp only [Bool.and_eq_true] at h2
          exact (op_bldS hop hz h1 hpl h2.1 h2.2 h hσ hH).wp hk
        · split at h2
          · rename_i n e he
            split at h2
            · rename_i sz hsz; exact (op_bldA hop hz h1 he hsz h2 h hσ hH).wp hk
            · simp at h2
          · simp at h2
      · simp at h1
    · simp at hc
  case bsl sz zs len qs =>
    split at hc
    · rename_i t n ps hop
      split at hc
      · rename_i e he
        simp only [Bool.and_eq_true, decide_eq_true_eq] at hc
        obtain ⟨⟨⟨⟨rfl, h1⟩, h2⟩, h3⟩, h4⟩ := hc
        split at h3
        · rename_i z hz; exact (op_bsl hop he h1 h2 hz h3 h4 h hσ hH).wp hk
        · simp at h3
      · simp at hc
    · simp at hc
  case mksl zs bytes x' y' =>
    split at hc
    · rename_i t x y hop
      split at hc
      · rename_i e he
        simp only [Bool.and_eq_true, decide_eq_true_eq] at hc
        obtain ⟨⟨⟨⟨⟨⟨h1, h2⟩, h3⟩, h4⟩, h5⟩, h6⟩, h7⟩ := hc
        split at h5
        · rename_i z hz; exact (op_mksl hop he h1 h2 h3 h4 hz h5 h6 h7 h hσ hH).wp hk
        · simp at h5
      · simp at hc
    · simp at hc
  case len x' =>
    split at hc
    · rename_i xs ats hop
      split at hc
      · rename_i x t hx ht
        simp only [Bool.and_eq_true] at hc
        rw [toList_one hx] at hop
        exact (op_len hop ht hc.1 hc.2 h hσ hH).wp hk
      · simp at hc
    · simp at hc
  case lens x' =>
    split at hc
    · rename_i xs ats hop
      split at hc
      · rename_i x t hx ht
        simp only [Bool.and_eq_true] at hc
        rw [toList_one hx] at hop
        obtain ⟨h1, h2⟩ := hc
        have hu : C.P.underlying t = some .string := by split at h1; assumption; simp at h1
        exact (op_lens hop ht hu h2 h hσ hH).wp hk
      · simp at hc
    · simp at hc
  case app sz bytes x' y' =>
    split at hc
    · rename_i xs ats hop
      split at hc
      · rename_i x y t t2 hx ht ht2
        split at hc
        · rename_i e he
          simp only [Bool.and_eq_true, decide_eq_true_eq] at hc
          obtain ⟨⟨⟨⟨⟨⟨h1, h2⟩, h3⟩, h4⟩, h5⟩, h6⟩, h7⟩ := hc
          rw [toList_two hx] at hop
          obtain ⟨e2, he2⟩ := Option.isSome_iff_exists.1 h1
          split at h5
          · rename_i z hz; exact (op_app hop ht ht2 he he2 h2 h3 h4 hz (of_decide_eq_true h5).1 (of_decide_eq_true h5).2 h6 h7 hlo h hσ hH).wp hk
          · simp at h5
        · simp at hc
      · simp at hc
    · simp at hc
  case ext x' j =>
    split at hc
    · rename_i x i hop
      simp only [Bool.and_eq_true, decide_eq_true_eq] at hc
      exact (op_ext hop hc.1 hc.2 h hσ hH).wp hk
    · simp at hc
  case call g ys fresh rt =>
    split at hc
    · rename_i f xs ats hop
      simp only [Bool.and_eq_true, decide_eq_true_eq] at hc
      exact op_call hF hC hS hop hc.1 hc.2 hlo hle h hσ hH hk
    · simp at hc
  case callv x' ys fresh rt =>
    split at hc
    · rename_i x xs ats hop
      simp only [Bool.and_eq_true] at hc
      exact op_callv hF hC hS hop hc.1 hc.2 hlo hle h hσ hH hk
    · simp at hc
  case mkf g ys =>
    split at hc
    · rename_i f first xs hop
      simp only [Bool.and_eq_true, decide_eq_true_eq] at hc
      obtain ⟨⟨h1, h2⟩, h3⟩ := hc
      have : first = #[] := by cases first; simp at h2; subst h2; rfl
      subst this
      exact (op_mkf hop h1 h3 h hσ hH).wp hk
    · simp at hc
  case nilck x' =>
    split at hc
    · rename_i x hop; exact (op_nilck hop hc h hσ hH).wp hk
    · simp at hc
end Go.Ab
