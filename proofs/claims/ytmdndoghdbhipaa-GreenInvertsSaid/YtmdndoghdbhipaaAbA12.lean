/- The check of pieces; soundness of the evaluator. -/
import Derived.Test.YtmdndoghdbhipaaAbA11
import Derived.Test.YtmdndoghdbhipaaAbAD4
set_option linter.unusedSimpArgs false
set_option linter.unusedVariables false
namespace Go.Ab
open Go Go.RowKit

def chkReg (C : Ctx) (ops : Array Oper) (draw : Bool) (nt : Nat) (ss : Steps) : Bool :=
  match draw with
  | true => chkD C ops nt ss
  | false => chkS C ops nt none [] ss && decide (ss.idxs = List.range ops.size)

def chkC (C : Ctx) (body : Code) (nt : Nat) (labels : List (List At)) : IRc → List At → Bool
  | .reg ss next, todo =>
    (match normT body 1000 todo with
    | .code n :: k => (match codeAt body n with
      | some (.region _ ops draw) => chkReg C ops draw nt ss && chkC C body nt labels next k
      | _ => false)
    | _ => false)
  | .ite c p q, todo =>
    (match normT body 1000 todo with
    | .code n :: k => (match codeAt body n with
      | some (.cond x p' _) => chkOpd C.fids x c && chkC C body nt labels p (.code (n + 1) :: k) && chkC C body nt labels q (.code (n + 1 + csize p') :: k)
      | _ => false)
    | _ => false)
  | .jump j, todo => (match labels[j]? with | some t => decide (normT body 1000 todo = t) | none => false)
  | .ret, todo =>
    (match normT body 1000 todo with
    | [] => true
    | .code n :: _ => (match codeAt body n with | some .ret => true | _ => false)
    | _ => false)

def chkRV (P : Program) : List ResultVar → List RV → Bool
  | [], [] => true
  | .tmp t :: rs, .tmp u :: us => decide (t = u) && chkRV P rs us
  | .cell t ty :: rs, .cell u t1 :: us => decide (t = u) && chkT1 P ty t1 && chkRV P rs us
  | _, _ => false

def chkPieces (C : Ctx) (body : Code) (nt : Nat) (labels : List (List At)) : List Piece → Bool
  | [] => true
  | p :: ps => chkC C body nt labels p.code p.todo && p.sig.all (fun x => decide (x < nt)) && chkPieces C body nt labels ps
def firstOK (np : Nat) : List Piece → Bool
  | p :: _ => decide (p.sig = List.range np) && decide (p.todo = [.code 0])
  | [] => false
def chkFn (C : Ctx) (f : FuncId) (fn : Fn) : Bool :=
  match C.P.funcs[f]? with
  | some fu => (match fu.body with
    | some body => decide (fn.np ≤ fu.ntmps) && chkRV C.P fu.results.toList fn.res && firstOK fn.np fn.pieces && chkPieces C body fu.ntmps (fn.pieces.map (·.todo)) fn.pieces && !(fu.name == "runtime.NumGoroutine")
    | none => false)
  | none => false
def chkG (C : Ctx) : List FuncId → List Fn → Bool
  | [], [] => true
  | f :: fs, fn :: fns => chkFn C f fn && chkG C fs fns
  | _, _ => false

/-! ### Splitting a run -/
theorem evS_split {call : CallT} {lo : Nat} (hS : CallSplit call) : ∀ (ss : Steps) {ρ : Type} {σ : Env} {H : AH} {κ : Env → AH → Option ρ} {r : ρ}, evS call lo ss ρ σ H κ = some r →
    ∃ σ' H', (∀ (ρ' : Type) (κ' : Env → AH → Option ρ'), evS call lo ss ρ' σ H κ' = κ' σ' H') ∧ κ σ' H' = some r
  | .nil, _, σ, H, κ, r, h => ⟨σ, H, fun _ _ => rfl, h⟩
  | .op i d o rest, _, σ, H, κ, r, h => by
    unfold evS at h
    obtain ⟨v, H1, h1, h⟩ := evOp_split hS h
    obtain ⟨σ', H', h2, h⟩ := evS_split hS rest h
    exact ⟨σ', H', fun _ κ' => by unfold evS; rw [h1, h2], h⟩
  | .chk x rest, _, σ, H, κ, r, h => by
    unfold evS at h
    obtain ⟨hb, h⟩ := cond_none h
    obtain ⟨σ', H', h2, h⟩ := evS_split hS rest h
    exact ⟨σ', H', fun _ κ' => by unfold evS; rw [hb, cond_true, h2], h⟩
  | .grp gt want inner i pd px rest, _, σ, H, κ, r, h => by
    unfold evS at h
    obtain ⟨g, hg, h⟩ := asB_some h
    obtain ⟨p, hp, h⟩ := Option.bind_eq_some_iff.1 h
    obtain ⟨σ', H', h2, h⟩ := evS_split hS rest h
    refine ⟨σ', H', fun _ κ' => ?_, h⟩
    unfold evS
    rw [hg]
    show Option.bind _ _ = _
    rw [hp]
    exact h2 _ _

theorem evRV_split {rv : RV} {σ : Env} {H : AH} {ρ : Type} {κ : AV → Option ρ} {r : ρ} (h : evRV rv σ H κ = some r) : ∃ v, (∀ (ρ' : Type) (κ' : AV → Option ρ'), evRV rv σ H κ' = κ' v) ∧ κ v = some r := by
  cases rv with
  | tmp t => exact ⟨_, fun _ _ => rfl, h⟩
  | cell t ty =>
    simp only [evRV] at h ⊢
    obtain ⟨p, hp, h⟩ := asP_some h
    obtain ⟨v, hv, h⟩ := ldT_some h
    exact ⟨v, fun _ κ' => by rw [hp]; exact hv κ', h⟩
theorem evRVs_split : ∀ {rs : List RV} {σ : Env} {H : AH} {ρ : Type} {κ : List AV → Option ρ} {r : ρ}, evRVs rs σ H κ = some r → ∃ vs, (∀ (ρ' : Type) (κ' : List AV → Option ρ'), evRVs rs σ H κ' = κ' vs) ∧ κ vs = some r
  | [], σ, H, ρ, κ, r, h => ⟨[], fun _ _ => rfl, h⟩
  | x :: rs, σ, H, ρ, κ, r, h => by
    simp only [evRVs] at h
    obtain ⟨v, h1, h⟩ := evRV_split h
    obtain ⟨vs, h2, h⟩ := evRVs_split h
    exact ⟨v :: vs, fun _ κ' => by simp only [evRVs, h1, h2], h⟩
theorem evRes_split {rs : List RV} {σ : Env} {H : AH} {ρ : Type} {κ : AV → AH → Option ρ} {r : ρ} (h : evRes rs σ H κ = some r) : ∃ v, (∀ (ρ' : Type) (κ' : AV → AH → Option ρ'), evRes rs σ H κ' = κ' v H) ∧ κ v H = some r := by
  unfold evRes at h ⊢
  split at h
  · obtain ⟨v, h1, h⟩ := evRV_split h
    exact ⟨v, fun _ κ' => by rw [h1], h⟩
  · obtain ⟨v, h1, h⟩ := evRVs_split h
    exact ⟨.tup v, fun _ κ' => by rw [h1], h⟩

theorem evC_split {call : CallT} (hS : CallSplit call) {sigs : Nat → List Nat} {res : List RV} {lo : Nat} {jmp : (ρ : Type) → (AV → AH → Option ρ) → Nat → List AV → AH → Option ρ}
    (hJ : ∀ (ρ : Type) (κ : AV → AH → Option ρ) (j : Nat) (args : List AV) (H : AH) (r : ρ), jmp ρ κ j args H = some r → ∃ v H', (∀ (ρ' : Type) (κ' : AV → AH → Option ρ'), jmp ρ' κ' j args H = κ' v H') ∧ κ v H' = some r) :
    ∀ (c : IRc) {ρ : Type} {κ : AV → AH → Option ρ} {σ : Env} {H : AH} {r : ρ}, evC call (jmp ρ κ) sigs res lo κ c σ H = some r →
      ∃ v H', (∀ (ρ' : Type) (κ' : AV → AH → Option ρ'), evC call (jmp ρ' κ') sigs res lo κ' c σ H = κ' v H') ∧ κ v H' = some r
  | .reg ss next, ρ, κ, σ, H, r, h => by
    simp only [evC] at h
    obtain ⟨σ', H', h1, h⟩ := evS_split hS ss h
    obtain ⟨v, H2, h2, h⟩ := evC_split hS hJ next h
    exact ⟨v, H2, fun _ κ' => by simp only [evC, h1, h2], h⟩
  | .ite c p q, ρ, κ, σ, H, r, h => by
    simp only [evC] at h
    obtain ⟨t, ht, h⟩ := asB_some h
    cases t
    · obtain ⟨v, H2, h2, h⟩ := evC_split hS hJ q h
      exact ⟨v, H2, fun _ κ' => by simp only [evC, ht, asB, cond_false, h2], h⟩
    · obtain ⟨v, H2, h2, h⟩ := evC_split hS hJ p h
      exact ⟨v, H2, fun _ κ' => by simp only [evC, ht, asB, cond_true, h2], h⟩
  | .jump j, ρ, κ, σ, H, r, h => by
    simp only [evC] at h
    obtain ⟨v, H2, h2, h⟩ := hJ _ _ _ _ _ _ h
    exact ⟨v, H2, fun _ κ' => by simp only [evC, h2], h⟩
  | .ret, ρ, κ, σ, H, r, h => by
    simp only [evC] at h
    obtain ⟨v, h2, h⟩ := evRes_split h
    exact ⟨v, H, fun _ κ' => by simp only [evC, h2], h⟩

def callOf (G : Pg) (k : Nat) : CallT := fun ρ g args lo H κ => run G k ρ g 0 args lo H κ
theorem run_split (G : Pg) : ∀ (k : Nat) (ρ : Type) (f j : Nat) (args : List AV) (lo : Nat) (H : AH) (κ : AV → AH → Option ρ) (r : ρ), run G k ρ f j args lo H κ = some r →
    ∃ v H', (∀ (ρ' : Type) (κ' : AV → AH → Option ρ'), run G k ρ' f j args lo H κ' = κ' v H') ∧ κ v H' = some r := by
  intro k
  induction k with
  | zero => intro ρ f j args lo H κ r h; simp [run] at h
  | succ k ih =>
    intro ρ f j args lo H κ r h
    unfold run at h
    split at h
    · simp at h
    · rename_i fn hfn
      split at h
      · simp at h
      · rename_i pc hpc
        obtain ⟨hb, h⟩ := cond_none h
        have hS : CallSplit (fun ρ' g args lo H κ => run G k ρ' g 0 args lo H κ) := fun ρ g args lo H κ r h => ih ρ g 0 args lo H κ r h
        obtain ⟨v, H', h1, h⟩ := evC_split hS (jmp := fun ρ κ j args H => run G k ρ f j args lo H κ) (fun ρ κ j args H r h => ih ρ f j args lo H κ r h) pc.code h
        refine ⟨v, H', fun ρ' κ' => ?_, h⟩
        unfold run
        simp only [hfn, hpc, hb, cond_true]
        exact h1 ρ' κ'

/-! ### What a run leaves -/
theorem evS_bar {call : CallT} {lo : Nat} (hS : CallSplit call) (hB : CallBar call) : ∀ (ss : Steps) {ρ : Type} {σ : Env} {H : AH} {κ : Env → AH → Option ρ} {r : ρ}, evS call lo ss ρ σ H κ = some r → lo ≤ H.length → ∃ σ' H', κ σ' H' = some r ∧ Bar lo H H'
  | .nil, _, σ, H, κ, r, h, _ => ⟨σ, H, h, .refl _ _⟩
  | .op i d o rest, _, σ, H, κ, r, h, hl => by
    unfold evS at h
    obtain ⟨v, H1, h1, h⟩ := evOp_split hS h
    have hb := evOp_bar hS hB (h1 PV pr) hl
    obtain ⟨σ', H', h2, h3⟩ := evS_bar hS hB rest h (Nat.le_trans hl hb.2)
    exact ⟨σ', H', h2, hb.trans h3⟩
  | .chk x rest, _, σ, H, κ, r, h, hl => by
    unfold evS at h
    obtain ⟨_, h⟩ := cond_none h
    exact evS_bar hS hB rest h hl
  | .grp gt want inner i pd px rest, _, σ, H, κ, r, h, hl => by
    unfold evS at h
    obtain ⟨g, hg, h⟩ := asB_some h
    obtain ⟨p, hp, h⟩ := Option.bind_eq_some_iff.1 h
    have hb : Bar lo H p.2 := by
      cases hw : (bif want then g else !g)
      · rw [hw, cond_false] at hp; cases hp; exact .refl _ _
      · rw [hw, cond_true] at hp
        obtain ⟨σ1, H1, h1, h2⟩ := evS_bar hS hB inner hp hl
        obtain ⟨b, _, h1⟩ := asB_some h1
        cases h1; exact h2
    obtain ⟨σ', H', h2, h3⟩ := evS_bar hS hB rest h (Nat.le_trans hl hb.2)
    exact ⟨σ', H', h2, hb.trans h3⟩
theorem evC_bar {call : CallT} (hS : CallSplit call) (hB : CallBar call) {sigs : Nat → List Nat} {res : List RV} {lo : Nat} {jmp : Nat → List AV → AH → Option PV}
    (hJ : ∀ (j : Nat) (args : List AV) (H : AH) (v : AV) (H' : AH), jmp j args H = some (v, H') → lo ≤ H.length → Bar lo H H') :
    ∀ (c : IRc) {σ : Env} {H : AH} {v : AV} {H' : AH}, evC call jmp sigs res lo pr c σ H = some (v, H') → lo ≤ H.length → Bar lo H H'
  | .reg ss next, σ, H, v, H', h, hl => by
    simp only [evC] at h
    obtain ⟨σ1, H1, h1, h2⟩ := evS_bar hS hB ss h hl
    exact h2.trans (evC_bar hS hB hJ next h1 (Nat.le_trans hl h2.2))
  | .ite c p q, σ, H, v, H', h, hl => by
    simp only [evC] at h
    obtain ⟨t, ht, h⟩ := asB_some h
    cases t
    · exact evC_bar hS hB hJ q h hl
    · exact evC_bar hS hB hJ p h hl
  | .jump j, σ, H, v, H', h, hl => by simp only [evC] at h; exact hJ _ _ _ _ _ h hl
  | .ret, σ, H, v, H', h, hl => by
    simp only [evC] at h
    obtain ⟨u, h2, h⟩ := evRes_split h
    obtain ⟨_, rfl⟩ := pr_inj h
    exact .refl _ _
theorem run_bar (G : Pg) : ∀ (k f j : Nat) (args : List AV) (lo : Nat) (H : AH) (v : AV) (H' : AH), run G k PV f j args lo H pr = some (v, H') → lo ≤ H.length → Bar lo H H' := by
  intro k
  induction k with
  | zero => intro f j args lo H v H' h; simp [run] at h
  | succ k ih =>
    intro f j args lo H v H' h hl
    unfold run at h
    split at h
    · simp at h
    · rename_i fn hfn
      split at h
      · simp at h
      · rename_i pc hpc
        obtain ⟨hb, h⟩ := cond_none h
        exact evC_bar (fun ρ g args lo H κ r h => run_split G k ρ g 0 args lo H κ r h) (fun g args lo H v H' h hl => ih g 0 args lo H v H' h hl) (fun j args H v H' h hl => ih f j args lo H v H' h hl) pc.code h hl

/-! ### Soundness -/
theorem envOf_get : ∀ (sig : List Nat) (args : List AV) (x : Nat), (∃ i : Nat, sig[i]? = some x ∧ ∃ v, args[i]? = some v ∧ envOf sig args x = v) ∨ envOf sig args x = .unk
  | [], _, _ => .inr (by unfold envOf; rfl)
  | _ :: _, [], _ => .inr (by unfold envOf; rfl)
  | s :: ss, v :: vs, x => by
    unfold envOf
    cases h : Nat.beq x s
    · rcases envOf_get ss vs x with ⟨i, h1, u, h2, h3⟩ | h3
      · exact .inl ⟨i + 1, by simpa using h1, u, by simpa using h2, by simpa using h3⟩
      · exact .inr (by simpa using h3)
    · have : x = s := Nat.eq_of_beq_eq_true h
      subst this
      exact .inl ⟨0, by simp, v, by simp, by simp⟩

/-- One result. -/
def resF (tm : Array Value) : ResultVar → Sem Value
  | .tmp t => pure (tm.getD t undef)
  | .cell a t => do loadVar t (← asAddr (tm.getD a undef))
theorem results_eq (fn : Func) (tm : Array Value) : results fn tm = (do let vs ← fn.results.mapM (resF tm); pure (if h : vs.size = 1 then vs[0] else .tuple vs)) := by
  unfold results
  congr 1

section
variable {C : Ctx} {nt : Nat}

theorem rvs_run (P : Program) {fids : List Nat} {a : Act} {w : World} {μ : MU} {H : AH} {σ : Env} (hPC : C.P = P) (hσ : ER C.fids μ σ a) (hH : HR C μ H w) : ∀ {rs : List ResultVar} {us : List RV} {vs : List AV}, chkRV C.P rs us = true → evRVs us σ H some = some vs →
    ∃ cs : List Value, (rs.mapM (resF a.tmps)).run P w = .ok cs w ∧ VRs C.fids μ vs cs := by
  subst hPC
  intro rs
  induction rs with
  | nil => intro us vs hc h; cases us with
    | nil => simp only [evRVs, Option.some.injEq] at h; subst h; exact ⟨[], rfl, .nil⟩
    | cons _ _ => simp [chkRV] at hc
  | cons r rs ih =>
    intro us vs hc h
    cases us with
    | nil => simp [chkRV] at hc
    | cons u us =>
      simp only [evRVs] at h
      obtain ⟨v, h1, h⟩ := evRV_split h
      obtain ⟨vs', h2, h⟩ := evRVs_split h
      simp only [Option.some.injEq] at h
      subst h
      cases r with
      | tmp t =>
        cases u with
        | tmp t' =>
          simp only [chkRV, Bool.and_eq_true, decide_eq_true_eq] at hc
          obtain ⟨rfl, hc⟩ := hc
          obtain ⟨cs, hr, hv⟩ := ih hc (h2 _ some)
          have hv1 := h1 _ some
          simp only [evRV, Option.some.injEq] at hv1
          subst hv1
          exact ⟨_ :: cs, by rw [List.mapM_cons]; simp only [resF, Sem.run_bind, Sem.run_pure, Result.andThen_ok, hr], .cons _ _ _ _ (hσ t) hv⟩
        | cell _ _ => simp [chkRV] at hc
      | cell t ty =>
        cases u with
        | tmp _ => simp [chkRV] at hc
        | cell t' t1 =>
          simp only [chkRV, Bool.and_eq_true, decide_eq_true_eq] at hc
          obtain ⟨⟨rfl, ht⟩, hc⟩ := hc
          obtain ⟨cs, hr, hv⟩ := ih hc (h2 _ some)
          have hv1 := h1 _ some
          simp only [evRV] at hv1
          obtain ⟨p, hp, hv1⟩ := asP_some hv1
          have hpv := hσ t
          rw [hp] at hpv
          obtain ⟨e, hex, he⟩ := hpv.ptr_inv
          obtain ⟨c, hlr, hlv⟩ := loadVar_run hH ht he hv1
          exact ⟨c :: cs, by rw [List.mapM_cons]; simp only [resF, Sem.run_bind, hex, asAddr, Sem.run_pure, Result.andThen_ok, hlr, hr], .cons _ _ _ _ hlv hv⟩

theorem res_run {fu : Func} {a : Act} {w : World} {μ : MU} {H : AH} {σ : Env} (hσ : ER C.fids μ σ a) (hH : HR C μ H w) {us : List RV} {v : AV} (hc : chkRV C.P fu.results.toList us = true) (h : evRes us σ H pr = some (v, H)) :
    ∃ c, (results fu a.tmps).run C.P w = .ok c w ∧ VR C.fids μ v c := by
  have key : ∀ {vs : List AV}, evRVs us σ H some = some vs → ∃ cs : List Value, (fu.results.mapM (resF a.tmps)).run C.P w = .ok cs.toArray w ∧ VRs C.fids μ vs cs := by
    intro vs hv
    obtain ⟨cs, hr, hvs⟩ := rvs_run (fids := C.fids) C.P rfl hσ hH hc hv
    refine ⟨cs, ?_, hvs⟩
    rw [Array.mapM_eq_mapM_toList]
    simp only [Sem.run_map, hr, Result.andThen_ok]
  unfold evRes at h
  split at h
  · rename_i r
    obtain ⟨u, h1, h⟩ := evRV_split h
    obtain ⟨g1, _⟩ := pr_inj h
    subst g1
    obtain ⟨cs, hr, hv⟩ := key (vs := [u]) (by simp only [evRVs, h1])
    cases hv with
    | cons _ c _ cs' hv1 hv2 =>
      cases hv2
      exact ⟨c, by rw [results_eq]; simp only [Sem.run_bind, hr, Result.andThen_ok]; simp, hv1⟩
  · rename_i hne
    obtain ⟨vs, h1, h⟩ := evRVs_split h
    obtain ⟨g1, _⟩ := pr_inj h
    subst g1
    obtain ⟨cs, hr, hv⟩ := key (vs := vs) (h1 _ some)
    refine ⟨.tuple cs.toArray, ?_, .tup _ _ hv⟩
    rw [results_eq]
    simp only [Sem.run_bind, hr, Result.andThen_ok]
    have hlen : us.length = vs.length := by
      have : ∀ {us : List RV} {vs : List AV}, evRVs us σ H some = some vs → us.length = vs.length := by
        intro us
        induction us with
        | nil => intro vs h; simp only [evRVs, Option.some.injEq] at h; subst h; rfl
        | cons u us ih =>
          intro vs h
          simp only [evRVs] at h
          obtain ⟨v, h1, h⟩ := evRV_split h
          obtain ⟨vs', h2, h⟩ := evRVs_split h
          simp only [Option.some.injEq] at h
          subst h
          simp [ih (h2 _ some)]
      exact this (h1 _ some)
    have h1' : cs.length ≠ 1 := by
      rw [← hv.length, ← hlen]
      intro e
      cases us with
      | nil => simp at e
      | cons u us => cases us with
        | nil => exact hne u rfl
        | cons _ _ => simp at e
    simp [h1']

theorem chkG_get : ∀ {fs : List FuncId} {fns : List Fn}, chkG C fs fns = true → ∀ {g : Nat} {f : FuncId} {fn : Fn}, fs[g]? = some f → fns[g]? = some fn → chkFn C f fn = true
  | [], [], _, g, f, fn, h, _ => by simp at h
  | _ :: _, _ :: _, hc, 0, f, fn, h1, h2 => by simp only [chkG, Bool.and_eq_true] at hc; simp at h1 h2; subst h1; subst h2; exact hc.1
  | _ :: _, _ :: _, hc, g + 1, f, fn, h1, h2 => by simp only [chkG, Bool.and_eq_true] at hc; exact chkG_get hc.2 (by simpa using h1) (by simpa using h2)
  | [], _ :: _, hc, _, _, _, _, _ => by simp [chkG] at hc
  | _ :: _, [], hc, _, _, _, _, _ => by simp [chkG] at hc
theorem chkG_len : ∀ {fs : List FuncId} {fns : List Fn}, chkG C fs fns = true → fs.length = fns.length
  | [], [], _ => rfl
  | _ :: _, _ :: _, hc => by simp only [chkG, Bool.and_eq_true] at hc; simp [chkG_len hc.2]
  | [], _ :: _, hc => by simp [chkG] at hc
  | _ :: _, [], hc => by simp [chkG] at hc
theorem chkPieces_get {body : Code} {labels : List (List At)} : ∀ {ps : List Piece}, chkPieces C body nt labels ps = true → ∀ {j : Nat} {p : Piece}, ps[j]? = some p → chkC C body nt labels p.code p.todo = true ∧ p.sig.all (fun x => decide (x < nt)) = true
  | [], _, j, p, h => by simp at h
  | q :: ps, hc, 0, p, h => by simp only [chkPieces, Bool.and_eq_true] at hc; simp at h; subst h; exact hc.1
  | q :: ps, hc, j + 1, p, h => by simp only [chkPieces, Bool.and_eq_true] at hc; exact chkPieces_get hc.2 (by simpa using h)

theorem fns_of {G : Pg} (hG : chkG C C.fids G = true) : FnsOK C := by
  intro g f hg
  have hl := chkG_len hG
  obtain ⟨fn, hfn⟩ : ∃ fn, G[g]? = some fn := ⟨G[g]'(by have := (List.getElem?_eq_some_iff.1 hg).1; omega), List.getElem?_eq_getElem _⟩
  have := chkG_get hG hg hfn
  unfold chkFn at this
  split at this
  · rename_i fu hfu
    split at this
    · rename_i body hb
      simp only [Bool.and_eq_true, Bool.not_eq_true'] at this
      exact ⟨fu, hfu, this.2, by simp [hb]⟩
    · simp at this
  · simp at this

/-- From a label on, the code comes to what the evaluator says. -/
def LabelOK (C : Ctx) (G : Pg) (k : Nat) : Prop := ∀ (g f : Nat) (fn : Fn) (fu : Func) (body : Code) (j : Nat) (pc : Piece) (args : List AV) (lo : Nat) (H : AH) (v : AV) (H' : AH) (a : Act) (w : World) (μ : MU) (items : List Item),
  C.fids[g]? = some f → G[g]? = some fn → C.P.funcs[f]? = some fu → fu.body = some body → fn.pieces[j]? = some pc → run G k PV g j args lo H pr = some (v, H') → C.lo0 ≤ lo → lo ≤ H.length → Its body pc.todo items →
  ER C.fids μ (envOf pc.sig args) a → a.tmps.size = fu.ntmps → a.defers = [] → HR C μ H w → TW C.P f items a w (Done C μ H w v H')

theorem Done.trans {C : Ctx} {μ μ1 : MU} {H H1 H2 : AH} {w w1 : World} {v : AV} {a a1 : Act} {ds : List Nat} {σ1 : Env} (h : Aft C nt μ H w a ds σ1 H1 a1 w1 μ1) {c : Value} {w2 : World} (k : Done C μ1 H1 w1 v H2 c w2) : Done C μ H w v H2 c w2 := by
  obtain ⟨μ2, g⟩ := k
  exact ⟨μ2, h.ext.trans g.ext, g.val, g.hr, h.below.trans g.below, h.keep.trans g.keep h.ext⟩

theorem evC_sound {G : Pg} {k : Nat} (hF : FnsOK C) (hC : CallOK C (callOf G k)) (hS : CallSplit (callOf G k)) (hw : C.P.follows .mixedOrders = true) (hL : LabelOK C G k) {g f : Nat} {fn : Fn} {fu : Func} {body : Code} {lo : Nat}
    (h1 : C.fids[g]? = some f) (h2 : G[g]? = some fn) (h3 : C.P.funcs[f]? = some fu) (h4 : fu.body = some body) (hres : chkRV C.P fu.results.toList fn.res = true) (hlo : C.lo0 ≤ lo) :
    ∀ (c : IRc) (todo : List At) (items : List Item) (σ : Env) (H : AH) (v : AV) (H' : AH) (a : Act) (w : World) (μ : MU), chkC C body fu.ntmps (fn.pieces.map (·.todo)) c todo = true →
      evC (callOf G k) (fun j args H => run G k PV g j args lo H pr) (sigOf fn) fn.res lo pr c σ H = some (v, H') → Its body todo items → ER C.fids μ σ a → a.tmps.size = fu.ntmps → a.defers = [] → HR C μ H w → lo ≤ H.length → TW C.P f items a w (Done C μ H w v H')
  | .reg ss next, todo, items, σ, H, v, H', a, w, μ, hc, h, hi, hσ, hn, hd, hH, hle => by
    simp only [evC] at h
    simp only [chkC] at hc
    obtain ⟨ys, hy, ht⟩ := norm_sound (P := C.P) (f := f) (a := a) (w := w) (R := Done C μ H w v H') 1000 hi
    refine ht ?_
    split at hc
    · rename_i n t hnt
      rw [hnt] at hy
      split at hc
      · rename_i id ops draw hcode
        simp only [Bool.and_eq_true] at hc
        obtain ⟨hc1, hc2⟩ := hc
        cases ys with
        | nil => exact hy.elim
        | cons y ys =>
          obtain ⟨hy1, hy2⟩ := hy
          simp only [itemAt, hcode, Option.map_some, Option.some.injEq] at hy1
          subst hy1
          refine TW.region ?_
          have after : ∀ σ' H1 a' w' μ', Aft C fu.ntmps μ H w a ss.dsts σ' H1 a' w' μ' → evC (callOf G k) (fun j args H => run G k PV g j args lo H pr) (sigOf fn) fn.res lo pr next σ' H1 = some (v, H') → TW C.P f ys a' w' (Done C μ H w v H') := fun σ' H1 a' w' μ' hA he =>
            (evC_sound hF hC hS hw hL h1 h2 h3 h4 hres hlo next t ys σ' H1 v H' a' w' μ' hc2 he hy2 hA.er hA.sz (by rw [hA.defs]; exact hd) hA.hr (Nat.le_trans hle (hA.grow hH))).mono fun c w2 hdn => Done.trans hA hdn
          cases draw with
          | false =>
            simp only [chkReg, Bool.and_eq_true, decide_eq_true_eq] at hc1
            refine wp_region ?_
            rw [← hc1.2, ← List.append_nil ss.idxs]
            exact steps_run hF hC hS hlo ss none [] σ H _ _ a w μ [] h hc1.1 trivial hσ hn hH hle fun σ' H1 a' w' μ' hA he => ⟨rfl, after σ' H1 a' w' μ' hA he⟩
          | true =>
            simp only [chkReg] at hc1
            exact draw_run hF hC hS (fun g args lo H v H' h hl => run_bar G k g 0 args lo H v H' h hl) hlo hw ss σ H _ _ a w μ id h hc1 hσ hn hH hle fun σ' H1 a' w' μ' hA he => ⟨rfl, after σ' H1 a' w' μ' hA he⟩
      · simp at hc
    · simp at hc
  | .ite c p q, todo, items, σ, H, v, H', a, w, μ, hc, h, hi, hσ, hn, hd, hH, hle => by
    simp only [evC] at h
    simp only [chkC] at hc
    obtain ⟨ys, hy, ht⟩ := norm_sound (P := C.P) (f := f) (a := a) (w := w) (R := Done C μ H w v H') 1000 hi
    refine ht ?_
    obtain ⟨b, hb, h⟩ := asB_some h
    split at hc
    · rename_i n t hnt
      rw [hnt] at hy
      split at hc
      · rename_i x p' q' hcode
        simp only [Bool.and_eq_true] at hc
        obtain ⟨⟨hc0, hc1⟩, hc2⟩ := hc
        cases ys with
        | nil => exact hy.elim
        | cons y ys =>
          obtain ⟨hy1, hy2⟩ := hy
          simp only [itemAt, hcode, Option.map_some, Option.some.injEq] at hy1
          subst hy1
          have vx := chkOpd_sound hc0 hσ
          rw [hb] at vx
          have hev := vx.bool_inv
          have e1 := (codeAt_add body n _ hcode 1 (by simp [csize]; have := csize_pos p'; omega)).1
          have e2 := (codeAt_add body n _ hcode (1 + csize p') (by simp [csize]; have := csize_pos q'; omega)).1
          rw [show n + (1 + csize p') = n + 1 + csize p' by omega] at e2
          refine TW.step (t' := .code (if b then p' else q') :: ys) ?_ fun bb cs => step_cond hev
          cases b with
          | true =>
            refine evC_sound hF hC hS hw hL h1 h2 h3 h4 hres hlo p (.code (n + 1) :: t) _ σ H v H' a w μ hc1 h ⟨?_, hy2⟩ hσ hn hd hH hle
            simp only [itemAt, e1, codeAt]; simp [csize_pos p']
          | false =>
            refine evC_sound hF hC hS hw hL h1 h2 h3 h4 hres hlo q (.code (n + 1 + csize p') :: t) _ σ H v H' a w μ hc2 h ⟨?_, hy2⟩ hσ hn hd hH hle
            simp only [itemAt, e2]; rw [Nat.add_comm 1]; simp [codeAt]
      · simp at hc
    · simp at hc
  | .jump j, todo, items, σ, H, v, H', a, w, μ, hc, h, hi, hσ, hn, hd, hH, hle => by
    simp only [evC] at h
    simp only [chkC] at hc
    obtain ⟨ys, hy, ht⟩ := norm_sound (P := C.P) (f := f) (a := a) (w := w) (R := Done C μ H w v H') 1000 hi
    refine ht ?_
    split at hc
    · rename_i t hl
      simp only [decide_eq_true_eq] at hc
      simp only [List.getElem?_map, Option.map_eq_some_iff] at hl
      obtain ⟨pc, hpc, rfl⟩ := hl
      rw [hc] at hy
      refine hL g f fn fu body j pc _ lo H v H' a w μ ys h1 h2 h3 h4 hpc h hlo hle hy (fun x => ?_) hn hd hH
      have hsg : sigOf fn j = pc.sig := by unfold sigOf; rw [hpc]
      rw [hsg]
      rcases envOf_get pc.sig (pc.sig.map σ) x with ⟨i, g1, u, g2, g3⟩ | g3
      · rw [g3]
        simp only [List.getElem?_map, g1, Option.map_some, Option.some.injEq] at g2
        subst g2; exact hσ x
      · rw [g3]; exact .unk _
    · simp at hc
  | .ret, todo, items, σ, H, v, H', a, w, μ, hc, h, hi, hσ, hn, hd, hH, hle => by
    simp only [evC] at h
    simp only [chkC] at hc
    obtain ⟨ys, hy, ht⟩ := norm_sound (P := C.P) (f := f) (a := a) (w := w) (R := Done C μ H w v H') 1000 hi
    refine ht ?_
    have hstop : ys = [] ∨ ∃ k, ys = .code .ret :: k := by
      split at hc
      · rename_i hnt; rw [hnt] at hy
        cases ys with
        | nil => exact .inl rfl
        | cons _ _ => exact hy.elim
      · rename_i n t hnt
        rw [hnt] at hy
        split at hc
        · rename_i hcode
          cases ys with
          | nil => exact hy.elim
          | cons y ys =>
            obtain ⟨hy1, _⟩ := hy
            simp only [itemAt, hcode, Option.map_some, Option.some.injEq] at hy1
            exact .inr ⟨ys, by rw [← hy1]⟩
        · simp at hc
      · simp at hc
    obtain ⟨u, hu, h⟩ := evRes_split h
    obtain ⟨g1, g2⟩ := pr_inj h
    subst g1; subst g2
    obtain ⟨c, hr, hv⟩ := res_run (fu := fu) hσ hH hres (hu _ pr)
    exact TW.done hstop h3 hd hr (done_same hH hv)

theorem label_ok {G : Pg} (hG : chkG C C.fids G = true) (hw : C.P.follows .mixedOrders = true) : ∀ k, LabelOK C G k ∧ CallOK C (callOf G k) := by
  have hF := fns_of hG
  intro k
  induction k with
  | zero =>
    refine ⟨?_, ?_⟩
    · intro g f fn fu body j pc args lo H v H' a w μ items _ _ _ _ _ h; simp [run] at h
    · intro g f args cargs lo H v H' w μ _ h; simp [callOf, run] at h
  | succ k ih =>
    obtain ⟨hL, hC⟩ := ih
    have hS : CallSplit (callOf G k) := fun ρ g args lo H κ r h => run_split G k ρ g 0 args lo H κ r h
    have hLs : LabelOK C G (k + 1) := by
      intro g f fn fu body j pc args lo H v H' a w μ items h1 h2 h3 h4 h5 h hlo hle hi hσ hn hd hH
      unfold run at h
      simp only [h2, h5] at h
      obtain ⟨hb, h⟩ := cond_none h
      have hfn := chkG_get hG h1 h2
      unfold chkFn at hfn
      simp only [h3, h4, Bool.and_eq_true] at hfn
      obtain ⟨⟨⟨⟨g1, g2⟩, g3⟩, g4⟩, g5⟩ := hfn
      exact evC_sound hF hC hS hw hL h1 h2 h3 h4 g2 hlo pc.code pc.todo items _ H v H' a w μ (chkPieces_get g4 h5).1 h hi hσ hn hd hH hle
    refine ⟨hLs, ?_⟩
    intro g f args cargs lo H v H' w μ hg h hlo hle hv hH
    have hl := chkG_len hG
    obtain ⟨fn, hfn⟩ : ∃ fn, G[g]? = some fn := ⟨G[g]'(by have := (List.getElem?_eq_some_iff.1 hg).1; omega), List.getElem?_eq_getElem _⟩
    have hck := chkG_get hG hg hfn
    unfold chkFn at hck
    split at hck
    · rename_i fu hfu
      split at hck
      · rename_i body hbody
        simp only [Bool.and_eq_true, decide_eq_true_eq] at hck
        obtain ⟨⟨⟨⟨g1, g2⟩, g3⟩, g4⟩, g5⟩ := hck
        cases hps : fn.pieces with
        | nil => rw [hps] at g3; simp [firstOK] at g3
        | cons pc ps =>
          rw [hps] at g3
          simp only [firstOK, Bool.and_eq_true, decide_eq_true_eq] at g3
          obtain ⟨k1, k2⟩ := g3
          have hp0 : fn.pieces[0]? = some pc := by rw [hps]; rfl
          -- as many arguments as the function has
          have hargs : args.length = fn.np := by
            have h' := h
            unfold callOf run at h'
            simp only [hfn, hp0] at h'
            obtain ⟨hb, _⟩ := cond_none h'
            simp only [decide_eq_true_eq] at hb
            rw [hb, k1]; simp
          have hcl := hv.length
          let a : Act := { tmps := cargs.toArray ++ Array.replicate (fu.ntmps - cargs.toArray.size) undef, defers := [] }
          have hsz : a.tmps.size = fu.ntmps := by simp [a]; omega
          have hget : ∀ (i : Nat) (c : Value), cargs[i]? = some c → a.tmps.getD i undef = c := by
            intro i c hc
            have hi := (List.getElem?_eq_some_iff.1 hc).1
            rw [Array.getD_eq_getD_getElem?]
            simp only [a]
            rw [Array.getElem?_append_left (by simpa using hi)]
            simp [hc]
          have hER : ER C.fids μ (envOf pc.sig args) a := by
            intro x
            rcases envOf_get pc.sig args x with ⟨i, e1, u, e2, e3⟩ | e3
            · rw [e3]
              have hix : i = x := by
                rw [k1] at e1
                have hil := (List.getElem?_eq_some_iff.1 e1).1
                rw [List.getElem?_range (by simpa using hil)] at e1
                simpa using e1
              subst hix
              obtain ⟨c, hc, hr⟩ := hv.get e2
              rw [hget i c hc]; exact hr
            · rw [e3]; exact .unk _
          have ht := hLs g f fn fu body 0 pc args lo H v H' a w μ [.code body] hg hfn hfu hbody hp0 h hlo hle (by rw [k2]; exact ⟨by simp [itemAt, codeAt], trivial⟩) hER hsz rfl hH
          intro cs
          let b : Frame := { (default : Frame) with fn := f, kind := .normal }
          have henter : Frame.enter C.P f cargs.toArray .normal = b.at a [.code body] := by
            simp [Frame.enter, Frame.at, hfu, hbody, b, a]
          obtain ⟨c, w', fr, hR, hsteps, hfr, hleave⟩ := ht b cs rfl rfl
          exact ⟨.returned c, w', fr, ⟨c, rfl, hR⟩, by rw [henter]; exact hsteps, hfr, hleave⟩
      · simp at hck
    · simp at hck

/-- THE EVALUATOR IS SOUND. -/
theorem run_sound {G : Pg} (hG : chkG C C.fids G = true) (hw : C.P.follows .mixedOrders = true) {k g f : Nat} {args : List AV} {cargs : List Value} {lo : Nat} {H : AH} {v : AV} {H' : AH} {w : World} {μ : MU} (hg : C.fids[g]? = some f)
    (h : run G k PV g 0 args lo H pr = some (v, H')) (hlo : C.lo0 ≤ lo) (hle : lo ≤ H.length) (hv : VRs C.fids μ args cargs) (hH : HR C μ H w) : Calls C.P f cargs.toArray w fun e w' => ∃ c, e = .returned c ∧ Done C μ H w v H' c w' :=
  (label_ok hG hw k).2 g f args cargs lo H v H' w μ hg h hlo hle hv hH
end
end Go.Ab
