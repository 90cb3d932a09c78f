/- Regions that draw their order: whatever order is drawn, what is done is what the evaluator says. -/
import Derived.Test.YtmdndoghdbhipaaAbAD
set_option linter.unusedSimpArgs false
set_option linter.unusedVariables false
namespace Go.Ab
open Go Go.RowKit

/-- The frame when those positions are done. -/
def envAt (F : List FOp) (V : Nat → AV) (σ0 : Env) (D : Nat → Bool) : Nat → Env
  | 0 => σ0
  | p + 1 => match F[p]? with
    | some f => bif D p then putO (envAt F V σ0 D p) f.d (V p) else envAt F V σ0 D p
    | none => envAt F V σ0 D p

structure Way (call : CallT) (lo : Nat) (F : List FOp) (σ0 : Env) (H0 : AH) (σn : Env) (Hn : AH) (V : Nat → AV) (Hs : Nat → AH) : Prop where
  h0 : Hs 0 = H0
  hn : Hs F.length = Hn
  sn : envAt F V σ0 (fun _ => true) F.length = σn
  st : ∀ (p : Nat) (f : FOp), F[p]? = some f → FStep call lo f (envAt F V σ0 (fun _ => true) p) (Hs p) (V p) (Hs (p + 1))

theorem envAt_cons (f : FOp) (F : List FOp) (V : Nat → AV) (σ0 : Env) : ∀ p, envAt (f :: F) V σ0 (fun _ => true) (p + 1) = envAt F (fun p => V (p + 1)) (putO σ0 f.d (V 0)) (fun _ => true) p
  | 0 => by simp [envAt]
  | p + 1 => by
    rw [envAt]
    rw [envAt_cons f F V σ0 p]
    simp only [List.getElem?_cons_succ, cond_true]
    rw [envAt]
    simp only [cond_true]

theorem FTrace.way {call : CallT} {lo : Nat} {F : List FOp} {σ0 σn : Env} {H0 Hn : AH} (h : FTrace call lo F σ0 H0 σn Hn) : ∃ V Hs, Way call lo F σ0 H0 σn Hn V Hs := by
  induction h with
  | nil σ H => exact ⟨fun _ => .unk, fun _ => H, rfl, rfl, rfl, fun p f hp => by simp at hp⟩
  | cons f l σ H v H1 σ' H' h t ih =>
    obtain ⟨V, Hs, w⟩ := ih
    let V' : Nat → AV := fun p => match p with | 0 => v | p + 1 => V p
    let Hs' : Nat → AH := fun p => match p with | 0 => H | p + 1 => Hs p
    have hV : (fun p => V' (p + 1)) = V := rfl
    refine ⟨V', Hs', rfl, w.hn, ?_, fun p g hp => ?_⟩
    · have := envAt_cons f l V' σ l.length
      rw [List.length_cons, this]
      exact w.sn
    · cases p with
      | zero =>
        simp only [List.getElem?_cons_zero, Option.some.injEq] at hp
        subst hp
        show FStep call lo f σ H v (Hs 0)
        rw [w.h0]; exact h
      | succ p =>
        have := w.st p g (by simpa using hp)
        rw [envAt_cons]
        exact this

section
variable {F : List FOp} {V : Nat → AV} {σ0 : Env}

theorem envAt_same {D D' : Nat → Bool} (x : Nat) : ∀ p, (∀ (q : Nat) (g : FOp), q < p → F[q]? = some g → g.d = some x → D q = D' q) → envAt F V σ0 D p x = envAt F V σ0 D' p x
  | 0, _ => rfl
  | p + 1, h => by
    have ih := envAt_same x p (fun q g hq => h q g (by omega))
    simp only [envAt]
    cases hf : F[p]? with
    | none => exact ih
    | some f =>
      simp only
      by_cases hd : f.d = some x
      · have := h p f (by omega) hf hd
        rw [this]
        cases D' p
        · exact ih
        · simp only [cond_true]; rw [putO_get, putO_get, if_pos hd, if_pos hd]
      · have e1 : ∀ (E : Nat → Bool), (bif E p then putO (envAt F V σ0 E p) f.d (V p) else envAt F V σ0 E p) x = envAt F V σ0 E p x := fun E => by
          cases E p
          · rfl
          · simp only [cond_true]; rw [putO_get, if_neg hd]
        rw [e1, e1]; exact ih
/-- No writer of x from p on. -/
theorem envAt_stay {D : Nat → Bool} (x : Nat) (p : Nat) : ∀ k, (∀ (q : Nat) (g : FOp), p ≤ q → q < p + k → F[q]? = some g → g.d = some x → D q = false) → envAt F V σ0 D (p + k) x = envAt F V σ0 D p x
  | 0, _ => rfl
  | k + 1, h => by
    have ih := envAt_stay x p k (fun q g h1 h2 => h q g h1 (by omega))
    rw [← Nat.add_assoc]
    simp only [envAt]
    cases hf : F[p + k]? with
    | none => exact ih
    | some f =>
      simp only
      by_cases hd : f.d = some x
      · rw [h (p + k) f (by omega) (by omega) hf hd]; exact ih
      · have : (bif D (p + k) then putO (envAt F V σ0 D (p + k)) f.d (V (p + k)) else envAt F V σ0 D (p + k)) x = envAt F V σ0 D (p + k) x := by
          cases D (p + k)
          · rfl
          · simp only [cond_true]; rw [putO_get, if_neg hd]
        rw [this]; exact ih
end

theorem HR.pushNone {C : Ctx} {μ : MU} {H : AH} {w : World} (h : HR C μ H w) (b : Blk) : HR C (μ ++ [none]) (H ++ [b]) w := by
  have hl := h.len
  have hget : ∀ (i : Nat) (e : Ent), (μ ++ [none])[i]? = some (some e) → i < H.length ∧ μ[i]? = some (some e) := fun i e hi => by
    rw [getElem?_snoc] at hi
    split at hi
    · cases hi
    · exact ⟨by rw [← hl]; exact (List.getElem?_eq_some_iff.1 hi).1, hi⟩
  have hget2 : ∀ (i : Nat) (x : Blk), i < H.length → (H ++ [b])[i]? = some x → H[i]? = some x := fun i x hi hx => by rwa [List.getElem?_append_left hi] at hx
  refine ⟨by simp [hl], fun i x e hx he => ?_, fun i j bi bj ei ej hij hbi hbj hei hej => ?_, fun i e he => h.own i e (hget i e he).2, h.base, by simp; have := h.low; omega⟩
  · obtain ⟨h1, h2⟩ := hget i e he
    exact (h.blk i x e (hget2 i x h1 hx) h2).of (Ref.app _ _) rfl
  · obtain ⟨h1, h2⟩ := hget i ei hei
    obtain ⟨h3, h4⟩ := hget j ej hej
    exact h.sep i j bi bj ei ej hij (hget2 i bi h1 hbi) (hget2 j bj h3 hbj) h2 h4

section
variable {C : Ctx} {ops : Array Oper} {nt : Nat} {call : CallT} {lo : Nat} {F : List FOp} {V : Nat → AV} {Hs : Nat → AH} {σ0 σn : Env} {H0 Hn : AH}

def Dn (F : List FOp) (listed : Array Bool) (p : Nat) : Bool := match F[p]? with | some f => listed.getD f.i false | none => false
def Closed (ops : Array Oper) (listed : Array Bool) : Prop := ∀ (j : Nat) (o : Oper) (e : Edge), ops[j]? = some o → listed.getD j false = true → e ∈ o.after.toList → Region.binds .any e = true → listed.getD e.on false = true
theorem Closed.rch {listed : Array Bool} (h : Closed ops listed) {i j : Nat} (r : Rch ops i j) : listed.getD j false = true → listed.getD i false = true := by
  induction r with
  | dep j o e ho he hb => exact fun hj => h j o e ho hj he hb
  | far i j o e ho he hb r ih => exact fun hj => ih (h j o e ho hj he hb)

structure Inv (C : Ctx) (ops : Array Oper) (nt : Nat) (F : List FOp) (V : Nat → AV) (Hs : Nat → AH) (σ0 : Env) (μ0 : MU) (w0 : World) (a0 : Act) (listed : Array Bool) (a : Act) (w : World) (μ : MU) (m : Nat) : Prop where
  sz : listed.size = ops.size
  cl : Closed ops listed
  er : ∀ x, VR C.fids μ (envAt F V σ0 (Dn F listed) F.length x) (a.tmps.getD x undef)
  asz : a.tmps.size = nt
  defs : a.defers = a0.defers
  mle : m ≤ F.length
  hr : HR C μ (Hs m) w
  below : Below C.base w0 w
  loud : ∀ (p : Nat) (f : FOp), F[p]? = some f → Dn F listed p = true → 2 ≤ f.cls → p < m
  str : ∀ (p : Nat) (f : FOp), F[p]? = some f → p < m → 3 ≤ f.cls → Dn F listed p = true
  late : ∀ (p : Nat) (f : FOp), F[p]? = some f → p < m → f.cls = 2 → Dn F listed p = false → μ[(Hs p).length]? = some none ∧ (Hs m)[(Hs p).length]? = (Hs (p + 1))[(Hs p).length]?
  ext : Ext μ0 μ
  ext0 : μ0.length = (Hs 0).length
  keep : Keep μ0 (Hs 0) (Hs m)
  same : ∀ x, (∀ f ∈ F, f.d ≠ some x) → a.tmps.getD x undef = a0.tmps.getD x undef

/-- All that is known of the region. -/
structure Reg (C : Ctx) (ops : Array Oper) (nt : Nat) (call : CallT) (lo : Nat) (F : List FOp) (V : Nat → AV) (Hs : Nat → AH) (σ0 : Env) : Prop where
  hF : FnsOK C
  hC : CallOK C call
  hS : CallSplit call
  hB : CallBar call
  hlo : C.lo0 ≤ lo
  hle : lo ≤ (Hs 0).length
  st : ∀ (p : Nat) (f : FOp), F[p]? = some f → FStep call lo f (envAt F V σ0 (fun _ => true) p) (Hs p) (V p) (Hs (p + 1))
  ord : OrdAt ops F
  chk : ∀ f ∈ F, ∃ o, FChk C ops nt f o
  all : ∀ i, i < ops.size → ∃ p : Nat, ∃ f, F[p]? = some f ∧ f.i = i

variable (R : Reg C ops nt call lo F V Hs σ0)
include R

theorem Reg.grow1 {p : Nat} {f : FOp} (hp : F[p]? = some f) (hl : lo ≤ (Hs p).length) : Bar lo (Hs p) (Hs (p + 1)) := by
  rcases R.st p f hp with ⟨_, h⟩ | ⟨_, _, h⟩
  · split at h
    · exact evOp_bar R.hS R.hB h hl
    · rw [h.1]; exact .refl _ _
  · rw [h]; exact .refl _ _
theorem Reg.le (p : Nat) (hp : p ≤ F.length) : lo ≤ (Hs p).length ∧ ∀ q, q ≤ p → (Hs q).length ≤ (Hs p).length := by
  induction p with
  | zero => exact ⟨R.hle, fun q hq => by have : q = 0 := by omega
                                         subst this; exact Nat.le_refl _⟩
  | succ p ih =>
    obtain ⟨h1, h2⟩ := ih (by omega)
    have hf : F[p]? = some (F[p]'(by omega)) := List.getElem?_eq_getElem _
    have := (R.grow1 hf h1).2
    refine ⟨by omega, fun q hq => ?_⟩
    rcases Nat.lt_or_ge q (p + 1) with h | h
    · have := h2 q (by omega); omega
    · have : q = p + 1 := by omega
      subst this; exact Nat.le_refl _
theorem Reg.quiet {p : Nat} {f : FOp} (hp : F[p]? = some f) (hc : f.cls < 2) : Hs (p + 1) = Hs p := by
  rcases R.st p f hp with ⟨_, h⟩ | ⟨_, _, h⟩
  · split at h
    · rename_i o hk
      have hc0 : o.cls = 0 ∨ o.cls = 1 := by
        simp only [FOp.cls, hk] at hc
        cases hb : decide (o.cls = 2) && f.g.isSome
        · rw [hb, cond_false] at hc; omega
        · rw [hb, cond_true] at hc; omega
      rcases hc0 with hc0 | hc0
      · exact (evOp_pure hc0 h).1
      · exact (evOp_load hc0 h).1
    · exact h.1
  · exact h
theorem Reg.alloc {p : Nat} {f : FOp} (hp : F[p]? = some f) (hc : f.cls = 2) : ∃ io, f.k = .op io ∧ io.cls = 2 ∧ f.g = none ∧ evOp call lo io (envAt F V σ0 (fun _ => true) p) (Hs p) pr = some (V p, Hs (p + 1)) := by
  have hst := R.st p f hp
  have hkk : ∃ io, f.k = .op io ∧ io.cls = 2 ∧ f.g = none := by
    cases hk : f.k with
    | pick gt want px => simp [FOp.cls, hk] at hc
    | op o =>
      simp only [FOp.cls, hk] at hc
      cases hb : decide (o.cls = 2) && f.g.isSome
      · rw [hb, cond_false] at hc
        refine ⟨o, rfl, hc, ?_⟩
        simpa [hc] using hb
      · rw [hb, cond_true] at hc; cases hc
  obtain ⟨io, h1, h2, h3⟩ := hkk
  refine ⟨io, h1, h2, h3, ?_⟩
  rcases hst with ⟨_, h⟩ | ⟨h, _⟩
  · rw [h1] at h; exact h
  · rw [h3] at h; exact h.elim

/-- The next position that is not done looks at what it looked at in the order of the text. -/
theorem Reg.looks {listed : Array Bool} (hcl : Closed ops listed) {p : Nat} {f : FOp} (hp : F[p]? = some f) (hnd : Dn F listed p = false) (hdeps : ∀ i, Rch ops i f.i → listed.getD i false = true) :
    ∀ x ∈ f.looks, envAt F V σ0 (Dn F listed) F.length x = envAt F V σ0 (fun _ => true) p x := by
  intro x hx
  have hpl : p < F.length := (List.getElem?_eq_some_iff.1 hp).1
  have e1 : envAt F V σ0 (Dn F listed) p x = envAt F V σ0 (fun _ => true) p x := envAt_same x p fun q g hq hg hd => by
    rcases (R.ord.pair p q f g hp hg hq).1 with h | h
    · show Dn F listed q = true
      unfold Dn; rw [hg]; exact hdeps _ h
    · simp only [commB, Bool.and_eq_true, List.all_eq_true, Bool.not_eq_true'] at h
      have := (h.1.1 x (by rw [hd]; simp [dl])).1
      have hx' : memN x f.looks = true := memN_iff.2 hx
      rw [hx'] at this; cases this
  rw [← e1]
  have := envAt_stay (F := F) (V := V) (σ0 := σ0) (D := Dn F listed) x p (F.length - p) (fun q g h1 h2 hg hd => by
    cases hq : Dn F listed q
    · rfl
    · exfalso
      rcases Nat.lt_or_ge p q with hpq | hpq
      · rcases (R.ord.pair q p g f hg hp hpq).1 with h | h
        · have : listed.getD f.i false = true := hcl.rch h (by unfold Dn at hq; rw [hg] at hq; exact hq)
          unfold Dn at hnd; rw [hp] at hnd; simp only at hnd; rw [this] at hnd; cases hnd
        · simp only [commB, Bool.and_eq_true, List.all_eq_true, Bool.not_eq_true'] at h
          have := h.1.2 x (by rw [hd]; simp [dl])
          have hx' : memN x f.looks = true := memN_iff.2 hx
          rw [hx'] at this; cases this
      · have : q = p := by omega
        subst this; rw [hnd] at hq; cases hq)
  rw [show p + (F.length - p) = F.length by omega] at this
  exact this

/-- What is done when position p has been carried out. -/
theorem Reg.dn_set {listed : Array Bool} (hsz : listed.size = ops.size) {p : Nat} {f : FOp} (hp : F[p]? = some f) (q : Nat) : Dn F (listed.setIfInBounds f.i true) q = if q = p then true else Dn F listed q := by
  have hfi : f.i < listed.size := by
    obtain ⟨o, ho⟩ := R.chk f (List.mem_of_getElem? hp)
    rw [hsz]; exact (Array.getElem?_eq_some_iff.1 ho.at_).1
  unfold Dn
  by_cases hq : q = p
  · subst hq; rw [hp]; simp [hfi]
  · rw [if_neg hq]
    cases hg : F[q]? with
    | none => rfl
    | some g =>
      simp only
      have hne : g.i ≠ f.i := by
        rcases Nat.lt_or_ge q p with h | h
        · exact (R.ord.pair p q f g hp hg h).2
        · exact Ne.symm (R.ord.pair q p g f hg hp (by omega)).2
      exact getD_set_ne false (Ne.symm hne)
theorem Reg.env_set {listed : Array Bool} (hsz : listed.size = ops.size) (hcl : Closed ops listed) {p : Nat} {f : FOp} (hp : F[p]? = some f) (hnd : Dn F listed p = false) (x : Nat) :
    envAt F V σ0 (Dn F (listed.setIfInBounds f.i true)) F.length x = if f.d = some x then V p else envAt F V σ0 (Dn F listed) F.length x := by
  have hpl : p < F.length := (List.getElem?_eq_some_iff.1 hp).1
  by_cases hd : f.d = some x
  · rw [if_pos hd]
    have h1 : envAt F V σ0 (Dn F (listed.setIfInBounds f.i true)) (p + 1) x = V p := by
      simp only [envAt, hp]
      rw [R.dn_set hsz hp p, if_pos rfl, cond_true, putO_get, if_pos hd]
    rw [← h1]
    have := envAt_stay (F := F) (V := V) (σ0 := σ0) (D := Dn F (listed.setIfInBounds f.i true)) x (p + 1) (F.length - (p + 1)) (fun q g h1 h2 hg hgd => by
      rw [R.dn_set hsz hp q, if_neg (by omega)]
      cases hq : Dn F listed q
      · rfl
      · exfalso
        rcases (R.ord.pair q p g f hg hp (by omega)).1 with h | h
        · have : listed.getD f.i false = true := hcl.rch h (by unfold Dn at hq; rw [hg] at hq; exact hq)
          unfold Dn at hnd; rw [hp] at hnd; simp only at hnd; rw [this] at hnd; cases hnd
        · simp only [commB, Bool.and_eq_true, List.all_eq_true, Bool.not_eq_true'] at h
          have := (h.1.1 x (by rw [hd]; simp [dl])).2
          rw [memN_dl, hgd] at this; simp at this)
    rw [show p + 1 + (F.length - (p + 1)) = F.length by omega] at this
    exact this
  · rw [if_neg hd]
    exact envAt_same x F.length fun q g hq hg hgd => by
      rw [R.dn_set hsz hp q]
      by_cases hqp : q = p
      · subst hqp; rw [hp] at hg; cases hg; exact absurd hgd hd
      · rw [if_neg hqp]

/-- The heap's mark goes on over what is quiet, and over new blocks that are still to be made. -/
theorem Reg.advance {μ0 : MU} {w0 : World} {a0 : Act} {listed : Array Bool} {a : Act} {w : World} {m : Nat} : ∀ (k : Nat) {μ : MU}, Inv C ops nt F V Hs σ0 μ0 w0 a0 listed a w μ m → m + k ≤ F.length →
    (∀ (q : Nat) (f : FOp), m ≤ q → q < m + k → F[q]? = some f → 2 ≤ f.cls → f.cls = 2 ∧ Dn F listed q = false) → ∃ μ', Inv C ops nt F V Hs σ0 μ0 w0 a0 listed a w μ' (m + k) ∧ Ext μ μ'
  | 0, μ, I, _, _ => ⟨μ, I, .refl _⟩
  | k + 1, μ, I, hk, hq => by
    obtain ⟨μ1, I1, x1⟩ := Reg.advance k I (by omega) (fun q f h1 h2 => hq q f h1 (by omega))
    have hf : F[m + k]? = some (F[m + k]'(by omega)) := List.getElem?_eq_getElem _
    by_cases hc : F[m + k].cls < 2
    · have e := R.quiet hf hc
      refine ⟨μ1, ⟨I1.sz, I1.cl, I1.er, I1.asz, I1.defs, by omega, by rw [← Nat.add_assoc, e]; exact I1.hr, I1.below, fun p f hp hd hcl => by have := I1.loud p f hp hd hcl; omega, fun p f hp hpm hcl => ?_, fun p f hp hpm hcl hnd => ?_, I1.ext, I1.ext0, by rw [← Nat.add_assoc, e]; exact I1.keep, I1.same⟩, x1⟩
      · rcases Nat.lt_or_ge p (m + k) with h | h
        · exact I1.str p f hp h hcl
        · have : p = m + k := by omega
          subst this; rw [hf] at hp; cases hp; omega
      · rcases Nat.lt_or_ge p (m + k) with h | h
        · rw [← Nat.add_assoc, e]; exact I1.late p f hp h hcl hnd
        · have : p = m + k := by omega
          subst this; rw [hf] at hp; cases hp; omega
    · obtain ⟨hc2, hnd⟩ := hq (m + k) _ (by omega) (by omega) hf (by omega)
      obtain ⟨io, hk1, hk2, hk3, hev⟩ := R.alloc hf hc2
      have hHs : ∃ b, Hs (m + k + 1) = Hs (m + k) ++ [b] := by
        cases io <;> simp [IOp.cls] at hk2 <;> simp only [evOp] at hev
        case alloc zs => simp only [alc] at hev; obtain ⟨_, e⟩ := pr_inj hev; exact ⟨_, e.symm⟩
        case box n x => obtain ⟨_, hev⟩ := cond_none hev; simp only [alc] at hev; obtain ⟨_, e⟩ := pr_inj hev; exact ⟨_, e.symm⟩
        case bsl sz zs len ps => obtain ⟨us, _, hev⟩ := fillP_split hev; obtain ⟨_, hev⟩ := cond_none hev; simp only [mkb] at hev; obtain ⟨_, e⟩ := pr_inj hev; exact ⟨_, e.symm⟩
        case mksl zs bytes l c =>
          obtain ⟨n, _, hev⟩ := asI_some hev
          obtain ⟨n', _, hev⟩ := asI_some hev
          simp only [mks] at hev
          obtain ⟨_, hev⟩ := cond_none hev
          obtain ⟨_, e⟩ := pr_inj hev; exact ⟨_, e.symm⟩
        all_goals (rename_i fresh _; cases fresh <;> simp at hk2)
      obtain ⟨b, hHs⟩ := hHs
      have hlen := I1.hr.len
      refine ⟨μ1 ++ [none], ⟨I1.sz, I1.cl, fun x => (I1.er x).mono (Ref.app _ _), I1.asz, I1.defs, by omega, by rw [← Nat.add_assoc, hHs]; exact I1.hr.pushNone b, I1.below, fun p f hp hd hcl => by have := I1.loud p f hp hd hcl; omega, fun p f hp hpm hcl => ?_, fun p f hp hpm hcl hnd' => ?_, I1.ext.trans ⟨_, rfl⟩, I1.ext0, ?_, I1.same⟩, x1.trans ⟨_, rfl⟩⟩
      · rcases Nat.lt_or_ge p (m + k) with h | h
        · exact I1.str p f hp h hcl
        · have : p = m + k := by omega
          subst this; rw [hf] at hp; cases hp; omega
      · rw [← Nat.add_assoc]
        rcases Nat.lt_or_ge p (m + k) with h | h
        · obtain ⟨g1, g2⟩ := I1.late p f hp h hcl hnd'
          have hlt := (List.getElem?_eq_some_iff.1 g1).1
          exact ⟨by rw [List.getElem?_append_left hlt]; exact g1, by rw [hHs, List.getElem?_append_left (by rw [← hlen]; exact hlt)]; exact g2⟩
        · have : p = m + k := by omega
          subst this
          exact ⟨by rw [← hlen]; simp, rfl⟩
      · rw [← Nat.add_assoc, hHs]
        intro i hi
        have h1 := I1.keep i hi
        have hlt : i < (Hs (m + k)).length := by
          obtain ⟨ν, e⟩ := I1.ext
          have := (List.getElem?_eq_some_iff.1 hi).1
          rw [← hlen, e]; simp; omega
        rw [List.getElem?_append_left hlt]; exact h1

/-- Between two stages an old block stays as it was, or is dead. -/
theorem Reg.stay {b m : Nat} : ∀ (k : Nat), m + k ≤ F.length → b < (Hs m).length → (∀ (q : Nat) (f : FOp), m ≤ q → q < m + k → F[q]? = some f → f.cls ≤ 4) → (Hs (m + k))[b]? = (Hs m)[b]? ∨ (Hs (m + k))[b]? = some .dead
  | 0, _, _, _ => .inl rfl
  | k + 1, hk, hb, hq => by
    have ih := Reg.stay k (by omega) hb (fun q f h1 h2 => hq q f h1 (by omega))
    have hf : F[m + k]? = some (F[m + k]'(by omega)) := List.getElem?_eq_getElem _
    have hle := R.le (m + k) (by omega)
    have hbk : b < (Hs (m + k)).length := Nat.lt_of_lt_of_le hb (hle.2 m (by omega))
    have hstep : (Hs (m + k + 1))[b]? = (Hs (m + k))[b]? ∨ (Hs (m + k + 1))[b]? = some .dead := by
      by_cases hc : F[m + k].cls < 2
      · exact .inl (by rw [R.quiet hf hc])
      · have h4 := hq (m + k) _ (by omega) (by omega) hf
        rcases R.st (m + k) _ hf with ⟨_, h⟩ | ⟨_, _, h⟩
        · split at h
          · rename_i o hkk
            simp only [FOp.cls, hkk] at hc h4
            have hc' : o.cls = 2 ∨ o.cls = 3 ∨ o.cls = 4 := by
              cases hb2 : decide (o.cls = 2) && (F[m + k]).g.isSome
              · rw [hb2, cond_false] at hc h4; omega
              · rw [hb2, cond_true] at h4; omega
            rcases hc' with hc' | hc' | hc'
            · obtain ⟨io, hk1, hk2, hk3, hev⟩ := R.alloc hf (by
                simp only [FOp.cls, hkk]
                cases hb2 : decide (o.cls = 2) && (F[m + k]).g.isSome
                · exact hc'
                · rw [hb2, cond_true] at h4; omega)
              exact .inl ((evOp_bar_alloc R.hS R.hB hk2 hev).1 b hbk)
            · exact .inl ((evOp_fresh R.hS R.hB hc' h).1 b hbk)
            · exact (evOp_app hc' h).2 b hbk
          · exact .inl (by rw [h.1])
        · exact .inl (by rw [h])
    rw [← Nat.add_assoc]
    rcases hstep with h | h
    · rw [h]; exact ih
    · exact .inr h
end
end Go.Ab
