/- Plain lemmas, and the abstract evaluator with its soundness. No condition. -/
import Derived.Test.YtdoggefpmamoiaaAbA1
import Derived.Deep.Slices
import GoSem.Claim
/- Regions that draw their order, first part: what an operation looks at, what it leaves as it was, flat lists of operations. -/
set_option linter.unusedSimpArgs false
set_option linter.unusedVariables false
namespace Go.Ab
open Go Go.RowKit

def Opd.looks : Opd → List Nat
  | .t n => [n]
  | .c _ => []
def looksL : List Opd → List Nat
  | [] => []
  | x :: xs => x.looks ++ looksL xs
def IOp.looks : IOp → List Nat
  | .mkm r => (match r with | none => [] | some n => n.looks)
  | .look _ _ _ m k _ => m.looks ++ k.looks
  | .mupd _ m k v => m.looks ++ (k.looks ++ v.looks)
  | .lenm x => x.looks
  | .pf _ xs => looksL xs
  | .mov x => x.looks
  | .bin _ _ x y => x.looks ++ y.looks
  | .beq _ x y => x.looks ++ y.looks
  | .not x => x.looks
  | .conv _ _ x => x.looks
  | .ld _ x => x.looks
  | .st _ x v => x.looks ++ v.looks
  | .fadr x _ => x.looks
  | .fld x _ _ => x.looks
  | .iadr s i _ => s.looks ++ i.looks
  | .aadr x i _ _ => x.looks ++ i.looks
  | .alloc _ => []
  | .box _ x => x.looks
  | .bld _ ps => looksL (ps.map (·.2.2))
  | .bsl _ _ _ ps => looksL (ps.map (·.2.2))
  | .mksl _ _ l c => l.looks ++ c.looks
  | .len x => x.looks
  | .lens x => x.looks
  | .app _ _ s x => s.looks ++ x.looks
  | .ext x _ => x.looks
  | .call _ args _ _ => looksL args
  | .callv x args _ _ => x.looks ++ looksL args
  | .mkf _ caps => looksL caps
  | .nilck x => x.looks

def AgreeOn (l : List Nat) (σ τ : Env) : Prop := ∀ x ∈ l, σ x = τ x
theorem AgreeOn.left {l m : List Nat} {σ τ : Env} (h : AgreeOn (l ++ m) σ τ) : AgreeOn l σ τ := fun x hx => h x (by simp [hx])
theorem AgreeOn.right {l m : List Nat} {σ τ : Env} (h : AgreeOn (l ++ m) σ τ) : AgreeOn m σ τ := fun x hx => h x (by simp [hx])
theorem opd_agree {x : Opd} {σ τ : Env} (h : AgreeOn x.looks σ τ) : opd σ x = opd τ x := by
  cases x with
  | t n => exact h n (by simp [Opd.looks])
  | c v => rfl
theorem opds_agree : ∀ {xs : List Opd} {σ τ : Env}, AgreeOn (looksL xs) σ τ → xs.map (opd σ) = xs.map (opd τ)
  | [], _, _, _ => rfl
  | x :: xs, σ, τ, h => by simp only [List.map_cons, opd_agree h.left, opds_agree h.right]
theorem fillP_agree {ρ : Type} : ∀ {ps : List (Nat × Nat × Opd)} {σ τ : Env} {zs : List AV} {κ : List AV → Option ρ}, AgreeOn (looksL (ps.map (·.2.2))) σ τ → fillP σ zs ps κ = fillP τ zs ps κ
  | [], _, _, _, _, _ => by unfold fillP; rfl
  | (o, n, x) :: ps, σ, τ, zs, κ, h => by
    unfold fillP
    rw [opd_agree (x := x) h.left, fillP_agree (ps := ps) (zs := overlay zs o (cellsV (opd τ x))) h.right]
theorem evOp_agree {call : CallT} {lo : Nat} {ρ : Type} {io : IOp} {σ τ : Env} {H : AH} {κ : AV → AH → Option ρ} (h : AgreeOn io.looks σ τ) : evOp call lo io σ H κ = evOp call lo io τ H κ := by
  cases io <;> simp only [IOp.looks] at h <;> simp only [evOp]
  case mkm r => cases r with
    | none => rfl
    | some n => simp only; rw [opd_agree h]
  case look => rw [opd_agree h.left, opd_agree h.right]
  case mupd => rw [opd_agree h.left, opd_agree h.right.left, opd_agree h.right.right]
  case pf => rw [opds_agree h]
  case bin => rw [opd_agree h.left, opd_agree h.right]
  case beq => rw [opd_agree h.left, opd_agree h.right]
  case st => rw [opd_agree h.left, opd_agree h.right]
  case iadr => rw [opd_agree h.left, opd_agree h.right]
  case aadr => rw [opd_agree h.left, opd_agree h.right]
  case bld => rw [fillP_agree h]
  case bsl => rw [fillP_agree h]
  case mksl => rw [opd_agree h.left, opd_agree h.right]
  case app => rw [opd_agree h.left, opd_agree h.right]
  case call => rw [opds_agree h]
  case callv => rw [opd_agree h.left, opds_agree h.right]
  case mkf => rw [opds_agree h]
  all_goals first | rfl | rw [opd_agree h]

/-! ### What stays as it was -/
/-- Below lo nothing is written, and the heap grows. -/
def Bar (lo : Nat) (H H' : AH) : Prop := (∀ b : Nat, b < lo → H'[b]? = H[b]?) ∧ H.length ≤ H'.length
theorem Bar.refl (lo : Nat) (H : AH) : Bar lo H H := ⟨fun _ _ => rfl, Nat.le_refl _⟩
theorem Bar.trans {lo : Nat} {a b c : AH} (h : Bar lo a b) (k : Bar lo b c) : Bar lo a c := ⟨fun x hx => (k.1 x hx).trans (h.1 x hx), Nat.le_trans h.2 k.2⟩
theorem Bar.mono {lo lo' : Nat} {a b : AH} (h : Bar lo' a b) (hl : lo ≤ lo') : Bar lo a b := ⟨fun x hx => h.1 x (by omega), h.2⟩
theorem Bar.snoc {lo : Nat} {H : AH} (hl : lo ≤ H.length) (b : Blk) : Bar lo H (H ++ [b]) := ⟨fun x hx => List.getElem?_append_left (by omega), by simp⟩
theorem Bar.set {lo : Nat} {H : AH} {p : Nat} (hp : lo ≤ p) (b : Blk) : Bar lo H (H.set p b) := ⟨fun x hx => List.getElem?_set_ne (by omega), by simp⟩
def CallBar (call : CallT) : Prop := ∀ (g : Nat) (args : List AV) (lo : Nat) (H : AH) (v : AV) (H' : AH), call PV g args lo H pr = some (v, H') → lo ≤ H.length → Bar lo H H'

theorem evOp_bar {call : CallT} (hS : CallSplit call) (hB : CallBar call) {lo : Nat} {io : IOp} {σ : Env} {H H' : AH} {v : AV} (h : evOp call lo io σ H pr = some (v, H')) (hl : lo ≤ H.length) : Bar lo H H' := by
  have same : ∀ {u : AV}, pr u H = some (v, H') → Bar lo H H' := fun hh => by obtain ⟨_, rfl⟩ := pr_inj hh; exact .refl _ _
  cases io <;> simp only [evOp] at h
  case mkm r =>
    cases r with
    | none => obtain ⟨_, rfl⟩ := pr_inj h; exact .snoc hl _
    | some n => obtain ⟨c, hn, h⟩ := asI_some h; obtain ⟨_, rfl⟩ := pr_inj h; exact .snoc hl _
  case look st l z m k ok =>
    obtain ⟨mm, hm, h⟩ := asM_some h
    obtain ⟨es, q, h1, h2, h⟩ := mlook_some h
    exact same (castLf_some h)
  case mupd st m k v =>
    obtain ⟨mm, hm, h⟩ := asM_some h
    obtain ⟨b, es, q, _, _, hlb, _, _, h⟩ := mput_some h
    obtain ⟨_, rfl⟩ := pr_inj h
    exact .set hlb _
  case lenm x =>
    obtain ⟨mm, hm, h⟩ := asM_some h
    obtain ⟨es, h1, h⟩ := entries_some h
    exact same h
  case pf f xs => obtain ⟨v, h1, h2⟩ := evPF_some h; exact same h2
  case mov x => exact same h
  case bin op k x y =>
    obtain ⟨n, hn, h⟩ := asI_some h
    obtain ⟨m, hm, h⟩ := asI_some h
    cases op <;> simp only [binI] at h <;> first
      | exact same h
      | (by_cases h0 : m = 0
         · simp [h0] at h
         · simp only [h0, decide_false, cond_false] at h; exact same h)
      | (simp at h)
  case beq neg x y => obtain ⟨n, hn, h⟩ := asB_some h; obtain ⟨m, hm, h⟩ := asB_some h; exact same h
  case not x => obtain ⟨n, hn, h⟩ := asB_some h; exact same h
  case conv k k' x => obtain ⟨n, hn, h⟩ := asI_some h; exact same h
  case ld t x =>
    obtain ⟨p, hp, h⟩ := asP_some h
    obtain ⟨u, hu, h⟩ := ldT_some h
    exact same h
  case st n x y =>
    obtain ⟨p, hp, h⟩ := asP_some h
    cases n with
    | none =>
      simp only at h
      obtain ⟨hs, h⟩ := cond_none h
      obtain ⟨vs, sz, hb, hlo, hn, h⟩ := stc_some h
      obtain ⟨_, rfl⟩ := pr_inj h
      exact .set hlo _
    | some n =>
      simp only at h
      obtain ⟨us, hu, h⟩ := asAgg_some h
      obtain ⟨hs, h⟩ := cond_none h
      obtain ⟨vs, sz, hb, hlo, hn, h⟩ := stn_some h
      obtain ⟨_, rfl⟩ := pr_inj h
      exact .set hlo _
  case fadr x off => obtain ⟨p, hp, h⟩ := asP_some h; exact same h
  case fld x off n =>
    obtain ⟨vs, hp, h⟩ := asAgg_some h
    cases n with
    | none => simp only at h; split at h; exact same h; simp at h
    | some n => simp only at h; obtain ⟨hb, h⟩ := cond_none h; exact same h
  case iadr s i sz =>
    obtain ⟨s', hs, h⟩ := asS_some h
    obtain ⟨_, n, hn, h⟩ := asN_some h
    obtain ⟨p, hp, h0, h1, h⟩ := idx_some h
    exact same h
  case aadr x i len sz =>
    obtain ⟨p, hs, h⟩ := asP_some h
    obtain ⟨_, n, hn, h⟩ := asN_some h
    obtain ⟨hb, h⟩ := cond_none h
    exact same h
  case alloc zs => simp only [alc] at h; obtain ⟨_, rfl⟩ := pr_inj h; exact .snoc hl _
  case box n x => obtain ⟨hb, h⟩ := cond_none h; simp only [alc] at h; obtain ⟨_, rfl⟩ := pr_inj h; exact .snoc hl _
  case bld zs ps => obtain ⟨us, hu, h⟩ := fillP_split h; exact same h
  case bsl sz zs len ps =>
    obtain ⟨us, hu, h⟩ := fillP_split h
    obtain ⟨hb, h⟩ := cond_none h
    simp only [mkb] at h; obtain ⟨_, rfl⟩ := pr_inj h; exact .snoc hl _
  case mksl zs bytes l c =>
    obtain ⟨n, hn, h⟩ := asI_some h
    obtain ⟨m, hm, h⟩ := asI_some h
    simp only [mks] at h
    obtain ⟨hb, h⟩ := cond_none h
    obtain ⟨_, rfl⟩ := pr_inj h; exact .snoc hl _
  case len x => obtain ⟨n, hn, h⟩ := asS_some h; exact same h
  case lens x => obtain ⟨n, hn, h⟩ := asStr_some h; exact same h
  case app sz bytes s x =>
    obtain ⟨s', hs, h⟩ := asS_some h
    obtain ⟨y, hy, h⟩ := asS_some h
    simp only [appS] at h
    cases hyp : y.p with
    | none => rw [hyp] at h; simp only at h; obtain ⟨hb, h⟩ := cond_none h; exact same h
    | some q =>
      rw [hyp] at h; simp only at h
      obtain ⟨vs, sz0, hb, hn, h⟩ := ldn_some h
      unfold app at h
      by_cases h0 : y.len = 0
      · simp only [h0, decide_true, cond_true] at h; exact same h
      · simp only [h0, decide_false, cond_false] at h
        obtain ⟨hb1, h⟩ := cond_none h
        cases hsp : s'.p with
        | none => rw [hsp] at h; simp only at h; obtain ⟨hb2, h⟩ := cond_none h; obtain ⟨_, rfl⟩ := pr_inj h; exact .snoc hl _
        | some p =>
          rw [hsp] at h; simp only at h
          split at h
          · obtain ⟨hb2, h⟩ := cond_none h
            simp only [Bool.and_eq_true, decide_eq_true_eq] at hb2
            obtain ⟨_, rfl⟩ := pr_inj h
            exact (Bar.set hb2.1.1 _).trans (.snoc (by simpa using hl) _)
          · simp at h
  case ext x i => obtain ⟨l, hl', h⟩ := asTup_some h; split at h; exact same h; simp at h
  case call g args fresh rt =>
    obtain ⟨u, H1, hc, h⟩ := hS _ _ _ _ _ _ _ h
    obtain ⟨_, rfl⟩ := pr_inj (castTy_some h)
    cases fresh
    · exact hB _ _ _ _ _ _ (hc PV pr) hl
    · exact (hB _ _ _ _ _ _ (hc PV pr) (Nat.le_refl _)).mono hl
  case callv x args fresh rt =>
    split at h
    · obtain ⟨u, H1, hc, h⟩ := hS _ _ _ _ _ _ _ h
      obtain ⟨_, rfl⟩ := pr_inj (castTy_some h)
      cases fresh
      · exact hB _ _ _ _ _ _ (hc PV pr) hl
      · exact (hB _ _ _ _ _ _ (hc PV pr) (Nat.le_refl _)).mono hl
    · simp at h
  case mkf g caps => exact same h
  case nilck x => obtain ⟨p, hp, h⟩ := asP_some h; exact same h

/-! ### Classes: 0 nothing of memory, 1 a load, 2 a new block, 3 a call that writes nothing old, 4 an append, 5 anything -/
def IOp.cls : IOp → Nat
  | .mkm _ => 5
  | .mupd _ _ _ _ => 5
  | .look _ _ _ _ _ _ => 1
  | .lenm _ => 1
  | .ld _ _ => 1
  | .alloc _ => 2
  | .box _ _ => 2
  | .bsl _ _ _ _ => 2
  | .mksl _ _ _ _ => 2
  | .call _ _ true _ => 3
  | .callv _ _ true _ => 3
  | .call _ _ false _ => 5
  | .callv _ _ false _ => 5
  | .app _ _ _ _ => 4
  | .st _ _ _ => 5
  | _ => 0

/-- What reads no memory gives the same whatever the heap. -/
theorem evOp_pure {call : CallT} {lo : Nat} {io : IOp} {σ : Env} {H H' : AH} {v : AV} (hc : io.cls = 0) (h : evOp call lo io σ H pr = some (v, H')) : H' = H ∧ ∀ H2, evOp call lo io σ H2 pr = some (v, H2) := by
  cases io <;> simp [IOp.cls] at hc <;> simp only [evOp] at h ⊢
  case pf f xs => obtain ⟨u, h1, h2⟩ := evPF_some h; obtain ⟨rfl, rfl⟩ := pr_inj h2; exact ⟨rfl, fun H2 => h1 _ _⟩
  case mov x => obtain ⟨rfl, rfl⟩ := pr_inj h; exact ⟨rfl, fun _ => rfl⟩
  case bin op k x y =>
    obtain ⟨n, hn, h⟩ := asI_some h
    obtain ⟨m, hm, h⟩ := asI_some h
    simp only [hn, hm, asI_eq]
    cases op <;> simp only [binI] at h ⊢ <;> first
      | (obtain ⟨rfl, rfl⟩ := pr_inj h; exact ⟨rfl, fun _ => rfl⟩)
      | (by_cases h0 : m = 0
         · simp [h0] at h
         · simp only [h0, decide_false, cond_false] at h ⊢; obtain ⟨rfl, rfl⟩ := pr_inj h; exact ⟨rfl, fun _ => rfl⟩)
      | (simp at h)
  case beq neg x y =>
    obtain ⟨n, hn, h⟩ := asB_some h; obtain ⟨m, hm, h⟩ := asB_some h
    rw [hn, hm]; obtain ⟨rfl, rfl⟩ := pr_inj h; exact ⟨rfl, fun _ => rfl⟩
  case not x => obtain ⟨n, hn, h⟩ := asB_some h; rw [hn]; obtain ⟨rfl, rfl⟩ := pr_inj h; exact ⟨rfl, fun _ => rfl⟩
  case conv k k' x => obtain ⟨n, hn, h⟩ := asI_some h; simp only [hn, asI_eq]; obtain ⟨rfl, rfl⟩ := pr_inj h; exact ⟨rfl, fun _ => rfl⟩
  case fadr x off => obtain ⟨p, hp, h⟩ := asP_some h; rw [hp]; obtain ⟨rfl, rfl⟩ := pr_inj h; exact ⟨rfl, fun _ => rfl⟩
  case fld x off n =>
    obtain ⟨vs, hp, h⟩ := asAgg_some h
    rw [hp]
    cases n with
    | none =>
      simp only at h
      split at h
      · rename_i u hu; obtain ⟨rfl, rfl⟩ := pr_inj h; exact ⟨rfl, fun _ => by simp only [Ab.asAgg, hu]; rfl⟩
      · simp at h
    | some n =>
      simp only at h
      obtain ⟨hb, h⟩ := cond_none h
      obtain ⟨rfl, rfl⟩ := pr_inj h; exact ⟨rfl, fun _ => by simp only [Ab.asAgg, hb, cond_true]; rfl⟩
  case iadr s i sz =>
    obtain ⟨s', hs, h⟩ := asS_some h
    obtain ⟨_, n, hn, h⟩ := asN_some h
    obtain ⟨p, hp, h0, h1, h⟩ := idx_some h
    simp only [hs, hn, asS, asN, idx_eq hp h0 h1]
    obtain ⟨rfl, rfl⟩ := pr_inj h; exact ⟨rfl, fun _ => rfl⟩
  case aadr x i len sz =>
    obtain ⟨p, hs, h⟩ := asP_some h
    obtain ⟨_, n, hn, h⟩ := asN_some h
    obtain ⟨hb, h⟩ := cond_none h
    simp only [hs, hn, asP, asN, hb]
    obtain ⟨rfl, rfl⟩ := pr_inj h; exact ⟨rfl, fun _ => rfl⟩
  case bld zs ps =>
    obtain ⟨us, hu, h⟩ := fillP_split h
    obtain ⟨rfl, rfl⟩ := pr_inj h
    refine ⟨rfl, fun H2 => ?_⟩
    have : ∀ {ps : List (Nat × Nat × Opd)} {zs us : List AV} {κ : List AV → Option PV}, fillP σ zs ps some = some us → fillP σ zs ps κ = κ us := by
      intro ps
      induction ps with
      | nil => intro zs us κ h; unfold fillP at h ⊢; cases h; rfl
      | cons p ps ih => intro zs us κ h; obtain ⟨o', n', y'⟩ := p; unfold fillP at h ⊢; (try simp only at h ⊢); obtain ⟨hb, h⟩ := cond_none h; rw [hb]; exact ih h
    rw [this hu]; rfl
  case len x => obtain ⟨n, hn, h⟩ := asS_some h; rw [hn]; obtain ⟨rfl, rfl⟩ := pr_inj h; exact ⟨rfl, fun _ => rfl⟩
  case lens x => obtain ⟨n, hn, h⟩ := asStr_some h; rw [hn]; obtain ⟨rfl, rfl⟩ := pr_inj h; exact ⟨rfl, fun _ => rfl⟩
  case ext x i =>
    obtain ⟨l, hl, h⟩ := asTup_some h
    rw [hl]
    split at h
    · rename_i u hu; obtain ⟨rfl, rfl⟩ := pr_inj h; exact ⟨rfl, fun _ => by simp only [asTup, hu]; rfl⟩
    · simp at h
  case call g args fresh rt => cases fresh <;> simp at hc
  case callv x args fresh rt => cases fresh <;> simp at hc
  case mkf g caps => obtain ⟨rfl, rfl⟩ := pr_inj h; exact ⟨rfl, fun _ => rfl⟩
  case nilck x => obtain ⟨p, hp, h⟩ := asP_some h; rw [hp]; obtain ⟨rfl, rfl⟩ := pr_inj h; exact ⟨rfl, fun _ => rfl⟩

/-- A load: from one block, and whatever the rest of the heap. -/
theorem evOp_load {call : CallT} {lo : Nat} {io : IOp} {σ : Env} {H H' : AH} {v : AV} (hc : io.cls = 1) (h : evOp call lo io σ H pr = some (v, H')) :
    H' = H ∧ ((∀ H2 : AH, evOp call lo io σ H2 pr = some (v, H2)) ∨ ∃ b blk y, blk ≠ .dead ∧ (∀ z ∈ y.looks, z ∈ io.looks) ∧ (∀ (C : Ctx) (op : Op), chkOp C op io = true → ∃ x, chkOpd C.fids x y = true) ∧
      ((∃ p : Pt, opd σ y = .ptr (some p) ∧ p.b = b) ∨ opd σ y = .map (some b)) ∧ H[b]? = some blk ∧ ∀ H2 : AH, H2[b]? = H[b]? → evOp call lo io σ H2 pr = some (v, H2)) := by
  cases io <;> simp [IOp.cls] at hc
  case ld t x =>
    simp only [evOp] at h ⊢
    obtain ⟨p, hp, h⟩ := asP_some h
    obtain ⟨u, hu, h⟩ := ldT_some h
    obtain ⟨rfl, rfl⟩ := pr_inj h
    have hcell : ∃ vs sz, H[p.b]? = some (.cells vs sz) := by
      have h1 := hu some
      cases t with
      | lf l => simp only [ldT] at h1; obtain ⟨vs, sz, _, hb, _⟩ := ldc_some h1; exact ⟨vs, sz, hb⟩
      | agg ls => simp only [ldT] at h1; obtain ⟨vs, sz, hb, _⟩ := ldn_some h1; exact ⟨vs, sz, hb⟩
    obtain ⟨vs, sz, hb⟩ := hcell
    refine ⟨rfl, .inr ⟨p.b, _, x, by simp, fun z hz => hz, fun C op hk => ?_, .inl ⟨p, hp, rfl⟩, hb, fun H2 hH2 => ?_⟩⟩
    · simp only [chkOp] at hk
      split at hk
      · simp only [Bool.and_eq_true] at hk; exact ⟨_, hk.2⟩
      · simp at hk
    rw [hp]
    show ldT H2 t p (fun v => pr v H2) = _
    have : ∀ {κ : AV → Option PV}, ldT H2 t p κ = ldT H t p κ := by
      intro κ
      cases t <;> simp only [ldT, ldc, ldn, hH2]
    rw [this, hu]; rfl
  case look st l z m k ok =>
    simp only [evOp] at h ⊢
    obtain ⟨mm, hm, h⟩ := asM_some h
    obtain ⟨es, q, h1, h2, h⟩ := mlook_some h
    have hcl := fun κ' => castLf_eq h (ρ' := PV) κ'
    have h := castLf_some h
    obtain ⟨rfl, rfl⟩ := pr_inj h
    rcases h1 with ⟨rfl, rfl⟩ | ⟨b, rfl, hb⟩
    · refine ⟨rfl, .inl fun H2 => ?_⟩
      rw [hm]
      simp only [asM, mlook_eq (.inl ⟨rfl, rfl⟩) h2, hcl]; rfl
    · refine ⟨rfl, .inr ⟨b, _, m, by simp, fun z hz => by simp [IOp.looks, hz], fun C op hk => ?_, .inr hm, hb, fun H2 hH2 => ?_⟩⟩
      · simp only [chkOp] at hk
        split at hk
        · split at hk
          · simp only [Bool.and_eq_true] at hk; exact ⟨_, hk.1.2⟩
          · simp at hk
        · simp at hk
      · rw [hm]
        simp only [asM, mlook_eq (.inr ⟨b, rfl, by rw [hH2]; exact hb⟩) h2, hcl]; rfl
  case lenm x =>
    simp only [evOp] at h ⊢
    obtain ⟨mm, hm, h⟩ := asM_some h
    obtain ⟨es, h1, h⟩ := entries_some h
    obtain ⟨rfl, rfl⟩ := pr_inj h
    rcases h1 with ⟨rfl, rfl⟩ | ⟨b, rfl, hb⟩
    · exact ⟨rfl, .inl fun H2 => by rw [hm]; rfl⟩
    · refine ⟨rfl, .inr ⟨b, _, x, by simp, fun z hz => by simpa [IOp.looks] using hz, fun C op hk => ?_, .inr hm, hb, fun H2 hH2 => ?_⟩⟩
      · simp only [chkOp] at hk
        split at hk
        · split at hk
          · simp only [Bool.and_eq_true] at hk; exact ⟨_, hk.2⟩
          · simp at hk
        · simp at hk
      · rw [hm]
        simp only [asM, mlen, entries_eq (.inr ⟨b, rfl, by rw [hH2]; exact hb⟩)]; rfl
  all_goals (rename_i fresh _; cases fresh <;> simp at hc)

/-- An append: no old block is changed but to be dead. -/
theorem evOp_app {call : CallT} {lo : Nat} {io : IOp} {σ : Env} {H H' : AH} {v : AV} (hc : io.cls = 4) (h : evOp call lo io σ H pr = some (v, H')) :
    H.length ≤ H'.length ∧ ∀ b : Nat, b < H.length → H'[b]? = H[b]? ∨ H'[b]? = some .dead := by
  have same : ∀ {u : AV}, pr u H = some (v, H') → H.length ≤ H'.length ∧ ∀ b : Nat, b < H.length → H'[b]? = H[b]? ∨ H'[b]? = some .dead := fun hh => by
    obtain ⟨_, rfl⟩ := pr_inj hh; exact ⟨Nat.le_refl _, fun _ _ => .inl rfl⟩
  cases io <;> simp [IOp.cls] at hc
  case app sz bytes s x =>
    simp only [evOp] at h
    obtain ⟨s', hs, h⟩ := asS_some h
    obtain ⟨y, hy, h⟩ := asS_some h
    simp only [appS] at h
    cases hyp : y.p with
    | none => rw [hyp] at h; simp only at h; obtain ⟨hb, h⟩ := cond_none h; exact same h
    | some q =>
      rw [hyp] at h; simp only at h
      obtain ⟨vs, sz0, hb, hn, h⟩ := ldn_some h
      unfold app at h
      by_cases h0 : y.len = 0
      · simp only [h0, decide_true, cond_true] at h; exact same h
      · simp only [h0, decide_false, cond_false] at h
        obtain ⟨hb1, h⟩ := cond_none h
        cases hsp : s'.p with
        | none =>
          rw [hsp] at h; simp only at h; obtain ⟨hb2, h⟩ := cond_none h; obtain ⟨_, rfl⟩ := pr_inj h
          exact ⟨by simp, fun b hb => .inl (List.getElem?_append_left hb)⟩
        | some p =>
          rw [hsp] at h; simp only at h
          split at h
          · obtain ⟨hb2, h⟩ := cond_none h
            obtain ⟨_, rfl⟩ := pr_inj h
            refine ⟨by simp, fun b hb => ?_⟩
            rw [List.getElem?_append_left (by simpa using hb)]
            by_cases hbp : p.b = b
            · subst hbp; exact .inr (List.getElem?_set_self hb)
            · exact .inl (List.getElem?_set_ne hbp)
          · simp at h
  all_goals (rename_i fresh _; cases fresh <;> simp at hc)
/-- A new block leaves every old block. -/
theorem evOp_bar_alloc {call : CallT} (hS : CallSplit call) (hB : CallBar call) {lo : Nat} {io : IOp} {σ : Env} {H H' : AH} {v : AV} (hc : io.cls = 2) (h : evOp call lo io σ H pr = some (v, H')) : Bar H.length H H' := by
  cases io <;> simp [IOp.cls] at hc <;> simp only [evOp] at h
  case alloc zs => simp only [alc] at h; obtain ⟨_, rfl⟩ := pr_inj h; exact .snoc (Nat.le_refl _) _
  case box n x => obtain ⟨hb, h⟩ := cond_none h; simp only [alc] at h; obtain ⟨_, rfl⟩ := pr_inj h; exact .snoc (Nat.le_refl _) _
  case bsl sz zs len ps =>
    obtain ⟨us, hu, h⟩ := fillP_split h
    obtain ⟨hb, h⟩ := cond_none h
    simp only [mkb] at h; obtain ⟨_, rfl⟩ := pr_inj h; exact .snoc (Nat.le_refl _) _
  case mksl zs bytes l c =>
    obtain ⟨n, hn, h⟩ := asI_some h
    obtain ⟨m, hm, h⟩ := asI_some h
    simp only [mks] at h
    obtain ⟨hb, h⟩ := cond_none h
    obtain ⟨_, rfl⟩ := pr_inj h; exact .snoc (Nat.le_refl _) _
  all_goals (rename_i fresh _; cases fresh <;> simp at hc)
/-- A fresh call leaves every old block. -/
theorem evOp_fresh {call : CallT} (hS : CallSplit call) (hB : CallBar call) {lo : Nat} {io : IOp} {σ : Env} {H H' : AH} {v : AV} (hc : io.cls = 3) (h : evOp call lo io σ H pr = some (v, H')) : Bar H.length H H' := by
  cases io <;> simp [IOp.cls] at hc
  case call g args fresh rt =>
    cases fresh <;> simp at hc
    simp only [evOp] at h
    obtain ⟨u, H1, hc, h⟩ := hS _ _ _ _ _ _ _ h
    obtain ⟨_, rfl⟩ := pr_inj (castTy_some h)
    exact hB _ _ _ _ _ _ (hc PV pr) (Nat.le_refl _)
  case callv x args fresh rt =>
    cases fresh <;> simp at hc
    simp only [evOp] at h
    split at h
    · obtain ⟨u, H1, hc, h⟩ := hS _ _ _ _ _ _ _ h
      obtain ⟨_, rfl⟩ := pr_inj (castTy_some h)
      exact hB _ _ _ _ _ _ (hc PV pr) (Nat.le_refl _)
    · simp at h
end Go.Ab

/- Regions that draw their order, second part: new blocks, whenever they are made; flat lists of operations. -/
set_option linter.unusedSimpArgs false
set_option linter.unusedVariables false
namespace Go.Ab
open Go Go.RowKit

/-- A new block is made, whatever the heap. -/
def AllocRaw (C : Ctx) (o : Oper) (a : Act) (w : World) (μ : MU) (H : AH) (v : AV) (H' : AH) : Prop :=
  ∃ (us : List AV) (cs : List Value) (sz : Nat) (el : TypeId) (mk : Nat → AV) (c : Value), v = mk H.length ∧ H' = H ++ [.cells us sz] ∧
    (execOp a.eval o).run C.P w = .ok (.value c) (w.alloc (.cells cs.toArray el)) ∧ (∀ (j : Nat) (u : AV), us[j]? = some u → ∃ d, cs[j]? = some d ∧ VR C.fids μ u d) ∧
    ∀ (μ' : MU) (b : Nat), μ'[b]? = some (some ⟨w.heap.size, 0, cs.length, sz⟩) → VR C.fids μ' (mk b) c

section
variable {C : Ctx} {o : Oper} {a : Act} {w : World} {μ : MU} {H H' : AH} {σ : Env} {v : AV} {lo : Nat} {call : CallT}

theorem raw_bsl {t e : TypeId} {len sz : Nat} {zs : List AV} {z : Value} {ps : Array (Nat × Operand)} {qs : List (Nat × Nat × Opd)} (hop : o.op = .buildSlice t len ps) (ht : sliceB C.P t = some e) (hsz : sizeB C.P e = some sz)
    (hbig : len * sz ≤ 16777216 ∧ 0 < sz) (hz : zeroB C.P e = some z) (hc : chkVs ((Array.range (len * sz)).map (z.cells[· % z.cells.size]!)).toList zs = true)
    (hps : chkParts C.fids (fun i => some (i * sz, sz)) ps.toList qs = true)
    (h : evOp call lo (.bsl sz zs len qs) σ H pr = some (v, H')) (hσ : ER C.fids μ σ a) : AllocRaw C o a w μ H v H' := by
  simp only [evOp] at h
  obtain ⟨us, hu, h⟩ := fillP_split h
  obtain ⟨hsg, h⟩ := cond_none h
  simp only [mkb, pr, Option.some.injEq, Prod.mk.injEq] at h
  obtain ⟨rfl, rfl⟩ := h
  obtain ⟨out, ho, hv⟩ := fill_run (cells := (Array.range (len * sz)).map (z.cells[· % z.cells.size]!)) hσ hps hu (chkVs_sound hc)
  have houtl : out.size = len * sz := by
    have h1 := hv.length
    have h2 : us.length = zs.length := by
      have : ∀ {qs : List (Nat × Nat × Opd)} {zs us : List AV}, fillP σ zs qs some = some us → us.length = zs.length := by
        intro qs
        induction qs with
        | nil => intro zs us h; unfold fillP at h; cases h; rfl
        | cons q qs ih =>
          intro zs us h
          obtain ⟨o', n', y'⟩ := q
          unfold fillP at h
          try simp only at h
          obtain ⟨hb, h⟩ := cond_none h
          simp only [Bool.and_eq_true, decide_eq_true_eq] at hb
          rw [ih h, overlay_length _ _ _ (by omega)]
      exact this hu
    have h3 := (chkVs_sound (fids := C.fids) (μ := μ) hc).length
    simp at h1 h3
    omega
  refine ⟨us, out.toList, sz, e, fun b => .sl ⟨some ⟨b, 0⟩, len⟩, .slice (some ⟨w.heap.size, 0, none⟩) len len, rfl, rfl, ?_, fun j v hj => hv.get hj, fun μ' b hb => ?_⟩
  · have e1 : (ps.map fun p => (p.1, a.eval p.2)).toList = ps.toList.map fun p => (p.1, a.eval p.2) := by simp
    have e2 : (fun (x : Nat × Operand) => match x with | (i, x) => (i, a.eval x)) = fun p => (p.1, a.eval p.2) := by funext p; rfl
    simp only [execOp, hop, Instr.buildSlice, Sem.run_bind, Result.andThen_ok, underlying, run_program, slice_und ht, Sem.run_pure, sizeOf_run C.P w hsz, Sem.run_ite, run_unsupported]
    rw [if_neg (by simp; omega)]
    by_cases h0 : len * sz = 0
    · simp only [h0, if_true, Result.andThen_ok] at *
      simp only [e2, e1]
      have e4 : ∀ f : Nat → Value, Array.map f (Array.range 0) = #[] := fun f => by simp
      rw [e4] at ho ⊢
      rw [ho]
      simp [newRow]
    · simp only [h0, if_false, zero_run C.P w hz, Result.andThen_ok, e2, e1, ho]
      simp [newRow]
  · have := VR.sl (fids := C.fids) (μ := μ') b 0 len len _ hb (by simp; omega) (Nat.le_refl _) hbig.2
    simpa using this

theorem raw_mksl {t e : TypeId} {zs : List AV} {bytes : Nat} {z : Value} {x y : Operand} {x' y' : Opd} (hop : o.op = .makeSlice t x y) (ht : sliceB C.P t = some e) (hb : bytesB C.P e = some bytes) (hb0 : bytes ≠ 0) (hsz : sizeB C.P e = some zs.length) (h0 : zs.length ≠ 0)
    (hz : zeroB C.P e = some z) (hc : chkVs z.cells.toList zs = true) (hx : chkOpd C.fids x x' = true) (hy : chkOpd C.fids y y' = true)
    (h : evOp call lo (.mksl zs bytes x' y') σ H pr = some (v, H')) (hσ : ER C.fids μ σ a) : AllocRaw C o a w μ H v H' := by
  simp only [evOp] at h
  obtain ⟨l, hl, h⟩ := asI_some h
  obtain ⟨c, hcp, h⟩ := asI_some h
  simp only [mks] at h
  obtain ⟨hb', h⟩ := cond_none h
  simp only [Bool.and_eq_true, decide_eq_true_eq] at hb'
  obtain ⟨⟨hl0, hlc⟩, hroom⟩ := hb'
  have hrm : (room : Int) = 70368744177664 := rfl
  obtain ⟨h1, h2⟩ := pr_inj h
  subst h1; subst h2
  have vx := chkOpd_sound hx hσ
  have vy := chkOpd_sound hy hσ
  rw [hl] at vx; rw [hcp] at vy
  have hex := vx.int_inv
  have hey := vy.int_inv
  obtain ⟨i, hi, hib⟩ := info_run C.P w hb
  have hc63 : c ≤ 70368744177664 := by
    have : c * 1 ≤ c * (bytes : Int) := Int.mul_le_mul_of_nonneg_left (by omega) (by omega)
    omega
  have wl : IntKind.i64.wrap l = l := IntWalk.i64_in _ (by omega)
  have wc : IntKind.i64.wrap c = c := IntWalk.i64_in _ (by omega)
  have hvz := chkVs_sound (fids := C.fids) (μ := μ) hc
  have hzl : z.cells.size = zs.length := by have := hvz.length; simp at this; omega
  have hn0 : ∀ n, n = c.toNat * zs.length → (Array.range n).map (fun j => (if n = 0 then (#[] : Array Value) else z.cells)[j % (if n = 0 then (#[] : Array Value) else z.cells).size]!) = (Array.range n).map (z.cells[· % z.cells.size]!) := by
    intro n _
    by_cases hn : n = 0
    · subst hn; simp
    · simp [hn]
  let cs : List Value := ((Array.range (c.toNat * zs.length)).map (z.cells[· % z.cells.size]!)).toList
  have hcs : cs.length = c.toNat * zs.length := by simp [cs]
  have hcsA : cs.toArray = (Array.range (c.toNat * zs.length)).map (z.cells[· % z.cells.size]!) := Array.toArray_toList
  refine ⟨(List.replicate l.toNat zs).flatten, cs, zs.length, e, fun b => .sl ⟨some ⟨b, 0⟩, l.toNat⟩, .slice (some ⟨w.heap.size, 0, none⟩) l.toNat c.toNat, rfl, rfl, ?_, fun j v hj => ?_, fun μ' b hb => ?_⟩
  · have hbc : (bytes : Int) * c ≤ 70368744177664 := by rw [Int.mul_comm, ← hrm]; exact hroom
    simp only [execOp, hop, hex, hey, Instr.makeSlice, Sem.run_bind, Result.andThen_ok, underlying, run_program, slice_und ht, Sem.run_pure, Go.asInt, asIntOf, hi, hib, wl, wc, run_askRoom, sizeOf_run C.P w hsz]
    rw [if_neg (by simp; omega)]
    simp only [Sem.run_bind, run_askRoom, Result.andThen_ok, sizeOf_run C.P w hsz]
    rw [hcsA]
    by_cases hn : c.toNat * zs.length = 0
    · have e4 : ∀ f : Nat → Value, Array.map f (Array.range 0) = #[] := fun f => by simp
      simp only [hn, if_true, Sem.run_pure, Result.andThen_ok, newRow, Sem.run_bind, run_newObj, e4]
      rfl
    · simp only [hn, if_false, zero_run C.P w hz, Sem.run_bind, Sem.run_pure, Result.andThen_ok, newRow, run_newObj]
      rfl
  · have hjl : j < l.toNat * zs.length := by
      have := (List.getElem?_eq_some_iff.1 hj).1
      rw [flat_length] at this; exact this
    rw [flat_get zs h0 _ _ hjl] at hj
    obtain ⟨q, hq, hr⟩ := hvz.get hj
    have hle : l.toNat * zs.length ≤ c.toNat * zs.length := Nat.mul_le_mul_right _ (by omega)
    have hqs : z.cells[j % zs.length]? = some q := by simpa using hq
    refine ⟨q, ?_, hr⟩
    simp only [cs, Array.toList_map, Array.toList_range, List.getElem?_map]
    rw [List.getElem?_range (by omega)]
    simp only [Option.map_some, hzl]
    rw [Array.getElem!_eq_getD, Array.getD_eq_getD_getElem?, hqs]; rfl
  · have := VR.sl (fids := C.fids) (μ := μ') b 0 l.toNat c.toNat _ hb (by simp [hcs]) (by omega) (by simp only; omega)
    simpa using this

theorem alloc_raw {io : IOp} (hcls : io.cls = 2) (hc : chkOp C o.op io = true) (h : evOp call lo io σ H pr = some (v, H')) (hσ : ER C.fids μ σ a) : AllocRaw C o a w μ H v H' := by
  cases io <;> simp [IOp.cls] at hcls <;> simp only [chkOp] at hc
  case alloc zs =>
    split at hc
    · rename_i t hop
      split at hc
      · rename_i z hz
        simp only [evOp, alc] at h
        obtain ⟨rfl, rfl⟩ := pr_inj h
        refine ⟨zs, z.cells.toList, zs.length, t, fun b => .ptr (some ⟨b, 0⟩), .pointer (some ⟨w.heap.size, 0, none⟩), rfl, rfl, ?_, fun j u hj => (chkVs_sound hc).get hj, fun μ' b hb => ?_⟩
        · simp [execOp, hop, Instr.alloc, zero_run C.P w hz, newVar, newRow]
        · have := VR.ptr (fids := C.fids) b 0 _ hb; simpa using this
      · simp at hc
    · simp at hc
  case box n x' =>
    split at hc
    · rename_i t x hop
      simp only [evOp] at h
      obtain ⟨hb, h⟩ := cond_none h
      simp only [Bool.and_eq_true, decide_eq_true_eq] at hb
      simp only [alc] at h
      obtain ⟨rfl, rfl⟩ := pr_inj h
      have hv := (chkOpd_sound hc hσ).cells hb.1.1
      refine ⟨cellsV (opd σ x'), (a.eval x).cells.toList, (cellsV (opd σ x')).length, t, fun b => .ptr (some ⟨b, 0⟩), .pointer (some ⟨w.heap.size, 0, none⟩), rfl, rfl, ?_, fun j u hj => hv.get hj, fun μ' b hb => ?_⟩
      · simp [execOp, hop, Instr.box, newVar, newRow]
      · have := VR.ptr (fids := C.fids) b 0 _ hb; simpa using this
    · simp at hc
  case bsl sz zs len qs =>
    split at hc
    · rename_i t n ps hop
      split at hc
      · rename_i e he
        simp only [Bool.and_eq_true, decide_eq_true_eq] at hc
        obtain ⟨⟨⟨⟨rfl, h1⟩, h2⟩, h3⟩, h4⟩ := hc
        split at h3
        · rename_i z hz; exact raw_bsl hop he h1 h2 hz h3 h4 h hσ
        · simp at h3
      · simp at hc
    · simp at hc
  case mksl zs bytes x' y' =>
    split at hc
    · rename_i t x y hop
      split at hc
      · rename_i e he
        simp only [Bool.and_eq_true, decide_eq_true_eq] at hc
        obtain ⟨⟨⟨⟨⟨⟨h1, h2⟩, h3⟩, h4⟩, h5⟩, h6⟩, h7⟩ := hc
        split at h5
        · rename_i z hz; exact raw_mksl hop he h1 h2 h3 h4 hz h5 h6 h7 h hσ
        · simp at h5
      · simp at hc
    · simp at hc
  all_goals (rename_i fresh _; cases fresh <;> simp at hcls)
end

/-! ### Flat lists -/
inductive FK where
  | op (o : IOp)
  | pick (gt : Nat) (want : Bool) (px : Opd)
structure FOp where
  i : Nat
  d : Option Nat
  g : GC
  k : FK
def gl : GC → List Nat
  | none => []
  | some (t, _) => [t]
def FOp.looks (f : FOp) : List Nat := gl f.g ++ match f.k with | .op o => o.looks | .pick gt _ px => gt :: px.looks
def FOp.cls (f : FOp) : Nat :=
  match f.k with
  | .pick _ _ _ => 0
  | .op o => bif decide (o.cls = 2) && f.g.isSome then 5 else o.cls
def Steps.flat (g : GC) : Steps → List FOp
  | .nil => []
  | .op i d o r => ⟨i, d, g, .op o⟩ :: r.flat g
  | .chk _ r => r.flat g
  | .grp gt want inner i pd px r => inner.flat (some (gt, want)) ++ ⟨i, some pd, g, .pick gt want px⟩ :: r.flat g

def GMet (g : GC) (σ : Env) : Prop := match g with | none => True | some (t, w) => σ t = .bool w
def GUn (g : GC) (σ : Env) : Prop := match g with | none => False | some (t, w) => σ t = .bool (!w) ∨ σ t = .tup []
/-- One operation of a flat list. -/
def FStep (call : CallT) (lo : Nat) (f : FOp) (σ : Env) (H : AH) (v : AV) (H' : AH) : Prop :=
  (GMet f.g σ ∧ match f.k with
    | .op o => evOp call lo o σ H pr = some (v, H')
    | .pick gt want px => H' = H ∧ ∃ g b, σ gt = .bool g ∧ v = .bool b ∧ (g = want → opd σ px = .bool b) ∧ (g ≠ want → b = !want)) ∨
  (GUn f.g σ ∧ v = .tup [] ∧ H' = H)
inductive FTrace (call : CallT) (lo : Nat) : List FOp → Env → AH → Env → AH → Prop where
  | nil (σ : Env) (H : AH) : FTrace call lo [] σ H σ H
  | cons (f : FOp) (l : List FOp) (σ : Env) (H : AH) (v : AV) (H1 : AH) (σ' : Env) (H' : AH) (h : FStep call lo f σ H v H1) (t : FTrace call lo l (putO σ f.d v) H1 σ' H') : FTrace call lo (f :: l) σ H σ' H'
theorem FTrace.app {call : CallT} {lo : Nat} {l m : List FOp} {σ σ1 σ2 : Env} {H H1 H2 : AH} (h : FTrace call lo l σ H σ1 H1) (k : FTrace call lo m σ1 H1 σ2 H2) : FTrace call lo (l ++ m) σ H σ2 H2 := by
  induction h with
  | nil => exact k
  | cons f l σ H v H1 σ' H' h t ih => exact .cons f _ σ H v H1 _ _ h (ih k)

/-- What was forgotten is not looked at again. -/
def chkF (D : List Nat) : Steps → Bool
  | .nil => true
  | .op _ _ o r => (o.looks.all fun x => !memN x D) && chkF D r
  | .chk _ r => chkF D r
  | .grp gt _ inner _ _ px r => !memN gt D && chkF D inner && chkF (inner.dsts ++ D) r

def Like (D : List Nat) (σ τ : Env) : Prop := ∀ x, σ x = τ x ∨ (σ x = .unk ∧ memN x D = true)
theorem Like.agree {D : List Nat} {σ τ : Env} (h : Like D σ τ) {l : List Nat} (hl : l.all (fun x => !memN x D) = true) : AgreeOn l σ τ := fun x hx => by
  rcases h x with h | ⟨_, h⟩
  · exact h
  · have := List.all_eq_true.1 hl x hx; simp [h] at this
theorem Like.put {D : List Nat} {σ τ : Env} (h : Like D σ τ) (d : Option Nat) (v : AV) : Like D (putO σ d v) (putO τ d v) := fun x => by
  cases d with
  | none => exact h x
  | some d =>
    simp only [putO, Ab.put]
    cases Nat.beq x d
    · exact h x
    · exact .inl rfl
theorem putO_get (σ : Env) (d : Option Nat) (v : AV) (x : Nat) : putO σ d v x = if d = some x then v else σ x := by
  cases d with
  | none => simp [putO]
  | some d =>
    simp only [putO, Ab.put]
    cases hx : Nat.beq x d
    · have : ¬ d = x := fun e => by subst e; simp at hx
      simp [this]
    · have : x = d := Nat.eq_of_beq_eq_true hx
      simp [this]

section
variable {C : Ctx} {ops : Array Oper} {nt : Nat} {call : CallT} {lo : Nat}
theorem flat_skip : ∀ (ss : Steps) (gt : Nat) (want : Bool) (seen : List Nat) (σ : Env) (H : AH), chkS C ops nt (some (gt, want)) seen ss = true → (σ gt = .bool (!want) ∨ σ gt = .tup []) → (∀ d, memN d seen = true → σ d = .tup []) →
    ∃ σ', FTrace call lo (ss.flat (some (gt, want))) σ H σ' H ∧ (∀ x, memN x ss.dsts = false → σ' x = σ x) ∧ ∀ x, memN x ss.dsts = true → σ' x = .tup []
  | .nil, gt, want, seen, σ, H, _, _, _ => ⟨σ, .nil σ H, fun _ _ => rfl, fun x hx => by simp [Steps.dsts, memN] at hx⟩
  | .chk _ rest, gt, want, seen, σ, H, hc, hg, hs => by
    unfold chkS at hc
    exact flat_skip rest gt want seen σ H hc hg hs
  | .op i d io rest, gt, want, seen, σ, H, hc, hg, hs => by
    unfold chkS at hc
    split at hc
    · rename_i o hi
      simp only [Bool.and_eq_true, decide_eq_true_eq] at hc
      obtain ⟨⟨⟨⟨⟨h1, h2⟩, h3⟩, h4⟩, h5⟩, h6⟩ := hc
      have hgd : d ≠ some gt := by intro e; simp [freeB, dl, e, memN] at h5
      obtain ⟨σ', t, e1, e2⟩ := flat_skip rest gt want (dl d ++ seen) (putO σ d (.tup [])) H h6 (by rw [putO_get, if_neg hgd]; exact hg) (fun x hx => by
        rw [putO_get]
        split
        · rfl
        · rename_i hne
          rw [memN_app, memN_dl, Bool.or_eq_true] at hx
          rcases hx with hx | hx
          · exact absurd (of_decide_eq_true hx) hne
          · exact hs x hx)
      refine ⟨σ', .cons ⟨i, d, some (gt, want), .op io⟩ _ σ H (.tup []) H σ' H (.inr ⟨hg, rfl, rfl⟩) t, fun x hx => ?_, fun x hx => ?_⟩
      · rw [Steps.dsts, memN_app, memN_dl, Bool.or_eq_false_iff, decide_eq_false_iff_not] at hx
        rw [e1 x hx.2, putO_get, if_neg hx.1]
      · by_cases hr : memN x rest.dsts = true
        · exact e2 x hr
        · have hr' : memN x rest.dsts = false := by simpa using hr
          rw [Steps.dsts, memN_app, memN_dl, hr', Bool.or_false, decide_eq_true_eq] at hx
          rw [e1 x hr', putO_get, if_pos hx]
    · simp at hc
  | .grp gt2 want2 inner i pd px rest, gt, want, seen, σ, H, hc, hg, hs => by
    unfold chkS at hc
    split at hc
    · rename_i o hi
      simp only [Bool.and_eq_true, decide_eq_true_eq, Bool.or_eq_true, Bool.not_eq_true', Option.isNone_some, Bool.false_eq_true, false_or] at hc
      obtain ⟨⟨⟨⟨⟨⟨⟨⟨h1, h2⟩, h3⟩, h4⟩, h5⟩, h6⟩, h7⟩, h8⟩, h9⟩ := hc
      have hfr : memN gt (pd :: inner.dsts) = false := by simpa [freeB] using h5
      rw [memN_cons, Bool.or_eq_false_iff] at hfr
      have hpd : pd ≠ gt := fun e => by subst e; simp at hfr
      obtain ⟨σ1, t1, e1, e2⟩ := flat_skip inner gt2 want2 [] σ H h8 (.inr (hs gt2 h7)) (fun d hd => by simp [memN] at hd)
      have hg1 : σ1 gt = .bool (!want) ∨ σ1 gt = .tup [] := by rw [e1 gt hfr.2]; exact hg
      obtain ⟨σ2, t2, e3, e4⟩ := flat_skip rest gt want (pd :: (inner.dsts ++ seen)) (putO σ1 (some pd) (.tup [])) H h9 (by rw [putO_get, if_neg (by simpa using hpd)]; exact hg1) (fun x hx => by
        rw [putO_get]
        split
        · rfl
        · rename_i hne
          rw [memN_cons, memN_app] at hx
          simp only [Bool.or_eq_true, decide_eq_true_eq] at hx
          rcases hx with rfl | hx | hx
          · exact absurd rfl hne
          · exact e2 x hx
          · by_cases hin : memN x inner.dsts = true
            · exact e2 x hin
            · rw [e1 x (by simpa using hin)]; exact hs x hx)
      refine ⟨σ2, t1.app (.cons ⟨i, some pd, some (gt, want), .pick gt2 want2 px⟩ _ σ1 H (.tup []) H σ2 H (.inr ⟨hg1, rfl, rfl⟩) t2), fun x hx => ?_, fun x hx => ?_⟩
      · rw [Steps.dsts, memN_app, memN_cons] at hx
        simp only [Bool.or_eq_false_iff, decide_eq_false_iff_not] at hx
        rw [e3 x hx.2.2, putO_get, if_neg (by simpa using Ne.symm hx.2.1), e1 x hx.1]
      · by_cases hr : memN x rest.dsts = true
        · exact e4 x hr
        · have hr' : memN x rest.dsts = false := by simpa using hr
          rw [e3 x hr', putO_get]
          split
          · rfl
          · rename_i hne
            rw [Steps.dsts, memN_app, memN_cons, hr'] at hx
            simp only [Bool.or_false, Bool.or_eq_true, decide_eq_true_eq] at hx
            rcases hx with hx | rfl
            · exact e2 x hx
            · exact absurd rfl hne
    · simp at hc

/-- The evaluator's way through a region is a way through its flat list. -/
theorem flat_of (hS : CallSplit call) : ∀ (ss : Steps) (g : GC) (seen : List Nat) {ρ : Type} (σ τ : Env) (H : AH) (κ : Env → AH → Option ρ) (r : ρ) (D : List Nat), evS call lo ss ρ σ H κ = some r → chkS C ops nt g seen ss = true → chkF D ss = true → Like D σ τ → GMet g τ →
    ∃ σ' H' τ' D', FTrace call lo (ss.flat g) τ H τ' H' ∧ κ σ' H' = some r ∧ Like D' σ' τ' ∧ (∀ x, memN x ss.dsts = false → τ' x = τ x)
  | .nil, g, seen, _, σ, τ, H, κ, r, D, h, _, _, hl, _ => ⟨σ, H, τ, D, .nil τ H, h, hl, fun _ _ => rfl⟩
  | .chk x rest, g, seen, _, σ, τ, H, κ, r, D, h, hc, hf, hl, hg => by
    unfold evS at h
    unfold chkS at hc
    unfold chkF at hf
    obtain ⟨_, h⟩ := cond_none h
    exact flat_of hS rest g seen σ τ H κ r D h hc hf hl hg
  | .op i d io rest, g, seen, _, σ, τ, H, κ, r, D, h, hc, hf, hl, hg => by
    unfold evS at h
    unfold chkS at hc
    unfold chkF at hf
    split at hc
    · rename_i o hi
      simp only [Bool.and_eq_true, decide_eq_true_eq] at hc hf
      obtain ⟨⟨⟨⟨⟨h1, h2⟩, h3⟩, h4⟩, h5⟩, h6⟩ := hc
      obtain ⟨v, H1, he, h⟩ := evOp_split hS h
      have he' : evOp call lo io τ H pr = some (v, H1) := by rw [← evOp_agree (hl.agree hf.1)]; exact he PV pr
      have hg1 : GMet g (putO τ d v) := by
        cases g with
        | none => trivial
        | some p =>
          obtain ⟨gt, want⟩ := p
          have : memN gt (dl d) = false := by simpa [freeB] using h5
          rw [memN_dl, decide_eq_false_iff_not] at this
          show putO τ d v gt = _
          rw [putO_get, if_neg this]; exact hg
      obtain ⟨σ', H', τ', D', t, hk, hl', hs'⟩ := flat_of hS rest g (dl d ++ seen) (putO σ d v) (putO τ d v) H1 κ r D h h6 hf.2 (hl.put d v) hg1
      refine ⟨σ', H', τ', D', .cons ⟨i, d, g, .op io⟩ _ τ H v H1 τ' H' (.inl ⟨hg, he'⟩) t, hk, hl', fun x hx => ?_⟩
      rw [Steps.dsts, memN_app, memN_dl, Bool.or_eq_false_iff, decide_eq_false_iff_not] at hx
      rw [hs' x hx.2, putO_get, if_neg hx.1]
    · simp at hc
  | .grp gt want inner i pd px rest, g, seen, _, σ, τ, H, κ, r, D, h, hc, hf, hl, hg => by
    unfold evS at h
    unfold chkS at hc
    unfold chkF at hf
    split at hc
    · rename_i o hi
      simp only [Bool.and_eq_true, decide_eq_true_eq, Bool.or_eq_true, Bool.not_eq_true'] at hc hf
      obtain ⟨⟨⟨⟨⟨⟨⟨⟨h1, h2⟩, h3⟩, h4⟩, h5⟩, h6⟩, h7⟩, h8⟩, h9⟩ := hc
      obtain ⟨⟨f1, f2⟩, f3⟩ := hf
      obtain ⟨gb, hgb, h⟩ := asB_some h
      obtain ⟨q, hq, h⟩ := Option.bind_eq_some_iff.1 h
      have hgτ : τ gt = .bool gb := by
        rcases hl gt with e | ⟨e, _⟩
        · rw [← e]; exact hgb
        · rw [hgb] at e; cases e
      have outer : ∀ {τ1 : Env} {v : AV}, (∀ x, memN x inner.dsts = false → τ1 x = τ x) → GMet g τ1 ∧ GMet g (putO τ1 (some pd) v) := by
        intro τ1 v e
        cases g with
        | none => exact ⟨trivial, trivial⟩
        | some p =>
          obtain ⟨g0, w0⟩ := p
          have : memN g0 (pd :: inner.dsts) = false := by simpa [freeB] using h5
          rw [memN_cons, Bool.or_eq_false_iff, decide_eq_false_iff_not] at this
          have e0 : τ1 g0 = .bool w0 := by rw [e g0 this.2]; exact hg
          refine ⟨e0, ?_⟩
          show putO τ1 (some pd) v g0 = _
          rw [putO_get, if_neg (by simpa using Ne.symm this.1)]; exact e0
      have behind : ∀ (τ1 : Env) (H1 : AH) (b : Bool), q = (b, H1) → FTrace call lo (inner.flat (some (gt, want))) τ H τ1 H1 → (∀ x, memN x inner.dsts = false → τ1 x = τ x) →
          ((gb = want → opd τ1 px = .bool b) ∧ (gb ≠ want → b = !want)) →
          ∃ σ' H' τ' D', FTrace call lo (Steps.flat g (.grp gt want inner i pd px rest)) τ H τ' H' ∧ κ σ' H' = some r ∧ Like D' σ' τ' ∧ (∀ x, memN x (Steps.dsts (.grp gt want inner i pd px rest)) = false → τ' x = τ x) := by
        intro τ1 H1 b hqb t1 e1 hb
        subst hqb
        have hgt1 : τ1 gt = .bool gb := by rw [e1 gt h6]; exact hgτ
        have hl1 : Like (inner.dsts ++ D) (put (forget σ inner.dsts) pd (.bool b)) (putO τ1 (some pd) (.bool b)) := by
          intro x
          rw [putO_get]
          simp only [put, forget]
          cases hx : Nat.beq x pd
          · have hne : ¬ pd = x := fun e => by subst e; simp at hx
            simp only [cond_false, Option.some.injEq, hne, if_false]
            cases hin : memN x inner.dsts
            · simp only [cond_false]
              rcases hl x with e | ⟨e, e'⟩
              · exact .inl (by rw [e1 x hin]; exact e)
              · exact .inr ⟨e, by rw [memN_app, e']; simp⟩
            · exact .inr ⟨rfl, by rw [memN_app, hin]; simp⟩
          · have : x = pd := Nat.eq_of_beq_eq_true hx
            subst this
            exact .inl (by simp)
        obtain ⟨σ', H', τ', D', t, hk, hl', hs'⟩ := flat_of hS rest g (pd :: (inner.dsts ++ seen)) _ _ H1 κ r _ h h9 f3 hl1 (outer e1).2
        refine ⟨σ', H', τ', D', t1.app (.cons ⟨i, some pd, g, .pick gt want px⟩ _ τ1 H1 (.bool b) H1 τ' H' (.inl ⟨(outer (v := .unk) e1).1, rfl, gb, b, hgt1, rfl, hb⟩) t), hk, hl', fun x hx => ?_⟩
        rw [Steps.dsts, memN_app, memN_cons] at hx
        simp only [Bool.or_eq_false_iff, decide_eq_false_iff_not] at hx
        rw [hs' x hx.2.2, putO_get, if_neg (by simpa using Ne.symm hx.2.1), e1 x hx.1]
      by_cases hgw : gb = want
      · subst hgw
        have hif : (bif gb then gb else !gb) = true := by cases gb <;> rfl
        rw [hif, cond_true] at hq
        obtain ⟨σ1, H1, τ1, D1, t1, hk1, hl1, e1⟩ := flat_of hS inner (some (gt, gb)) [] σ τ H _ q D hq h8 f2 hl hgτ
        obtain ⟨b, hb, hk1⟩ := asB_some hk1
        simp only [Option.some.injEq] at hk1
        refine behind τ1 H1 b hk1.symm t1 e1 ⟨fun _ => ?_, fun e => absurd rfl e⟩
        cases px with
        | c v => exact hb
        | t n =>
          simp only [opd] at hb ⊢
          rcases hl1 n with e | ⟨e, _⟩
          · rw [← e]; exact hb
          · rw [hb] at e; cases e
      · have hif : (bif want then gb else !gb) = false := by cases gb <;> cases want <;> simp at hgw ⊢
        rw [hif, cond_false] at hq
        simp only [Option.some.injEq] at hq
        have hgn : gb = !want := by cases gb <;> cases want <;> simp at hgw ⊢
        obtain ⟨τ1, t1, e1, _⟩ := flat_skip (call := call) (lo := lo) inner gt want [] τ H h8 (.inl (by rw [hgτ, hgn])) (fun d hd => by simp [memN] at hd)
        exact behind τ1 H (!want) hq.symm t1 e1 ⟨fun e => absurd e hgw, fun _ => rfl⟩
    · simp at hc
end
end Go.Ab

/- Regions that draw their order. -/
set_option linter.unusedSimpArgs false
set_option linter.unusedVariables false
namespace Go.Ab
open Go Go.RowKit

def compatB : Nat → Nat → Bool
  | 0, _ => true
  | _, 0 => true
  | 1, 1 => true
  | 1, 2 => true
  | 1, 3 => true
  | 2, 1 => true
  | 2, 2 => true
  | 2, 3 => true
  | 2, 4 => true
  | 2, 5 => true
  | 3, 1 => true
  | 4, 1 => true
  | _, _ => false
/-- p, which stands ahead of f, may as well come behind it. -/
def commB (p f : FOp) : Bool :=
  ((dl p.d).all fun x => !memN x f.looks && !memN x (dl f.d)) && ((dl f.d).all fun x => !memN x p.looks) && compatB p.cls f.cls

structure En where
  f : FOp
  m : Nat
def maskAt (i : Nat) : List En → Nat
  | [] => 0
  | e :: l => bif Nat.beq e.f.i i then e.m else maskAt i l
def hasI (i : Nat) : List En → Bool
  | [] => false
  | e :: l => bif Nat.beq e.f.i i then true else hasI i l
def maskOf (acc : List En) : List Edge → Nat
  | [] => 0
  | e :: l => bif Region.binds .any e then (2 ^ e.on ||| maskAt e.on acc) ||| maskOf acc l else maskOf acc l
def depsIn (acc : List En) : List Edge → Bool
  | [] => true
  | e :: l => (!Region.binds .any e || hasI e.on acc) && depsIn acc l
def allB (f : FOp) (m : Nat) : List En → Bool
  | [] => true
  | e :: l => (Nat.testBit m e.f.i || commB e.f f) && allB f m l
def chkOrd (ops : Array Oper) : List En → List FOp → Bool
  | _, [] => true
  | acc, f :: fs => (match ops[f.i]? with
    | some o => depsIn acc o.after.toList && !hasI f.i acc && allB f (maskOf acc o.after.toList) acc && chkOrd ops (⟨f, maskOf acc o.after.toList⟩ :: acc) fs
    | none => false)
def hasF (i : Nat) : List FOp → Bool
  | [] => false
  | f :: l => bif Nat.beq f.i i then true else hasF i l
def chkD (C : Ctx) (ops : Array Oper) (nt : Nat) (ss : Steps) : Bool :=
  chkS C ops nt none [] ss && chkF [] ss && chkOrd ops [] (ss.flat none) && (List.range ops.size).all (fun i => hasF i (ss.flat none))

inductive Rch (ops : Array Oper) : Nat → Nat → Prop where
  | dep (j : Nat) (o : Oper) (e : Edge) (h : ops[j]? = some o) (he : e ∈ o.after.toList) (hb : Region.binds .any e = true) : Rch ops e.on j
  | far (i j : Nat) (o : Oper) (e : Edge) (h : ops[j]? = some o) (he : e ∈ o.after.toList) (hb : Region.binds .any e = true) (r : Rch ops i e.on) : Rch ops i j

theorem hasI_some {i : Nat} : ∀ {acc : List En}, hasI i acc = true → ∃ e ∈ acc, e.f.i = i
  | [], h => by simp [hasI] at h
  | e :: l, h => by
    unfold hasI at h
    cases hb : Nat.beq e.f.i i
    · rw [hb] at h; obtain ⟨x, hx, hi⟩ := hasI_some h; exact ⟨x, by simp [hx], hi⟩
    · exact ⟨e, by simp, Nat.eq_of_beq_eq_true hb⟩
theorem hasI_none {i : Nat} : ∀ {acc : List En}, hasI i acc = false → ∀ e ∈ acc, e.f.i ≠ i
  | [], _, e, he => by simp at he
  | x :: l, h, e, he => by
    unfold hasI at h
    cases hb : Nat.beq x.f.i i
    · rw [hb] at h
      rcases List.mem_cons.1 he with rfl | he
      · intro e'; subst e'; simp at hb
      · exact hasI_none h e he
    · rw [hb] at h; simp at h
theorem maskAt_some {i j : Nat} : ∀ {acc : List En}, Nat.testBit (maskAt i acc) j = true → ∃ e ∈ acc, e.f.i = i ∧ Nat.testBit e.m j = true
  | [], h => by simp [maskAt] at h
  | e :: l, h => by
    unfold maskAt at h
    cases hb : Nat.beq e.f.i i
    · rw [hb] at h; obtain ⟨x, hx, h1, h2⟩ := maskAt_some h; exact ⟨x, by simp [hx], h1, h2⟩
    · rw [hb] at h; exact ⟨e, by simp, Nat.eq_of_beq_eq_true hb, h⟩
theorem maskOf_some {acc : List En} {j : Nat} : ∀ {l : List Edge}, Nat.testBit (maskOf acc l) j = true → ∃ e ∈ l, Region.binds .any e = true ∧ (e.on = j ∨ Nat.testBit (maskAt e.on acc) j = true)
  | [], h => by simp [maskOf] at h
  | e :: l, h => by
    unfold maskOf at h
    cases hb : Region.binds .any e
    · rw [hb] at h; obtain ⟨x, hx, h1⟩ := maskOf_some h; exact ⟨x, by simp [hx], h1⟩
    · rw [hb, cond_true, Nat.testBit_or, Nat.testBit_or, Nat.testBit_two_pow, Bool.or_eq_true, Bool.or_eq_true] at h
      rcases h with (h | h) | h
      · exact ⟨e, by simp, hb, .inl (of_decide_eq_true h)⟩
      · exact ⟨e, by simp, hb, .inr h⟩
      · obtain ⟨x, hx, h1⟩ := maskOf_some h; exact ⟨x, by simp [hx], h1⟩
theorem depsIn_some {acc : List En} : ∀ {l : List Edge}, depsIn acc l = true → ∀ e ∈ l, Region.binds .any e = true → ∃ x ∈ acc, x.f.i = e.on
  | [], _, e, he, _ => by simp at he
  | y :: l, h, e, he, hb => by
    simp only [depsIn, Bool.and_eq_true, Bool.or_eq_true, Bool.not_eq_true'] at h
    rcases List.mem_cons.1 he with rfl | he
    · rcases h.1 with h1 | h1
      · rw [hb] at h1; cases h1
      · exact hasI_some h1
    · exact depsIn_some h.2 e he hb
theorem allB_some {f : FOp} {m : Nat} : ∀ {acc : List En}, allB f m acc = true → ∀ e ∈ acc, Nat.testBit m e.f.i = true ∨ commB e.f f = true
  | [], _, e, he => by simp at he
  | y :: l, h, e, he => by
    simp only [allB, Bool.and_eq_true, Bool.or_eq_true] at h
    rcases List.mem_cons.1 he with rfl | he
    · exact h.1
    · exact allB_some h.2 e he

structure OrdAt (ops : Array Oper) (F : List FOp) : Prop where
  pair : ∀ (q p : Nat) (f g : FOp), F[q]? = some f → F[p]? = some g → p < q → (Rch ops g.i f.i ∨ commB g f = true) ∧ g.i ≠ f.i
  deps : ∀ (q : Nat) (f : FOp) (o : Oper) (e : Edge), F[q]? = some f → ops[f.i]? = some o → e ∈ o.after.toList → Region.binds .any e = true → ∃ (p : Nat) (g : FOp), p < q ∧ F[p]? = some g ∧ g.i = e.on

theorem chkOrd_spec {ops : Array Oper} : ∀ (fs : List FOp) (acc : List En), (∀ e ∈ acc, ∀ i, Nat.testBit e.m i = true → Rch ops i e.f.i) → chkOrd ops acc fs = true →
    ∀ (q : Nat) (f : FOp), fs[q]? = some f → (∀ e ∈ acc, (Rch ops e.f.i f.i ∨ commB e.f f = true) ∧ e.f.i ≠ f.i) ∧ (∀ (p : Nat) (g : FOp), fs[p]? = some g → p < q → (Rch ops g.i f.i ∨ commB g f = true) ∧ g.i ≠ f.i) ∧
      ∀ (o : Oper) (e : Edge), ops[f.i]? = some o → e ∈ o.after.toList → Region.binds .any e = true → (∃ x ∈ acc, x.f.i = e.on) ∨ ∃ (p : Nat) (g : FOp), p < q ∧ fs[p]? = some g ∧ g.i = e.on
  | [], _, _, _, q, f, h => by simp at h
  | f0 :: fs, acc, hm, hc, q, f, hq => by
    simp only [chkOrd] at hc
    split at hc
    · rename_i o ho
      simp only [Bool.and_eq_true, Bool.not_eq_true'] at hc
      obtain ⟨⟨⟨h1, h2⟩, h3⟩, h4⟩ := hc
      have hmask : ∀ i, Nat.testBit (maskOf acc o.after.toList) i = true → Rch ops i f0.i := fun i hi => by
        obtain ⟨e, he, hb, hh⟩ := maskOf_some hi
        rcases hh with rfl | hh
        · exact .dep _ o e ho he hb
        · obtain ⟨x, hx, hxi, hxm⟩ := maskAt_some hh
          have := hm x hx i hxm
          rw [hxi] at this
          exact .far i _ o e ho he hb this
      cases q with
      | zero =>
        simp only [List.getElem?_cons_zero, Option.some.injEq] at hq
        subst hq
        refine ⟨fun e he => ⟨?_, hasI_none h2 e he⟩, fun p g _ hp => absurd hp (by omega), fun o' e ho' he hb => ?_⟩
        · rcases allB_some h3 e he with h | h
          · exact .inl (hmask _ h)
          · exact .inr h
        · rw [ho] at ho'; cases ho'
          exact .inl (depsIn_some h1 e he hb)
      | succ q =>
        obtain ⟨g1, g2, g3⟩ := chkOrd_spec fs (⟨f0, maskOf acc o.after.toList⟩ :: acc) (fun e he => by
          rcases List.mem_cons.1 he with rfl | he
          · exact hmask
          · exact hm e he) h4 q f (by simpa using hq)
        refine ⟨fun e he => g1 e (by simp [he]), fun p g hp hpq => ?_, fun o' e ho' he hb => ?_⟩
        · cases p with
          | zero => simp only [List.getElem?_cons_zero, Option.some.injEq] at hp; subst hp; exact g1 _ (List.mem_cons_self ..)
          | succ p => exact g2 p g (by simpa using hp) (by omega)
        · rcases g3 o' e ho' he hb with ⟨x, hx, hxi⟩ | ⟨p, g, h5, h6, h7⟩
          · rcases List.mem_cons.1 hx with rfl | hx
            · exact .inr ⟨0, f0, by omega, rfl, hxi⟩
            · exact .inl ⟨x, hx, hxi⟩
          · exact .inr ⟨p + 1, g, by omega, by simpa using h6, h7⟩
    · simp at hc
theorem ordAt_of {ops : Array Oper} {F : List FOp} (h : chkOrd ops [] F = true) : OrdAt ops F :=
  ⟨fun q p f g hq hp hpq => ((chkOrd_spec F [] (fun e he => by simp at he) h q f hq).2.1 p g hp hpq), fun q f o e hq ho he hb => by
    rcases (chkOrd_spec F [] (fun e he => by simp at he) h q f hq).2.2 o e ho he hb with ⟨x, hx, _⟩ | h
    · simp at hx
    · exact h⟩

/-- Each operation of the flat list was checked. -/
structure FChk (C : Ctx) (ops : Array Oper) (nt : Nat) (f : FOp) (o : Oper) : Prop where
  at_ : ops[f.i]? = some o
  dst : o.dst = f.d
  lt : dstB nt f.d = true
  grd : guardB ops o f.g = true
  kind : match f.k with | .op io => chkOp C o.op io = true | .pick gt want px => pickB C.fids o.op gt want px = true
theorem flat_chk {C : Ctx} {ops : Array Oper} {nt : Nat} : ∀ (ss : Steps) (g : GC) (seen : List Nat), chkS C ops nt g seen ss = true → ∀ f ∈ ss.flat g, ∃ o, FChk C ops nt f o
  | .nil, _, _, _, f, hf => by simp [Steps.flat] at hf
  | .chk _ r, g, seen, h, f, hf => by unfold chkS at h; exact flat_chk r g seen h f hf
  | .op i d io r, g, seen, h, f, hf => by
    unfold chkS at h
    split at h
    · rename_i o hi
      simp only [Bool.and_eq_true, decide_eq_true_eq] at h
      obtain ⟨⟨⟨⟨⟨h1, h2⟩, h3⟩, h4⟩, h5⟩, h6⟩ := h
      rcases List.mem_cons.1 hf with rfl | hf
      · exact ⟨o, hi, h2, h3, h4, h1⟩
      · exact flat_chk r g _ h6 f hf
    · simp at h
  | .grp gt want inner i pd px r, g, seen, h, f, hf => by
    unfold chkS at h
    split at h
    · rename_i o hi
      simp only [Bool.and_eq_true, decide_eq_true_eq, Bool.or_eq_true, Bool.not_eq_true'] at h
      obtain ⟨⟨⟨⟨⟨⟨⟨⟨h1, h2⟩, h3⟩, h4⟩, h5⟩, h6⟩, h7⟩, h8⟩, h9⟩ := h
      rcases List.mem_append.1 hf with hf | hf
      · exact flat_chk inner _ _ h8 f hf
      · rcases List.mem_cons.1 hf with rfl | hf
        · exact ⟨o, hi, h2, by simpa [dstB] using h3, h4, h1⟩
        · exact flat_chk r g _ h9 f hf
    · simp at h
end Go.Ab

/- Regions that draw their order: whatever order is drawn, what is done is what the evaluator says. -/
set_option linter.unusedSimpArgs false
set_option linter.unusedVariables false
namespace Go.Ab
open Go Go.RowKit

/-- The frame when those positions are done. -/
def envAt (F : List FOp) (V : Nat → AV) (σ0 : Env) (D : Nat → Bool) : Nat → Env
  | 0 => σ0
  | p + 1 => match F[p]? with
    | some f => bif D p then putO (envAt F V σ0 D p) f.d (V p) else envAt F V σ0 D p
    | none => envAt F V σ0 D p

structure Way (call : CallT) (lo : Nat) (F : List FOp) (σ0 : Env) (H0 : AH) (σn : Env) (Hn : AH) (V : Nat → AV) (Hs : Nat → AH) : Prop where
  h0 : Hs 0 = H0
  hn : Hs F.length = Hn
  sn : envAt F V σ0 (fun _ => true) F.length = σn
  st : ∀ (p : Nat) (f : FOp), F[p]? = some f → FStep call lo f (envAt F V σ0 (fun _ => true) p) (Hs p) (V p) (Hs (p + 1))

theorem envAt_cons (f : FOp) (F : List FOp) (V : Nat → AV) (σ0 : Env) : ∀ p, envAt (f :: F) V σ0 (fun _ => true) (p + 1) = envAt F (fun p => V (p + 1)) (putO σ0 f.d (V 0)) (fun _ => true) p
  | 0 => by simp [envAt]
  | p + 1 => by
    rw [envAt]
    rw [envAt_cons f F V σ0 p]
    simp only [List.getElem?_cons_succ, cond_true]
    rw [envAt]
    simp only [cond_true]

theorem FTrace.way {call : CallT} {lo : Nat} {F : List FOp} {σ0 σn : Env} {H0 Hn : AH} (h : FTrace call lo F σ0 H0 σn Hn) : ∃ V Hs, Way call lo F σ0 H0 σn Hn V Hs := by
  induction h with
  | nil σ H => exact ⟨fun _ => .unk, fun _ => H, rfl, rfl, rfl, fun p f hp => by simp at hp⟩
  | cons f l σ H v H1 σ' H' h t ih =>
    obtain ⟨V, Hs, w⟩ := ih
    let V' : Nat → AV := fun p => match p with | 0 => v | p + 1 => V p
    let Hs' : Nat → AH := fun p => match p with | 0 => H | p + 1 => Hs p
    have hV : (fun p => V' (p + 1)) = V := rfl
    refine ⟨V', Hs', rfl, w.hn, ?_, fun p g hp => ?_⟩
    · have := envAt_cons f l V' σ l.length
      rw [List.length_cons, this]
      exact w.sn
    · cases p with
      | zero =>
        simp only [List.getElem?_cons_zero, Option.some.injEq] at hp
        subst hp
        show FStep call lo f σ H v (Hs 0)
        rw [w.h0]; exact h
      | succ p =>
        have := w.st p g (by simpa using hp)
        rw [envAt_cons]
        exact this

section
variable {F : List FOp} {V : Nat → AV} {σ0 : Env}

theorem envAt_same {D D' : Nat → Bool} (x : Nat) : ∀ p, (∀ (q : Nat) (g : FOp), q < p → F[q]? = some g → g.d = some x → D q = D' q) → envAt F V σ0 D p x = envAt F V σ0 D' p x
  | 0, _ => rfl
  | p + 1, h => by
    have ih := envAt_same x p (fun q g hq => h q g (by omega))
    simp only [envAt]
    cases hf : F[p]? with
    | none => exact ih
    | some f =>
      simp only
      by_cases hd : f.d = some x
      · have := h p f (by omega) hf hd
        rw [this]
        cases D' p
        · exact ih
        · simp only [cond_true]; rw [putO_get, putO_get, if_pos hd, if_pos hd]
      · have e1 : ∀ (E : Nat → Bool), (bif E p then putO (envAt F V σ0 E p) f.d (V p) else envAt F V σ0 E p) x = envAt F V σ0 E p x := fun E => by
          cases E p
          · rfl
          · simp only [cond_true]; rw [putO_get, if_neg hd]
        rw [e1, e1]; exact ih
/-- No writer of x from p on. -/
theorem envAt_stay {D : Nat → Bool} (x : Nat) (p : Nat) : ∀ k, (∀ (q : Nat) (g : FOp), p ≤ q → q < p + k → F[q]? = some g → g.d = some x → D q = false) → envAt F V σ0 D (p + k) x = envAt F V σ0 D p x
  | 0, _ => rfl
  | k + 1, h => by
    have ih := envAt_stay x p k (fun q g h1 h2 => h q g h1 (by omega))
    rw [← Nat.add_assoc]
    simp only [envAt]
    cases hf : F[p + k]? with
    | none => exact ih
    | some f =>
      simp only
      by_cases hd : f.d = some x
      · rw [h (p + k) f (by omega) (by omega) hf hd]; exact ih
      · have : (bif D (p + k) then putO (envAt F V σ0 D (p + k)) f.d (V (p + k)) else envAt F V σ0 D (p + k)) x = envAt F V σ0 D (p + k) x := by
          cases D (p + k)
          · rfl
          · simp only [cond_true]; rw [putO_get, if_neg hd]
        rw [this]; exact ih
end

theorem HR.pushNone {C : Ctx} {μ : MU} {H : AH} {w : World} (h : HR C μ H w) (b : Blk) : HR C (μ ++ [none]) (H ++ [b]) w := by
  have hl := h.len
  have hget : ∀ (i : Nat) (e : Ent), (μ ++ [none])[i]? = some (some e) → i < H.length ∧ μ[i]? = some (some e) := fun i e hi => by
    rw [getElem?_snoc] at hi
    split at hi
    · cases hi
    · exact ⟨by rw [← hl]; exact (List.getElem?_eq_some_iff.1 hi).1, hi⟩
  have hget2 : ∀ (i : Nat) (x : Blk), i < H.length → (H ++ [b])[i]? = some x → H[i]? = some x := fun i x hi hx => by rwa [List.getElem?_append_left hi] at hx
  refine ⟨by simp [hl], fun i x e hx he => ?_, fun i j bi bj ei ej hij hbi hbj hei hej => ?_, fun i e he => h.own i e (hget i e he).2, h.base, by simp; have := h.low; omega⟩
  · obtain ⟨h1, h2⟩ := hget i e he
    exact (h.blk i x e (hget2 i x h1 hx) h2).of (Ref.app _ _) rfl
  · obtain ⟨h1, h2⟩ := hget i ei hei
    obtain ⟨h3, h4⟩ := hget j ej hej
    exact h.sep i j bi bj ei ej hij (hget2 i bi h1 hbi) (hget2 j bj h3 hbj) h2 h4

section
variable {C : Ctx} {ops : Array Oper} {nt : Nat} {call : CallT} {lo : Nat} {F : List FOp} {V : Nat → AV} {Hs : Nat → AH} {σ0 σn : Env} {H0 Hn : AH}

def Dn (F : List FOp) (listed : Array Bool) (p : Nat) : Bool := match F[p]? with | some f => listed.getD f.i false | none => false
def Closed (ops : Array Oper) (listed : Array Bool) : Prop := ∀ (j : Nat) (o : Oper) (e : Edge), ops[j]? = some o → listed.getD j false = true → e ∈ o.after.toList → Region.binds .any e = true → listed.getD e.on false = true
theorem Closed.rch {listed : Array Bool} (h : Closed ops listed) {i j : Nat} (r : Rch ops i j) : listed.getD j false = true → listed.getD i false = true := by
  induction r with
  | dep j o e ho he hb => exact fun hj => h j o e ho hj he hb
  | far i j o e ho he hb r ih => exact fun hj => ih (h j o e ho hj he hb)

structure Inv (C : Ctx) (ops : Array Oper) (nt : Nat) (F : List FOp) (V : Nat → AV) (Hs : Nat → AH) (σ0 : Env) (μ0 : MU) (w0 : World) (a0 : Act) (listed : Array Bool) (a : Act) (w : World) (μ : MU) (m : Nat) : Prop where
  sz : listed.size = ops.size
  cl : Closed ops listed
  er : ∀ x, VR C.fids μ (envAt F V σ0 (Dn F listed) F.length x) (a.tmps.getD x undef)
  asz : a.tmps.size = nt
  defs : a.defers = a0.defers
  mle : m ≤ F.length
  hr : HR C μ (Hs m) w
  below : Below C.base w0 w
  loud : ∀ (p : Nat) (f : FOp), F[p]? = some f → Dn F listed p = true → 2 ≤ f.cls → p < m
  str : ∀ (p : Nat) (f : FOp), F[p]? = some f → p < m → 3 ≤ f.cls → Dn F listed p = true
  late : ∀ (p : Nat) (f : FOp), F[p]? = some f → p < m → f.cls = 2 → Dn F listed p = false → μ[(Hs p).length]? = some none ∧ (Hs m)[(Hs p).length]? = (Hs (p + 1))[(Hs p).length]?
  ext : Ext μ0 μ
  ext0 : μ0.length = (Hs 0).length
  keep : Keep μ0 (Hs 0) (Hs m)
  same : ∀ x, (∀ f ∈ F, f.d ≠ some x) → a.tmps.getD x undef = a0.tmps.getD x undef

/-- All that is known of the region. -/
structure Reg (C : Ctx) (ops : Array Oper) (nt : Nat) (call : CallT) (lo : Nat) (F : List FOp) (V : Nat → AV) (Hs : Nat → AH) (σ0 : Env) : Prop where
  hF : FnsOK C
  hC : CallOK C call
  hS : CallSplit call
  hB : CallBar call
  hlo : C.lo0 ≤ lo
  hle : lo ≤ (Hs 0).length
  st : ∀ (p : Nat) (f : FOp), F[p]? = some f → FStep call lo f (envAt F V σ0 (fun _ => true) p) (Hs p) (V p) (Hs (p + 1))
  ord : OrdAt ops F
  chk : ∀ f ∈ F, ∃ o, FChk C ops nt f o
  all : ∀ i, i < ops.size → ∃ p : Nat, ∃ f, F[p]? = some f ∧ f.i = i

variable (R : Reg C ops nt call lo F V Hs σ0)
include R

theorem Reg.grow1 {p : Nat} {f : FOp} (hp : F[p]? = some f) (hl : lo ≤ (Hs p).length) : Bar lo (Hs p) (Hs (p + 1)) := by
  rcases R.st p f hp with ⟨_, h⟩ | ⟨_, _, h⟩
  · split at h
    · exact evOp_bar R.hS R.hB h hl
    · rw [h.1]; exact .refl _ _
  · rw [h]; exact .refl _ _
theorem Reg.le (p : Nat) (hp : p ≤ F.length) : lo ≤ (Hs p).length ∧ ∀ q, q ≤ p → (Hs q).length ≤ (Hs p).length := by
  induction p with
  | zero => exact ⟨R.hle, fun q hq => by have : q = 0 := by omega
                                         subst this; exact Nat.le_refl _⟩
  | succ p ih =>
    obtain ⟨h1, h2⟩ := ih (by omega)
    have hf : F[p]? = some (F[p]'(by omega)) := List.getElem?_eq_getElem _
    have := (R.grow1 hf h1).2
    refine ⟨by omega, fun q hq => ?_⟩
    rcases Nat.lt_or_ge q (p + 1) with h | h
    · have := h2 q (by omega); omega
    · have : q = p + 1 := by omega
      subst this; exact Nat.le_refl _
theorem Reg.quiet {p : Nat} {f : FOp} (hp : F[p]? = some f) (hc : f.cls < 2) : Hs (p + 1) = Hs p := by
  rcases R.st p f hp with ⟨_, h⟩ | ⟨_, _, h⟩
  · split at h
    · rename_i o hk
      have hc0 : o.cls = 0 ∨ o.cls = 1 := by
        simp only [FOp.cls, hk] at hc
        cases hb : decide (o.cls = 2) && f.g.isSome
        · rw [hb, cond_false] at hc; omega
        · rw [hb, cond_true] at hc; omega
      rcases hc0 with hc0 | hc0
      · exact (evOp_pure hc0 h).1
      · exact (evOp_load hc0 h).1
    · exact h.1
  · exact h
theorem Reg.alloc {p : Nat} {f : FOp} (hp : F[p]? = some f) (hc : f.cls = 2) : ∃ io, f.k = .op io ∧ io.cls = 2 ∧ f.g = none ∧ evOp call lo io (envAt F V σ0 (fun _ => true) p) (Hs p) pr = some (V p, Hs (p + 1)) := by
  have hst := R.st p f hp
  have hkk : ∃ io, f.k = .op io ∧ io.cls = 2 ∧ f.g = none := by
    cases hk : f.k with
    | pick gt want px => simp [FOp.cls, hk] at hc
    | op o =>
      simp only [FOp.cls, hk] at hc
      cases hb : decide (o.cls = 2) && f.g.isSome
      · rw [hb, cond_false] at hc
        refine ⟨o, rfl, hc, ?_⟩
        simpa [hc] using hb
      · rw [hb, cond_true] at hc; cases hc
  obtain ⟨io, h1, h2, h3⟩ := hkk
  refine ⟨io, h1, h2, h3, ?_⟩
  rcases hst with ⟨_, h⟩ | ⟨h, _⟩
  · rw [h1] at h; exact h
  · rw [h3] at h; exact h.elim

/-- The next position that is not done looks at what it looked at in the order of the text. -/
theorem Reg.looks {listed : Array Bool} (hcl : Closed ops listed) {p : Nat} {f : FOp} (hp : F[p]? = some f) (hnd : Dn F listed p = false) (hdeps : ∀ i, Rch ops i f.i → listed.getD i false = true) :
    ∀ x ∈ f.looks, envAt F V σ0 (Dn F listed) F.length x = envAt F V σ0 (fun _ => true) p x := by
  intro x hx
  have hpl : p < F.length := (List.getElem?_eq_some_iff.1 hp).1
  have e1 : envAt F V σ0 (Dn F listed) p x = envAt F V σ0 (fun _ => true) p x := envAt_same x p fun q g hq hg hd => by
    rcases (R.ord.pair p q f g hp hg hq).1 with h | h
    · show Dn F listed q = true
      unfold Dn; rw [hg]; exact hdeps _ h
    · simp only [commB, Bool.and_eq_true, List.all_eq_true, Bool.not_eq_true'] at h
      have := (h.1.1 x (by rw [hd]; simp [dl])).1
      have hx' : memN x f.looks = true := memN_iff.2 hx
      rw [hx'] at this; cases this
  rw [← e1]
  have := envAt_stay (F := F) (V := V) (σ0 := σ0) (D := Dn F listed) x p (F.length - p) (fun q g h1 h2 hg hd => by
    cases hq : Dn F listed q
    · rfl
    · exfalso
      rcases Nat.lt_or_ge p q with hpq | hpq
      · rcases (R.ord.pair q p g f hg hp hpq).1 with h | h
        · have : listed.getD f.i false = true := hcl.rch h (by unfold Dn at hq; rw [hg] at hq; exact hq)
          unfold Dn at hnd; rw [hp] at hnd; simp only at hnd; rw [this] at hnd; cases hnd
        · simp only [commB, Bool.and_eq_true, List.all_eq_true, Bool.not_eq_true'] at h
          have := h.1.2 x (by rw [hd]; simp [dl])
          have hx' : memN x f.looks = true := memN_iff.2 hx
          rw [hx'] at this; cases this
      · have : q = p := by omega
        subst this; rw [hnd] at hq; cases hq)
  rw [show p + (F.length - p) = F.length by omega] at this
  exact this

/-- What is done when position p has been carried out. -/
theorem Reg.dn_set {listed : Array Bool} (hsz : listed.size = ops.size) {p : Nat} {f : FOp} (hp : F[p]? = some f) (q : Nat) : Dn F (listed.setIfInBounds f.i true) q = if q = p then true else Dn F listed q := by
  have hfi : f.i < listed.size := by
    obtain ⟨o, ho⟩ := R.chk f (List.mem_of_getElem? hp)
    rw [hsz]; exact (Array.getElem?_eq_some_iff.1 ho.at_).1
  unfold Dn
  by_cases hq : q = p
  · subst hq; rw [hp]; simp [hfi]
  · rw [if_neg hq]
    cases hg : F[q]? with
    | none => rfl
    | some g =>
      simp only
      have hne : g.i ≠ f.i := by
        rcases Nat.lt_or_ge q p with h | h
        · exact (R.ord.pair p q f g hp hg h).2
        · exact Ne.symm (R.ord.pair q p g f hg hp (by omega)).2
      exact getD_set_ne false (Ne.symm hne)
theorem Reg.env_set {listed : Array Bool} (hsz : listed.size = ops.size) (hcl : Closed ops listed) {p : Nat} {f : FOp} (hp : F[p]? = some f) (hnd : Dn F listed p = false) (x : Nat) :
    envAt F V σ0 (Dn F (listed.setIfInBounds f.i true)) F.length x = if f.d = some x then V p else envAt F V σ0 (Dn F listed) F.length x := by
  have hpl : p < F.length := (List.getElem?_eq_some_iff.1 hp).1
  by_cases hd : f.d = some x
  · rw [if_pos hd]
    have h1 : envAt F V σ0 (Dn F (listed.setIfInBounds f.i true)) (p + 1) x = V p := by
      simp only [envAt, hp]
      rw [R.dn_set hsz hp p, if_pos rfl, cond_true, putO_get, if_pos hd]
    rw [← h1]
    have := envAt_stay (F := F) (V := V) (σ0 := σ0) (D := Dn F (listed.setIfInBounds f.i true)) x (p + 1) (F.length - (p + 1)) (fun q g h1 h2 hg hgd => by
      rw [R.dn_set hsz hp q, if_neg (by omega)]
      cases hq : Dn F listed q
      · rfl
      · exfalso
        rcases (R.ord.pair q p g f hg hp (by omega)).1 with h | h
        · have : listed.getD f.i false = true := hcl.rch h (by unfold Dn at hq; rw [hg] at hq; exact hq)
          unfold Dn at hnd; rw [hp] at hnd; simp only at hnd; rw [this] at hnd; cases hnd
        · simp only [commB, Bool.and_eq_true, List.all_eq_true, Bool.not_eq_true'] at h
          have := (h.1.1 x (by rw [hd]; simp [dl])).2
          rw [memN_dl, hgd] at this; simp at this)
    rw [show p + 1 + (F.length - (p + 1)) = F.length by omega] at this
    exact this
  · rw [if_neg hd]
    exact envAt_same x F.length fun q g hq hg hgd => by
      rw [R.dn_set hsz hp q]
      by_cases hqp : q = p
      · subst hqp; rw [hp] at hg; cases hg; exact absurd hgd hd
      · rw [if_neg hqp]

/-- The heap's mark goes on over what is quiet, and over new blocks that are still to be made. -/
theorem Reg.advance {μ0 : MU} {w0 : World} {a0 : Act} {listed : Array Bool} {a : Act} {w : World} {m : Nat} : ∀ (k : Nat) {μ : MU}, Inv C ops nt F V Hs σ0 μ0 w0 a0 listed a w μ m → m + k ≤ F.length →
    (∀ (q : Nat) (f : FOp), m ≤ q → q < m + k → F[q]? = some f → 2 ≤ f.cls → f.cls = 2 ∧ Dn F listed q = false) → ∃ μ', Inv C ops nt F V Hs σ0 μ0 w0 a0 listed a w μ' (m + k) ∧ Ext μ μ'
  | 0, μ, I, _, _ => ⟨μ, I, .refl _⟩
  | k + 1, μ, I, hk, hq => by
    obtain ⟨μ1, I1, x1⟩ := Reg.advance k I (by omega) (fun q f h1 h2 => hq q f h1 (by omega))
    have hf : F[m + k]? = some (F[m + k]'(by omega)) := List.getElem?_eq_getElem _
    by_cases hc : F[m + k].cls < 2
    · have e := R.quiet hf hc
      refine ⟨μ1, ⟨I1.sz, I1.cl, I1.er, I1.asz, I1.defs, by omega, by rw [← Nat.add_assoc, e]; exact I1.hr, I1.below, fun p f hp hd hcl => by have := I1.loud p f hp hd hcl; omega, fun p f hp hpm hcl => ?_, fun p f hp hpm hcl hnd => ?_, I1.ext, I1.ext0, by rw [← Nat.add_assoc, e]; exact I1.keep, I1.same⟩, x1⟩
      · rcases Nat.lt_or_ge p (m + k) with h | h
        · exact I1.str p f hp h hcl
        · have : p = m + k := by omega
          subst this; rw [hf] at hp; cases hp; omega
      · rcases Nat.lt_or_ge p (m + k) with h | h
        · rw [← Nat.add_assoc, e]; exact I1.late p f hp h hcl hnd
        · have : p = m + k := by omega
          subst this; rw [hf] at hp; cases hp; omega
    · obtain ⟨hc2, hnd⟩ := hq (m + k) _ (by omega) (by omega) hf (by omega)
      obtain ⟨io, hk1, hk2, hk3, hev⟩ := R.alloc hf hc2
      have hHs : ∃ b, Hs (m + k + 1) = Hs (m + k) ++ [b] := by
        cases io <;> simp [IOp.cls] at hk2 <;> simp only [evOp] at hev
        case alloc zs => simp only [alc] at hev; obtain ⟨_, e⟩ := pr_inj hev; exact ⟨_, e.symm⟩
        case box n x => obtain ⟨_, hev⟩ := cond_none hev; simp only [alc] at hev; obtain ⟨_, e⟩ := pr_inj hev; exact ⟨_, e.symm⟩
        case bsl sz zs len ps => obtain ⟨us, _, hev⟩ := fillP_split hev; obtain ⟨_, hev⟩ := cond_none hev; simp only [mkb] at hev; obtain ⟨_, e⟩ := pr_inj hev; exact ⟨_, e.symm⟩
        case mksl zs bytes l c =>
          obtain ⟨n, _, hev⟩ := asI_some hev
          obtain ⟨n', _, hev⟩ := asI_some hev
          simp only [mks] at hev
          obtain ⟨_, hev⟩ := cond_none hev
          obtain ⟨_, e⟩ := pr_inj hev; exact ⟨_, e.symm⟩
        all_goals (rename_i fresh _; cases fresh <;> simp at hk2)
      obtain ⟨b, hHs⟩ := hHs
      have hlen := I1.hr.len
      refine ⟨μ1 ++ [none], ⟨I1.sz, I1.cl, fun x => (I1.er x).mono (Ref.app _ _), I1.asz, I1.defs, by omega, by rw [← Nat.add_assoc, hHs]; exact I1.hr.pushNone b, I1.below, fun p f hp hd hcl => by have := I1.loud p f hp hd hcl; omega, fun p f hp hpm hcl => ?_, fun p f hp hpm hcl hnd' => ?_, I1.ext.trans ⟨_, rfl⟩, I1.ext0, ?_, I1.same⟩, x1.trans ⟨_, rfl⟩⟩
      · rcases Nat.lt_or_ge p (m + k) with h | h
        · exact I1.str p f hp h hcl
        · have : p = m + k := by omega
          subst this; rw [hf] at hp; cases hp; omega
      · rw [← Nat.add_assoc]
        rcases Nat.lt_or_ge p (m + k) with h | h
        · obtain ⟨g1, g2⟩ := I1.late p f hp h hcl hnd'
          have hlt := (List.getElem?_eq_some_iff.1 g1).1
          exact ⟨by rw [List.getElem?_append_left hlt]; exact g1, by rw [hHs, List.getElem?_append_left (by rw [← hlen]; exact hlt)]; exact g2⟩
        · have : p = m + k := by omega
          subst this
          exact ⟨by rw [← hlen]; simp, rfl⟩
      · rw [← Nat.add_assoc, hHs]
        intro i hi
        have h1 := I1.keep i hi
        have hlt : i < (Hs (m + k)).length := by
          obtain ⟨ν, e⟩ := I1.ext
          have := (List.getElem?_eq_some_iff.1 hi).1
          rw [← hlen, e]; simp; omega
        rw [List.getElem?_append_left hlt]; exact h1

/-- Between two stages an old block stays as it was, or is dead. -/
theorem Reg.stay {b m : Nat} : ∀ (k : Nat), m + k ≤ F.length → b < (Hs m).length → (∀ (q : Nat) (f : FOp), m ≤ q → q < m + k → F[q]? = some f → f.cls ≤ 4) → (Hs (m + k))[b]? = (Hs m)[b]? ∨ (Hs (m + k))[b]? = some .dead
  | 0, _, _, _ => .inl rfl
  | k + 1, hk, hb, hq => by
    have ih := Reg.stay k (by omega) hb (fun q f h1 h2 => hq q f h1 (by omega))
    have hf : F[m + k]? = some (F[m + k]'(by omega)) := List.getElem?_eq_getElem _
    have hle := R.le (m + k) (by omega)
    have hbk : b < (Hs (m + k)).length := Nat.lt_of_lt_of_le hb (hle.2 m (by omega))
    have hstep : (Hs (m + k + 1))[b]? = (Hs (m + k))[b]? ∨ (Hs (m + k + 1))[b]? = some .dead := by
      by_cases hc : F[m + k].cls < 2
      · exact .inl (by rw [R.quiet hf hc])
      · have h4 := hq (m + k) _ (by omega) (by omega) hf
        rcases R.st (m + k) _ hf with ⟨_, h⟩ | ⟨_, _, h⟩
        · split at h
          · rename_i o hkk
            simp only [FOp.cls, hkk] at hc h4
            have hc' : o.cls = 2 ∨ o.cls = 3 ∨ o.cls = 4 := by
              cases hb2 : decide (o.cls = 2) && (F[m + k]).g.isSome
              · rw [hb2, cond_false] at hc h4; omega
              · rw [hb2, cond_true] at h4; omega
            rcases hc' with hc' | hc' | hc'
            · obtain ⟨io, hk1, hk2, hk3, hev⟩ := R.alloc hf (by
                simp only [FOp.cls, hkk]
                cases hb2 : decide (o.cls = 2) && (F[m + k]).g.isSome
                · exact hc'
                · rw [hb2, cond_true] at h4; omega)
              exact .inl ((evOp_bar_alloc R.hS R.hB hk2 hev).1 b hbk)
            · exact .inl ((evOp_fresh R.hS R.hB hc' h).1 b hbk)
            · exact (evOp_app hc' h).2 b hbk
          · exact .inl (by rw [h.1])
        · exact .inl (by rw [h])
    rw [← Nat.add_assoc]
    rcases hstep with h | h
    · rw [h]; exact ih
    · exact .inr h
end
end Go.Ab

/- Regions that draw their order: the step, and the theorem. -/
set_option linter.unusedSimpArgs false
set_option linter.unusedVariables false
namespace Go.Ab
open Go Go.RowKit

section
variable {C : Ctx} {ops : Array Oper} {nt : Nat} {call : CallT} {lo : Nat} {F : List FOp} {V : Nat → AV} {Hs : Nat → AH} {σ0 σn : Env} {H0 Hn : AH}

theorem Reg.stay3 (R : Reg C ops nt call lo F V Hs σ0) {b m : Nat} : ∀ (k : Nat), m + k ≤ F.length → b < (Hs m).length → (∀ (q : Nat) (f : FOp), m ≤ q → q < m + k → F[q]? = some f → f.cls ≤ 3) → (Hs (m + k))[b]? = (Hs m)[b]?
  | 0, _, _, _ => rfl
  | k + 1, hk, hb, hq => by
    have ih := Reg.stay3 R k (by omega) hb (fun q f h1 h2 => hq q f h1 (by omega))
    have hf : F[m + k]? = some (F[m + k]'(by omega)) := List.getElem?_eq_getElem _
    have hle := R.le (m + k) (by omega)
    have hbk : b < (Hs (m + k)).length := Nat.lt_of_lt_of_le hb (hle.2 m (by omega))
    rw [← Nat.add_assoc, ← ih]
    by_cases hc : F[m + k].cls < 2
    · rw [R.quiet hf hc]
    · have h4 := hq (m + k) _ (by omega) (by omega) hf
      rcases R.st (m + k) _ hf with ⟨_, h⟩ | ⟨_, _, h⟩
      · split at h
        · rename_i o hkk
          simp only [FOp.cls, hkk] at hc h4
          have hc' : o.cls = 2 ∨ o.cls = 3 := by
            cases hb2 : decide (o.cls = 2) && (F[m + k]).g.isSome
            · rw [hb2, cond_false] at hc h4; omega
            · rw [hb2, cond_true] at h4; omega
          rcases hc' with hc' | hc'
          · exact (evOp_bar_alloc R.hS R.hB hc' h).1 b hbk
          · exact (evOp_fresh R.hS R.hB hc' h).1 b hbk
        · rw [h.1]
      · rw [h]

theorem compat_le {a : Nat} (h : compatB a 1 = true) : a ≤ 4 := by
  rcases a with _ | _ | _ | _ | _ | a <;> simp_all [compatB]
theorem compat_load {a : Nat} (h : compatB 1 a = true) : a ≤ 3 := by
  rcases a with _ | _ | _ | _ | a <;> simp_all [compatB]
theorem compat_strict {a b : Nat} (ha : 2 ≤ a) (hb : 3 ≤ b) (h : compatB a b = true) : a = 2 := by
  rcases a with _ | _ | _ | a
  · omega
  · omega
  · rfl
  · rcases b with _ | _ | _ | b
    · omega
    · omega
    · omega
    · rcases a with _ | _ | a <;> rcases b with _ | b <;> simp_all [compatB]
theorem compat_alloc {a : Nat} (ha : 2 ≤ a) (h : compatB a 2 = true) : a = 2 := by
  rcases a with _ | _ | _ | _ | _ | a <;> simp_all [compatB]

variable {Q : Exit → Act → World → Prop}

theorem Reg.step (R : Reg C ops nt call lo F V Hs σ0) {μ0 : MU} {w0 : World} {a0 : Act} {listed : Array Bool} {a : Act} {w : World} {μ : MU} {m : Nat} (I : Inv C ops nt F V Hs σ0 μ0 w0 a0 listed a w μ m) {p : Nat} {f : FOp} (hp : F[p]? = some f)
    (hr : f.i ∈ Region.ready .any ops listed) {K : Act → World → Prop} (hK : ∀ a' w' μ' m', Inv C ops nt F V Hs σ0 μ0 w0 a0 (listed.setIfInBounds f.i true) a' w' μ' m' → K a' w') : wpOp C.P ops Q f.i K a w := by
  have hpl : p < F.length := (List.getElem?_eq_some_iff.1 hp).1
  obtain ⟨o, ck⟩ := R.chk f (List.mem_of_getElem? hp)
  obtain ⟨hun, o', ho', hall⟩ := mem_ready.1 hr
  have e0 := ck.at_
  rw [e0] at ho'; cases ho'
  have hfi : f.i < listed.size := by rw [I.sz]; exact (Array.getElem?_eq_some_iff.1 e0).1
  have hun' : listed.getD f.i false = false := by
    rw [Array.getD_eq_getD_getElem?] at hun ⊢
    rw [Array.getElem?_eq_getElem hfi] at hun ⊢
    exact hun
  have hnd : Dn F listed p = false := by unfold Dn; rw [hp]; exact hun'
  have hdeps : ∀ i, Rch ops i f.i → listed.getD i false = true := by
    intro i r
    cases r with
    | dep j o2 e h he hb => rw [e0] at h; cases h; exact hall e (Array.mem_toList_iff.1 he) hb
    | far i j o2 e h he hb r => rw [e0] at h; cases h; exact I.cl.rch r (hall e (Array.mem_toList_iff.1 he) hb)
  have hlook := R.looks I.cl hp hnd hdeps
  have hsz' : (listed.setIfInBounds f.i true).size = ops.size := by simpa using I.sz
  have hcl' : Closed ops (listed.setIfInBounds f.i true) := by
    intro j o2 e hj hl he hb
    by_cases hjf : f.i = j
    · subst hjf; rw [e0] at hj; cases hj; exact getD_set_true (hall e (Array.mem_toList_iff.1 he) hb)
    · rw [getD_set_ne false hjf] at hl; exact getD_set_true (I.cl j o2 e hj hl he hb)
  have hDn := R.dn_set I.sz hp
  have hdst := ck.dst
  have hdn : dstB a.tmps.size o.dst = true := by rw [I.asz, hdst]; exact ck.lt
  -- what has been shown is kept
  have fin : ∀ (c : Value) (w' : World) (μ' : MU) (m' : Nat), VR C.fids μ' (V p) c → HR C μ' (Hs m') w' → Below C.base w w' → Ref μ μ' → Ext μ0 μ' → m' ≤ F.length → Keep μ0 (Hs 0) (Hs m') →
      (∀ (q : Nat) (g : FOp), F[q]? = some g → Dn F (listed.setIfInBounds f.i true) q = true → 2 ≤ g.cls → q < m') → (∀ (q : Nat) (g : FOp), F[q]? = some g → q < m' → 3 ≤ g.cls → Dn F (listed.setIfInBounds f.i true) q = true) →
      (∀ (q : Nat) (g : FOp), F[q]? = some g → q < m' → g.cls = 2 → Dn F (listed.setIfInBounds f.i true) q = false → μ'[(Hs q).length]? = some none ∧ (Hs m')[(Hs q).length]? = (Hs (q + 1))[(Hs q).length]?) →
      K (a.put o.dst c) w' := by
    intro c w' μ' m' hv hh hbl href hext hm hkp hl hs hlt
    refine hK _ w' μ' m' ⟨hsz', hcl', fun x => ?_, by rw [size_put]; exact I.asz, by rw [defs_put]; exact I.defs, hm, hh, I.below.trans hbl, hl, hs, hlt, hext, I.ext0, hkp, fun x hx => ?_⟩
    · rw [R.env_set I.sz I.cl hp hnd x, getD_put _ _ _ _ hdn, hdst]
      by_cases hd : f.d = some x
      · rw [if_pos hd, if_pos hd]; exact hv
      · rw [if_neg hd, if_neg hd]; exact (I.er x).mono href
    · rw [getD_put _ _ _ _ hdn, hdst, if_neg (hx f (List.mem_of_getElem? hp))]
      exact I.same x hx
  -- nothing loud happened
  have quiet : ∀ (c : Value) (w' : World) (μ' : MU), f.cls < 2 → VR C.fids μ' (V p) c → HR C μ' (Hs m) w' → Below C.base w w' → Ext μ μ' → K (a.put o.dst c) w' := by
    intro c w' μ' hc hv hh hbl hext
    refine fin c w' μ' m hv hh hbl hext.ref (I.ext.trans hext) I.mle I.keep (fun q g hq hd hcl => ?_) (fun q g hq hqm hcl => ?_) (fun q g hq hqm hcl hd => ?_)
    · rw [hDn] at hd
      by_cases hqp : q = p
      · subst hqp; rw [hp] at hq; cases hq; omega
      · rw [if_neg hqp] at hd; exact I.loud q g hq hd hcl
    · rw [hDn]; split
      · rfl
      · exact I.str q g hq hqm hcl
    · rw [hDn] at hd
      by_cases hqp : q = p
      · rw [if_pos hqp] at hd; cases hd
      · rw [if_neg hqp] at hd
        obtain ⟨g1, g2⟩ := I.late q g hq hqm hcl hd
        exact ⟨hext.none g1, g2⟩
  -- what is loud between the mark and p
  have between : 2 ≤ f.cls → ∀ (q : Nat) (g : FOp), m ≤ q → q < p → F[q]? = some g → 2 ≤ g.cls → g.cls = 2 ∧ Dn F listed q = false := by
    intro hc q g h1 h2 hq hg
    have hqd : Dn F listed q = false := by
      cases h : Dn F listed q
      · rfl
      · have := I.loud q g hq h hg; omega
    refine ⟨?_, hqd⟩
    rcases (R.ord.pair p q f g hp hq h2).1 with h | h
    · have := hdeps _ h
      unfold Dn at hqd; rw [hq] at hqd; simp only at hqd; rw [this] at hqd; cases hqd
    · simp only [commB, Bool.and_eq_true] at h
      rcases Nat.lt_or_ge f.cls 3 with h3 | h3
      · have : f.cls = 2 := by omega
        rw [this] at h; exact compat_alloc hg h.2
      · exact compat_strict hg h3 h.2
  -- a loud operation (no new block) at p: the mark comes to p, then behind it
  have strict : 3 ≤ f.cls → (∀ μ1, Inv C ops nt F V Hs σ0 μ0 w0 a0 listed a w μ1 p → HR C μ1 (Hs p) w → (∀ c w' μ2, Ext μ1 μ2 → VR C.fids μ2 (V p) c → HR C μ2 (Hs (p + 1)) w' → Below C.base w w' → Keep μ1 (Hs p) (Hs (p + 1)) → K (a.put o.dst c) w') → wpOp C.P ops Q f.i K a w) → wpOp C.P ops Q f.i K a w := by
    intro hc hgo
    have hpm : m ≤ p := by
      rcases Nat.lt_or_ge p m with h | h
      · have := I.str p f hp h hc; rw [hnd] at this; cases this
      · exact h
    obtain ⟨μ1, I1, x1⟩ := R.advance (p - m) I (by omega) (fun q g h1 h2 hq hg => between (by omega) q g h1 (by omega) hq hg)
    rw [show m + (p - m) = p by omega] at I1
    refine hgo μ1 I1 I1.hr fun c w' μ2 hx hv hh hbl hkp => ?_
    have hlen := I1.hr.len
    refine fin c w' μ2 (p + 1) hv hh hbl (x1.ref.trans hx.ref) (I1.ext.trans hx) (by omega) (I1.keep.trans hkp I1.ext) (fun q g hq hd hcl => ?_) (fun q g hq hqm hcl => ?_) (fun q g hq hqm hcl hd => ?_)
    · rw [hDn] at hd
      by_cases hqp : q = p
      · omega
      · rw [if_neg hqp] at hd; have := I1.loud q g hq hd hcl; omega
    · rw [hDn]; split
      · rfl
      · exact I1.str q g hq (by omega) hcl
    · rw [hDn] at hd
      by_cases hqp : q = p
      · rw [if_pos hqp] at hd; cases hd
      · rw [if_neg hqp] at hd
        obtain ⟨g1, g2⟩ := I1.late q g hq (by omega) hcl hd
        exact ⟨hx.none g1, by rw [hkp _ g1]; exact g2⟩
  have hleP := R.le p (by omega)
  have hleM := R.le m I.mle
  have herM : ER C.fids μ (envAt F V σ0 (Dn F listed) F.length) a := I.er
  rcases R.st p f hp with ⟨hg, hst⟩ | ⟨hg, hv, hh⟩
  · -- the guard is met
    have hm : Met f.g a := by
      cases hgc : f.g with
      | none => trivial
      | some q =>
        obtain ⟨t, wv⟩ := q
        rw [hgc] at hg
        have ht : t ∈ f.looks := by unfold FOp.looks; rw [hgc]; simp [gl]
        have := I.er t
        rw [hlook t ht, hg] at this
        exact this.bool_inv
    have hw := hm.wanted ck.grd
    have hkind := ck.kind
    have unf : Oper.wp C.P o a w K Q → wpOp C.P ops Q f.i K a w := fun h => by
      unfold wpOp
      simp only [e0, hw, if_true]
      exact .inl h
    cases hkk : f.k with
    | pick gt want px =>
      rw [hkk] at hst hkind
      simp only at hst hkind
      obtain ⟨hH, gb, b, h1, h2, h3⟩ := hst
      have hgt : gt ∈ f.looks := by unfold FOp.looks; rw [hkk]; simp
      have hgv : a.tmps.getD gt undef = .bool gb := by
        have := I.er gt
        rw [hlook gt hgt, h1] at this
        exact this.bool_inv
      have hcls : f.cls < 2 := by simp [FOp.cls, hkk]
      have hexec : (execOp a.eval o).run C.P w = .ok (.value (.bool b)) w := by
        obtain ⟨k1, k2⟩ := pick_run (P := C.P) (w := w) hkind a hgv
        by_cases hgw : gb = want
        · obtain ⟨x, hx, hex⟩ := k1 hgw
          have vx := chkOpd_sound hx herM
          have hag : opd (envAt F V σ0 (Dn F listed) F.length) px = opd (envAt F V σ0 (fun _ => true) p) px := opd_agree fun y hy => hlook y (by unfold FOp.looks; rw [hkk]; simp [hy])
          rw [hag, h3.1 hgw] at vx
          rw [vx.bool_inv] at hex; exact hex
        · rw [k2 hgw, h3.2 hgw]
      refine unf ?_
      unfold Oper.wp
      rw [hexec, Oper.upon_value]
      exact quiet (.bool b) w μ hcls (by rw [h2]; exact .bool b) I.hr (Below.refl _ _) (.refl _)
    | op io =>
      rw [hkk] at hst hkind
      simp only at hst hkind
      have hagree : AgreeOn io.looks (envAt F V σ0 (fun _ => true) p) (envAt F V σ0 (Dn F listed) F.length) := fun y hy => (hlook y (by unfold FOp.looks; rw [hkk]; simp [hy])).symm
      have hcl : f.cls = bif decide (io.cls = 2) && f.g.isSome then 5 else io.cls := by simp [FOp.cls, hkk]
      rcases Nat.lt_trichotomy io.cls 1 with hc | hc | hc
      · -- nothing of memory
        have hc0 : io.cls = 0 := by omega
        have hcls : f.cls < 2 := by rw [hcl, hc0]; simp
        obtain ⟨_, hall⟩ := evOp_pure hc0 hst
        have hev := hall (Hs m)
        rw [evOp_agree hagree] at hev
        exact unf <| op_sound R.hF R.hC R.hS R.hlo hleM.1 hkind hev herM I.hr fun c w' ⟨μ', g⟩ => quiet c w' μ' hcls g.val g.hr g.below g.ext
      · -- a load
        have hcls : f.cls < 2 := by rw [hcl, hc]; simp
        have hcls1 : f.cls = 1 := by rw [hcl, hc]; simp
        rcases (evOp_load hc hst).2 with hall | ⟨pb, blk, y, hnd, hyl, hyc, hy, hb, hev⟩
        case inl =>
          have hev := hall (Hs m)
          rw [evOp_agree hagree] at hev
          exact unf <| op_sound R.hF R.hC R.hS R.hlo hleM.1 hkind hev herM I.hr fun c w' ⟨μ', g⟩ => quiet c w' μ' hcls g.val g.hr g.below g.ext
        have hpt : ∃ e, μ[pb]? = some (some e) := by
          have hag : opd (envAt F V σ0 (Dn F listed) F.length) y = opd (envAt F V σ0 (fun _ => true) p) y := (opd_agree fun z hz => hagree z (hyl z hz)).symm
          cases y with
          | t n =>
            have := I.er n
            simp only [opd] at hag hy
            rw [hag] at this
            rcases hy with ⟨pt, hy, rfl⟩ | hy
            · rw [hy] at this; obtain ⟨e, _, he⟩ := this.ptr_inv; exact ⟨e, he⟩
            · rw [hy] at this
              rcases this.map_inv with ⟨h, _⟩ | ⟨b', e, h, _, he⟩
              · cases h
              · cases h; exact ⟨e, he⟩
          | c v =>
            -- a constant pointer or map is nil: no such check
            exfalso
            obtain ⟨x, hx⟩ := hyc _ _ hkind
            simp only [opd] at hy
            rcases hy with ⟨pt, hy, rfl⟩ | hy
            · subst hy
              cases x <;> simp [chkOpd] at hx
              rename_i cv
              cases cv <;> simp [chkV] at hx
            · subst hy
              cases x <;> simp [chkOpd] at hx
              rename_i cv
              cases cv <;> simp [chkV] at hx
        obtain ⟨e, he⟩ := hpt
        have hbm : pb < (Hs m).length := by rw [← I.hr.len]; exact (List.getElem?_eq_some_iff.1 he).1
        have hsame : (Hs m)[pb]? = (Hs p)[pb]? := by
          rcases Nat.lt_or_ge p m with hpm | hpm
          · have := R.stay3 (b := pb) (m := p) (m - p) (by have := I.mle; omega) (List.getElem?_eq_some_iff.1 hb).1 (fun q g h1 h2 hq => by
              by_cases hqp : q = p
              · subst hqp; rw [hp] at hq; cases hq; omega
              · rcases Nat.lt_or_ge g.cls 3 with h3 | h3
                · omega
                · have hqd := I.str q g hq (by omega) h3
                  rcases (R.ord.pair q p g f hq hp (by omega)).1 with h | h
                  · have : listed.getD f.i false = true := I.cl.rch h (by unfold Dn at hqd; rw [hq] at hqd; exact hqd)
                    rw [this] at hun'; cases hun'
                  · simp only [commB, Bool.and_eq_true] at h
                    rw [hcls1] at h
                    exact compat_load h.2)
            rw [show p + (m - p) = m by omega] at this
            exact this
          · have := R.stay (b := pb) (m := m) (p - m) (by omega) hbm (fun q g h1 h2 hq => by
              rcases Nat.lt_or_ge g.cls 2 with h3 | h3
              · omega
              · have hqd : Dn F listed q = false := by
                  cases h : Dn F listed q
                  · rfl
                  · have := I.loud q g hq h h3; omega
                rcases (R.ord.pair p q f g hp hq (by omega)).1 with h | h
                · have := hdeps _ h
                  unfold Dn at hqd; rw [hq] at hqd; simp only at hqd; rw [this] at hqd; cases hqd
                · simp only [commB, Bool.and_eq_true] at h
                  rw [hcls1] at h
                  exact compat_le h.2)
            rw [show m + (p - m) = p by omega] at this
            rcases this with h | h
            · exact h.symm
            · rw [hb] at h; cases h; exact absurd rfl hnd
        have hevm := hev (Hs m) hsame
        rw [evOp_agree hagree] at hevm
        exact unf <| op_sound R.hF R.hC R.hS R.hlo hleM.1 hkind hevm herM I.hr fun c w' ⟨μ', g⟩ => quiet c w' μ' hcls g.val g.hr g.below g.ext
      · by_cases halloc : io.cls = 2 ∧ f.g = none
        · -- a new block
          obtain ⟨hc2, hgn⟩ := halloc
          have hcls : f.cls = 2 := by rw [hcl, hc2, hgn]; simp
          have hevp := hst
          rw [evOp_agree hagree] at hevp
          rcases Nat.lt_or_ge p m with hpm | hpm
          · -- it was passed already
            obtain ⟨l1, l2⟩ := I.late p f hp hpm hcls hnd
            obtain ⟨us, cs, sz, el, mk, c, hv, hH', hrun, hcs, hmk⟩ := alloc_raw (w := w) hc2 hkind hevp herM
            have hil : (Hs p).length < μ.length := (List.getElem?_eq_some_iff.1 l1).1
            have hlow : C.lo0 ≤ (Hs p).length := Nat.le_trans R.hlo hleP.1
            have href : Ref μ (μ.set (Hs p).length (some ⟨w.heap.size, 0, cs.length, sz⟩)) := fun j x hj => by
              by_cases hij : (Hs p).length = j
              · subst hij; rw [l1] at hj; cases hj
              · rw [List.getElem?_set_ne hij]; exact hj
            have hHm : (Hs m)[(Hs p).length]? = some (.cells us sz) := by rw [l2, hH']; simp
            have hlen : us.length ≤ cs.length := by
              rcases Nat.lt_or_ge cs.length us.length with h | h
              · obtain ⟨d, hd, _⟩ := hcs cs.length _ (List.getElem?_eq_getElem h)
                simp at hd
              · exact h
            have hHR := I.hr.back (Hs p).length (.cells us sz) ⟨w.heap.size, 0, cs.length, sz⟩ (.cells cs.toArray el) l1 hHm hlow rfl ⟨rfl, fun j u hj => by
                obtain ⟨d, hd, hr⟩ := hcs j u hj
                refine ⟨d, ?_, hr.mono href⟩
                simp only [Nat.zero_add, World.cell?_alloc_new]; simpa using hd, fun _ => ⟨hlen, fun j hj => by simp only at hj; simp [hj]⟩⟩
            refine unf ?_
            unfold Oper.wp
            rw [hrun, Oper.upon_value]
            refine fin c _ _ m (by rw [hv]; exact hmk _ _ (List.getElem?_set_self hil)) hHR ((Below.refl _ _).alloc I.hr.base _) href ?_ I.mle I.keep (fun q g hq hd hcl' => ?_) (fun q g hq hqm hcl' => ?_) (fun q g hq hqm hcl' hd => ?_)
            · obtain ⟨ν, e⟩ := I.ext
              have h0 : μ0.length ≤ (Hs p).length := by
                have := hleP.2 0 (by omega)
                have hk0 : μ0.length ≤ (Hs 0).length := by
                  have h1 := I.hr.len
                  rcases Nat.lt_or_ge (Hs 0).length μ0.length with h | h
                  · exact absurd h (by have := I.ext0; omega)
                  · exact h
                omega
              exact ⟨ν.set ((Hs p).length - μ0.length) (some ⟨w.heap.size, 0, cs.length, sz⟩), by rw [e, List.set_append_right _ _ h0]⟩
            · rw [hDn] at hd
              by_cases hqp : q = p
              · omega
              · rw [if_neg hqp] at hd; exact I.loud q g hq hd hcl'
            · rw [hDn]; split
              · rfl
              · exact I.str q g hq hqm hcl'
            · rw [hDn] at hd
              by_cases hqp : q = p
              · rw [if_pos hqp] at hd; cases hd
              · rw [if_neg hqp] at hd
                obtain ⟨g1, g2⟩ := I.late q g hq hqm hcl' hd
                have hne : (Hs p).length ≠ (Hs q).length := by
                  -- two new blocks have two numbers
                  obtain ⟨ioq, q1, q2, q3, qe⟩ := R.alloc hq hcl'
                  have hgrow : ∀ {x : Nat}, x < F.length → ∀ {fx : FOp}, F[x]? = some fx → fx.cls = 2 → (Hs x).length < (Hs (x + 1)).length := by
                    intro x hx fx hfx hcx
                    obtain ⟨iox, x1, x2, x3, xe⟩ := R.alloc hfx hcx
                    cases iox <;> simp [IOp.cls] at x2 <;> simp only [evOp] at xe
                    case alloc zs => simp only [alc] at xe; obtain ⟨_, e⟩ := pr_inj xe; rw [← e]; simp
                    case box n x => obtain ⟨_, xe⟩ := cond_none xe; simp only [alc] at xe; obtain ⟨_, e⟩ := pr_inj xe; rw [← e]; simp
                    case bsl sz zs len ps => obtain ⟨us, _, xe⟩ := fillP_split xe; obtain ⟨_, xe⟩ := cond_none xe; simp only [mkb] at xe; obtain ⟨_, e⟩ := pr_inj xe; rw [← e]; simp
                    case mksl zs bytes l c =>
                      obtain ⟨n, _, xe⟩ := asI_some xe
                      obtain ⟨n', _, xe⟩ := asI_some xe
                      simp only [mks] at xe
                      obtain ⟨_, xe⟩ := cond_none xe
                      obtain ⟨_, e⟩ := pr_inj xe; rw [← e]; simp
                    all_goals (rename_i fresh _; cases fresh <;> simp at x2)
                  have hql : q < F.length := (List.getElem?_eq_some_iff.1 hq).1
                  rcases Nat.lt_or_ge q p with h | h
                  · have h1 := hgrow hql hq hcl'
                    have h2 := (R.le p (by omega)).2 (q + 1) (by omega)
                    omega
                  · have h1 := hgrow hpl hp hcls
                    have h2 := (R.le q (by omega)).2 (p + 1) (by omega)
                    omega
                exact ⟨by rw [List.getElem?_set_ne hne]; exact g1, g2⟩
          · -- the mark comes behind it
            obtain ⟨μ1, I1, x1⟩ := R.advance (p - m) I (by omega) (fun q g h1 h2 hq hg => between (by omega) q g h1 (by omega) hq hg)
            rw [show m + (p - m) = p by omega] at I1
            have her1 : ER C.fids μ1 (envAt F V σ0 (Dn F listed) F.length) a := I1.er
            refine unf <| op_sound R.hF R.hC R.hS R.hlo hleP.1 hkind hevp her1 I1.hr fun c w' ⟨μ2, g⟩ => ?_
            refine fin c w' μ2 (p + 1) g.val g.hr g.below (x1.ref.trans g.ext.ref) (I1.ext.trans g.ext) (by omega) (I1.keep.trans g.keep I1.ext) (fun q g' hq hd hcl' => ?_) (fun q g' hq hqm hcl' => ?_) (fun q g' hq hqm hcl' hd => ?_)
            · rw [hDn] at hd
              by_cases hqp : q = p
              · omega
              · rw [if_neg hqp] at hd; have := I1.loud q g' hq hd hcl'; omega
            · rw [hDn]; split
              · rfl
              · exact I1.str q g' hq (by omega) hcl'
            · rw [hDn] at hd
              by_cases hqp : q = p
              · rw [if_pos hqp] at hd; cases hd
              · rw [if_neg hqp] at hd
                obtain ⟨g1, g2⟩ := I1.late q g' hq (by omega) hcl' hd
                exact ⟨g.ext.none g1, by rw [g.keep _ g1]; exact g2⟩
        · -- loud
          have hcls : 3 ≤ f.cls := by
            rw [hcl]
            cases hb : decide (io.cls = 2) && f.g.isSome
            · simp only [cond_false]
              rcases Nat.lt_or_ge io.cls 3 with h | h
              · exfalso
                have h2 : io.cls = 2 := by omega
                have : f.g = none := by simpa [h2] using hb
                exact halloc ⟨h2, this⟩
              · exact h
            · simp
          exact strict hcls fun μ1 I1 h1 hk => by
            have her1 : ER C.fids μ1 (envAt F V σ0 (Dn F listed) F.length) a := I1.er
            have hevp := hst
            rw [evOp_agree hagree] at hevp
            exact unf (op_sound R.hF R.hC R.hS R.hlo hleP.1 hkind hevp her1 h1 fun c w' ⟨μ2, g⟩ => hk c w' μ2 g.ext g.val g.hr g.below g.keep)
  · -- it is not
    cases hgc : f.g with
    | none => rw [hgc] at hg; exact hg.elim
    | some q =>
      obtain ⟨t, wv⟩ := q
      rw [hgc] at hg
      have ht : t ∈ f.looks := by unfold FOp.looks; rw [hgc]; simp [gl]
      have hvr := I.er t
      rw [hlook t ht] at hvr
      have hw : Region.wanted o (yielded ops a.tmps) = false := by
        have hgrd := ck.grd
        rw [hgc] at hgrd
        rw [wanted_of hgrd]
        rcases hg with h | h
        · rw [h] at hvr
          rw [getD_some hvr.bool_inv (undef_ne_bool _)]
          cases wv <;> rfl
        · rw [h] at hvr
          obtain ⟨cs, hc, hcs⟩ := hvr.tup_inv
          cases hcs
          cases hx : a.tmps[t]? with
          | none => rfl
          | some u =>
            have : a.tmps.getD t undef = u := by rw [Array.getD_eq_getD_getElem?, hx]; rfl
            rw [this] at hc; subst hc; rfl
      unfold wpOp
      simp only [e0, hw, Bool.false_eq_true, if_false]
      have hvu : ∀ μ', VR C.fids μ' (V p) undef := fun μ' => by rw [hv]; exact .tup [] [] .nil
      rcases Nat.lt_or_ge f.cls 3 with hc | hc
      · have hc2 : f.cls < 2 := by
          rcases Nat.lt_or_ge f.cls 2 with h | h
          · exact h
          · exfalso
            obtain ⟨io, _, _, hn, _⟩ := R.alloc hp (by omega)
            rw [hn] at hgc; cases hgc
        exact quiet undef w μ hc2 (hvu μ) I.hr (Below.refl _ _) (.refl _)
      · have := strict hc fun μ1 I1 h1 hk => by
          unfold wpOp
          simp only [e0, hw, Bool.false_eq_true, if_false]
          exact hk undef w μ1 (.refl _) (hvu μ1) (by rw [hh]; exact h1) (Below.refl _ _) (by rw [hh]; exact .refl _ _)
        unfold wpOp at this
        simp only [e0, hw, Bool.false_eq_true, if_false] at this
        exact this

/-- How many are still to come. -/
def left (listed : Array Bool) : Nat := listed.toList.countP (fun b => !b)
theorem left_set {listed : Array Bool} {i : Nat} (h : listed.getD i true = false) : left (listed.setIfInBounds i true) + 1 = left listed := by
  have hi : i < listed.size := by
    rcases Nat.lt_or_ge i listed.size with h' | h'
    · exact h'
    · rw [Array.getD_eq_getD_getElem?, Array.getElem?_eq_none h'] at h; simp at h
  have hv : listed.toList[i]'(by simpa using hi) = false := by
    rw [Array.getD_eq_getD_getElem?, Array.getElem?_eq_getElem hi] at h
    simpa using h
  unfold left
  rw [Array.toList_setIfInBounds, List.countP_set (by simpa using hi)]
  simp only [hv, Bool.not_false, if_true, Bool.not_true, Bool.false_eq_true, if_false, Nat.add_zero]
  have : 0 < listed.toList.countP (fun b => !b) := List.countP_pos_iff.2 ⟨listed.toList[i]'(by simpa using hi), List.getElem_mem _, by rw [hv]; rfl⟩
  omega

theorem Reg.ready_of (R : Reg C ops nt call lo F V Hs σ0) {listed : Array Bool} (hsz : listed.size = ops.size) : ∀ (p : Nat) (f : FOp), F[p]? = some f → Dn F listed p = false → ∃ i, i ∈ Region.ready .any ops listed := by
  intro p
  induction p using Nat.strongRecOn with
  | _ p ih =>
    intro f hp hnd
    obtain ⟨o, ck⟩ := R.chk f (List.mem_of_getElem? hp)
    have hfi : f.i < listed.size := by rw [hsz]; exact (Array.getElem?_eq_some_iff.1 ck.at_).1
    by_cases hall : ∀ e ∈ o.after, Region.binds .any e = true → listed.getD e.on false = true
    · refine ⟨f.i, mem_ready.2 ⟨?_, o, ck.at_, hall⟩⟩
      unfold Dn at hnd; rw [hp] at hnd; simp only at hnd
      rw [Array.getD_eq_getD_getElem?] at hnd ⊢
      rw [Array.getElem?_eq_getElem hfi] at hnd ⊢
      exact hnd
    · have : ∃ e, e ∈ o.after ∧ Region.binds .any e = true ∧ listed.getD e.on false = false := by
        apply Classical.byContradiction
        intro hno
        exact hall fun e he hb => by
          cases h : listed.getD e.on false
          · exact absurd ⟨e, he, hb, h⟩ hno
          · rfl
      obtain ⟨e, he, hb, hl⟩ := this
      obtain ⟨q, g, hqp, hq, hgi⟩ := R.ord.deps p f o e hp ck.at_ (Array.mem_toList_iff.2 he) hb
      exact ih q hqp g hq (by unfold Dn; rw [hq]; simp only; rw [hgi]; exact hl)

theorem Reg.any (R : Reg C ops nt call lo F V Hs σ0) {μ0 : MU} {w0 : World} {a0 : Act} (hQ : ∀ listed a w μ m, Inv C ops nt F V Hs σ0 μ0 w0 a0 listed a w μ m → (∀ (p : Nat) (f : FOp), F[p]? = some f → Dn F listed p = true) → Q .normal a w) :
    ∀ (fuel : Nat) (listed : Array Bool) (a : Act) (w : World) (μ : MU) (m : Nat), Inv C ops nt F V Hs σ0 μ0 w0 a0 listed a w μ m → left listed = fuel → wpAny C.P .any ops Q fuel listed a w := by
  have stop : ∀ (listed : Array Bool) (a : Act) (w : World) (μ : MU) (m : Nat), Inv C ops nt F V Hs σ0 μ0 w0 a0 listed a w μ m → Region.ready .any ops listed = [] → Q .normal a w := fun listed a w μ m I hr => by
    refine hQ listed a w μ m I fun p f hp => ?_
    cases h : Dn F listed p
    · obtain ⟨i, hi⟩ := R.ready_of I.sz p f hp h
      rw [hr] at hi; cases hi
    · rfl
  intro fuel
  induction fuel with
  | zero =>
    intro listed a w μ m I hl
    have hr : Region.ready .any ops listed = [] := by
      cases h : Region.ready .any ops listed with
      | nil => rfl
      | cons i l =>
        have hi := (mem_ready (md := .any) (ops := ops) (listed := listed) (j := i)).1 (by rw [h]; simp)
        have := left_set hi.1
        omega
    exact ⟨hr, stop listed a w μ m I hr⟩
  | succ fuel ih =>
    intro listed a w μ m I hl
    refine ⟨stop listed a w μ m I, fun i hi => ?_⟩
    obtain ⟨hun, o, ho, _⟩ := mem_ready.1 hi
    obtain ⟨p, f, hp, rfl⟩ := R.all i (Array.getElem?_eq_some_iff.1 ho).1
    refine R.step I hp hi fun a' w' μ' m' I' => ih _ a' w' μ' m' I' ?_
    have := left_set hun
    omega

theorem hasF_some {i : Nat} : ∀ {l : List FOp}, hasF i l = true → ∃ (p : Nat) (f : FOp), l[p]? = some f ∧ f.i = i
  | [], h => by simp [hasF] at h
  | f :: l, h => by
    unfold hasF at h
    cases hb : Nat.beq f.i i
    · rw [hb] at h; obtain ⟨p, g, h1, h2⟩ := hasF_some h; exact ⟨p + 1, g, by simpa using h1, h2⟩
    · exact ⟨0, f, rfl, Nat.eq_of_beq_eq_true hb⟩
theorem flat_dsts : ∀ (ss : Steps) (g : GC) (f : FOp), f ∈ ss.flat g → ∀ x, f.d = some x → memN x ss.dsts = true
  | .nil, _, f, h, _, _ => by simp [Steps.flat] at h
  | .chk _ r, g, f, h, x, hx => flat_dsts r g f h x hx
  | .op i d io r, g, f, h, x, hx => by
    rw [Steps.dsts, memN_app, Bool.or_eq_true]
    rcases List.mem_cons.1 h with rfl | h
    · exact .inl (by rw [memN_dl]; exact decide_eq_true hx)
    · exact .inr (flat_dsts r g f h x hx)
  | .grp gt want inner i pd px r, g, f, h, x, hx => by
    rw [Steps.dsts, memN_app, memN_cons, Bool.or_eq_true, Bool.or_eq_true]
    rcases List.mem_append.1 h with h | h
    · exact .inl (flat_dsts inner _ f h x hx)
    · rcases List.mem_cons.1 h with rfl | h
      · simp only [Option.some.injEq] at hx; subst hx; exact .inr (.inl (by simp))
      · exact .inr (.inr (flat_dsts r g f h x hx))

/-- WHATEVER ORDER IS DRAWN. -/
theorem draw_run (hF : FnsOK C) (hC : CallOK C call) (hS : CallSplit call) (hB : CallBar call) (hlo : C.lo0 ≤ lo) (hw : C.P.follows .mixedOrders = true) (ss : Steps) {ρ : Type} (σ : Env) (H : AH)
    (κ : Env → AH → Option ρ) (r : ρ) (a : Act) (w : World) (μ : MU) (id : Nat) (h : evS call lo ss ρ σ H κ = some r) (hc : chkD C ops nt ss = true) (hσ : ER C.fids μ σ a) (hn : a.tmps.size = nt) (hH : HR C μ H w) (hle : lo ≤ H.length)
    (hk : ∀ σ' H' a' w' μ', Aft C nt μ H w a ss.dsts σ' H' a' w' μ' → κ σ' H' = some r → Q .normal a' w') : (Code.region id ops true).wp C.P Q a w := by
  simp only [chkD, Bool.and_eq_true] at hc
  obtain ⟨⟨⟨c1, c2⟩, c3⟩, c4⟩ := hc
  obtain ⟨σ', H', τ', D', ht, hκ, hlike, _⟩ := flat_of hS ss none [] σ σ H κ r [] h c1 c2 (fun x => .inl rfl) trivial
  obtain ⟨V, Hs, way⟩ := ht.way
  have h0 := way.h0
  have R : Reg C ops nt call lo (ss.flat none) V Hs σ := ⟨hF, hC, hS, hB, hlo, by rw [h0]; exact hle, way.st, ordAt_of c3, flat_chk ss none [] c1, fun i hi => by
    have := List.all_eq_true.1 c4 i (List.mem_range.2 hi)
    exact hasF_some this⟩
  refine wp_region_any hw ?_
  have hlisted : ∀ i, (Array.replicate ops.size false).getD i false = false := fun i => by
    rw [Array.getD_eq_getD_getElem?, Array.getElem?_replicate]
    split <;> rfl
  have hDn0 : ∀ q, Dn (ss.flat none) (Array.replicate ops.size false) q = false := fun q => by
    unfold Dn; split
    · exact hlisted _
    · rfl
  have henv0 : ∀ n, envAt (ss.flat none) V σ (Dn (ss.flat none) (Array.replicate ops.size false)) n = σ := by
    intro n
    induction n with
    | zero => rfl
    | succ n ih =>
      simp only [envAt]
      split
      · rw [hDn0, cond_false]; exact ih
      · exact ih
  have I : Inv C ops nt (ss.flat none) V Hs σ μ w a (Array.replicate ops.size false) a w.drew μ 0 :=
    ⟨by simp, (fun j o e _ hj => by rw [hlisted] at hj; cases hj), (fun x => by rw [henv0]; exact hσ x), hn, rfl, Nat.zero_le _, (by rw [h0]; exact hH.heap rfl), (Below.refl _ _).drew, (fun p f _ hd => by rw [hDn0] at hd; cases hd),
      (fun p f _ hp => absurd hp (by omega)), (fun p f _ hp => absurd hp (by omega)), .refl _, (by rw [h0]; exact hH.len), .refl _ _, fun _ _ => rfl⟩
  have := R.any (Q := Q) (fun listed a' w' μ' m I' hall => ?_) (left (Array.replicate ops.size false)) _ a w.drew μ 0 I rfl
  · have hl : left (Array.replicate ops.size false) = ops.size := by simp [left, List.countP_replicate]
    rw [hl] at this
    exact this
  · have hm : Hs m = H' := by
      rw [← way.hn]
      have : ∀ k, m + k ≤ (ss.flat none).length → Hs (m + k) = Hs m := by
        intro k
        induction k with
        | zero => intro _; rfl
        | succ k ih =>
          intro hk'
          have hf : (ss.flat none)[m + k]? = some ((ss.flat none)[m + k]'(by omega)) := List.getElem?_eq_getElem _
          rw [← Nat.add_assoc, R.quiet hf ?_, ih (by omega)]
          rcases Nat.lt_or_ge ((ss.flat none)[m + k]'(by omega)).cls 2 with h2 | h2
          · exact h2
          · have := I'.loud (m + k) _ hf (hall _ _ hf) h2; omega
      have h1 := this ((ss.flat none).length - m) (by have := I'.mle; omega)
      rw [show m + ((ss.flat none).length - m) = (ss.flat none).length by have := I'.mle; omega] at h1
      exact h1.symm
    have henv : ∀ x, envAt (ss.flat none) V σ (Dn (ss.flat none) listed) (ss.flat none).length x = τ' x := fun x => by
      rw [← way.sn]
      exact envAt_same x _ fun q g _ hg _ => hall q g hg
    refine hk σ' H' a' w' μ' ⟨I'.ext, fun x => ?_, I'.asz, by rw [← hm]; exact I'.hr, I'.below, by rw [← hm, ← h0]; exact I'.keep, I'.defs, fun x hx => I'.same x fun f hf hd => ?_⟩ hκ
    · rcases hlike x with e | ⟨e, _⟩
      · rw [e, ← henv x]; exact I'.er x
      · rw [e]; exact .unk _
    · have := flat_dsts ss none f hf x hd
      rw [hx] at this; cases this
end
end Go.Ab

/- The check of pieces; soundness of the evaluator. -/
set_option linter.unusedSimpArgs false
set_option linter.unusedVariables false
namespace Go.Ab
open Go Go.RowKit

def chkReg (C : Ctx) (ops : Array Oper) (draw : Bool) (nt : Nat) (ss : Steps) : Bool :=
  match draw with
  | true => chkD C ops nt ss
  | false => chkS C ops nt none [] ss && decide (ss.idxs = List.range ops.size)

def chkC (C : Ctx) (body : Code) (nt : Nat) (labels : List (List At)) : IRc → List At → Bool
  | .reg ss next, todo =>
    (match normT body 1000 todo with
    | .code n :: k => (match codeAt body n with
      | some (.region _ ops draw) => chkReg C ops draw nt ss && chkC C body nt labels next k
      | _ => false)
    | _ => false)
  | .ite c p q, todo =>
    (match normT body 1000 todo with
    | .code n :: k => (match codeAt body n with
      | some (.cond x p' _) => chkOpd C.fids x c && chkC C body nt labels p (.code (n + 1) :: k) && chkC C body nt labels q (.code (n + 1 + csize p') :: k)
      | _ => false)
    | _ => false)
  | .jump j, todo => (match labels[j]? with | some t => decide (normT body 1000 todo = t) | none => false)
  | .ret, todo =>
    (match normT body 1000 todo with
    | [] => true
    | .code n :: _ => (match codeAt body n with | some .ret => true | _ => false)
    | _ => false)

def chkRV (P : Program) : List ResultVar → List RV → Bool
  | [], [] => true
  | .tmp t :: rs, .tmp u :: us => decide (t = u) && chkRV P rs us
  | .cell t ty :: rs, .cell u t1 :: us => decide (t = u) && chkT1 P ty t1 && chkRV P rs us
  | _, _ => false

def chkPieces (C : Ctx) (body : Code) (nt : Nat) (labels : List (List At)) : List Piece → Bool
  | [] => true
  | p :: ps => chkC C body nt labels p.code p.todo && p.sig.all (fun x => decide (x < nt)) && chkPieces C body nt labels ps
def firstOK (np : Nat) : List Piece → Bool
  | p :: _ => decide (p.sig = List.range np) && decide (p.todo = [.code 0])
  | [] => false
def chkFn (C : Ctx) (f : FuncId) (fn : Fn) : Bool :=
  match C.P.funcs[f]? with
  | some fu => (match fu.body with
    | some body => decide (fn.np ≤ fu.ntmps) && chkRV C.P fu.results.toList fn.res && firstOK fn.np fn.pieces && chkPieces C body fu.ntmps (fn.pieces.map (·.todo)) fn.pieces && !(fu.name == "runtime.NumGoroutine")
    | none => false)
  | none => false
def chkG (C : Ctx) : List FuncId → List Fn → Bool
  | [], [] => true
  | f :: fs, fn :: fns => chkFn C f fn && chkG C fs fns
  | _, _ => false

/-! ### Splitting a run -/
theorem evS_split {call : CallT} {lo : Nat} (hS : CallSplit call) : ∀ (ss : Steps) {ρ : Type} {σ : Env} {H : AH} {κ : Env → AH → Option ρ} {r : ρ}, evS call lo ss ρ σ H κ = some r →
    ∃ σ' H', (∀ (ρ' : Type) (κ' : Env → AH → Option ρ'), evS call lo ss ρ' σ H κ' = κ' σ' H') ∧ κ σ' H' = some r
  | .nil, _, σ, H, κ, r, h => ⟨σ, H, fun _ _ => rfl, h⟩
  | .op i d o rest, _, σ, H, κ, r, h => by
    unfold evS at h
    obtain ⟨v, H1, h1, h⟩ := evOp_split hS h
    obtain ⟨σ', H', h2, h⟩ := evS_split hS rest h
    exact ⟨σ', H', fun _ κ' => by unfold evS; rw [h1, h2], h⟩
  | .chk x rest, _, σ, H, κ, r, h => by
    unfold evS at h
    obtain ⟨hb, h⟩ := cond_none h
    obtain ⟨σ', H', h2, h⟩ := evS_split hS rest h
    exact ⟨σ', H', fun _ κ' => by unfold evS; rw [hb, cond_true, h2], h⟩
  | .grp gt want inner i pd px rest, _, σ, H, κ, r, h => by
    unfold evS at h
    obtain ⟨g, hg, h⟩ := asB_some h
    obtain ⟨p, hp, h⟩ := Option.bind_eq_some_iff.1 h
    obtain ⟨σ', H', h2, h⟩ := evS_split hS rest h
    refine ⟨σ', H', fun _ κ' => ?_, h⟩
    unfold evS
    rw [hg]
    show Option.bind _ _ = _
    rw [hp]
    exact h2 _ _

theorem evRV_split {rv : RV} {σ : Env} {H : AH} {ρ : Type} {κ : AV → Option ρ} {r : ρ} (h : evRV rv σ H κ = some r) : ∃ v, (∀ (ρ' : Type) (κ' : AV → Option ρ'), evRV rv σ H κ' = κ' v) ∧ κ v = some r := by
  cases rv with
  | tmp t => exact ⟨_, fun _ _ => rfl, h⟩
  | cell t ty =>
    simp only [evRV] at h ⊢
    obtain ⟨p, hp, h⟩ := asP_some h
    obtain ⟨v, hv, h⟩ := ldT_some h
    exact ⟨v, fun _ κ' => by rw [hp]; exact hv κ', h⟩
theorem evRVs_split : ∀ {rs : List RV} {σ : Env} {H : AH} {ρ : Type} {κ : List AV → Option ρ} {r : ρ}, evRVs rs σ H κ = some r → ∃ vs, (∀ (ρ' : Type) (κ' : List AV → Option ρ'), evRVs rs σ H κ' = κ' vs) ∧ κ vs = some r
  | [], σ, H, ρ, κ, r, h => ⟨[], fun _ _ => rfl, h⟩
  | x :: rs, σ, H, ρ, κ, r, h => by
    simp only [evRVs] at h
    obtain ⟨v, h1, h⟩ := evRV_split h
    obtain ⟨vs, h2, h⟩ := evRVs_split h
    exact ⟨v :: vs, fun _ κ' => by simp only [evRVs, h1, h2], h⟩
theorem evRes_split {rs : List RV} {σ : Env} {H : AH} {ρ : Type} {κ : AV → AH → Option ρ} {r : ρ} (h : evRes rs σ H κ = some r) : ∃ v, (∀ (ρ' : Type) (κ' : AV → AH → Option ρ'), evRes rs σ H κ' = κ' v H) ∧ κ v H = some r := by
  unfold evRes at h ⊢
  split at h
  · obtain ⟨v, h1, h⟩ := evRV_split h
    exact ⟨v, fun _ κ' => by rw [h1], h⟩
  · obtain ⟨v, h1, h⟩ := evRVs_split h
    exact ⟨.tup v, fun _ κ' => by rw [h1], h⟩

theorem evC_split {call : CallT} (hS : CallSplit call) {sigs : Nat → List Nat} {res : List RV} {lo : Nat} {jmp : (ρ : Type) → (AV → AH → Option ρ) → Nat → List AV → AH → Option ρ}
    (hJ : ∀ (ρ : Type) (κ : AV → AH → Option ρ) (j : Nat) (args : List AV) (H : AH) (r : ρ), jmp ρ κ j args H = some r → ∃ v H', (∀ (ρ' : Type) (κ' : AV → AH → Option ρ'), jmp ρ' κ' j args H = κ' v H') ∧ κ v H' = some r) :
    ∀ (c : IRc) {ρ : Type} {κ : AV → AH → Option ρ} {σ : Env} {H : AH} {r : ρ}, evC call (jmp ρ κ) sigs res lo κ c σ H = some r →
      ∃ v H', (∀ (ρ' : Type) (κ' : AV → AH → Option ρ'), evC call (jmp ρ' κ') sigs res lo κ' c σ H = κ' v H') ∧ κ v H' = some r
  | .reg ss next, ρ, κ, σ, H, r, h => by
    simp only [evC] at h
    obtain ⟨σ', H', h1, h⟩ := evS_split hS ss h
    obtain ⟨v, H2, h2, h⟩ := evC_split hS hJ next h
    exact ⟨v, H2, fun _ κ' => by simp only [evC, h1, h2], h⟩
  | .ite c p q, ρ, κ, σ, H, r, h => by
    simp only [evC] at h
    obtain ⟨t, ht, h⟩ := asB_some h
    cases t
    · obtain ⟨v, H2, h2, h⟩ := evC_split hS hJ q h
      exact ⟨v, H2, fun _ κ' => by simp only [evC, ht, asB, cond_false, h2], h⟩
    · obtain ⟨v, H2, h2, h⟩ := evC_split hS hJ p h
      exact ⟨v, H2, fun _ κ' => by simp only [evC, ht, asB, cond_true, h2], h⟩
  | .jump j, ρ, κ, σ, H, r, h => by
    simp only [evC] at h
    obtain ⟨v, H2, h2, h⟩ := hJ _ _ _ _ _ _ h
    exact ⟨v, H2, fun _ κ' => by simp only [evC, h2], h⟩
  | .ret, ρ, κ, σ, H, r, h => by
    simp only [evC] at h
    obtain ⟨v, h2, h⟩ := evRes_split h
    exact ⟨v, H, fun _ κ' => by simp only [evC, h2], h⟩

def callOf (G : Pg) (k : Nat) : CallT := fun ρ g args lo H κ => run G k ρ g 0 args lo H κ
theorem run_split (G : Pg) : ∀ (k : Nat) (ρ : Type) (f j : Nat) (args : List AV) (lo : Nat) (H : AH) (κ : AV → AH → Option ρ) (r : ρ), run G k ρ f j args lo H κ = some r →
    ∃ v H', (∀ (ρ' : Type) (κ' : AV → AH → Option ρ'), run G k ρ' f j args lo H κ' = κ' v H') ∧ κ v H' = some r := by
  intro k
  induction k with
  | zero => intro ρ f j args lo H κ r h; simp [run] at h
  | succ k ih =>
    intro ρ f j args lo H κ r h
    unfold run at h
    split at h
    · simp at h
    · rename_i fn hfn
      split at h
      · simp at h
      · rename_i pc hpc
        obtain ⟨hb, h⟩ := cond_none h
        have hS : CallSplit (fun ρ' g args lo H κ => run G k ρ' g 0 args lo H κ) := fun ρ g args lo H κ r h => ih ρ g 0 args lo H κ r h
        obtain ⟨v, H', h1, h⟩ := evC_split hS (jmp := fun ρ κ j args H => run G k ρ f j args lo H κ) (fun ρ κ j args H r h => ih ρ f j args lo H κ r h) pc.code h
        refine ⟨v, H', fun ρ' κ' => ?_, h⟩
        unfold run
        simp only [hfn, hpc, hb, cond_true]
        exact h1 ρ' κ'

/-! ### What a run leaves -/
theorem evS_bar {call : CallT} {lo : Nat} (hS : CallSplit call) (hB : CallBar call) : ∀ (ss : Steps) {ρ : Type} {σ : Env} {H : AH} {κ : Env → AH → Option ρ} {r : ρ}, evS call lo ss ρ σ H κ = some r → lo ≤ H.length → ∃ σ' H', κ σ' H' = some r ∧ Bar lo H H'
  | .nil, _, σ, H, κ, r, h, _ => ⟨σ, H, h, .refl _ _⟩
  | .op i d o rest, _, σ, H, κ, r, h, hl => by
    unfold evS at h
    obtain ⟨v, H1, h1, h⟩ := evOp_split hS h
    have hb := evOp_bar hS hB (h1 PV pr) hl
    obtain ⟨σ', H', h2, h3⟩ := evS_bar hS hB rest h (Nat.le_trans hl hb.2)
    exact ⟨σ', H', h2, hb.trans h3⟩
  | .chk x rest, _, σ, H, κ, r, h, hl => by
    unfold evS at h
    obtain ⟨_, h⟩ := cond_none h
    exact evS_bar hS hB rest h hl
  | .grp gt want inner i pd px rest, _, σ, H, κ, r, h, hl => by
    unfold evS at h
    obtain ⟨g, hg, h⟩ := asB_some h
    obtain ⟨p, hp, h⟩ := Option.bind_eq_some_iff.1 h
    have hb : Bar lo H p.2 := by
      cases hw : (bif want then g else !g)
      · rw [hw, cond_false] at hp; cases hp; exact .refl _ _
      · rw [hw, cond_true] at hp
        obtain ⟨σ1, H1, h1, h2⟩ := evS_bar hS hB inner hp hl
        obtain ⟨b, _, h1⟩ := asB_some h1
        cases h1; exact h2
    obtain ⟨σ', H', h2, h3⟩ := evS_bar hS hB rest h (Nat.le_trans hl hb.2)
    exact ⟨σ', H', h2, hb.trans h3⟩
theorem evC_bar {call : CallT} (hS : CallSplit call) (hB : CallBar call) {sigs : Nat → List Nat} {res : List RV} {lo : Nat} {jmp : Nat → List AV → AH → Option PV}
    (hJ : ∀ (j : Nat) (args : List AV) (H : AH) (v : AV) (H' : AH), jmp j args H = some (v, H') → lo ≤ H.length → Bar lo H H') :
    ∀ (c : IRc) {σ : Env} {H : AH} {v : AV} {H' : AH}, evC call jmp sigs res lo pr c σ H = some (v, H') → lo ≤ H.length → Bar lo H H'
  | .reg ss next, σ, H, v, H', h, hl => by
    simp only [evC] at h
    obtain ⟨σ1, H1, h1, h2⟩ := evS_bar hS hB ss h hl
    exact h2.trans (evC_bar hS hB hJ next h1 (Nat.le_trans hl h2.2))
  | .ite c p q, σ, H, v, H', h, hl => by
    simp only [evC] at h
    obtain ⟨t, ht, h⟩ := asB_some h
    cases t
    · exact evC_bar hS hB hJ q h hl
    · exact evC_bar hS hB hJ p h hl
  | .jump j, σ, H, v, H', h, hl => by simp only [evC] at h; exact hJ _ _ _ _ _ h hl
  | .ret, σ, H, v, H', h, hl => by
    simp only [evC] at h
    obtain ⟨u, h2, h⟩ := evRes_split h
    obtain ⟨_, rfl⟩ := pr_inj h
    exact .refl _ _
theorem run_bar (G : Pg) : ∀ (k f j : Nat) (args : List AV) (lo : Nat) (H : AH) (v : AV) (H' : AH), run G k PV f j args lo H pr = some (v, H') → lo ≤ H.length → Bar lo H H' := by
  intro k
  induction k with
  | zero => intro f j args lo H v H' h; simp [run] at h
  | succ k ih =>
    intro f j args lo H v H' h hl
    unfold run at h
    split at h
    · simp at h
    · rename_i fn hfn
      split at h
      · simp at h
      · rename_i pc hpc
        obtain ⟨hb, h⟩ := cond_none h
        exact evC_bar (fun ρ g args lo H κ r h => run_split G k ρ g 0 args lo H κ r h) (fun g args lo H v H' h hl => ih g 0 args lo H v H' h hl) (fun j args H v H' h hl => ih f j args lo H v H' h hl) pc.code h hl

/-! ### Soundness -/
theorem envOf_get : ∀ (sig : List Nat) (args : List AV) (x : Nat), (∃ i : Nat, sig[i]? = some x ∧ ∃ v, args[i]? = some v ∧ envOf sig args x = v) ∨ envOf sig args x = .unk
  | [], _, _ => .inr (by unfold envOf; rfl)
  | _ :: _, [], _ => .inr (by unfold envOf; rfl)
  | s :: ss, v :: vs, x => by
    unfold envOf
    cases h : Nat.beq x s
    · rcases envOf_get ss vs x with ⟨i, h1, u, h2, h3⟩ | h3
      · exact .inl ⟨i + 1, by simpa using h1, u, by simpa using h2, by simpa using h3⟩
      · exact .inr (by simpa using h3)
    · have : x = s := Nat.eq_of_beq_eq_true h
      subst this
      exact .inl ⟨0, by simp, v, by simp, by simp⟩

/-- One result. -/
def resF (tm : Array Value) : ResultVar → Sem Value
  | .tmp t => pure (tm.getD t undef)
  | .cell a t => do loadVar t (← asAddr (tm.getD a undef))
theorem results_eq (fn : Func) (tm : Array Value) : results fn tm = (do let vs ← fn.results.mapM (resF tm); pure (if h : vs.size = 1 then vs[0] else .tuple vs)) := by
  unfold results
  congr 1

section
variable {C : Ctx} {nt : Nat}

theorem rvs_run (P : Program) {fids : List Nat} {a : Act} {w : World} {μ : MU} {H : AH} {σ : Env} (hPC : C.P = P) (hσ : ER C.fids μ σ a) (hH : HR C μ H w) : ∀ {rs : List ResultVar} {us : List RV} {vs : List AV}, chkRV C.P rs us = true → evRVs us σ H some = some vs →
    ∃ cs : List Value, (rs.mapM (resF a.tmps)).run P w = .ok cs w ∧ VRs C.fids μ vs cs := by
  subst hPC
  intro rs
  induction rs with
  | nil => intro us vs hc h; cases us with
    | nil => simp only [evRVs, Option.some.injEq] at h; subst h; exact ⟨[], rfl, .nil⟩
    | cons _ _ => simp [chkRV] at hc
  | cons r rs ih =>
    intro us vs hc h
    cases us with
    | nil => simp [chkRV] at hc
    | cons u us =>
      simp only [evRVs] at h
      obtain ⟨v, h1, h⟩ := evRV_split h
      obtain ⟨vs', h2, h⟩ := evRVs_split h
      simp only [Option.some.injEq] at h
      subst h
      cases r with
      | tmp t =>
        cases u with
        | tmp t' =>
          simp only [chkRV, Bool.and_eq_true, decide_eq_true_eq] at hc
          obtain ⟨rfl, hc⟩ := hc
          obtain ⟨cs, hr, hv⟩ := ih hc (h2 _ some)
          have hv1 := h1 _ some
          simp only [evRV, Option.some.injEq] at hv1
          subst hv1
          exact ⟨_ :: cs, by rw [List.mapM_cons]; simp only [resF, Sem.run_bind, Sem.run_pure, Result.andThen_ok, hr], .cons _ _ _ _ (hσ t) hv⟩
        | cell _ _ => simp [chkRV] at hc
      | cell t ty =>
        cases u with
        | tmp _ => simp [chkRV] at hc
        | cell t' t1 =>
          simp only [chkRV, Bool.and_eq_true, decide_eq_true_eq] at hc
          obtain ⟨⟨rfl, ht⟩, hc⟩ := hc
          obtain ⟨cs, hr, hv⟩ := ih hc (h2 _ some)
          have hv1 := h1 _ some
          simp only [evRV] at hv1
          obtain ⟨p, hp, hv1⟩ := asP_some hv1
          have hpv := hσ t
          rw [hp] at hpv
          obtain ⟨e, hex, he⟩ := hpv.ptr_inv
          obtain ⟨c, hlr, hlv⟩ := loadVar_run hH ht he hv1
          exact ⟨c :: cs, by rw [List.mapM_cons]; simp only [resF, Sem.run_bind, hex, asAddr, Sem.run_pure, Result.andThen_ok, hlr, hr], .cons _ _ _ _ hlv hv⟩

theorem res_run {fu : Func} {a : Act} {w : World} {μ : MU} {H : AH} {σ : Env} (hσ : ER C.fids μ σ a) (hH : HR C μ H w) {us : List RV} {v : AV} (hc : chkRV C.P fu.results.toList us = true) (h : evRes us σ H pr = some (v, H)) :
    ∃ c, (results fu a.tmps).run C.P w = .ok c w ∧ VR C.fids μ v c := by
  have key : ∀ {vs : List AV}, evRVs us σ H some = some vs → ∃ cs : List Value, (fu.results.mapM (resF a.tmps)).run C.P w = .ok cs.toArray w ∧ VRs C.fids μ vs cs := by
    intro vs hv
    obtain ⟨cs, hr, hvs⟩ := rvs_run (fids := C.fids) C.P rfl hσ hH hc hv
    refine ⟨cs, ?_, hvs⟩
    rw [Array.mapM_eq_mapM_toList]
    simp only [Sem.run_map, hr, Result.andThen_ok]
  unfold evRes at h
  split at h
  · rename_i r
    obtain ⟨u, h1, h⟩ := evRV_split h
    obtain ⟨g1, _⟩ := pr_inj h
    subst g1
    obtain ⟨cs, hr, hv⟩ := key (vs := [u]) (by simp only [evRVs, h1])
    cases hv with
    | cons _ c _ cs' hv1 hv2 =>
      cases hv2
      exact ⟨c, by rw [results_eq]; simp only [Sem.run_bind, hr, Result.andThen_ok]; simp, hv1⟩
  · rename_i hne
    obtain ⟨vs, h1, h⟩ := evRVs_split h
    obtain ⟨g1, _⟩ := pr_inj h
    subst g1
    obtain ⟨cs, hr, hv⟩ := key (vs := vs) (h1 _ some)
    refine ⟨.tuple cs.toArray, ?_, .tup _ _ hv⟩
    rw [results_eq]
    simp only [Sem.run_bind, hr, Result.andThen_ok]
    have hlen : us.length = vs.length := by
      have : ∀ {us : List RV} {vs : List AV}, evRVs us σ H some = some vs → us.length = vs.length := by
        intro us
        induction us with
        | nil => intro vs h; simp only [evRVs, Option.some.injEq] at h; subst h; rfl
        | cons u us ih =>
          intro vs h
          simp only [evRVs] at h
          obtain ⟨v, h1, h⟩ := evRV_split h
          obtain ⟨vs', h2, h⟩ := evRVs_split h
          simp only [Option.some.injEq] at h
          subst h
          simp [ih (h2 _ some)]
      exact this (h1 _ some)
    have h1' : cs.length ≠ 1 := by
      rw [← hv.length, ← hlen]
      intro e
      cases us with
      | nil => simp at e
      | cons u us => cases us with
        | nil => exact hne u rfl
        | cons _ _ => simp at e
    simp [h1']

theorem chkG_get : ∀ {fs : List FuncId} {fns : List Fn}, chkG C fs fns = true → ∀ {g : Nat} {f : FuncId} {fn : Fn}, fs[g]? = some f → fns[g]? = some fn → chkFn C f fn = true
  | [], [], _, g, f, fn, h, _ => by simp at h
  | _ :: _, _ :: _, hc, 0, f, fn, h1, h2 => by simp only [chkG, Bool.and_eq_true] at hc; simp at h1 h2; subst h1; subst h2; exact hc.1
  | _ :: _, _ :: _, hc, g + 1, f, fn, h1, h2 => by simp only [chkG, Bool.and_eq_true] at hc; exact chkG_get hc.2 (by simpa using h1) (by simpa using h2)
  | [], _ :: _, hc, _, _, _, _, _ => by simp [chkG] at hc
  | _ :: _, [], hc, _, _, _, _, _ => by simp [chkG] at hc
theorem chkG_len : ∀ {fs : List FuncId} {fns : List Fn}, chkG C fs fns = true → fs.length = fns.length
  | [], [], _ => rfl
  | _ :: _, _ :: _, hc => by simp only [chkG, Bool.and_eq_true] at hc; simp [chkG_len hc.2]
  | [], _ :: _, hc => by simp [chkG] at hc
  | _ :: _, [], hc => by simp [chkG] at hc
theorem chkPieces_get {body : Code} {labels : List (List At)} : ∀ {ps : List Piece}, chkPieces C body nt labels ps = true → ∀ {j : Nat} {p : Piece}, ps[j]? = some p → chkC C body nt labels p.code p.todo = true ∧ p.sig.all (fun x => decide (x < nt)) = true
  | [], _, j, p, h => by simp at h
  | q :: ps, hc, 0, p, h => by simp only [chkPieces, Bool.and_eq_true] at hc; simp at h; subst h; exact hc.1
  | q :: ps, hc, j + 1, p, h => by simp only [chkPieces, Bool.and_eq_true] at hc; exact chkPieces_get hc.2 (by simpa using h)

theorem fns_of {G : Pg} (hG : chkG C C.fids G = true) : FnsOK C := by
  intro g f hg
  have hl := chkG_len hG
  obtain ⟨fn, hfn⟩ : ∃ fn, G[g]? = some fn := ⟨G[g]'(by have := (List.getElem?_eq_some_iff.1 hg).1; omega), List.getElem?_eq_getElem _⟩
  have := chkG_get hG hg hfn
  unfold chkFn at this
  split at this
  · rename_i fu hfu
    split at this
    · rename_i body hb
      simp only [Bool.and_eq_true, Bool.not_eq_true'] at this
      exact ⟨fu, hfu, this.2, by simp [hb]⟩
    · simp at this
  · simp at this

/-- From a label on, the code comes to what the evaluator says. -/
def LabelOK (C : Ctx) (G : Pg) (k : Nat) : Prop := ∀ (g f : Nat) (fn : Fn) (fu : Func) (body : Code) (j : Nat) (pc : Piece) (args : List AV) (lo : Nat) (H : AH) (v : AV) (H' : AH) (a : Act) (w : World) (μ : MU) (items : List Item),
  C.fids[g]? = some f → G[g]? = some fn → C.P.funcs[f]? = some fu → fu.body = some body → fn.pieces[j]? = some pc → run G k PV g j args lo H pr = some (v, H') → C.lo0 ≤ lo → lo ≤ H.length → Its body pc.todo items →
  ER C.fids μ (envOf pc.sig args) a → a.tmps.size = fu.ntmps → a.defers = [] → HR C μ H w → TW C.P f items a w (Done C μ H w v H')

theorem Done.trans {C : Ctx} {μ μ1 : MU} {H H1 H2 : AH} {w w1 : World} {v : AV} {a a1 : Act} {ds : List Nat} {σ1 : Env} (h : Aft C nt μ H w a ds σ1 H1 a1 w1 μ1) {c : Value} {w2 : World} (k : Done C μ1 H1 w1 v H2 c w2) : Done C μ H w v H2 c w2 := by
  obtain ⟨μ2, g⟩ := k
  exact ⟨μ2, h.ext.trans g.ext, g.val, g.hr, h.below.trans g.below, h.keep.trans g.keep h.ext⟩

theorem evC_sound {G : Pg} {k : Nat} (hF : FnsOK C) (hC : CallOK C (callOf G k)) (hS : CallSplit (callOf G k)) (hw : C.P.follows .mixedOrders = true) (hL : LabelOK C G k) {g f : Nat} {fn : Fn} {fu : Func} {body : Code} {lo : Nat}
    (h1 : C.fids[g]? = some f) (h2 : G[g]? = some fn) (h3 : C.P.funcs[f]? = some fu) (h4 : fu.body = some body) (hres : chkRV C.P fu.results.toList fn.res = true) (hlo : C.lo0 ≤ lo) :
    ∀ (c : IRc) (todo : List At) (items : List Item) (σ : Env) (H : AH) (v : AV) (H' : AH) (a : Act) (w : World) (μ : MU), chkC C body fu.ntmps (fn.pieces.map (·.todo)) c todo = true →
      evC (callOf G k) (fun j args H => run G k PV g j args lo H pr) (sigOf fn) fn.res lo pr c σ H = some (v, H') → Its body todo items → ER C.fids μ σ a → a.tmps.size = fu.ntmps → a.defers = [] → HR C μ H w → lo ≤ H.length → TW C.P f items a w (Done C μ H w v H')
  | .reg ss next, todo, items, σ, H, v, H', a, w, μ, hc, h, hi, hσ, hn, hd, hH, hle => by
    simp only [evC] at h
    simp only [chkC] at hc
    obtain ⟨ys, hy, ht⟩ := norm_sound (P := C.P) (f := f) (a := a) (w := w) (R := Done C μ H w v H') 1000 hi
    refine ht ?_
    split at hc
    · rename_i n t hnt
      rw [hnt] at hy
      split at hc
      · rename_i id ops draw hcode
        simp only [Bool.and_eq_true] at hc
        obtain ⟨hc1, hc2⟩ := hc
        cases ys with
        | nil => exact hy.elim
        | cons y ys =>
          obtain ⟨hy1, hy2⟩ := hy
          simp only [itemAt, hcode, Option.map_some, Option.some.injEq] at hy1
          subst hy1
          refine TW.region ?_
          have after : ∀ σ' H1 a' w' μ', Aft C fu.ntmps μ H w a ss.dsts σ' H1 a' w' μ' → evC (callOf G k) (fun j args H => run G k PV g j args lo H pr) (sigOf fn) fn.res lo pr next σ' H1 = some (v, H') → TW C.P f ys a' w' (Done C μ H w v H') := fun σ' H1 a' w' μ' hA he =>
            (evC_sound hF hC hS hw hL h1 h2 h3 h4 hres hlo next t ys σ' H1 v H' a' w' μ' hc2 he hy2 hA.er hA.sz (by rw [hA.defs]; exact hd) hA.hr (Nat.le_trans hle (hA.grow hH))).mono fun c w2 hdn => Done.trans hA hdn
          cases draw with
          | false =>
            simp only [chkReg, Bool.and_eq_true, decide_eq_true_eq] at hc1
            refine wp_region ?_
            rw [← hc1.2, ← List.append_nil ss.idxs]
            exact steps_run hF hC hS hlo ss none [] σ H _ _ a w μ [] h hc1.1 trivial hσ hn hH hle fun σ' H1 a' w' μ' hA he => ⟨rfl, after σ' H1 a' w' μ' hA he⟩
          | true =>
            simp only [chkReg] at hc1
            exact draw_run hF hC hS (fun g args lo H v H' h hl => run_bar G k g 0 args lo H v H' h hl) hlo hw ss σ H _ _ a w μ id h hc1 hσ hn hH hle fun σ' H1 a' w' μ' hA he => ⟨rfl, after σ' H1 a' w' μ' hA he⟩
      · simp at hc
    · simp at hc
  | .ite c p q, todo, items, σ, H, v, H', a, w, μ, hc, h, hi, hσ, hn, hd, hH, hle => by
    simp only [evC] at h
    simp only [chkC] at hc
    obtain ⟨ys, hy, ht⟩ := norm_sound (P := C.P) (f := f) (a := a) (w := w) (R := Done C μ H w v H') 1000 hi
    refine ht ?_
    obtain ⟨b, hb, h⟩ := asB_some h
    split at hc
    · rename_i n t hnt
      rw [hnt] at hy
      split at hc
      · rename_i x p' q' hcode
        simp only [Bool.and_eq_true] at hc
        obtain ⟨⟨hc0, hc1⟩, hc2⟩ := hc
        cases ys with
        | nil => exact hy.elim
        | cons y ys =>
          obtain ⟨hy1, hy2⟩ := hy
          simp only [itemAt, hcode, Option.map_some, Option.some.injEq] at hy1
          subst hy1
          have vx := chkOpd_sound hc0 hσ
          rw [hb] at vx
          have hev := vx.bool_inv
          have e1 := (codeAt_add body n _ hcode 1 (by simp [csize]; have := csize_pos p'; omega)).1
          have e2 := (codeAt_add body n _ hcode (1 + csize p') (by simp [csize]; have := csize_pos q'; omega)).1
          rw [show n + (1 + csize p') = n + 1 + csize p' by omega] at e2
          refine TW.step (t' := .code (if b then p' else q') :: ys) ?_ fun bb cs => step_cond hev
          cases b with
          | true =>
            refine evC_sound hF hC hS hw hL h1 h2 h3 h4 hres hlo p (.code (n + 1) :: t) _ σ H v H' a w μ hc1 h ⟨?_, hy2⟩ hσ hn hd hH hle
            simp only [itemAt, e1, codeAt]; simp [csize_pos p']
          | false =>
            refine evC_sound hF hC hS hw hL h1 h2 h3 h4 hres hlo q (.code (n + 1 + csize p') :: t) _ σ H v H' a w μ hc2 h ⟨?_, hy2⟩ hσ hn hd hH hle
            simp only [itemAt, e2]; rw [Nat.add_comm 1]; simp [codeAt]
      · simp at hc
    · simp at hc
  | .jump j, todo, items, σ, H, v, H', a, w, μ, hc, h, hi, hσ, hn, hd, hH, hle => by
    simp only [evC] at h
    simp only [chkC] at hc
    obtain ⟨ys, hy, ht⟩ := norm_sound (P := C.P) (f := f) (a := a) (w := w) (R := Done C μ H w v H') 1000 hi
    refine ht ?_
    split at hc
    · rename_i t hl
      simp only [decide_eq_true_eq] at hc
      simp only [List.getElem?_map, Option.map_eq_some_iff] at hl
      obtain ⟨pc, hpc, rfl⟩ := hl
      rw [hc] at hy
      refine hL g f fn fu body j pc _ lo H v H' a w μ ys h1 h2 h3 h4 hpc h hlo hle hy (fun x => ?_) hn hd hH
      have hsg : sigOf fn j = pc.sig := by unfold sigOf; rw [hpc]
      rw [hsg]
      rcases envOf_get pc.sig (pc.sig.map σ) x with ⟨i, g1, u, g2, g3⟩ | g3
      · rw [g3]
        simp only [List.getElem?_map, g1, Option.map_some, Option.some.injEq] at g2
        subst g2; exact hσ x
      · rw [g3]; exact .unk _
    · simp at hc
  | .ret, todo, items, σ, H, v, H', a, w, μ, hc, h, hi, hσ, hn, hd, hH, hle => by
    simp only [evC] at h
    simp only [chkC] at hc
    obtain ⟨ys, hy, ht⟩ := norm_sound (P := C.P) (f := f) (a := a) (w := w) (R := Done C μ H w v H') 1000 hi
    refine ht ?_
    have hstop : ys = [] ∨ ∃ k, ys = .code .ret :: k := by
      split at hc
      · rename_i hnt; rw [hnt] at hy
        cases ys with
        | nil => exact .inl rfl
        | cons _ _ => exact hy.elim
      · rename_i n t hnt
        rw [hnt] at hy
        split at hc
        · rename_i hcode
          cases ys with
          | nil => exact hy.elim
          | cons y ys =>
            obtain ⟨hy1, _⟩ := hy
            simp only [itemAt, hcode, Option.map_some, Option.some.injEq] at hy1
            exact .inr ⟨ys, by rw [← hy1]⟩
        · simp at hc
      · simp at hc
    obtain ⟨u, hu, h⟩ := evRes_split h
    obtain ⟨g1, g2⟩ := pr_inj h
    subst g1; subst g2
    obtain ⟨c, hr, hv⟩ := res_run (fu := fu) hσ hH hres (hu _ pr)
    exact TW.done hstop h3 hd hr (done_same hH hv)

theorem label_ok {G : Pg} (hG : chkG C C.fids G = true) (hw : C.P.follows .mixedOrders = true) : ∀ k, LabelOK C G k ∧ CallOK C (callOf G k) := by
  have hF := fns_of hG
  intro k
  induction k with
  | zero =>
    refine ⟨?_, ?_⟩
    · intro g f fn fu body j pc args lo H v H' a w μ items _ _ _ _ _ h; simp [run] at h
    · intro g f args cargs lo H v H' w μ _ h; simp [callOf, run] at h
  | succ k ih =>
    obtain ⟨hL, hC⟩ := ih
    have hS : CallSplit (callOf G k) := fun ρ g args lo H κ r h => run_split G k ρ g 0 args lo H κ r h
    have hLs : LabelOK C G (k + 1) := by
      intro g f fn fu body j pc args lo H v H' a w μ items h1 h2 h3 h4 h5 h hlo hle hi hσ hn hd hH
      unfold run at h
      simp only [h2, h5] at h
      obtain ⟨hb, h⟩ := cond_none h
      have hfn := chkG_get hG h1 h2
      unfold chkFn at hfn
      simp only [h3, h4, Bool.and_eq_true] at hfn
      obtain ⟨⟨⟨⟨g1, g2⟩, g3⟩, g4⟩, g5⟩ := hfn
      exact evC_sound hF hC hS hw hL h1 h2 h3 h4 g2 hlo pc.code pc.todo items _ H v H' a w μ (chkPieces_get g4 h5).1 h hi hσ hn hd hH hle
    refine ⟨hLs, ?_⟩
    intro g f args cargs lo H v H' w μ hg h hlo hle hv hH
    have hl := chkG_len hG
    obtain ⟨fn, hfn⟩ : ∃ fn, G[g]? = some fn := ⟨G[g]'(by have := (List.getElem?_eq_some_iff.1 hg).1; omega), List.getElem?_eq_getElem _⟩
    have hck := chkG_get hG hg hfn
    unfold chkFn at hck
    split at hck
    · rename_i fu hfu
      split at hck
      · rename_i body hbody
        simp only [Bool.and_eq_true, decide_eq_true_eq] at hck
        obtain ⟨⟨⟨⟨g1, g2⟩, g3⟩, g4⟩, g5⟩ := hck
        cases hps : fn.pieces with
        | nil => rw [hps] at g3; simp [firstOK] at g3
        | cons pc ps =>
          rw [hps] at g3
          simp only [firstOK, Bool.and_eq_true, decide_eq_true_eq] at g3
          obtain ⟨k1, k2⟩ := g3
          have hp0 : fn.pieces[0]? = some pc := by rw [hps]; rfl
          -- as many arguments as the function has
          have hargs : args.length = fn.np := by
            have h' := h
            unfold callOf run at h'
            simp only [hfn, hp0] at h'
            obtain ⟨hb, _⟩ := cond_none h'
            simp only [decide_eq_true_eq] at hb
            rw [hb, k1]; simp
          have hcl := hv.length
          let a : Act := { tmps := cargs.toArray ++ Array.replicate (fu.ntmps - cargs.toArray.size) undef, defers := [] }
          have hsz : a.tmps.size = fu.ntmps := by simp [a]; omega
          have hget : ∀ (i : Nat) (c : Value), cargs[i]? = some c → a.tmps.getD i undef = c := by
            intro i c hc
            have hi := (List.getElem?_eq_some_iff.1 hc).1
            rw [Array.getD_eq_getD_getElem?]
            simp only [a]
            rw [Array.getElem?_append_left (by simpa using hi)]
            simp [hc]
          have hER : ER C.fids μ (envOf pc.sig args) a := by
            intro x
            rcases envOf_get pc.sig args x with ⟨i, e1, u, e2, e3⟩ | e3
            · rw [e3]
              have hix : i = x := by
                rw [k1] at e1
                have hil := (List.getElem?_eq_some_iff.1 e1).1
                rw [List.getElem?_range (by simpa using hil)] at e1
                simpa using e1
              subst hix
              obtain ⟨c, hc, hr⟩ := hv.get e2
              rw [hget i c hc]; exact hr
            · rw [e3]; exact .unk _
          have ht := hLs g f fn fu body 0 pc args lo H v H' a w μ [.code body] hg hfn hfu hbody hp0 h hlo hle (by rw [k2]; exact ⟨by simp [itemAt, codeAt], trivial⟩) hER hsz rfl hH
          intro cs
          let b : Frame := { (default : Frame) with fn := f, kind := .normal }
          have henter : Frame.enter C.P f cargs.toArray .normal = b.at a [.code body] := by
            simp [Frame.enter, Frame.at, hfu, hbody, b, a]
          obtain ⟨c, w', fr, hR, hsteps, hfr, hleave⟩ := ht b cs rfl rfl
          exact ⟨.returned c, w', fr, ⟨c, rfl, hR⟩, by rw [henter]; exact hsteps, hfr, hleave⟩
      · simp at hck
    · simp at hck

/-- THE EVALUATOR IS SOUND. -/
theorem run_sound {G : Pg} (hG : chkG C C.fids G = true) (hw : C.P.follows .mixedOrders = true) {k g f : Nat} {args : List AV} {cargs : List Value} {lo : Nat} {H : AH} {v : AV} {H' : AH} {w : World} {μ : MU} (hg : C.fids[g]? = some f)
    (h : run G k PV g 0 args lo H pr = some (v, H')) (hlo : C.lo0 ≤ lo) (hle : lo ≤ H.length) (hv : VRs C.fids μ args cargs) (hH : HR C μ H w) : Calls C.P f cargs.toArray w fun e w' => ∃ c, e = .returned c ∧ Done C μ H w v H' c w' :=
  (label_ok hG hw k).2 g f args cargs lo H v H' w μ hg h hlo hle hv hH
end
end Go.Ab

/- What came in: arguments laid as an abstract heap; the end of a law. -/
set_option linter.unusedSimpArgs false
set_option linter.unusedVariables false
namespace Go.Ab
open Go Go.RowKit Go.ChangeShapes Go.WideShapes Go.Deep

/-- What an argument reads as: one cell, or a row of such (elements of one cell; the flag: there is no room at all). -/
inductive Dt where
  | one (v : AV)
  | row (l : List Dt) (bare : Bool)
  | agg (l : List Dt)

mutual
inductive RdD (fids : List Nat) (w : World) : Dt → Value → Prop where
  | one (v : AV) (c : Value) (h : VR fids [] v c) : RdD fids w (.one v) c
  | bare (x : Option Addr) : RdD fids w (.row [] true) (.slice x 0 0)
  | row (l : List Dt) (cs : List Value) (B o cap : Nat) (hl : l.length ≤ cap) (hB : B < w.heap.size) (hc : ∀ (j : Nat) (c : Value), cs[j]? = some c → w.cell? ⟨B, o + j, none⟩ = some c) (h : RdDs fids w l cs) :
      RdD fids w (.row l false) (.slice (some ⟨B, o, none⟩) l.length cap)
  | agg (l : List Dt) (cs : List Value) (h : RdDs fids w l cs) : RdD fids w (.agg l) (.agg cs.toArray)
inductive RdDs (fids : List Nat) (w : World) : List Dt → List Value → Prop where
  | nil : RdDs fids w [] []
  | cons (d : Dt) (c : Value) (l : List Dt) (cs : List Value) (h : RdD fids w d c) (hs : RdDs fids w l cs) : RdDs fids w (d :: l) (c :: cs)
end
theorem RdDs.length {fids : List Nat} {w : World} : ∀ {l : List Dt} {cs : List Value}, RdDs fids w l cs → l.length = cs.length
  | _, _, .nil => rfl
  | _, _, .cons _ _ _ _ _ hs => by simp [RdDs.length hs]
theorem RdDs.of {fids : List Nat} {w : World} : ∀ {l : List Dt} {cs : List Value}, l.length = cs.length → (∀ (j : Nat) (d : Dt) (c : Value), l[j]? = some d → cs[j]? = some c → RdD fids w d c) → RdDs fids w l cs
  | [], [], _, _ => .nil
  | d :: l, c :: cs, hl, h => .cons d c l cs (h 0 d c (by simp) (by simp)) (RdDs.of (by simpa using hl) fun j x y hx hy => h (j + 1) x y (by simpa using hx) (by simpa using hy))
  | [], _ :: _, hl, _ => by simp at hl
  | _ :: _, [], hl, _ => by simp at hl

mutual
def lay : Dt → AH → AV × AH
  | .one v, H => (v, H)
  | .agg l, H => (.agg (layL l H).1, (layL l H).2)
  | .row l bare, H => bif bare then (.sl ⟨none, 0⟩, H) else (.sl ⟨some ⟨(layL l H).2.length, 0⟩, (layL l H).1.length⟩, (layL l H).2 ++ [.cells (layL l H).1 1])
def layL : List Dt → AH → List AV × AH
  | [], H => ([], H)
  | d :: l, H => ((lay d H).1 :: (layL l (lay d H).2).1, (layL l (lay d H).2).2)
end

/-- The relation of memories while arguments are laid: nothing is the call's own. -/
structure HR0 (fids : List Nat) (μ : MU) (H : AH) (w : World) : Prop where
  len : μ.length = H.length
  blk : ∀ (i : Nat) (b : Blk) (e : Ent), H[i]? = some b → μ[i]? = some (some e) → BR fids μ False b e w
  own : ∀ (i : Nat) (e : Ent), μ[i]? = some (some e) → e.B < w.heap.size

theorem HR0.push {fids : List Nat} {μ : MU} {H : AH} {w : World} (h : HR0 fids μ H w) (b : Blk) (e : Ent) (he : e.B < w.heap.size) (hb : BR fids (μ ++ [some e]) False b e w) : HR0 fids (μ ++ [some e]) (H ++ [b]) w := by
  have hl := h.len
  refine ⟨by simp [hl], fun i b' e' hb' he' => ?_, fun i e' he' => ?_⟩
  · rw [getElem?_snoc] at hb' he'
    by_cases hi : i = H.length
    · subst hi
      rw [if_pos rfl] at hb'; rw [if_pos hl.symm] at he'
      cases hb'; cases he'; exact hb
    · rw [if_neg hi] at hb'; rw [if_neg (by omega)] at he'
      exact (h.blk i b' e' hb' he').of (Ref.app _ _) rfl
  · rw [getElem?_snoc] at he'
    by_cases hi : i = μ.length
    · rw [if_pos hi] at he'; cases he'; exact he
    · rw [if_neg hi] at he'; exact h.own i e' he'

mutual
theorem lay_sound {fids : List Nat} {w : World} : ∀ (d : Dt) (c : Value) (μ : MU) (H : AH), RdD fids w d c → HR0 fids μ H w → ∃ ν, VR fids (μ ++ ν) (lay d H).1 c ∧ HR0 fids (μ ++ ν) (lay d H).2 w
  | _, _, μ, H, .one v c h, hH => ⟨[], h.mono (fun i e hi => by simp at hi), by simpa [lay] using hH⟩
  | _, _, μ, H, .agg l cs h, hH => by
    obtain ⟨ν, hv, hh⟩ := layL_sound l cs μ H h hH
    exact ⟨ν, by simpa only [lay] using VR.agg _ _ hv, by simpa only [lay] using hh⟩
  | _, _, μ, H, .bare x, hH => ⟨[], .nilsl x, by simpa [lay] using hH⟩
  | _, _, μ, H, .row l cs B o cap hl hB hc h, hH => by
    obtain ⟨ν, hv, hh⟩ := layL_sound l cs μ H h hH
    have hlen : (layL l H).1.length = l.length := by rw [hv.length, h.length]
    have hml := hh.len
    refine ⟨ν ++ [some ⟨B, o, cap, 1⟩], ?_, ?_⟩
    · simp only [lay, cond_false, hlen]
      have := VR.sl (fids := fids) (μ := μ ++ (ν ++ [some ⟨B, o, cap, 1⟩])) (layL l H).2.length 0 l.length cap ⟨B, o, cap, 1⟩ (by rw [← List.append_assoc, ← hml]; simp) (by simp) hl
      simpa using this
    · simp only [lay, cond_false]
      rw [← List.append_assoc]
      refine hh.push _ _ hB ⟨rfl, fun j v hj => ?_, fun f => f.elim⟩
      obtain ⟨c, hc', hr⟩ := hv.get hj
      exact ⟨c, hc j c hc', hr.mono (Ref.app _ _)⟩
theorem layL_sound {fids : List Nat} {w : World} : ∀ (l : List Dt) (cs : List Value) (μ : MU) (H : AH), RdDs fids w l cs → HR0 fids μ H w →
    ∃ ν, VRs fids (μ ++ ν) (layL l H).1 cs ∧ HR0 fids (μ ++ ν) (layL l H).2 w
  | _, _, μ, H, .nil, hH => ⟨[], .nil, by simpa [layL] using hH⟩
  | _, _, μ, H, .cons d c l cs h hs, hH => by
    obtain ⟨ν, h1, h2⟩ := lay_sound d c μ H h hH
    obtain ⟨ν', h3, h4⟩ := layL_sound l cs (μ ++ ν) (lay d H).2 hs h2
    exact ⟨ν ++ ν', by rw [← List.append_assoc]; exact .cons _ _ _ _ (h1.mono (Ref.app _ _)) h3, by rw [← List.append_assoc]; exact h4⟩
end

/-! The check looks at the program and the functions' numbers alone. -/
section
variable {P : Program} {fids : List Nat} {a b a' b' : Nat}
theorem chkOp_same (op : Op) (io : IOp) : chkOp ⟨P, fids, a, b⟩ op io = chkOp ⟨P, fids, a', b'⟩ op io := by cases io <;> rfl
theorem chkS_same (ops : Array Oper) (nt : Nat) : ∀ (ss : Steps) (g : GC) (seen : List Nat), chkS ⟨P, fids, a, b⟩ ops nt g seen ss = chkS ⟨P, fids, a', b'⟩ ops nt g seen ss
  | .nil, _, _ => by unfold chkS; rfl
  | .chk _ r, g, seen => by unfold chkS; exact chkS_same ops nt r g seen
  | .op i d io r, g, seen => by
    unfold chkS
    split
    · rename_i o _; rw [chkOp_same (a' := a') (b' := b') o.op io, chkS_same ops nt r]
    · rfl
  | .grp gt want inner i pd px r, g, seen => by
    unfold chkS
    split
    · rw [chkS_same ops nt inner, chkS_same ops nt r]
    · rfl
theorem chkReg_same (ops : Array Oper) (draw : Bool) (nt : Nat) (ss : Steps) : chkReg ⟨P, fids, a, b⟩ ops draw nt ss = chkReg ⟨P, fids, a', b'⟩ ops draw nt ss := by
  cases draw
  · simp only [chkReg]; rw [chkS_same]
  · simp only [chkReg, chkD]; rw [chkS_same]
theorem chkC_same (body : Code) (nt : Nat) (labels : List (List At)) : ∀ (c : IRc) (todo : List At), chkC ⟨P, fids, a, b⟩ body nt labels c todo = chkC ⟨P, fids, a', b'⟩ body nt labels c todo
  | .reg ss next, todo => by
    unfold chkC
    split
    · split
      · rw [chkReg_same (a' := a') (b' := b'), chkC_same body nt labels next]
      · rfl
    · rfl
  | .ite c p q, todo => by
    unfold chkC
    split
    · split
      · rw [chkC_same body nt labels p, chkC_same body nt labels q]
      · rfl
    · rfl
  | .jump j, todo => by unfold chkC; rfl
  | .ret, todo => by unfold chkC; rfl
theorem chkPieces_same (body : Code) (nt : Nat) (labels : List (List At)) : ∀ (ps : List Piece), chkPieces ⟨P, fids, a, b⟩ body nt labels ps = chkPieces ⟨P, fids, a', b'⟩ body nt labels ps
  | [] => rfl
  | p :: ps => by simp only [chkPieces]; rw [chkC_same (a' := a') (b' := b'), chkPieces_same body nt labels ps]
theorem chkFn_same (f : FuncId) (fn : Fn) : chkFn ⟨P, fids, a, b⟩ f fn = chkFn ⟨P, fids, a', b'⟩ f fn := by
  unfold chkFn
  simp only
  split
  · split
    · rw [chkPieces_same]
    · rfl
  · rfl
theorem chkG_same : ∀ (fs : List FuncId) (fns : List Fn), chkG ⟨P, fids, a, b⟩ fs fns = chkG ⟨P, fids, a', b'⟩ fs fns
  | [], [] => rfl
  | f :: fs, fn :: fns => by simp only [chkG]; rw [chkFn_same (a' := a') (b' := b'), chkG_same fs fns]
  | [], _ :: _ => rfl
  | _ :: _, [] => rfl
end

/-- THE END OF A LAW: what the evaluator says of laid arguments, the code does. -/
theorem law_calls {P : Program} {fids : List Nat} {G : Pg} (hG : chkG ⟨P, fids, 0, 0⟩ fids G = true) (hw : P.follows .mixedOrders = true) {k g f : Nat} {ds : List Dt} {cs : List Value} {w : World} {b : Bool} {H' : AH} (hg : fids[g]? = some f)
    (hr : RdDs fids w ds cs)
    (h : run G k PV g 0 (layL ds []).1 (layL ds []).2.length (layL ds []).2 pr = some (.bool b, H')) : Calls P f cs.toArray w fun e w' => e = .returned (.bool b) ∧ Below w.heap.size w w' := by
  obtain ⟨ν, h1, h2⟩ := layL_sound ds cs [] [] hr ⟨rfl, fun i b e hi => by simp at hi, fun i e hi => by simp at hi⟩
  simp only [List.nil_append] at h1 h2
  let C : Ctx := ⟨P, fids, (layL ds []).2.length, w.heap.size⟩
  have hG' : chkG C C.fids G = true := by rw [← hG]; exact chkG_same _ _
  have hHR : HR C ν (layL ds []).2 w := by
    have hlt : ∀ {i : Nat} {b : Blk}, (layL ds []).2[i]? = some b → i < (layL ds []).2.length := fun hi => (List.getElem?_eq_some_iff.1 hi).1
    refine ⟨h2.len, fun i b e hb he => ?_, fun i j bi bj ei ej _ hbi _ _ _ _ _ hlo => ?_, fun i e he => ⟨h2.own i e he, fun hlo => ?_⟩, Nat.le_refl _, Nat.le_refl _⟩
    · have hn : ¬ (layL ds []).2.length ≤ i := by have := hlt hb; omega
      have hB := h2.blk i b e hb he
      cases b with
      | cells vs sz => exact ⟨hB.1, hB.2.1, fun ho => absurd ho hn⟩
      | map es => obtain ⟨ms, ck, _, _, ho, _⟩ := hB; exact ho.elim
      | dead => trivial
    · exact absurd hlo (by have := hlt hbi; simp only [C]; omega)
    · have := (List.getElem?_eq_some_iff.1 he).1
      rw [h2.len] at this
      exact absurd hlo (by simp only [C]; omega)
  refine (run_sound (C := C) hG' hw hg h (Nat.le_refl _) (Nat.le_refl _) h1 hHR).mono fun e w' ⟨c, hc, μ', hgd⟩ => ?_
  subst hc
  exact ⟨by rw [hgd.val.bool_inv], hgd.below⟩

/-! ### Arguments as they are read -/
section
variable {HH : Type} {enc : TypeId × Value → HH} {P : Program} {w : World} {base : Nat} {held : Bool} {fids : List Nat}

/-- A value of type t opens as a datum of which Q. -/
def OpensD (enc : TypeId × Value → HH) (P : Program) (w : World) (base : Nat) (held : Bool) (fids : List Nat) (t : TypeId) (Q : Dt → Prop) : Prop :=
  ∀ fuel cs x, DataW.trod enc P w base (fun _ => true) held fuel t cs = some x → ∃ d c, cs = [c] ∧ RdD fids w d c ∧ Q d

theorem opensD_int {t : TypeId} {k : IntKind} (ht : P.underlying t = some (.int k)) : OpensD enc P w base held fids t (fun d => ∃ n, d = .one (.int k n) ∧ (Lit.int k n).wf = true) := by
  intro fuel cs x h
  obtain ⟨m, rfl, _, hw⟩ := DataW.trod_int ht h
  exact ⟨.one (.int k m), _, rfl, .one _ _ (.int k m), m, rfl, hw⟩

theorem opensD_bool {t : TypeId} (ht : P.underlying t = some .bool) : OpensD enc P w base held fids t (fun d => ∃ b, d = .one (.bool b)) := by
  intro fuel cs x h
  obtain ⟨b, rfl, _⟩ := DataW.trod_bool ht h
  exact ⟨.one (.bool b), _, rfl, .one _ _ (.bool b), b, rfl⟩
/-- An argument that is a struct of fields of one cell: its fields' values. -/
theorem open_structD {t : TypeId} {fs : Array Field} {r : Reach} {b0 : Nat} {v : Value} {dd : DataW HH} {ps : List MemPlace} (ht : P.underlying t = some (.struct fs)) (hC : P.cellsOf t = fs.size)
    (hf : ∀ (i : Nat) (f : Field), fs[i]? = some f → f.offset = i ∧ P.cellsOf f.type = 1) (hval : Value.okWide P w r b0 t v) (h : DataW.Trod enc P w base (fun _ => true) held t v dd ps) :
    ∃ cs : Array Value, v = .agg cs ∧ cs.size = fs.size ∧ ∀ (i : Nat) (f : Field), fs[i]? = some f → ∃ (n : Nat) (u : Value) (y : DataW HH × List MemPlace), cs[i]? = some u ∧ DataW.trod enc P w base (fun _ => true) held n f.type [u] = some y := by
  obtain ⟨cs, rfl, hsz⟩ := okWide_struct ht hval
  obtain ⟨fuel, hx⟩ := h
  obtain ⟨xs, n, _, _, hl, hlen, hfs⟩ := DataW.trod_struct ht hx
  refine ⟨cs, rfl, hsz.trans hC, fun i f hif => ?_⟩
  obtain ⟨ho, hc⟩ := hf i f hif
  have hi : i < fs.size := (Array.getElem?_eq_some_iff.1 hif).1
  have hi2 : i < cs.size := by omega
  have := hfs i f hif
  rw [List.getElem?_eq_getElem (by omega)] at this
  refine ⟨n, cs[i], xs[i]'(by omega), Array.getElem?_eq_getElem hi2, ?_⟩
  have e : ((Value.agg cs).cells.toList.drop f.offset).take (P.cellsOf f.type) = [cs[i]] := by
    rw [ho, hc]
    show (cs.toList.drop i).take 1 = _
    rw [List.drop_eq_getElem_cons (by simpa using hi2)]
    simp
  rw [← e]
  exact this

/-- A row whose data are of Q. -/
def RowQ (Q : Dt → Prop) (d : Dt) : Prop := ∃ l bare, d = .row l bare ∧ (bare = true → l = []) ∧ l.length ≤ 9223372036854775807 ∧ ∀ x ∈ l, Q x

theorem list_ofD {p : Nat → Dt → Prop} : ∀ n : Nat, (∀ i, i < n → ∃ v, p i v) → ∃ l : List Dt, l.length = n ∧ ∀ (j : Nat) (v : Dt), l[j]? = some v → p j v
  | 0, _ => ⟨[], rfl, fun j v hj => by simp at hj⟩
  | n + 1, h => by
    obtain ⟨l, hl, hp⟩ := list_ofD n (fun i hi => h i (by omega))
    obtain ⟨v, hv⟩ := h n (by omega)
    refine ⟨l ++ [v], by simp [hl], fun j u hj => ?_⟩
    rw [getElem?_snoc] at hj
    by_cases hjn : j = l.length
    · rw [if_pos hjn] at hj; cases hj; rw [hjn, hl]; exact hv
    · rw [if_neg hjn] at hj; exact hp j u hj

theorem opensD_slice {t e : TypeId} {Q : Dt → Prop} (ht : P.underlying t = some (.slice e)) (ce : P.cellsOf e = 1) (h : OpensD enc P w base held fids e Q) : OpensD enc P w base held fids t (RowQ Q) := by
  intro fuel cs x hx
  rcases open_slice1 ht ce hx with ⟨rfl, _⟩ | ⟨a, len, cap, m, n, V, D, Pl, rfl, _, hl, hm, hmm, _, hV⟩
  · exact ⟨.row [] true, _, rfl, .bare none, [], true, rfl, fun _ => rfl, by simp, by simp⟩
  · simp only [if_true] at hmm
    subst hmm
    rcases Nat.eq_zero_or_pos m with h0 | h0
    · subst h0
      have : len = 0 := by omega
      subst this
      exact ⟨.row [] true, _, rfl, .bare (some a), [], true, rfl, fun _ => rfl, by simp, by simp⟩
    · have hc0 := (hV 0 h0).1
      have hspot : a.spot = none := by
        cases hs : a.spot with
        | none => rfl
        | some s =>
          simp only [Addr.add, if_true, World.cell?] at hc0
          split at hc0
          · rw [hs] at hc0; simp at hc0
          · simp at hc0
      have hblk : a.block < w.heap.size := World.block_lt_of_cell? w a (by simpa [Addr.add] using hc0)
      obtain ⟨B, o, sp⟩ := a
      simp only at hspot hblk
      subst hspot
      obtain ⟨l, hlen, hf⟩ := list_ofD (p := fun i d => ∃ c, w.cell? ⟨B, o + i, none⟩ = some c ∧ RdD fids w d c ∧ Q d) len (fun i hi => by
        obtain ⟨h1, h2⟩ := hV i (by omega)
        rw [addr_add] at h1
        obtain ⟨d, c, hc, hd, hq⟩ := h _ _ _ h2
        cases hc
        exact ⟨d, _, h1, hd, hq⟩)
      subst hlen
      obtain ⟨cs, hcs⟩ : ∃ cs : List Value, cs.length = l.length ∧ ∀ (j : Nat) (d : Dt) (c : Value), l[j]? = some d → cs[j]? = some c → w.cell? ⟨B, o + j, none⟩ = some c ∧ RdD fids w d c := by
        have : ∀ (l : List Dt) (o : Nat), (∀ (j : Nat) (d : Dt), l[j]? = some d → ∃ c, w.cell? ⟨B, o + j, none⟩ = some c ∧ RdD fids w d c) → ∃ cs : List Value, cs.length = l.length ∧ ∀ (j : Nat) (d : Dt) (c : Value), l[j]? = some d → cs[j]? = some c → w.cell? ⟨B, o + j, none⟩ = some c ∧ RdD fids w d c := by
          intro l
          induction l with
          | nil => intro o _; exact ⟨[], rfl, fun j d c hj => by simp at hj⟩
          | cons d l ih =>
            intro o h
            obtain ⟨c, h1, h2⟩ := h 0 d (by simp)
            obtain ⟨cs, h3, h4⟩ := ih (o + 1) (fun j d' hj => by
              obtain ⟨c', h5, h6⟩ := h (j + 1) d' (by simpa using hj)
              exact ⟨c', by rw [show o + 1 + j = o + (j + 1) by omega]; exact h5, h6⟩)
            refine ⟨c :: cs, by simp [h3], fun j d' c' hj hc => ?_⟩
            cases j with
            | zero => simp at hj hc; subst hj; subst hc; exact ⟨by simpa using h1, h2⟩
            | succ j =>
              have := h4 j d' c' (by simpa using hj) (by simpa using hc)
              rw [show o + (j + 1) = o + 1 + j by omega]; exact this
        exact this l o fun j d hj => by obtain ⟨c, h1, h2, _⟩ := hf j d hj; exact ⟨c, h1, h2⟩
      refine ⟨.row l false, _, rfl, .row l cs B o m hl hblk (fun j c hc => ?_) (RdDs.of hcs.1.symm fun j d c h1 h2 => (hcs.2 j d c h1 h2).2), l, false, rfl, (fun e => by cases e), (by unfold maxLen at hm; omega), fun d hd => ?_⟩
      · have hj : j < l.length := by rw [← hcs.1]; exact (List.getElem?_eq_some_iff.1 hc).1
        exact (hcs.2 j _ c (List.getElem?_eq_getElem hj) hc).1
      · obtain ⟨i, hi⟩ := List.getElem?_of_mem hd
        obtain ⟨c, _, _, h3⟩ := hf i d hi; exact h3

/-- An argument. -/
theorem open_argD {t : TypeId} {Q : Dt → Prop} {v : Value} {dd : DataW HH} {ps : List MemPlace} {e : TypeId} (ht : P.underlying t = some (.slice e)) {r : Reach} {b0 : Nat} (hval : Value.okWide P w r b0 t v) (h : DataW.Trod enc P w base (fun _ => true) held t v dd ps)
    (ho : OpensD enc P w base held fids t Q) : ∃ d, RdD fids w d v ∧ Q d := by
  obtain ⟨a, len, cap, rfl⟩ := okWide_slice ht hval
  obtain ⟨fuel, hf⟩ := h
  obtain ⟨d, c, hc, hd, hq⟩ := ho _ _ _ hf
  simp [Value.cells] at hc
  subst hc
  exact ⟨d, hd, hq⟩
end

/-! ### Laid rows as lists -/
/-- A row of whole numbers. -/
def ints (k : IntKind) (l : List Int) (bare : Bool) : Dt := .row (l.map fun n => .one (.int k n)) bare
theorem rowQ_ints {k : IntKind} {d : Dt} (h : RowQ (fun d => ∃ n, d = .one (.int k n) ∧ (Lit.int k n).wf = true) d) : ∃ l bare, d = ints k l bare ∧ (bare = true → l = []) ∧ l.length ≤ 9223372036854775807 ∧ ∀ n ∈ l, (Lit.int k n).wf = true := by
  obtain ⟨l, bare, rfl, hb, hl, hq⟩ := h
  have : ∃ m : List Int, l = m.map (fun n => .one (.int k n)) ∧ ∀ n ∈ m, (Lit.int k n).wf = true := by
    clear hb hl
    induction l with
    | nil => exact ⟨[], rfl, by simp⟩
    | cons x l ih =>
      obtain ⟨n, hn, hw⟩ := hq x (by simp)
      obtain ⟨m, hm, hms⟩ := ih (fun y hy => hq y (by simp [hy]))
      exact ⟨n :: m, by simp [hn, hm], by simpa [hw] using hms⟩
  obtain ⟨m, rfl, hm⟩ := this
  exact ⟨m, bare, rfl, fun e => by simpa using hb e, by simpa using hl, hm⟩
/-- A row of rows. -/
def rows (k : IntKind) (l : List (List Int × Bool)) (bare : Bool) : Dt := .row (l.map fun p => ints k p.1 p.2) bare
theorem rowQ_rows {k : IntKind} {d : Dt} (h : RowQ (RowQ (fun d => ∃ n, d = .one (.int k n) ∧ (Lit.int k n).wf = true)) d) :
    ∃ l bare, d = rows k l bare ∧ (bare = true → l = []) ∧ l.length ≤ 9223372036854775807 ∧ ∀ p ∈ l, (p.2 = true → p.1 = []) ∧ p.1.length ≤ 9223372036854775807 ∧ ∀ n ∈ p.1, (Lit.int k n).wf = true := by
  obtain ⟨l, bare, rfl, hb, hl, hq⟩ := h
  have : ∃ m : List (List Int × Bool), l = m.map (fun p => ints k p.1 p.2) ∧ ∀ p ∈ m, (p.2 = true → p.1 = []) ∧ p.1.length ≤ 9223372036854775807 ∧ ∀ n ∈ p.1, (Lit.int k n).wf = true := by
    clear hb hl
    induction l with
    | nil => exact ⟨[], rfl, by simp⟩
    | cons x l ih =>
      obtain ⟨xs, b, hx, h1, h2, h3⟩ := rowQ_ints (hq x (by simp))
      obtain ⟨m, hm, hms⟩ := ih (fun y hy => hq y (by simp [hy]))
      refine ⟨(xs, b) :: m, by simp [hx, hm], fun p hp => ?_⟩
      rcases List.mem_cons.1 hp with rfl | hp
      · exact ⟨h1, h2, h3⟩
      · exact hms p hp
  obtain ⟨m, rfl, hm⟩ := this
  exact ⟨m, bare, rfl, fun e => by simpa using hb e, by simpa using hl, hm⟩

/-- A slice of the abstract heap that reads as a list. -/
def RowOf {α : Type} (R : AV → α → Prop) (H : AH) (s : Sl) (xs : List α) : Prop :=
  s.len = xs.length ∧ (∀ (j : Nat) (x : α), xs[j]? = some x → ∃ p vs sz v, s.p = some p ∧ H[p.b]? = some (.cells vs sz) ∧ vs[p.o + j]? = some v ∧ R v x) ∧ ∀ p, s.p = some p → ∃ vs sz, H[p.b]? = some (.cells vs sz) ∧ p.o + s.len ≤ vs.length
def Row (H : AH) (s : Sl) (xs : List Int) : Prop := RowOf (fun v x => v = .int .i64 x) H s xs
def Tab (H : AH) (s : Sl) (T : List (List Int)) : Prop := RowOf (fun v row => ∃ r, v = .sl r ∧ Row H r row) H s T

theorem layL_length : ∀ (l : List Dt) (H : AH), (layL l H).1.length = l.length
  | [], _ => by simp [layL]
  | d :: l, H => by simp [layL, layL_length l]
mutual
theorem lay_ext : ∀ (d : Dt) (H : AH), ∃ E, (lay d H).2 = H ++ E
  | .one v, H => ⟨[], by simp [lay]⟩
  | .agg l, H => by obtain ⟨E, h⟩ := layL_ext l H; exact ⟨E, by simp only [lay]; exact h⟩
  | .row l bare, H => by
    cases bare
    · obtain ⟨E, h⟩ := layL_ext l H; exact ⟨E ++ [.cells (layL l H).1 1], by simp [lay, h]⟩
    · exact ⟨[], by simp [lay]⟩
theorem layL_ext : ∀ (l : List Dt) (H : AH), ∃ E, (layL l H).2 = H ++ E
  | [], H => ⟨[], by simp [layL]⟩
  | d :: l, H => by
    obtain ⟨E, h⟩ := lay_ext d H
    obtain ⟨E', h'⟩ := layL_ext l (lay d H).2
    exact ⟨E ++ E', by simp only [layL]; rw [h', h, List.append_assoc]⟩
end
theorem RowOf.ext {α : Type} {R : AV → α → Prop} {H : AH} {s : Sl} {xs : List α} (h : RowOf R H s xs) (E : AH) : RowOf R (H ++ E) s xs :=
  ⟨h.1, fun j x hj => by
    obtain ⟨p, vs, sz, v, h1, h2, h3, h4⟩ := h.2.1 j x hj
    exact ⟨p, vs, sz, v, h1, by rw [List.getElem?_append_left (List.getElem?_eq_some_iff.1 h2).1]; exact h2, h3, h4⟩, fun p hp => by
    obtain ⟨vs, sz, h1, h2⟩ := h.2.2 p hp
    exact ⟨vs, sz, by rw [List.getElem?_append_left (List.getElem?_eq_some_iff.1 h1).1]; exact h1, h2⟩⟩
theorem RowOf.imp {α : Type} {R R' : AV → α → Prop} {H : AH} {s : Sl} {xs : List α} (h : RowOf R H s xs) (hr : ∀ v x, R v x → R' v x) : RowOf R' H s xs :=
  ⟨h.1, fun j x hj => by
    obtain ⟨p, vs, sz, v, h1, h2, h3, h4⟩ := h.2.1 j x hj
    exact ⟨p, vs, sz, v, h1, h2, h3, hr _ _ h4⟩, h.2.2⟩
theorem Tab.ext {H : AH} {s : Sl} {T : List (List Int)} (h : Tab H s T) (E : AH) : Tab (H ++ E) s T :=
  (RowOf.ext h E).imp fun v x ⟨r, h1, h2⟩ => ⟨r, h1, RowOf.ext h2 E⟩

/-- A laid row reads as its list. -/
theorem lay_row {α : Type} {R : AH → AV → α → Prop} (f : α → Dt) (hmono : ∀ H E v x, R H v x → R (H ++ E) v x) (hone : ∀ (x : α) (H : AH), R (lay (f x) H).2 (lay (f x) H).1 x) :
    ∀ (l : List α) (H : AH) (j : Nat) (x : α), l[j]? = some x → ∃ v, (layL (l.map f) H).1[j]? = some v ∧ R (layL (l.map f) H).2 v x
  | [], H, j, x, h => by simp at h
  | a :: l, H, 0, x, h => by
    simp at h; subst h
    obtain ⟨E, hE⟩ := layL_ext (l.map f) (lay (f a) H).2
    exact ⟨(lay (f a) H).1, by simp [layL], by simp only [List.map_cons, layL]; rw [hE]; exact hmono _ _ _ _ (hone a H)⟩
  | a :: l, H, j + 1, x, h => by
    obtain ⟨v, h1, h2⟩ := lay_row f hmono hone l (lay (f a) H).2 j x (by simpa using h)
    exact ⟨v, by simpa [layL] using h1, by simpa [layL] using h2⟩
theorem lay_rowOf {α : Type} {R : AH → AV → α → Prop} (f : α → Dt) (hmono : ∀ H E v x, R H v x → R (H ++ E) v x) (hone : ∀ (x : α) (H : AH), R (lay (f x) H).2 (lay (f x) H).1 x) (l : List α) (bare : Bool) (hb : bare = true → l = []) (H : AH) :
    ∃ s, (lay (.row (l.map f) bare) H).1 = .sl s ∧ RowOf (R (lay (.row (l.map f) bare) H).2) (lay (.row (l.map f) bare) H).2 s l := by
  cases bare with
  | true =>
    have := hb rfl
    subst this
    exact ⟨⟨none, 0⟩, by simp [lay], rfl, fun j x hj => by simp at hj, fun p hp => by cases hp⟩
  | false =>
    refine ⟨⟨some ⟨(layL (l.map f) H).2.length, 0⟩, (layL (l.map f) H).1.length⟩, by simp only [lay, cond_false], by simp [layL_length], fun j x hj => ?_, fun p hp => ?_⟩
    case refine_2 => cases hp; exact ⟨(layL (l.map f) H).1, 1, by simp [lay], by simp⟩
    obtain ⟨v, h1, h2⟩ := lay_row f hmono hone l H j x hj
    exact ⟨_, (layL (l.map f) H).1, 1, v, rfl, by simp [lay], by simpa using h1, by simp only [lay, cond_false]; exact hmono _ _ _ _ h2⟩
theorem lay_ints (l : List Int) (bare : Bool) (hb : bare = true → l = []) (H : AH) : ∃ s, (lay (ints .i64 l bare) H).1 = .sl s ∧ Row (lay (ints .i64 l bare) H).2 s l :=
  lay_rowOf (R := fun _ v x => v = .int .i64 x) (fun n => .one (.int .i64 n)) (fun _ _ _ _ h => h) (fun x H => by simp [lay]) l bare hb H
theorem lay_rows (l : List (List Int × Bool)) (bare : Bool) (hb : bare = true → l = []) (hl : ∀ p ∈ l, p.2 = true → p.1 = []) (H : AH) : ∃ s, (lay (rows .i64 l bare) H).1 = .sl s ∧ Tab (lay (rows .i64 l bare) H).2 s (l.map (·.1)) := by
  obtain ⟨s, h1, h2⟩ := lay_rowOf (R := fun H v (x : List Int × Bool) => (x.2 = true → x.1 = []) → ∃ r, v = .sl r ∧ Row H r x.1) (fun p => ints .i64 p.1 p.2) (fun H E v x h hx => by
    obtain ⟨r, h1, h2⟩ := h hx; exact ⟨r, h1, RowOf.ext h2 E⟩) (fun x H hx => lay_ints x.1 x.2 hx H) l bare hb H
  refine ⟨s, h1, by simpa using h2.1, fun j x hj => ?_, h2.2.2⟩
  simp only [List.getElem?_map, Option.map_eq_some_iff] at hj
  obtain ⟨y, hy, rfl⟩ := hj
  obtain ⟨p, vs, sz, v, g1, g2, g3, g4⟩ := h2.2.1 j y hy
  exact ⟨p, vs, sz, v, g1, g2, g3, g4 (hl y (List.mem_of_getElem? hy))⟩
end Go.Ab

/- The calculus for what the evaluator says: one judgement, its steps, loops, reads. Plain lemmas. No condition. -/
set_option linter.unusedVariables false
set_option linter.unusedSimpArgs false
namespace Go.Ab
open Go

/-- What is asked: with k rounds, for any continuation. -/
abbrev Qn (A : Type) := (ρ : Type) → Nat → (A → AH → Option ρ) → Option ρ
/-- From some number of rounds on it is the continuation at one answer and memory, of which Q. -/
def Ev {A : Type} (F : Qn A) (Q : A → AH → Prop) : Prop := ∃ a H, Q a H ∧ ∃ k0, ∀ k, k0 ≤ k → ∀ (ρ : Type) (κ : A → AH → Option ρ), F ρ k κ = κ a H
/-- .. that answer and memory. -/
abbrev Is {A : Type} (a : A) (H : AH) : A → AH → Prop := fun b H' => b = a ∧ H' = H

section
variable {A B C : Type} {Q : A → AH → Prop} {F G H1 : Qn A} {H : AH}
theorem ev_eq (h : ∀ (ρ : Type) (k : Nat) (κ : A → AH → Option ρ), F ρ (k + 1) κ = G ρ k κ) (hG : Ev G Q) : Ev F Q := by
  obtain ⟨a, H, hq, k0, hk⟩ := hG
  refine ⟨a, H, hq, k0 + 1, fun k hle ρ κ => ?_⟩
  obtain ⟨k, rfl⟩ : ∃ j, k = j + 1 := ⟨k - 1, by omega⟩
  rw [h]; exact hk k (by omega) ρ κ
theorem ev_ret {a : A} (h : Q a H) : Ev (fun ρ k κ => κ a H) Q := ⟨a, H, h, 0, fun _ _ _ _ => rfl⟩
theorem ev_imp {Q' : A → AH → Prop} (h : Ev F Q) (hi : ∀ a H, Q a H → Q' a H) : Ev F Q' := by
  obtain ⟨a, H, hq, hk⟩ := h
  exact ⟨a, H, hi a H hq, hk⟩
/-- A call, or any other question that is asked on the way. -/
theorem ev_call {F' : Qn B} {Q' : B → AH → Prop} {K : (ρ : Type) → Nat → (A → AH → Option ρ) → B → AH → Option ρ} (h : Ev F' Q') (hK : ∀ b H', Q' b H' → Ev (fun ρ k κ => K ρ k κ b H') Q) : Ev (fun ρ k κ => F' ρ k (K ρ k κ)) Q := by
  obtain ⟨b, H', hq, k0, hk⟩ := h
  obtain ⟨a, H'', hq', k1, hk'⟩ := hK b H' hq
  refine ⟨a, H'', hq', max k0 k1, fun k hle ρ κ => ?_⟩
  show F' ρ k (K ρ k κ) = _
  rw [hk k (by omega)]; exact hk' k (by omega) ρ κ
theorem ev_is {F' : Qn B} {b : B} {H' : AH} {K : (ρ : Type) → Nat → (A → AH → Option ρ) → B → AH → Option ρ} (h : Ev F' (Is b H')) (hK : Ev (fun ρ k κ => K ρ k κ b H') Q) : Ev (fun ρ k κ => F' ρ k (K ρ k κ)) Q :=
  ev_call h fun b' H'' ⟨e1, e2⟩ => by subst e1; subst e2; exact hK
theorem ev_pos {c : Prop} [Decidable c] (hc : c) (h : Ev F Q) : Ev (fun ρ k κ => bif decide c then F ρ k κ else G ρ k κ) Q := by simpa only [decide_eq_true hc, cond_true] using h
theorem ev_neg {c : Prop} [Decidable c] (hc : ¬ c) (h : Ev G Q) : Ev (fun ρ k κ => bif decide c then F ρ k κ else G ρ k κ) Q := by simpa only [decide_eq_false hc, cond_false] using h
theorem ev_if {c : Prop} [Decidable c] (h1 : c → Ev F Q) (h2 : ¬ c → Ev G Q) : Ev (fun ρ k κ => bif decide c then F ρ k κ else G ρ k κ) Q := by
  by_cases hc : c
  · exact ev_pos hc (h1 hc)
  · exact ev_neg hc (h2 hc)
theorem ev_npos {c : Prop} [Decidable c] (hc : ¬ c) (h : Ev F Q) : Ev (fun ρ k κ => bif !decide c then F ρ k κ else G ρ k κ) Q := by simpa only [decide_eq_false hc, Bool.not_false, cond_true] using h
theorem ev_nneg {c : Prop} [Decidable c] (hc : c) (h : Ev G Q) : Ev (fun ρ k κ => bif !decide c then F ρ k κ else G ρ k κ) Q := by simpa only [decide_eq_true hc, Bool.not_true, cond_false] using h
theorem ev_nif {c : Prop} [Decidable c] (h1 : ¬ c → Ev F Q) (h2 : c → Ev G Q) : Ev (fun ρ k κ => bif !decide c then F ρ k κ else G ρ k κ) Q := by
  by_cases hc : c
  · exact ev_nneg hc (h2 hc)
  · exact ev_npos hc (h1 hc)
theorem ev_t {b : Bool} (hb : b = true) (h : Ev F Q) : Ev (fun ρ k κ => bif b then F ρ k κ else G ρ k κ) Q := by simpa only [hb, cond_true] using h
theorem ev_f {b : Bool} (hb : b = false) (h : Ev G Q) : Ev (fun ρ k κ => bif b then F ρ k κ else G ρ k κ) Q := by simpa only [hb, cond_false] using h
theorem ev_b {b : Bool} (h1 : b = true → Ev F Q) (h2 : b = false → Ev G Q) : Ev (fun ρ k κ => bif b then F ρ k κ else G ρ k κ) Q := by
  cases b with
  | true => exact ev_t rfl (h1 rfl)
  | false => exact ev_f rfl (h2 rfl)
theorem ev_nt {b : Bool} (hb : b = false) (h : Ev F Q) : Ev (fun ρ k κ => bif !b then F ρ k κ else G ρ k κ) Q := ev_t (by simp [hb]) h
theorem ev_nf {b : Bool} (hb : b = true) (h : Ev G Q) : Ev (fun ρ k κ => bif !b then F ρ k κ else G ρ k κ) Q := ev_f (by simp [hb]) h

/-- 'g and ..': what is behind it is asked only if g. -/
theorem ev_and {g : Bool} {M : Nat → CPS Bool} {S : Bool → AH → Prop} {K : (ρ : Type) → Nat → (A → AH → Option ρ) → Bool → AH → Option ρ} (h1 : g = true → Ev (fun ρ k κ => M k ρ κ) S) (h2 : g = false → S false H) (hK : ∀ b H', S b H' → Ev (fun ρ k κ => K ρ k κ b H') Q) :
    Ev (fun ρ k κ => andB g (M k) H (K ρ k κ)) Q := by
  cases g with
  | false =>
    obtain ⟨a, H'', hq', k1, hk'⟩ := hK false H (h2 rfl)
    exact ⟨a, H'', hq', k1, fun k hle ρ κ => by rw [← hk' k hle ρ κ]; rfl⟩
  | true =>
    obtain ⟨b, H', hq, k0, hk⟩ := h1 rfl
    obtain ⟨a, H'', hq', k1, hk'⟩ := hK b H' hq
    refine ⟨a, H'', hq', max k0 k1, fun k hle ρ κ => ?_⟩
    rw [← hk' k (by omega) ρ κ]
    have := hk k (by omega) (Bool × AH) (fun b H' => some (b, H'))
    simp only at this
    simp only [andB, cond_true, this, Option.bind_some]
theorem ev_or {g : Bool} {M : Nat → CPS Bool} {S : Bool → AH → Prop} {K : (ρ : Type) → Nat → (A → AH → Option ρ) → Bool → AH → Option ρ} (h1 : g = false → Ev (fun ρ k κ => M k ρ κ) S) (h2 : g = true → S true H) (hK : ∀ b H', S b H' → Ev (fun ρ k κ => K ρ k κ b H') Q) :
    Ev (fun ρ k κ => orB g (M k) H (K ρ k κ)) Q := by
  cases g with
  | true =>
    obtain ⟨a, H'', hq', k1, hk'⟩ := hK true H (h2 rfl)
    exact ⟨a, H'', hq', k1, fun k hle ρ κ => by rw [← hk' k hle ρ κ]; rfl⟩
  | false =>
    obtain ⟨b, H', hq, k0, hk⟩ := h1 rfl
    obtain ⟨a, H'', hq', k1, hk'⟩ := hK b H' hq
    refine ⟨a, H'', hq', max k0 k1, fun k hle ρ κ => ?_⟩
    rw [← hk' k (by omega) ρ κ]
    have := hk k (by omega) (Bool × AH) (fun b H' => some (b, H'))
    simp only at this
    simp only [orB, Bool.not_false, cond_true, this, Option.bind_some]
/-- .. where the memory is left, and the answer is known. -/
theorem ev_andI {g c : Bool} {M : Nat → CPS Bool} {K : (ρ : Type) → Nat → (A → AH → Option ρ) → Bool → AH → Option ρ} (h1 : g = true → Ev (fun ρ k κ => M k ρ κ) (Is c H)) (h2 : g = false → c = false) (hK : Ev (fun ρ k κ => K ρ k κ c H) Q) :
    Ev (fun ρ k κ => andB g (M k) H (K ρ k κ)) Q :=
  ev_and (S := Is c H) h1 (fun hg => ⟨(h2 hg).symm, rfl⟩) fun b H' ⟨e1, e2⟩ => by subst e1; subst e2; exact hK
theorem ev_orI {g c : Bool} {M : Nat → CPS Bool} {K : (ρ : Type) → Nat → (A → AH → Option ρ) → Bool → AH → Option ρ} (h1 : g = false → Ev (fun ρ k κ => M k ρ κ) (Is c H)) (h2 : g = true → c = true) (hK : Ev (fun ρ k κ => K ρ k κ c H) Q) :
    Ev (fun ρ k κ => orB g (M k) H (K ρ k κ)) Q :=
  ev_or (S := Is c H) h1 (fun hg => ⟨(h2 hg).symm, rfl⟩) fun b H' ⟨e1, e2⟩ => by subst e1; subst e2; exact hK
/-- .. where what is behind it leaves the memory, and says whether c. -/
theorem ev_andP {g c : Prop} [Decidable g] [Decidable c] {M : Nat → CPS Bool} {K : (ρ : Type) → Nat → (A → AH → Option ρ) → Bool → AH → Option ρ} (h : g → Ev (fun ρ k κ => M k ρ κ) (Is (decide c) H)) (hK : Ev (fun ρ k κ => K ρ k κ (decide (g ∧ c)) H) Q) :
    Ev (fun ρ k κ => andB (decide g) (M k) H (K ρ k κ)) Q := by
  refine ev_and (S := Is (decide (g ∧ c)) H) (fun hg => ?_) (fun hg => ?_) fun b H' ⟨e1, e2⟩ => by subst e1; subst e2; exact hK
  · have hg := of_decide_eq_true hg
    exact ev_imp (h hg) fun b H' ⟨e1, e2⟩ => ⟨by rw [e1]; simp [hg], e2⟩
  · have hg := of_decide_eq_false hg
    exact ⟨by simp [hg], rfl⟩
theorem ev_orP {g c : Prop} [Decidable g] [Decidable c] {M : Nat → CPS Bool} {K : (ρ : Type) → Nat → (A → AH → Option ρ) → Bool → AH → Option ρ} (h : ¬ g → Ev (fun ρ k κ => M k ρ κ) (Is (decide c) H)) (hK : Ev (fun ρ k κ => K ρ k κ (decide (g ∨ c)) H) Q) :
    Ev (fun ρ k κ => orB (decide g) (M k) H (K ρ k κ)) Q := by
  refine ev_or (S := Is (decide (g ∨ c)) H) (fun hg => ?_) (fun hg => ?_) fun b H' ⟨e1, e2⟩ => by subst e1; subst e2; exact hK
  · have hg := of_decide_eq_false hg
    exact ev_imp (h hg) fun b H' ⟨e1, e2⟩ => ⟨by rw [e1]; simp [hg], e2⟩
  · have hg := of_decide_eq_true hg
    exact ⟨by simp [hg], rfl⟩
end
theorem ev_unique {A : Type} {F : Qn A} {a b : A} {H H' : AH} (h1 : Ev F (Is a H)) (h2 : Ev F (Is b H')) : a = b ∧ H = H' := by
  obtain ⟨a', _, ⟨rfl, rfl⟩, K, h1⟩ := h1
  obtain ⟨b', _, ⟨rfl, rfl⟩, L, h2⟩ := h2
  have e1 := h1 (max K L) (by omega) (_ × AH) (fun a H => some (a, H))
  have e2 := h2 (max K L) (by omega) (_ × AH) (fun a H => some (a, H))
  rw [e1] at e2
  cases e2; exact ⟨rfl, rfl⟩

/-! ### Loops -/
section
variable {α A : Type} {Q : A → AH → Prop}
/-- A loop over i, i + 1, .., n - 1 with a state. -/
theorem ev_for {g : Int → α → Qn A} (n : Int) (inv : Int → α → Prop)
    (hs : ∀ i a, 0 ≤ i → i < n → inv i a → Ev (g i a) Q ∨ ∃ a', inv (i + 1) a' ∧ (Ev (g (i + 1) a') Q → Ev (g i a) Q))
    (hend : ∀ a, inv n a → Ev (g n a) Q) (i : Int) (a : α) (h0 : 0 ≤ i) (h1 : i ≤ n) (hi : inv i a) : Ev (g i a) Q := by
  have key : ∀ (m : Nat) (i : Int) (a : α), 0 ≤ i → i ≤ n → (n - i).toNat = m → inv i a → Ev (g i a) Q := by
    intro m
    induction m with
    | zero =>
      intro i a h0 h1 hm hi
      have : i = n := by omega
      subst this
      exact hend a hi
    | succ m ih =>
      intro i a h0 h1 hm hi
      rcases hs i a h0 (by omega) hi with H | ⟨a', hi', H⟩
      · exact H
      · exact H (ih (i + 1) a' (by omega) (by omega) (by omega) hi')
  exact key _ i a h0 h1 rfl hi
/-- .. without a state. -/
theorem ev_for0 {g : Int → Qn A} (n : Int) (inv : Int → Prop)
    (hs : ∀ i, 0 ≤ i → i < n → inv i → Ev (g i) Q ∨ (inv (i + 1) ∧ (Ev (g (i + 1)) Q → Ev (g i) Q)))
    (hend : inv n → Ev (g n) Q) (i : Int) (h0 : 0 ≤ i) (h1 : i ≤ n) (hi : inv i) : Ev (g i) Q :=
  ev_for (α := Unit) (g := fun i _ => g i) n (fun i _ => inv i) (fun i a h0 h1 hi => (hs i h0 h1 hi).elim .inl (fun h => .inr ⟨(), h⟩)) (fun _ => hend) i () h0 h1 hi
/-- A loop that is never left early: the state after each round is of the invariant. -/
theorem ev_loop {g : Int → α → Qn A} (n : Int) (inv : Int → α → Prop)
    (hs : ∀ i a, 0 ≤ i → i < n → inv i a → (∀ a', inv (i + 1) a' → Ev (g (i + 1) a') Q) → Ev (g i a) Q)
    (hend : ∀ a, inv n a → Ev (g n a) Q) (i : Int) (a : α) (h0 : 0 ≤ i) (h1 : i ≤ n) (hi : inv i a) : Ev (g i a) Q := by
  have key : ∀ (m : Nat) (i : Int) (a : α), 0 ≤ i → i ≤ n → (n - i).toNat = m → inv i a → Ev (g i a) Q := by
    intro m
    induction m with
    | zero =>
      intro i a h0 h1 hm hi
      have : i = n := by omega
      subst this
      exact hend a hi
    | succ m ih =>
      intro i a h0 h1 hm hi
      exact hs i a h0 (by omega) hi fun a' hi' => ih (i + 1) a' (by omega) (by omega) (by omega) hi'
  exact key _ i a h0 h1 rfl hi
/-- The first answer among f i, f (i + 1), .., m of them. -/
def fnd (f : Int → Option α) : Int → Nat → Option α
  | _, 0 => none
  | i, m + 1 => match f i with
    | some a => some a
    | none => fnd f (i + 1) m
theorem ev_fnd {g : Int → Qn A} {f : Int → Option α} (n : Int)
    (hs : ∀ i, 0 ≤ i → i < n → f i = none → Ev (g (i + 1)) Q → Ev (g i) Q)
    (i : Int) (m : Nat) (h0 : 0 ≤ i) (h1 : i + m = n)
    (hf : ∀ j a, 0 ≤ j → j < n → f j = some a → fnd f i m = some a → Ev (g j) Q) (hend : fnd f i m = none → Ev (g n) Q) : Ev (g i) Q := by
  induction m generalizing i with
  | zero =>
    have : i = n := by omega
    subst this
    exact hend rfl
  | succ m ih =>
    cases hfi : f i with
    | some a => exact hf i a h0 (by omega) hfi (by unfold fnd; rw [hfi])
    | none =>
      have e : fnd f i (m + 1) = fnd f (i + 1) m := by conv => lhs; unfold fnd; rw [hfi]
      exact hs i h0 (by omega) hfi (ih (i + 1) (by omega) (by omega) (fun j a a1 a2 a3 a4 => hf j a a1 a2 a3 (by rw [e]; exact a4)) (fun h => hend (by rw [e]; exact h)))
theorem fnd_some {f : Int → Option α} {a : α} {i : Int} {m : Nat} (h : fnd f i m = some a) : ∃ j, i ≤ j ∧ j < i + m ∧ f j = some a ∧ ∀ j', i ≤ j' → j' < j → f j' = none := by
  induction m generalizing i with
  | zero => simp [fnd] at h
  | succ m ih =>
    unfold fnd at h
    cases hf : f i with
    | some b =>
      rw [hf] at h
      exact ⟨i, by omega, by omega, by rw [hf]; exact h, fun j' h1 h2 => by omega⟩
    | none =>
      rw [hf] at h
      obtain ⟨j, h1, h2, h3, h4⟩ := ih h
      refine ⟨j, by omega, by omega, h3, fun j' a b => ?_⟩
      by_cases hj : j' = i
      · rw [hj]; exact hf
      · exact h4 j' (by omega) b
theorem fnd_none {f : Int → Option α} {i : Int} {m : Nat} : fnd f i m = none ↔ ∀ j, i ≤ j → j < i + m → f j = none := by
  constructor
  · intro h
    induction m generalizing i with
    | zero => intro j h1 h2; omega
    | succ m ih =>
      unfold fnd at h
      cases hf : f i with
      | some b => rw [hf] at h; cases h
      | none =>
        rw [hf] at h
        intro j h1 h2
        by_cases hj : j = i
        · rw [hj]; exact hf
        · exact ih h j (by omega) (by omega)
  · intro h
    cases e : fnd f i m with
    | none => rfl
    | some a =>
      obtain ⟨j, h1, h2, h3, _⟩ := fnd_some e
      rw [h j h1 h2] at h3; cases h3
theorem fnd_first {f : Int → Option α} {a : α} {i : Int} {m : Nat} {j : Int} (h0 : i ≤ j) (h1 : j < i + m) (hf : f j = some a) (hn : ∀ j', i ≤ j' → j' < j → f j' = none) : fnd f i m = some a := by
  cases e : fnd f i m with
  | none => rw [fnd_none.1 e j h0 h1] at hf; cases hf
  | some b =>
    obtain ⟨j2, a1, a2, a3, a4⟩ := fnd_some e
    have : ¬ j2 < j := fun hlt => by rw [hn j2 a1 hlt] at a3; cases a3
    have : ¬ j < j2 := fun hlt => by rw [a4 j h0 hlt] at hf; cases hf
    have : j2 = j := by omega
    subst this
    rw [← a3, hf]
theorem fnd_congr {f f' : Int → Option α} {i : Int} {m : Nat} (h : ∀ j, i ≤ j → j < i + m → f j = f' j) : fnd f i m = fnd f' i m := by
  induction m generalizing i with
  | zero => rfl
  | succ m ih =>
    unfold fnd
    rw [h i (by omega) (by omega), ih (fun j a b => h j (by omega) (by omega))]
/-- 'ok := true; for i .. { ok = ok && P i }'. -/
theorem ev_all {g : Int → Bool → Qn A} (n : Int) (P : Int → Prop) (hn : 0 ≤ n)
    (hs : ∀ (i : Int) (b : Bool), 0 ≤ i → i < n → (∀ c : Bool, (c = true ↔ b = true ∧ P i) → Ev (g (i + 1) c) Q) → Ev (g i b) Q)
    (he : ∀ c : Bool, (c = true ↔ ∀ i : Int, 0 ≤ i → i < n → P i) → Ev (g n c) Q) : Ev (g 0 true) Q := by
  refine ev_loop n (fun i (a : Bool) => a = true ↔ ∀ j, 0 ≤ j → j < i → P j) ?_ ?_ 0 true (Int.le_refl _) hn ⟨fun _ j a b => by omega, fun _ => rfl⟩
  · intro i a hi0 hi1 ha hk
    refine hs i a hi0 hi1 fun c hc => hk c (hc.trans ⟨fun ⟨h1, h2⟩ j j0 j1 => ?_, fun h => ⟨ha.2 fun j j0 j1 => h j j0 (by omega), h i hi0 (by omega)⟩⟩)
    by_cases hj : j = i
    · rw [hj]; exact h2
    · exact ha.1 h1 j j0 (by omega)
  · intro a ha; exact he a ha
end

/-! ### Whole numbers -/
theorem W_def (n : Int) : W n = (if (n % 18446744073709551616) ≥ 9223372036854775808 then n % 18446744073709551616 - 18446744073709551616 else n % 18446744073709551616) := by
  show IntKind.wrap .i64 n = _
  simp [IntKind.wrap, IntKind.bits, IntKind.signed]
theorem W_in {i : Int} (h0 : -9223372036854775808 ≤ i) (h1 : i ≤ 9223372036854775807) : W i = i := by rw [W_def]; split <;> omega
theorem W_nat (i : Nat) (h1 : (i : Int) ≤ 9223372036854775807) : W i = i := W_in (by omega) h1
theorem W_add {i n : Int} (h0 : 0 ≤ i) (h1 : i < n) (hn : n ≤ 9223372036854775807) : W (i + 1) = i + 1 := W_in (by omega) (by omega)
theorem wf_i64 {x : Int} (h : (Lit.int .i64 x).wf = true) : -9223372036854775808 ≤ x ∧ x ≤ 9223372036854775807 := by
  simp only [Lit.wf, Bool.and_eq_true, decide_eq_true_eq] at h
  exact ⟨by have := h.1; simpa [IntKind.min, IntKind.signed, IntKind.bits] using this, by have := h.2; simpa [IntKind.max, IntKind.signed, IntKind.bits] using this⟩
theorem wf_u8 {x : Int} (h : (Lit.int .u8 x).wf = true) : 0 ≤ x ∧ x ≤ 255 := by
  simp only [Lit.wf, Bool.and_eq_true, decide_eq_true_eq] at h
  exact ⟨by have := h.1; simpa [IntKind.min, IntKind.signed, IntKind.bits] using this, by have := h.2; simpa [IntKind.max, IntKind.signed, IntKind.bits] using this⟩
end Go.Ab

/- Tables of elements: shape, associativity, validity. Plain lemmas. No condition. -/
set_option linter.unusedVariables false
set_option linter.unusedSimpArgs false
set_option linter.unusedSectionVars false
namespace Go.Ab
open Go
/-- Entry i of a list. -/
def rd (l : List Int) (i : Int) : Int := l.getD i.toNat 0
def rdOf {α : Type} (d : α) (l : List α) (i : Int) : α := l.getD i.toNat d
/-! ### Tables -/
/-- Row x. -/
def R (t : List (List Int)) (x : Int) : List Int := t.getD x.toNat []
/-- The product of x and y. -/
def M (t : List (List Int)) (x y : Int) : Int := rd (R t x) y

/-- A table as it comes in. -/
abbrev In2 (t : List (List Int)) : Prop := t.length ≤ 9223372036854775807 ∧ ∀ v ∈ t, v.length ≤ 9223372036854775807 ∧ ∀ u ∈ v, (Lit.int .i64 u).wf = true
abbrev In1 (l : List Int) : Prop := l.length ≤ 9223372036854775807 ∧ ∀ v ∈ l, (Lit.int .i64 v).wf = true

theorem R_mem {t : List (List Int)} {x : Int} (h0 : 0 ≤ x) (h1 : x < (t.length : Int)) : R t x ∈ t := by
  unfold R
  rw [List.getD_eq_getElem?_getD, List.getElem?_eq_getElem (by omega), Option.getD_some]
  exact List.getElem_mem _
theorem rd_mem {l : List Int} {x : Int} (h0 : 0 ≤ x) (h1 : x < (l.length : Int)) : rd l x ∈ l := by
  unfold rd
  rw [List.getD_eq_getElem?_getD, List.getElem?_eq_getElem (by omega), Option.getD_some]
  exact List.getElem_mem _
theorem In2.row {t : List (List Int)} (h : In2 t) {x : Int} (h0 : 0 ≤ x) (h1 : x < (t.length : Int)) : (R t x).length ≤ 9223372036854775807 := (h.2 _ (R_mem h0 h1)).1

/-- Square, with elements alone. -/
structure Sq (t : List (List Int)) : Prop where
  pos : 0 < (t.length : Int)
  le : (t.length : Int) ≤ 400
  row : ∀ x, 0 ≤ x → x < (t.length : Int) → ((R t x).length : Int) = (t.length : Int)
  lo : ∀ x y, 0 ≤ x → x < (t.length : Int) → 0 ≤ y → y < (t.length : Int) → 0 ≤ M t x y
  hi : ∀ x y, 0 ≤ x → x < (t.length : Int) → 0 ≤ y → y < (t.length : Int) → M t x y < (t.length : Int)

/-- What Shape answers. -/
def Bad (t : List (List Int)) : Prop := ∃ x, 0 ≤ x ∧ x < (t.length : Int) ∧ (((R t x).length : Int) ≠ (t.length : Int) ∨ ∃ y, 0 ≤ y ∧ y < ((R t x).length : Int) ∧ (M t x y < 0 ∨ (t.length : Int) ≤ M t x y))
open Classical in
noncomputable def shp (t : List (List Int)) : Int := if (t.length : Int) > 400 then 3 else if (t.length : Int) = 0 then 4 else if Bad t then 4 else 0
theorem shp_sq {t : List (List Int)} : shp t = 0 ↔ Sq t := by
  unfold shp
  constructor
  · intro h
    split at h
    · omega
    split at h
    · omega
    split at h
    · omega
    rename_i h1 h2 h3
    have hr : ∀ x, 0 ≤ x → x < (t.length : Int) → ((R t x).length : Int) = (t.length : Int) := fun x h0 hx => Classical.byContradiction fun hn => h3 ⟨x, h0, hx, .inl hn⟩
    refine ⟨by omega, by omega, hr, fun x y a b c d => ?_, fun x y a b c d => ?_⟩
    · have := hr x a b
      exact Classical.byContradiction fun hn => h3 ⟨x, a, b, .inr ⟨y, c, by omega, .inl (by omega)⟩⟩
    · have := hr x a b
      exact Classical.byContradiction fun hn => h3 ⟨x, a, b, .inr ⟨y, c, by omega, .inr (by omega)⟩⟩
  · intro h
    have := h.pos
    have := h.le
    rw [if_neg (by omega), if_neg (by omega), if_neg]
    rintro ⟨x, h0, h1, hb | ⟨y, h2, h3, hb⟩⟩
    · exact hb (h.row x h0 h1)
    · have := h.row x h0 h1
      have := h.lo x y h0 h1 h2 (by omega)
      have := h.hi x y h0 h1 h2 (by omega)
      omega
theorem shp_cases (t : List (List Int)) : shp t = 0 ∨ shp t = 3 ∨ shp t = 4 := by
  unfold shp
  split
  · exact .inr (.inl rfl)
  split
  · exact .inr (.inr rfl)
  split
  · exact .inr (.inr rfl)
  · exact .inl rfl
/-- Associative, as far as elements go. -/
def Asc (t : List (List Int)) : Prop := ∀ x y z, 0 ≤ x → x < (t.length : Int) → 0 ≤ y → y < (t.length : Int) → 0 ≤ z → z < (t.length : Int) → M t (M t x y) z = M t x (M t y z)
/-- The least triple that is not associative. -/
def tri (t : List (List Int)) : Option (Int × Int × Int) :=
  fnd (fun x => fnd (fun y => fnd (fun z => if M t (M t x y) z = M t x (M t y z) then none else some (x, y, z)) 0 t.length) 0 t.length) 0 t.length
theorem tri_none {t : List (List Int)} : tri t = none ↔ Asc t := by
  unfold tri Asc
  simp only [fnd_none]
  constructor
  · intro h x y z a b c d e f
    have := h x a (by omega) y c (by omega) z e (by omega)
    split at this
    · assumption
    · cases this
  · intro h x a b y c d z e f
    rw [if_pos (h x y z a (by omega) c (by omega) e (by omega))]
/-- What Validate answers. -/
noncomputable def val (t : List (List Int)) : Int := if shp t = 0 then (if tri t = none then 0 else 5) else shp t
/-- Valid. -/
structure Va (t : List (List Int)) : Prop extends Sq t where
  asc : Asc t
theorem val_va {t : List (List Int)} : val t = 0 ↔ Va t := by
  unfold val
  constructor
  · intro h
    split at h
    · rename_i h1
      split at h
      · rename_i h2
        exact ⟨shp_sq.1 h1, tri_none.1 h2⟩
      · omega
    · rename_i h1
      exact absurd h h1
  · intro h
    rw [if_pos (shp_sq.2 h.toSq), if_pos (tri_none.2 h.asc)]
end Go.Ab

/- First, those that; special elements. Plain lemmas. No condition. -/
set_option linter.unusedVariables false
set_option linter.unusedSimpArgs false
set_option linter.unusedSectionVars false
namespace Go.Ab
open Go
open Classical
section
variable {α ρ : Type} {r : ρ}
/-- The first i below n with P, or -1. -/
noncomputable def first (n : Nat) (P : Int → Prop) : Int := (fnd (fun e => if P e then some e else none) 0 n).elim (-1) id
theorem first_spec {n : Nat} {P : Int → Prop} : (first n P = -1 ∧ ∀ i : Int, 0 ≤ i → i < n → ¬ P i) ∨ (0 ≤ first n P ∧ first n P < n ∧ P (first n P) ∧ ∀ i, 0 ≤ i → i < first n P → ¬ P i) := by
  unfold first
  cases e : fnd (fun e => if P e then some e else none) 0 n with
  | none =>
    left
    refine ⟨rfl, fun i h0 h1 hp => ?_⟩
    have := fnd_none.1 e i h0 (by omega)
    simp [hp] at this
  | some a =>
    right
    obtain ⟨j, h0, h1, h2, h3⟩ := fnd_some e
    by_cases hp : P j
    · simp [hp] at h2
      subst h2
      refine ⟨h0, by simpa using h1, hp, fun i i0 i1 hi => ?_⟩
      have := h3 i i0 i1
      simp [hi] at this
    · simp [hp] at h2
theorem first_congr {n : Nat} {P Q : Int → Prop} (h : ∀ i : Int, 0 ≤ i → i < n → (P i ↔ Q i)) : first n P = first n Q := by
  unfold first
  rw [fnd_congr (f' := fun e => if Q e then some e else none)]
  intro j h0 h1
  simp only [h j h0 (by omega)]
theorem first_eq {n : Nat} {P : Int → Prop} {e : Int} (h0 : 0 ≤ e) (h1 : e < n) (hp : P e) (hf : ∀ i, 0 ≤ i → i < e → ¬ P i) : first n P = e := by
  rcases first_spec (n := n) (P := P) with ⟨_, h⟩ | ⟨a, b, c, d⟩
  · exact absurd hp (h e h0 h1)
  · have : ¬ first n P < e := fun hlt => hf _ a hlt c
    have : ¬ e < first n P := fun hlt => d e h0 hlt hp
    omega
theorem first_no {n : Nat} {P : Int → Prop} (h : ∀ i : Int, 0 ≤ i → i < n → ¬ P i) : first n P = -1 := by
  rcases first_spec (n := n) (P := P) with ⟨h, _⟩ | ⟨a, b, c, d⟩
  · exact h
  · exact absurd c (h _ a b)
/-- Those of i, i + 1, .., m of them, that are P. -/
noncomputable def sel (P : Int → Prop) : Int → Nat → List Int
  | _, 0 => []
  | i, m + 1 => if P i then i :: sel P (i + 1) m else sel P (i + 1) m
theorem sel_mem {P : Int → Prop} {i x : Int} {m : Nat} : x ∈ sel P i m ↔ i ≤ x ∧ x < i + m ∧ P x := by
  induction m generalizing i with
  | zero => simp [sel]; omega
  | succ m ih =>
    unfold sel
    split
    · rename_i hp
      rw [List.mem_cons, ih]
      constructor
      · rintro (h | ⟨a, b, c⟩)
        · subst h; exact ⟨by omega, by omega, hp⟩
        · exact ⟨by omega, by omega, c⟩
      · rintro ⟨a, b, c⟩
        by_cases h : x = i
        · exact .inl h
        · exact .inr ⟨by omega, by omega, c⟩
    · rename_i hp
      rw [ih]
      constructor
      · rintro ⟨a, b, c⟩
        exact ⟨by omega, by omega, c⟩
      · rintro ⟨a, b, c⟩
        by_cases h : x = i
        · subst h; exact absurd c hp
        · exact ⟨by omega, by omega, c⟩
theorem sel_len {P : Int → Prop} {i : Int} {m : Nat} : (sel P i m).length ≤ m := by
  induction m generalizing i with
  | zero => simp [sel]
  | succ m ih =>
    unfold sel
    have := ih (i := i + 1)
    split <;> simp <;> omega
theorem sel_congr {P Q : Int → Prop} {i : Int} {m : Nat} (h : ∀ j, i ≤ j → j < i + m → (P j ↔ Q j)) : sel P i m = sel Q i m := by
  induction m generalizing i with
  | zero => rfl
  | succ m ih =>
    unfold sel
    rw [ih (fun j a b => h j (by omega) (by omega))]
    by_cases hp : P i
    · rw [if_pos hp, if_pos ((h i (by omega) (by omega)).1 hp)]
    · rw [if_neg hp, if_neg (fun hq => hp ((h i (by omega) (by omega)).2 hq))]
theorem sel_full {P : Int → Prop} {i : Int} {m : Nat} : (sel P i m).length = m ↔ ∀ j, i ≤ j → j < i + m → P j := by
  induction m generalizing i with
  | zero => simp [sel]; intro j a b; omega
  | succ m ih =>
    unfold sel
    have hl := sel_len (P := P) (i := i + 1) (m := m)
    split
    · rename_i hp
      rw [List.length_cons]
      constructor
      · intro h j a b
        by_cases hj : j = i
        · rw [hj]; exact hp
        · exact (ih (i := i + 1)).1 (by omega) j (by omega) (by omega)
      · intro h
        have := (ih (i := i + 1)).2 (fun j a b => h j (by omega) (by omega))
        omega
    · rename_i hp
      constructor
      · intro h; omega
      · intro h; exact absurd (h i (by omega) (by omega)) hp
end

/-! ### Special elements -/
def IsId (t : List (List Int)) (e : Int) : Prop := ∀ x, 0 ≤ x → x < (t.length : Int) → M t e x = x ∧ M t x e = x
def IsZero (t : List (List Int)) (e : Int) : Prop := ∀ x, 0 ≤ x → x < (t.length : Int) → M t e x = e ∧ M t x e = e
noncomputable def idn (t : List (List Int)) : Int := first t.length (IsId t)
noncomputable def zer (t : List (List Int)) : Int := first t.length (IsZero t)
noncomputable def idem (t : List (List Int)) : List Int := sel (fun x => M t x x = x) 0 t.length
/-- All are elements. -/
def El (t : List (List Int)) (l : List Int) : Prop := ∀ x ∈ l, 0 ≤ x ∧ x < (t.length : Int)
theorem rd_all {l : List Int} {P : Int → Prop} : (∀ x ∈ l, P x) ↔ ∀ i, 0 ≤ i → i < (l.length : Int) → P (rd l i) := by
  constructor
  · intro h i h0 h1
    exact h _ (rd_mem h0 h1)
  · intro h x hx
    obtain ⟨i, hi, rfl⟩ := List.getElem_of_mem hx
    have := h i (by omega) (by omega)
    unfold rd at this
    rw [List.getD_eq_getElem?_getD] at this
    simpa [hi] using this

theorem ev_first {A : Type} {Q : A → AH → Prop} {g : Int → Qn A} (n : Nat) (P : Int → Prop) (h2 : ∀ i : Int, 0 ≤ i → i < n → ¬ P i → Ev (g (i + 1)) Q → Ev (g i) Q) (h1 : ∀ i : Int, 0 ≤ i → i < n → P i → first n P = i → Ev (g i) Q) (he : first n P = -1 → Ev (g n) Q) : Ev (g 0) Q := by
  refine ev_for0 (g := g) n (fun i => ∀ j : Int, 0 ≤ j → j < i → ¬ P j) (fun i h0 h1' hi => ?_) (fun hi => he (first_no fun i h0 h1' => hi i h0 h1')) 0 (by omega) (by omega) (fun j a b => by omega)
  by_cases hp : P i
  · exact .inl (h1 i h0 h1' hp (first_eq h0 h1' hp hi))
  · refine .inr ⟨fun j j0 j1 => ?_, h2 i h0 h1' hp⟩
    by_cases hj : j = i
    · rw [hj]; exact hp
    · exact hi j j0 (by omega)
end Go.Ab

/- Reading lists by whole numbers: stores, appends, ranges. Plain lemmas. No condition. -/
set_option linter.unusedVariables false
set_option linter.unusedSimpArgs false
set_option linter.unusedSectionVars false
namespace Go.Ab
open Go
section
variable {α : Type} (d : α)
theorem getD_set {l : List α} {i j : Nat} {v : α} (h : i < l.length) : (l.set i v).getD j d = if j = i then v else l.getD j d := by
  simp only [List.getD_eq_getElem?_getD, List.getElem?_set]
  by_cases hj : j = i
  · subst hj; simp [h]
  · rw [if_neg (Ne.symm hj), if_neg hj]
theorem getD_snoc {l : List α} {j : Nat} {v : α} (h : j ≤ l.length) : (l ++ [v]).getD j d = if j = l.length then v else l.getD j d := by
  simp only [List.getD_eq_getElem?_getD]
  by_cases hj : j = l.length
  · subst hj; simp
  · rw [List.getElem?_append_left (by omega), if_neg hj]
theorem getD_rep {n j : Nat} {v : α} (h : j < n) : (List.replicate n v).getD j d = v := by
  simp [List.getD_eq_getElem?_getD, List.getElem?_replicate, h]
theorem getD_map {n j : Nat} {f : Nat → α} (h : j < n) : ((List.range n).map f).getD j d = f j := by
  simp [List.getD_eq_getElem?_getD, h]
theorem getD_ext {l m : List α} (hl : l.length = m.length) (h : ∀ j, j < l.length → l.getD j d = m.getD j d) : l = m := by
  refine List.ext_getElem hl fun j h1 h2 => ?_
  have := h j h1
  simpa [List.getD_eq_getElem?_getD, h1, h2] using this
end
theorem rd_set {l : List Int} {i j v : Int} (h0 : 0 ≤ i) (h1 : i < (l.length : Int)) (hj : 0 ≤ j) : rd (l.set i.toNat v) j = if j = i then v else rd l j := by
  show (l.set i.toNat v).getD j.toNat 0 = _
  rw [getD_set 0 (by omega)]
  by_cases h : j = i
  · rw [if_pos h, if_pos (by omega)]
  · rw [if_neg h, if_neg (by omega)]; rfl
theorem rd_snoc {l : List Int} {j v : Int} (hj : 0 ≤ j) (h : j ≤ (l.length : Int)) : rd (l ++ [v]) j = if j = (l.length : Int) then v else rd l j := by
  show (l ++ [v]).getD j.toNat 0 = _
  rw [getD_snoc 0 (by omega)]
  by_cases h : j = (l.length : Int)
  · rw [if_pos h, if_pos (by omega)]
  · rw [if_neg h, if_neg (by omega)]; rfl
theorem rd_rep {n : Nat} {j v : Int} (hj : 0 ≤ j) (h : j < (n : Int)) : rd (List.replicate n v) j = v := getD_rep 0 (by omega)
theorem rd_map {n : Nat} {j : Int} {f : Nat → Int} (hj : 0 ≤ j) (h : j < (n : Int)) : rd ((List.range n).map f) j = f j.toNat := getD_map 0 (by omega)
theorem rd_ext {l m : List Int} (hl : l.length = m.length) (h : ∀ j : Int, 0 ≤ j → j < (l.length : Int) → rd l j = rd m j) : l = m :=
  getD_ext 0 hl fun j hj => by have := h j (by omega) (by omega); simpa [rd] using this
theorem R_set {l : List (List Int)} {i j : Int} {v : List Int} (h0 : 0 ≤ i) (h1 : i < (l.length : Int)) (hj : 0 ≤ j) : R (l.set i.toNat v) j = if j = i then v else R l j := by
  show (l.set i.toNat v).getD j.toNat [] = _
  rw [getD_set [] (by omega)]
  by_cases h : j = i
  · rw [if_pos h, if_pos (by omega)]
  · rw [if_neg h, if_neg (by omega)]; rfl
theorem R_snoc {l : List (List Int)} {j : Int} {v : List Int} (hj : 0 ≤ j) (h : j ≤ (l.length : Int)) : R (l ++ [v]) j = if j = (l.length : Int) then v else R l j := by
  show (l ++ [v]).getD j.toNat [] = _
  rw [getD_snoc [] (by omega)]
  by_cases h : j = (l.length : Int)
  · rw [if_pos h, if_pos (by omega)]
  · rw [if_neg h, if_neg (by omega)]; rfl
theorem R_rep {n : Nat} {j : Int} {v : List Int} (hj : 0 ≤ j) (h : j < (n : Int)) : R (List.replicate n v) j = v := getD_rep [] (by omega)
theorem R_map {n : Nat} {j : Int} {f : Nat → List Int} (hj : 0 ≤ j) (h : j < (n : Int)) : R ((List.range n).map f) j = f j.toNat := getD_map [] (by omega)
theorem R_ext {l m : List (List Int)} (hl : l.length = m.length) (h : ∀ j : Int, 0 ≤ j → j < (l.length : Int) → R l j = R m j) : l = m :=
  getD_ext [] hl fun j hj => by have := h j (by omega) (by omega); simpa [R] using this
theorem rb_set {l : List Bool} {i j : Int} {v : Bool} (h0 : 0 ≤ i) (h1 : i < (l.length : Int)) (hj : 0 ≤ j) : rdOf false (l.set i.toNat v) j = if j = i then v else rdOf false l j := by
  show (l.set i.toNat v).getD j.toNat false = _
  rw [getD_set false (by omega)]
  by_cases h : j = i
  · rw [if_pos h, if_pos (by omega)]
  · rw [if_neg h, if_neg (by omega)]; rfl
theorem rb_rep {n : Nat} {j : Int} {v : Bool} (hj : 0 ≤ j) (h : j < (n : Int)) : rdOf false (List.replicate n v) j = v := getD_rep false (by omega)
theorem rb_ext {l m : List Bool} (hl : l.length = m.length) (h : ∀ j : Int, 0 ≤ j → j < (l.length : Int) → rdOf false l j = rdOf false m j) : l = m :=
  getD_ext false hl fun j hj => by have := h j (by omega) (by omega); simpa [rdOf] using this
/-- Two tables of one shape and with the same entries are the same. -/
theorem M_ext {l m : List (List Int)} (hl : l.length = m.length) (hr : ∀ x : Int, 0 ≤ x → x < (l.length : Int) → (R l x).length = (R m x).length)
    (h : ∀ x y : Int, 0 ≤ x → x < (l.length : Int) → 0 ≤ y → y < ((R l x).length : Int) → M l x y = M m x y) : l = m :=
  R_ext hl fun x h0 h1 => rd_ext (hr x h0 h1) fun y h2 h3 => h x y h0 h1 h2 h3
end Go.Ab

/- Reads, stores, new blocks in the calculus: what memory holds. Plain lemmas. No condition. -/
set_option linter.unusedVariables false
set_option linter.unusedSimpArgs false
namespace Go.Ab
open Go

/-- The memory grew. -/
def Le (H H' : AH) : Prop := ∃ E, H' = H ++ E
theorem Le.refl (H : AH) : Le H H := ⟨[], by simp⟩
theorem Le.trans {H H1 H2 : AH} (h : Le H H1) (h' : Le H1 H2) : Le H H2 := by
  obtain ⟨E, rfl⟩ := h; obtain ⟨E', rfl⟩ := h'; exact ⟨E ++ E', by simp⟩
theorem Le.snoc {H H1 : AH} (h : Le H H1) (b : Blk) : Le H (H1 ++ [b]) := h.trans ⟨[b], rfl⟩
theorem Le.len {H H' : AH} (h : Le H H') : H.length ≤ H'.length := by obtain ⟨E, rfl⟩ := h; simp
theorem Le.get {H H' : AH} (h : Le H H') {b : Nat} {x : Blk} (hb : H[b]? = some x) : H'[b]? = some x := by
  obtain ⟨E, rfl⟩ := h; rw [List.getElem?_append_left (List.getElem?_eq_some_iff.1 hb).1]; exact hb
theorem Le.set {H H1 : AH} (h : Le H H1) {b : Nat} (hb : H.length ≤ b) (v : Blk) : Le H (H1.set b v) := by
  obtain ⟨E, rfl⟩ := h; exact ⟨E.set (b - H.length) v, by rw [List.set_append, if_neg (by omega)]⟩
theorem RowOf.le {α : Type} {R : AV → α → Prop} {H H' : AH} {s : Sl} {xs : List α} (h : RowOf R H s xs) (hl : Le H H') : RowOf R H' s xs := by obtain ⟨E, rfl⟩ := hl; exact h.ext E
theorem Row.le {H H' : AH} {s : Sl} {xs : List Int} (h : Row H s xs) (hl : Le H H') : Row H' s xs := RowOf.le h hl
theorem Tab.le {H H' : AH} {s : Sl} {T : List (List Int)} (h : Tab H s T) (hl : Le H H') : Tab H' s T := by obtain ⟨E, rfl⟩ := hl; exact h.ext E
theorem Row.len {H : AH} {s : Sl} {xs : List Int} (h : Row H s xs) : s.len = xs.length := h.1
theorem Tab.len {H : AH} {s : Sl} {T : List (List Int)} (h : Tab H s T) : s.len = T.length := h.1
/-- A row of bools. -/
def RowB (H : AH) (s : Sl) (xs : List Bool) : Prop := RowOf (fun v x => v = .bool x) H s xs
theorem RowB.len {H : AH} {s : Sl} {xs : List Bool} (h : RowB H s xs) : s.len = xs.length := h.1

section
variable {A : Type} {Q : A → AH → Prop} {H : AH}
theorem ev_idx {s : Sl} {p : Pt} {i : Int} {sz : Nat} {K : (ρ : Type) → Nat → (A → AH → Option ρ) → Pt → Option ρ} (hp : s.p = some p) (h0 : 0 ≤ i) (h1 : i < (s.len : Int)) (hK : Ev (fun ρ k κ => K ρ k κ ⟨p.b, p.o + i.toNat * sz⟩) Q) : Ev (fun ρ k κ => idx s i sz (K ρ k κ)) Q := by
  simpa only [idx, hp, h0, h1, decide_true, Bool.and_self, cond_true] using hK
theorem ev_ldc {p : Pt} {vs : List AV} {sz : Nat} {v : AV} {K : (ρ : Type) → Nat → (A → AH → Option ρ) → AV → Option ρ} (hb : H[p.b]? = some (.cells vs sz)) (hv : vs[p.o]? = some v) (hK : Ev (fun ρ k κ => K ρ k κ v) Q) : Ev (fun ρ k κ => ldc H p (K ρ k κ)) Q := by
  simpa only [ldc, hb, hv] using hK
theorem RowOf.at {α : Type} {R : AV → α → Prop} {s : Sl} {xs : List α} (h : RowOf R H s xs) {i : Nat} (hi : i < xs.length) : ∃ p vs sz v, s.p = some p ∧ H[p.b]? = some (.cells vs sz) ∧ vs[p.o + i]? = some v ∧ R v xs[i] := h.2.1 i _ (List.getElem?_eq_getElem hi)
theorem ev_rdI {s : Sl} {xs : List Int} {i : Int} {K : (ρ : Type) → Nat → (A → AH → Option ρ) → Int → Option ρ} (h : Row H s xs) (h0 : 0 ≤ i) (h1 : i < (xs.length : Int)) (hK : Ev (fun ρ k κ => K ρ k κ (rd xs i)) Q) : Ev (fun ρ k κ => rdI H s i (K ρ k κ)) Q := by
  obtain ⟨p, vs, sz, v, e1, e2, e3, e4⟩ := RowOf.at h (i := i.toNat) (by omega)
  have hl := Row.len h
  refine ev_idx e1 h0 (by omega) (ev_ldc (p := ⟨p.b, p.o + i.toNat * 1⟩) (v := v) e2 (by rw [Nat.mul_one]; exact e3) ?_)
  have : rd xs i = xs[i.toNat]'(by omega) := by unfold rd; rw [List.getD_eq_getElem?_getD, List.getElem?_eq_getElem (by omega)]; rfl
  rw [this] at hK
  subst e4
  simpa [asI] using hK
theorem ev_rdB {s : Sl} {xs : List Bool} {i : Int} {K : (ρ : Type) → Nat → (A → AH → Option ρ) → Bool → Option ρ} (h : RowB H s xs) (h0 : 0 ≤ i) (h1 : i < (xs.length : Int)) (hK : Ev (fun ρ k κ => K ρ k κ (rdOf false xs i)) Q) : Ev (fun ρ k κ => rdB H s i (K ρ k κ)) Q := by
  obtain ⟨p, vs, sz, v, e1, e2, e3, e4⟩ := RowOf.at h (i := i.toNat) (by omega)
  have hl := RowB.len h
  refine ev_idx e1 h0 (by omega) (ev_ldc (p := ⟨p.b, p.o + i.toNat * 1⟩) (v := v) e2 (by rw [Nat.mul_one]; exact e3) ?_)
  have : rdOf false xs i = xs[i.toNat]'(by omega) := by unfold rdOf; rw [List.getD_eq_getElem?_getD, List.getElem?_eq_getElem (by omega)]; rfl
  rw [this] at hK
  subst e4
  simpa [asB] using hK
theorem ev_rdS {s : Sl} {T : List (List Int)} {i : Int} {K : (ρ : Type) → Nat → (A → AH → Option ρ) → Sl → Option ρ} (h : Tab H s T) (h0 : 0 ≤ i) (h1 : i < (T.length : Int)) (hK : ∀ r, Row H r (R T i) → Ev (fun ρ k κ => K ρ k κ r) Q) : Ev (fun ρ k κ => rdS H s i (K ρ k κ)) Q := by
  obtain ⟨p, vs, sz, v, e1, e2, e3, r, e4, e5⟩ := RowOf.at h (i := i.toNat) (by omega)
  have hl := Tab.len h
  refine ev_idx e1 h0 (by omega) (ev_ldc (p := ⟨p.b, p.o + i.toNat * 1⟩) (v := v) e2 (by rw [Nat.mul_one]; exact e3) ?_)
  have : R T i = T[i.toNat]'(by omega) := by unfold R; rw [List.getD_eq_getElem?_getD, List.getElem?_eq_getElem (by omega)]; rfl
  rw [← this] at e5
  subst e4
  simpa [asS] using hK r e5
/-- Two reads: an entry of a table. -/
theorem ev_rdM {s : Sl} {T : List (List Int)} {i j : Int} {K : (ρ : Type) → Nat → (A → AH → Option ρ) → Int → Option ρ} (h : Tab H s T) (h0 : 0 ≤ i) (h1 : i < (T.length : Int)) (h2 : 0 ≤ j) (h3 : j < ((R T i).length : Int)) (hK : Ev (fun ρ k κ => K ρ k κ (M T i j)) Q) : Ev (fun ρ k κ => rdS H s i fun r => rdI H r j (K ρ k κ)) Q :=
  ev_rdS h h0 h1 fun r hr => ev_rdI hr h2 h3 hK

/-! New blocks -/
theorem ev_mkb {cs : List AV} {sz len : Nat} {K : (ρ : Type) → Nat → (A → AH → Option ρ) → Sl → AH → Option ρ} (hK : Ev (fun ρ k κ => K ρ k κ ⟨some ⟨H.length, 0⟩, len⟩ (H ++ [.cells cs sz])) Q) : Ev (fun ρ k κ => mkb H cs sz len (K ρ k κ)) Q := hK
theorem ev_alc {cs : List AV} {K : (ρ : Type) → Nat → (A → AH → Option ρ) → Pt → AH → Option ρ} (hK : Ev (fun ρ k κ => K ρ k κ ⟨H.length, 0⟩ (H ++ [.cells cs cs.length])) Q) : Ev (fun ρ k κ => alc H cs (K ρ k κ)) Q := hK
theorem ev_mks {zs : List AV} {bytes : Nat} {l c : Int} {K : (ρ : Type) → Nat → (A → AH → Option ρ) → Sl → AH → Option ρ} (h0 : 0 ≤ l) (h1 : l ≤ c) (h2 : c * bytes ≤ 70368744177664) (hK : Ev (fun ρ k κ => K ρ k κ ⟨some ⟨H.length, 0⟩, l.toNat⟩ (H ++ [.cells (List.replicate l.toNat zs).flatten zs.length])) Q) : Ev (fun ρ k κ => mks H zs bytes l c (K ρ k κ)) Q := by
  have h2' : c * bytes ≤ (room : Int) := h2
  simpa only [mks, h0, h1, h2', decide_true, Bool.and_self, cond_true] using hK
theorem flatten_rep (n : Nat) (v : AV) : (List.replicate n [v]).flatten = List.replicate n v := by
  induction n with
  | zero => rfl
  | succ n ih => simp [List.replicate_succ, ih]
theorem ev_stc {lo : Nat} {p : Pt} {u : AV} {vs : List AV} {sz : Nat} {K : (ρ : Type) → Nat → (A → AH → Option ρ) → AH → Option ρ} (hb : H[p.b]? = some (.cells vs sz)) (h0 : lo ≤ p.b) (h1 : p.o < vs.length) (hK : Ev (fun ρ k κ => K ρ k κ (H.set p.b (.cells (vs.set p.o u) sz))) Q) : Ev (fun ρ k κ => stc lo H p u (K ρ k κ)) Q := by
  simpa only [stc, hb, h0, h1, decide_true, Bool.and_self, cond_true] using hK

/-- A block that holds a row from its beginning to its end. -/
def Blk1 {α : Type} (e : α → AV) (H : AH) (b : Nat) (xs : List α) : Prop := H[b]? = some (.cells (xs.map e) 1)
abbrev sl0 (b n : Nat) : Sl := ⟨some ⟨b, 0⟩, n⟩
theorem Blk1.rowOf {α : Type} {e : α → AV} {R : AV → α → Prop} {b : Nat} {xs : List α} (h : Blk1 e H b xs) (he : ∀ x, R (e x) x) : RowOf R H (sl0 b xs.length) xs :=
  ⟨rfl, fun j x hj => ⟨⟨b, 0⟩, _, 1, e x, rfl, h, by simp [hj], he x⟩, fun p hp => by cases hp; exact ⟨_, _, h, by simp⟩⟩
abbrev BlkI (H : AH) (b : Nat) (xs : List Int) : Prop := Blk1 (fun n : Int => .int .i64 n) H b xs
abbrev BlkB (H : AH) (b : Nat) (xs : List Bool) : Prop := Blk1 (fun n : Bool => .bool n) H b xs
theorem BlkI.row {b : Nat} {xs : List Int} (h : BlkI H b xs) : Row H (sl0 b xs.length) xs := Blk1.rowOf h fun _ => rfl
theorem BlkB.row {b : Nat} {xs : List Bool} (h : BlkB H b xs) : RowB H (sl0 b xs.length) xs := Blk1.rowOf h fun _ => rfl
theorem Blk1.le {α : Type} {e : α → AV} {H' : AH} {b : Nat} {xs : List α} (h : Blk1 e H b xs) (hl : Le H H') : Blk1 e H' b xs := hl.get h
theorem Blk1.new {α : Type} (e : α → AV) (H : AH) (xs : List α) : Blk1 e (H ++ [.cells (xs.map e) 1]) H.length xs := by simp [Blk1]
theorem Blk1.ne {α : Type} {e : α → AV} {b c : Nat} {xs : List α} (h : Blk1 e H b xs) (hne : c ≠ b) (v : Blk) : Blk1 e (H.set c v) b xs := by
  unfold Blk1; rw [List.getElem?_set_ne hne]; exact h
theorem Blk1.lt {α : Type} {e : α → AV} {b : Nat} {xs : List α} (h : Blk1 e H b xs) : b < H.length := (List.getElem?_eq_some_iff.1 h).1
theorem ev_st1 {α : Type} {e : α → AV} {lo b : Nat} {xs : List α} {i : Nat} {x : α} {K : (ρ : Type) → Nat → (A → AH → Option ρ) → AH → Option ρ} (h : Blk1 e H b xs) (h0 : lo ≤ b) (h1 : i < xs.length)
    (hK : ∀ H', H' = H.set b (.cells ((xs.set i x).map e) 1) → Blk1 e H' b (xs.set i x) → Ev (fun ρ k κ => K ρ k κ H') Q) : Ev (fun ρ k κ => stc lo H ⟨b, 0 + i * 1⟩ (e x) (K ρ k κ)) Q := by
  refine ev_stc (p := ⟨b, 0 + i * 1⟩) h h0 (by simpa using h1) (hK _ (by simp [List.map_set]) ?_)
  have := h.lt
  simp [Blk1, List.getElem?_set, this, List.map_set]
/-- .. as it is printed: the place is found, the value laid. -/
theorem ev_put {α : Type} {e : α → AV} {lo b : Nat} {xs : List α} {i : Int} {n : Nat} {x : α} {K : (ρ : Type) → Nat → (A → AH → Option ρ) → AH → Option ρ} (h : Blk1 e H b xs) (hn : n = xs.length) (h0 : lo ≤ b) (hi : 0 ≤ i) (h1 : i < (xs.length : Int))
    (hK : ∀ H', H' = H.set b (.cells ((xs.set i.toNat x).map e) 1) → Blk1 e H' b (xs.set i.toNat x) → Ev (fun ρ k κ => K ρ k κ H') Q) : Ev (fun ρ k κ => idx (sl0 b n) i 1 fun p => stc lo H p (e x) (K ρ k κ)) Q :=
  ev_idx rfl hi (by show i < (n : Int); omega) (ev_st1 (i := i.toNat) h h0 (by omega) hK)
end

section
variable {A : Type} {Q : A → AH → Prop} {H : AH}
/-- 'g and ..', where all is said to hold. -/
theorem ev_andT {g : Bool} {M : Nat → CPS Bool} {K : (ρ : Type) → Nat → (A → AH → Option ρ) → Bool → AH → Option ρ} (hg : g = true) (h : Ev (fun ρ k κ => M k ρ κ) (fun b H' => b = true ∧ Le H H')) (hK : ∀ H', Le H H' → Ev (fun ρ k κ => K ρ k κ true H') Q) : Ev (fun ρ k κ => andB g (M k) H (K ρ k κ)) Q :=
  ev_and (S := fun b H' => b = true ∧ Le H H') (fun _ => h) (fun e => by rw [hg] at e; cases e) fun b H' ⟨e, hl⟩ => by subst e; exact hK H' hl
/-- 'g or ..', where nothing is said to hold. -/
theorem ev_orF {g : Bool} {M : Nat → CPS Bool} {K : (ρ : Type) → Nat → (A → AH → Option ρ) → Bool → AH → Option ρ} (hg : g = false) (h : Ev (fun ρ k κ => M k ρ κ) (fun b H' => b = false ∧ Le H H')) (hK : ∀ H', Le H H' → Ev (fun ρ k κ => K ρ k κ false H') Q) : Ev (fun ρ k κ => orB g (M k) H (K ρ k κ)) Q :=
  ev_or (S := fun b H' => b = false ∧ Le H H') (fun _ => h) (fun e => by rw [hg] at e; cases e) fun b H' ⟨e, hl⟩ => by subst e; exact hK H' hl
end
section
variable {A : Type} {Q : A → AH → Prop} {H : AH}
/-- 'g or ..', 'g and ..', where what is behind makes blocks, and the answer is known. -/
theorem ev_orL {g c : Bool} {M : Nat → CPS Bool} {K : (ρ : Type) → Nat → (A → AH → Option ρ) → Bool → AH → Option ρ} (h : g = false → Ev (fun ρ k κ => M k ρ κ) (fun b H' => b = c ∧ Le H H')) (h2 : g = true → c = true) (hK : ∀ H', Le H H' → Ev (fun ρ k κ => K ρ k κ c H') Q) : Ev (fun ρ k κ => orB g (M k) H (K ρ k κ)) Q :=
  ev_or (S := fun b H' => b = c ∧ Le H H') h (fun hg => ⟨(h2 hg).symm, Le.refl _⟩) fun b H' ⟨e, hl⟩ => by subst e; exact hK H' hl
theorem ev_andL {g c : Bool} {M : Nat → CPS Bool} {K : (ρ : Type) → Nat → (A → AH → Option ρ) → Bool → AH → Option ρ} (h : g = true → Ev (fun ρ k κ => M k ρ κ) (fun b H' => b = c ∧ Le H H')) (h2 : g = false → c = false) (hK : ∀ H', Le H H' → Ev (fun ρ k κ => K ρ k κ c H') Q) : Ev (fun ρ k κ => andB g (M k) H (K ρ k κ)) Q :=
  ev_and (S := fun b H' => b = c ∧ Le H H') h (fun hg => ⟨(h2 hg).symm, Le.refl _⟩) fun b H' ⟨e, hl⟩ => by subst e; exact hK H' hl
end
/-- Rows that are laid side by side. -/
inductive Sides (H : AH) : List Sl → List (List Int) → Prop where
  | nil : Sides H [] []
  | cons {s : Sl} {l : List Int} {ss : List Sl} {T : List (List Int)} (h : Row H s l) (hs : Sides H ss T) : Sides H (s :: ss) (l :: T)
theorem Sides.get {H : AH} : ∀ {ss : List Sl} {T : List (List Int)}, Sides H ss T → ss.length = T.length ∧ ∀ (j : Nat) (x : List Int), T[j]? = some x → ∃ s, ss[j]? = some s ∧ Row H s x
  | _, _, .nil => ⟨rfl, fun j x h => by simp at h⟩
  | _, _, .cons h hs => by
    obtain ⟨h1, h2⟩ := hs.get
    refine ⟨by simp [h1], fun j x hj => ?_⟩
    cases j with
    | zero => simp at hj; subst hj; exact ⟨_, rfl, h⟩
    | succ j => exact h2 j x (by simpa using hj)
theorem Sides.le {H H' : AH} (hl : Le H H') : ∀ {ss : List Sl} {T : List (List Int)}, Sides H ss T → Sides H' ss T
  | _, _, .nil => .nil
  | _, _, .cons h hs => .cons (h.le hl) (hs.le hl)
section
variable {A : Type} {Q : A → AH → Prop} {H : AH}
/-- A row of whole numbers, written out. -/
theorem ev_mkbI (l : List Int) {cs : List AV} {n : Nat} {K : (ρ : Type) → Nat → (A → AH → Option ρ) → Sl → AH → Option ρ} (hK : ∀ s H', Row H' s l → Le H H' → Ev (fun ρ k κ => K ρ k κ s H') Q) (e1 : cs = l.map fun n => .int .i64 n := by rfl) (e2 : n = l.length := by rfl) : Ev (fun ρ k κ => mkb H cs 1 n (K ρ k κ)) Q := by
  subst e1; subst e2
  exact ev_mkb (hK _ _ (BlkI.row (Blk1.new _ _ _)) ⟨_, rfl⟩)
/-- A table, its rows written out before. -/
theorem ev_mkbS {T : List (List Int)} (ss : List Sl) {cs : List AV} {n : Nat} {K : (ρ : Type) → Nat → (A → AH → Option ρ) → Sl → AH → Option ρ} (h : Sides H ss T) (hK : ∀ s H', Tab H' s T → Le H H' → Ev (fun ρ k κ => K ρ k κ s H') Q) (e1 : cs = ss.map fun s => .sl s := by rfl) (e2 : n = ss.length := by rfl) : Ev (fun ρ k κ => mkb H cs 1 n (K ρ k κ)) Q := by
  subst e1; subst e2
  refine ev_mkb (hK _ _ ⟨h.get.1, fun j x hj => ?_, fun p hp => by cases hp; exact ⟨ss.map fun s => .sl s, 1, by simp, by simp⟩⟩ ⟨_, rfl⟩)
  obtain ⟨s, h1, h2⟩ := h.get.2 j x hj
  exact ⟨⟨H.length, 0⟩, ss.map fun s => .sl s, 1, .sl s, rfl, by simp, by simp [h1], s, rfl, h2.le ⟨_, rfl⟩⟩
end

/-! Structs in memory. -/
section
variable {A : Type} {Q : A → AH → Prop} {H : AH}
/-- What lies at a new place. -/
abbrev At1 (H : AH) (p : Pt) (cs : List AV) : Prop := p.o = 0 ∧ H[p.b]? = some (.cells cs cs.length)
theorem ev_alcB {cs : List AV} {K : (ρ : Type) → Nat → (A → AH → Option ρ) → Pt → AH → Option ρ} (hK : ∀ p H', At1 H' p cs → p.b = H.length → Le H H' → Ev (fun ρ k κ => K ρ k κ p H') Q) : Ev (fun ρ k κ => alc H cs (K ρ k κ)) Q :=
  ev_alc (hK _ _ ⟨rfl, by simp⟩ rfl ⟨_, rfl⟩)
theorem ev_fldI {p : Pt} {cs : List AV} {j : Nat} {n : Int} {K : (ρ : Type) → Nat → (A → AH → Option ρ) → Int → Option ρ} (hp : At1 H p cs) (hj : cs[j]? = some (.int .i64 n)) (hK : Ev (fun ρ k κ => K ρ k κ n) Q) : Ev (fun ρ k κ => ldc H ⟨p.b, p.o + j⟩ fun u => asI .i64 u (K ρ k κ)) Q := by
  refine ev_ldc (p := ⟨p.b, p.o + j⟩) (K := fun ρ k κ u => asI .i64 u (K ρ k κ)) hp.2 (v := .int .i64 n) (by simp only [hp.1, Nat.zero_add]; exact hj) ?_
  simpa [asI] using hK
theorem ev_fldB {p : Pt} {cs : List AV} {j : Nat} {n : Bool} {K : (ρ : Type) → Nat → (A → AH → Option ρ) → Bool → Option ρ} (hp : At1 H p cs) (hj : cs[j]? = some (.bool n)) (hK : Ev (fun ρ k κ => K ρ k κ n) Q) : Ev (fun ρ k κ => ldc H ⟨p.b, p.o + j⟩ fun u => asB u (K ρ k κ)) Q := by
  refine ev_ldc (p := ⟨p.b, p.o + j⟩) (K := fun ρ k κ u => asB u (K ρ k κ)) hp.2 (v := .bool n) (by simp only [hp.1, Nat.zero_add]; exact hj) ?_
  simpa [asB] using hK
theorem ev_fldS {p : Pt} {cs : List AV} {j : Nat} {n : Sl} {K : (ρ : Type) → Nat → (A → AH → Option ρ) → Sl → Option ρ} (hp : At1 H p cs) (hj : cs[j]? = some (.sl n)) (hK : Ev (fun ρ k κ => K ρ k κ n) Q) : Ev (fun ρ k κ => ldc H ⟨p.b, p.o + j⟩ fun u => asS u (K ρ k κ)) Q := by
  refine ev_ldc (p := ⟨p.b, p.o + j⟩) (K := fun ρ k κ u => asS u (K ρ k κ)) hp.2 (v := .sl n) (by simp only [hp.1, Nat.zero_add]; exact hj) ?_
  simpa [asS] using hK
theorem overlay_all {α : Type} (vs us : List α) (h : us.length = vs.length) : overlay vs 0 us = us := by simp [overlay, h]
/-- A whole struct is stored. -/
theorem ev_stnB {lo : Nat} {p : Pt} {cs us : List AV} {K : (ρ : Type) → Nat → (A → AH → Option ρ) → AH → Option ρ} (hp : At1 H p cs) (hl : us.length = cs.length) (h0 : lo ≤ p.b) (hK : ∀ H', H' = H.set p.b (.cells us us.length) → At1 H' p us → Ev (fun ρ k κ => K ρ k κ H') Q) : Ev (fun ρ k κ => stn lo H p us (K ρ k κ)) Q := by
  have hb := (List.getElem?_eq_some_iff.1 hp.2).1
  have := hK (H.set p.b (.cells us us.length)) rfl ⟨hp.1, by simp [List.getElem?_set, hb]⟩
  have e : (decide (lo ≤ p.b) && decide (p.o + us.length ≤ cs.length)) = true := by simp [h0, hp.1, hl]
  simp only [stn, hp.2, e, cond_true]
  rw [hp.1, overlay_all _ _ hl]
  rwa [hl] at this
/-- A whole struct is read. -/
theorem ev_ldnB {p : Pt} {cs : List AV} {n : Nat} {K : (ρ : Type) → Nat → (A → AH → Option ρ) → List AV → Option ρ} (hp : At1 H p cs) (hn : n = cs.length) (hK : Ev (fun ρ k κ => K ρ k κ cs) Q) : Ev (fun ρ k κ => ldn H p n (K ρ k κ)) Q := by
  subst hn
  have e : decide (0 + cs.length ≤ cs.length) = true := by simp
  simp only [ldn, hp.2, hp.1, e, cond_true, List.drop_zero, List.take_length]
  exact hK
theorem At1.le {H' : AH} {p : Pt} {cs : List AV} (h : At1 H p cs) (hl : Le H H') : At1 H' p cs := ⟨h.1, hl.get h.2⟩
end

/-! Arguments that are laid. -/
theorem lay_le (d : Dt) (H : AH) : Le H (lay d H).2 := by obtain ⟨E, h⟩ := lay_ext d H; exact ⟨E, h⟩
theorem layL_nil' (H : AH) : layL [] H = ([], H) := by simp [layL]
theorem layL_cons' {d : Dt} {l : List Dt} {v : AV} {vs : List AV} {H H1 H2 : AH} (h : (lay d H).1 = v) (h1 : (lay d H).2 = H1) (hs : layL l H1 = (vs, H2)) : layL (d :: l) H = (v :: vs, H2) := by
  subst h; subst h1; simp [layL, hs]
theorem lay_agg1 {l : List Dt} {vs : List AV} {H H1 : AH} (h : layL l H = (vs, H1)) : (lay (.agg l) H).1 = .agg vs := by simp [lay, h]
theorem lay_agg2 {l : List Dt} {vs : List AV} {H H1 : AH} (h : layL l H = (vs, H1)) : (lay (.agg l) H).2 = H1 := by simp [lay, h]
theorem chkG_nil' {C : Ctx} : chkG C [] [] = true := rfl
theorem chkG_cons' {C : Ctx} {f : FuncId} {fn : Fn} {fs : List FuncId} {fns : List Fn} (h : chkFn C f fn = true) (hs : chkG C fs fns = true) : chkG C (f :: fs) (fn :: fns) = true := by simp only [chkG, h, hs, Bool.and_self]

/-- THE END: what the calculus says of a law is what 'law_calls' asks for. -/
theorem law_end {G : Pg} {g : Nat} {args : List AV} {lo : Nat} {H : AH} (h : Ev (fun ρ k κ => run G k ρ g 0 args lo H fun v H' => asB v fun b => κ b H') (fun b _ => b = true)) : ∃ k H', run G k PV g 0 args lo H pr = some (.bool true, H') := by
  obtain ⟨b, H', rfl, k, hk⟩ := h
  have := hk k (Nat.le_refl _) Unit (fun _ _ => some ())
  obtain ⟨v, H'', h1, h2⟩ := run_split G k Unit g 0 args lo H _ () this
  have h3 := hk k (Nat.le_refl _) (Bool × AH) (fun b H => some (b, H))
  simp only [h1] at h3
  refine ⟨k, H'', ?_⟩
  rw [h1]
  cases v <;> simp [asB] at h3
  simp [pr, h3.1]
end Go.Ab
