/- Regions that draw their order, first part: what an operation looks at, what it leaves as it was, flat lists of operations. -/
import Derived.Test.YtmdndoghdbhipaaAbA10
set_option linter.unusedSimpArgs false
set_option linter.unusedVariables false
namespace Go.Ab
open Go Go.RowKit

def Opd.looks : Opd → List Nat
  | .t n => [n]
  | .c _ => []
def looksL : List Opd → List Nat
  | [] => []
  | x :: xs => x.looks ++ looksL xs
def IOp.looks : IOp → List Nat
  | .mkm r => (match r with | none => [] | some n => n.looks)
  | .look _ _ _ m k _ => m.looks ++ k.looks
  | .mupd _ m k v => m.looks ++ (k.looks ++ v.looks)
  | .lenm x => x.looks
  | .pf _ xs => looksL xs
  | .mov x => x.looks
  | .bin _ _ x y => x.looks ++ y.looks
  | .beq _ x y => x.looks ++ y.looks
  | .not x => x.looks
  | .conv _ _ x => x.looks
  | .ld _ x => x.looks
  | .st _ x v => x.looks ++ v.looks
  | .fadr x _ => x.looks
  | .fld x _ _ => x.looks
  | .iadr s i _ => s.looks ++ i.looks
  | .aadr x i _ _ => x.looks ++ i.looks
  | .alloc _ => []
  | .box _ x => x.looks
  | .bld _ ps => looksL (ps.map (·.2.2))
  | .bsl _ _ _ ps => looksL (ps.map (·.2.2))
  | .mksl _ _ l c => l.looks ++ c.looks
  | .len x => x.looks
  | .lens x => x.looks
  | .app _ _ s x => s.looks ++ x.looks
  | .ext x _ => x.looks
  | .call _ args _ _ => looksL args
  | .callv x args _ _ => x.looks ++ looksL args
  | .mkf _ caps => looksL caps
  | .nilck x => x.looks

def AgreeOn (l : List Nat) (σ τ : Env) : Prop := ∀ x ∈ l, σ x = τ x
theorem AgreeOn.left {l m : List Nat} {σ τ : Env} (h : AgreeOn (l ++ m) σ τ) : AgreeOn l σ τ := fun x hx => h x (by simp [hx])
theorem AgreeOn.right {l m : List Nat} {σ τ : Env} (h : AgreeOn (l ++ m) σ τ) : AgreeOn m σ τ := fun x hx => h x (by simp [hx])
theorem opd_agree {x : Opd} {σ τ : Env} (h : AgreeOn x.looks σ τ) : opd σ x = opd τ x := by
  cases x with
  | t n => exact h n (by simp [Opd.looks])
  | c v => rfl
theorem opds_agree : ∀ {xs : List Opd} {σ τ : Env}, AgreeOn (looksL xs) σ τ → xs.map (opd σ) = xs.map (opd τ)
  | [], _, _, _ => rfl
  | x :: xs, σ, τ, h => by simp only [List.map_cons, opd_agree h.left, opds_agree h.right]
theorem fillP_agree {ρ : Type} : ∀ {ps : List (Nat × Nat × Opd)} {σ τ : Env} {zs : List AV} {κ : List AV → Option ρ}, AgreeOn (looksL (ps.map (·.2.2))) σ τ → fillP σ zs ps κ = fillP τ zs ps κ
  | [], _, _, _, _, _ => by unfold fillP; rfl
  | (o, n, x) :: ps, σ, τ, zs, κ, h => by
    unfold fillP
    rw [opd_agree (x := x) h.left, fillP_agree (ps := ps) (zs := overlay zs o (cellsV (opd τ x))) h.right]
theorem evOp_agree {call : CallT} {lo : Nat} {ρ : Type} {io : IOp} {σ τ : Env} {H : AH} {κ : AV → AH → Option ρ} (h : AgreeOn io.looks σ τ) : evOp call lo io σ H κ = evOp call lo io τ H κ := by
  cases io <;> simp only [IOp.looks] at h <;> simp only [evOp]
  case mkm r => cases r with
    | none => rfl
    | some n => simp only; rw [opd_agree h]
  case look => rw [opd_agree h.left, opd_agree h.right]
  case mupd => rw [opd_agree h.left, opd_agree h.right.left, opd_agree h.right.right]
  case pf => rw [opds_agree h]
  case bin => rw [opd_agree h.left, opd_agree h.right]
  case beq => rw [opd_agree h.left, opd_agree h.right]
  case st => rw [opd_agree h.left, opd_agree h.right]
  case iadr => rw [opd_agree h.left, opd_agree h.right]
  case aadr => rw [opd_agree h.left, opd_agree h.right]
  case bld => rw [fillP_agree h]
  case bsl => rw [fillP_agree h]
  case mksl => rw [opd_agree h.left, opd_agree h.right]
  case app => rw [opd_agree h.left, opd_agree h.right]
  case call => rw [opds_agree h]
  case callv => rw [opd_agree h.left, opds_agree h.right]
  case mkf => rw [opds_agree h]
  all_goals first | rfl | rw [opd_agree h]

/-! ### What stays as it was -/
/-- Below lo nothing is written, and the heap grows. -/
def Bar (lo : Nat) (H H' : AH) : Prop := (∀ b : Nat, b < lo → H'[b]? = H[b]?) ∧ H.length ≤ H'.length
theorem Bar.refl (lo : Nat) (H : AH) : Bar lo H H := ⟨fun _ _ => rfl, Nat.le_refl _⟩
theorem Bar.trans {lo : Nat} {a b c : AH} (h : Bar lo a b) (k : Bar lo b c) : Bar lo a c := ⟨fun x hx => (k.1 x hx).trans (h.1 x hx), Nat.le_trans h.2 k.2⟩
theorem Bar.mono {lo lo' : Nat} {a b : AH} (h : Bar lo' a b) (hl : lo ≤ lo') : Bar lo a b := ⟨fun x hx => h.1 x (by omega), h.2⟩
theorem Bar.snoc {lo : Nat} {H : AH} (hl : lo ≤ H.length) (b : Blk) : Bar lo H (H ++ [b]) := ⟨fun x hx => List.getElem?_append_left (by omega), by simp⟩
theorem Bar.set {lo : Nat} {H : AH} {p : Nat} (hp : lo ≤ p) (b : Blk) : Bar lo H (H.set p b) := ⟨fun x hx => List.getElem?_set_ne (by omega), by simp⟩
def CallBar (call : CallT) : Prop := ∀ (g : Nat) (args : List AV) (lo : Nat) (H : AH) (v : AV) (H' : AH), call PV g args lo H pr = some (v, H') → lo ≤ H.length → Bar lo H H'

theorem evOp_bar {call : CallT} (hS : CallSplit call) (hB : CallBar call) {lo : Nat} {io : IOp} {σ : Env} {H H' : AH} {v : AV} (h : evOp call lo io σ H pr = some (v, H')) (hl : lo ≤ H.length) : Bar lo H H' := by
  have same : ∀ {u : AV}, pr u H = some (v, H') → Bar lo H H' := fun hh => by obtain ⟨_, rfl⟩ := pr_inj hh; exact .refl _ _
  cases io <;> simp only [evOp] at h
  case mkm r =>
    cases r with
    | none => obtain ⟨_, rfl⟩ := pr_inj h; exact .snoc hl _
    | some n => obtain ⟨c, hn, h⟩ := asI_some h; obtain ⟨_, rfl⟩ := pr_inj h; exact .snoc hl _
  case look st l z m k ok =>
    obtain ⟨mm, hm, h⟩ := asM_some h
    obtain ⟨es, q, h1, h2, h⟩ := mlook_some h
    exact same (castLf_some h)
  case mupd st m k v =>
    obtain ⟨mm, hm, h⟩ := asM_some h
    obtain ⟨b, es, q, _, _, hlb, _, _, h⟩ := mput_some h
    obtain ⟨_, rfl⟩ := pr_inj h
    exact .set hlb _
  case lenm x =>
    obtain ⟨mm, hm, h⟩ := asM_some h
    obtain ⟨es, h1, h⟩ := entries_some h
    exact same h
  case pf f xs => obtain ⟨v, h1, h2⟩ := evPF_some h; exact same h2
  case mov x => exact same h
  case bin op k x y =>
    obtain ⟨n, hn, h⟩ := asI_some h
    obtain ⟨m, hm, h⟩ := asI_some h
    cases op <;> simp only [binI] at h <;> first
      | exact same h
      | (by_cases h0 : m = 0
         · simp [h0] at h
         · simp only [h0, decide_false, cond_false] at h; exact same h)
      | (simp at h)
  case beq neg x y => obtain ⟨n, hn, h⟩ := asB_some h; obtain ⟨m, hm, h⟩ := asB_some h; exact same h
  case not x => obtain ⟨n, hn, h⟩ := asB_some h; exact same h
  case conv k k' x => obtain ⟨n, hn, h⟩ := asI_some h; exact same h
  case ld t x =>
    obtain ⟨p, hp, h⟩ := asP_some h
    obtain ⟨u, hu, h⟩ := ldT_some h
    exact same h
  case st n x y =>
    obtain ⟨p, hp, h⟩ := asP_some h
    cases n with
    | none =>
      simp only at h
      obtain ⟨hs, h⟩ := cond_none h
      obtain ⟨vs, sz, hb, hlo, hn, h⟩ := stc_some h
      obtain ⟨_, rfl⟩ := pr_inj h
      exact .set hlo _
    | some n =>
      simp only at h
      obtain ⟨us, hu, h⟩ := asAgg_some h
      obtain ⟨hs, h⟩ := cond_none h
      obtain ⟨vs, sz, hb, hlo, hn, h⟩ := stn_some h
      obtain ⟨_, rfl⟩ := pr_inj h
      exact .set hlo _
  case fadr x off => obtain ⟨p, hp, h⟩ := asP_some h; exact same h
  case fld x off n =>
    obtain ⟨vs, hp, h⟩ := asAgg_some h
    cases n with
    | none => simp only at h; split at h; exact same h; simp at h
    | some n => simp only at h; obtain ⟨hb, h⟩ := cond_none h; exact same h
  case iadr s i sz =>
    obtain ⟨s', hs, h⟩ := asS_some h
    obtain ⟨_, n, hn, h⟩ := asN_some h
    obtain ⟨p, hp, h0, h1, h⟩ := idx_some h
    exact same h
  case aadr x i len sz =>
    obtain ⟨p, hs, h⟩ := asP_some h
    obtain ⟨_, n, hn, h⟩ := asN_some h
    obtain ⟨hb, h⟩ := cond_none h
    exact same h
  case alloc zs => simp only [alc] at h; obtain ⟨_, rfl⟩ := pr_inj h; exact .snoc hl _
  case box n x => obtain ⟨hb, h⟩ := cond_none h; simp only [alc] at h; obtain ⟨_, rfl⟩ := pr_inj h; exact .snoc hl _
  case bld zs ps => obtain ⟨us, hu, h⟩ := fillP_split h; exact same h
  case bsl sz zs len ps =>
    obtain ⟨us, hu, h⟩ := fillP_split h
    obtain ⟨hb, h⟩ := cond_none h
    simp only [mkb] at h; obtain ⟨_, rfl⟩ := pr_inj h; exact .snoc hl _
  case mksl zs bytes l c =>
    obtain ⟨n, hn, h⟩ := asI_some h
    obtain ⟨m, hm, h⟩ := asI_some h
    simp only [mks] at h
    obtain ⟨hb, h⟩ := cond_none h
    obtain ⟨_, rfl⟩ := pr_inj h; exact .snoc hl _
  case len x => obtain ⟨n, hn, h⟩ := asS_some h; exact same h
  case lens x => obtain ⟨n, hn, h⟩ := asStr_some h; exact same h
  case app sz bytes s x =>
    obtain ⟨s', hs, h⟩ := asS_some h
    obtain ⟨y, hy, h⟩ := asS_some h
    simp only [appS] at h
    cases hyp : y.p with
    | none => rw [hyp] at h; simp only at h; obtain ⟨hb, h⟩ := cond_none h; exact same h
    | some q =>
      rw [hyp] at h; simp only at h
      obtain ⟨vs, sz0, hb, hn, h⟩ := ldn_some h
      unfold app at h
      by_cases h0 : y.len = 0
      · simp only [h0, decide_true, cond_true] at h; exact same h
      · simp only [h0, decide_false, cond_false] at h
        obtain ⟨hb1, h⟩ := cond_none h
        cases hsp : s'.p with
        | none => rw [hsp] at h; simp only at h; obtain ⟨hb2, h⟩ := cond_none h; obtain ⟨_, rfl⟩ := pr_inj h; exact .snoc hl _
        | some p =>
          rw [hsp] at h; simp only at h
          split at h
          · obtain ⟨hb2, h⟩ := cond_none h
            simp only [Bool.and_eq_true, decide_eq_true_eq] at hb2
            obtain ⟨_, rfl⟩ := pr_inj h
            exact (Bar.set hb2.1.1 _).trans (.snoc (by simpa using hl) _)
          · simp at h
  case ext x i => obtain ⟨l, hl', h⟩ := asTup_some h; split at h; exact same h; simp at h
  case call g args fresh rt =>
    obtain ⟨u, H1, hc, h⟩ := hS _ _ _ _ _ _ _ h
    obtain ⟨_, rfl⟩ := pr_inj (castTy_some h)
    cases fresh
    · exact hB _ _ _ _ _ _ (hc PV pr) hl
    · exact (hB _ _ _ _ _ _ (hc PV pr) (Nat.le_refl _)).mono hl
  case callv x args fresh rt =>
    split at h
    · obtain ⟨u, H1, hc, h⟩ := hS _ _ _ _ _ _ _ h
      obtain ⟨_, rfl⟩ := pr_inj (castTy_some h)
      cases fresh
      · exact hB _ _ _ _ _ _ (hc PV pr) hl
      · exact (hB _ _ _ _ _ _ (hc PV pr) (Nat.le_refl _)).mono hl
    · simp at h
  case mkf g caps => exact same h
  case nilck x => obtain ⟨p, hp, h⟩ := asP_some h; exact same h

/-! ### Classes: 0 nothing of memory, 1 a load, 2 a new block, 3 a call that writes nothing old, 4 an append, 5 anything -/
def IOp.cls : IOp → Nat
  | .mkm _ => 5
  | .mupd _ _ _ _ => 5
  | .look _ _ _ _ _ _ => 1
  | .lenm _ => 1
  | .ld _ _ => 1
  | .alloc _ => 2
  | .box _ _ => 2
  | .bsl _ _ _ _ => 2
  | .mksl _ _ _ _ => 2
  | .call _ _ true _ => 3
  | .callv _ _ true _ => 3
  | .call _ _ false _ => 5
  | .callv _ _ false _ => 5
  | .app _ _ _ _ => 4
  | .st _ _ _ => 5
  | _ => 0

/-- What reads no memory gives the same whatever the heap. -/
theorem evOp_pure {call : CallT} {lo : Nat} {io : IOp} {σ : Env} {H H' : AH} {v : AV} (hc : io.cls = 0) (h : evOp call lo io σ H pr = some (v, H')) : H' = H ∧ ∀ H2, evOp call lo io σ H2 pr = some (v, H2) := by
  cases io <;> simp [IOp.cls] at hc <;> simp only [evOp] at h ⊢
  case pf f xs => obtain ⟨u, h1, h2⟩ := evPF_some h; obtain ⟨rfl, rfl⟩ := pr_inj h2; exact ⟨rfl, fun H2 => h1 _ _⟩
  case mov x => obtain ⟨rfl, rfl⟩ := pr_inj h; exact ⟨rfl, fun _ => rfl⟩
  case bin op k x y =>
    obtain ⟨n, hn, h⟩ := asI_some h
    obtain ⟨m, hm, h⟩ := asI_some h
    simp only [hn, hm, asI_eq]
    cases op <;> simp only [binI] at h ⊢ <;> first
      | (obtain ⟨rfl, rfl⟩ := pr_inj h; exact ⟨rfl, fun _ => rfl⟩)
      | (by_cases h0 : m = 0
         · simp [h0] at h
         · simp only [h0, decide_false, cond_false] at h ⊢; obtain ⟨rfl, rfl⟩ := pr_inj h; exact ⟨rfl, fun _ => rfl⟩)
      | (simp at h)
  case beq neg x y =>
    obtain ⟨n, hn, h⟩ := asB_some h; obtain ⟨m, hm, h⟩ := asB_some h
    rw [hn, hm]; obtain ⟨rfl, rfl⟩ := pr_inj h; exact ⟨rfl, fun _ => rfl⟩
  case not x => obtain ⟨n, hn, h⟩ := asB_some h; rw [hn]; obtain ⟨rfl, rfl⟩ := pr_inj h; exact ⟨rfl, fun _ => rfl⟩
  case conv k k' x => obtain ⟨n, hn, h⟩ := asI_some h; simp only [hn, asI_eq]; obtain ⟨rfl, rfl⟩ := pr_inj h; exact ⟨rfl, fun _ => rfl⟩
  case fadr x off => obtain ⟨p, hp, h⟩ := asP_some h; rw [hp]; obtain ⟨rfl, rfl⟩ := pr_inj h; exact ⟨rfl, fun _ => rfl⟩
  case fld x off n =>
    obtain ⟨vs, hp, h⟩ := asAgg_some h
    rw [hp]
    cases n with
    | none =>
      simp only at h
      split at h
      · rename_i u hu; obtain ⟨rfl, rfl⟩ := pr_inj h; exact ⟨rfl, fun _ => by simp only [Ab.asAgg, hu]; rfl⟩
      · simp at h
    | some n =>
      simp only at h
      obtain ⟨hb, h⟩ := cond_none h
      obtain ⟨rfl, rfl⟩ := pr_inj h; exact ⟨rfl, fun _ => by simp only [Ab.asAgg, hb, cond_true]; rfl⟩
  case iadr s i sz =>
    obtain ⟨s', hs, h⟩ := asS_some h
    obtain ⟨_, n, hn, h⟩ := asN_some h
    obtain ⟨p, hp, h0, h1, h⟩ := idx_some h
    simp only [hs, hn, asS, asN, idx_eq hp h0 h1]
    obtain ⟨rfl, rfl⟩ := pr_inj h; exact ⟨rfl, fun _ => rfl⟩
  case aadr x i len sz =>
    obtain ⟨p, hs, h⟩ := asP_some h
    obtain ⟨_, n, hn, h⟩ := asN_some h
    obtain ⟨hb, h⟩ := cond_none h
    simp only [hs, hn, asP, asN, hb]
    obtain ⟨rfl, rfl⟩ := pr_inj h; exact ⟨rfl, fun _ => rfl⟩
  case bld zs ps =>
    obtain ⟨us, hu, h⟩ := fillP_split h
    obtain ⟨rfl, rfl⟩ := pr_inj h
    refine ⟨rfl, fun H2 => ?_⟩
    have : ∀ {ps : List (Nat × Nat × Opd)} {zs us : List AV} {κ : List AV → Option PV}, fillP σ zs ps some = some us → fillP σ zs ps κ = κ us := by
      intro ps
      induction ps with
      | nil => intro zs us κ h; unfold fillP at h ⊢; cases h; rfl
      | cons p ps ih => intro zs us κ h; obtain ⟨o', n', y'⟩ := p; unfold fillP at h ⊢; (try simp only at h ⊢); obtain ⟨hb, h⟩ := cond_none h; rw [hb]; exact ih h
    rw [this hu]; rfl
  case len x => obtain ⟨n, hn, h⟩ := asS_some h; rw [hn]; obtain ⟨rfl, rfl⟩ := pr_inj h; exact ⟨rfl, fun _ => rfl⟩
  case lens x => obtain ⟨n, hn, h⟩ := asStr_some h; rw [hn]; obtain ⟨rfl, rfl⟩ := pr_inj h; exact ⟨rfl, fun _ => rfl⟩
  case ext x i =>
    obtain ⟨l, hl, h⟩ := asTup_some h
    rw [hl]
    split at h
    · rename_i u hu; obtain ⟨rfl, rfl⟩ := pr_inj h; exact ⟨rfl, fun _ => by simp only [asTup, hu]; rfl⟩
    · simp at h
  case call g args fresh rt => cases fresh <;> simp at hc
  case callv x args fresh rt => cases fresh <;> simp at hc
  case mkf g caps => obtain ⟨rfl, rfl⟩ := pr_inj h; exact ⟨rfl, fun _ => rfl⟩
  case nilck x => obtain ⟨p, hp, h⟩ := asP_some h; rw [hp]; obtain ⟨rfl, rfl⟩ := pr_inj h; exact ⟨rfl, fun _ => rfl⟩

/-- A load: from one block, and whatever the rest of the heap. -/
theorem evOp_load {call : CallT} {lo : Nat} {io : IOp} {σ : Env} {H H' : AH} {v : AV} (hc : io.cls = 1) (h : evOp call lo io σ H pr = some (v, H')) :
    H' = H ∧ ((∀ H2 : AH, evOp call lo io σ H2 pr = some (v, H2)) ∨ ∃ b blk y, blk ≠ .dead ∧ (∀ z ∈ y.looks, z ∈ io.looks) ∧ (∀ (C : Ctx) (op : Op), chkOp C op io = true → ∃ x, chkOpd C.fids x y = true) ∧
      ((∃ p : Pt, opd σ y = .ptr (some p) ∧ p.b = b) ∨ opd σ y = .map (some b)) ∧ H[b]? = some blk ∧ ∀ H2 : AH, H2[b]? = H[b]? → evOp call lo io σ H2 pr = some (v, H2)) := by
  cases io <;> simp [IOp.cls] at hc
  case ld t x =>
    simp only [evOp] at h ⊢
    obtain ⟨p, hp, h⟩ := asP_some h
    obtain ⟨u, hu, h⟩ := ldT_some h
    obtain ⟨rfl, rfl⟩ := pr_inj h
    have hcell : ∃ vs sz, H[p.b]? = some (.cells vs sz) := by
      have h1 := hu some
      cases t with
      | lf l => simp only [ldT] at h1; obtain ⟨vs, sz, _, hb, _⟩ := ldc_some h1; exact ⟨vs, sz, hb⟩
      | agg ls => simp only [ldT] at h1; obtain ⟨vs, sz, hb, _⟩ := ldn_some h1; exact ⟨vs, sz, hb⟩
    obtain ⟨vs, sz, hb⟩ := hcell
    refine ⟨rfl, .inr ⟨p.b, _, x, by simp, fun z hz => hz, fun C op hk => ?_, .inl ⟨p, hp, rfl⟩, hb, fun H2 hH2 => ?_⟩⟩
    · simp only [chkOp] at hk
      split at hk
      · simp only [Bool.and_eq_true] at hk; exact ⟨_, hk.2⟩
      · simp at hk
    rw [hp]
    show ldT H2 t p (fun v => pr v H2) = _
    have : ∀ {κ : AV → Option PV}, ldT H2 t p κ = ldT H t p κ := by
      intro κ
      cases t <;> simp only [ldT, ldc, ldn, hH2]
    rw [this, hu]; rfl
  case look st l z m k ok =>
    simp only [evOp] at h ⊢
    obtain ⟨mm, hm, h⟩ := asM_some h
    obtain ⟨es, q, h1, h2, h⟩ := mlook_some h
    have hcl := fun κ' => castLf_eq h (ρ' := PV) κ'
    have h := castLf_some h
    obtain ⟨rfl, rfl⟩ := pr_inj h
    rcases h1 with ⟨rfl, rfl⟩ | ⟨b, rfl, hb⟩
    · refine ⟨rfl, .inl fun H2 => ?_⟩
      rw [hm]
      simp only [asM, mlook_eq (.inl ⟨rfl, rfl⟩) h2, hcl]; rfl
    · refine ⟨rfl, .inr ⟨b, _, m, by simp, fun z hz => by simp [IOp.looks, hz], fun C op hk => ?_, .inr hm, hb, fun H2 hH2 => ?_⟩⟩
      · simp only [chkOp] at hk
        split at hk
        · split at hk
          · simp only [Bool.and_eq_true] at hk; exact ⟨_, hk.1.2⟩
          · simp at hk
        · simp at hk
      · rw [hm]
        simp only [asM, mlook_eq (.inr ⟨b, rfl, by rw [hH2]; exact hb⟩) h2, hcl]; rfl
  case lenm x =>
    simp only [evOp] at h ⊢
    obtain ⟨mm, hm, h⟩ := asM_some h
    obtain ⟨es, h1, h⟩ := entries_some h
    obtain ⟨rfl, rfl⟩ := pr_inj h
    rcases h1 with ⟨rfl, rfl⟩ | ⟨b, rfl, hb⟩
    · exact ⟨rfl, .inl fun H2 => by rw [hm]; rfl⟩
    · refine ⟨rfl, .inr ⟨b, _, x, by simp, fun z hz => by simpa [IOp.looks] using hz, fun C op hk => ?_, .inr hm, hb, fun H2 hH2 => ?_⟩⟩
      · simp only [chkOp] at hk
        split at hk
        · split at hk
          · simp only [Bool.and_eq_true] at hk; exact ⟨_, hk.2⟩
          · simp at hk
        · simp at hk
      · rw [hm]
        simp only [asM, mlen, entries_eq (.inr ⟨b, rfl, by rw [hH2]; exact hb⟩)]; rfl
  all_goals (rename_i fresh _; cases fresh <;> simp at hc)

/-- An append: no old block is changed but to be dead. -/
theorem evOp_app {call : CallT} {lo : Nat} {io : IOp} {σ : Env} {H H' : AH} {v : AV} (hc : io.cls = 4) (h : evOp call lo io σ H pr = some (v, H')) :
    H.length ≤ H'.length ∧ ∀ b : Nat, b < H.length → H'[b]? = H[b]? ∨ H'[b]? = some .dead := by
  have same : ∀ {u : AV}, pr u H = some (v, H') → H.length ≤ H'.length ∧ ∀ b : Nat, b < H.length → H'[b]? = H[b]? ∨ H'[b]? = some .dead := fun hh => by
    obtain ⟨_, rfl⟩ := pr_inj hh; exact ⟨Nat.le_refl _, fun _ _ => .inl rfl⟩
  cases io <;> simp [IOp.cls] at hc
  case app sz bytes s x =>
    simp only [evOp] at h
    obtain ⟨s', hs, h⟩ := asS_some h
    obtain ⟨y, hy, h⟩ := asS_some h
    simp only [appS] at h
    cases hyp : y.p with
    | none => rw [hyp] at h; simp only at h; obtain ⟨hb, h⟩ := cond_none h; exact same h
    | some q =>
      rw [hyp] at h; simp only at h
      obtain ⟨vs, sz0, hb, hn, h⟩ := ldn_some h
      unfold app at h
      by_cases h0 : y.len = 0
      · simp only [h0, decide_true, cond_true] at h; exact same h
      · simp only [h0, decide_false, cond_false] at h
        obtain ⟨hb1, h⟩ := cond_none h
        cases hsp : s'.p with
        | none =>
          rw [hsp] at h; simp only at h; obtain ⟨hb2, h⟩ := cond_none h; obtain ⟨_, rfl⟩ := pr_inj h
          exact ⟨by simp, fun b hb => .inl (List.getElem?_append_left hb)⟩
        | some p =>
          rw [hsp] at h; simp only at h
          split at h
          · obtain ⟨hb2, h⟩ := cond_none h
            obtain ⟨_, rfl⟩ := pr_inj h
            refine ⟨by simp, fun b hb => ?_⟩
            rw [List.getElem?_append_left (by simpa using hb)]
            by_cases hbp : p.b = b
            · subst hbp; exact .inr (List.getElem?_set_self hb)
            · exact .inl (List.getElem?_set_ne hbp)
          · simp at h
  all_goals (rename_i fresh _; cases fresh <;> simp at hc)
/-- A new block leaves every old block. -/
theorem evOp_bar_alloc {call : CallT} (hS : CallSplit call) (hB : CallBar call) {lo : Nat} {io : IOp} {σ : Env} {H H' : AH} {v : AV} (hc : io.cls = 2) (h : evOp call lo io σ H pr = some (v, H')) : Bar H.length H H' := by
  cases io <;> simp [IOp.cls] at hc <;> simp only [evOp] at h
  case alloc zs => simp only [alc] at h; obtain ⟨_, rfl⟩ := pr_inj h; exact .snoc (Nat.le_refl _) _
  case box n x => obtain ⟨hb, h⟩ := cond_none h; simp only [alc] at h; obtain ⟨_, rfl⟩ := pr_inj h; exact .snoc (Nat.le_refl _) _
  case bsl sz zs len ps =>
    obtain ⟨us, hu, h⟩ := fillP_split h
    obtain ⟨hb, h⟩ := cond_none h
    simp only [mkb] at h; obtain ⟨_, rfl⟩ := pr_inj h; exact .snoc (Nat.le_refl _) _
  case mksl zs bytes l c =>
    obtain ⟨n, hn, h⟩ := asI_some h
    obtain ⟨m, hm, h⟩ := asI_some h
    simp only [mks] at h
    obtain ⟨hb, h⟩ := cond_none h
    obtain ⟨_, rfl⟩ := pr_inj h; exact .snoc (Nat.le_refl _) _
  all_goals (rename_i fresh _; cases fresh <;> simp at hc)
/-- A fresh call leaves every old block. -/
theorem evOp_fresh {call : CallT} (hS : CallSplit call) (hB : CallBar call) {lo : Nat} {io : IOp} {σ : Env} {H H' : AH} {v : AV} (hc : io.cls = 3) (h : evOp call lo io σ H pr = some (v, H')) : Bar H.length H H' := by
  cases io <;> simp [IOp.cls] at hc
  case call g args fresh rt =>
    cases fresh <;> simp at hc
    simp only [evOp] at h
    obtain ⟨u, H1, hc, h⟩ := hS _ _ _ _ _ _ _ h
    obtain ⟨_, rfl⟩ := pr_inj (castTy_some h)
    exact hB _ _ _ _ _ _ (hc PV pr) (Nat.le_refl _)
  case callv x args fresh rt =>
    cases fresh <;> simp at hc
    simp only [evOp] at h
    split at h
    · obtain ⟨u, H1, hc, h⟩ := hS _ _ _ _ _ _ _ h
      obtain ⟨_, rfl⟩ := pr_inj (castTy_some h)
      exact hB _ _ _ _ _ _ (hc PV pr) (Nat.le_refl _)
    · simp at h
end Go.Ab
