/- Regions in the order of the text: what is done is what the evaluator says. -/
import Derived.Test.YtmdndoghdbhipaaAbA9
set_option linter.unusedSimpArgs false
set_option linter.unusedVariables false
namespace Go.Ab
open Go Go.RowKit

section
variable {C : Ctx} {ops : Array Oper} {nt : Nat} {call : CallT} {lo : Nat}

theorem idx_eq {ρ : Type} {s : Sl} {p : Pt} {i : Int} {sz : Nat} {κ : Pt → Option ρ} (hp : s.p = some p) (h0 : 0 ≤ i) (h1 : i < s.len) : idx s i sz κ = κ ⟨p.b, p.o + i.toNat * sz⟩ := by
  unfold idx; rw [hp]; simp [h0, h1]
theorem evOp_split (hS : CallSplit call) {ρ : Type} {io : IOp} {σ : Env} {H : AH} {κ : AV → AH → Option ρ} {r : ρ} (h : evOp call lo io σ H κ = some r) :
    ∃ v H', (∀ (ρ' : Type) (κ' : AV → AH → Option ρ'), evOp call lo io σ H κ' = κ' v H') ∧ κ v H' = some r := by
  cases io <;> simp only [evOp] at h ⊢
  case mkm r =>
    cases r with
    | none => exact ⟨_, _, fun _ _ => rfl, h⟩
    | some n => obtain ⟨c, hn, h⟩ := asI_some h; simp only [hn, asI_eq]; exact ⟨_, _, fun _ _ => rfl, h⟩
  case look st l z m k ok =>
    obtain ⟨mm, hm, h⟩ := asM_some h
    obtain ⟨es, q, h1, h2, h⟩ := mlook_some h
    obtain ⟨u, hu⟩ : ∃ u, ∀ (ρ' : Type) (κ' : AV → Option ρ'), castLf l ((q.map (·.2)).getD z) κ' = κ' u := ⟨_, fun _ κ' => castLf_eq h κ'⟩
    rw [hu] at h
    refine ⟨_, _, fun _ κ' => ?_, h⟩
    rw [hm]
    simp only [asM, mlook_eq h1 h2, hu]
  case mupd st m k v =>
    obtain ⟨mm, hm, h⟩ := asM_some h
    obtain ⟨b, es, q, _, _, _, _, hall, h⟩ := mput_some h
    refine ⟨_, _, fun _ κ' => ?_, h⟩
    rw [hm]
    simp only [asM, hall]
  case lenm x =>
    obtain ⟨mm, hm, h⟩ := asM_some h
    obtain ⟨es, h1, h⟩ := entries_some h
    refine ⟨_, _, fun _ κ' => ?_, h⟩
    rw [hm]
    simp only [asM, mlen, entries_eq h1]
  case pf f xs => obtain ⟨v, h1, h2⟩ := evPF_some h; exact ⟨v, H, fun _ κ' => h1 _ _, h2⟩
  case mov x => exact ⟨_, _, fun _ _ => rfl, h⟩
  case bin op k x y =>
    obtain ⟨n, hn, h⟩ := asI_some h
    obtain ⟨m, hm, h⟩ := asI_some h
    simp only [hn, hm, asI_eq]
    cases op <;> simp only [binI] at h ⊢ <;> first
      | exact ⟨_, _, fun _ _ => rfl, h⟩
      | (by_cases h0 : m = 0
         · simp [h0] at h
         · simp only [h0, decide_false, cond_false] at h ⊢; exact ⟨_, _, fun _ _ => rfl, h⟩)
      | (simp at h)
  case beq neg x y =>
    obtain ⟨n, hn, h⟩ := asB_some h
    obtain ⟨m, hm, h⟩ := asB_some h
    rw [hn, hm]; exact ⟨_, _, fun _ _ => rfl, h⟩
  case not x => obtain ⟨n, hn, h⟩ := asB_some h; rw [hn]; exact ⟨_, _, fun _ _ => rfl, h⟩
  case conv k k' x => obtain ⟨n, hn, h⟩ := asI_some h; simp only [hn, asI_eq]; exact ⟨_, _, fun _ _ => rfl, h⟩
  case ld t x =>
    obtain ⟨p, hp, h⟩ := asP_some h
    obtain ⟨v, hv, h⟩ := ldT_some h
    refine ⟨_, _, fun _ κ' => ?_, h⟩
    rw [hp]; exact hv _
  case st n x v =>
    obtain ⟨p, hp, h⟩ := asP_some h
    rw [hp]
    cases n with
    | none =>
      simp only at h ⊢
      obtain ⟨hs, h⟩ := cond_none h
      obtain ⟨vs, sz, hb, hl, hn, h⟩ := stc_some h
      refine ⟨_, _, fun _ _ => ?_, h⟩
      simp only [asP, hs, cond_true, stc, hb, hl, hn, decide_true, Bool.and_self]
    | some n =>
      simp only at h ⊢
      obtain ⟨us, hu, h⟩ := asAgg_some h
      obtain ⟨hs, h⟩ := cond_none h
      obtain ⟨vs, sz, hb, hl, hn, h⟩ := stn_some h
      refine ⟨_, _, fun _ _ => ?_, h⟩
      simp only [asP, hu, asAgg, hs, cond_true, stn, hb, hl, hn, decide_true, Bool.and_self]
  case fadr x off => obtain ⟨p, hp, h⟩ := asP_some h; rw [hp]; exact ⟨_, _, fun _ _ => rfl, h⟩
  case fld x off n =>
    obtain ⟨vs, hp, h⟩ := asAgg_some h
    rw [hp]
    cases n with
    | none =>
      simp only at h
      split at h
      · rename_i u hu; refine ⟨_, _, fun _ _ => ?_, h⟩; simp only [Ab.asAgg, hu]
      · simp at h
    | some n =>
      simp only at h
      obtain ⟨hb, h⟩ := cond_none h
      refine ⟨_, _, fun _ _ => ?_, h⟩; simp only [Ab.asAgg, hb, cond_true]
  case iadr s i sz =>
    obtain ⟨s', hs, h⟩ := asS_some h
    obtain ⟨_, n, hn, h⟩ := asN_some h
    obtain ⟨p, hp, h0, h1, h⟩ := idx_some h
    simp only [hs, hn, asS, asN, idx_eq hp h0 h1]
    exact ⟨_, _, fun _ _ => rfl, h⟩
  case aadr x i len sz =>
    obtain ⟨p, hs, h⟩ := asP_some h
    obtain ⟨_, n, hn, h⟩ := asN_some h
    obtain ⟨hb, h⟩ := cond_none h
    simp only [hs, hn, asP, asN, hb]
    exact ⟨_, _, fun _ _ => rfl, h⟩
  case alloc zs => exact ⟨_, _, fun _ _ => rfl, h⟩
  case box n x => obtain ⟨hb, h⟩ := cond_none h; rw [hb]; exact ⟨_, _, fun _ _ => rfl, h⟩
  case bld zs ps =>
    obtain ⟨us, hu, h⟩ := fillP_split h
    refine ⟨_, _, fun _ _ => ?_, h⟩
    have : ∀ {ps : List (Nat × Nat × Opd)} {zs us : List AV} {ρ' : Type} {κ : List AV → Option ρ'}, fillP σ zs ps some = some us → fillP σ zs ps κ = κ us := by
      intro ps
      induction ps with
      | nil => intro zs us _ κ h; unfold fillP at h ⊢; cases h; rfl
      | cons p ps ih => intro zs us _ κ h; obtain ⟨o', n', y'⟩ := p; unfold fillP at h ⊢; (try simp only at h ⊢); obtain ⟨hb, h⟩ := cond_none h; rw [hb]; exact ih h
    rw [this hu]
  case bsl sz zs len ps =>
    obtain ⟨us, hu, h⟩ := fillP_split h
    obtain ⟨hb, h⟩ := cond_none h
    refine ⟨_, _, fun _ _ => ?_, h⟩
    have : ∀ {ps : List (Nat × Nat × Opd)} {zs us : List AV} {ρ' : Type} {κ : List AV → Option ρ'}, fillP σ zs ps some = some us → fillP σ zs ps κ = κ us := by
      intro ps
      induction ps with
      | nil => intro zs us _ κ h; unfold fillP at h ⊢; cases h; rfl
      | cons p ps ih => intro zs us _ κ h; obtain ⟨o', n', y'⟩ := p; unfold fillP at h ⊢; (try simp only at h ⊢); obtain ⟨hb, h⟩ := cond_none h; rw [hb]; exact ih h
    rw [this hu, hb]; rfl
  case mksl zs bytes l c =>
    obtain ⟨n, hn, h⟩ := asI_some h
    obtain ⟨m, hm, h⟩ := asI_some h
    simp only [hn, hm, asI_eq]
    simp only [mks] at h ⊢
    obtain ⟨hb, h⟩ := cond_none h
    rw [hb]; exact ⟨_, _, fun _ _ => rfl, h⟩
  case len x => obtain ⟨n, hn, h⟩ := asS_some h; rw [hn]; exact ⟨_, _, fun _ _ => rfl, h⟩
  case lens x => obtain ⟨n, hn, h⟩ := asStr_some h; rw [hn]; exact ⟨_, _, fun _ _ => rfl, h⟩
  case app sz bytes s x =>
    obtain ⟨s', hs, h⟩ := asS_some h
    obtain ⟨y, hy, h⟩ := asS_some h
    rw [hs, hy]; simp only [asS]
    simp only [appS] at h ⊢
    cases hyp : y.p with
    | none =>
      rw [hyp] at h; simp only at h ⊢
      obtain ⟨hb, h⟩ := cond_none h
      rw [hb]; exact ⟨_, _, fun _ _ => rfl, h⟩
    | some q =>
      rw [hyp] at h; simp only at h ⊢
      obtain ⟨vs, sz0, hb, hn, h⟩ := ldn_some h
      simp only [ldn, hb, hn, decide_true, cond_true]
      unfold app at h ⊢
      by_cases h0 : y.len = 0
      · simp only [h0, decide_true, cond_true] at h ⊢; exact ⟨_, _, fun _ _ => rfl, h⟩
      · simp only [h0, decide_false, cond_false] at h ⊢
        obtain ⟨hb1, h⟩ := cond_none h
        rw [hb1]
        cases hsp : s'.p with
        | none =>
          rw [hsp] at h; simp only at h ⊢
          obtain ⟨hb2, h⟩ := cond_none h
          rw [hb2]; exact ⟨_, _, fun _ _ => rfl, h⟩
        | some p =>
          rw [hsp] at h; simp only at h ⊢
          split at h
          · rename_i vs0 sz1 hpb
            obtain ⟨hb2, h⟩ := cond_none h
            simp only [cond_true]; rw [hb2]; exact ⟨_, _, fun _ _ => rfl, h⟩
          · simp at h
  case ext x i =>
    obtain ⟨l, hl, h⟩ := asTup_some h
    rw [hl]
    split at h
    · rename_i u hu; refine ⟨_, _, fun _ _ => ?_, h⟩; simp only [asTup, hu]
    · simp at h
  case call g args fresh rt =>
    obtain ⟨v, H1, hc, h⟩ := hS _ _ _ _ _ _ _ h
    exact ⟨v, H1, fun _ κ' => by rw [hc, castTy_eq h], castTy_some h⟩
  case callv x args fresh rt =>
    split at h
    · rename_i g caps hg
      obtain ⟨v, H1, hc, h⟩ := hS _ _ _ _ _ _ _ h
      exact ⟨v, H1, fun _ κ' => by rw [hc, castTy_eq h], castTy_some h⟩
    · simp at h
  case mkf g caps => exact ⟨_, _, fun _ _ => rfl, h⟩
  case nilck x => obtain ⟨p, hp, h⟩ := asP_some h; rw [hp]; exact ⟨_, _, fun _ _ => rfl, h⟩

theorem VR.not_bool_ne {fids : List Nat} {μ : MU} {b : Bool} {c : Value} (h : VR fids μ (.bool b) c) {w : Bool} (hw : b ≠ w) : c ≠ .bool w := by
  rw [h.bool_inv]; intro e; cases e; exact hw rfl

/-- The choice behind a group. -/
theorem pick_run {P : Program} {w : World} {fids : List Nat} {o : Oper} {gt : Nat} {want : Bool} {px : Opd} (hp : pickB fids o.op gt want px = true) (a : Act) {g : Bool} (hg : a.tmps.getD gt undef = .bool g) :
    (g = want → ∃ x, chkOpd fids x px = true ∧ (execOp a.eval o).run P w = .ok (.value (a.eval x)) w) ∧ (g ≠ want → (execOp a.eval o).run P w = .ok (.value (.bool !want)) w) := by
  unfold pickB at hp
  split at hp
  · rename_i c x y hop
    simp only [Bool.and_eq_true, decide_eq_true_eq] at hp
    obtain ⟨rfl, hp⟩ := hp
    have hev : a.eval (.tmp c) = .bool g := hg
    have hexec : (execOp a.eval o).run P w = .ok (.value (if g = true then a.eval x else a.eval y)) w := by
      simp [execOp, hop, hev, asBool]
    cases want with
    | true =>
      simp only [Bool.and_eq_true] at hp
      obtain ⟨h1, h2⟩ := hp
      refine ⟨fun e => ⟨x, h1, by rw [hexec, e]; simp⟩, fun e => ?_⟩
      have : g = false := by simpa using e
      subst this
      rw [hexec]
      split at h2
      · simp at h2; subst h2; simp [Act.eval]
      · simp at h2
    | false =>
      simp only [Bool.and_eq_true] at hp
      obtain ⟨h1, h2⟩ := hp
      refine ⟨fun e => ⟨y, h1, by rw [hexec, e]; simp⟩, fun e => ?_⟩
      have : g = true := by simpa using e
      subst this
      rw [hexec]
      split at h2
      · subst h2; simp [Act.eval]
      · simp at h2
  · simp at hp

variable {Q : Exit → Act → World → Prop}

theorem steps_run (hF : FnsOK C) (hC : CallOK C call) (hS : CallSplit call) (hlo : C.lo0 ≤ lo) : ∀ (ss : Steps) (g : GC) (seen : List Nat) {ρ : Type} (σ : Env) (H : AH) (κ : Env → AH → Option ρ) (r : ρ) (a : Act) (w : World) (μ : MU) (l : List Nat),
    evS call lo ss ρ σ H κ = some r → chkS C ops nt g seen ss = true → Met g a → ER C.fids μ σ a → a.tmps.size = nt → HR C μ H w → lo ≤ H.length →
    (∀ σ' H' a' w' μ', Aft C nt μ H w a ss.dsts σ' H' a' w' μ' → κ σ' H' = some r → wpOps C.P ops Q l a' w') → wpOps C.P ops Q (ss.idxs ++ l) a w
  | .nil, g, seen, _, σ, H, κ, r, a, w, μ, l, h, _, _, hσ, hn, hH, hle, hk => hk σ H a w μ ⟨.refl _, hσ, hn, hH, Below.refl _ _, .refl _ _, rfl, fun _ _ => rfl⟩ h
  | .chk x rest, g, seen, _, σ, H, κ, r, a, w, μ, l, h, hc, hm, hσ, hn, hH, hle, hk => by
    unfold evS at h
    unfold chkS at hc
    obtain ⟨_, h⟩ := cond_none h
    exact steps_run hF hC hS hlo rest g seen σ H κ r a w μ l h hc hm hσ hn hH hle hk
  | .op i d io rest, g, seen, _, σ, H, κ, r, a, w, μ, l, h, hc, hm, hσ, hn, hH, hle, hk => by
    unfold evS at h
    unfold chkS at hc
    split at hc
    · rename_i o hi
      simp only [Bool.and_eq_true, decide_eq_true_eq] at hc
      obtain ⟨⟨⟨⟨⟨h1, h2⟩, h3⟩, h4⟩, h5⟩, h6⟩ := hc
      subst h2
      obtain ⟨v, H1, he, h⟩ := evOp_split hS h
      have hdn : dstB a.tmps.size o.dst = true := by rw [hn]; exact h3
      refine wpOps_run hi (hm.wanted h4) (op_sound hF hC hS hlo hle h1 (he PV pr) hσ hH fun c w1 ⟨μ1, hg⟩ => ?_)
      have hA : Aft C nt μ H w a (dl o.dst) (putO σ o.dst v) H1 (a.put o.dst c) w1 μ1 :=
        ⟨hg.ext, hσ.put hg.ext.ref hg.val hdn, by rw [size_put]; exact hn, hg.hr, hg.below, hg.keep, defs_put _ _ _, fun x hx => by
          rw [memN_dl] at hx; rw [getD_put _ _ _ _ hdn, if_neg (by simpa using hx)]⟩
      have hm1 : Met g (a.put o.dst c) := by
        cases g with
        | none => trivial
        | some p =>
          obtain ⟨gt, want⟩ := p
          have : memN gt (dl o.dst) = false := by simpa [freeB] using h5
          show (a.put o.dst c).tmps.getD gt undef = .bool want
          rw [hA.same gt this]; exact hm
      exact steps_run hF hC hS hlo rest g _ _ H1 κ r _ w1 μ1 l h h6 hm1 hA.er hA.sz hA.hr (Nat.le_trans hle (hA.grow hH)) fun σ' H' a' w' μ' hA' hκ => hk σ' H' a' w' μ' (hA.trans hA') hκ
    · simp at hc
  | .grp gt want inner i pd px rest, g, seen, _, σ, H, κ, r, a, w, μ, l, h, hc, hm, hσ, hn, hH, hle, hk => by
    unfold evS at h
    unfold chkS at hc
    split at hc
    · rename_i o hi
      simp only [Bool.and_eq_true, decide_eq_true_eq, Bool.or_eq_true, Bool.not_eq_true'] at hc
      obtain ⟨⟨⟨⟨⟨⟨⟨⟨h1, h2⟩, h3⟩, h4⟩, h5⟩, h6⟩, h7⟩, h8⟩, h9⟩ := hc
      obtain ⟨gb, hgb, h⟩ := asB_some h
      obtain ⟨q, hq, h⟩ := Option.bind_eq_some_iff.1 h
      have hgv : a.tmps.getD gt undef = .bool gb := by have := hσ gt; rw [hgb] at this; exact this.bool_inv
      rw [Steps.idxs, List.append_assoc, List.cons_append]
      -- behind the choice
      have behind : ∀ (H1 : AH) (a1 : Act) (w1 : World) (μ1 : MU) (b : Bool), q = (b, H1) → Ext μ μ1 → H.length ≤ H1.length → a1.tmps.size = nt → HR C μ1 H1 w1 → Below C.base w w1 → Keep μ H H1 → a1.defers = a.defers →
          (∀ x, memN x inner.dsts = false → a1.tmps.getD x undef = a.tmps.getD x undef) → (execOp a1.eval o).run C.P w1 = .ok (.value (.bool b)) w1 → wpOps C.P ops Q (i :: (rest.idxs ++ l)) a1 w1 := by
        intro H1 a1 w1 μ1 b hqb e1 e1' e2 e3 e4 e5 e6 e7 hex
        subst hqb
        have hdn : dstB a1.tmps.size o.dst = true := by rw [e2, h2]; simpa [dstB] using h3
        have hm1 : Met g a1 := by
          cases g with
          | none => trivial
          | some p =>
            obtain ⟨g0, w0⟩ := p
            have : memN g0 (pd :: inner.dsts) = false := by simpa [freeB] using h5
            rw [memN_cons, Bool.or_eq_false_iff] at this
            show a1.tmps.getD g0 undef = .bool w0
            rw [e7 g0 this.2]; exact hm
        have hA : Aft C nt μ H w a (inner.dsts ++ [pd]) (put (forget σ inner.dsts) pd (.bool b)) H1 (a1.put o.dst (.bool b)) w1 μ1 := by
          refine ⟨e1, fun x => ?_, by rw [size_put]; exact e2, e3, e4, e5, by rw [defs_put]; exact e6, fun x hx => ?_⟩
          · rw [getD_put _ _ _ _ hdn, h2]
            simp only [put]
            cases hx : Nat.beq x pd
            · have : ¬ pd = x := fun e => by subst e; simp at hx
              simp only [cond_false, Option.some.injEq, this, if_false, forget]
              cases hin : memN x inner.dsts
              · simp only [cond_false]; rw [e7 x hin]; exact (hσ x).mono e1.ref
              · exact .unk _
            · have : x = pd := Nat.eq_of_beq_eq_true hx
              subst this
              simpa using VR.bool (fids := C.fids) b
          · rw [memN_app, memN_cons] at hx
            simp only [Bool.or_eq_false_iff, decide_eq_false_iff_not] at hx
            rw [getD_put _ _ _ _ hdn, h2, if_neg (by simpa using Ne.symm hx.2.1)]
            exact e7 x hx.1
        refine wpOps_run hi (hm1.wanted h4) ?_
        unfold Oper.wp
        rw [hex, Oper.upon_value]
        have hm2 : Met g (a1.put o.dst (.bool b)) := by
          cases g with
          | none => trivial
          | some p =>
            obtain ⟨g0, w0⟩ := p
            have : memN g0 (pd :: inner.dsts) = false := by simpa [freeB] using h5
            rw [memN_cons, Bool.or_eq_false_iff] at this
            show (a1.put o.dst (.bool b)).tmps.getD g0 undef = .bool w0
            rw [getD_put _ _ _ _ hdn, h2, if_neg (by intro e; cases e; simp at this)]; exact hm1
        refine steps_run hF hC hS hlo rest g _ _ H1 κ r _ w1 μ1 l h h9 hm2 hA.er hA.sz hA.hr (Nat.le_trans hle e1') fun σ' H' a' w' μ' hA' hκ => hk σ' H' a' w' μ' ?_ hκ
        have := hA.trans hA'
        rw [Steps.dsts]
        rwa [List.append_assoc, List.singleton_append] at this
      by_cases hgw : gb = want
      · subst hgw
        have hif : (bif gb then gb else !gb) = true := by cases gb <;> rfl
        rw [hif, cond_true] at hq
        refine steps_run hF hC hS hlo inner (some (gt, gb)) [] σ H _ q a w μ _ hq h8 hgv hσ hn hH hle fun σ1 H1 a1 w1 μ1 hA hκ => ?_
        obtain ⟨b, hb, hκ⟩ := asB_some hκ
        simp only [Option.some.injEq] at hκ
        have hg1 : a1.tmps.getD gt undef = .bool gb := by rw [hA.same gt h6]; exact hgv
        obtain ⟨x, hx, hex⟩ := (pick_run (P := C.P) (w := w1) h1 a1 hg1).1 rfl
        have vx := chkOpd_sound hx hA.er
        rw [hb] at vx
        rw [vx.bool_inv] at hex
        exact behind H1 a1 w1 μ1 b hκ.symm hA.ext (hA.grow hH) hA.sz hA.hr hA.below hA.keep hA.defs hA.same hex
      · have hif : (bif want then gb else !gb) = false := by cases gb <;> cases want <;> simp at hgw ⊢
        rw [hif, cond_false] at hq
        simp only [Option.some.injEq] at hq
        refine steps_skip inner gt want [] a _ h8 hn (by rw [hgv]; intro e; cases e; exact hgw rfl) (fun d hd => by simp [memN] at hd) fun a1 g1 g2 g3 g4 => ?_
        have hg1 : a1.tmps.getD gt undef = .bool gb := by rw [g3 gt h6]; exact hgv
        exact behind H a1 w μ (!want) hq.symm (.refl _) (Nat.le_refl _) g1 hH (Below.refl _ _) (.refl _ _) g2 g3 ((pick_run (P := C.P) (w := w) h1 a1 hg1).2 hgw)
    · simp at hc
end
end Go.Ab
