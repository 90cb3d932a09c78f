/- The check of an operation against the given program's, and why what the evaluator says of it is so. -/
import Derived.Test.YtmdndoghdbhipaaAbA3
set_option linter.unusedSimpArgs false
namespace Go.Ab
open Go Go.RowKit

def ER (fids : List Nat) (μ : MU) (σ : Env) (a : Act) : Prop := ∀ x, VR fids μ (σ x) (a.tmps.getD x undef)

def chkV : Value → AV → Bool
  | .int k n, .int k' m => decide (k = k') && decide (n = m)
  | .bool a, .bool b => a == b
  | .string s, .str s' => decide (s.data = s'.data)
  | .slice none l c, .sl s => s.p.isNone && decide (s.len = 0) && decide (l = 0) && decide (c = 0)
  | .pointer none, .ptr none => true
  | .map none, .map none => true
  | .nilFunc, .nilf => true
  | .nilIface, .nili => true
  | _, _ => false
def chkVs : List Value → List AV → Bool
  | [], [] => true
  | c :: cs, v :: vs => chkV c v && chkVs cs vs
  | _, _ => false
def chkOpd (fids : List Nat) : Operand → Opd → Bool
  | .tmp t, .t n => decide (t = n)
  | .const v, .c a => chkV v a
  | .func f, .c (.clo g []) => decide (fids[g]? = some f)
  | _, _ => false
def chkOpds (fids : List Nat) : List Operand → List Opd → Bool
  | [], [] => true
  | x :: xs, y :: ys => chkOpd fids x y && chkOpds fids xs ys
  | _, _ => false

section
variable {fids : List Nat} {μ : MU}
theorem chkV_sound {c : Value} {v : AV} (h : chkV c v = true) : VR fids μ v c := by
  cases c <;> cases v <;> (try (simp [chkV] at h; done)) <;> simp only [chkV, Bool.and_eq_true, decide_eq_true_eq, beq_iff_eq] at h
  case int.int k n k' m => obtain ⟨rfl, rfl⟩ := h; exact .int _ _
  case bool.bool a b => subst h; exact .bool _
  case string.str s s' => cases s; cases s'; simp at h; subst h; exact .str _
  case pointer.ptr a p =>
    cases a <;> cases p <;> simp [chkV] at h
    exact .nilptr
  case slice.sl a l k s =>
    cases a <;> simp [chkV] at h
    obtain ⟨⟨⟨h1, h2⟩, h3⟩, h4⟩ := h
    obtain ⟨p, n⟩ := s
    simp at h1 h2; subst h1; subst h2; subst h3; subst h4; exact .nilsl _
  case map.map a b =>
    cases a <;> cases b <;> simp [chkV] at h
    exact .nilmap
  case nilFunc.nilf => exact .nilf
  case nilIface.nili => exact .nili
theorem chkVs_sound : ∀ {cs : List Value} {vs : List AV}, chkVs cs vs = true → VRs fids μ vs cs
  | [], [], _ => .nil
  | _ :: _, _ :: _, h => by simp only [chkVs, Bool.and_eq_true] at h; exact .cons _ _ _ _ (chkV_sound h.1) (chkVs_sound h.2)
  | [], _ :: _, h => by simp [chkVs] at h
  | _ :: _, [], h => by simp [chkVs] at h
theorem chkOpd_sound {x : Operand} {y : Opd} (h : chkOpd fids x y = true) {σ : Env} {a : Act} (hσ : ER fids μ σ a) : VR fids μ (opd σ y) (a.eval x) := by
  cases x <;> cases y <;> (try (simp [chkOpd] at h; done))
  case tmp.t t n => simp [chkOpd] at h; subst h; exact hσ _
  case const.c v a' => exact chkV_sound h
  case func.c f v =>
    cases v <;> simp [chkOpd] at h
    rename_i g caps
    cases caps <;> simp [chkOpd] at h
    exact .clo _ _ _ _ h .nil
theorem chkOpds_sound : ∀ {xs : List Operand} {ys : List Opd}, chkOpds fids xs ys = true → ∀ {σ : Env} {a : Act}, ER fids μ σ a → VRs fids μ (ys.map (opd σ)) (xs.map a.eval)
  | [], [], _, _, _, _ => .nil
  | _ :: _, _ :: _, h, _, _, hσ => by simp only [chkOpds, Bool.and_eq_true] at h; exact .cons _ _ _ _ (chkOpd_sound h.1 hσ) (chkOpds_sound h.2 hσ)
  | [], _ :: _, h, _, _, _ => by simp [chkOpds] at h
  | _ :: _, [], h, _, _, _ => by simp [chkOpds] at h
end

theorem VR.int_inv {fids : List Nat} {μ : MU} {k : IntKind} {n : Int} {c : Value} (h : VR fids μ (.int k n) c) : c = .int k n := by cases h; rfl
theorem VR.bool_inv {fids : List Nat} {μ : MU} {b : Bool} {c : Value} (h : VR fids μ (.bool b) c) : c = .bool b := by cases h; rfl
theorem VR.str_inv {fids : List Nat} {μ : MU} {b : ByteArray} {c : Value} (h : VR fids μ (.str b) c) : c = .string b := by cases h; rfl
theorem VR.ptr_inv {fids : List Nat} {μ : MU} {p : Pt} {c : Value} (h : VR fids μ (.ptr (some p)) c) : ∃ e, c = .pointer (some ⟨e.B, e.o + p.o, none⟩) ∧ μ[p.b]? = some (some e) := by
  cases h with
  | ptr b o e he => exact ⟨e, rfl, he⟩
theorem VR.sl_inv {fids : List Nat} {μ : MU} {p : Pt} {n : Nat} {c : Value} (h : VR fids μ (.sl ⟨some p, n⟩) c) :
    (∃ e cap, c = .slice (some ⟨e.B, e.o + p.o, none⟩) n cap ∧ μ[p.b]? = some (some e) ∧ p.o + cap * e.sz ≤ e.cap ∧ n ≤ cap ∧ 0 < e.sz) ∨ ∃ x e, c = .slice x 0 0 ∧ n = 0 ∧ μ[p.b]? = some (some e) := by
  cases h with
  | sl b o len cap e he hc hl hz => exact .inl ⟨e, cap, rfl, he, hc, hl, hz⟩
  | sle b o x e he => exact .inr ⟨x, e, rfl, rfl, he⟩
theorem VR.nilsl_inv {fids : List Nat} {μ : MU} {n : Nat} {c : Value} (h : VR fids μ (.sl ⟨none, n⟩) c) : ∃ x, c = .slice x 0 0 ∧ n = 0 := by
  cases h; exact ⟨_, rfl, rfl⟩
theorem VR.sl_inv' {fids : List Nat} {μ : MU} {s : Sl} {p : Pt} {c : Value} (h : VR fids μ (.sl s) c) (hp : s.p = some p) :
    (∃ e cap, c = .slice (some ⟨e.B, e.o + p.o, none⟩) s.len cap ∧ μ[p.b]? = some (some e) ∧ p.o + cap * e.sz ≤ e.cap ∧ s.len ≤ cap ∧ 0 < e.sz) ∨ ∃ x e, c = .slice x 0 0 ∧ s.len = 0 ∧ μ[p.b]? = some (some e) := by
  obtain ⟨a, n⟩ := s
  simp only at hp; subst hp
  exact h.sl_inv
theorem VR.nilsl_inv' {fids : List Nat} {μ : MU} {s : Sl} {c : Value} (h : VR fids μ (.sl s) c) (hp : s.p = none) : ∃ x, c = .slice x 0 0 ∧ s.len = 0 := by
  obtain ⟨a, n⟩ := s
  simp only at hp; subst hp
  exact h.nilsl_inv
theorem VR.agg_inv {fids : List Nat} {μ : MU} {l : List AV} {c : Value} (h : VR fids μ (.agg l) c) : ∃ cs : List Value, c = .agg cs.toArray ∧ VRs fids μ l cs := by
  cases h with
  | agg l cs h => exact ⟨cs, rfl, h⟩
theorem VR.tup_inv {fids : List Nat} {μ : MU} {l : List AV} {c : Value} (h : VR fids μ (.tup l) c) : ∃ cs : List Value, c = .tuple cs.toArray ∧ VRs fids μ l cs := by
  cases h with
  | tup l cs h => exact ⟨cs, rfl, h⟩
theorem VR.sl_any {fids : List Nat} {μ : MU} {s : Sl} {c : Value} (h : VR fids μ (.sl s) c) : ∃ x cap, c = .slice x s.len cap := by
  cases h with
  | nilsl x => exact ⟨_, _, rfl⟩
  | sl b o len cap e he hc hl hz => exact ⟨_, cap, rfl⟩
  | sle b o x e he => exact ⟨_, _, rfl⟩

/-! ### What the casts say -/
section
variable {ρ : Type} {r : ρ}
theorem asI_some {k : IntKind} {v : AV} {κ : Int → Option ρ} (h : asI k v κ = some r) : ∃ n, v = .int k n ∧ κ n = some r := by
  unfold asI at h
  split at h
  · rename_i k' n
    by_cases hk : k' = k
    · subst hk; simp at h; exact ⟨n, rfl, h⟩
    · simp [hk] at h
  · simp at h
theorem asN_some {v : AV} {κ : Int → Option ρ} (h : asN v κ = some r) : ∃ k n, v = .int k n ∧ κ n = some r := by
  unfold asN at h; split at h; exact ⟨_, _, rfl, h⟩; simp at h
theorem asB_some {v : AV} {κ : Bool → Option ρ} (h : asB v κ = some r) : ∃ b, v = .bool b ∧ κ b = some r := by
  unfold asB at h; split at h; exact ⟨_, rfl, h⟩; simp at h
theorem asStr_some {v : AV} {κ : ByteArray → Option ρ} (h : asStr v κ = some r) : ∃ b, v = .str b ∧ κ b = some r := by
  unfold asStr at h; split at h; exact ⟨_, rfl, h⟩; simp at h
theorem asS_some {v : AV} {κ : Sl → Option ρ} (h : asS v κ = some r) : ∃ b, v = .sl b ∧ κ b = some r := by
  unfold asS at h; split at h; exact ⟨_, rfl, h⟩; simp at h
theorem asPO_some {v : AV} {κ : Option Pt → Option ρ} (h : asPO v κ = some r) : ∃ b, v = .ptr b ∧ κ b = some r := by
  unfold asPO at h; split at h; exact ⟨_, rfl, h⟩; simp at h
theorem asP_some {v : AV} {κ : Pt → Option ρ} (h : asP v κ = some r) : ∃ b, v = .ptr (some b) ∧ κ b = some r := by
  unfold asP at h; split at h; exact ⟨_, rfl, h⟩; simp at h
theorem asM_some {v : AV} {κ : Option Nat → Option ρ} (h : asM v κ = some r) : ∃ b, v = .map b ∧ κ b = some r := by
  unfold asM at h; split at h; exact ⟨_, rfl, h⟩; simp at h
theorem asAgg_some {v : AV} {κ : List AV → Option ρ} (h : asAgg v κ = some r) : ∃ b, v = .agg b ∧ κ b = some r := by
  unfold asAgg at h; split at h; exact ⟨_, rfl, h⟩; simp at h
theorem asTup_some {v : AV} {κ : List AV → Option ρ} (h : asTup v κ = some r) : ∃ b, v = .tup b ∧ κ b = some r := by
  unfold asTup at h; split at h; exact ⟨_, rfl, h⟩; simp at h
theorem castLf_some {l : Lf} {v : AV} {κ : AV → Option ρ} (h : castLf l v κ = some r) : κ v = some r := by
  cases l <;> simp only [castLf] at h
  · obtain ⟨n, hv, h⟩ := asI_some h; rw [hv]; exact h
  · obtain ⟨n, rfl, h⟩ := asB_some h; exact h
  · obtain ⟨n, rfl, h⟩ := asStr_some h; exact h
  · obtain ⟨n, rfl, h⟩ := asS_some h; exact h
  · obtain ⟨n, rfl, h⟩ := asPO_some h; exact h
  · obtain ⟨n, rfl, h⟩ := asM_some h; exact h
  · exact h
theorem castLfs_some : ∀ {ls : List Lf} {vs : List AV} {κ : List AV → Option ρ}, castLfs ls vs κ = some r → κ vs = some r ∧ ls.length = vs.length
  | [], [], κ, h => by unfold castLfs at h; exact ⟨h, rfl⟩
  | [], _ :: _, κ, h => by unfold castLfs at h; simp at h
  | _ :: _, [], κ, h => by unfold castLfs at h; simp at h
  | l :: ls, v :: vs, κ, h => by
    unfold castLfs at h
    simp only at h
    have h1 := castLf_some h
    have h2 := castLfs_some h1
    exact ⟨h2.1, by simp [h2.2]⟩
theorem castT1_some {t : T1} {v : AV} {κ : AV → Option ρ} (h : castT1 t v κ = some r) : κ v = some r := by
  cases t <;> simp only [castT1] at h
  · exact castLf_some h
  · obtain ⟨l, rfl, h⟩ := asAgg_some h; exact (castLfs_some h).1
theorem castT1s_some : ∀ {ls : List T1} {vs : List AV} {κ : List AV → Option ρ}, castT1s ls vs κ = some r → κ vs = some r
  | [], [], κ, h => by unfold castT1s at h; exact h
  | [], _ :: _, κ, h => by unfold castT1s at h; simp at h
  | _ :: _, [], κ, h => by unfold castT1s at h; simp at h
  | l :: ls, v :: vs, κ, h => by
    unfold castT1s at h
    simp only at h
    have h1 := castT1_some h
    exact castT1s_some (κ := fun vs' => κ (v :: vs')) h1
theorem castTy_some {t : Ty} {v : AV} {κ : AV → Option ρ} (h : castTy t v κ = some r) : κ v = some r := by
  cases t <;> simp only [castTy] at h
  · exact castT1_some h
  · obtain ⟨l, rfl, h⟩ := asTup_some h; exact castT1s_some h
theorem asI_eq {k : IntKind} {n : Int} {κ : Int → Option ρ} : asI k (.int k n) κ = κ n := by simp [asI]
theorem castLf_eq {l : Lf} {v : AV} {κ : AV → Option ρ} (h : castLf l v κ = some r) : ∀ {ρ' : Type} (κ' : AV → Option ρ'), castLf l v κ' = κ' v := by
  intro ρ' κ'
  cases l <;> simp only [castLf] at h ⊢ <;> first
    | (obtain ⟨n, hn, _⟩ := asI_some h; subst hn; exact asI_eq)
    | (obtain ⟨n, hn, _⟩ := asB_some h; subst hn; rfl)
    | (obtain ⟨n, hn, _⟩ := asStr_some h; subst hn; rfl)
    | (obtain ⟨n, hn, _⟩ := asS_some h; subst hn; rfl)
    | (obtain ⟨n, hn, _⟩ := asPO_some h; subst hn; rfl)
    | (obtain ⟨n, hn, _⟩ := asM_some h; subst hn; rfl)
theorem castLfs_eq : ∀ {ls : List Lf} {vs : List AV} {κ : List AV → Option ρ}, castLfs ls vs κ = some r → ∀ {ρ' : Type} (κ' : List AV → Option ρ'), castLfs ls vs κ' = κ' vs
  | [], [], κ, h, _, κ' => by unfold castLfs; rfl
  | [], _ :: _, κ, h, _, _ => by unfold castLfs at h; simp at h
  | _ :: _, [], κ, h, _, _ => by unfold castLfs at h; simp at h
  | l :: ls, v :: vs, κ, h, _, κ' => by
    unfold castLfs at h ⊢
    simp only at h ⊢
    have h1 := castLf_some h
    rw [castLf_eq h, castLfs_eq h1]
theorem castT1_eq {t : T1} {v : AV} {κ : AV → Option ρ} (h : castT1 t v κ = some r) {ρ' : Type} (κ' : AV → Option ρ') : castT1 t v κ' = κ' v := by
  cases t <;> simp only [castT1] at h ⊢
  · exact castLf_eq h κ'
  · obtain ⟨l, rfl, h⟩ := asAgg_some h
    show castLfs _ l _ = _
    rw [castLfs_eq h]
theorem castT1s_eq : ∀ {ls : List T1} {vs : List AV} {κ : List AV → Option ρ}, castT1s ls vs κ = some r → ∀ {ρ' : Type} (κ' : List AV → Option ρ'), castT1s ls vs κ' = κ' vs
  | [], [], κ, h, _, κ' => by unfold castT1s; rfl
  | [], _ :: _, κ, h, _, _ => by unfold castT1s at h; simp at h
  | _ :: _, [], κ, h, _, _ => by unfold castT1s at h; simp at h
  | l :: ls, v :: vs, κ, h, _, κ' => by
    unfold castT1s at h ⊢
    simp only at h ⊢
    have h1 := castT1_some h
    rw [castT1_eq h, castT1s_eq h1]
theorem castTy_eq {t : Ty} {v : AV} {κ : AV → Option ρ} (h : castTy t v κ = some r) {ρ' : Type} (κ' : AV → Option ρ') : castTy t v κ' = κ' v := by
  cases t <;> simp only [castTy] at h ⊢
  · exact castT1_eq h κ'
  · obtain ⟨l, rfl, h⟩ := asTup_some h
    show castT1s _ l _ = _
    rw [castT1s_eq h]
theorem cond_none {b : Bool} {x : Option ρ} (h : (bif b then x else none) = some r) : b = true ∧ x = some r := by
  cases b <;> simp at h; exact ⟨rfl, h⟩
theorem ldc_some {H : AH} {p : Pt} {κ : AV → Option ρ} (h : ldc H p κ = some r) : ∃ vs sz v, H[p.b]? = some (.cells vs sz) ∧ vs[p.o]? = some v ∧ κ v = some r := by
  unfold ldc at h
  split at h
  · rename_i vs sz hb
    split at h
    · rename_i v hv; exact ⟨vs, sz, v, hb, hv, h⟩
    · simp at h
  · simp at h
theorem ldn_some {H : AH} {p : Pt} {n : Nat} {κ : List AV → Option ρ} (h : ldn H p n κ = some r) : ∃ vs sz, H[p.b]? = some (.cells vs sz) ∧ p.o + n ≤ vs.length ∧ κ ((vs.drop p.o).take n) = some r := by
  unfold ldn at h
  split at h
  · rename_i vs sz hb
    obtain ⟨h1, h2⟩ := cond_none h
    exact ⟨vs, sz, hb, by simpa using h1, h2⟩
  · simp at h
theorem ldT_some {H : AH} {t : T1} {p : Pt} {κ : AV → Option ρ} (h : ldT H t p κ = some r) : ∃ v, (∀ {ρ' : Type} (κ' : AV → Option ρ'), ldT H t p κ' = κ' v) ∧ κ v = some r := by
  cases t with
  | lf l =>
    simp only [ldT] at h ⊢
    obtain ⟨vs, sz, v, hb, hv, h⟩ := ldc_some h
    refine ⟨v, fun κ' => ?_, castLf_some h⟩
    simp only [ldc, hb, hv, castLf_eq h]
  | agg ls =>
    simp only [ldT] at h ⊢
    obtain ⟨vs, sz, hb, hn, h⟩ := ldn_some h
    refine ⟨_, fun κ' => ?_, (castLfs_some h).1⟩
    simp only [ldn, hb, hn, decide_true, cond_true, castLfs_eq h]
theorem stn_some {lo : Nat} {H : AH} {p : Pt} {us : List AV} {κ : AH → Option ρ} (h : stn lo H p us κ = some r) :
    ∃ vs sz, H[p.b]? = some (.cells vs sz) ∧ lo ≤ p.b ∧ p.o + us.length ≤ vs.length ∧ κ (H.set p.b (.cells (overlay vs p.o us) sz)) = some r := by
  unfold stn at h
  split at h
  · rename_i vs sz hb
    obtain ⟨h1, h2⟩ := cond_none h
    simp at h1
    exact ⟨vs, sz, hb, h1.1, h1.2, h2⟩
  · simp at h
theorem stc_some {lo : Nat} {H : AH} {p : Pt} {u : AV} {κ : AH → Option ρ} (h : stc lo H p u κ = some r) :
    ∃ vs sz, H[p.b]? = some (.cells vs sz) ∧ lo ≤ p.b ∧ p.o < vs.length ∧ κ (H.set p.b (.cells (vs.set p.o u) sz)) = some r := by
  unfold stc at h
  split at h
  · rename_i vs sz hb
    obtain ⟨h1, h2⟩ := cond_none h
    simp at h1
    exact ⟨vs, sz, hb, h1.1, h1.2, h2⟩
  · simp at h
theorem idx_some {s : Sl} {i : Int} {sz : Nat} {κ : Pt → Option ρ} (h : idx s i sz κ = some r) : ∃ p, s.p = some p ∧ 0 ≤ i ∧ i < s.len ∧ κ ⟨p.b, p.o + i.toNat * sz⟩ = some r := by
  unfold idx at h
  split at h
  · rename_i p hp
    obtain ⟨h1, h2⟩ := cond_none h
    simp at h1
    exact ⟨p, hp, h1.1, h1.2, h2⟩
  · simp at h
end

/-- A function of values alone hands its value on. -/
theorem evPF_some {ρ : Type} {r : ρ} {f : PF} {xs : List AV} {κ : AV → Option ρ} (h : evPF f xs κ = some r) : ∃ v, (∀ (ρ' : Type) (κ' : AV → Option ρ'), evPF f xs κ' = κ' v) ∧ κ v = some r := by
  have hI : ∀ {k : IntKind} {n : Int} {ρ' : Type} {κ : Int → Option ρ'}, asI k (.int k n) κ = κ n := by intro k n ρ' κ; simp [asI]
  cases f <;> simp only [evPF] at h ⊢
  case bits op k =>
    split at h
    · obtain ⟨a, e1, g1⟩ := asI_some h; obtain ⟨b, e2, g2⟩ := asI_some g1; subst e1; subst e2; replace h := g2; exact ⟨_, fun _ _ => by simp only [hI], h⟩
    · simp at h
  case shf op k k' =>
    split at h
    · obtain ⟨a, e1, g1⟩ := asI_some h; obtain ⟨b, e2, g2⟩ := asI_some g1; subst e1; subst e2; replace h := g2
      by_cases hb : b < 0
      · simp [hb] at h
      · simp only [hb, decide_false, cond_false] at h; exact ⟨_, fun _ _ => by simp only [hI, hb, decide_false, cond_false], h⟩
    · simp at h
  case mx k =>
    split at h
    · obtain ⟨a, e1, g1⟩ := asI_some h; obtain ⟨b, e2, g2⟩ := asI_some g1; subst e1; subst e2; replace h := g2; exact ⟨_, fun _ _ => by simp only [hI], h⟩
    · simp at h
  case mn k =>
    split at h
    · obtain ⟨a, e1, g1⟩ := asI_some h; obtain ⟨b, e2, g2⟩ := asI_some g1; subst e1; subst e2; replace h := g2; exact ⟨_, fun _ _ => by simp only [hI], h⟩
    · simp at h
  case slc sz =>
    have key : ∀ {s : Sl} {l hh : Int} {κ : Sl → Option ρ}, slc s l hh sz κ = some r → ∃ s', (∀ (ρ' : Type) (κ' : Sl → Option ρ'), slc s l hh sz κ' = κ' s') ∧ κ s' = some r := by
      intro s l hh κ h
      unfold slc at h ⊢
      obtain ⟨hc, h⟩ := cond_none h
      simp only [hc, cond_true]
      cases hp : s.p with
      | none => rw [hp] at h; exact ⟨_, fun _ _ => rfl, h⟩
      | some p => rw [hp] at h; exact ⟨_, fun _ _ => rfl, h⟩
    split at h
    · obtain ⟨s, e1, g1⟩ := asS_some h; obtain ⟨_, l, e2, g2⟩ := asN_some g1; subst e1; subst e2; replace h := g2; obtain ⟨s', h1, h2⟩ := key h; exact ⟨_, fun _ _ => by simp only [asN, asS, h1], h2⟩
    · obtain ⟨s, e1, g1⟩ := asS_some h; obtain ⟨_, l, e2, g2⟩ := asN_some g1; obtain ⟨_, hh, e3, g3⟩ := asN_some g2; subst e1; subst e2; subst e3; replace h := g3; obtain ⟨s', h1, h2⟩ := key h; exact ⟨_, fun _ _ => by simp only [asN, asS, h1], h2⟩
    · simp at h
  case stx =>
    split at h
    · obtain ⟨s, e1, g1⟩ := asStr_some h; obtain ⟨_, i, e2, g2⟩ := asN_some g1; subst e1; subst e2; replace h := g2
      unfold stx at h
      split at h
      · rename_i b hb; exact ⟨_, fun _ _ => by simp only [asStr, asN, stx, hb], h⟩
      · simp at h
    · simp at h
  case sts =>
    split at h
    · obtain ⟨s, e1, g1⟩ := asStr_some h; obtain ⟨_, l, e2, g2⟩ := asN_some g1; subst e1; subst e2; replace h := g2
      unfold sts at h
      obtain ⟨hc, h⟩ := cond_none h
      exact ⟨_, fun _ _ => by simp only [asStr, asN, sts, hc, cond_true], h⟩
    · obtain ⟨s, e1, g1⟩ := asStr_some h; obtain ⟨_, l, e2, g2⟩ := asN_some g1; obtain ⟨_, hh, e3, g3⟩ := asN_some g2; subst e1; subst e2; subst e3; replace h := g3
      unfold sts at h
      obtain ⟨hc, h⟩ := cond_none h
      exact ⟨_, fun _ _ => by simp only [asStr, asN, sts, hc, cond_true], h⟩
    · simp at h
  case sop op =>
    split at h
    · obtain ⟨a, e1, g1⟩ := asStr_some h; obtain ⟨b, e2, g2⟩ := asStr_some g1; subst e1; subst e2; replace h := g2
      simp only [asStr]
      cases op <;> simp only [sopS] at h ⊢ <;> first
        | exact ⟨_, fun _ _ => rfl, h⟩
        | (unfold stc2 at h ⊢
           obtain ⟨hc, h⟩ := cond_none h
           exact ⟨_, fun _ _ => by simp only [hc, cond_true], h⟩)
        | (simp at h)
    · simp at h
  case pnil neg =>
    split at h
    · obtain ⟨p, e1, g1⟩ := asPO_some h; subst e1; replace h := g1; exact ⟨_, fun _ _ => rfl, h⟩
    · simp at h

/-! ### The check of one operation -/

def isAggB (P : Program) (t : TypeId) : Option Bool :=
  match P.underlying t with
  | some (.struct _) => some true
  | some (.array _ _) => some true
  | some _ => some false
  | none => none
def sizeB (P : Program) (t : TypeId) : Option Nat := (P.info? t).map (·.size)
def bytesB (P : Program) (t : TypeId) : Option Nat := (P.info? t).map (·.bytes)
def zeroB (P : Program) (t : TypeId) : Option Value := (P.info? t).bind (·.zero)
def sliceB (P : Program) (t : TypeId) : Option TypeId :=
  match P.underlying t with
  | some (.slice e) => some e
  | _ => none
def arrayB (P : Program) (t : TypeId) : Option (Nat × TypeId) :=
  match P.underlying t with
  | some (.array n e) => some (n, e)
  | _ => none
def fieldB (P : Program) (t : TypeId) (f : Nat) : Option Field :=
  match P.underlying t with
  | some (.struct fs) => fs[f]?
  | _ => none
def chkT1 (P : Program) (t : TypeId) : T1 → Bool
  | .lf _ => decide (isAggB P t = some false)
  | .agg ls => decide (isAggB P t = some true) && decide (sizeB P t = some ls.length)

def okBin : BinOp → Bool
  | .add | .sub | .mul | .quo | .rem | .eql | .neq | .lss | .leq | .gtr | .geq => true
  | _ => false

def okBits : BinOp → Bool
  | .and | .or | .xor | .andNot => true
  | _ => false
def strB (P : Program) (t : TypeId) : Bool := match P.underlying t with | some .string => true | _ => false
def ptrB (P : Program) (t : TypeId) : Bool := match P.underlying t with | some (.pointer _) => true | _ => false
def zeroO : Opd → Bool
  | .c (.int .i64 n) => decide (n = 0)
  | _ => false
/-- The operands of a slicing: what is sliced, the bounds. -/
def chkSl (fids : List Nat) (x : Operand) (lo hi : Option Operand) (ys : List Opd) : Bool :=
  match ys, lo, hi with
  | [x', l'], none, none => chkOpd fids x x' && zeroO l'
  | [x', l'], some l, none => chkOpd fids x x' && chkOpd fids l l'
  | [x', l', h'], none, some h => chkOpd fids x x' && zeroO l' && chkOpd fids h h'
  | [x', l', h'], some l, some h => chkOpd fids x x' && chkOpd fids l l' && chkOpd fids h h'
  | _, _, _ => false
def chkPF (P : Program) (fids : List Nat) (op : Op) (f : PF) (ys : List Opd) : Bool :=
  match f with
  | .bits b' _ => (match op with | .binOp b _ x y _ => decide (b = b') && okBits b && chkOpds fids [x, y] ys | _ => false)
  | .shf b' _ _ => (match op with | .binOp b _ x y _ => decide (b = b') && (decide (b = .shl) || decide (b = .shr)) && chkOpds fids [x, y] ys | _ => false)
  | .mx _ => (match op with | .call ⟨.builtin .max, xs, _⟩ => chkOpds fids xs.toList ys | _ => false)
  | .mn _ => (match op with | .call ⟨.builtin .min, xs, _⟩ => chkOpds fids xs.toList ys | _ => false)
  | .slc sz => (match op with | .slice t x lo hi none => (match sliceB P t with | some e => decide (sizeB P e = some sz) && chkSl fids x lo hi ys | none => false) | _ => false)
  | .stx => (match op with | .index t x i => strB P t && chkOpds fids [x, i] ys | _ => false)
  | .sts => (match op with | .slice t x lo hi none => strB P t && chkSl fids x lo hi ys | _ => false)
  | .sop b' => (match op with | .binOp b _ x y _ => decide (b = b') && chkOpds fids [x, y] ys | _ => false)
  | .pnil neg => (match op with | .binOp b t x (.const (.pointer none)) _ => decide (b = bif neg then .neq else .eql) && ptrB P t && chkOpds fids [x] ys | _ => false)

/-- A value handed on. -/
def Runs (C : Ctx) (o : Oper) (a : Act) (w : World) (K : Value → World → Prop) : Prop :=
  ∃ c w', ((execOp a.eval o).run C.P w = .ok (.value c) w' ∨ (execOp a.eval o).run C.P w = .ok .skip w' ∧ c = undef) ∧ K c w'
theorem Runs.wp {C : Ctx} {o : Oper} {a : Act} {w : World} {K : Value → World → Prop} (h : Runs C o a w K) {next : Act → World → Prop} {Q : Exit → Act → World → Prop}
    (hk : ∀ c w', K c w' → next (a.put o.dst c) w') : Oper.wp C.P o a w next Q := by
  obtain ⟨c, w', hr, hK⟩ := h
  unfold Oper.wp
  rcases hr with hr | ⟨hr, rfl⟩
  · rw [hr]; exact hk _ _ hK
  · rw [hr]; exact hk _ _ hK
theorem Runs.value {C : Ctx} {o : Oper} {a : Act} {w w' : World} {c : Value} {K : Value → World → Prop} (h : (execOp a.eval o).run C.P w = .ok (.value c) w') (hk : K c w') : Runs C o a w K := ⟨c, w', .inl h, hk⟩
theorem Runs.skip {C : Ctx} {o : Oper} {a : Act} {w w' : World} {K : Value → World → Prop} (h : (execOp a.eval o).run C.P w = .ok .skip w') (hk : K undef w') : Runs C o a w K := ⟨undef, w', .inr ⟨h, rfl⟩, hk⟩

abbrev PV := AV × AH
def pr : AV → AH → Option PV := fun v H => some (v, H)
theorem pr_inj {v v' : AV} {H H' : AH} (h : pr v H = some (v', H')) : v = v' ∧ H = H' := by
  simp only [pr, Option.some.injEq, Prod.mk.injEq] at h; exact h
end Go.Ab
