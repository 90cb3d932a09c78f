/- Plain lemmas, and the abstract evaluator with its soundness. No condition. -/
import Derived.Test.YtdoggefpmamoiaaAbA2
/- The evaluator does not look at where blocks lie: what it says of an empty memory it says of any. Plain lemmas. No condition. -/
set_option linter.unusedSimpArgs false
set_option linter.unusedVariables false
namespace Go.Ab
open Go

def shP (n : Nat) (p : Pt) : Pt := ⟨p.b + n, p.o⟩
def shS (n : Nat) (s : Sl) : Sl := ⟨s.p.map (shP n), s.len⟩
mutual
def sh (n : Nat) : AV → AV
  | .unk => .unk
  | .int k m => .int k m
  | .bool b => .bool b
  | .str s => .str s
  | .sl s => .sl (shS n s)
  | .ptr p => .ptr (p.map (shP n))
  | .map r => .map (r.map (· + n))
  | .clo f caps => .clo f (shL n caps)
  | .nilf => .nilf
  | .ifc t v => .ifc t (sh n v)
  | .nili => .nili
  | .agg l => .agg (shL n l)
  | .tup l => .tup (shL n l)
def shL (n : Nat) : List AV → List AV
  | [] => []
  | v :: l => sh n v :: shL n l
end
theorem shL_map (n : Nat) : ∀ l : List AV, shL n l = l.map (sh n)
  | [] => by simp [shL]
  | v :: l => by simp [shL, shL_map n l]
def shB (n : Nat) : Blk → Blk
  | .cells vs sz => .cells (vs.map (sh n)) sz
  | .map es => .map (es.map fun p => (sh n p.1, sh n p.2))
  | .dead => .dead
/-- The memory, behind H0. -/
def shH (H0 H : AH) : AH := H0 ++ H.map (shB H0.length)
def shE (n : Nat) (σ : Env) : Env := fun x => sh n (σ x)

section
variable {H0 : AH} {H : AH}
theorem cond_none' {ρ : Type} {b : Bool} {x : Option ρ} {r : ρ} (h : (bif b then none else x) = some r) : b = false ∧ x = some r := by cases b <;> simp at h; exact ⟨rfl, h⟩
theorem shH_len : (shH H0 H).length = H.length + H0.length := by simp [shH]; omega
theorem shH_get {b : Nat} : (shH H0 H)[b + H0.length]? = (H[b]?).map (shB H0.length) := by
  unfold shH; rw [List.getElem?_append_right (by omega), Nat.add_sub_cancel]; simp
theorem shH_set {b : Nat} {x : Blk} : (shH H0 H).set (b + H0.length) (shB H0.length x) = shH H0 (H.set b x) := by
  unfold shH; rw [List.set_append, if_neg (by omega), Nat.add_sub_cancel, List.map_set]
theorem shH_snoc {x : Blk} : shH H0 H ++ [shB H0.length x] = shH H0 (H ++ [x]) := by simp [shH]
theorem shE_put {n : Nat} {σ : Env} {d : Nat} {v : AV} : shE n (put σ d v) = put (shE n σ) d (sh n v) := by
  funext x; simp only [shE, put]; cases Nat.beq x d <;> rfl
theorem shE_putO {n : Nat} {σ : Env} {d : Option Nat} {v : AV} : shE n (putO σ d v) = putO (shE n σ) d (sh n v) := by cases d with | none => rfl | some d => exact shE_put
theorem shE_forget {n : Nat} {σ : Env} {l : List Nat} : shE n (forget σ l) = forget (shE n σ) l := by
  funext x; simp only [shE, forget]; cases memN x l <;> simp [sh]
theorem shE_envOf {n : Nat} : ∀ (ss : List Nat) (vs : List AV), shE n (envOf ss vs) = envOf ss (vs.map (sh n))
  | s :: ss, v :: vs => by
    funext x
    have := congrFun (shE_envOf (n := n) ss vs) x
    simp only [shE] at this
    simp only [shE, envOf, List.map_cons]; cases Nat.beq x s <;> simp [this]
  | [], [] => by funext x; simp [shE, envOf, sh]
  | [], _ :: _ => by funext x; simp [shE, envOf, sh]
  | _ :: _, [] => by funext x; simp [shE, envOf, sh]
end

mutual
/-- No block is named. -/
def noid : AV → Bool
  | .sl s => s.p.isNone
  | .ptr p => p.isNone
  | .map r => r.isNone
  | .clo _ caps => noidL caps
  | .ifc _ v => noid v
  | .agg l => noidL l
  | .tup l => noidL l
  | _ => true
def noidL : List AV → Bool
  | [] => true
  | v :: l => noid v && noidL l
end
mutual
theorem sh_noid (n : Nat) : ∀ v : AV, noid v = true → sh n v = v
  | .unk, _ => by simp [sh]
  | .int _ _, _ => by simp [sh]
  | .bool _, _ => by simp [sh]
  | .str _, _ => by simp [sh]
  | .sl ⟨p, l⟩, h => by cases p <;> simp [noid] at h; simp [sh, shS]
  | .ptr p, h => by cases p <;> simp [noid] at h; simp [sh]
  | .map r, h => by cases r <;> simp [noid] at h; simp [sh]
  | .clo f caps, h => by simp only [noid] at h; simp only [sh, shL_noid n caps h]
  | .nilf, _ => by simp [sh]
  | .ifc t v, h => by simp only [noid] at h; simp only [sh, sh_noid n v h]
  | .nili, _ => by simp [sh]
  | .agg l, h => by simp only [noid] at h; simp only [sh, shL_noid n l h]
  | .tup l, h => by simp only [noid] at h; simp only [sh, shL_noid n l h]
theorem shL_noid (n : Nat) : ∀ l : List AV, noidL l = true → shL n l = l
  | [], _ => by simp [shL]
  | v :: l, h => by simp only [noidL, Bool.and_eq_true] at h; simp only [shL, sh_noid n v h.1, shL_noid n l h.2]
end
def noidO : Opd → Bool
  | .t _ => true
  | .c v => noid v
def noidOp : IOp → Bool
  | .pf _ xs => xs.all noidO
  | .mov x => noidO x
  | .bin _ _ x y => noidO x && noidO y
  | .beq _ x y => noidO x && noidO y
  | .not x => noidO x
  | .conv _ _ x => noidO x
  | .ld _ x => noidO x
  | .st _ x v => noidO x && noidO v
  | .fadr x _ => noidO x
  | .fld x _ _ => noidO x
  | .iadr s i _ => noidO s && noidO i
  | .aadr x i _ _ => noidO x && noidO i
  | .alloc zs => noidL zs
  | .box _ x => noidO x
  | .bld zs ps => noidL zs && ps.all fun p => noidO p.2.2
  | .bsl _ zs _ ps => noidL zs && ps.all fun p => noidO p.2.2
  | .mksl zs _ l c => noidL zs && noidO l && noidO c
  | .len x => noidO x
  | .lens x => noidO x
  | .app _ _ s x => noidO s && noidO x
  | .ext x _ => noidO x
  | .call _ args _ _ => args.all noidO
  | .callv x args _ _ => noidO x && args.all noidO
  | .mkf _ caps => caps.all noidO
  | .nilck x => noidO x
  | .mkm r => (match r with | none => true | some x => noidO x)
  | .look _ _ z m k _ => noid z && noidO m && noidO k
  | .mupd _ m k v => noidO m && noidO k && noidO v
  | .lenm x => noidO x
def noidS : Steps → Bool
  | .nil => true
  | .op _ _ o r => noidOp o && noidS r
  | .chk x r => noidO x && noidS r
  | .grp _ _ inner _ _ px r => noidS inner && noidO px && noidS r
def noidC : IRc → Bool
  | .reg ss next => noidS ss && noidC next
  | .ite c a b => noidO c && noidC a && noidC b
  | .jump _ => true
  | .ret => true
def noidG (G : Pg) : Bool := G.all fun f => f.pieces.all fun p => noidC p.code

section
variable {n : Nat} {σ : Env}
theorem opd_sh {x : Opd} (h : noidO x = true) : opd (shE n σ) x = sh n (opd σ x) := by
  cases x with
  | t m => rfl
  | c v => exact (sh_noid n v h).symm
theorem opds_sh : ∀ {xs : List Opd}, xs.all noidO = true → xs.map (opd (shE n σ)) = (xs.map (opd σ)).map (sh n)
  | [], _ => rfl
  | x :: xs, h => by simp only [List.all_cons, Bool.and_eq_true] at h; simp only [List.map_cons, opd_sh h.1, opds_sh h.2]
end

/-! The casts. -/
section
variable {ρ ρ' : Type} {r : ρ} {r' : ρ'} {n : Nat} {v : AV}
theorem asI_sh {k : IntKind} {κ : Int → Option ρ} {κ' : Int → Option ρ'} (hk : ∀ m, κ m = some r → κ' m = some r') (h : asI k v κ = some r) : asI k (sh n v) κ' = some r' := by
  obtain ⟨m, e, g⟩ := asI_some h; subst e; simp only [sh, asI_eq]; exact hk _ g
theorem asN_sh {κ : Int → Option ρ} {κ' : Int → Option ρ'} (hk : ∀ m, κ m = some r → κ' m = some r') (h : asN v κ = some r) : asN (sh n v) κ' = some r' := by
  obtain ⟨k, m, rfl, h⟩ := asN_some h; simp only [sh, asN]; exact hk _ h
theorem asB_sh {κ : Bool → Option ρ} {κ' : Bool → Option ρ'} (hk : ∀ m, κ m = some r → κ' m = some r') (h : asB v κ = some r) : asB (sh n v) κ' = some r' := by
  obtain ⟨m, rfl, h⟩ := asB_some h; simp only [sh, asB]; exact hk _ h
theorem asStr_sh {κ : ByteArray → Option ρ} {κ' : ByteArray → Option ρ'} (hk : ∀ m, κ m = some r → κ' m = some r') (h : asStr v κ = some r) : asStr (sh n v) κ' = some r' := by
  obtain ⟨m, rfl, h⟩ := asStr_some h; simp only [sh, asStr]; exact hk _ h
theorem asS_sh {κ : Sl → Option ρ} {κ' : Sl → Option ρ'} (hk : ∀ m, κ m = some r → κ' (shS n m) = some r') (h : asS v κ = some r) : asS (sh n v) κ' = some r' := by
  obtain ⟨m, rfl, h⟩ := asS_some h; simp only [sh, asS]; exact hk _ h
theorem asPO_sh {κ : Option Pt → Option ρ} {κ' : Option Pt → Option ρ'} (hk : ∀ m, κ m = some r → κ' (m.map (shP n)) = some r') (h : asPO v κ = some r) : asPO (sh n v) κ' = some r' := by
  obtain ⟨m, rfl, h⟩ := asPO_some h; simp only [sh, asPO]; exact hk _ h
theorem asP_sh {κ : Pt → Option ρ} {κ' : Pt → Option ρ'} (hk : ∀ m, κ m = some r → κ' (shP n m) = some r') (h : asP v κ = some r) : asP (sh n v) κ' = some r' := by
  obtain ⟨m, rfl, h⟩ := asP_some h; simp only [sh, asP, Option.map_some]; exact hk _ h
theorem asM_sh {κ : Option Nat → Option ρ} {κ' : Option Nat → Option ρ'} (hk : ∀ m, κ m = some r → κ' (m.map (· + n)) = some r') (h : asM v κ = some r) : asM (sh n v) κ' = some r' := by
  obtain ⟨m, rfl, h⟩ := asM_some h; simp only [sh, asM]; exact hk _ h
theorem asAgg_sh {κ : List AV → Option ρ} {κ' : List AV → Option ρ'} (hk : ∀ m, κ m = some r → κ' (m.map (sh n)) = some r') (h : asAgg v κ = some r) : asAgg (sh n v) κ' = some r' := by
  obtain ⟨m, rfl, h⟩ := asAgg_some h; simp only [sh, asAgg, shL_map]; exact hk _ h
theorem asTup_sh {κ : List AV → Option ρ} {κ' : List AV → Option ρ'} (hk : ∀ m, κ m = some r → κ' (m.map (sh n)) = some r') (h : asTup v κ = some r) : asTup (sh n v) κ' = some r' := by
  obtain ⟨m, rfl, h⟩ := asTup_some h; simp only [sh, asTup, shL_map]; exact hk _ h
theorem castLf_sh {l : Lf} {κ : AV → Option ρ} {κ' : AV → Option ρ'} (hk : ∀ u, κ u = some r → κ' (sh n u) = some r') (h : castLf l v κ = some r) : castLf l (sh n v) κ' = some r' := by
  cases l <;> simp only [castLf] at h ⊢
  case int k => exact asI_sh (fun m hm => by simpa [sh] using hk _ hm) h
  case bool => exact asB_sh (fun m hm => by simpa [sh] using hk _ hm) h
  case str => exact asStr_sh (fun m hm => by simpa [sh] using hk _ hm) h
  case sl => exact asS_sh (fun m hm => by simpa [sh] using hk _ hm) h
  case ptr => exact asPO_sh (fun m hm => by simpa [sh] using hk _ hm) h
  case map => exact asM_sh (fun m hm => by simpa [sh] using hk _ hm) h
  case any => exact hk _ h
theorem castLfs_sh : ∀ {ls : List Lf} {vs : List AV} {κ : List AV → Option ρ} {κ' : List AV → Option ρ'}, (∀ us, κ us = some r → κ' (us.map (sh n)) = some r') → castLfs ls vs κ = some r → castLfs ls (vs.map (sh n)) κ' = some r'
  | [], [], κ, κ', hk, h => by unfold castLfs at h ⊢; exact hk _ h
  | [], _ :: _, κ, κ', hk, h => by unfold castLfs at h; simp at h
  | _ :: _, [], κ, κ', hk, h => by unfold castLfs at h; simp at h
  | l :: ls, v :: vs, κ, κ', hk, h => by
    unfold castLfs at h ⊢
    exact castLf_sh (fun u hu => castLfs_sh (fun us hus => by simpa using hk _ hus) hu) h
theorem castT1_sh {t : T1} {κ : AV → Option ρ} {κ' : AV → Option ρ'} (hk : ∀ u, κ u = some r → κ' (sh n u) = some r') (h : castT1 t v κ = some r) : castT1 t (sh n v) κ' = some r' := by
  cases t with
  | lf l => exact castLf_sh hk h
  | agg ls => exact asAgg_sh (fun vs hv => castLfs_sh (fun us hus => by simpa [sh, shL_map] using hk _ hus) hv) h
theorem castT1s_sh : ∀ {ls : List T1} {vs : List AV} {κ : List AV → Option ρ} {κ' : List AV → Option ρ'}, (∀ us, κ us = some r → κ' (us.map (sh n)) = some r') → castT1s ls vs κ = some r → castT1s ls (vs.map (sh n)) κ' = some r'
  | [], [], κ, κ', hk, h => by unfold castT1s at h ⊢; exact hk _ h
  | [], _ :: _, κ, κ', hk, h => by unfold castT1s at h; simp at h
  | _ :: _, [], κ, κ', hk, h => by unfold castT1s at h; simp at h
  | l :: ls, v :: vs, κ, κ', hk, h => by
    unfold castT1s at h ⊢
    exact castT1_sh (fun u hu => castT1s_sh (fun us hus => by simpa using hk _ hus) hu) h
theorem castTy_sh {t : Ty} {κ : AV → Option ρ} {κ' : AV → Option ρ'} (hk : ∀ u, κ u = some r → κ' (sh n u) = some r') (h : castTy t v κ = some r) : castTy t (sh n v) κ' = some r' := by
  cases t with
  | one t => exact castT1_sh hk h
  | tup ts => exact asTup_sh (fun vs hv => castT1s_sh (fun us hus => by simpa [sh, shL_map] using hk _ hus) hv) h

theorem cells_sh {H0 H : AH} {b : Nat} {vs : List AV} {sz : Nat} (h : H[b]? = some (.cells vs sz)) : (shH H0 H)[b + H0.length]? = some (.cells (vs.map (sh H0.length)) sz) := by rw [shH_get, h]; rfl
theorem ldc_sh {H0 H : AH} {p : Pt} {κ : AV → Option ρ} {κ' : AV → Option ρ'} (hk : ∀ u, κ u = some r → κ' (sh H0.length u) = some r') (h : ldc H p κ = some r) : ldc (shH H0 H) (shP H0.length p) κ' = some r' := by
  obtain ⟨vs, sz, v, hb, hv, h⟩ := ldc_some h
  have h1 := cells_sh (H0 := H0) hb
  simp only [ldc, shP, h1, List.getElem?_map, hv, Option.map_some]
  exact hk _ h
theorem ldn_sh {H0 H : AH} {p : Pt} {m : Nat} {κ : List AV → Option ρ} {κ' : List AV → Option ρ'} (hk : ∀ us, κ us = some r → κ' (us.map (sh H0.length)) = some r') (h : ldn H p m κ = some r) : ldn (shH H0 H) (shP H0.length p) m κ' = some r' := by
  obtain ⟨vs, sz, hb, hm, h⟩ := ldn_some h
  have h1 := cells_sh (H0 := H0) hb
  simp only [ldn, shP, h1, List.length_map, hm, decide_true, cond_true]
  have := hk _ h
  rwa [List.map_take, List.map_drop] at this
theorem ldT_sh {H0 H : AH} {t : T1} {p : Pt} {κ : AV → Option ρ} {κ' : AV → Option ρ'} (hk : ∀ u, κ u = some r → κ' (sh H0.length u) = some r') (h : ldT H t p κ = some r) : ldT (shH H0 H) t (shP H0.length p) κ' = some r' := by
  cases t with
  | lf l => exact ldc_sh (fun u hu => castLf_sh hk hu) h
  | agg ls =>
    simp only [ldT] at h ⊢
    exact ldn_sh (fun us hus => castLfs_sh (κ' := fun vs' => κ' (.agg vs')) (fun ws hw => by simpa [sh, shL_map] using hk _ hw) hus) h
theorem stc_sh {H0 H : AH} {lo : Nat} {p : Pt} {u : AV} {κ : AH → Option ρ} {κ' : AH → Option ρ'} (hk : ∀ H', κ H' = some r → κ' (shH H0 H') = some r') (h : stc lo H p u κ = some r) : stc (lo + H0.length) (shH H0 H) (shP H0.length p) (sh H0.length u) κ' = some r' := by
  unfold stc at h
  split at h
  · rename_i vs sz hb
    obtain ⟨hc, h⟩ := cond_none h
    simp only [Bool.and_eq_true, decide_eq_true_eq] at hc
    have h1 := cells_sh (H0 := H0) hb
    have e1 : lo + H0.length ≤ p.b + H0.length := by omega
    simp only [stc, shP, h1, List.length_map, e1, hc.2, decide_true, Bool.and_self, cond_true]
    have := hk _ h
    rwa [← shH_set, shB, List.map_set] at this
  · simp at h
theorem overlay_map {α β : Type} (f : α → β) (vs : List α) (o : Nat) (us : List α) : (overlay vs o us).map f = overlay (vs.map f) o (us.map f) := by
  simp [overlay, List.map_take, List.map_drop]
theorem stn_sh {H0 H : AH} {lo : Nat} {p : Pt} {us : List AV} {κ : AH → Option ρ} {κ' : AH → Option ρ'} (hk : ∀ H', κ H' = some r → κ' (shH H0 H') = some r') (h : stn lo H p us κ = some r) : stn (lo + H0.length) (shH H0 H) (shP H0.length p) (us.map (sh H0.length)) κ' = some r' := by
  unfold stn at h
  split at h
  · rename_i vs sz hb
    obtain ⟨hc, h⟩ := cond_none h
    simp only [Bool.and_eq_true, decide_eq_true_eq] at hc
    have h1 := cells_sh (H0 := H0) hb
    have e1 : lo + H0.length ≤ p.b + H0.length := by omega
    simp only [stn, shP, h1, List.length_map, e1, hc.2, decide_true, Bool.and_self, cond_true]
    have := hk _ h
    rwa [← shH_set, shB, overlay_map] at this
  · simp at h
theorem idx_sh {s : Sl} {i : Int} {sz : Nat} {κ : Pt → Option ρ} {κ' : Pt → Option ρ'} (hk : ∀ p, κ p = some r → κ' (shP n p) = some r') (h : idx s i sz κ = some r) : idx (shS n s) i sz κ' = some r' := by
  obtain ⟨p, hp, h0, h1, h⟩ := idx_some h
  rw [idx_eq (p := shP n p) (by simp [shS, hp]) h0 (by simpa [shS] using h1)]
  exact hk _ h
theorem slc_sh {s : Sl} {l m : Int} {sz : Nat} {κ : Sl → Option ρ} {κ' : Sl → Option ρ'} (hk : ∀ s', κ s' = some r → κ' (shS n s') = some r') (h : slc s l m sz κ = some r) : slc (shS n s) l m sz κ' = some r' := by
  unfold slc at h ⊢
  obtain ⟨hc, h⟩ := cond_none h
  have e : (shS n s).len = s.len := rfl
  rw [e, hc]
  simp only [cond_true]
  cases hp : s.p with
  | none => rw [hp] at h; simp only [shS, hp, Option.map_none]; exact hk _ h
  | some p => rw [hp] at h; simp only [shS, hp, Option.map_some]; exact hk _ h
theorem single_sh : ∀ v : AV, single (sh n v) = single v := fun v => by cases v <;> simp [sh, single]
theorem singles_sh : ∀ l : List AV, singles (l.map (sh n)) = singles l
  | [] => rfl
  | v :: l => by simp only [List.map_cons, singles, single_sh, singles_sh l]
theorem known_sh : ∀ v : AV, known (sh n v) = known v := fun v => by cases v <;> simp [sh, known]
theorem cellsV_sh : ∀ v : AV, cellsV (sh n v) = (cellsV v).map (sh n) := fun v => by cases v <;> simp [sh, cellsV, shL_map]
theorem fillP_sh {σ : Env} : ∀ {ps : List (Nat × Nat × Opd)} {zs : List AV} {κ : List AV → Option ρ} {κ' : List AV → Option ρ'}, (ps.all fun p => noidO p.2.2) = true → (∀ us, κ us = some r → κ' (us.map (sh n)) = some r') → fillP σ zs ps κ = some r → fillP (shE n σ) (zs.map (sh n)) ps κ' = some r'
  | [], zs, κ, κ', _, hk, h => by unfold fillP at h ⊢; exact hk _ h
  | (o, m, x) :: ps, zs, κ, κ', hn, hk, h => by
    simp only [List.all_cons, Bool.and_eq_true] at hn
    unfold fillP at h ⊢
    obtain ⟨hc, h⟩ := cond_none h
    rw [opd_sh hn.1, known_sh, cellsV_sh, List.length_map, List.length_map, hc, cond_true, ← overlay_map]
    exact fillP_sh hn.2 hk h
theorem alc_sh {H0 H : AH} {zs : List AV} {κ : Pt → AH → Option ρ} {κ' : Pt → AH → Option ρ'} (hk : ∀ p H', κ p H' = some r → κ' (shP H0.length p) (shH H0 H') = some r') (h : alc H zs κ = some r) : alc (shH H0 H) (zs.map (sh H0.length)) κ' = some r' := by
  have := hk _ _ h
  simpa only [alc, shP, shH_len, ← shH_snoc, shB, List.length_map] using this
theorem mkb_sh {H0 H : AH} {zs : List AV} {sz len : Nat} {κ : Sl → AH → Option ρ} {κ' : Sl → AH → Option ρ'} (hk : ∀ p H', κ p H' = some r → κ' (shS H0.length p) (shH H0 H') = some r') (h : mkb H zs sz len κ = some r) : mkb (shH H0 H) (zs.map (sh H0.length)) sz len κ' = some r' := by
  have := hk _ _ h
  simpa only [mkb, shS, shP, Option.map_some, shH_len, ← shH_snoc, shB] using this
theorem mks_sh {H0 H : AH} {zs : List AV} {bytes : Nat} {l c : Int} {κ : Sl → AH → Option ρ} {κ' : Sl → AH → Option ρ'} (hk : ∀ p H', κ p H' = some r → κ' (shS H0.length p) (shH H0 H') = some r') (h : mks H zs bytes l c κ = some r) : mks (shH H0 H) (zs.map (sh H0.length)) bytes l c κ' = some r' := by
  unfold mks at h ⊢
  obtain ⟨hc, h⟩ := cond_none h
  rw [hc, cond_true]
  have := hk _ _ h
  simpa only [shS, shP, Option.map_some, shH_len, ← shH_snoc, shB, List.length_map, List.map_flatten, List.map_replicate] using this
theorem app_sh {H0 H : AH} {lo : Nat} {s : Sl} {sz bytes : Nat} {us : List AV} {m : Nat} {κ : Sl → AH → Option ρ} {κ' : Sl → AH → Option ρ'} (hk : ∀ p H', κ p H' = some r → κ' (shS H0.length p) (shH H0 H') = some r') (h : app lo H s sz bytes us m κ = some r) :
    app (lo + H0.length) (shH H0 H) (shS H0.length s) sz bytes (us.map (sh H0.length)) m κ' = some r' := by
  unfold app at h ⊢
  by_cases hm : m = 0
  · simp only [hm, decide_true, cond_true] at h ⊢; exact hk _ _ h
  · simp only [hm, decide_false, cond_false] at h ⊢
    obtain ⟨hc, h⟩ := cond_none h
    have e : (shS H0.length s).len = s.len := rfl
    rw [e, List.length_map, singles_sh, hc, cond_true]
    cases hp : s.p with
    | none =>
      rw [hp] at h
      simp only [shS, hp, Option.map_none] at h ⊢
      obtain ⟨hc2, h⟩ := cond_none h
      rw [hc2, cond_true]
      have := hk _ _ h
      simpa only [shS, shP, Option.map_some, shH_len, ← shH_snoc, shB] using this
    | some p =>
      rw [hp] at h
      simp only at h
      split at h
      · rename_i vs sz' hb
        obtain ⟨hc2, h⟩ := cond_none h
        simp only [Bool.and_eq_true, decide_eq_true_eq] at hc2
        have h1 := cells_sh (H0 := H0) hb
        have e1 : lo + H0.length ≤ p.b + H0.length := by omega
        simp only [shS, hp, Option.map_some, shP, h1, List.length_map, e1, hc2.1.2, hc2.2, decide_true, Bool.and_self, cond_true]
        have := hk _ _ h
        have e3 : (shH H0 H).set (p.b + H0.length) .dead = shH H0 (H.set p.b .dead) := shH_set (x := .dead)
        rw [e3]
        have hl : (H.set p.b .dead).length = H.length := List.length_set ..
        simpa only [shS, shP, Option.map_some, shH_len, ← shH_snoc, shB, List.map_append, List.map_take, List.map_drop, hl, hc2.1.2] using this
      · simp at h
theorem appS_sh {H0 H : AH} {lo : Nat} {s y : Sl} {sz bytes : Nat} {κ : Sl → AH → Option ρ} {κ' : Sl → AH → Option ρ'} (hk : ∀ p H', κ p H' = some r → κ' (shS H0.length p) (shH H0 H') = some r') (h : appS lo H s y sz bytes κ = some r) :
    appS (lo + H0.length) (shH H0 H) (shS H0.length s) (shS H0.length y) sz bytes κ' = some r' := by
  unfold appS at h ⊢
  cases hp : y.p with
  | none =>
    rw [hp] at h
    simp only [shS, hp, Option.map_none] at h ⊢
    obtain ⟨hc, h⟩ := cond_none h
    rw [hc, cond_true]; exact hk _ _ h
  | some q =>
    rw [hp] at h
    simp only [shS, hp, Option.map_some] at h ⊢
    exact ldn_sh (fun us hus => app_sh hk hus) h
theorem sameK_sh {st : Bool} (k k' : AV) : sameK st (sh n k) (sh n k') = sameK st k k' := by
  cases k <;> cases k' <;> simp [sh, sameK]
theorem findM_sh {st : Bool} {k : AV} : ∀ (es : List (AV × AV)) (i : Nat), findM st (sh n k) (es.map fun p => (sh n p.1, sh n p.2)) i = (findM st k es i).map fun q => q.map fun p => (p.1, sh n p.2)
  | [], i => rfl
  | e :: es, i => by
    simp only [List.map_cons, findM, sameK_sh]
    cases h : sameK st k e.1 with
    | none => rfl
    | some b => cases b with
      | true => rfl
      | false => exact findM_sh es (i + 1)
theorem entries_sh {H0 H : AH} {m : Option Nat} {κ : List (AV × AV) → Option ρ} {κ' : List (AV × AV) → Option ρ'} (hk : ∀ es, κ es = some r → κ' (es.map fun p => (sh H0.length p.1, sh H0.length p.2)) = some r') (h : entries H m κ = some r) : entries (shH H0 H) (m.map (· + H0.length)) κ' = some r' := by
  obtain ⟨es, h1, h⟩ := entries_some h
  have := hk _ h
  rcases h1 with ⟨rfl, rfl⟩ | ⟨b, rfl, hb⟩
  · exact this
  · have h2 : (shH H0 H)[b + H0.length]? = some (.map (es.map fun p => (sh H0.length p.1, sh H0.length p.2))) := by rw [shH_get, hb]; rfl
    simp only [Option.map_some, entries, h2]; exact this
theorem mlook_sh {H0 H : AH} {st : Bool} {m : Option Nat} {k : AV} {κ : Option AV → Option ρ} {κ' : Option AV → Option ρ'} (hk : ∀ q, κ q = some r → κ' (q.map (sh H0.length)) = some r') (h : mlook st H m k κ = some r) : mlook st (shH H0 H) (m.map (· + H0.length)) (sh H0.length k) κ' = some r' := by
  refine entries_sh (fun es hes => ?_) h
  rw [findM_sh]
  split at hes
  · rename_i q hq
    have := hk _ hes
    rw [hq]
    cases q <;> simpa using this
  · simp at hes
theorem mput_sh {H0 H : AH} {st : Bool} {lo : Nat} {m : Option Nat} {k v : AV} {κ : AH → Option ρ} {κ' : AH → Option ρ'} (hk : ∀ H', κ H' = some r → κ' (shH H0 H') = some r') (h : mput st lo H m k v κ = some r) : mput st (lo + H0.length) (shH H0 H) (m.map (· + H0.length)) (sh H0.length k) (sh H0.length v) κ' = some r' := by
  obtain ⟨b, es, q, rfl, hb, hlo, hq, _, h⟩ := mput_some h
  have h2 : (shH H0 H)[b + H0.length]? = some (.map (es.map fun p => (sh H0.length p.1, sh H0.length p.2))) := by rw [shH_get, hb]; rfl
  have e1 : lo + H0.length ≤ b + H0.length := by omega
  have := hk _ h
  simp only [Option.map_some, mput, h2, e1, decide_true, cond_true, findM_sh, hq]
  cases q with
  | none => simpa only [Option.map_none, ← shH_set, shB, List.map_append, List.map_cons, List.map_nil] using this
  | some p => simpa only [Option.map_some, ← shH_set, shB, List.map_set] using this
theorem evPF_sh {f : PF} {xs : List AV} {κ : AV → Option ρ} {κ' : AV → Option ρ'} (hk : ∀ u, κ u = some r → κ' (sh n u) = some r') (h : evPF f xs κ = some r) : evPF f (xs.map (sh n)) κ' = some r' := by
  cases f <;> simp only [evPF] at h ⊢
  case bits op k => split at h <;> (try simp only [List.map_cons, List.map_nil]) <;> first | exact asI_sh (fun a ha => asI_sh (fun b hb => by simpa [sh] using hk _ hb) ha) h | simp at h
  case shf op k k' => split at h <;> (try simp only [List.map_cons, List.map_nil]) <;> first | exact asI_sh (fun a ha => asI_sh (fun b hb => by obtain ⟨hc, hb⟩ := cond_none' hb; rw [hc, cond_false]; simpa [sh] using hk _ hb) ha) h | simp at h
  case mx k => split at h <;> (try simp only [List.map_cons, List.map_nil]) <;> first | exact asI_sh (fun a ha => asI_sh (fun b hb => by simpa [sh] using hk _ hb) ha) h | simp at h
  case mn k => split at h <;> (try simp only [List.map_cons, List.map_nil]) <;> first | exact asI_sh (fun a ha => asI_sh (fun b hb => by simpa [sh] using hk _ hb) ha) h | simp at h
  case slc sz =>
    split at h <;> (try simp only [List.map_cons, List.map_nil])
    · exact asS_sh (fun s hs => asN_sh (fun l hl => slc_sh (fun s' hs' => by simpa [sh] using hk _ hs') hl) hs) h
    · exact asS_sh (fun s hs => asN_sh (fun l hl => asN_sh (fun m hm => slc_sh (fun s' hs' => by simpa [sh] using hk _ hs') hm) hl) hs) h
    · simp at h
  case stx =>
    split at h <;> (try simp only [List.map_cons, List.map_nil])
    · refine asStr_sh (fun s hs => asN_sh (fun i hi => ?_) hs) h
      unfold stx at hi ⊢
      split at hi
      · rename_i b hb; simpa [hb, sh] using hk _ hi
      · simp at hi
    · simp at h
  case sts =>
    split at h <;> (try simp only [List.map_cons, List.map_nil])
    · refine asStr_sh (fun s hs => asN_sh (fun l hl => ?_) hs) h
      unfold sts at hl ⊢
      obtain ⟨hc, hl⟩ := cond_none hl
      rw [hc, cond_true]; simpa [sh] using hk _ hl
    · refine asStr_sh (fun s hs => asN_sh (fun l hl => asN_sh (fun m hm => ?_) hl) hs) h
      unfold sts at hm ⊢
      obtain ⟨hc, hm⟩ := cond_none hm
      rw [hc, cond_true]; simpa [sh] using hk _ hm
    · simp at h
  case sop op =>
    split at h <;> (try simp only [List.map_cons, List.map_nil])
    · refine asStr_sh (fun s hs => asStr_sh (fun t ht => ?_) hs) h
      cases op <;> simp only [sopS] at ht ⊢ <;> first
        | (simpa [sh] using hk _ ht)
        | (unfold stc2 at ht ⊢
           obtain ⟨hc, ht⟩ := cond_none ht
           rw [hc, cond_true]; simpa [sh] using hk _ ht)
        | (simp at ht)
    · simp at h
  case pnil neg =>
    split at h <;> (try simp only [List.map_cons, List.map_nil])
    · exact asPO_sh (fun p hp => by simpa [sh] using hk _ hp) h
    · simp at h
end

/-- A call may be moved. -/
def CallSh (H0 : AH) (call call' : CallT) : Prop := ∀ (ρ ρ' : Type) (r : ρ) (r' : ρ') (g : Nat) (args : List AV) (lo : Nat) (H : AH) (κ : AV → AH → Option ρ) (κ' : AV → AH → Option ρ'),
  (∀ v H', κ v H' = some r → κ' (sh H0.length v) (shH H0 H') = some r') → call ρ g args lo H κ = some r → call' ρ' g (args.map (sh H0.length)) (lo + H0.length) (shH H0 H) κ' = some r'

theorem evOp_sh {H0 : AH} {call call' : CallT} (hC : CallSh H0 call call') {ρ ρ' : Type} {r : ρ} {r' : ρ'} {lo : Nat} {io : IOp} {σ : Env} {H : AH} {κ : AV → AH → Option ρ} {κ' : AV → AH → Option ρ'} (hn : noidOp io = true)
    (hk : ∀ v H', κ v H' = some r → κ' (sh H0.length v) (shH H0 H') = some r') (h : evOp call lo io σ H κ = some r) : evOp call' (lo + H0.length) io (shE H0.length σ) (shH H0 H) κ' = some r' := by
  cases io <;> simp only [noidOp, Bool.and_eq_true] at hn <;> simp only [evOp] at h ⊢
  case pf f xs => rw [opds_sh hn]; exact evPF_sh (fun u hu => hk _ _ hu) h
  case mov x => rw [opd_sh hn]; exact hk _ _ h
  case bin op k x y =>
    rw [opd_sh hn.1, opd_sh hn.2]
    refine asI_sh (fun a ha => asI_sh (fun b hb => ?_) ha) h
    cases op <;> simp only [binI] at hb ⊢ <;> first
      | (simpa [sh] using hk _ _ hb)
      | (obtain ⟨hc, hb⟩ := cond_none' hb; rw [hc, cond_false]; simpa [sh] using hk _ _ hb)
      | (simp at hb)
  case beq neg x y =>
    rw [opd_sh hn.1, opd_sh hn.2]
    exact asB_sh (fun a ha => asB_sh (fun b hb => by simpa [sh] using hk _ _ hb) ha) h
  case not x => rw [opd_sh hn]; exact asB_sh (fun a ha => by simpa [sh] using hk _ _ ha) h
  case conv k k' x => rw [opd_sh hn]; exact asI_sh (fun a ha => by simpa [sh] using hk _ _ ha) h
  case ld t x => rw [opd_sh hn]; exact asP_sh (fun p hp => ldT_sh (fun v hv => hk _ _ hv) hp) h
  case st m x v =>
    rw [opd_sh hn.1, opd_sh hn.2]
    refine asP_sh (fun p hp => ?_) h
    cases m with
    | none =>
      simp only at hp ⊢
      obtain ⟨hc, hp⟩ := cond_none hp
      rw [single_sh, hc, cond_true]
      exact stc_sh (fun H' hH => by simpa [sh, shL] using hk _ _ hH) hp
    | some m =>
      simp only at hp ⊢
      refine asAgg_sh (fun us hus => ?_) hp
      obtain ⟨hc, hus⟩ := cond_none hus
      rw [List.length_map, singles_sh, hc, cond_true]
      exact stn_sh (fun H' hH => by simpa [sh, shL] using hk _ _ hH) hus
  case fadr x off => rw [opd_sh hn]; exact asP_sh (fun p hp => by simpa [sh, shP] using hk _ _ hp) h
  case fld x off m =>
    rw [opd_sh hn]
    refine asAgg_sh (fun vs hvs => ?_) h
    cases m with
    | none =>
      simp only at hvs ⊢
      split at hvs
      · rename_i v hv; rw [List.getElem?_map, hv]; exact hk _ _ hvs
      · simp at hvs
    | some m =>
      simp only at hvs ⊢
      obtain ⟨hc, hvs⟩ := cond_none hvs
      rw [List.length_map, hc, cond_true]
      simpa [sh, shL_map, List.map_take, List.map_drop] using hk _ _ hvs
  case iadr s i sz =>
    rw [opd_sh hn.1, opd_sh hn.2]
    exact asS_sh (fun s hs => asN_sh (fun i hi => idx_sh (fun p hp => by simpa [sh] using hk _ _ hp) hi) hs) h
  case aadr x i len sz =>
    rw [opd_sh hn.1, opd_sh hn.2]
    refine asP_sh (fun p hp => asN_sh (fun i hi => ?_) hp) h
    obtain ⟨hc, hi⟩ := cond_none hi
    rw [hc, cond_true]; simpa [sh, shP] using hk _ _ hi
  case alloc zs =>
    have := alc_sh (H0 := H0) (κ' := fun p H' => κ' (.ptr (some p)) H') (fun p H' hp => by simpa [sh] using hk _ _ hp) h
    rw [← shL_map, shL_noid _ _ hn] at this; exact this
  case box m x =>
    rw [opd_sh hn]
    obtain ⟨hc, h⟩ := cond_none h
    rw [known_sh, cellsV_sh, List.length_map, singles_sh, hc, cond_true]
    exact alc_sh (κ' := fun p H' => κ' (.ptr (some p)) H') (fun p H' hp => by simpa [sh] using hk _ _ hp) h
  case bld zs ps =>
    have := fillP_sh (n := H0.length) (κ' := fun cs => κ' (.agg cs) (shH H0 H)) hn.2 (fun us hus => by simpa [sh, shL_map] using hk _ _ hus) h
    rw [← shL_map, shL_noid _ _ hn.1] at this; exact this
  case bsl sz zs len ps =>
    have := fillP_sh (n := H0.length) (κ' := fun cs => bif singles cs then mkb (shH H0 H) cs sz len fun s H' => κ' (.sl s) H' else none) hn.2 (fun us hus => by
      obtain ⟨hc, hus⟩ := cond_none hus
      simp only [singles_sh, hc, cond_true]
      exact mkb_sh (κ' := fun s H' => κ' (.sl s) H') (fun p H' hp => by simpa [sh] using hk _ _ hp) hus) h
    rw [← shL_map, shL_noid _ _ hn.1] at this; exact this
  case mksl zs bytes l c =>
    rw [opd_sh hn.1.2, opd_sh hn.2]
    refine asI_sh (fun l hl => asI_sh (fun c hc => ?_) hl) h
    have := mks_sh (H0 := H0) (κ' := fun s H' => κ' (.sl s) H') (fun p H' hp => by simpa [sh] using hk _ _ hp) hc
    rw [← shL_map, shL_noid _ _ hn.1.1] at this; exact this
  case len x => rw [opd_sh hn]; exact asS_sh (fun s hs => by simpa [sh, shS] using hk _ _ hs) h
  case lens x => rw [opd_sh hn]; exact asStr_sh (fun s hs => by simpa [sh] using hk _ _ hs) h
  case app sz bytes s x =>
    rw [opd_sh hn.1, opd_sh hn.2]
    exact asS_sh (fun s hs => asS_sh (fun y hy => appS_sh (fun p H' hp => by simpa [sh] using hk _ _ hp) hy) hs) h
  case ext x i =>
    rw [opd_sh hn]
    refine asTup_sh (fun l hl => ?_) h
    split at hl
    · rename_i v hv; rw [List.getElem?_map, hv]; exact hk _ _ hl
    · simp at hl
  case call g args fresh rt =>
    rw [opds_sh hn]
    have := hC _ _ r r' _ _ _ _ _ (fun v H' => castTy rt v fun v' => κ' v' H') (fun v H' hv => castTy_sh (fun u hu => hk _ _ hu) hv) h
    cases fresh
    · exact this
    · simpa only [cond_true, shH_len] using this
  case callv x args fresh rt =>
    rw [opds_sh hn.2, opd_sh hn.1]
    split at h
    · rename_i g caps hx
      rw [hx]
      simp only [sh, shL_map]
      rw [← List.map_append]
      have := hC _ _ r r' _ _ _ _ _ (fun v H' => castTy rt v fun v' => κ' v' H') (fun v H' hv => castTy_sh (fun u hu => hk _ _ hu) hv) h
      cases fresh
      · exact this
      · simpa only [cond_true, shH_len] using this
    · simp at h
  case mkf g caps => rw [opds_sh hn]; simpa [sh, shL_map] using hk _ _ h
  case nilck x => rw [opd_sh hn]; exact asP_sh (fun p hp => by simpa [sh] using hk _ _ hp) h
  case mkm r0 =>
    cases r0 with
    | none =>
      have := hk _ _ h
      simpa only [sh, Option.map_some, shH_len, ← shH_snoc, shB, List.map_nil] using this
    | some x =>
      simp only at hn h ⊢
      rw [opd_sh hn]
      refine asI_sh (fun m hm => ?_) h
      have := hk _ _ hm
      simpa only [sh, Option.map_some, shH_len, ← shH_snoc, shB, List.map_nil] using this
  case look st l z m k ok =>
    rw [opd_sh hn.1.2, opd_sh hn.2]
    refine asM_sh (fun m hm => mlook_sh (fun q hq => ?_) hm) h
    have e : (q.map (sh H0.length)).getD z = sh H0.length (q.getD z) := by cases q with | none => exact (sh_noid _ _ hn.1.1).symm | some q => rfl
    rw [e]
    refine castLf_sh (fun u hu => ?_) hq
    have := hk _ _ hu
    cases ok <;> simpa [sh, shL] using this
  case mupd st m k v =>
    rw [opd_sh hn.1.1, opd_sh hn.1.2, opd_sh hn.2]
    exact asM_sh (fun m hm => mput_sh (fun H' hH => by simpa [sh, shL] using hk _ _ hH) hm) h
  case lenm x =>
    rw [opd_sh hn]
    refine asM_sh (fun m hm => entries_sh (fun es hes => ?_) hm) h
    simpa [sh] using hk _ _ hes

theorem aliveB_sh {H0 H : AH} {v : AV} : aliveB (shH H0 H) (sh H0.length v) = aliveB H v := by
  cases v <;> simp [sh, aliveB]
  rename_i p
  cases p with
  | none => rfl
  | some p =>
    simp only [Option.map_some, shP, shH_get]
    cases h : H[p.b]? with
    | none => rfl
    | some b => cases b <;> rfl
theorem evS_sh {H0 : AH} {call call' : CallT} (hC : CallSh H0 call call') {lo : Nat} : ∀ (ss : Steps) {ρ ρ' : Type} {r : ρ} {r' : ρ'} {σ : Env} {H : AH} {κ : Env → AH → Option ρ} {κ' : Env → AH → Option ρ'}, noidS ss = true →
    (∀ σ' H', κ σ' H' = some r → κ' (shE H0.length σ') (shH H0 H') = some r') → evS call lo ss ρ σ H κ = some r → evS call' (lo + H0.length) ss ρ' (shE H0.length σ) (shH H0 H) κ' = some r'
  | .nil, ρ, ρ', r, r', σ, H, κ, κ', _, hk, h => by simp only [evS] at h ⊢; exact hk _ _ h
  | .op i d o rest, ρ, ρ', r, r', σ, H, κ, κ', hn, hk, h => by
    simp only [noidS, Bool.and_eq_true] at hn
    simp only [evS] at h ⊢
    refine evOp_sh hC hn.1 (fun v H' hv => ?_) h
    rw [← shE_putO]
    exact evS_sh hC rest hn.2 hk hv
  | .chk x rest, ρ, ρ', r, r', σ, H, κ, κ', hn, hk, h => by
    simp only [noidS, Bool.and_eq_true] at hn
    simp only [evS] at h ⊢
    obtain ⟨hc, h⟩ := cond_none h
    rw [opd_sh hn.1, aliveB_sh, hc, cond_true]
    exact evS_sh hC rest hn.2 hk h
  | .grp gt want inner i pd px rest, ρ, ρ', r, r', σ, H, κ, κ', hn, hk, h => by
    simp only [noidS, Bool.and_eq_true] at hn
    simp only [evS] at h ⊢
    refine asB_sh (v := σ gt) (fun g hg => ?_) h
    rw [Option.bind_eq_some_iff] at hg ⊢
    obtain ⟨⟨b, H1⟩, h1, h2⟩ := hg
    refine ⟨(b, shH H0 H1), ?_, ?_⟩
    · cases hb : (bif want then g else !g)
      · rw [hb] at h1
        simp only [cond_false, Option.some.injEq, Prod.mk.injEq] at h1
        obtain ⟨rfl, rfl⟩ := h1
        rfl
      · rw [hb] at h1
        simp only [cond_true] at h1 ⊢
        refine evS_sh hC inner hn.1.1 (r := (b, H1)) (r' := (b, shH H0 H1)) (fun σ' H' hs => ?_) h1
        rw [opd_sh hn.1.2]
        refine asB_sh (fun c hc => ?_) hs
        simp only [Option.some.injEq, Prod.mk.injEq] at hc
        obtain ⟨rfl, rfl⟩ := hc
        rfl
    · have := evS_sh hC rest hn.2 hk h2
      rw [shE_put, shE_forget] at this
      simpa [sh] using this
theorem evRV_sh {H0 : AH} {rv : RV} {ρ ρ' : Type} {r : ρ} {r' : ρ'} {σ : Env} {H : AH} {κ : AV → Option ρ} {κ' : AV → Option ρ'} (hk : ∀ v, κ v = some r → κ' (sh H0.length v) = some r') (h : evRV rv σ H κ = some r) : evRV rv (shE H0.length σ) (shH H0 H) κ' = some r' := by
  cases rv with
  | tmp t => exact hk _ h
  | cell t ty => exact asP_sh (v := σ t) (fun p hp => ldT_sh hk hp) h
theorem evRVs_sh {H0 : AH} {ρ ρ' : Type} {r : ρ} {r' : ρ'} {σ : Env} {H : AH} : ∀ {rs : List RV} {κ : List AV → Option ρ} {κ' : List AV → Option ρ'}, (∀ vs, κ vs = some r → κ' (vs.map (sh H0.length)) = some r') → evRVs rs σ H κ = some r → evRVs rs (shE H0.length σ) (shH H0 H) κ' = some r'
  | [], κ, κ', hk, h => by unfold evRVs at h ⊢; exact hk _ h
  | rv :: rs, κ, κ', hk, h => by
    unfold evRVs at h ⊢
    exact evRV_sh (fun v hv => evRVs_sh (fun vs hvs => by simpa using hk _ hvs) hv) h
theorem evRes_sh {H0 : AH} {rs : List RV} {ρ ρ' : Type} {r : ρ} {r' : ρ'} {σ : Env} {H : AH} {κ : AV → AH → Option ρ} {κ' : AV → AH → Option ρ'} (hk : ∀ v H', κ v H' = some r → κ' (sh H0.length v) (shH H0 H') = some r') (h : evRes rs σ H κ = some r) : evRes rs (shE H0.length σ) (shH H0 H) κ' = some r' := by
  unfold evRes at h ⊢
  split at h
  · exact evRV_sh (fun v hv => hk _ _ hv) h
  · exact evRVs_sh (fun vs hvs => by simpa [sh, shL_map] using hk _ _ hvs) h
theorem evC_sh {H0 : AH} {call call' : CallT} (hC : CallSh H0 call call') {ρ ρ' : Type} {r : ρ} {r' : ρ'} {lo : Nat} {sigs : Nat → List Nat} {res : List RV} {jmp : Nat → List AV → AH → Option ρ} {jmp' : Nat → List AV → AH → Option ρ'} {κ : AV → AH → Option ρ} {κ' : AV → AH → Option ρ'}
    (hk : ∀ v H', κ v H' = some r → κ' (sh H0.length v) (shH H0 H') = some r') (hj : ∀ j args H', jmp j args H' = some r → jmp' j (args.map (sh H0.length)) (shH H0 H') = some r') :
    ∀ (c : IRc) (σ : Env) (H : AH), noidC c = true → evC call jmp sigs res lo κ c σ H = some r → evC call' jmp' sigs res (lo + H0.length) κ' c (shE H0.length σ) (shH H0 H) = some r'
  | .reg ss next, σ, H, hn, h => by
    simp only [noidC, Bool.and_eq_true] at hn
    simp only [evC] at h ⊢
    exact evS_sh hC ss hn.1 (fun σ' H' hs => evC_sh hC hk hj next σ' H' hn.2 hs) h
  | .ite c a b, σ, H, hn, h => by
    simp only [noidC, Bool.and_eq_true] at hn
    simp only [evC] at h ⊢
    rw [opd_sh hn.1.1]
    refine asB_sh (fun t ht => ?_) h
    cases t
    · exact evC_sh hC hk hj b σ H hn.2 ht
    · exact evC_sh hC hk hj a σ H hn.1.2 ht
  | .jump j, σ, H, _, h => by
    simp only [evC] at h ⊢
    have := hj _ _ _ h
    rwa [List.map_map] at this
  | .ret, σ, H, _, h => by
    simp only [evC] at h ⊢
    exact evRes_sh hk h
theorem run_sh {G : Pg} (hG : noidG G = true) (H0 : AH) : ∀ (k m : Nat) (ρ ρ' : Type) (r : ρ) (r' : ρ') (f j : Nat) (args : List AV) (lo : Nat) (H : AH) (κ : AV → AH → Option ρ) (κ' : AV → AH → Option ρ'),
    (∀ v H', κ v H' = some r → κ' (sh H0.length v) (shH H0 H') = some r') → run G k ρ f j args lo H κ = some r → run G (k + m) ρ' f j (args.map (sh H0.length)) (lo + H0.length) (shH H0 H) κ' = some r'
  | 0, m, ρ, ρ', r, r', f, j, args, lo, H, κ, κ', _, h => by simp [run] at h
  | k + 1, m, ρ, ρ', r, r', f, j, args, lo, H, κ, κ', hk, h => by
    rw [show k + 1 + m = (k + m) + 1 by omega]
    unfold run at h ⊢
    split at h
    · simp at h
    · rename_i fn hf
      split at h
      · simp at h
      · rename_i pc hp
        obtain ⟨hc, h⟩ := cond_none h
        have hno : noidC pc.code = true := by
          unfold noidG at hG
          rw [List.all_eq_true] at hG
          have h1 := hG fn (List.mem_of_getElem? hf)
          rw [List.all_eq_true] at h1
          exact h1 pc (List.mem_of_getElem? hp)
        simp only [hf, hp, List.length_map, hc, cond_true]
        rw [← shE_envOf]
        exact evC_sh (fun ρ ρ' r r' g args lo H κ κ' hk h => run_sh hG H0 k m ρ ρ' r r' g 0 args lo H κ κ' hk h) hk (fun j args H' hj => run_sh hG H0 k m ρ ρ' r r' f j args lo H' κ κ' hk hj) pc.code _ H hno h
/-- WHAT IS COMPUTED IN AN EMPTY MEMORY HOLDS IN ANY, with that many rounds or more: for functions without parameters. -/
theorem run_any {G : Pg} (hG : noidG G = true) {k g : Nat} {v : AV} {H1 : AH} (h : run G k PV g 0 [] 0 [] pr = some (v, H1)) (H : AH) : ∀ k', k ≤ k' → ∀ (ρ : Type) (κ : AV → AH → Option ρ), run G k' ρ g 0 [] H.length H κ = κ (sh H.length v) (shH H H1) := by
  intro k' hk' ρ κ
  obtain ⟨m, rfl⟩ : ∃ m, k' = k + m := ⟨k' - k, by omega⟩
  have := run_sh hG H k m PV PV (v, H1) (sh H.length v, shH H H1) g 0 [] 0 [] pr pr (fun u H' hu => by obtain ⟨rfl, rfl⟩ := pr_inj hu; rfl) h
  simp only [List.map_nil, Nat.zero_add] at this
  have e : shH H [] = H := by simp [shH]
  rw [e] at this
  obtain ⟨v', H', h1, h2⟩ := run_split G (k + m) PV g 0 [] H.length H pr _ this
  obtain ⟨rfl, rfl⟩ := pr_inj h2
  exact h1 ρ κ
/-- .. as the calculus says it, of a function that answers a bool. -/
theorem ev_any {G : Pg} (hG : noidG G = true) {k g : Nat} {b : Bool} {H1 : AH} (h : run G k PV g 0 [] 0 [] pr = some (.bool b, H1)) (H : AH) : Ev (fun ρ k κ => run G k ρ g 0 [] H.length H fun v H' => asB v fun b => κ b H') (fun c _ => c = b) :=
  ⟨b, shH H H1, rfl, k, fun k' hk' ρ κ => by
    show run G k' ρ g 0 [] H.length H _ = _
    rw [run_any hG h H k' hk']; simp [sh, asB]⟩
/-- Did it answer true? -/
def saysT : Option PV → Bool
  | some (.bool b, _) => b
  | _ => false
theorem saysT_some {x : Option PV} (h : saysT x = true) : ∃ H1, x = some (.bool true, H1) := by
  unfold saysT at h
  split at h
  · subst h; exact ⟨_, rfl⟩
  · cases h
theorem ev_awake {G : Pg} (hG : noidG G = true) {k g : Nat} (h : saysT (run G k PV g 0 [] 0 [] pr) = true) (H : AH) : Ev (fun ρ k κ => run G k ρ g 0 [] H.length H fun v H' => asB v fun b => κ b H') (fun c _ => c = true) := by
  obtain ⟨H1, h⟩ := saysT_some h
  exact ev_any hG h H
end Go.Ab

/- Finite semigroups as tables: drawers, powers, index and period, idempotents. Plain lemmas. No condition. -/
set_option linter.unusedVariables false
set_option linter.unusedSimpArgs false
set_option linter.unusedSectionVars false
namespace Go.Ab
open Go

theorem filter_ne_len {α : Type} [DecidableEq α] {l : List α} (hl : l.Nodup) (a : α) : l.length ≤ (l.filter (fun b => decide (b ≠ a))).length + 1 := by
  induction l with
  | nil => simp
  | cons b l ih =>
    rw [List.nodup_cons] at hl
    have := ih hl.2
    by_cases hb : b = a
    · have hf : l.filter (fun b => decide (b ≠ a)) = l := by
        rw [List.filter_eq_self]
        intro c hc
        simp
        rintro rfl
        exact hl.1 (hb ▸ hc)
      rw [List.filter_cons, if_neg (by simp [hb]), hf]
      simp
    · rw [List.filter_cons, if_pos (by simp [hb])]
      simp only [List.length_cons]
      omega
/-- Drawers. -/
theorem drawers {l : List Int} (hl : l.Nodup) {n : Nat} (h : ∀ x ∈ l, 0 ≤ x ∧ x < n) : l.length ≤ n := by
  induction n generalizing l with
  | zero =>
    cases l with
    | nil => simp
    | cons a l => have := h a (by simp); omega
  | succ n ih =>
    have h1 := filter_ne_len hl (n : Int)
    have h2 : (l.filter (fun b => decide (b ≠ (n : Int)))).length ≤ n := by
      refine ih (hl.filter _) (fun x hx => ?_)
      rw [List.mem_filter] at hx
      have := h x hx.1
      have : x ≠ n := by simpa using hx.2
      omega
    omega
theorem nodup_map {f : Nat → Int} {m : Nat} (h : ∀ i j, i < m → j < m → f i = f j → i = j) : ((List.range m).map f).Nodup := by
  induction m with
  | zero => simp
  | succ m ih =>
    rw [List.range_succ, List.map_append, List.nodup_append]
    refine ⟨ih (fun i j a b => h i j (by omega) (by omega)), by simp, ?_⟩
    intro a ha b hb hab
    simp only [List.mem_map, List.mem_range] at ha
    obtain ⟨i, hi, rfl⟩ := ha
    simp only [List.map_cons, List.map_nil, List.mem_singleton] at hb
    have := h i m (by omega) (by omega) (by rw [hab, hb])
    omega
theorem meet {f : Nat → Int} {n : Nat} (h : ∀ i, i ≤ n → 0 ≤ f i ∧ f i < n) : ∃ i j, i < j ∧ j ≤ n ∧ f i = f j := by
  refine Classical.byContradiction fun hn => ?_
  have hd := drawers (l := (List.range (n + 1)).map f) (n := n) (nodup_map (fun i j a b e => ?_)) ?_
  · simp at hd
    omega
  · refine Classical.byContradiction fun hne => ?_
    rcases Nat.lt_or_gt_of_ne hne with hlt | hlt
    · exact hn ⟨i, j, hlt, by omega, e⟩
    · exact hn ⟨j, i, hlt, by omega, e.symm⟩
  · intro x hx
    simp only [List.mem_map, List.mem_range] at hx
    obtain ⟨i, hi, rfl⟩ := hx
    exact h i (by omega)
theorem least {P : Nat → Prop} (h : ∃ n, P n) : ∃ n, P n ∧ ∀ m, m < n → ¬ P m := by
  obtain ⟨n, hn⟩ := h
  induction n using Nat.strongRecOn with
  | _ n ih =>
    by_cases hm : ∃ m, m < n ∧ P m
    · obtain ⟨m, h1, h2⟩ := hm
      exact ih m h1 h2
    · exact ⟨n, hn, fun m h1 h2 => hm ⟨m, h1, h2⟩⟩

/-! ### Powers: pw t x k is x with the exponent k + 1 -/
def pw (t : List (List Int)) (x : Int) : Nat → Int
  | 0 => x
  | k + 1 => M t (pw t x k) x
section
variable {t : List (List Int)} (hv : Va t) {x : Int} (h0 : 0 ≤ x) (h1 : x < (t.length : Int))
include hv h0 h1
theorem pw_in (k : Nat) : 0 ≤ pw t x k ∧ pw t x k < (t.length : Int) := by
  induction k with
  | zero => exact ⟨h0, h1⟩
  | succ k ih => exact ⟨hv.lo _ _ ih.1 ih.2 h0 h1, hv.hi _ _ ih.1 ih.2 h0 h1⟩
theorem pw_mul (i j : Nat) : M t (pw t x i) (pw t x j) = pw t x (i + j + 1) := by
  have hi := pw_in hv h0 h1 i
  induction j with
  | zero => rfl
  | succ j ih =>
    have hj := pw_in hv h0 h1 j
    show M t (pw t x i) (M t (pw t x j) x) = M t (pw t x (i + (j + 1))) x
    rw [← hv.asc _ _ _ hi.1 hi.2 hj.1 hj.2 h0 h1, ih]
    rfl
theorem pw_shift {i j : Nat} (h : pw t x i = pw t x j) (k : Nat) : pw t x (i + k) = pw t x (j + k) := by
  induction k with
  | zero => exact h
  | succ k ih =>
    show M t (pw t x (i + k)) x = M t (pw t x (j + k)) x
    rw [ih]
/-- a: one less than the index; N: how many powers there are. -/
theorem cyc_exists : ∃ a N, a < N ∧ N ≤ t.length ∧ pw t x N = pw t x a ∧ ∀ i j, i < N → j < N → pw t x i = pw t x j → i = j := by
  obtain ⟨i, j, hij, hj, he⟩ := meet (f := pw t x) (n := t.length) (fun i _ => by simpa using pw_in hv h0 h1 i)
  obtain ⟨N, ⟨hN, a, ha, hNa⟩, hmin⟩ := least (P := fun j => j ≤ t.length ∧ ∃ i, i < j ∧ pw t x j = pw t x i) ⟨j, hj, i, hij, he.symm⟩
  refine ⟨a, N, ha, hN, hNa, fun i j hi hj he => ?_⟩
  refine Classical.byContradiction fun hne => ?_
  rcases Nat.lt_or_gt_of_ne hne with hlt | hlt
  · exact hmin j hj ⟨by omega, i, hlt, he.symm⟩
  · exact hmin i hi ⟨by omega, j, hlt, he⟩
end
/-- (a, N) are those of x. -/
structure Cyc (t : List (List Int)) (x : Int) (a N : Nat) : Prop where
  lt : a < N
  le : N ≤ t.length
  back : pw t x N = pw t x a
  inj : ∀ i j, i < N → j < N → pw t x i = pw t x j → i = j
section
variable {t : List (List Int)} {x : Int} {a N : Nat} (hv : Va t) (h0 : 0 ≤ x) (h1 : x < (t.length : Int)) (hc : Cyc t x a N)
include hv h0 h1 hc
theorem Cyc.step (i : Nat) (hi : a ≤ i) : pw t x (i + (N - a)) = pw t x i := by
  have := pw_shift hv h0 h1 hc.back (i - a)
  have hlt := hc.lt
  rw [show N + (i - a) = i + (N - a) by omega, show a + (i - a) = i by omega] at this
  exact this
theorem Cyc.steps (i k : Nat) (hi : a ≤ i) : pw t x (i + k * (N - a)) = pw t x i := by
  induction k with
  | zero => simp
  | succ k ih =>
    rw [show i + (k + 1) * (N - a) = i + k * (N - a) + (N - a) by rw [Nat.succ_mul]; omega, hc.step hv h0 h1 _ (by omega), ih]
theorem Cyc.eq_iff (i j : Nat) (hi : a ≤ i) (hj : a ≤ j) (h : pw t x i = pw t x j) : (i - a) % (N - a) = (j - a) % (N - a) := by
  have hlt := hc.lt
  have key : ∀ i, a ≤ i → pw t x i = pw t x (a + (i - a) % (N - a)) := by
    intro i hi
    have := hc.steps hv h0 h1 (a + (i - a) % (N - a)) ((i - a) / (N - a)) (by omega)
    rw [← this]
    congr 1
    have := Nat.mod_add_div (i - a) (N - a)
    rw [Nat.mul_comm] at this
    omega
  rw [key i hi, key j hj] at h
  have h2 := Nat.mod_lt (i - a) (show 0 < N - a by omega)
  have h3 := Nat.mod_lt (j - a) (show 0 < N - a by omega)
  have := hc.inj _ _ (by omega) (by omega) h
  omega
theorem Cyc.red (i : Nat) (hi : a ≤ i) : pw t x i = pw t x (a + (i - a) % (N - a)) := by
  have hlt := hc.lt
  have := hc.steps hv h0 h1 (a + (i - a) % (N - a)) ((i - a) / (N - a)) (by omega)
  rw [← this]
  congr 1
  have := Nat.mod_add_div (i - a) (N - a)
  rw [Nat.mul_comm] at this
  omega
/-- The power with exponent m, a multiple of the period that is at least the index, is idempotent. -/
theorem Cyc.idem (m k : Nat) (hm : m = k * (N - a)) (ha : a + 1 ≤ m) : M t (pw t x (m - 1)) (pw t x (m - 1)) = pw t x (m - 1) := by
  rw [pw_mul hv h0 h1, show m - 1 + (m - 1) + 1 = (m - 1) + k * (N - a) by omega]
  exact hc.steps hv h0 h1 _ k (by omega)
theorem Cyc.idem_only (i : Nat) (h : M t (pw t x i) (pw t x i) = pw t x i) : a ≤ i ∧ (i + 1) % (N - a) = 0 := by
  have hlt := hc.lt
  rw [pw_mul hv h0 h1] at h
  have ha : a ≤ i := by
    refine Classical.byContradiction fun hn => ?_
    by_cases h2 : i + i + 1 < N
    · have := hc.inj _ _ h2 (by omega) h
      omega
    · rw [hc.red hv h0 h1 (i + i + 1) (by omega)] at h
      have := hc.inj _ _ (by have := Nat.mod_lt (i + i + 1 - a) (show 0 < N - a by omega); omega) (by omega) h
      omega
  refine ⟨ha, ?_⟩
  have := hc.eq_iff hv h0 h1 _ _ (by omega) ha h
  have e : i + i + 1 - a = (i - a) + (i + 1) := by omega
  rw [e, Nat.add_mod] at this
  have h3 := Nat.mod_lt (i - a) (show 0 < N - a by omega)
  have h4 := Nat.mod_lt (i + 1) (show 0 < N - a by omega)
  have h5 := Nat.div_add_mod ((i - a) % (N - a) + (i + 1) % (N - a)) (N - a)
  rw [this] at h5
  by_cases hq : ((i - a) % (N - a) + (i + 1) % (N - a)) / (N - a) = 0
  · rw [hq] at h5; omega
  · have h6 : (N - a) * 1 ≤ (N - a) * (((i - a) % (N - a) + (i + 1) % (N - a)) / (N - a)) := Nat.mul_le_mul_left _ (Nat.pos_of_ne_zero hq)
    omega
end
theorem Cyc.unique {t : List (List Int)} {x : Int} {a N b K : Nat} (h : Cyc t x a N) (k : Cyc t x b K) : a = b ∧ N = K := by
  have hN : N = K := by
    refine Classical.byContradiction fun hne => ?_
    have h1 := h.lt
    have k1 := k.lt
    rcases Nat.lt_or_gt_of_ne hne with hlt | hlt
    · have := k.inj N a hlt (by omega) h.back; omega
    · have := h.inj K b hlt (by omega) k.back; omega
  subst hN
  refine ⟨?_, rfl⟩
  exact h.inj a b h.lt k.lt (h.back.symm.trans k.back)
theorem Va.cyc {t : List (List Int)} (hv : Va t) {x : Int} (h0 : 0 ≤ x) (h1 : x < (t.length : Int)) : ∃ a N, Cyc t x a N := by
  obtain ⟨a, N, c1, c2, c3, c4⟩ := cyc_exists hv h0 h1
  exact ⟨a, N, ⟨c1, c2, c3, c4⟩⟩
theorem exists_idem {t : List (List Int)} (hv : Va t) : ∃ x, 0 ≤ x ∧ x < (t.length : Int) ∧ M t x x = x := by
  have hp := hv.pos
  obtain ⟨a, N, hc⟩ := hv.cyc (x := 0) (Int.le_refl _) hp
  have hlt := hc.lt
  refine ⟨pw t 0 ((a + 1) * (N - a) - 1), (pw_in hv (Int.le_refl _) hp _).1, (pw_in hv (Int.le_refl _) hp _).2, ?_⟩
  exact hc.idem hv (Int.le_refl _) hp _ (a + 1) rfl (Nat.le_mul_of_pos_right _ (by omega))
end Go.Ab

/- Idempotent powers, the powers as a list. Plain lemmas. No condition. -/
set_option linter.unusedVariables false
set_option linter.unusedSimpArgs false
set_option linter.unusedSectionVars false
namespace Go.Ab
open Go
/-- The idempotent power. -/
noncomputable def om (t : List (List Int)) (x : Int) : Int := open Classical in if h : ∃ i, M t (pw t x i) (pw t x i) = pw t x i then pw t x (Classical.choose h) else -1
theorem om_eq {t : List (List Int)} (hv : Va t) {x : Int} (h0 : 0 ≤ x) (h1 : x < (t.length : Int)) {i : Nat} (hi : M t (pw t x i) (pw t x i) = pw t x i) : om t x = pw t x i := by
  unfold om
  rw [dif_pos ⟨i, hi⟩]
  have hj := Classical.choose_spec (⟨i, hi⟩ : ∃ i, M t (pw t x i) (pw t x i) = pw t x i)
  generalize Classical.choose (⟨i, hi⟩ : ∃ i, M t (pw t x i) (pw t x i) = pw t x i) = j at hj
  obtain ⟨a, N, hc⟩ := hv.cyc h0 h1
  have hlt := hc.lt
  obtain ⟨ai, pi⟩ := hc.idem_only hv h0 h1 i hi
  obtain ⟨aj, pj⟩ := hc.idem_only hv h0 h1 j hj
  rw [hc.red hv h0 h1 i ai, hc.red hv h0 h1 j aj]
  congr 2
  have ei := Nat.div_add_mod (i + 1) (N - a)
  have ej := Nat.div_add_mod (j + 1) (N - a)
  rw [pi] at ei
  rw [pj] at ej
  -- both are one less than multiples of the period
  have key : ∀ u v : Nat, u ≤ v → a ≤ u → (u + 1) % (N - a) = 0 → (v + 1) % (N - a) = 0 → (v - a) % (N - a) = (u - a) % (N - a) := by
    intro u v huv hu h1 h2
    have h3 : (v - u) % (N - a) = 0 := by
      obtain ⟨c, hc'⟩ := Nat.dvd_of_mod_eq_zero h1
      obtain ⟨c', hc''⟩ := Nat.dvd_of_mod_eq_zero h2
      rw [show v - u = (N - a) * c' - (N - a) * c by omega, ← Nat.mul_sub]
      exact Nat.mul_mod_right _ _
    rw [show v - a = (v - u) + (u - a) by omega, Nat.add_mod, h3, Nat.zero_add, Nat.mod_mod]
  rcases Nat.le_total i j with h | h
  · exact key i j h ai pi pj
  · exact (key j i h aj pj pi).symm
theorem om_idem {t : List (List Int)} (hv : Va t) {x : Int} (h0 : 0 ≤ x) (h1 : x < (t.length : Int)) : ∃ i, M t (pw t x i) (pw t x i) = pw t x i ∧ om t x = pw t x i := by
  obtain ⟨a, N, hc⟩ := hv.cyc h0 h1
  have hlt := hc.lt
  have := hc.idem hv h0 h1 _ (a + 1) rfl (Nat.le_mul_of_pos_right _ (by omega))
  exact ⟨_, this, om_eq hv h0 h1 this⟩

/-- The powers as a list. -/
def pws (t : List (List Int)) (x : Int) (n : Nat) : List Int := (List.range n).map (pw t x)
theorem pws_len (t : List (List Int)) (x : Int) (n : Nat) : (pws t x n).length = n := by simp [pws]
theorem pws_rd {t : List (List Int)} {x : Int} {n : Nat} {j : Int} (h0 : 0 ≤ j) (h1 : j < (n : Int)) : rd (pws t x n) j = pw t x j.toNat := rd_map h0 h1
theorem pws_snoc (t : List (List Int)) (x : Int) (n : Nat) : pws t x n ++ [pw t x n] = pws t x (n + 1) := by simp [pws, List.range_succ]
end Go.Ab

/- Tables that are filled: the table of a function. Plain lemmas. No condition. -/
set_option linter.unusedVariables false
set_option linter.unusedSimpArgs false
set_option linter.unusedSectionVars false
namespace Go.Ab
open Go
/-- The table of f. -/
def tab (n : Nat) (f : Int → Int → Int) : List (List Int) := (List.range n).map fun x : Nat => (List.range n).map fun y : Nat => f x y
theorem tab_len (n : Nat) (f : Int → Int → Int) : (tab n f).length = n := by simp [tab]
theorem tab_R {n : Nat} {f : Int → Int → Int} {x : Int} (h0 : 0 ≤ x) (h1 : x < n) : R (tab n f) x = (List.range n).map fun y : Nat => f x y := by
  unfold tab
  rw [R_map h0 h1, show ((x.toNat : Nat) : Int) = x by omega]
theorem tab_row {n : Nat} {f : Int → Int → Int} {x : Int} (h0 : 0 ≤ x) (h1 : x < n) : (R (tab n f) x).length = n := by rw [tab_R h0 h1]; simp
theorem tab_M {n : Nat} {f : Int → Int → Int} {x y : Int} (h0 : 0 ≤ x) (h1 : x < n) (h2 : 0 ≤ y) (h3 : y < n) : M (tab n f) x y = f x y := by
  show rd (R (tab n f) x) y = _
  rw [tab_R h0 h1, rd_map h2 h3, show ((y.toNat : Nat) : Int) = y by omega]
theorem tab_eq {n : Nat} {f : Int → Int → Int} {t : List (List Int)} (hl : t.length = n) (hr : ∀ x : Int, 0 ≤ x → x < n → (R t x).length = n) (h : ∀ x y : Int, 0 ≤ x → x < n → 0 ≤ y → y < n → M t x y = f x y) : t = tab n f := by
  refine M_ext (by rw [tab_len, hl]) (fun x h0 h1 => ?_) (fun x y h0 h1 h2 h3 => ?_)
  · rw [hr x h0 (by omega), tab_row h0 (by omega)]
  · have := hr x h0 (by omega)
    rw [h x y h0 (by omega) h2 (by omega), tab_M h0 (by omega) h2 (by omega)]
theorem tab_congr {n : Nat} {f g : Int → Int → Int} (h : ∀ x y : Int, 0 ≤ x → x < n → 0 ≤ y → y < n → f x y = g x y) : tab n f = tab n g :=
  tab_eq (tab_len n f) (fun x h0 h1 => tab_row h0 h1) (fun x y h0 h1 h2 h3 => by rw [tab_M h0 h1 h2 h3, h x y h0 h1 h2 h3])
theorem tab_sq {n : Nat} {f : Int → Int → Int} (h0 : 0 < n) (h1 : n ≤ 400) (h : ∀ x y : Int, 0 ≤ x → x < n → 0 ≤ y → y < n → 0 ≤ f x y ∧ f x y < n) : Sq (tab n f) := by
  have hl := tab_len n f
  refine ⟨by omega, by omega, fun x a b => ?_, fun x y a b c d => ?_, fun x y a b c d => ?_⟩
  · have := tab_row (f := f) a (n := n) (by omega); omega
  · rw [tab_M a (by omega) c (by omega)]; exact (h x y a (by omega) c (by omega)).1
  · rw [tab_M a (by omega) c (by omega)]; have := (h x y a (by omega) c (by omega)).2; omega
theorem Sq.tab {t : List (List Int)} (hs : Sq t) : t = tab t.length (M t) := 
  tab_eq rfl (fun x a b => by have := hs.row x a b; omega) (fun _ _ _ _ _ _ => rfl)

section
variable {ρ : Type} {r : ρ}
end

/-! ### Opposite, adjoined identity, direct product -/
def opp (t : List (List Int)) : List (List Int) := tab t.length fun x y => M t y x
def adj (t : List (List Int)) : List (List Int) := tab (t.length + 1) fun x y => if x = (t.length : Int) then y else if y = (t.length : Int) then x else M t x y
def dir (t u : List (List Int)) : List (List Int) := tab (t.length * u.length) fun x y => M t (x / (u.length : Int)) (y / (u.length : Int)) * (u.length : Int) + M u (x % (u.length : Int)) (y % (u.length : Int))
theorem opp_va {t : List (List Int)} (hv : Va t) : Va (opp t) := by
  have hl := tab_len t.length fun x y => M t y x
  have hpos := hv.pos
  have hle := hv.le
  refine ⟨tab_sq (by omega) (by omega) (fun x y a b c d => ⟨hv.lo y x c d a b, hv.hi y x c d a b⟩), ?_⟩
  intro x y z a b c d e f
  unfold opp at *
  rw [hl] at b d f
  have h1 := hv.lo y x c d a b
  have h2 := hv.hi y x c d a b
  have h3 := hv.lo z y e f c d
  have h4 := hv.hi z y e f c d
  rw [tab_M a b c d, tab_M h1 h2 e f, tab_M c d e f, tab_M a b h3 h4]
  exact (hv.asc z y x e f c d a b).symm
theorem adj_va {t : List (List Int)} (hv : Va t) (hn : (t.length : Int) < 400) : Va (adj t) := by
  have hl := tab_len (t.length + 1) fun x y => if x = (t.length : Int) then y else if y = (t.length : Int) then x else M t x y
  have hpos := hv.pos
  have hin : ∀ x y : Int, 0 ≤ x → x < ((t.length + 1 : Nat) : Int) → 0 ≤ y → y < ((t.length + 1 : Nat) : Int) → 0 ≤ (if x = (t.length : Int) then y else if y = (t.length : Int) then x else M t x y) ∧ (if x = (t.length : Int) then y else if y = (t.length : Int) then x else M t x y) < ((t.length + 1 : Nat) : Int) := by
    intro x y a b c d
    split
    · exact ⟨c, d⟩
    split
    · exact ⟨a, b⟩
    · have h1 := hv.lo x y a (by omega) c (by omega)
      have h2 := hv.hi x y a (by omega) c (by omega)
      omega
  refine ⟨tab_sq (by omega) (by omega) hin, ?_⟩
  intro x y z a b c d e f
  unfold adj at *
  rw [hl] at b d f
  have i1 := hin x y a b c d
  have i2 := hin y z c d e f
  rw [tab_M a b c d, tab_M i1.1 i1.2 e f, tab_M c d e f, tab_M a b i2.1 i2.2]
  by_cases hx : x = (t.length : Int)
  · simp only [if_pos hx]
  · by_cases hy : y = (t.length : Int)
    · simp only [if_neg hx, if_pos hy]
    · by_cases hz : z = (t.length : Int)
      · simp only [if_neg hx, if_neg hy, if_pos hz]
        split <;> simp_all
      · have h1 := hv.lo x y a (by omega) c (by omega)
        have h2 := hv.hi x y a (by omega) c (by omega)
        have h3 := hv.lo y z c (by omega) e (by omega)
        have h4 := hv.hi y z c (by omega) e (by omega)
        simp only [if_neg hx, if_neg hy, if_neg hz]
        rw [if_neg (by omega), if_neg (by omega)]
        exact hv.asc x y z a (by omega) c (by omega) e (by omega)
theorem pair_div {a b k : Int} (h0 : 0 ≤ b) (h1 : b < k) : (a * k + b) / k = a ∧ (a * k + b) % k = b := by
  have hk : k ≠ 0 := by omega
  constructor
  · rw [Int.add_comm, Int.add_mul_ediv_right _ _ hk, Int.ediv_eq_zero_of_lt h0 h1]; omega
  · rw [Int.add_comm, Int.add_mul_emod_self_right]; exact Int.emod_eq_of_lt h0 h1
theorem pair_lt {a b n k : Int} (ha0 : 0 ≤ a) (ha : a < n) (h0 : 0 ≤ b) (h1 : b < k) : 0 ≤ a * k + b ∧ a * k + b < n * k := by
  have h2 : 0 ≤ a * k := Int.mul_nonneg ha0 (by omega)
  have h3 : (a + 1) * k ≤ n * k := Int.mul_le_mul_of_nonneg_right (by omega) (by omega)
  rw [Int.add_mul] at h3
  omega
theorem pair_of {x n k : Int} (h0 : 0 ≤ x) (h1 : x < n * k) (hk : 0 < k) : 0 ≤ x / k ∧ x / k < n ∧ 0 ≤ x % k ∧ x % k < k ∧ x = x / k * k + x % k := by
  refine ⟨Int.ediv_nonneg h0 (by omega), Int.ediv_lt_of_lt_mul hk h1, Int.emod_nonneg _ (by omega), Int.emod_lt_of_pos _ hk, ?_⟩
  have := Int.mul_ediv_add_emod x k
  rw [Int.mul_comm] at this
  omega
theorem dir_in {t u : List (List Int)} (hv : Sq t) (hu : Sq u) {x y : Int} (a : 0 ≤ x) (b : x < ((t.length * u.length : Nat) : Int)) (c : 0 ≤ y) (d : y < ((t.length * u.length : Nat) : Int)) :
    0 ≤ M t (x / (u.length : Int)) (y / (u.length : Int)) * (u.length : Int) + M u (x % (u.length : Int)) (y % (u.length : Int)) ∧ M t (x / (u.length : Int)) (y / (u.length : Int)) * (u.length : Int) + M u (x % (u.length : Int)) (y % (u.length : Int)) < ((t.length * u.length : Nat) : Int) := by
  have hk := hu.pos
  rw [Int.natCast_mul] at *
  obtain ⟨x0, x1, x2, x3, _⟩ := pair_of a b hk
  obtain ⟨y0, y1, y2, y3, _⟩ := pair_of c d hk
  exact pair_lt (hv.lo _ _ x0 x1 y0 y1) (hv.hi _ _ x0 x1 y0 y1) (hu.lo _ _ x2 x3 y2 y3) (hu.hi _ _ x2 x3 y2 y3)
theorem dir_va {t u : List (List Int)} (hv : Va t) (hu : Va u) (hn : t.length * u.length ≤ 400) : Va (dir t u) := by
  have hl := tab_len (t.length * u.length) fun x y => M t (x / (u.length : Int)) (y / (u.length : Int)) * (u.length : Int) + M u (x % (u.length : Int)) (y % (u.length : Int))
  have hk := hu.pos
  have hk' := hv.pos
  have hpos : 0 < t.length * u.length := Nat.mul_pos (by omega) (by omega)
  refine ⟨tab_sq hpos hn (fun x y a b c d => dir_in hv.toSq hu.toSq a b c d), ?_⟩
  intro x y z a b c d e f
  unfold dir at *
  rw [hl] at b d f
  have i1 := dir_in hv.toSq hu.toSq a b c d
  have i2 := dir_in hv.toSq hu.toSq c d e f
  rw [tab_M a b c d, tab_M i1.1 i1.2 e f, tab_M c d e f, tab_M a b i2.1 i2.2]
  rw [Int.natCast_mul] at b d f
  obtain ⟨x0, x1, x2, x3, _⟩ := pair_of a b hk
  obtain ⟨y0, y1, y2, y3, _⟩ := pair_of c d hk
  obtain ⟨z0, z1, z2, z3, _⟩ := pair_of e f hk
  have p1 := pair_div (a := M t (x / (u.length : Int)) (y / (u.length : Int))) (hu.lo _ _ x2 x3 y2 y3) (hu.hi _ _ x2 x3 y2 y3)
  have p2 := pair_div (a := M t (y / (u.length : Int)) (z / (u.length : Int))) (hu.lo _ _ y2 y3 z2 z3) (hu.hi _ _ y2 y3 z2 z3)
  rw [p1.1, p1.2, p2.1, p2.2, hv.asc _ _ _ x0 x1 y0 y1 z0 z1, hu.asc _ _ _ x2 x3 y2 y3 z2 z3]
end Go.Ab

/- Groups: inverses. Plain lemmas. No condition. -/
set_option linter.unusedVariables false
set_option linter.unusedSimpArgs false
set_option linter.unusedSectionVars false
namespace Go.Ab
open Go
open Classical

/-- y is an inverse of x. -/
def InvP (t : List (List Int)) (x y : Int) : Prop := M t x y = idn t ∧ M t y x = idn t
noncomputable def invOf (t : List (List Int)) (x : Int) : Int := first t.length (InvP t x)
/-- The table of a group. -/
structure Grp (t : List (List Int)) : Prop extends Va t where
  id0 : 0 ≤ idn t
  inv : ∀ x : Int, 0 ≤ x → x < (t.length : Int) → ∃ y : Int, 0 ≤ y ∧ y < (t.length : Int) ∧ InvP t x y
theorem idn_cases (t : List (List Int)) : (idn t = -1 ∧ ∀ e : Int, 0 ≤ e → e < (t.length : Int) → ¬ IsId t e) ∨ (0 ≤ idn t ∧ idn t < (t.length : Int) ∧ IsId t (idn t)) := by
  rcases first_spec (n := t.length) (P := IsId t) with h | ⟨a, b, c, _⟩
  · exact .inl h
  · exact .inr ⟨a, b, c⟩
theorem idn_is {t : List (List Int)} (h : 0 ≤ idn t) : idn t < (t.length : Int) ∧ IsId t (idn t) := by
  rcases idn_cases t with ⟨a, _⟩ | ⟨_, b, c⟩
  · omega
  · exact ⟨b, c⟩
theorem inv_unique {t : List (List Int)} (hv : Va t) (hi : 0 ≤ idn t) {x y z : Int} (x0 : 0 ≤ x) (x1 : x < (t.length : Int)) (y0 : 0 ≤ y) (y1 : y < (t.length : Int)) (z0 : 0 ≤ z) (z1 : z < (t.length : Int)) (hy : InvP t x y) (hz : InvP t x z) : y = z := by
  obtain ⟨i1, hid⟩ := idn_is hi
  have h := hv.asc y x z y0 y1 x0 x1 z0 z1
  rw [hy.2, hz.1, (hid z z0 z1).1, (hid y y0 y1).2] at h
  exact h.symm
theorem invOf_eq {t : List (List Int)} (hv : Va t) (hi : 0 ≤ idn t) {x y : Int} (x0 : 0 ≤ x) (x1 : x < (t.length : Int)) (y0 : 0 ≤ y) (y1 : y < (t.length : Int)) (hy : InvP t x y) : invOf t x = y :=
  first_eq y0 y1 hy (fun z z0 z1 hz => by have := inv_unique hv hi x0 x1 z0 (by omega) y0 y1 hz hy; omega)
theorem Grp.invOf {t : List (List Int)} (hg : Grp t) {x : Int} (x0 : 0 ≤ x) (x1 : x < (t.length : Int)) : 0 ≤ invOf t x ∧ invOf t x < (t.length : Int) ∧ InvP t x (invOf t x) := by
  obtain ⟨y, y0, y1, hy⟩ := hg.inv x x0 x1
  rw [invOf_eq hg.toVa hg.id0 x0 x1 y0 y1 hy]
  exact ⟨y0, y1, hy⟩
noncomputable def invs (t : List (List Int)) : List Int := (List.range t.length).map fun x : Nat => invOf t x
end Go.Ab

/- Rees matrix semigroups: which are valid, how many elements. Plain lemmas. No condition. -/
set_option linter.unusedVariables false
set_option linter.unusedSimpArgs false
set_option linter.unusedSectionVars false
namespace Go.Ab
open Go
open Classical

def zz (Z : Bool) : Int := if Z = true then 1 else 0
theorem zz_cases (Z : Bool) : zz Z = 0 ∧ Z = false ∨ zz Z = 1 ∧ Z = true := by cases Z <;> simp [zz]
def rsize (G : List (List Int)) (m k : Int) (Z : Bool) : Int := if m > 400 then 401 else if k > 400 then 401 else m * k * (G.length : Int) + zz Z
/-- Of the right shape. -/
structure RSh (G : List (List Int)) (m k : Int) (P : List (List Int)) (Z : Bool) : Prop where
  grp : Grp G
  m1 : 1 ≤ m
  k1 : 1 ≤ k
  len : (P.length : Int) = k
  row : ∀ l : Int, 0 ≤ l → l < (P.length : Int) → ((R P l).length : Int) = m
  ent : ∀ l i : Int, 0 ≤ l → l < (P.length : Int) → 0 ≤ i → i < ((R P l).length : Int) → -1 ≤ M P l i ∧ M P l i < (G.length : Int) ∧ (M P l i < 0 → Z = true)
/-- What Validate answers. -/
noncomputable def rval (G : List (List Int)) (m k : Int) (P : List (List Int)) (Z : Bool) : Int := if RSh G m k P Z then (if rsize G m k Z > 400 then 3 else 0) else 4
/-- Valid. -/
structure RVa (G : List (List Int)) (m k : Int) (P : List (List Int)) (Z : Bool) : Prop extends RSh G m k P Z where
  m4 : m ≤ 400
  k4 : k ≤ 400
  sz : m * k * (G.length : Int) + zz Z ≤ 400
theorem rval_rv {G : List (List Int)} {m k : Int} {P : List (List Int)} {Z : Bool} : rval G m k P Z = 0 ↔ RVa G m k P Z := by
  unfold rval rsize
  constructor
  · intro h
    split at h
    · rename_i h1
      by_cases hm : m > 400
      · rw [if_pos hm, if_pos (by omega)] at h; omega
      by_cases hk : k > 400
      · rw [if_neg hm, if_pos hk, if_pos (by omega)] at h; omega
      rw [if_neg hm, if_neg hk] at h
      split at h
      · omega
      · exact ⟨h1, by omega, by omega, by omega⟩
    · omega
  · intro h
    rw [if_pos h.toRSh, if_neg]
    rw [if_neg (by have := h.m4; omega), if_neg (by have := h.k4; omega)]
    have := h.sz
    omega
theorem prod_bounds {a b c : Int} (ha0 : 1 ≤ a) (ha : a ≤ 400) (hb0 : 1 ≤ b) (hb : b ≤ 400) (hc0 : 1 ≤ c) (hc : c ≤ 400) : 1 ≤ a * b ∧ a * b ≤ 160000 ∧ 1 ≤ a * b * c ∧ a * b * c ≤ 64000000 := by
  have h1 : 1 * 1 ≤ a * b := Int.mul_le_mul ha0 hb0 (by omega) (by omega)
  have h2 : a * b ≤ 400 * 400 := Int.mul_le_mul ha hb (by omega) (by omega)
  have h3 : 1 * 1 ≤ a * b * c := Int.mul_le_mul (by omega) hc0 (by omega) (by omega)
  have h4 : a * b * c ≤ 160000 * 400 := Int.mul_le_mul (by omega) hc (by omega) (by omega)
  omega
/-- A row of P that is wrong. -/
def RBad (G : List (List Int)) (m : Int) (P : List (List Int)) (Z : Bool) (l : Int) : Prop := ((R P l).length : Int) ≠ m ∨ ∃ i : Int, 0 ≤ i ∧ i < ((R P l).length : Int) ∧ (M P l i < -1 ∨ (G.length : Int) ≤ M P l i ∨ (M P l i < 0 ∧ Z = false))
theorem rsh_of {G : List (List Int)} {m k : Int} {P : List (List Int)} {Z : Bool} (hg : Grp G) (m1 : 1 ≤ m) (k1 : 1 ≤ k) (hl : (P.length : Int) = k) : (∀ l : Int, 0 ≤ l → l < (P.length : Int) → ¬ RBad G m P Z l) ↔ RSh G m k P Z := by
  constructor
  · intro h
    refine ⟨hg, m1, k1, hl, fun l a b => Classical.byContradiction fun hn => h l a b (.inl hn), fun l i a b c d => ?_⟩
    have hn : ¬ (M P l i < -1 ∨ (G.length : Int) ≤ M P l i ∨ (M P l i < 0 ∧ Z = false)) := fun hx => h l a b (.inr ⟨i, c, d, hx⟩)
    refine ⟨Classical.byContradiction fun hx => hn (.inl (by omega)), Classical.byContradiction fun hx => hn (.inr (.inl (by omega))), fun hx => ?_⟩
    cases hZ : Z with
    | true => rfl
    | false => exact absurd (.inr (.inr ⟨hx, hZ⟩)) hn
  · rintro h l a b (hx | ⟨i, c, d, hx⟩)
    · exact hx (h.row l a b)
    · have := h.ent l i a b c d
      rcases hx with hx | hx | hx
      · omega
      · omega
      · have := this.2.2 hx.1
        rw [hx.2] at this
        cases this
/-- The test of the reference. -/
theorem ref_limit {m k g most : Int} (m1 : 1 ≤ m) (k1 : 1 ≤ k) (g1 : 1 ≤ g) (h0 : 0 ≤ most) : (m > most / g ∨ m * g > most / k) ↔ most < m * k * g := by
  have e : m * k * g = m * g * k := by rw [Int.mul_assoc, Int.mul_comm k g, ← Int.mul_assoc]
  have h1 : m > most / g ↔ most < m * g := Int.ediv_lt_iff_lt_mul (by omega)
  have h2 : m * g > most / k ↔ most < m * g * k := Int.ediv_lt_iff_lt_mul (by omega)
  rw [h1, h2, e]
  have h3 : m * g * 1 ≤ m * g * k := Int.mul_le_mul_of_nonneg_left k1 (Int.mul_nonneg (by omega) (by omega))
  omega
open Classical

/-- The product in a Rees matrix semigroup. -/
def rmul (G : List (List Int)) (k : Int) (P : List (List Int)) (Z : Bool) (x y : Int) : Int :=
  if Z = true ∧ (x = 0 ∨ y = 0) then 0 else
  if M P ((x - zz Z) % k) ((y - zz Z) / k / (G.length : Int)) < 0 then 0 else
  ((x - zz Z) / k / (G.length : Int) * (G.length : Int) + M G (M G ((x - zz Z) / k % (G.length : Int)) (M P ((x - zz Z) % k) ((y - zz Z) / k / (G.length : Int)))) ((y - zz Z) / k % (G.length : Int))) * k + (y - zz Z) % k + zz Z

theorem zz_one {Z : Bool} (h : zz Z = 1) : Z = true := by cases Z <;> simp_all [zz]
theorem RVa.ord {G : List (List Int)} {m k : Int} : m * k * (G.length : Int) = m * (G.length : Int) * k := by rw [Int.mul_assoc, Int.mul_comm k, ← Int.mul_assoc]
theorem RVa.dec {G : List (List Int)} {m k : Int} {P : List (List Int)} {Z : Bool} (h : RVa G m k P Z) {u : Int} (u0 : 0 ≤ u) (u1 : u < m * k * (G.length : Int)) :
    0 ≤ u / k ∧ u / k ≤ u ∧ 0 ≤ u / k / (G.length : Int) ∧ u / k / (G.length : Int) < m ∧ 0 ≤ u / k % (G.length : Int) ∧ u / k % (G.length : Int) < (G.length : Int) ∧ 0 ≤ u % k ∧ u % k < k := by
  have hk := h.k1
  have hg := h.grp.pos
  rw [RVa.ord] at u1
  obtain ⟨a, b, c, d, _⟩ := pair_of u0 u1 (by omega)
  obtain ⟨e, f, i, j, _⟩ := pair_of a b hg
  exact ⟨a, Int.ediv_le_self k u0, e, f, i, j, c, d⟩
theorem RVa.enc {G : List (List Int)} {m k : Int} {P : List (List Int)} {Z : Bool} (h : RVa G m k P Z) {i a l : Int} (i0 : 0 ≤ i) (i1 : i < m) (a0 : 0 ≤ a) (a1 : a < (G.length : Int)) (l0 : 0 ≤ l) (l1 : l < k) :
    0 ≤ i * (G.length : Int) ∧ 0 ≤ (i * (G.length : Int) + a) * k ∧ i * (G.length : Int) + a ≤ (i * (G.length : Int) + a) * k ∧ (i * (G.length : Int) + a) * k + l < m * k * (G.length : Int) := by
  have hk := h.k1
  obtain ⟨a, b⟩ := pair_lt i0 i1 a0 a1
  obtain ⟨c, d⟩ := pair_lt a b l0 l1
  rw [RVa.ord]
  refine ⟨Int.mul_nonneg i0 (by omega), Int.mul_nonneg a (by omega), ?_, d⟩
  have := Int.mul_le_mul_of_nonneg_left hk a
  omega
theorem RVa.dec_enc {G : List (List Int)} {m k : Int} {P : List (List Int)} {Z : Bool} (h : RVa G m k P Z) {i a l : Int} (a0 : 0 ≤ a) (a1 : a < (G.length : Int)) (l0 : 0 ≤ l) (l1 : l < k) :
    ((i * (G.length : Int) + a) * k + l) / k / (G.length : Int) = i ∧ ((i * (G.length : Int) + a) * k + l) / k % (G.length : Int) = a ∧ ((i * (G.length : Int) + a) * k + l) % k = l := by
  obtain ⟨e, f⟩ := pair_div (a := i * (G.length : Int) + a) l0 l1
  obtain ⟨c, d⟩ := pair_div (a := i) a0 a1
  rw [e]
  exact ⟨c, d, f⟩
theorem RVa.P_in {G : List (List Int)} {m k : Int} {P : List (List Int)} {Z : Bool} (h : RVa G m k P Z) {l i : Int} (l0 : 0 ≤ l) (l1 : l < k) (i0 : 0 ≤ i) (i1 : i < m) : l < (P.length : Int) ∧ i < ((R P l).length : Int) ∧ -1 ≤ M P l i ∧ M P l i < (G.length : Int) ∧ (M P l i < 0 → Z = true) := by
  have hl := h.len
  have hr := h.row l l0 (by omega)
  have he := h.ent l i l0 (by omega) i0 (by omega)
  exact ⟨by omega, by omega, he⟩
/-- What Number answers. -/
def rnum (G : List (List Int)) (m k : Int) (Z : Bool) (i a l : Int) : Int := if 0 ≤ i ∧ i < m ∧ 0 ≤ a ∧ a < (G.length : Int) ∧ 0 ≤ l ∧ l < k then (i * (G.length : Int) + a) * k + l + zz Z else -1
theorem rmul_nz {G : List (List Int)} {k : Int} {P : List (List Int)} {Z : Bool} {x y : Int} (x0 : zz Z ≤ x) (y0 : zz Z ≤ y) : ¬ (Z = true ∧ (x = 0 ∨ y = 0)) := by
  rintro ⟨a, b⟩
  have : zz Z = 1 := by simp [zz, a]
  omega
section
variable {G : List (List Int)} {m k : Int} {P : List (List Int)} {Z : Bool}
/-- The table of a Rees matrix semigroup. -/
def rtab (G : List (List Int)) (m k : Int) (P : List (List Int)) (Z : Bool) : List (List Int) := tab (m * k * (G.length : Int) + zz Z).toNat (rmul G k P Z)
/-- What Mul answers of a valid one. -/
def rmulc (G : List (List Int)) (m k : Int) (P : List (List Int)) (Z : Bool) (x y : Int) : Int := if 0 ≤ x ∧ x < m * k * (G.length : Int) + zz Z ∧ 0 ≤ y ∧ y < m * k * (G.length : Int) + zz Z then rmul G k P Z x y else -1
end
end Go.Ab

/- Rees matrix semigroups: regular matrices, tables. Plain lemmas. No condition. -/
set_option linter.unusedVariables false
set_option linter.unusedSimpArgs false
set_option linter.unusedSectionVars false
namespace Go.Ab
open Go
open Classical

/-- Every row of P and every column has an entry. -/
def Rgl (m k : Int) (P : List (List Int)) : Prop := (∀ i : Int, 0 ≤ i → i < m → ∃ l : Int, 0 ≤ l ∧ l < k ∧ 0 ≤ M P l i) ∧ ∀ l : Int, 0 ≤ l → l < k → ∃ i : Int, 0 ≤ i ∧ i < m ∧ 0 ≤ M P l i
/-- The rows seen ahead of (l, i). -/
def Seen (P : List (List Int)) (m l i : Int) (l' i' : Int) : Prop := 0 ≤ l' ∧ 0 ≤ i' ∧ i' < m ∧ (l' < l ∨ (l' = l ∧ i' < i)) ∧ 0 ≤ M P l' i'
theorem rd_app {a b : List Bool} {j : Int} (h0 : 0 ≤ j) : rdOf false (a ++ b) j = if j < (a.length : Int) then rdOf false a j else rdOf false b (j - (a.length : Int)) := by
  unfold rdOf
  split
  · rw [List.getD_eq_getElem?_getD, List.getD_eq_getElem?_getD, List.getElem?_append_left (by omega)]
  · rw [List.getD_eq_getElem?_getD, List.getD_eq_getElem?_getD, List.getElem?_append_right (by omega), show (j - (a.length : Int)).toNat = j.toNat - a.length by omega]
/-- Columns and rows marked so far. -/
structure Mk (P : List (List Int)) (m k l i : Int) (c r : List Bool) : Prop where
  cl : (c.length : Int) = m
  rl : (r.length : Int) = k
  cm : ∀ i' : Int, 0 ≤ i' → i' < m → (rdOf false c i' = true ↔ ∃ l', Seen P m l i l' i')
  rm : ∀ l' : Int, 0 ≤ l' → l' < k → (rdOf false r l' = true ↔ ∃ i', Seen P m l i l' i')
theorem Mk.next {P : List (List Int)} {m k l i : Int} {c r : List Bool} (h : Mk P m k l i c r) (l0 : 0 ≤ l) (l1 : l < k) (i0 : 0 ≤ i) (i1 : i < m) (a b : Bool) (ha : a = true ↔ rdOf false c i = true ∨ 0 ≤ M P l i) (hb : b = true ↔ rdOf false r l = true ∨ 0 ≤ M P l i) :
    Mk P m k l (i + 1) (c.set i.toNat a) (r.set l.toNat b) := by
  have h1 := h.cl
  have h2 := h.rl
  refine ⟨by simpa using h1, by simpa using h2, fun i' a0 a1 => ?_, fun l' a0 a1 => ?_⟩
  · rw [rb_set i0 (by omega) a0]
    by_cases hi : i' = i
    · rw [if_pos hi, ha, h.cm i i0 i1, hi]
      constructor
      · rintro (⟨l', s1, s2, s3, s4, s5⟩ | hp)
        · exact ⟨l', s1, s2, s3, by omega, s5⟩
        · exact ⟨l, l0, i0, i1, by omega, hp⟩
      · rintro ⟨l', s1, s2, s3, s4, s5⟩
        by_cases hl : l' = l
        · rw [hl] at s5; exact .inr s5
        · exact .inl ⟨l', s1, s2, s3, by omega, s5⟩
    · rw [if_neg hi, h.cm i' a0 a1]
      constructor
      · rintro ⟨l', s1, s2, s3, s4, s5⟩; exact ⟨l', s1, s2, s3, by omega, s5⟩
      · rintro ⟨l', s1, s2, s3, s4, s5⟩; exact ⟨l', s1, s2, s3, by omega, s5⟩
  · rw [rb_set l0 (by omega) a0]
    by_cases hl : l' = l
    · rw [if_pos hl, hb, h.rm l l0 l1, hl]
      constructor
      · rintro (⟨i', s1, s2, s3, s4, s5⟩ | hp)
        · exact ⟨i', s1, s2, s3, by omega, s5⟩
        · exact ⟨i, l0, i0, i1, by omega, hp⟩
      · rintro ⟨i', s1, s2, s3, s4, s5⟩
        by_cases hi : i' = i
        · rw [hi] at s5; exact .inr s5
        · exact .inl ⟨i', s1, s2, s3, by omega, s5⟩
    · rw [if_neg hl, h.rm l' a0 a1]
      constructor
      · rintro ⟨i', s1, s2, s3, s4, s5⟩; exact ⟨i', s1, s2, s3, by omega, s5⟩
      · rintro ⟨i', s1, s2, s3, s4, s5⟩; exact ⟨i', s1, s2, s3, by omega, s5⟩
theorem Mk.row {P : List (List Int)} {m k l : Int} {c r : List Bool} (h : Mk P m k l m c r) : Mk P m k (l + 1) 0 c r := by
  refine ⟨h.cl, h.rl, fun i' a0 a1 => ?_, fun l' a0 a1 => ?_⟩
  · rw [h.cm i' a0 a1]
    constructor
    · rintro ⟨l', s1, s2, s3, s4, s5⟩; exact ⟨l', s1, s2, s3, by omega, s5⟩
    · rintro ⟨l', s1, s2, s3, s4, s5⟩; exact ⟨l', s1, s2, s3, by omega, s5⟩
  · rw [h.rm l' a0 a1]
    constructor
    · rintro ⟨l', s1, s2, s3, s4, s5⟩; exact ⟨l', s1, s2, s3, by omega, s5⟩
    · rintro ⟨l', s1, s2, s3, s4, s5⟩; exact ⟨l', s1, s2, s3, by omega, s5⟩
variable {G : List (List Int)} {m k : Int} {P : List (List Int)} {Z : Bool}
theorem rmul_in (h : RVa G m k P Z) {x y : Int} (x0 : 0 ≤ x) (x1 : x < m * k * (G.length : Int) + zz Z) (y0 : 0 ≤ y) (y1 : y < m * k * (G.length : Int) + zz Z) : 0 ≤ rmul G k P Z x y ∧ rmul G k P Z x y < m * k * (G.length : Int) + zz Z := by
  have hz := zz_cases Z
  have hk := h.k1
  have hm := h.m1
  have hs := h.grp.toSq
  have hg := hs.pos
  have hpos : 0 < m * k * (G.length : Int) := Int.mul_pos (Int.mul_pos (by omega) (by omega)) hg
  unfold rmul
  split
  · omega
  rename_i hne
  have hxz : zz Z ≤ x ∧ zz Z ≤ y := by
    rcases hz with ⟨a, _⟩ | ⟨a, b⟩
    · omega
    · have : ¬ (x = 0 ∨ y = 0) := fun hh => hne ⟨b, hh⟩
      omega
  obtain ⟨ua, ub, uc, ud, ue, uf, ug, uh⟩ := h.dec (u := x - zz Z) (by omega) (by omega)
  obtain ⟨va, vb, vc, vd, ve, vf, vg, vh⟩ := h.dec (u := y - zz Z) (by omega) (by omega)
  obtain ⟨p1, p2, p3, p4, p5⟩ := h.P_in ug uh vc vd
  split
  · omega
  rename_i hp
  have g1 := hs.lo _ _ ue uf (by omega) p4
  have g2 := hs.hi _ _ ue uf (by omega) p4
  have g3 := hs.lo _ _ g1 g2 ve vf
  have g4 := hs.hi _ _ g1 g2 ve vf
  have he := h.enc uc ud g3 g4 vg vh
  omega
/-- An element is the zero or a triple. -/
theorem RVa.cases (h : RVa G m k P Z) {x : Int} (x0 : 0 ≤ x) (x1 : x < m * k * (G.length : Int) + zz Z) : (Z = true ∧ x = 0) ∨ ∃ i a l : Int, 0 ≤ i ∧ i < m ∧ 0 ≤ a ∧ a < (G.length : Int) ∧ 0 ≤ l ∧ l < k ∧ x = (i * (G.length : Int) + a) * k + l + zz Z := by
  have hz := zz_cases Z
  by_cases hx : zz Z ≤ x
  · right
    obtain ⟨ua, ub, uc, ud, ue, uf, ug, uh⟩ := h.dec (u := x - zz Z) (by omega) (by omega)
    refine ⟨_, _, _, uc, ud, ue, uf, ug, uh, ?_⟩
    have e1 := Int.mul_ediv_add_emod (x - zz Z) k
    have e2 := Int.mul_ediv_add_emod ((x - zz Z) / k) (G.length : Int)
    rw [Int.mul_comm] at e1 e2
    rw [e2]
    omega
  · left
    rcases hz with ⟨a, _⟩ | ⟨a, b⟩
    · omega
    · exact ⟨b, by omega⟩
theorem rmul_zl {y : Int} (hZ : Z = true) : rmul G k P Z 0 y = 0 := by unfold rmul; rw [if_pos ⟨hZ, .inl rfl⟩]
theorem rmul_zr {y : Int} (hZ : Z = true) : rmul G k P Z y 0 = 0 := by unfold rmul; rw [if_pos ⟨hZ, .inr rfl⟩]
theorem rmul_tri (h : RVa G m k P Z) {i a l j b r : Int} (i0 : 0 ≤ i) (i1 : i < m) (a0 : 0 ≤ a) (a1 : a < (G.length : Int)) (l0 : 0 ≤ l) (l1 : l < k) (j0 : 0 ≤ j) (j1 : j < m) (b0 : 0 ≤ b) (b1 : b < (G.length : Int)) (r0 : 0 ≤ r) (r1 : r < k) :
    rmul G k P Z ((i * (G.length : Int) + a) * k + l + zz Z) ((j * (G.length : Int) + b) * k + r + zz Z) = if M P l j < 0 then 0 else (i * (G.length : Int) + M G (M G a (M P l j)) b) * k + r + zz Z := by
  have e1 := h.enc i0 i1 a0 a1 l0 l1
  have e2 := h.enc j0 j1 b0 b1 r0 r1
  obtain ⟨c1, c2, c3⟩ := h.dec_enc (i := i) a0 a1 l0 l1
  obtain ⟨d1, d2, d3⟩ := h.dec_enc (i := j) b0 b1 r0 r1
  unfold rmul
  rw [if_neg (rmul_nz (G := G) (k := k) (P := P) (by omega) (by omega))]
  rw [show (i * (G.length : Int) + a) * k + l + zz Z - zz Z = (i * (G.length : Int) + a) * k + l by omega, show (j * (G.length : Int) + b) * k + r + zz Z - zz Z = (j * (G.length : Int) + b) * k + r by omega, c1, c2, c3, d1, d2, d3]
theorem rmul_asc (h : RVa G m k P Z) {x y z : Int} (x0 : 0 ≤ x) (x1 : x < m * k * (G.length : Int) + zz Z) (y0 : 0 ≤ y) (y1 : y < m * k * (G.length : Int) + zz Z) (z0 : 0 ≤ z) (z1 : z < m * k * (G.length : Int) + zz Z) :
    rmul G k P Z (rmul G k P Z x y) z = rmul G k P Z x (rmul G k P Z y z) := by
  have hs := h.grp.toSq
  rcases h.cases x0 x1 with ⟨hZ, rfl⟩ | ⟨i, a, l, i0, i1, a0, a1, l0, l1, rfl⟩
  · rw [rmul_zl hZ, rmul_zl hZ, rmul_zl hZ]
  rcases h.cases y0 y1 with ⟨hZ, rfl⟩ | ⟨j, b, r, j0, j1, b0, b1, r0, r1, rfl⟩
  · rw [rmul_zr hZ, rmul_zl hZ, rmul_zr hZ]
  rcases h.cases z0 z1 with ⟨hZ, rfl⟩ | ⟨n, c, s, n0, n1, c0, c1, s0, s1, rfl⟩
  · rw [rmul_zr hZ, rmul_zr hZ, rmul_zr hZ]
  obtain ⟨_, _, p1, p2, p3⟩ := h.P_in l0 l1 j0 j1
  obtain ⟨_, _, q1, q2, q3⟩ := h.P_in r0 r1 n0 n1
  rw [rmul_tri h i0 i1 a0 a1 l0 l1 j0 j1 b0 b1 r0 r1, rmul_tri h j0 j1 b0 b1 r0 r1 n0 n1 c0 c1 s0 s1]
  by_cases hp : M P l j < 0
  · rw [if_pos hp, rmul_zl (p3 hp)]
    by_cases hq : M P r n < 0
    · rw [if_pos hq, rmul_zr (p3 hp)]
    · rw [if_neg hq]
      have g1 := hs.lo b _ b0 b1 (by omega) q2
      have g2 := hs.hi b _ b0 b1 (by omega) q2
      have g3 := hs.lo _ c g1 g2 c0 c1
      have g4 := hs.hi _ c g1 g2 c0 c1
      rw [rmul_tri h i0 i1 a0 a1 l0 l1 j0 j1 g3 g4 s0 s1, if_pos hp]
  · rw [if_neg hp]
    have f1 := hs.lo a _ a0 a1 (by omega) p2
    have f2 := hs.hi a _ a0 a1 (by omega) p2
    have f3 := hs.lo _ b f1 f2 b0 b1
    have f4 := hs.hi _ b f1 f2 b0 b1
    rw [rmul_tri h i0 i1 f3 f4 r0 r1 n0 n1 c0 c1 s0 s1]
    by_cases hq : M P r n < 0
    · rw [if_pos hq, if_pos hq, rmul_zr (q3 hq)]
    · rw [if_neg hq, if_neg hq]
      have g1 := hs.lo b _ b0 b1 (by omega) q2
      have g2 := hs.hi b _ b0 b1 (by omega) q2
      have g3 := hs.lo _ c g1 g2 c0 c1
      have g4 := hs.hi _ c g1 g2 c0 c1
      rw [rmul_tri h i0 i1 a0 a1 l0 l1 j0 j1 g3 g4 s0 s1, if_neg hp]
      have e1 := h.grp.asc _ b _ f1 f2 b0 b1 (show 0 ≤ M P r n by omega) q2
      have e2 := h.grp.asc _ _ c f1 f2 g1 g2 c0 c1
      rw [e1, e2]
theorem rtab_n (h : RVa G m k P Z) : (((m * k * (G.length : Int) + zz Z).toNat : Nat) : Int) = m * k * (G.length : Int) + zz Z ∧ 0 < m * k * (G.length : Int) + zz Z := by
  have hz := zz_cases Z
  have hk := h.k1
  have hm := h.m1
  have hg := h.grp.pos
  have hpos : 0 < m * k * (G.length : Int) := Int.mul_pos (Int.mul_pos (by omega) (by omega)) hg
  omega
theorem rtab_va (h : RVa G m k P Z) : Va (rtab G m k P Z) := by
  obtain ⟨hn, h0⟩ := rtab_n h
  have hsz := h.sz
  unfold rtab
  generalize hN : (m * k * (G.length : Int) + zz Z).toNat = N at *
  have hin : ∀ x y : Int, 0 ≤ x → x < N → 0 ≤ y → y < N → 0 ≤ rmul G k P Z x y ∧ rmul G k P Z x y < N := fun x y a b c d => by
    have := rmul_in h a (show x < m * k * (G.length : Int) + zz Z by omega) c (show y < m * k * (G.length : Int) + zz Z by omega)
    omega
  refine ⟨tab_sq (by omega) (by omega) hin, fun x y z a b c d e f => ?_⟩
  rw [tab_len] at b d f
  have i1 := hin x y a b c d
  have i2 := hin y z c d e f
  rw [tab_M a b c d, tab_M c d e f, tab_M i1.1 i1.2 e f, tab_M a b i2.1 i2.2]
  exact rmul_asc h a (by omega) c (by omega) e (by omega)
theorem in2_sq {t : List (List Int)} (hs : Sq t) : In2 t := by
  have := hs.le
  refine ⟨by omega, fun v hv => ?_⟩
  obtain ⟨i, hi, rfl⟩ := List.getElem_of_mem hv
  have e : t[i] = R t (i : Int) := by
    show _ = t.getD ((i : Int)).toNat []
    rw [List.getD_eq_getElem?_getD]
    simp [hi]
  rw [e]
  have hr := hs.row i (by omega) (by omega)
  refine ⟨by omega, ?_⟩
  rw [rd_all (P := fun u => (Lit.int .i64 u).wf = true)]
  intro y h0 h1
  have a := hs.lo i y (by omega) (by omega) h0 (by omega)
  have b := hs.hi i y (by omega) (by omega) h0 (by omega)
  have c : rd (R t i) y = M t i y := rfl
  simp only [Lit.wf, Bool.and_eq_true, decide_eq_true_eq, IntKind.min, IntKind.max, IntKind.signed, IntKind.bits]
  simp
  omega
end Go.Ab

/- Lists that grow from the front to the back. Plain lemmas. No condition. -/
set_option linter.unusedVariables false
set_option linter.unusedSimpArgs false
set_option linter.unusedSectionVars false
namespace Go.Ab
open Go
theorem range_snoc {α : Type} (f : Nat → α) {i : Int} (h0 : 0 ≤ i) : (List.range i.toNat).map f ++ [f i.toNat] = (List.range (i + 1).toNat).map f := by
  rw [show (i + 1).toNat = i.toNat + 1 by omega, List.range_succ]; simp
open Classical in
theorem sel_succ {P : Int → Prop} {i : Int} {m : Nat} : sel P i (m + 1) = if P i then i :: sel P (i + 1) m else sel P (i + 1) m := by conv => lhs; unfold sel
theorem sel_app {P : Int → Prop} {i : Int} {m n : Nat} : sel P i (m + n) = sel P i m ++ sel P (i + m) n := by
  induction m generalizing i with
  | zero => simp [sel]
  | succ m ih =>
    rw [show m + 1 + n = (m + n) + 1 by omega, sel_succ, sel_succ, ih, show i + 1 + (m : Int) = i + ((m + 1 : Nat) : Int) by omega]
    split
    · rfl
    · rfl
theorem sel_snoc {P : Int → Prop} {i : Int} (h0 : 0 ≤ i) (hp : P i) : sel P 0 i.toNat ++ [i] = sel P 0 (i + 1).toNat := by
  rw [show (i + 1).toNat = i.toNat + 1 by omega, sel_app, sel_succ, show 0 + ((i.toNat : Nat) : Int) = i by omega, if_pos hp]; rfl
theorem sel_skip {P : Int → Prop} {i : Int} (h0 : 0 ≤ i) (hp : ¬ P i) : sel P 0 i.toNat = sel P 0 (i + 1).toNat := by
  rw [show (i + 1).toNat = i.toNat + 1 by omega, sel_app, sel_succ, show 0 + ((i.toNat : Nat) : Int) = i by omega, if_neg hp]; simp [sel]
theorem rdOf_set {α : Type} (d : α) {l : List α} {i j : Int} {v : α} (h0 : 0 ≤ i) (h1 : i < (l.length : Int)) (hj : 0 ≤ j) : rdOf d (l.set i.toNat v) j = if j = i then v else rdOf d l j := by
  show (l.set i.toNat v).getD j.toNat d = _
  rw [getD_set d (by omega)]
  by_cases h : j = i
  · rw [if_pos h, if_pos (by omega)]
  · rw [if_neg h, if_neg (by omega)]; rfl
theorem rdOf_rep {α : Type} (d : α) {n : Nat} {j : Int} {v : α} (hj : 0 ≤ j) (h : j < (n : Int)) : rdOf d (List.replicate n v) j = v := getD_rep d (by omega)
theorem rdOf_map {α : Type} (d : α) {n : Nat} {j : Int} {f : Nat → α} (hj : 0 ≤ j) (h : j < (n : Int)) : rdOf d ((List.range n).map f) j = f j.toNat := getD_map d (by omega)
theorem rdOf_ext {α : Type} (d : α) {l m : List α} (hl : l.length = m.length) (h : ∀ j : Int, 0 ≤ j → j < (l.length : Int) → rdOf d l j = rdOf d m j) : l = m :=
  getD_ext d hl fun j hj => by have := h j (by omega) (by omega); simpa [rdOf] using this
end Go.Ab

/- Partitions in canonical form, and the classes of Green's relations as lists. Plain lemmas. No condition. -/
set_option linter.unusedVariables false
set_option linter.unusedSimpArgs false
set_option linter.unusedSectionVars false
namespace Go.Ab
open Go
/-- Classes are numbered in the order of their least points. -/
def Cano (p : List Int) : Prop := ∀ i : Int, 0 ≤ i → i < (p.length : Int) → 0 ≤ rd p i ∧ ∀ c : Int, 0 ≤ c → c < rd p i → ∃ j : Int, 0 ≤ j ∧ j < i ∧ rd p j = c
/-- The classes of E on n points, in canonical form. -/
structure IsCl (n : Nat) (E : Int → Int → Prop) (p : List Int) : Prop where
  len : p.length = n
  eqv : ∀ x y : Int, 0 ≤ x → x < n → 0 ≤ y → y < n → (rd p x = rd p y ↔ E x y)
  can : Cano p
theorem IsCl.unique {n : Nat} {E : Int → Int → Prop} {p q : List Int} (hp : IsCl n E p) (hq : IsCl n E q) : p = q := by
  have l1 := hp.len
  have l2 := hq.len
  have key : ∀ k : Nat, ∀ i : Int, 0 ≤ i → i < n → i < k → rd p i = rd q i := by
    intro k
    induction k with
    | zero => intro i a b c; omega
    | succ k ih =>
      intro i a b c
      have half : ∀ {p q : List Int}, IsCl n E p → IsCl n E q → (∀ j : Int, 0 ≤ j → j < i → rd p j = rd q j) → ¬ rd p i < rd q i := by
        intro p q hp hq h hlt
        have l1 := hp.len
        have l2 := hq.len
        obtain ⟨j, j0, j1, j2⟩ := (hq.can i a (by omega)).2 (rd p i) (hp.can i a (by omega)).1 hlt
        have e1 := h j j0 j1
        have e2 := (hp.eqv i j a b j0 (by omega)).1 (by omega)
        have e3 := (hq.eqv i j a b j0 (by omega)).2 e2
        omega
      have h1 : ∀ j : Int, 0 ≤ j → j < i → rd p j = rd q j := fun j x y => ih j x (by omega) (by omega)
      have := half hp hq h1
      have := half hq hp (fun j x y => (h1 j x y).symm)
      omega
  exact rd_ext (by omega) fun j a b => key n j a (by omega) (by omega)
theorem IsCl.congr {n : Nat} {E F : Int → Int → Prop} {p : List Int} (hp : IsCl n E p) (h : ∀ x y : Int, 0 ≤ x → x < n → 0 ≤ y → y < n → (E x y ↔ F x y)) : IsCl n F p :=
  ⟨hp.len, fun x y a b c d => (hp.eqv x y a b c d).trans (h x y a b c d), hp.can⟩
theorem Cano.lt {p : List Int} (h : Cano p) {i : Int} (i0 : 0 ≤ i) (i1 : i < (p.length : Int)) : 0 ≤ rd p i ∧ rd p i ≤ i := by
  have key : ∀ k : Nat, ∀ i : Int, 0 ≤ i → i < (p.length : Int) → i < k → rd p i ≤ i := by
    intro k
    induction k with
    | zero => intro i a b c; omega
    | succ k ih =>
      intro i a b c
      refine Classical.byContradiction fun hn => ?_
      obtain ⟨j, j0, j1, j2⟩ := (h i a b).2 i a (by omega)
      have := ih j j0 (by omega) (by omega)
      omega
  exact ⟨(h i i0 i1).1, key p.length i i0 i1 i1⟩
/-- x is the least point of its class. -/
def Fst (p : List Int) (x : Int) : Prop := ∀ y : Int, 0 ≤ y → y < x → rd p y ≠ rd p x
/-- The least points of the classes. -/
noncomputable def frs (p : List Int) : List Int := sel (Fst p) 0 p.length
theorem Cano.seen {p : List Int} (h : Cano p) : ∀ k : Nat, k ≤ p.length → (∀ j : Int, 0 ≤ j → j < k → rd p j < ((sel (Fst p) 0 k).length : Int)) ∧ (∀ c : Int, 0 ≤ c → c < ((sel (Fst p) 0 k).length : Int) → ∃ j : Int, 0 ≤ j ∧ j < k ∧ rd p j = c ∧ Fst p j ∧ rd (sel (Fst p) 0 k) c = j) := by
  intro k
  induction k with
  | zero => intro _; exact ⟨fun j a b => by omega, fun c a b => by simp [sel] at b; omega⟩
  | succ k ih =>
    intro hk
    obtain ⟨h1, h2⟩ := ih (by omega)
    obtain ⟨c1, c2⟩ := h k (by omega) (by omega)
    by_cases hf : Fst p (k : Int)
    · have e : sel (Fst p) 0 (k + 1) = sel (Fst p) 0 k ++ [(k : Int)] := by
        have := sel_snoc (P := Fst p) (i := (k : Int)) (by omega) hf
        rw [show ((k : Int) + 1).toNat = k + 1 by omega, show ((k : Int)).toNat = k by omega] at this
        exact this.symm
      have hv : rd p k = ((sel (Fst p) 0 k).length : Int) := by
        have a1 : ¬ rd p k < ((sel (Fst p) 0 k).length : Int) := fun hlt => by
          obtain ⟨j, a, b, c, _⟩ := h2 _ c1 hlt
          exact hf j a b c
        have a2 : ¬ ((sel (Fst p) 0 k).length : Int) < rd p k := fun hlt => by
          obtain ⟨j, a, b, c⟩ := c2 _ (by omega) hlt
          have := h1 j a b
          omega
        omega
      rw [e]
      simp only [List.length_append, List.length_singleton]
      refine ⟨fun j a b => ?_, fun c a b => ?_⟩
      · by_cases hj : j = k
        · rw [hj]; omega
        · have := h1 j a (by omega); omega
      · by_cases hc : c < ((sel (Fst p) 0 k).length : Int)
        · obtain ⟨j, x, y, z, w, v⟩ := h2 c a hc
          exact ⟨j, x, by omega, z, w, by rw [rd_snoc a (by omega), if_neg (by omega)]; exact v⟩
        · exact ⟨k, by omega, by omega, by omega, hf, by rw [rd_snoc a (by omega), if_pos (by omega)]⟩
    · have e : sel (Fst p) 0 (k + 1) = sel (Fst p) 0 k := by
        have := sel_skip (P := Fst p) (i := (k : Int)) (by omega) hf
        rw [show ((k : Int) + 1).toNat = k + 1 by omega, show ((k : Int)).toNat = k by omega] at this
        exact this.symm
      rw [e]
      refine ⟨fun j a b => ?_, fun c a b => ?_⟩
      · by_cases hj : j = k
        · have hex : ∃ y : Int, 0 ≤ y ∧ y < (k : Int) ∧ rd p y = rd p k := Classical.byContradiction fun hn => hf fun y y0 y1 hy => hn ⟨y, y0, y1, hy⟩
          obtain ⟨y, y0, y1, hy⟩ := hex
          have := h1 y y0 y1
          rw [hj]; omega
        · exact h1 j a (by omega)
      · obtain ⟨j, x, y, z, w, v⟩ := h2 c a b
        exact ⟨j, x, by omega, z, w, v⟩
/-- A class is new exactly if its number is how many there were. -/
theorem Cano.new {p : List Int} (h : Cano p) {i : Int} (i0 : 0 ≤ i) (i1 : i < (p.length : Int)) : rd p i = ((sel (Fst p) 0 i.toNat).length : Int) ↔ Fst p i := by
  obtain ⟨h1, h2⟩ := h.seen i.toNat (by omega)
  obtain ⟨c1, c2⟩ := h i i0 i1
  constructor
  · intro e y y0 y1 hy
    have := h1 y y0 (by omega)
    omega
  · intro hf
    have a1 : ¬ rd p i < ((sel (Fst p) 0 i.toNat).length : Int) := fun hlt => by
      obtain ⟨j, a, b, c, _⟩ := h2 _ c1 hlt
      exact hf j a (by omega) c
    have a2 : ¬ ((sel (Fst p) 0 i.toNat).length : Int) < rd p i := fun hlt => by
      obtain ⟨j, a, b, c⟩ := c2 _ (by omega) hlt
      have := h1 j a (by omega)
      omega
    omega
theorem frs_len (p : List Int) : (frs p).length ≤ p.length := sel_len
theorem Cano.frs {p : List Int} (h : Cano p) {c : Int} (c0 : 0 ≤ c) (c1 : c < ((frs p).length : Int)) : 0 ≤ rd (frs p) c ∧ rd (frs p) c < (p.length : Int) ∧ rd p (rd (frs p) c) = c ∧ Fst p (rd (frs p) c) := by
  obtain ⟨j, a, b, d, e, f⟩ := (h.seen p.length (Nat.le_refl _)).2 c c0 c1
  have : rd (Go.Ab.frs p) c = j := f
  rw [this]; exact ⟨a, b, d, e⟩
theorem Cano.frs_lt {p : List Int} (h : Cano p) {i : Int} (i0 : 0 ≤ i) (i1 : i < (p.length : Int)) : rd p i < ((Go.Ab.frs p).length : Int) := (h.seen p.length (Nat.le_refl _)).1 i i0 i1
theorem Cano.frs_le {p : List Int} (h : Cano p) {i : Int} (i0 : 0 ≤ i) (i1 : i < (p.length : Int)) : rd (Go.Ab.frs p) (rd p i) ≤ i := by
  obtain ⟨a, b, c, d⟩ := h.frs (h i i0 i1).1 (h.frs_lt i0 i1)
  exact Classical.byContradiction fun hn => d i i0 (by omega) (by omega)
/-- How many classes: one more than the greatest number. -/
theorem Cano.count {p : List Int} (h : Cano p) (hp : 0 < (p.length : Int)) : 0 < ((Go.Ab.frs p).length : Int) ∧ ∃ i : Int, 0 ≤ i ∧ i < (p.length : Int) ∧ rd p i = ((Go.Ab.frs p).length : Int) - 1 := by
  have h0 := h.frs_lt (Int.le_refl 0) hp
  have := (h 0 (by omega) hp).1
  obtain ⟨a, b, c, d⟩ := h.frs (c := ((Go.Ab.frs p).length : Int) - 1) (by omega) (by omega)
  exact ⟨by omega, _, a, b, c⟩
/-- The members of class c, ascending. -/
noncomputable def mem (p : List Int) (c : Int) : List Int := sel (fun x => rd p x = c) 0 p.length
theorem mem_mem {p : List Int} {c x : Int} : x ∈ mem p c ↔ 0 ≤ x ∧ x < (p.length : Int) ∧ rd p x = c := by
  unfold mem; rw [sel_mem]; simp
/-- The least of those selected is the first. -/
theorem sel_head {P : Int → Prop} {i : Int} {m : Nat} {a : Int} (a0 : i ≤ a) (a1 : a < i + m) (ha : P a) (hf : ∀ y, i ≤ y → y < a → ¬ P y) : ∃ l, sel P i m = a :: l := by
  induction m generalizing i with
  | zero => omega
  | succ m ih =>
    rw [sel_succ]
    by_cases hi : P i
    · have : a = i := Classical.byContradiction fun hn => hf i (Int.le_refl _) (by omega) hi
      rw [if_pos hi, this]; exact ⟨_, rfl⟩
    · rw [if_neg hi]
      have : a ≠ i := fun e => hi (e ▸ ha)
      exact ih (by omega) (by omega) fun y y0 y1 => hf y (by omega) y1
theorem Cano.mem_head {p : List Int} (h : Cano p) {c : Int} (c0 : 0 ≤ c) (c1 : c < ((Go.Ab.frs p).length : Int)) : ∃ l, mem p c = rd (Go.Ab.frs p) c :: l := by
  obtain ⟨a, b, d, e⟩ := h.frs c0 c1
  exact sel_head a (by omega) d fun y y0 y1 hy => e y y0 y1 (by omega)
open Classical in
/-- A table of bools. -/
noncomputable def btab (n m : Nat) (P : Int → Int → Prop) : List (List Bool) := (List.range n).map fun y : Nat => (List.range m).map fun x : Nat => decide (P y x)
theorem btab_len (n m : Nat) (P : Int → Int → Prop) : (btab n m P).length = n := by simp [btab]
open Classical in
theorem btab_row {n m : Nat} {P : Int → Int → Prop} {y : Int} (y0 : 0 ≤ y) (y1 : y < n) : rdOf [] (btab n m P) y = (List.range m).map fun x : Nat => decide (P y x) := by
  unfold btab; rw [rdOf_map [] y0 y1, show ((y.toNat : Nat) : Int) = y by omega]
theorem btab_rlen {n m : Nat} {P : Int → Int → Prop} {y : Int} (y0 : 0 ≤ y) (y1 : y < n) : (rdOf [] (btab n m P) y).length = m := by rw [btab_row y0 y1]; simp
open Classical in
theorem btab_at {n m : Nat} {P : Int → Int → Prop} {x y : Int} (y0 : 0 ≤ y) (y1 : y < n) (x0 : 0 ≤ x) (x1 : x < m) : rdOf false (rdOf [] (btab n m P) y) x = decide (P y x) := by
  rw [btab_row y0 y1, rdOf_map false x0 x1, show ((x.toNat : Nat) : Int) = x by omega]
open Classical in
theorem btab_eq {n m : Nat} {P : Int → Int → Prop} {T : List (List Bool)} (hl : T.length = n) (hr : ∀ y : Int, 0 ≤ y → y < n → (rdOf [] T y).length = m ∧ ∀ x : Int, 0 ≤ x → x < m → (rdOf false (rdOf [] T y) x = true ↔ P y x)) : T = btab n m P := by
  refine rdOf_ext [] (by rw [btab_len]; exact hl) fun y y0 y1 => ?_
  have := hr y y0 (by omega)
  refine rdOf_ext false (by rw [btab_rlen y0 (by omega)]; exact this.1) fun x x0 x1 => ?_
  rw [btab_at y0 (by omega) x0 (by omega), Bool.eq_iff_iff, decide_eq_true_iff]
  exact this.2 x x0 (by omega)
open Classical in
theorem btab_congr {n m : Nat} {P Q : Int → Int → Prop} (h : ∀ y x : Int, 0 ≤ y → y < n → 0 ≤ x → x < m → (P y x ↔ Q y x)) : btab n m P = btab n m Q :=
  btab_eq (btab_len _ _ _) fun y y0 y1 => ⟨btab_rlen y0 y1, fun x x0 x1 => by rw [btab_at y0 y1 x0 x1, decide_eq_true_iff]; exact h y x y0 y1 x0 x1⟩
end Go.Ab

/- Numbering the classes of a list; what an association list holds. Plain lemmas. No condition. -/
set_option linter.unusedVariables false
set_option linter.unusedSimpArgs false
set_option linter.unusedSectionVars false
namespace Go.Ab
open Go
section
variable {β : Type}
def mget : List (Int × β) → Int → Option β
  | [], _ => none
  | e :: l, k => if e.1 = k then some e.2 else mget l k
def mset : List (Int × β) → Int → β → List (Int × β)
  | [], k, w => [(k, w)]
  | e :: l, k, w => if e.1 = k then (k, w) :: l else e :: mset l k w
theorem mset_new : ∀ {l : List (Int × β)} {k : Int} {w : β}, mget l k = none → mset l k w = l ++ [(k, w)]
  | [], _, _, _ => rfl
  | e :: l, k, w, h => by
    unfold mget at h
    unfold mset
    split at h
    · cases h
    · rename_i hn
      rw [if_neg hn, mset_new h]; rfl
theorem mget_mset : ∀ {l : List (Int × β)} {k k' : Int} {w : β}, mget (mset l k w) k' = if k' = k then some w else mget l k'
  | [], k, k', w => by simp [mset, mget, eq_comm]
  | e :: l, k, k', w => by
    unfold mset
    by_cases h : e.1 = k
    · rw [if_pos h]
      simp only [mget]
      by_cases h2 : k' = k
      · rw [if_pos h2.symm, if_pos h2]
      · rw [if_neg (fun e => h2 e.symm), if_neg h2, if_neg (fun e' => h2 (by rw [← e', h]))]
    · rw [if_neg h]
      simp only [mget]
      rw [mget_mset]
      by_cases h3 : e.1 = k'
      · rw [if_pos h3, if_pos h3, if_neg (fun e' => h (by rw [h3, e']))]
      · rw [if_neg h3, if_neg h3]
theorem mset_len {l : List (Int × β)} {k : Int} {w : β} (h : mget l k = none) : (mset l k w).length = l.length + 1 := by rw [mset_new h]; simp
end
/-- The first i of a list are numbered by o, with the numbers in l. -/
structure Num (x o : List Int) (l : List (Int × Int)) (i : Int) : Prop where
  len : o.length = x.length
  get : ∀ j : Int, 0 ≤ j → j < i → mget l (rd x j) = some (rd o j)
  from' : ∀ k c : Int, mget l k = some c → ∃ j : Int, 0 ≤ j ∧ j < i ∧ rd x j = k ∧ rd o j = c
  all : ∀ c : Int, 0 ≤ c → c < (l.length : Int) → ∃ j : Int, 0 ≤ j ∧ j < i ∧ rd o j = c
  lt : ∀ j : Int, 0 ≤ j → j < i → 0 ≤ rd o j ∧ rd o j < (l.length : Int)
  inj : ∀ j j' : Int, 0 ≤ j → j < i → 0 ≤ j' → j' < i → rd o j = rd o j' → rd x j = rd x j'
  can : ∀ j : Int, 0 ≤ j → j < i → ∀ c : Int, 0 ≤ c → c < rd o j → ∃ j' : Int, 0 ≤ j' ∧ j' < j ∧ rd o j' = c
theorem Num.zero {x o : List Int} (h : o.length = x.length) : Num x o [] 0 :=
  ⟨h, fun j a b => by omega, fun k c h => by (cases h), fun c a b => by (simp at b; omega), fun j a b => by omega, fun j j' a b => by omega, fun j a b => by omega⟩
theorem Num.old {x o : List Int} {l : List (Int × Int)} {i c : Int} (h : Num x o l i) (i0 : 0 ≤ i) (i1 : i < (x.length : Int)) (hc : mget l (rd x i) = some c) : Num x (o.set i.toNat c) l (i + 1) := by
  have hl := h.len
  have hs : ∀ j : Int, 0 ≤ j → rd (o.set i.toNat c) j = if j = i then c else rd o j := fun j j0 => rd_set i0 (by omega) j0
  obtain ⟨j0, a0, a1, a2, a3⟩ := h.from' _ _ hc
  refine ⟨by simpa using hl, fun j a b => ?_, fun k d hk => ?_, fun d a b => ?_, fun j a b => ?_, fun j j' a b a' b' => ?_, fun j a b d d0 d1 => ?_⟩
  · rw [hs j a]
    by_cases hj : j = i
    · rw [if_pos hj, hj]; exact hc
    · rw [if_neg hj]; exact h.get j a (by omega)
  · obtain ⟨j, x1, x2, x3, x4⟩ := h.from' k d hk
    exact ⟨j, x1, by omega, x3, by rw [hs j x1, if_neg (by omega)]; exact x4⟩
  · obtain ⟨j, x1, x2, x3⟩ := h.all d a b
    exact ⟨j, x1, by omega, by rw [hs j x1, if_neg (by omega)]; exact x3⟩
  · rw [hs j a]
    by_cases hj : j = i
    · rw [if_pos hj, ← a3]; exact h.lt j0 a0 a1
    · rw [if_neg hj]; exact h.lt j a (by omega)
  · rw [hs j a, hs j' a']
    by_cases hj : j = i
    · by_cases hj' : j' = i
      · intro _; rw [hj, hj']
      · rw [if_pos hj, if_neg hj']
        intro e
        rw [hj, ← a2]
        exact h.inj j0 j' a0 a1 a' (by omega) (by omega)
    · by_cases hj' : j' = i
      · rw [if_neg hj, if_pos hj']
        intro e
        rw [hj', ← a2]
        exact h.inj j j0 a (by omega) a0 a1 (by omega)
      · rw [if_neg hj, if_neg hj']
        exact h.inj j j' a (by omega) a' (by omega)
  · rw [hs j a] at d1
    by_cases hj : j = i
    · rw [if_pos hj, ← a3] at d1
      obtain ⟨j', x1, x2, x3⟩ := h.can j0 a0 a1 d d0 d1
      exact ⟨j', x1, by omega, by rw [hs j' x1, if_neg (by omega)]; exact x3⟩
    · rw [if_neg hj] at d1
      obtain ⟨j', x1, x2, x3⟩ := h.can j a (by omega) d d0 d1
      exact ⟨j', x1, by omega, by rw [hs j' x1, if_neg (by omega)]; exact x3⟩
theorem Num.new {x o : List Int} {l : List (Int × Int)} {i : Int} (h : Num x o l i) (i0 : 0 ≤ i) (i1 : i < (x.length : Int)) (hc : mget l (rd x i) = none) : Num x (o.set i.toNat l.length) (mset l (rd x i) l.length) (i + 1) := by
  have hl := h.len
  have hs : ∀ j : Int, 0 ≤ j → rd (o.set i.toNat l.length) j = if j = i then (l.length : Int) else rd o j := fun j j0 => rd_set i0 (by omega) j0
  have hne : ∀ j : Int, 0 ≤ j → j < i → rd x j ≠ rd x i := fun j a b e => by
    have := h.get j a b
    rw [e, hc] at this; cases this
  have hln : ((mset l (rd x i) (l.length : Int)).length : Int) = (l.length : Int) + 1 := by rw [mset_len hc]; omega
  refine ⟨by simpa using hl, fun j a b => ?_, fun k d hk => ?_, fun d a b => ?_, fun j a b => ?_, fun j j' a b a' b' => ?_, fun j a b d d0 d1 => ?_⟩
  · rw [hs j a, mget_mset]
    by_cases hj : j = i
    · rw [if_pos hj, hj, if_pos rfl]
    · rw [if_neg hj, if_neg (hne j a (by omega))]; exact h.get j a (by omega)
  · rw [mget_mset] at hk
    by_cases hki : k = rd x i
    · rw [if_pos hki] at hk
      exact ⟨i, i0, by omega, hki.symm, by rw [hs i i0, if_pos rfl]; simpa using hk⟩
    · rw [if_neg hki] at hk
      obtain ⟨j, x1, x2, x3, x4⟩ := h.from' k d hk
      exact ⟨j, x1, by omega, x3, by rw [hs j x1, if_neg (by omega)]; exact x4⟩
  · by_cases hd : d = (l.length : Int)
    · exact ⟨i, i0, by omega, by rw [hs i i0, if_pos rfl, hd]⟩
    · obtain ⟨j, x1, x2, x3⟩ := h.all d a (by omega)
      exact ⟨j, x1, by omega, by rw [hs j x1, if_neg (by omega)]; exact x3⟩
  · rw [hs j a]
    by_cases hj : j = i
    · rw [if_pos hj]; omega
    · rw [if_neg hj]
      have := h.lt j a (by omega)
      omega
  · rw [hs j a, hs j' a']
    by_cases hj : j = i
    · by_cases hj' : j' = i
      · intro _; rw [hj, hj']
      · rw [if_pos hj, if_neg hj']
        intro e
        have := h.lt j' a' (by omega)
        omega
    · by_cases hj' : j' = i
      · rw [if_neg hj, if_pos hj']
        intro e
        have := h.lt j a (by omega)
        omega
      · rw [if_neg hj, if_neg hj']
        exact h.inj j j' a (by omega) a' (by omega)
  · rw [hs j a] at d1
    by_cases hj : j = i
    · rw [if_pos hj] at d1
      obtain ⟨j', x1, x2, x3⟩ := h.all d d0 d1
      exact ⟨j', x1, by omega, by rw [hs j' x1, if_neg (by omega)]; exact x3⟩
    · rw [if_neg hj] at d1
      obtain ⟨j', x1, x2, x3⟩ := h.can j a (by omega) d d0 d1
      exact ⟨j', x1, by omega, by rw [hs j' x1, if_neg (by omega)]; exact x3⟩
theorem Num.done {x o : List Int} {l : List (Int × Int)} (h : Num x o l x.length) : IsCl x.length (fun i j => rd x i = rd x j) o := by
  have hl := h.len
  refine ⟨hl, fun i j a b c d => ⟨h.inj i j a b c d, fun e => ?_⟩, fun i a b => ⟨(h.lt i a (by omega)).1, h.can i a (by omega)⟩⟩
  have e1 := h.get i a b
  have e2 := h.get j c d
  rw [e, e2] at e1
  simpa [eq_comm] using e1
theorem IsCl.self {p : List Int} (h : Cano p) : IsCl p.length (fun i j => rd p i = rd p j) p := ⟨rfl, fun _ _ _ _ _ _ => Iff.rfl, h⟩
theorem cano_iff {p q : List Int} (h : IsCl p.length (fun i j => rd p i = rd p j) q) : p = q ↔ Cano p :=
  ⟨fun e => by rw [e]; exact h.can, fun hc => (IsCl.self hc).unique h⟩
end Go.Ab

/- Owned memory: what a function makes and writes, apart from what came in. Plain lemmas. No condition. -/
set_option linter.unusedVariables false
set_option linter.unusedSimpArgs false
set_option linter.unusedSectionVars false
namespace Go.Ab
open Go

theorem Le.of_get {H H' : AH} (hl : H.length ≤ H'.length) (h : ∀ b, b < H.length → H'[b]? = H[b]?) : Le H H' := by
  refine ⟨H'.drop H.length, List.ext_getElem? fun i => ?_⟩
  by_cases hi : i < H.length
  · rw [List.getElem?_append_left hi]; exact h i hi
  · rw [List.getElem?_append_right (by omega), List.getElem?_drop]; congr 1; omega
theorem Le.at {H H' : AH} (h : Le H H') {b : Nat} (hb : b < H.length) : H'[b]? = H[b]? := by
  obtain ⟨E, rfl⟩ := h; exact List.getElem?_append_left hb

/-- What is said of memory, and of which blocks. -/
structure Asr where
  on : AH → List Nat → Prop
  loc : ∀ {H H' : AH} {fp : List Nat}, on H fp → (∀ b, b ∈ fp → H'[b]? = H[b]?) → on H' fp
/-- How a cell holds a datum, and in which blocks. -/
structure Re (α : Type) where
  on : AH → AV → α → List Nat → Prop
  loc : ∀ {H H' : AH} {v : AV} {x : α} {fp : List Nat}, on H v x fp → (∀ b, b ∈ fp → H'[b]? = H[b]?) → on H' v x fp
  sing : ∀ {H : AH} {v : AV} {x : α} {fp : List Nat}, on H v x fp → single v = true
def reK (k : IntKind) : Re Int := ⟨fun _ v x fp => v = .int k x ∧ fp = [], fun h _ => h, fun h => by rw [h.1]; rfl⟩
abbrev reI : Re Int := reK .i64
def reB : Re Bool := ⟨fun _ v x fp => v = .bool x ∧ fp = [], fun h _ => h, fun h => by rw [h.1]; rfl⟩
def reS : Re ByteArray := ⟨fun _ v x fp => v = .str x ∧ fp = [], fun h _ => h, fun h => by rw [h.1]; rfl⟩

inductive All3 {α : Type} (r : Re α) (H : AH) : List AV → List α → List Nat → Prop where
  | nil : All3 r H [] [] []
  | cons {v : AV} {x : α} {f : List Nat} {vs : List AV} {xs : List α} {g : List Nat} (h : r.on H v x f) (hs : All3 r H vs xs g) : All3 r H (v :: vs) (x :: xs) (f ++ g)
section
variable {α : Type} {r : Re α} {H H' : AH}
theorem All3.len : ∀ {vs : List AV} {xs : List α} {g : List Nat}, All3 r H vs xs g → vs.length = xs.length
  | _, _, _, .nil => rfl
  | _, _, _, .cons _ hs => by simp [hs.len]
theorem All3.loc : ∀ {vs : List AV} {xs : List α} {g : List Nat}, All3 r H vs xs g → (∀ b, b ∈ g → H'[b]? = H[b]?) → All3 r H' vs xs g
  | _, _, _, .nil, _ => .nil
  | _, _, _, .cons h hs, hg => .cons (r.loc h fun b hb => hg b (List.mem_append_left _ hb)) (hs.loc fun b hb => hg b (List.mem_append_right _ hb))
theorem All3.join : ∀ {vs1 : List AV} {xs1 : List α} {g1 : List Nat} {vs2 : List AV} {xs2 : List α} {g2 : List Nat}, All3 r H vs1 xs1 g1 → All3 r H vs2 xs2 g2 → All3 r H (vs1 ++ vs2) (xs1 ++ xs2) (g1 ++ g2)
  | _, _, _, _, _, _, .nil, h => h
  | _, _, _, _, _, _, .cons h hs, h2 => by simp only [List.cons_append, List.append_assoc]; exact .cons h (hs.join h2)
theorem All3.split : ∀ {vs : List AV} {xs : List α} {g : List Nat}, All3 r H vs xs g → ∀ {j : Nat}, j < xs.length → ∃ vs1 v vs2 xs1 x xs2 g1 f g2, vs = vs1 ++ v :: vs2 ∧ xs = xs1 ++ x :: xs2 ∧ g = g1 ++ (f ++ g2) ∧ vs1.length = j ∧ xs1.length = j ∧ All3 r H vs1 xs1 g1 ∧ r.on H v x f ∧ All3 r H vs2 xs2 g2
  | _, _, _, .nil, _, h => by simp at h
  | _, _, _, .cons (v := v) (x := x) (f := f) (vs := vs) (xs := xs) (g := g) h hs, 0, _ => ⟨[], v, vs, [], x, xs, [], f, g, rfl, rfl, rfl, rfl, rfl, .nil, h, hs⟩
  | _, _, _, .cons (v := v) (x := x) (f := f) h hs, j + 1, hj => by
    obtain ⟨vs1, v', vs2, xs1, x', xs2, g1, f', g2, rfl, rfl, rfl, h1, h2, h3, h4, h5⟩ := hs.split (j := j) (by simpa using hj)
    exact ⟨v :: vs1, v', vs2, x :: xs1, x', xs2, f ++ g1, f', g2, rfl, rfl, by simp, by simp [h1], by simp [h2], .cons h h3, h4, h5⟩
theorem All3.get : ∀ {vs : List AV} {xs : List α} {g : List Nat}, All3 r H vs xs g → ∀ {j : Nat} {x : α}, xs[j]? = some x → ∃ v f, vs[j]? = some v ∧ r.on H v x f
  | _, _, _, .nil, _, _, h => by simp at h
  | _, _, _, .cons h hs, 0, _, e => by simp at e; subst e; exact ⟨_, _, rfl, h⟩
  | _, _, _, .cons h hs, j + 1, _, e => by
    obtain ⟨v, f, h1, h2⟩ := hs.get (j := j) (by simpa using e)
    exact ⟨v, f, by simpa using h1, h2⟩
theorem All3.take : ∀ {vs : List AV} {xs : List α} {g : List Nat} (n : Nat), All3 r H vs xs g → ∃ g1 g2, g = g1 ++ g2 ∧ All3 r H (vs.take n) (xs.take n) g1 ∧ All3 r H (vs.drop n) (xs.drop n) g2
  | _, _, _, 0, h => ⟨[], _, rfl, by simpa using .nil, by simpa using h⟩
  | _, _, _, n + 1, .nil => ⟨[], [], rfl, by simpa using .nil, by simpa using .nil⟩
  | _, _, _, n + 1, .cons (f := f) h hs => by
    obtain ⟨g1, g2, rfl, h1, h2⟩ := hs.take n
    exact ⟨f ++ g1, g2, by simp, by simpa using .cons h h1, by simpa using h2⟩
theorem All3.singles : ∀ {vs : List AV} {xs : List α} {g : List Nat}, All3 r H vs xs g → singles vs = true
  | _, _, _, .nil => rfl
  | _, _, _, .cons h hs => by simp only [Go.Ab.singles, r.sing h, cond_true]; exact hs.singles
theorem All3.rep {v : AV} {x : α} (h : r.on H v x []) : ∀ n : Nat, All3 r H (List.replicate n v) (List.replicate n x) []
  | 0 => by simpa using .nil
  | n + 1 => by simpa [List.replicate_succ] using All3.cons h (All3.rep h n)
theorem All3.map {f : α → AV} (h : ∀ x, r.on H (f x) x []) : ∀ xs : List α, All3 r H (xs.map f) xs []
  | [] => .nil
  | x :: xs => by simpa using All3.cons (h x) (All3.map h xs)

/-- A slice that is owned. -/
def OwnL (r : Re α) (H : AH) (s : Sl) (xs : List α) (fp : List Nat) : Prop :=
  s.len = xs.length ∧ ((s.p = none ∧ xs = [] ∧ fp = []) ∨ ∃ b us vs ws g, s.p = some ⟨b, us.length⟩ ∧ H[b]? = some (.cells (us ++ (vs ++ ws)) 1) ∧ All3 r H vs xs g ∧ fp = b :: g)
theorem OwnL.loc {s : Sl} {xs : List α} {fp : List Nat} (h : OwnL r H s xs fp) (hf : ∀ b, b ∈ fp → H'[b]? = H[b]?) : OwnL r H' s xs fp := by
  obtain ⟨h1, h2 | ⟨b, us, vs, ws, g, h2, h3, h4, rfl⟩⟩ := h
  · exact ⟨h1, .inl h2⟩
  · exact ⟨h1, .inr ⟨b, us, vs, ws, g, h2, by rw [hf b (by simp), h3], h4.loc fun b' hb => hf b' (by simp [hb]), rfl⟩⟩
/-- .. but for the element j, whose cell holds v. -/
def OwnH (r : Re α) (H : AH) (s : Sl) (xs : List α) (j : Nat) (v : AV) (fp : List Nat) : Prop :=
  s.len = xs.length ∧ ∃ b us vs1 vs2 ws xs1 x xs2 g1 g2, s.p = some ⟨b, us.length⟩ ∧ H[b]? = some (.cells (us ++ ((vs1 ++ v :: vs2) ++ ws)) 1) ∧ xs = xs1 ++ x :: xs2 ∧ xs1.length = j ∧ All3 r H vs1 xs1 g1 ∧ All3 r H vs2 xs2 g2 ∧ fp = b :: (g1 ++ g2)
theorem OwnH.loc {s : Sl} {xs : List α} {j : Nat} {v : AV} {fp : List Nat} (h : OwnH r H s xs j v fp) (hf : ∀ b, b ∈ fp → H'[b]? = H[b]?) : OwnH r H' s xs j v fp := by
  obtain ⟨h1, b, us, vs1, vs2, ws, xs1, x, xs2, g1, g2, h2, h3, h4, h5, h6, h7, rfl⟩ := h
  exact ⟨h1, b, us, vs1, vs2, ws, xs1, x, xs2, g1, g2, h2, by rw [hf b (by simp), h3], h4, h5, h6.loc fun b' hb => hf b' (by simp [hb]), h7.loc fun b' hb => hf b' (by simp [hb]), rfl⟩
end
def reL {α : Type} (r : Re α) : Re (List α) := ⟨fun H v xs fp => ∃ s, v = .sl s ∧ OwnL r H s xs fp, fun ⟨s, h1, h2⟩ hf => ⟨s, h1, h2.loc hf⟩, fun ⟨s, h1, _⟩ => by rw [h1]; rfl⟩
def own {α : Type} (r : Re α) (s : Sl) (xs : List α) : Asr := ⟨fun H fp => OwnL r H s xs fp, fun h hf => h.loc hf⟩
def ownH {α : Type} (r : Re α) (s : Sl) (xs : List α) (j : Nat) (v : AV) : Asr := ⟨fun H fp => OwnH r H s xs j v fp, fun h hf => h.loc hf⟩
/-- A block's cells, as they are. -/
def ownC (p : Pt) (cs : List AV) : Asr := ⟨fun H fp => At1 H p cs ∧ fp = [p.b], fun h hf => ⟨⟨h.1.1, by rw [hf _ (by simp [h.2])]; exact h.1.2⟩, h.2⟩⟩
/-- A map's entries, as they are. -/
def ownM (b : Nat) (es : List (AV × AV)) : Asr := ⟨fun H fp => H[b]? = some (.map es) ∧ fp = [b], fun h hf => ⟨by rw [hf _ (by simp [h.2])]; exact h.1, h.2⟩⟩

/-! ### Assertions side by side -/
inductive Seps (H : AH) : List Asr → List Nat → Prop where
  | nil : Seps H [] []
  | cons {P : Asr} {f : List Nat} {L : List Asr} {g : List Nat} (h : P.on H f) (hs : Seps H L g) : Seps H (P :: L) (f ++ g)
theorem Seps.loc {H H' : AH} : ∀ {L : List Asr} {g : List Nat}, Seps H L g → (∀ b, b ∈ g → H'[b]? = H[b]?) → Seps H' L g
  | _, _, .nil, _ => .nil
  | _, _, .cons (P := P) h hs, hg => .cons (P.loc h fun b hb => hg b (List.mem_append_left _ hb)) (hs.loc fun b hb => hg b (List.mem_append_right _ hb))
theorem Seps.join {H : AH} : ∀ {L M : List Asr} {f g : List Nat}, Seps H L f → Seps H M g → Seps H (L ++ M) (f ++ g)
  | _, _, _, _, .nil, h => h
  | _, _, _, _, .cons h hs, h2 => by simp only [List.cons_append, List.append_assoc]; exact .cons h (hs.join h2)
/-- Since H0 what came in is as it was; what is said of L is said of different blocks, all of them new. -/
def Sep (H0 H : AH) (L : List Asr) : Prop := Le H0 H ∧ ∃ fp, Seps H L fp ∧ fp.Nodup ∧ ∀ b, b ∈ fp → H0.length ≤ b ∧ b < H.length
section
variable {H0 H H' : AH} {P P' Q : Asr} {L M : List Asr}
theorem Sep.le (h : Sep H0 H L) : Le H0 H := h.1
theorem Sep.nil (H : AH) : Sep H H [] := ⟨Le.refl H, [], .nil, by simp, by simp⟩
theorem Sep.of_le (h : Le H0 H) : Sep H0 H [] := ⟨h, [], .nil, by simp, by simp⟩
theorem Sep.upd (h : Sep H0 H (P :: L)) (hu : ∀ f, P.on H f → f.Nodup → (∀ b, b ∈ f → b < H.length) → ∃ f', P'.on H' f' ∧ f'.Nodup ∧ (∀ b, b ∈ f' → b ∈ f ∨ (H.length ≤ b ∧ b < H'.length)) ∧ H.length ≤ H'.length ∧ ∀ b, b < H.length → b ∉ f → H'[b]? = H[b]?) : Sep H0 H' (P' :: L) := by
  obtain ⟨hle, fp, hs, nd, hb⟩ := h
  cases hs with
  | cons hP hL =>
    rename_i f g
    obtain ⟨nf, ng, nfg⟩ := List.nodup_append.1 nd
    obtain ⟨f', h1, h2, h3, h4, h5⟩ := hu f hP nf fun b hf => (hb b (List.mem_append_left _ hf)).2
    have ll := hle.len
    refine ⟨Le.of_get (by omega) fun b hb0 => ?_, f' ++ g, .cons h1 (hL.loc fun b hg => ?_), ?_, fun b hbm => ?_⟩
    · rw [h5 b (by omega) (fun hf => by have := hb b (List.mem_append_left _ hf); omega)]; exact hle.at hb0
    · have := hb b (List.mem_append_right _ hg)
      exact h5 b this.2 fun hf => nfg b hf b hg rfl
    · refine List.nodup_append.2 ⟨h2, ng, fun a ha c hc e => ?_⟩
      subst e
      rcases h3 a ha with hf | hf
      · exact nfg a hf a hc rfl
      · have := hb a (List.mem_append_right _ hc); omega
    · rcases List.mem_append.1 hbm with hf | hg
      · rcases h3 b hf with hf | hf
        · have := hb b (List.mem_append_left _ hf); omega
        · omega
      · have := hb b (List.mem_append_right _ hg); omega
theorem Sep.call (h : Sep H0 H L) (h' : Sep H H' M) : Sep H0 H' (M ++ L) := by
  obtain ⟨hle, fp, hs, nd, hb⟩ := h
  obtain ⟨hle', fp', hs', nd', hb'⟩ := h'
  have := hle.len
  have := hle'.len
  refine ⟨hle.trans hle', fp' ++ fp, hs'.join (hs.loc fun b hf => hle'.at (hb b hf).2), List.nodup_append.2 ⟨nd', nd, fun a ha c hc e => ?_⟩, fun b hf => ?_⟩
  · have := hb' a ha; have := hb c hc; omega
  · rcases List.mem_append.1 hf with hf | hf
    · have := hb' b hf; omega
    · have := hb b hf; omega
theorem Sep.on (h : Sep H0 H L) (h' : Le H H') : Sep H0 H' L := h.call (Sep.of_le h')
theorem Sep.base {H1 : AH} (h : Sep H1 H L) (h' : Le H0 H1) : Sep H0 H L := by
  have := (Sep.of_le h').call h
  simpa using this
theorem Sep.drop (h : Sep H0 H (P :: L)) : Sep H0 H L := by
  obtain ⟨hle, fp, hs, nd, hb⟩ := h
  cases hs with
  | cons hP hL => exact ⟨hle, _, hL, (List.nodup_append.1 nd).2.1, fun b hg => hb b (List.mem_append_right _ hg)⟩
theorem Sep.all (h : Sep H0 H L) : Sep H0 H [] := Sep.of_le h.1
theorem Seps.perm {H : AH} {L M : List Asr} (hp : L.Perm M) : ∀ {fp : List Nat}, Seps H L fp → ∃ fp', Seps H M fp' ∧ fp.Perm fp' := by
  induction hp with
  | nil => intro fp h; exact ⟨fp, h, .refl _⟩
  | cons x _ ih =>
    intro fp h
    cases h with
    | cons hP hs =>
      obtain ⟨g', h1, h2⟩ := ih hs
      exact ⟨_, .cons hP h1, h2.append_left _⟩
  | swap x y l =>
    intro fp h
    cases h with
    | cons hP hs =>
      cases hs with
      | cons hQ hL => exact ⟨_, .cons hQ (.cons hP hL), by rw [← List.append_assoc, ← List.append_assoc]; exact List.perm_append_comm.append_right _⟩
  | trans _ _ ih1 ih2 =>
    intro fp h
    obtain ⟨f1, h1, h2⟩ := ih1 h
    obtain ⟨f2, h3, h4⟩ := ih2 h1
    exact ⟨f2, h3, h2.trans h4⟩
theorem Sep.perm (h : Sep H0 H L) (hp : L.Perm M) : Sep H0 H M := by
  obtain ⟨hle, fp, hs, nd, hb⟩ := h
  obtain ⟨fp', h1, h2⟩ := hs.perm hp
  exact ⟨hle, fp', h1, h2.nodup_iff.1 nd, fun b hf => hb b (h2.mem_iff.2 hf)⟩
theorem Sep.swap (h : Sep H0 H (P :: Q :: L)) : Sep H0 H (Q :: P :: L) := h.perm (.swap _ _ _)
end
/-- The assertion n comes first. -/
def pullL {β : Type} : Nat → List β → List β
  | 0, l => l
  | _ + 1, [] => []
  | n + 1, a :: l => match pullL n l with
    | [] => [a]
    | b :: m => b :: a :: m
theorem pullL_perm {β : Type} : ∀ (n : Nat) (l : List β), l.Perm (pullL n l)
  | 0, l => .refl _
  | _ + 1, [] => .refl _
  | n + 1, a :: l => by
    have h := pullL_perm n l
    unfold pullL
    cases e : pullL n l with
    | nil => rw [e] at h; exact h.cons a
    | cons b m => rw [e] at h; exact (h.cons a).trans (.swap _ _ _)
/-- .. and the first goes to place n. -/
def pushL {β : Type} : Nat → List β → List β
  | 0, l => l
  | _ + 1, [] => []
  | _ + 1, [a] => [a]
  | n + 1, a :: b :: l => b :: pushL n (a :: l)
theorem pushL_perm {β : Type} : ∀ (n : Nat) (l : List β), l.Perm (pushL n l)
  | 0, l => .refl _
  | _ + 1, [] => .refl _
  | _ + 1, [a] => .refl _
  | n + 1, a :: b :: l => (List.Perm.swap b a l).trans ((pushL_perm n (a :: l)).cons b)
section
variable {H0 H H' : AH} {P P' Q : Asr} {L M : List Asr}
theorem Sep.pull (n : Nat) (h : Sep H0 H L) : Sep H0 H (pullL n L) := h.perm (pullL_perm n L)
theorem Sep.push (n : Nat) (h : Sep H0 H L) : Sep H0 H (pushL n L) := h.perm (pushL_perm n L)
theorem Sep.mono (h : Sep H0 H (P :: L)) (hu : ∀ f, P.on H f → ∃ f', P'.on H f' ∧ f'.Sublist f) : Sep H0 H (P' :: L) := by
  refine h.upd fun f h1 h2 h3 => ?_
  obtain ⟨f', h4, h5⟩ := hu f h1
  exact ⟨f', h4, h5.nodup h2, fun b hb => .inl (h5.subset hb), Nat.le_refl _, fun _ _ _ => rfl⟩
theorem Sep.keep (h : Sep H0 H (L ++ M)) : Sep H0 H L := by
  have key : ∀ {L : List Asr} {g : List Nat}, Seps H (L ++ M) g → ∃ f, Seps H L f ∧ f.Sublist g := by
    intro L
    induction L with
    | nil => intro g h; exact ⟨[], .nil, List.nil_sublist _⟩
    | cons P L ih =>
      intro g h
      cases h with
      | cons hP hs =>
        obtain ⟨f, h1, h2⟩ := ih hs
        exact ⟨_, .cons hP h1, (List.Sublist.refl _).append h2⟩
  obtain ⟨hle, fp, hs, nd, hb⟩ := h
  obtain ⟨f, h1, h2⟩ := key hs
  exact ⟨hle, f, h1, h2.nodup nd, fun b hf => hb b (h2.subset hf)⟩
theorem Sep.take (n : Nat) (h : Sep H0 H L) : Sep H0 H (L.take n) := by
  rw [← List.take_append_drop n L] at h; exact h.keep
/-- Assertions taken out one after the other, each by its place among those left. -/
def ordL {β : Type} : List Nat → List β → List β
  | [], _ => []
  | i :: is, l => match pullL i l with
    | [] => []
    | a :: m => a :: ordL is m
theorem ordL_perm {β : Type} : ∀ (is : List Nat) (l : List β), ∃ m, l.Perm (ordL is l ++ m)
  | [], l => ⟨l, .refl _⟩
  | i :: is, l => by
    have h := pullL_perm i l
    unfold ordL
    cases e : pullL i l with
    | nil => rw [e] at h; exact ⟨[], h⟩
    | cons a m =>
      rw [e] at h
      obtain ⟨m', hm⟩ := ordL_perm is m
      exact ⟨m', h.trans (hm.cons a)⟩
theorem Sep.ord (is : List Nat) (h : Sep H0 H L) : Sep H0 H (ordL is L) := by
  obtain ⟨m, hm⟩ := ordL_perm is L
  exact (h.perm hm).keep
theorem Sep.join2 {R : Asr} (h : Sep H0 H (P :: Q :: L)) (hu : ∀ f g, P.on H f → Q.on H g → R.on H (f ++ g)) : Sep H0 H (R :: L) := by
  obtain ⟨hle, fp, hs, nd, hb⟩ := h
  cases hs with
  | cons hP hs =>
    cases hs with
    | cons hQ hL =>
      rw [← List.append_assoc] at *
      exact ⟨hle, _, .cons (hu _ _ hP hQ) hL, nd, hb⟩
end

/-! ### What an owned slice reads as -/
section
variable {α : Type} {r : Re α} {H0 H : AH} {L : List Asr} {s : Sl} {xs : List α}
theorem OwnL.rowOf {fp : List Nat} (h : OwnL r H s xs fp) : RowOf (fun v x => ∃ f, r.on H v x f) H s xs := by
  obtain ⟨h1, ⟨h2, rfl, rfl⟩ | ⟨b, us, vs, ws, g, h2, h3, h4, rfl⟩⟩ := h
  · exact ⟨h1, fun j x hj => by simp at hj, fun p hp => by rw [h2] at hp; cases hp⟩
  · have hl := h4.len
    refine ⟨h1, fun j x hj => ?_, fun p hp => ?_⟩
    · obtain ⟨v, f, e1, e2⟩ := h4.get hj
      have hjv := (List.getElem?_eq_some_iff.1 e1).1
      exact ⟨⟨b, us.length⟩, _, 1, v, h2, h3, by rw [List.getElem?_append_right (by simp)]; simp only [Nat.add_sub_cancel_left]; rw [List.getElem?_append_left hjv]; exact e1, f, e2⟩
    · rw [h2] at hp; cases hp
      exact ⟨_, 1, h3, by simp [h1, hl]⟩
theorem Sep.head {P : Asr} (h : Sep H0 H (P :: L)) : ∃ f, P.on H f := by
  obtain ⟨hle, fp, hs, nd, hb⟩ := h
  cases hs with
  | cons hP hL => exact ⟨_, hP⟩
theorem Sep.len (h : Sep H0 H (own r s xs :: L)) : s.len = xs.length := by obtain ⟨f, hf⟩ := h.head; exact hf.1
theorem Sep.rowOf (h : Sep H0 H (own r s xs :: L)) : RowOf (fun v x => ∃ f, r.on H v x f) H s xs := by obtain ⟨f, hf⟩ := h.head; exact hf.rowOf
theorem Sep.row {xs : List Int} (h : Sep H0 H (own reI s xs :: L)) : Row H s xs := h.rowOf.imp fun v x ⟨f, e⟩ => e.1
theorem Sep.rowB {xs : List Bool} (h : Sep H0 H (own reB s xs :: L)) : RowB H s xs := h.rowOf.imp fun v x ⟨f, e⟩ => e.1
theorem Sep.tab {T : List (List Int)} (h : Sep H0 H (own (reL reI) s T :: L)) : Tab H s T :=
  h.rowOf.imp fun v x ⟨f, t, e1, e2⟩ => ⟨t, e1, e2.rowOf.imp fun v x ⟨f, e⟩ => e.1⟩
theorem Sep.at1 {p : Pt} {cs : List AV} (h : Sep H0 H (ownC p cs :: L)) : At1 H p cs := by obtain ⟨f, hf⟩ := h.head; exact hf.1
theorem Sep.nilS (r : Re α) (h : Sep H0 H L) : Sep H0 H (own r ⟨none, 0⟩ [] :: L) := by
  obtain ⟨hle, fp, hs, nd, hb⟩ := h
  exact ⟨hle, [] ++ fp, .cons ⟨rfl, .inl ⟨rfl, rfl, rfl⟩⟩ hs, nd, hb⟩
/-- An element that is not laid yet. -/
def elt (r : Re α) (u : AV) (x : α) : Asr := ⟨fun H fp => r.on H u x fp, fun h hf => r.loc h hf⟩
theorem Sep.elt0 {u : AV} {x : α} (h : Sep H0 H L) (hu : r.on H u x []) : Sep H0 H (elt r u x :: L) := by
  obtain ⟨hle, fp, hs, nd, hb⟩ := h
  exact ⟨hle, [] ++ fp, .cons hu hs, nd, hb⟩
theorem Sep.eltL (h : Sep H0 H (own r s xs :: L)) : Sep H0 H (elt (reL r) (.sl s) xs :: L) := h.mono fun f hf => ⟨f, ⟨s, rfl, hf⟩, .refl _⟩
theorem Sep.ofElt (h : Sep H0 H (elt (reL r) (.sl s) xs :: L)) : Sep H0 H (own r s xs :: L) := h.mono fun f hf => by
  obtain ⟨s', e, h2⟩ := hf; cases e; exact ⟨f, h2, .refl _⟩
theorem Sep.eq {ys : List α} (h : Sep H0 H (own r s xs :: L)) (e : xs = ys) : Sep H0 H (own r s ys :: L) := e ▸ h
/-- A part from the beginning. -/
theorem Sep.cut (h : Sep H0 H (own r s xs :: L)) (n : Nat) (hn : n ≤ xs.length) : Sep H0 H (own r ⟨s.p, n⟩ (xs.take n) :: L) := h.mono fun f hf => by
  obtain ⟨h1, ⟨h2, rfl, rfl⟩ | ⟨b, us, vs, ws, g, h2, h3, h4, rfl⟩⟩ := hf
  · exact ⟨[], ⟨by simp at hn; simp [hn], .inl ⟨h2, by simp, rfl⟩⟩, .refl _⟩
  · obtain ⟨g1, g2, rfl, e1, e2⟩ := h4.take n
    exact ⟨b :: g1, ⟨by simp; omega, .inr ⟨b, us, vs.take n, vs.drop n ++ ws, g1, h2, by rw [h3, ← List.append_assoc (vs.take n), List.take_append_drop], e1, rfl⟩⟩, by simp⟩
/-- A part up to the end. -/
theorem Sep.cutL (h : Sep H0 H (own r s xs :: L)) (n : Nat) (hn : n ≤ xs.length) : Sep H0 H (own r ⟨s.p.map fun p => ⟨p.b, p.o + n⟩, xs.length - n⟩ (xs.drop n) :: L) := h.mono fun f hf => by
  obtain ⟨h1, ⟨h2, rfl, rfl⟩ | ⟨b, us, vs, ws, g, h2, h3, h4, rfl⟩⟩ := hf
  · exact ⟨[], ⟨by simp, .inl ⟨by simp [h2], by simp, rfl⟩⟩, .refl _⟩
  · obtain ⟨g1, g2, rfl, e1, e2⟩ := h4.take n
    have hl := h4.len
    refine ⟨b :: g2, ⟨by simp, .inr ⟨b, us ++ vs.take n, vs.drop n, ws, g2, by simp [h2]; omega, by rw [h3]; simp [← List.append_assoc]; rw [List.append_assoc us, List.take_append_drop], e2, rfl⟩⟩, by simp⟩
end

/-! ### Steps -/
section
variable {A : Type} {Q : A → AH → Prop} {H0 H : AH} {L : List Asr} {α : Type} {r : Re α} {s : Sl} {xs : List α} {lo : Nat}
theorem Sep.new {H' : AH} {P : Asr} (h : Sep H0 H L) (hl : H.length + 1 = H'.length) (hle : Le H H') (hP : P.on H' [H.length]) : Sep H0 H' (P :: L) :=
  h.call (M := [P]) ⟨hle, [H.length], .cons hP .nil, by simp, fun b hb => by simp at hb; omega⟩
theorem OwnL.mk {H : AH} {b : Nat} {vs : List AV} (hb : H[b]? = some (.cells vs 1)) (h : All3 r H vs xs []) : OwnL r H ⟨some ⟨b, 0⟩, xs.length⟩ xs [b] :=
  ⟨rfl, .inr ⟨b, [], vs, [], [], rfl, by simpa using hb, h, rfl⟩⟩
/-- A slice is made. -/
theorem sp_mks {z : AV} {x : α} {n : Int} {bytes : Nat} {K : (ρ : Type) → Nat → (A → AH → Option ρ) → Sl → AH → Option ρ} (hS : Sep H0 H L) (r : Re α) (hz : ∀ H, r.on H z x []) (h0 : 0 ≤ n) (h2 : n * bytes ≤ 70368744177664) (hK : ∀ s H', Sep H0 H' (own r s (List.replicate n.toNat x) :: L) → Ev (fun ρ k κ => K ρ k κ s H') Q) : Ev (fun ρ k κ => mks H [z] bytes n n (K ρ k κ)) Q := by
  refine ev_mks h0 (Int.le_refl _) h2 ?_
  rw [flatten_rep]
  have e := hK ⟨some ⟨H.length, 0⟩, n.toNat⟩ (H ++ [.cells (List.replicate n.toNat z) 1]) (hS.new (by simp) ⟨_, rfl⟩ ?_)
  · exact e
  · have := OwnL.mk (r := r) (H := H ++ [.cells (List.replicate n.toNat z) 1]) (b := H.length) (xs := List.replicate n.toNat x) (vs := List.replicate n.toNat z) (by simp) (All3.rep (hz _) _)
    exact (by simpa using this : OwnL r (H ++ [.cells (List.replicate n.toNat z) 1]) ⟨some ⟨H.length, 0⟩, n.toNat⟩ (List.replicate n.toNat x) [H.length])
/-- A slice is written out. -/
theorem sp_lit {cs : List AV} {n : Nat} (xs : List α) {K : (ρ : Type) → Nat → (A → AH → Option ρ) → Sl → AH → Option ρ} (hS : Sep H0 H L) (r : Re α) (h : ∀ H, All3 r H cs xs []) (hK : ∀ s H', Sep H0 H' (own r s xs :: L) → Ev (fun ρ k κ => K ρ k κ s H') Q) (hn : n = xs.length := by rfl) : Ev (fun ρ k κ => mkb H cs 1 n (K ρ k κ)) Q := by
  subst hn
  refine ev_mkb (hK _ _ (hS.new (by simp) ⟨_, rfl⟩ (OwnL.mk (by simp) (h _))))
/-- A struct or variable is laid. -/
theorem sp_alc {cs : List AV} {K : (ρ : Type) → Nat → (A → AH → Option ρ) → Pt → AH → Option ρ} (hS : Sep H0 H L) (hK : ∀ p H', Sep H0 H' (ownC p cs :: L) → Ev (fun ρ k κ => K ρ k κ p H') Q) : Ev (fun ρ k κ => alc H cs (K ρ k κ)) Q :=
  ev_alc (hK _ _ (hS.new (by simp) ⟨_, rfl⟩ ⟨⟨rfl, by simp⟩, rfl⟩))
/-- A cell of it is stored into. -/
theorem sp_stcC {p : Pt} {cs : List AV} {j : Nat} {u : AV} {K : (ρ : Type) → Nat → (A → AH → Option ρ) → AH → Option ρ} (hS : Sep H0 H (ownC p cs :: L)) (hlo : lo ≤ H0.length) (hj : j < cs.length) (hK : ∀ H', Sep H0 H' (ownC p (cs.set j u) :: L) → Ev (fun ρ k κ => K ρ k κ H') Q) : Ev (fun ρ k κ => stc lo H ⟨p.b, p.o + j⟩ u (K ρ k κ)) Q := by
  have hb : lo ≤ p.b := by
    obtain ⟨hle, fp, hs, nd, hb⟩ := hS
    cases hs with
    | cons hP hL => have := hb p.b (by simp [hP.2]); omega
  have hp := hS.at1
  refine ev_stc (p := ⟨p.b, p.o + j⟩) hp.2 hb (by simp [hp.1, hj]) (hK _ (hS.upd fun f hf nf hlt => ⟨[p.b], ⟨⟨hp.1, ?_⟩, rfl⟩, by simp, fun b hm => .inl (by rw [hf.2]; exact hm), by simp, fun b _ hnf => ?_⟩))
  · have : p.b < H.length := (List.getElem?_eq_some_iff.1 hp.2).1
    simp [hp.1, List.getElem?_set, this]
  · rw [List.getElem?_set_ne (fun e => hnf (by rw [hf.2]; exact List.mem_singleton.2 e.symm))]
theorem sp_stnC {p : Pt} {cs us : List AV} {K : (ρ : Type) → Nat → (A → AH → Option ρ) → AH → Option ρ} (hS : Sep H0 H (ownC p cs :: L)) (hlo : lo ≤ H0.length) (hj : us.length = cs.length) (hK : ∀ H', Sep H0 H' (ownC p us :: L) → Ev (fun ρ k κ => K ρ k κ H') Q) : Ev (fun ρ k κ => stn lo H p us (K ρ k κ)) Q := by
  have hb : lo ≤ p.b := by
    obtain ⟨hle, fp, hs, nd, hb⟩ := hS
    cases hs with
    | cons hP hL => have := hb p.b (by simp [hP.2]); omega
  have hp := hS.at1
  refine ev_stnB hp hj hb fun H' e hp' => hK _ (hS.upd fun f hf nf hlt => ⟨[p.b], ⟨hp', rfl⟩, by simp, fun b hm => .inl (by rw [hf.2]; exact hm), by simp [e], fun b _ hnf => ?_⟩)
  rw [e, List.getElem?_set_ne (fun e => hnf (by rw [hf.2]; simp [e]))]
theorem set_mid {β : Type} (us vs ws : List β) (v u : β) : (us ++ ((vs ++ v :: ws))).set (us.length + vs.length) u = us ++ (vs ++ u :: ws) := by
  rw [List.set_append_right _ _ (by omega)]; simp
/-- An element is stored. -/
theorem sp_putE {i : Int} {u : AV} {x : α} {K : (ρ : Type) → Nat → (A → AH → Option ρ) → AH → Option ρ} (hS : Sep H0 H (own r s xs :: elt r u x :: L)) (hlo : lo ≤ H0.length) (h0 : 0 ≤ i) (h1 : i < (xs.length : Int)) (hK : ∀ H', Sep H0 H' (own r s (xs.set i.toNat x) :: L) → Ev (fun ρ k κ => K ρ k κ H') Q) : Ev (fun ρ k κ => idx s i 1 fun p => stc lo H p u (K ρ k κ)) Q := by
  obtain ⟨hle, fp, hs, nd, hb⟩ := id hS
  cases hs with
  | cons hP hs =>
  cases hs with
  | cons hE hL =>
  rename_i f g fe
  obtain ⟨h1', ⟨h2, rfl, rfl⟩ | ⟨b, us, vs, ws, g, h2, h3, h4, rfl⟩⟩ := hP
  · simp at h1; omega
  have hl := h4.len
  have hbl := hb b (by simp)
  refine ev_idx h2 h0 (by omega) (ev_stc (p := ⟨b, us.length + i.toNat * 1⟩) h3 (by show lo ≤ b; omega) (by simp; omega) (hK _ ?_))
  have hS' := hS.join2 (R := ⟨fun H fp => ∃ f g, OwnL r H s xs f ∧ r.on H u x g ∧ fp = f ++ g, fun ⟨f, g, a, b, c⟩ hf => ⟨f, g, a.loc fun b hb => hf b (by simp [c, hb]), r.loc b fun b hb => hf b (by simp [c, hb]), c⟩⟩) fun f g a b => ⟨f, g, a, b, rfl⟩
  refine hS'.upd fun f ⟨f1, f2, a1, a2, e⟩ nf hlt => ?_
  subst e
  obtain ⟨n1, n2, n12⟩ := List.nodup_append.1 nf
  obtain ⟨_, ⟨e2, _, _⟩ | ⟨b', us', vs', ws', g', e2, e3, e4, rfl⟩⟩ := a1
  · rw [h2] at e2; cases e2
  have : b' = b ∧ us'.length = us.length := by rw [h2] at e2; simpa [eq_comm] using e2
  obtain ⟨rfl, hul⟩ := this
  obtain ⟨vs1, v, vs2, xs1, x0, xs2, g1, f0, g2, rfl, rfl, rfl, l1, l2, t1, t2, t3⟩ := e4.split (j := i.toNat) (by omega)
  have hbn : b' ∉ g1 ++ (f0 ++ g2) := (List.nodup_cons.1 n1).1
  have fr : ∀ c, c ≠ b' → (H.set b' (.cells ((us ++ (vs ++ ws)).set (us.length + i.toNat * 1) u) 1))[c]? = H[c]? := fun c hc => List.getElem?_set_ne (fun e => hc e.symm)
  have heq : us ++ (vs ++ ws) = us' ++ ((vs1 ++ v :: vs2) ++ ws') := by rw [h3] at e3; simpa using e3
  refine ⟨b' :: (g1 ++ (f2 ++ g2)), ⟨by simp [h1', List.length_append], .inr ⟨b', us', vs1 ++ u :: vs2, ws', g1 ++ (f2 ++ g2), e2, ?_, ?_, rfl⟩⟩, ?_, ?_, by simp, fun c _ hc => fr c (fun e => hc (by simp [e]))⟩
  · have : b' < H.length := (List.getElem?_eq_some_iff.1 h3).1
    rw [List.getElem?_set_self this, heq]
    rw [← hul, Nat.mul_one, ← l1]
    simp
  · have hxs : (xs1 ++ x0 :: xs2).set i.toNat x = xs1 ++ x :: xs2 := by rw [List.set_append_right _ _ (by omega), l2, Nat.sub_self]; rfl
    rw [hxs]
    refine (t1.loc fun c hc => fr c fun e => hbn (by simp [← e, hc])).join (All3.cons (r.loc a2 fun c hc => fr c fun e => ?_) (t3.loc fun c hc => fr c fun e => hbn (by simp [← e, hc])))
    exact n12 b' (by simp) c hc e.symm
  · simp only [List.nodup_cons, List.nodup_append, List.mem_append] at n1 n2 n12 nf ⊢
    refine ⟨fun h => ?_, n1.2.1, ⟨n2, n1.2.2.1.2.1, fun a ha c hc => fun e => n12 c (by simp [hc]) a ha e.symm⟩, fun a ha c hc => ?_⟩
    · rcases h with h | h | h
      · exact n1.1 (.inl h)
      · exact n12 b' (by simp) b' h rfl
      · exact n1.1 (.inr (.inr h))
    · rcases hc with hc | hc
      · exact n12 a (by simp [ha]) c hc
      · exact n1.2.2.2 a ha c (.inr hc)
  · intro c hc
    left
    simp at hc ⊢
    rcases hc with h | h | h | h <;> simp [h]
theorem sp_put {i : Int} {u : AV} {x : α} {K : (ρ : Type) → Nat → (A → AH → Option ρ) → AH → Option ρ} (hS : Sep H0 H (own r s xs :: L)) (hlo : lo ≤ H0.length) (hu : ∀ H, r.on H u x []) (h0 : 0 ≤ i) (h1 : i < (xs.length : Int)) (hK : ∀ H', Sep H0 H' (own r s (xs.set i.toNat x) :: L) → Ev (fun ρ k κ => K ρ k κ H') Q) : Ev (fun ρ k κ => idx s i 1 fun p => stc lo H p u (K ρ k κ)) Q :=
  sp_putE (hS.elt0 (hu _)).swap hlo h0 h1 hK
/-- Elements that are not laid yet. -/
def elts (r : Re α) (us : List AV) (ys : List α) : Asr := ⟨fun H fp => All3 r H us ys fp, fun h hf => h.loc hf⟩
theorem sp_app {us : List AV} {ys : List α} {n bytes : Nat} {K : (ρ : Type) → Nat → (A → AH → Option ρ) → Sl → AH → Option ρ} (hS : Sep H0 H (own r s xs :: elts r us ys :: L)) (hlo : lo ≤ H0.length) (hn : n = ys.length) (hr : (xs.length + ys.length) * bytes ≤ 70368744177664) (hK : ∀ s' H', Sep H0 H' (own r s' (xs ++ ys) :: L) → Ev (fun ρ k κ => K ρ k κ s' H') Q) : Ev (fun ρ k κ => app lo H s 1 bytes us n (K ρ k κ)) Q := by
  subst hn
  obtain ⟨hle, fp, hs, nd, hb⟩ := id hS
  cases hs with
  | cons hP hs =>
  cases hs with
  | cons hE hL =>
  rename_i f g fe
  have hl' : us.length = ys.length := All3.len hE
  have hsi : singles us = true := All3.singles hE
  obtain ⟨e1, hP⟩ := hP
  have hS' := hS.join2 (R := ⟨fun H fp => ∃ f g, OwnL r H s xs f ∧ All3 r H us ys g ∧ fp = f ++ g, fun ⟨f, g, a, b, c⟩ hf => ⟨f, g, a.loc fun b hb => hf b (by simp [c, hb]), b.loc fun b hb => hf b (by simp [c, hb]), c⟩⟩) fun f g a b => ⟨f, g, a, b, rfl⟩
  by_cases h0 : ys.length = 0
  · have hys : ys = [] := List.eq_nil_of_length_eq_zero h0
    subst hys
    simp only [app, List.length_nil, decide_true, cond_true]
    refine hK _ _ (hS'.mono fun f ⟨f1, f2, a1, a2, e⟩ => ⟨f1, by show OwnL r H s (xs ++ []) f1; simpa using a1, by rw [e]; simp⟩)
  have hr' : (s.len + ys.length) * bytes ≤ room := by rw [e1]; exact hr
  simp only [app, h0, decide_false, cond_false, hr', decide_true, hl', Nat.mul_one, hsi, Bool.and_self, cond_true]
  rcases hP with ⟨h2, rfl, rfl⟩ | ⟨b, us0, vs, ws, g', h2, h3, h4, rfl⟩
  · simp only [h2, e1, List.length_nil, decide_true, cond_true]
    refine hK _ _ (hS'.upd fun f ⟨f1, f2, a1, a2, e⟩ nf hlt => ⟨H.length :: f2, ⟨by simp, .inr ⟨H.length, [], us, [], f2, rfl, by simp, ?_, rfl⟩⟩, ?_, ?_, by simp, fun c hc _ => List.getElem?_append_left hc⟩)
    · subst e; exact (a2.loc fun c hc => List.getElem?_append_left (hlt c (by simp [hc])))
    · subst e; exact List.nodup_cons.2 ⟨fun hm => by have := hlt _ (List.mem_append_right _ hm); omega, (List.nodup_append.1 nf).2.1⟩
    · intro c hc; subst e
      rcases List.mem_cons.1 hc with rfl | hc
      · right; simp
      · left; exact List.mem_append_right _ hc
  · have hl := h4.len
    have hbl := hb b (by simp)
    have hlo' : lo ≤ b := by omega
    have hfit : us0.length + s.len * 1 ≤ (us0 ++ (vs ++ ws)).length := by rw [e1]; simp; omega
    have hfit' : us0.length + s.len ≤ (us0 ++ (vs ++ ws)).length := by omega
    simp only [h2, h3, hlo', decide_true, hfit', Bool.and_self, cond_true]
    have hcut : ((us0 ++ (vs ++ ws)).drop us0.length).take s.len = vs := by
      rw [List.drop_left, e1, ← hl, List.take_left]
    rw [hcut]
    have fr : ∀ c, c < H.length → c ≠ b → (H.set b .dead ++ [Blk.cells (vs ++ us) 1])[c]? = H[c]? := fun c hc hne => by
      rw [List.getElem?_append_left (by simpa using hc), List.getElem?_set_ne (fun e => hne e.symm)]
    refine hK _ _ (hS'.upd fun f ⟨f1, f2, a1, a2, e⟩ nf hlt => ?_)
    subst e
    obtain ⟨n1, n2, n12⟩ := List.nodup_append.1 nf
    obtain ⟨_, ⟨e2, _, _⟩ | ⟨b', us', vs', ws', g'', e2, e3, e4, rfl⟩⟩ := a1
    · rw [h2] at e2; cases e2
    have : b' = b ∧ us'.length = us0.length := by rw [h2] at e2; simpa [eq_comm] using e2
    obtain ⟨rfl, hul⟩ := this
    have hvv : vs' = vs := by
      rw [h3] at e3
      have e3 : us0 ++ (vs ++ ws) = us' ++ (vs' ++ ws') := by simpa using e3
      have := congrArg (fun l => (l.drop us0.length).take vs.length) e3
      simp only [List.drop_left, List.take_left] at this
      rw [← hul, List.drop_left, hl, ← e4.len, List.take_left] at this
      exact this.symm
    subst hvv
    refine ⟨H.length :: (g'' ++ f2), ⟨by simp [e1], .inr ⟨H.length, [], vs' ++ us, [], g'' ++ f2, by simp, by simp, ?_, rfl⟩⟩, ?_, ?_, by simp, fun c hc hnf => fr c hc (fun e => hnf (by simp [e]))⟩
    · refine (e4.loc fun c hc => fr c (hlt c (by simp [hc])) (fun e => (List.nodup_cons.1 n1).1 (by rw [← e]; exact hc))).join (a2.loc fun c hc => fr c (hlt c (by simp [hc])) fun e => n12 b' (by simp) c hc e.symm)
    · refine List.nodup_cons.2 ⟨fun hm => ?_, List.nodup_append.2 ⟨(List.nodup_cons.1 n1).2, n2, fun a ha c hc => n12 a (by simp [ha]) c hc⟩⟩
      have : H.length < H.length := hlt H.length (by simp at hm ⊢; exact .inr hm)
      omega
    · intro c hc
      simp at hc ⊢
      rcases hc with rfl | h | h
      · right; omega
      · left; simp [h]
      · left; simp [h]
/-- An element behind the others. -/
theorem sp_appE {u : AV} {x : α} {bytes : Nat} {K : (ρ : Type) → Nat → (A → AH → Option ρ) → Sl → AH → Option ρ} (hS : Sep H0 H (own r s xs :: elt r u x :: L)) (hlo : lo ≤ H0.length) (hr : (xs.length + 1) * bytes ≤ 70368744177664) (hK : ∀ s' H', Sep H0 H' (own r s' (xs ++ [x]) :: L) → Ev (fun ρ k κ => K ρ k κ s' H') Q) : Ev (fun ρ k κ => mkb H [u] 1 1 fun t H3 => appS lo H3 s t 1 bytes (K ρ k κ)) Q := by
  have hS2 : Sep H0 (H ++ [.cells [u] 1]) (own r s xs :: elt r u x :: L) := hS.on ⟨_, rfl⟩
  have hS3 : Sep H0 (H ++ [.cells [u] 1]) (own r s xs :: elts r [u] [x] :: L) := (hS2.pull 1 |>.mono (P' := elts r [u] [x]) fun f hf => ⟨f ++ [], All3.cons hf .nil, by simp⟩).pull 1
  have := sp_app (lo := lo) (n := 1) (bytes := bytes) (K := K) hS3 hlo rfl (by simpa using hr) hK
  refine ev_mkb ?_
  have e : decide (0 + 1 * 1 ≤ [u].length) = true := by simp
  simp only [appS, ldn, List.getElem?_concat_length, e, cond_true, List.drop_zero]
  exact this
theorem sp_app1 {u : AV} {x : α} {bytes : Nat} {K : (ρ : Type) → Nat → (A → AH → Option ρ) → Sl → AH → Option ρ} (hS : Sep H0 H (own r s xs :: L)) (hlo : lo ≤ H0.length) (hu : ∀ H, r.on H u x []) (hr : (xs.length + 1) * bytes ≤ 70368744177664) (hK : ∀ s' H', Sep H0 H' (own r s' (xs ++ [x]) :: L) → Ev (fun ρ k κ => K ρ k κ s' H') Q) : Ev (fun ρ k κ => mkb H [u] 1 1 fun t H3 => appS lo H3 s t 1 bytes (K ρ k κ)) Q :=
  sp_appE (hS.elt0 (hu _)).swap hlo hr hK
theorem sp_appL {t : Sl} {ys : List α} {T : List (List α)} {bytes : Nat} {K : (ρ : Type) → Nat → (A → AH → Option ρ) → Sl → AH → Option ρ} (hS : Sep H0 H (own (reL r) s T :: own r t ys :: L)) (hlo : lo ≤ H0.length) (hr : (T.length + 1) * bytes ≤ 70368744177664) (hK : ∀ s' H', Sep H0 H' (own (reL r) s' (T ++ [ys]) :: L) → Ev (fun ρ k κ => K ρ k κ s' H') Q) : Ev (fun ρ k κ => mkb H [.sl t] 1 1 fun t' H3 => appS lo H3 s t' 1 bytes (K ρ k κ)) Q :=
  sp_appE (hS.swap.eltL.swap) hlo hr hK
theorem RowOf.cells {R : AV → α → Prop} {y : Sl} {ys : List α} (h : RowOf R H y ys) : (y.p = none ∧ ys = []) ∨ ∃ p vs sz us, y.p = some p ∧ H[p.b]? = some (.cells vs sz) ∧ p.o + ys.length ≤ vs.length ∧ us = (vs.drop p.o).take ys.length ∧ us.length = ys.length ∧ ∀ (j : Nat) x, ys[j]? = some x → ∃ v, us[j]? = some v ∧ R v x := by
  cases hp : y.p with
  | none =>
    left; refine ⟨rfl, ?_⟩
    cases ys with
    | nil => rfl
    | cons a l => obtain ⟨p, vs, sz, v, e, _⟩ := h.2.1 0 a rfl; rw [hp] at e; cases e
  | some p =>
    right
    obtain ⟨vs, sz, e1, e2⟩ := h.2.2 p hp
    rw [h.1] at e2
    refine ⟨p, vs, sz, _, rfl, e1, e2, rfl, by simp; omega, fun j x hj => ?_⟩
    have hjl := (List.getElem?_eq_some_iff.1 hj).1
    obtain ⟨p', vs', sz', v, a1, a2, a3, a4⟩ := h.2.1 j x hj
    rw [hp] at a1; cases a1
    rw [e1] at a2; cases a2
    exact ⟨v, by rw [List.getElem?_take_of_lt hjl, List.getElem?_drop]; exact a3, a4⟩
theorem All3.of0 : ∀ {us : List AV} {ys : List α}, us.length = ys.length → (∀ (j : Nat) x, ys[j]? = some x → ∃ v, us[j]? = some v ∧ r.on H v x []) → All3 r H us ys []
  | [], [], _, _ => .nil
  | u :: us, y :: ys, hl, h => by
    obtain ⟨v, e1, e2⟩ := h 0 y rfl
    simp at e1; subst e1
    exact All3.cons e2 (All3.of0 (by simpa using hl) fun j x hj => by simpa using h (j + 1) x (by simpa using hj))
/-- A row behind the others. -/
theorem sp_appR {y : Sl} {ys : List α} {bytes : Nat} {K : (ρ : Type) → Nat → (A → AH → Option ρ) → Sl → AH → Option ρ} (hS : Sep H0 H (own r s xs :: L)) (hlo : lo ≤ H0.length) (hy : RowOf (fun v x => r.on H v x []) H y ys) (hr : (xs.length + ys.length) * bytes ≤ 70368744177664) (hK : ∀ s' H', Sep H0 H' (own r s' (xs ++ ys) :: L) → Ev (fun ρ k κ => K ρ k κ s' H') Q) : Ev (fun ρ k κ => appS lo H s y 1 bytes (K ρ k κ)) Q := by
  rcases hy.cells with ⟨h1, rfl⟩ | ⟨p, vs, sz, us, h1, h2, h3, h4, h5, h6⟩
  · have : y.len = 0 := hy.1
    simp only [appS, h1, this, decide_true, cond_true]
    exact hK _ _ (hS.eq (by simp))
  · have e : decide (p.o + ys.length ≤ vs.length) = true := by simpa using h3
    simp only [appS, h1, ldn, h2, hy.1, Nat.mul_one, e, cond_true]
    rw [← h4]
    have : Sep H0 H (elts r us ys :: own r s xs :: L) := by
      obtain ⟨hle, fp, hs, nd, hb⟩ := hS
      exact ⟨hle, [] ++ fp, .cons (P := elts r us ys) (All3.of0 h5 h6) hs, nd, hb⟩
    exact sp_app this.swap hlo rfl hr hK

/-! Rows of rows: a row is taken out, changed, and laid back. -/
theorem OwnH.close {t : Sl} {T : List (List α)} {j : Nat} {ys : List α} {f g : List Nat} (h : OwnH (reL r) H s T j (.sl t) f) (ht : OwnL r H t ys g) : ∃ f', OwnL (reL r) H s (T.set j ys) f' ∧ f'.Perm (f ++ g) := by
  obtain ⟨h1, b, us, vs1, vs2, ws, xs1, x, xs2, g1, g2, h2, h3, rfl, rfl, h6, h7, rfl⟩ := h
  have hx : (xs1 ++ x :: xs2).set xs1.length ys = xs1 ++ ys :: xs2 := by rw [List.set_append_right _ _ (by omega), Nat.sub_self]; rfl
  refine ⟨b :: (g1 ++ (g ++ g2)), ⟨by simpa using h1, .inr ⟨b, us, vs1 ++ .sl t :: vs2, ws, g1 ++ (g ++ g2), h2, h3, ?_, rfl⟩⟩, ?_⟩
  · rw [hx]; exact h6.join (.cons ⟨t, rfl, ht⟩ h7)
  · simp only [List.cons_append, List.append_assoc]
    exact .cons _ (.append_left _ List.perm_append_comm)
theorem Sep.close {t : Sl} {T : List (List α)} {j : Nat} {ys : List α} (h : Sep H0 H (ownH (reL r) s T j (.sl t) :: own r t ys :: L)) : Sep H0 H (own (reL r) s (T.set j ys) :: L) := by
  have := h.join2 (R := ⟨fun H fp => ∃ f g, OwnH (reL r) H s T j (.sl t) f ∧ OwnL r H t ys g ∧ fp = f ++ g, fun ⟨f, g, a, b, c⟩ hf => ⟨f, g, a.loc fun b hb => hf b (by simp [c, hb]), b.loc fun b hb => hf b (by simp [c, hb]), c⟩⟩) fun f g a b => ⟨f, g, a, b, rfl⟩
  refine this.upd fun f ⟨f1, f2, a, b, e⟩ nf hlt => ?_
  subst e
  obtain ⟨f', h1, h2⟩ := a.close b
  exact ⟨f', h1, h2.nodup_iff.2 nf, fun c hc => .inl (h2.mem_iff.1 hc), Nat.le_refl _, fun _ _ _ => rfl⟩
theorem Sep.opens {T : List (List α)} (h : Sep H0 H (own (reL r) s T :: L)) {j : Nat} (hj : j < T.length) : ∃ t : Sl, (∃ b us vs, s.p = some ⟨b, us⟩ ∧ H[b]? = some (.cells vs 1) ∧ vs[us + j]? = some (.sl t)) ∧ Sep H0 H (ownH (reL r) s T j (.sl t) :: own r t T[j] :: L) := by
  obtain ⟨hle, fp, hs, nd, hb⟩ := h
  cases hs with
  | cons hP hL =>
  rename_i f fL
  obtain ⟨h1, ⟨h2, rfl, rfl⟩ | ⟨b, us, vs, ws, g, h2, h3, h4, rfl⟩⟩ := hP
  · simp at hj
  obtain ⟨vs1, v, vs2, xs1, x, xs2, g1, f, g2, rfl, rfl, rfl, l1, l2, t1, ⟨t, rfl, t2⟩, t3⟩ := h4.split hj
  have hx : (xs1 ++ x :: xs2)[j] = x := by simp [← l2]
  refine ⟨t, ⟨b, us.length, _, h2, h3, by simp [← l1]⟩, ?_⟩
  rw [hx]
  have hp : (b :: (g1 ++ (f ++ g2)) ++ fL).Perm (b :: (g1 ++ g2) ++ (f ++ fL)) := by
    simp only [List.cons_append, List.append_assoc]
    refine .cons _ (.append_left _ ?_)
    rw [← List.append_assoc, ← List.append_assoc]
    exact .append_right _ List.perm_append_comm
  exact ⟨hle, _, .cons (P := ownH (reL r) s (xs1 ++ x :: xs2) j (.sl t)) ⟨h1, b, us, vs1, vs2, ws, xs1, x, xs2, g1, g2, h2, h3, rfl, l2, t1, t3, rfl⟩ (.cons (P := own r t x) t2 hL), hp.nodup_iff.1 nd, fun c hc => hb c (hp.mem_iff.2 hc)⟩
/-- A row is taken out. -/
theorem sp_open {T : List (List α)} {i : Int} {K : (ρ : Type) → Nat → (A → AH → Option ρ) → Sl → Option ρ} (hS : Sep H0 H (own (reL r) s T :: L)) (h0 : 0 ≤ i) (h1 : i < (T.length : Int)) (hK : ∀ t, Sep H0 H (ownH (reL r) s T i.toNat (.sl t) :: own r t (rdOf [] T i) :: L) → Ev (fun ρ k κ => K ρ k κ t) Q) : Ev (fun ρ k κ => rdS H s i (K ρ k κ)) Q := by
  obtain ⟨t, ⟨b, o, vs, e1, e2, e3⟩, hS'⟩ := hS.opens (j := i.toNat) (by omega)
  refine ev_idx e1 h0 (by rw [hS.len]; exact h1) (ev_ldc (p := ⟨b, o + i.toNat * 1⟩) (v := .sl t) e2 (by rw [Nat.mul_one]; exact e3) ?_)
  have hx : rdOf [] T i = T[i.toNat]'(by omega) := by unfold rdOf; rw [List.getD_eq_getElem?_getD, List.getElem?_eq_getElem (by omega)]; rfl
  rw [← hx] at hS'
  have := hK t hS'
  simpa [asS] using this
/-- The place that a row was taken out of. -/
theorem sp_putH {i : Int} {j : Nat} {v u : AV} {K : (ρ : Type) → Nat → (A → AH → Option ρ) → AH → Option ρ} (hS : Sep H0 H (ownH r s xs j v :: L)) (hlo : lo ≤ H0.length) (h0 : 0 ≤ i) (hj : j = i.toNat) (hK : ∀ H', Sep H0 H' (ownH r s xs j u :: L) → Ev (fun ρ k κ => K ρ k κ H') Q) : Ev (fun ρ k κ => idx s i 1 fun p => stc lo H p u (K ρ k κ)) Q := by
  obtain ⟨hle, fp, hs, nd, hb⟩ := id hS
  cases hs with
  | cons hP hL =>
  obtain ⟨h1, b, us, vs1, vs2, ws, xs1, x, xs2, g1, g2, h2, h3, rfl, l2, t1, t2, rfl⟩ := hP
  have hl1 := t1.len
  have hbl := hb b (by simp)
  have hlen : i.toNat < s.len := by rw [h1, ← hj, ← l2]; simp
  refine ev_idx h2 h0 (by omega) (ev_stc (p := ⟨b, us.length + i.toNat * 1⟩) h3 (by show lo ≤ b; omega) (by simp; omega) (hK _ (hS.upd fun f hf nf hlt => ?_)))
  obtain ⟨h1', b', us', vs1', vs2', ws', xs1', x', xs2', g1', g2', h2', h3', e4, l2', t1', t2', rfl⟩ := hf
  have : b' = b ∧ us'.length = us.length := by rw [h2] at h2'; simpa [eq_comm] using h2'
  obtain ⟨rfl, hul⟩ := this
  have fr : ∀ c, c ≠ b' → (H.set b' (.cells ((us ++ (vs1 ++ v :: vs2 ++ ws)).set (us.length + i.toNat * 1) u) 1))[c]? = H[c]? := fun c hc => List.getElem?_set_ne (fun e => hc e.symm)
  have heq : us ++ (vs1 ++ v :: vs2 ++ ws) = us' ++ ((vs1' ++ v :: vs2') ++ ws') := by rw [h3] at h3'; simpa using h3'
  have nb := (List.nodup_cons.1 nf).1
  refine ⟨b' :: (g1' ++ g2'), ⟨h1', b', us', vs1', vs2', ws', xs1', x', xs2', g1', g2', h2', ?_, e4, l2', t1'.loc fun c hc => fr c fun e => nb (by simp [← e, hc]), t2'.loc fun c hc => fr c fun e => nb (by simp [← e, hc]), rfl⟩, nf, fun c hc => .inl hc, by simp, fun c _ hc => fr c (fun e => hc (by simp [e]))⟩
  have hbH : b' < H.length := (List.getElem?_eq_some_iff.1 h3).1
  rw [List.getElem?_set_self hbH, heq, ← hul, Nat.mul_one, ← hj, ← l2', ← t1'.len]
  simp
/-- A row of a table that came in: it is known at the beginning. -/
theorem sp_rdS {s : Sl} {T : List (List Int)} {i : Int} {K : (ρ : Type) → Nat → (A → AH → Option ρ) → Sl → Option ρ} (h : Tab H0 s T) (hl : Le H0 H) (h0 : 0 ≤ i) (h1 : i < (T.length : Int)) (hK : ∀ t, Row H0 t (R T i) → Ev (fun ρ k κ => K ρ k κ t) Q) : Ev (fun ρ k κ => rdS H s i (K ρ k κ)) Q := by
  obtain ⟨p, vs, sz, v, e1, e2, e3, r, e4, e5⟩ := RowOf.at h (i := i.toNat) (by omega)
  have hlen := Tab.len h
  refine ev_idx e1 h0 (by omega) (ev_ldc (p := ⟨p.b, p.o + i.toNat * 1⟩) (v := v) (hl.get e2) (by rw [Nat.mul_one]; exact e3) ?_)
  have : R T i = T[i.toNat]'(by omega) := by unfold R; rw [List.getD_eq_getElem?_getD, List.getElem?_eq_getElem (by omega)]; rfl
  rw [← this] at e5
  subst e4
  simpa [asS] using hK r e5
/-- .. where the row was laid there before. -/
theorem sp_openS {T : List (List α)} {row : List α} {i : Int} {K : (ρ : Type) → Nat → (A → AH → Option ρ) → Sl → Option ρ} (hS : Sep H0 H (own (reL r) s (T.set i.toNat row) :: L)) (h0 : 0 ≤ i) (h1 : i < (T.length : Int)) (hK : ∀ t, Sep H0 H (ownH (reL r) s (T.set i.toNat row) i.toNat (.sl t) :: own r t row :: L) → Ev (fun ρ k κ => K ρ k κ t) Q) : Ev (fun ρ k κ => rdS H s i (K ρ k κ)) Q := by
  refine sp_open hS h0 (by simpa using h1) fun t hS' => hK t ?_
  have e : rdOf [] (T.set i.toNat row) i = row := by
    unfold rdOf
    rw [List.getD_eq_getElem?_getD, List.getElem?_set_self (by omega)]; rfl
  rwa [e] at hS'
theorem Sep.closeS {t : Sl} {T : List (List α)} {j : Nat} {row ys : List α} (h : Sep H0 H (ownH (reL r) s (T.set j row) j (.sl t) :: own r t ys :: L)) : Sep H0 H (own (reL r) s (T.set j ys) :: L) := by
  have := h.close
  rwa [List.set_set] at this
end
/-- A table of bools. -/
def TabB (H : AH) (s : Sl) (T : List (List Bool)) : Prop := RowOf (fun v row => ∃ r, v = .sl r ∧ RowB H r row) H s T
theorem RowB.le {H H' : AH} {s : Sl} {xs : List Bool} (h : RowB H s xs) (hl : Le H H') : RowB H' s xs := RowOf.le h hl
theorem TabB.le {H H' : AH} {s : Sl} {T : List (List Bool)} (h : TabB H s T) (hl : Le H H') : TabB H' s T := (RowOf.le h hl).imp fun v x ⟨r, h1, h2⟩ => ⟨r, h1, h2.le hl⟩
theorem TabB.len {H : AH} {s : Sl} {T : List (List Bool)} (h : TabB H s T) : s.len = T.length := h.1
section
variable {A : Type} {Q : A → AH → Prop} {H0 H : AH} {L : List Asr} {s : Sl} {lo : Nat}
theorem Sep.tabB {T : List (List Bool)} (h : Sep H0 H (own (reL reB) s T :: L)) : TabB H s T :=
  h.rowOf.imp fun v x ⟨f, t, e1, e2⟩ => ⟨t, e1, e2.rowOf.imp fun v x ⟨f, e⟩ => e.1⟩
theorem sp_rdSB {T : List (List Bool)} {i : Int} {K : (ρ : Type) → Nat → (A → AH → Option ρ) → Sl → Option ρ} (h : TabB H0 s T) (hl : Le H0 H) (h0 : 0 ≤ i) (h1 : i < (T.length : Int)) (hK : ∀ t, RowB H0 t (rdOf [] T i) → Ev (fun ρ k κ => K ρ k κ t) Q) : Ev (fun ρ k κ => rdS H s i (K ρ k κ)) Q := by
  obtain ⟨p, vs, sz, v, e1, e2, e3, r, e4, e5⟩ := RowOf.at h (i := i.toNat) (by omega)
  have hlen := TabB.len h
  refine ev_idx e1 h0 (by omega) (ev_ldc (p := ⟨p.b, p.o + i.toNat * 1⟩) (v := v) (hl.get e2) (by rw [Nat.mul_one]; exact e3) ?_)
  have : rdOf [] T i = T[i.toNat]'(by omega) := by unfold rdOf; rw [List.getD_eq_getElem?_getD, List.getElem?_eq_getElem (by omega)]; rfl
  rw [← this] at e5
  subst e4
  simpa [asS] using hK r e5
theorem ev_rdSB {T : List (List Bool)} {i : Int} {K : (ρ : Type) → Nat → (A → AH → Option ρ) → Sl → Option ρ} (h : TabB H s T) (h0 : 0 ≤ i) (h1 : i < (T.length : Int)) (hK : ∀ t, RowB H t (rdOf [] T i) → Ev (fun ρ k κ => K ρ k κ t) Q) : Ev (fun ρ k κ => rdS H s i (K ρ k κ)) Q := sp_rdSB h (Le.refl H) h0 h1 hK
/-! A table whose rows' places are known. -/
section
variable {α : Type} {r : Re α} {lo : Nat}
theorem All3.sls {H : AH} : ∀ {vs : List AV} {T : List (List α)} {g : List Nat}, All3 (reL r) H vs T g → ∃ ss : List Sl, vs = ss.map (fun s => AV.sl s) ∧ ss.length = T.length
  | _, _, _, .nil => ⟨[], rfl, rfl⟩
  | _, _, _, .cons h hs => by
    obtain ⟨s, rfl, _⟩ := h
    obtain ⟨ss, rfl, h2⟩ := hs.sls
    exact ⟨s :: ss, rfl, by simp [h2]⟩
def OwnT (r : Re α) (H : AH) (s : Sl) (ss : List Sl) (T : List (List α)) (fp : List Nat) : Prop :=
  s.len = T.length ∧ ss.length = T.length ∧ ((s.p = none ∧ T = [] ∧ fp = []) ∨ ∃ b us ws g, s.p = some ⟨b, us.length⟩ ∧ H[b]? = some (.cells (us ++ (ss.map (fun s => AV.sl s) ++ ws)) 1) ∧ All3 (reL r) H (ss.map fun s => AV.sl s) T g ∧ fp = b :: g)
def ownT (r : Re α) (s : Sl) (ss : List Sl) (T : List (List α)) : Asr := ⟨fun H fp => OwnT r H s ss T fp, fun h hf => by
  obtain ⟨h1, h0, h2 | ⟨b, us, ws, g, h2, h3, h4, rfl⟩⟩ := h
  · exact ⟨h1, h0, .inl h2⟩
  · exact ⟨h1, h0, .inr ⟨b, us, ws, g, h2, by rw [hf b (by simp), h3], h4.loc fun b' hb => hf b' (by simp [hb]), rfl⟩⟩⟩
theorem Sep.rows {s : Sl} {T : List (List α)} (h : Sep H0 H (own (reL r) s T :: L)) : ∃ ss : List Sl, ss.length = T.length ∧ Sep H0 H (ownT r s ss T :: L) := by
  obtain ⟨f, hf⟩ := h.head
  have key : ∃ ss : List Sl, ss.length = T.length ∧ ∀ g, OwnL (reL r) H s T g → OwnT r H s ss T g := by
    obtain ⟨h1, ⟨h2, rfl, rfl⟩ | ⟨b, us, vs, ws, g, h2, h3, h4, rfl⟩⟩ := hf
    · refine ⟨[], rfl, fun g hg => ?_⟩
      obtain ⟨a1, ⟨a2, a3, a4⟩ | ⟨b, us, vs, ws, g', a2, _⟩⟩ := hg
      · exact ⟨a1, rfl, .inl ⟨a2, a3, a4⟩⟩
      · rw [h2] at a2; cases a2
    · obtain ⟨ss, rfl, hl⟩ := h4.sls
      refine ⟨ss, hl, fun g' hg => ?_⟩
      obtain ⟨a1, ⟨a2, a3, a4⟩ | ⟨b', us', vs', ws', g'', a2, a3, a4, rfl⟩⟩ := hg
      · rw [h2] at a2; cases a2
      have : b' = b ∧ us'.length = us.length := by rw [h2] at a2; simpa [eq_comm] using a2
      obtain ⟨rfl, hul⟩ := this
      have e : vs' = ss.map (fun s => AV.sl s) := by
        rw [h3] at a3
        have e3 : us ++ (ss.map (fun s => AV.sl s) ++ ws) = us' ++ (vs' ++ ws') := by simpa using a3
        have l1 := h4.len
        have l2 := a4.len
        have := congrArg (fun l => (l.drop us.length).take T.length) e3
        simp only [List.drop_left] at this
        rw [← hul, List.drop_left, ← l2, List.take_left, l2, ← l1, List.take_left] at this
        exact this.symm
      subst e
      exact ⟨a1, hl, .inr ⟨b', us', ws', g'', a2, a3, a4, rfl⟩⟩
  obtain ⟨ss, hl, hk⟩ := key
  exact ⟨ss, hl, h.mono fun g hg => ⟨g, hk g hg, .refl _⟩⟩
theorem Sep.table {s : Sl} {ss : List Sl} {T : List (List α)} (h : Sep H0 H (ownT r s ss T :: L)) : Sep H0 H (own (reL r) s T :: L) := h.mono fun g hg => by
  obtain ⟨h1, h0, h2 | ⟨b, us, ws, g, h2, h3, h4, rfl⟩⟩ := hg
  · exact ⟨g, ⟨h1, .inl h2⟩, .refl _⟩
  · exact ⟨_, ⟨h1, .inr ⟨b, us, _, ws, g, h2, h3, h4, rfl⟩⟩, .refl _⟩
theorem Sep.tlen {s : Sl} {ss : List Sl} {T : List (List α)} (h : Sep H0 H (ownT r s ss T :: L)) : s.len = T.length := by obtain ⟨f, hf⟩ := h.head; exact hf.1
def slAt (ss : List Sl) (i : Int) : Sl := ss.getD i.toNat ⟨none, 0⟩
/-- Row i. -/
theorem Sep.rowAt {s : Sl} {ss : List Sl} {T : List (List α)} {i : Int} (h : Sep H0 H (ownT r s ss T :: L)) (h0 : 0 ≤ i) (h1 : i < (T.length : Int)) : RowOf (fun v x => ∃ f, r.on H v x f) H (slAt ss i) (rdOf [] T i) := by
  obtain ⟨f, hf⟩ := h.head
  obtain ⟨a1, a0, ⟨a2, rfl, _⟩ | ⟨b, us, ws, g, a2, a3, a4, rfl⟩⟩ := hf
  · simp at h1; omega
  obtain ⟨v, f, e1, s', e2, e3⟩ := a4.get (j := i.toNat) (x := rdOf [] T i) (by unfold rdOf; rw [List.getD_eq_getElem?_getD, List.getElem?_eq_getElem (by omega)]; rfl)
  have : s' = slAt ss i := by
    rw [e2] at e1
    unfold slAt
    rw [List.getElem?_map] at e1
    cases hs : ss[i.toNat]? with
    | none => rw [hs] at e1; simp at e1
    | some x => rw [hs] at e1; rw [List.getD_eq_getElem?_getD, hs]; simpa [eq_comm] using e1
  rw [← this]; exact e3.rowOf
theorem Sep.rowAtI {s : Sl} {ss : List Sl} {T : List (List Int)} {i : Int} (h : Sep H0 H (ownT reI s ss T :: L)) (h0 : 0 ≤ i) (h1 : i < (T.length : Int)) : Row H (slAt ss i) (R T i) := (h.rowAt h0 h1).imp fun v x ⟨f, e⟩ => e.1
theorem Sep.rowAtB {s : Sl} {ss : List Sl} {T : List (List Bool)} {i : Int} (h : Sep H0 H (ownT reB s ss T :: L)) (h0 : 0 ≤ i) (h1 : i < (T.length : Int)) : RowB H (slAt ss i) (rdOf [] T i) := (h.rowAt h0 h1).imp fun v x ⟨f, e⟩ => e.1
theorem sp_rdT {s : Sl} {ss : List Sl} {T : List (List α)} {i : Int} {K : (ρ : Type) → Nat → (A → AH → Option ρ) → Sl → Option ρ} (hS : Sep H0 H (ownT r s ss T :: L)) (h0 : 0 ≤ i) (h1 : i < (T.length : Int)) (hK : Ev (fun ρ k κ => K ρ k κ (slAt ss i)) Q) : Ev (fun ρ k κ => rdS H s i (K ρ k κ)) Q := by
  obtain ⟨f, hf⟩ := hS.head
  obtain ⟨a1, a0, ⟨a2, rfl, _⟩ | ⟨b, us, ws, g, a2, a3, a4, rfl⟩⟩ := hf
  · simp at h1; omega
  refine ev_idx a2 h0 (by omega) (ev_ldc (p := ⟨b, us.length + i.toNat * 1⟩) (v := .sl (slAt ss i)) a3 ?_ ?_)
  · show (us ++ (ss.map (fun s => AV.sl s) ++ ws))[us.length + i.toNat * 1]? = _
    rw [Nat.mul_one, List.getElem?_append_right (by omega), Nat.add_sub_cancel_left, List.getElem?_append_left (by simp; omega)]
    unfold slAt
    rw [List.getElem?_map, List.getD_eq_getElem?_getD, List.getElem?_eq_getElem (by omega)]; rfl
  · simpa [asS] using hK
end
/-! Maps of whole numbers. -/
variable {β : Type}
/-- A map's entries. -/
def ownMp (f : β → AV) (b : Nat) (l : List (Int × β)) : Asr := ownM b (l.map fun e => (.int .i64 e.1, f e.2))
theorem findM_none {f : β → AV} : ∀ {l : List (Int × β)} {k : Int} {i : Nat}, mget l k = none → findM false (.int .i64 k) (l.map fun e => (.int .i64 e.1, f e.2)) i = some none
  | [], _, _, _ => rfl
  | e :: l, k, i, h => by
    unfold mget at h
    split at h
    · cases h
    · rename_i hn
      have hn : ¬ k = e.1 := fun x => hn x.symm
      simp only [List.map_cons, findM, sameK, cond_false, if_pos rfl]
      have : (k == e.1) = false := by simpa using hn
      rw [this]
      exact findM_none h
theorem findM_some {f : β → AV} : ∀ {l : List (Int × β)} {k : Int} {v : β} {i : Nat}, mget l k = some v → ∃ j, findM false (.int .i64 k) (l.map fun e => (.int .i64 e.1, f e.2)) i = some (some (i + j, f v)) ∧ ∀ w, (l.map fun e => (.int .i64 e.1, f e.2)).set j (.int .i64 k, f w) = (mset l k w).map fun e => (AV.int .i64 e.1, f e.2)
  | [], _, _, _, h => by cases h
  | e :: l, k, v, i, h => by
    unfold mget at h
    split at h
    · rename_i he
      cases h
      refine ⟨0, ?_, fun w => ?_⟩
      · simp [findM, sameK, he]
      · simp [mset, he]
    · rename_i hn
      have hn' : ¬ k = e.1 := fun x => hn x.symm
      obtain ⟨j, h1, h2⟩ := findM_some (f := f) (i := i + 1) h
      refine ⟨j + 1, ?_, fun w => ?_⟩
      · simp only [List.map_cons, findM, sameK, cond_false, if_pos rfl]
        have : (k == e.1) = false := by simpa using hn'
        rw [this]
        show findM false _ _ (i + 1) = _
        rw [h1, show i + 1 + j = i + (j + 1) by omega]
      · simp only [List.map_cons, List.set_cons_succ, h2, mset, if_neg hn]
theorem Sep.atM {b : Nat} {es : List (AV × AV)} (h : Sep H0 H (ownM b es :: L)) : H[b]? = some (.map es) ∧ H0.length ≤ b := by
  obtain ⟨hle, fp, hs, nd, hb⟩ := h
  cases hs with
  | cons hP hL => exact ⟨hP.1, (hb b (by simp [hP.2])).1⟩
theorem sp_mkm (f : β → AV) {K : (ρ : Type) → Nat → (A → AH → Option ρ) → Nat → AH → Option ρ} (hS : Sep H0 H L) (hK : ∀ m H', Sep H0 H' (ownMp f m [] :: L) → Ev (fun ρ k κ => K ρ k κ m H') Q) : Ev (fun ρ k κ => mkm H (K ρ k κ)) Q :=
  hK _ _ (hS.new (by simp) ⟨_, rfl⟩ ⟨by simp, rfl⟩)
theorem sp_mlook {f : β → AV} {b : Nat} {l : List (Int × β)} {k : Int} {K : (ρ : Type) → Nat → (A → AH → Option ρ) → Option AV → Option ρ} (hS : Sep H0 H (ownMp f b l :: L)) (hK : Ev (fun ρ n κ => K ρ n κ ((mget l k).map f)) Q) : Ev (fun ρ n κ => mlook false H (some b) (.int .i64 k) (K ρ n κ)) Q := by
  have h := hS.atM.1
  cases e : mget l k with
  | none =>
    simp only [mlook, entries, h, findM_none e, Option.map_none]
    simpa [e] using hK
  | some v =>
    obtain ⟨j, h1, _⟩ := findM_some (f := f) (i := 0) e
    simp only [mlook, entries, h, h1, Option.map_some]
    simpa [e] using hK
theorem sp_mlen {f : β → AV} {b : Nat} {l : List (Int × β)} {K : (ρ : Type) → Nat → (A → AH → Option ρ) → Int → Option ρ} (hS : Sep H0 H (ownMp f b l :: L)) (hK : Ev (fun ρ n κ => K ρ n κ (l.length : Int)) Q) : Ev (fun ρ n κ => mlen H (some b) (K ρ n κ)) Q := by
  have h := hS.atM.1
  simp only [mlen, entries, h, List.length_map]
  exact hK
theorem sp_mput {f : β → AV} {b : Nat} {l : List (Int × β)} {k : Int} {w : β} {K : (ρ : Type) → Nat → (A → AH → Option ρ) → AH → Option ρ} (hS : Sep H0 H (ownMp f b l :: L)) (hlo : lo ≤ H0.length) (hK : ∀ H', Sep H0 H' (ownMp f b (mset l k w) :: L) → Ev (fun ρ n κ => K ρ n κ H') Q) : Ev (fun ρ n κ => mput false lo H (some b) (.int .i64 k) (f w) (K ρ n κ)) Q := by
  obtain ⟨h, hb⟩ := hS.atM
  have hlo' : lo ≤ b := by omega
  have hbH : b < H.length := (List.getElem?_eq_some_iff.1 h).1
  have key : ∀ es, es = (mset l k w).map (fun e => (AV.int .i64 e.1, f e.2)) → Sep H0 (H.set b (.map es)) (ownMp f b (mset l k w) :: L) := fun es he => by
    subst he
    exact hS.upd fun g hg nf hlt => ⟨[b], ⟨by simp [List.getElem?_set, hbH], rfl⟩, by simp, fun c hc => .inl (by rw [hg.2]; exact hc), by simp, fun c _ hc => List.getElem?_set_ne (fun e => hc (by rw [hg.2, e]; simp))⟩
  cases e : mget l k with
  | none =>
    simp only [mput, h, hlo', decide_true, cond_true, findM_none e]
    exact hK _ (key _ (by rw [mset_new e]; simp))
  | some v =>
    obtain ⟨j, h1, h2⟩ := findM_some (f := f) (i := 0) e
    simp only [mput, h, hlo', decide_true, cond_true, h1, Nat.zero_add]
    exact hK _ (key _ (h2 w))
theorem ev_asI {n : Int} {K : (ρ : Type) → Nat → (A → AH → Option ρ) → Int → Option ρ} (hK : Ev (fun ρ k κ => K ρ k κ n) Q) : Ev (fun ρ k κ => asI .i64 (.int .i64 n) (K ρ k κ)) Q := by simpa [asI] using hK
theorem ev_asP {p : Pt} {K : (ρ : Type) → Nat → (A → AH → Option ρ) → Pt → Option ρ} (hK : Ev (fun ρ k κ => K ρ k κ p) Q) : Ev (fun ρ k κ => asP (.ptr (some p)) (K ρ k κ)) Q := hK
theorem ev_asB {n : Bool} {K : (ρ : Type) → Nat → (A → AH → Option ρ) → Bool → Option ρ} (hK : Ev (fun ρ k κ => K ρ k κ n) Q) : Ev (fun ρ k κ => asB (.bool n) (K ρ k κ)) Q := hK
/-! 'or' and 'and' of values. -/
theorem ev_orV {g c : Bool} {M : Nat → CPS Bool} {K : (ρ : Type) → Nat → (A → AH → Option ρ) → Bool → AH → Option ρ} (h : g = false → Ev (fun ρ k κ => M k ρ κ) (Is c H)) (hK : Ev (fun ρ k κ => K ρ k κ (g || c) H) Q) : Ev (fun ρ k κ => orB g (M k) H (K ρ k κ)) Q :=
  ev_orI (c := g || c) (fun hg => by rw [hg]; exact h hg) (fun hg => by rw [hg]; rfl) hK
theorem ev_andV {g c : Bool} {M : Nat → CPS Bool} {K : (ρ : Type) → Nat → (A → AH → Option ρ) → Bool → AH → Option ρ} (h : g = true → Ev (fun ρ k κ => M k ρ κ) (Is c H)) (hK : Ev (fun ρ k κ => K ρ k κ (g && c) H) Q) : Ev (fun ρ k κ => andB g (M k) H (K ρ k κ)) Q :=
  ev_andI (c := g && c) (fun hg => by rw [hg]; exact h hg) (fun hg => by rw [hg]; rfl) hK
theorem ev_orVL {g c : Bool} {M : Nat → CPS Bool} {K : (ρ : Type) → Nat → (A → AH → Option ρ) → Bool → AH → Option ρ} (h : g = false → Ev (fun ρ k κ => M k ρ κ) (fun b H' => b = c ∧ Le H H')) (hK : ∀ H', Le H H' → Ev (fun ρ k κ => K ρ k κ (g || c) H') Q) : Ev (fun ρ k κ => orB g (M k) H (K ρ k κ)) Q :=
  ev_orL (c := g || c) (fun hg => by rw [hg]; exact h hg) (fun hg => by rw [hg]; rfl) hK
theorem ev_andVL {g c : Bool} {M : Nat → CPS Bool} {K : (ρ : Type) → Nat → (A → AH → Option ρ) → Bool → AH → Option ρ} (h : g = true → Ev (fun ρ k κ => M k ρ κ) (fun b H' => b = c ∧ Le H H')) (hK : ∀ H', Le H H' → Ev (fun ρ k κ => K ρ k κ (g && c) H') Q) : Ev (fun ρ k κ => andB g (M k) H (K ρ k κ)) Q :=
  ev_andL (c := g && c) (fun hg => by rw [hg]; exact h hg) (fun hg => by rw [hg]; rfl) hK
/-- .. where nothing is said, and the answer is known. -/
theorem ev_orF' {g : Bool} {M : Nat → CPS Bool} {K : (ρ : Type) → Nat → (A → AH → Option ρ) → Bool → AH → Option ρ} (hg : g = false) (h : Ev (fun ρ k κ => M k ρ κ) (Is false H)) (hK : Ev (fun ρ k κ => K ρ k κ false H) Q) : Ev (fun ρ k κ => orB g (M k) H (K ρ k κ)) Q :=
  ev_orI (c := false) (fun _ => h) (fun e => by rw [hg] at e; cases e) hK
theorem ev_andT' {g : Bool} {M : Nat → CPS Bool} {K : (ρ : Type) → Nat → (A → AH → Option ρ) → Bool → AH → Option ρ} (hg : g = true) (h : Ev (fun ρ k κ => M k ρ κ) (Is true H)) (hK : Ev (fun ρ k κ => K ρ k κ true H) Q) : Ev (fun ρ k κ => andB g (M k) H (K ρ k κ)) Q :=
  ev_andI (c := true) (fun _ => h) (fun e => by rw [hg] at e; cases e) hK
/-- 'all that, and awake': the last question of a law. -/
theorem ev_aw {b : Bool} {F : Nat → AH → CPS Bool} {H : AH} (hb : b = true) (h : ∀ H : AH, Ev (fun ρ k κ => F k H ρ κ) (fun v _ => v = true)) : Ev (fun ρ k κ => andB b (F k H) H fun b' H' => κ b' H') (fun v _ => v = true) :=
  ev_and (S := fun b _ => b = true) (fun _ => h H) (fun e => by rw [hb] at e; cases e) fun b H' hb => ev_ret hb
end
end Go.Ab
