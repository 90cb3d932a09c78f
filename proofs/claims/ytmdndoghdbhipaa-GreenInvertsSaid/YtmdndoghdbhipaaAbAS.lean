/- The evaluator does not look at where blocks lie: what it says of an empty memory it says of any. Plain lemmas. No condition. -/
import Derived.Test.YtmdndoghdbhipaaAbA12
import Derived.Test.YtmdndoghdbhipaaAbAE
set_option linter.unusedSimpArgs false
set_option linter.unusedVariables false
namespace Go.Ab
open Go

def shP (n : Nat) (p : Pt) : Pt := ⟨p.b + n, p.o⟩
def shS (n : Nat) (s : Sl) : Sl := ⟨s.p.map (shP n), s.len⟩
mutual
def sh (n : Nat) : AV → AV
  | .unk => .unk
  | .int k m => .int k m
  | .bool b => .bool b
  | .str s => .str s
  | .sl s => .sl (shS n s)
  | .ptr p => .ptr (p.map (shP n))
  | .map r => .map (r.map (· + n))
  | .clo f caps => .clo f (shL n caps)
  | .nilf => .nilf
  | .ifc t v => .ifc t (sh n v)
  | .nili => .nili
  | .agg l => .agg (shL n l)
  | .tup l => .tup (shL n l)
def shL (n : Nat) : List AV → List AV
  | [] => []
  | v :: l => sh n v :: shL n l
end
theorem shL_map (n : Nat) : ∀ l : List AV, shL n l = l.map (sh n)
  | [] => by simp [shL]
  | v :: l => by simp [shL, shL_map n l]
def shB (n : Nat) : Blk → Blk
  | .cells vs sz => .cells (vs.map (sh n)) sz
  | .map es => .map (es.map fun p => (sh n p.1, sh n p.2))
  | .dead => .dead
/-- The memory, behind H0. -/
def shH (H0 H : AH) : AH := H0 ++ H.map (shB H0.length)
def shE (n : Nat) (σ : Env) : Env := fun x => sh n (σ x)

section
variable {H0 : AH} {H : AH}
theorem cond_none' {ρ : Type} {b : Bool} {x : Option ρ} {r : ρ} (h : (bif b then none else x) = some r) : b = false ∧ x = some r := by cases b <;> simp at h; exact ⟨rfl, h⟩
theorem shH_len : (shH H0 H).length = H.length + H0.length := by simp [shH]; omega
theorem shH_get {b : Nat} : (shH H0 H)[b + H0.length]? = (H[b]?).map (shB H0.length) := by
  unfold shH; rw [List.getElem?_append_right (by omega), Nat.add_sub_cancel]; simp
theorem shH_set {b : Nat} {x : Blk} : (shH H0 H).set (b + H0.length) (shB H0.length x) = shH H0 (H.set b x) := by
  unfold shH; rw [List.set_append, if_neg (by omega), Nat.add_sub_cancel, List.map_set]
theorem shH_snoc {x : Blk} : shH H0 H ++ [shB H0.length x] = shH H0 (H ++ [x]) := by simp [shH]
theorem shE_put {n : Nat} {σ : Env} {d : Nat} {v : AV} : shE n (put σ d v) = put (shE n σ) d (sh n v) := by
  funext x; simp only [shE, put]; cases Nat.beq x d <;> rfl
theorem shE_putO {n : Nat} {σ : Env} {d : Option Nat} {v : AV} : shE n (putO σ d v) = putO (shE n σ) d (sh n v) := by cases d with | none => rfl | some d => exact shE_put
theorem shE_forget {n : Nat} {σ : Env} {l : List Nat} : shE n (forget σ l) = forget (shE n σ) l := by
  funext x; simp only [shE, forget]; cases memN x l <;> simp [sh]
theorem shE_envOf {n : Nat} : ∀ (ss : List Nat) (vs : List AV), shE n (envOf ss vs) = envOf ss (vs.map (sh n))
  | s :: ss, v :: vs => by
    funext x
    have := congrFun (shE_envOf (n := n) ss vs) x
    simp only [shE] at this
    simp only [shE, envOf, List.map_cons]; cases Nat.beq x s <;> simp [this]
  | [], [] => by funext x; simp [shE, envOf, sh]
  | [], _ :: _ => by funext x; simp [shE, envOf, sh]
  | _ :: _, [] => by funext x; simp [shE, envOf, sh]
end

mutual
/-- No block is named. -/
def noid : AV → Bool
  | .sl s => s.p.isNone
  | .ptr p => p.isNone
  | .map r => r.isNone
  | .clo _ caps => noidL caps
  | .ifc _ v => noid v
  | .agg l => noidL l
  | .tup l => noidL l
  | _ => true
def noidL : List AV → Bool
  | [] => true
  | v :: l => noid v && noidL l
end
mutual
theorem sh_noid (n : Nat) : ∀ v : AV, noid v = true → sh n v = v
  | .unk, _ => by simp [sh]
  | .int _ _, _ => by simp [sh]
  | .bool _, _ => by simp [sh]
  | .str _, _ => by simp [sh]
  | .sl ⟨p, l⟩, h => by cases p <;> simp [noid] at h; simp [sh, shS]
  | .ptr p, h => by cases p <;> simp [noid] at h; simp [sh]
  | .map r, h => by cases r <;> simp [noid] at h; simp [sh]
  | .clo f caps, h => by simp only [noid] at h; simp only [sh, shL_noid n caps h]
  | .nilf, _ => by simp [sh]
  | .ifc t v, h => by simp only [noid] at h; simp only [sh, sh_noid n v h]
  | .nili, _ => by simp [sh]
  | .agg l, h => by simp only [noid] at h; simp only [sh, shL_noid n l h]
  | .tup l, h => by simp only [noid] at h; simp only [sh, shL_noid n l h]
theorem shL_noid (n : Nat) : ∀ l : List AV, noidL l = true → shL n l = l
  | [], _ => by simp [shL]
  | v :: l, h => by simp only [noidL, Bool.and_eq_true] at h; simp only [shL, sh_noid n v h.1, shL_noid n l h.2]
end
def noidO : Opd → Bool
  | .t _ => true
  | .c v => noid v
def noidOp : IOp → Bool
  | .pf _ xs => xs.all noidO
  | .mov x => noidO x
  | .bin _ _ x y => noidO x && noidO y
  | .beq _ x y => noidO x && noidO y
  | .not x => noidO x
  | .conv _ _ x => noidO x
  | .ld _ x => noidO x
  | .st _ x v => noidO x && noidO v
  | .fadr x _ => noidO x
  | .fld x _ _ => noidO x
  | .iadr s i _ => noidO s && noidO i
  | .aadr x i _ _ => noidO x && noidO i
  | .alloc zs => noidL zs
  | .box _ x => noidO x
  | .bld zs ps => noidL zs && ps.all fun p => noidO p.2.2
  | .bsl _ zs _ ps => noidL zs && ps.all fun p => noidO p.2.2
  | .mksl zs _ l c => noidL zs && noidO l && noidO c
  | .len x => noidO x
  | .lens x => noidO x
  | .app _ _ s x => noidO s && noidO x
  | .ext x _ => noidO x
  | .call _ args _ _ => args.all noidO
  | .callv x args _ _ => noidO x && args.all noidO
  | .mkf _ caps => caps.all noidO
  | .nilck x => noidO x
  | .mkm r => (match r with | none => true | some x => noidO x)
  | .look _ _ z m k _ => noid z && noidO m && noidO k
  | .mupd _ m k v => noidO m && noidO k && noidO v
  | .lenm x => noidO x
def noidS : Steps → Bool
  | .nil => true
  | .op _ _ o r => noidOp o && noidS r
  | .chk x r => noidO x && noidS r
  | .grp _ _ inner _ _ px r => noidS inner && noidO px && noidS r
def noidC : IRc → Bool
  | .reg ss next => noidS ss && noidC next
  | .ite c a b => noidO c && noidC a && noidC b
  | .jump _ => true
  | .ret => true
def noidG (G : Pg) : Bool := G.all fun f => f.pieces.all fun p => noidC p.code

section
variable {n : Nat} {σ : Env}
theorem opd_sh {x : Opd} (h : noidO x = true) : opd (shE n σ) x = sh n (opd σ x) := by
  cases x with
  | t m => rfl
  | c v => exact (sh_noid n v h).symm
theorem opds_sh : ∀ {xs : List Opd}, xs.all noidO = true → xs.map (opd (shE n σ)) = (xs.map (opd σ)).map (sh n)
  | [], _ => rfl
  | x :: xs, h => by simp only [List.all_cons, Bool.and_eq_true] at h; simp only [List.map_cons, opd_sh h.1, opds_sh h.2]
end

/-! The casts. -/
section
variable {ρ ρ' : Type} {r : ρ} {r' : ρ'} {n : Nat} {v : AV}
theorem asI_sh {k : IntKind} {κ : Int → Option ρ} {κ' : Int → Option ρ'} (hk : ∀ m, κ m = some r → κ' m = some r') (h : asI k v κ = some r) : asI k (sh n v) κ' = some r' := by
  obtain ⟨m, e, g⟩ := asI_some h; subst e; simp only [sh, asI_eq]; exact hk _ g
theorem asN_sh {κ : Int → Option ρ} {κ' : Int → Option ρ'} (hk : ∀ m, κ m = some r → κ' m = some r') (h : asN v κ = some r) : asN (sh n v) κ' = some r' := by
  obtain ⟨k, m, rfl, h⟩ := asN_some h; simp only [sh, asN]; exact hk _ h
theorem asB_sh {κ : Bool → Option ρ} {κ' : Bool → Option ρ'} (hk : ∀ m, κ m = some r → κ' m = some r') (h : asB v κ = some r) : asB (sh n v) κ' = some r' := by
  obtain ⟨m, rfl, h⟩ := asB_some h; simp only [sh, asB]; exact hk _ h
theorem asStr_sh {κ : ByteArray → Option ρ} {κ' : ByteArray → Option ρ'} (hk : ∀ m, κ m = some r → κ' m = some r') (h : asStr v κ = some r) : asStr (sh n v) κ' = some r' := by
  obtain ⟨m, rfl, h⟩ := asStr_some h; simp only [sh, asStr]; exact hk _ h
theorem asS_sh {κ : Sl → Option ρ} {κ' : Sl → Option ρ'} (hk : ∀ m, κ m = some r → κ' (shS n m) = some r') (h : asS v κ = some r) : asS (sh n v) κ' = some r' := by
  obtain ⟨m, rfl, h⟩ := asS_some h; simp only [sh, asS]; exact hk _ h
theorem asPO_sh {κ : Option Pt → Option ρ} {κ' : Option Pt → Option ρ'} (hk : ∀ m, κ m = some r → κ' (m.map (shP n)) = some r') (h : asPO v κ = some r) : asPO (sh n v) κ' = some r' := by
  obtain ⟨m, rfl, h⟩ := asPO_some h; simp only [sh, asPO]; exact hk _ h
theorem asP_sh {κ : Pt → Option ρ} {κ' : Pt → Option ρ'} (hk : ∀ m, κ m = some r → κ' (shP n m) = some r') (h : asP v κ = some r) : asP (sh n v) κ' = some r' := by
  obtain ⟨m, rfl, h⟩ := asP_some h; simp only [sh, asP, Option.map_some]; exact hk _ h
theorem asM_sh {κ : Option Nat → Option ρ} {κ' : Option Nat → Option ρ'} (hk : ∀ m, κ m = some r → κ' (m.map (· + n)) = some r') (h : asM v κ = some r) : asM (sh n v) κ' = some r' := by
  obtain ⟨m, rfl, h⟩ := asM_some h; simp only [sh, asM]; exact hk _ h
theorem asAgg_sh {κ : List AV → Option ρ} {κ' : List AV → Option ρ'} (hk : ∀ m, κ m = some r → κ' (m.map (sh n)) = some r') (h : asAgg v κ = some r) : asAgg (sh n v) κ' = some r' := by
  obtain ⟨m, rfl, h⟩ := asAgg_some h; simp only [sh, asAgg, shL_map]; exact hk _ h
theorem asTup_sh {κ : List AV → Option ρ} {κ' : List AV → Option ρ'} (hk : ∀ m, κ m = some r → κ' (m.map (sh n)) = some r') (h : asTup v κ = some r) : asTup (sh n v) κ' = some r' := by
  obtain ⟨m, rfl, h⟩ := asTup_some h; simp only [sh, asTup, shL_map]; exact hk _ h
theorem castLf_sh {l : Lf} {κ : AV → Option ρ} {κ' : AV → Option ρ'} (hk : ∀ u, κ u = some r → κ' (sh n u) = some r') (h : castLf l v κ = some r) : castLf l (sh n v) κ' = some r' := by
  cases l <;> simp only [castLf] at h ⊢
  case int k => exact asI_sh (fun m hm => by simpa [sh] using hk _ hm) h
  case bool => exact asB_sh (fun m hm => by simpa [sh] using hk _ hm) h
  case str => exact asStr_sh (fun m hm => by simpa [sh] using hk _ hm) h
  case sl => exact asS_sh (fun m hm => by simpa [sh] using hk _ hm) h
  case ptr => exact asPO_sh (fun m hm => by simpa [sh] using hk _ hm) h
  case map => exact asM_sh (fun m hm => by simpa [sh] using hk _ hm) h
  case any => exact hk _ h
theorem castLfs_sh : ∀ {ls : List Lf} {vs : List AV} {κ : List AV → Option ρ} {κ' : List AV → Option ρ'}, (∀ us, κ us = some r → κ' (us.map (sh n)) = some r') → castLfs ls vs κ = some r → castLfs ls (vs.map (sh n)) κ' = some r'
  | [], [], κ, κ', hk, h => by unfold castLfs at h ⊢; exact hk _ h
  | [], _ :: _, κ, κ', hk, h => by unfold castLfs at h; simp at h
  | _ :: _, [], κ, κ', hk, h => by unfold castLfs at h; simp at h
  | l :: ls, v :: vs, κ, κ', hk, h => by
    unfold castLfs at h ⊢
    exact castLf_sh (fun u hu => castLfs_sh (fun us hus => by simpa using hk _ hus) hu) h
theorem castT1_sh {t : T1} {κ : AV → Option ρ} {κ' : AV → Option ρ'} (hk : ∀ u, κ u = some r → κ' (sh n u) = some r') (h : castT1 t v κ = some r) : castT1 t (sh n v) κ' = some r' := by
  cases t with
  | lf l => exact castLf_sh hk h
  | agg ls => exact asAgg_sh (fun vs hv => castLfs_sh (fun us hus => by simpa [sh, shL_map] using hk _ hus) hv) h
theorem castT1s_sh : ∀ {ls : List T1} {vs : List AV} {κ : List AV → Option ρ} {κ' : List AV → Option ρ'}, (∀ us, κ us = some r → κ' (us.map (sh n)) = some r') → castT1s ls vs κ = some r → castT1s ls (vs.map (sh n)) κ' = some r'
  | [], [], κ, κ', hk, h => by unfold castT1s at h ⊢; exact hk _ h
  | [], _ :: _, κ, κ', hk, h => by unfold castT1s at h; simp at h
  | _ :: _, [], κ, κ', hk, h => by unfold castT1s at h; simp at h
  | l :: ls, v :: vs, κ, κ', hk, h => by
    unfold castT1s at h ⊢
    exact castT1_sh (fun u hu => castT1s_sh (fun us hus => by simpa using hk _ hus) hu) h
theorem castTy_sh {t : Ty} {κ : AV → Option ρ} {κ' : AV → Option ρ'} (hk : ∀ u, κ u = some r → κ' (sh n u) = some r') (h : castTy t v κ = some r) : castTy t (sh n v) κ' = some r' := by
  cases t with
  | one t => exact castT1_sh hk h
  | tup ts => exact asTup_sh (fun vs hv => castT1s_sh (fun us hus => by simpa [sh, shL_map] using hk _ hus) hv) h

theorem cells_sh {H0 H : AH} {b : Nat} {vs : List AV} {sz : Nat} (h : H[b]? = some (.cells vs sz)) : (shH H0 H)[b + H0.length]? = some (.cells (vs.map (sh H0.length)) sz) := by rw [shH_get, h]; rfl
theorem ldc_sh {H0 H : AH} {p : Pt} {κ : AV → Option ρ} {κ' : AV → Option ρ'} (hk : ∀ u, κ u = some r → κ' (sh H0.length u) = some r') (h : ldc H p κ = some r) : ldc (shH H0 H) (shP H0.length p) κ' = some r' := by
  obtain ⟨vs, sz, v, hb, hv, h⟩ := ldc_some h
  have h1 := cells_sh (H0 := H0) hb
  simp only [ldc, shP, h1, List.getElem?_map, hv, Option.map_some]
  exact hk _ h
theorem ldn_sh {H0 H : AH} {p : Pt} {m : Nat} {κ : List AV → Option ρ} {κ' : List AV → Option ρ'} (hk : ∀ us, κ us = some r → κ' (us.map (sh H0.length)) = some r') (h : ldn H p m κ = some r) : ldn (shH H0 H) (shP H0.length p) m κ' = some r' := by
  obtain ⟨vs, sz, hb, hm, h⟩ := ldn_some h
  have h1 := cells_sh (H0 := H0) hb
  simp only [ldn, shP, h1, List.length_map, hm, decide_true, cond_true]
  have := hk _ h
  rwa [List.map_take, List.map_drop] at this
theorem ldT_sh {H0 H : AH} {t : T1} {p : Pt} {κ : AV → Option ρ} {κ' : AV → Option ρ'} (hk : ∀ u, κ u = some r → κ' (sh H0.length u) = some r') (h : ldT H t p κ = some r) : ldT (shH H0 H) t (shP H0.length p) κ' = some r' := by
  cases t with
  | lf l => exact ldc_sh (fun u hu => castLf_sh hk hu) h
  | agg ls =>
    simp only [ldT] at h ⊢
    exact ldn_sh (fun us hus => castLfs_sh (κ' := fun vs' => κ' (.agg vs')) (fun ws hw => by simpa [sh, shL_map] using hk _ hw) hus) h
theorem stc_sh {H0 H : AH} {lo : Nat} {p : Pt} {u : AV} {κ : AH → Option ρ} {κ' : AH → Option ρ'} (hk : ∀ H', κ H' = some r → κ' (shH H0 H') = some r') (h : stc lo H p u κ = some r) : stc (lo + H0.length) (shH H0 H) (shP H0.length p) (sh H0.length u) κ' = some r' := by
  unfold stc at h
  split at h
  · rename_i vs sz hb
    obtain ⟨hc, h⟩ := cond_none h
    simp only [Bool.and_eq_true, decide_eq_true_eq] at hc
    have h1 := cells_sh (H0 := H0) hb
    have e1 : lo + H0.length ≤ p.b + H0.length := by omega
    simp only [stc, shP, h1, List.length_map, e1, hc.2, decide_true, Bool.and_self, cond_true]
    have := hk _ h
    rwa [← shH_set, shB, List.map_set] at this
  · simp at h
theorem overlay_map {α β : Type} (f : α → β) (vs : List α) (o : Nat) (us : List α) : (overlay vs o us).map f = overlay (vs.map f) o (us.map f) := by
  simp [overlay, List.map_take, List.map_drop]
theorem stn_sh {H0 H : AH} {lo : Nat} {p : Pt} {us : List AV} {κ : AH → Option ρ} {κ' : AH → Option ρ'} (hk : ∀ H', κ H' = some r → κ' (shH H0 H') = some r') (h : stn lo H p us κ = some r) : stn (lo + H0.length) (shH H0 H) (shP H0.length p) (us.map (sh H0.length)) κ' = some r' := by
  unfold stn at h
  split at h
  · rename_i vs sz hb
    obtain ⟨hc, h⟩ := cond_none h
    simp only [Bool.and_eq_true, decide_eq_true_eq] at hc
    have h1 := cells_sh (H0 := H0) hb
    have e1 : lo + H0.length ≤ p.b + H0.length := by omega
    simp only [stn, shP, h1, List.length_map, e1, hc.2, decide_true, Bool.and_self, cond_true]
    have := hk _ h
    rwa [← shH_set, shB, overlay_map] at this
  · simp at h
theorem idx_sh {s : Sl} {i : Int} {sz : Nat} {κ : Pt → Option ρ} {κ' : Pt → Option ρ'} (hk : ∀ p, κ p = some r → κ' (shP n p) = some r') (h : idx s i sz κ = some r) : idx (shS n s) i sz κ' = some r' := by
  obtain ⟨p, hp, h0, h1, h⟩ := idx_some h
  rw [idx_eq (p := shP n p) (by simp [shS, hp]) h0 (by simpa [shS] using h1)]
  exact hk _ h
theorem slc_sh {s : Sl} {l m : Int} {sz : Nat} {κ : Sl → Option ρ} {κ' : Sl → Option ρ'} (hk : ∀ s', κ s' = some r → κ' (shS n s') = some r') (h : slc s l m sz κ = some r) : slc (shS n s) l m sz κ' = some r' := by
  unfold slc at h ⊢
  obtain ⟨hc, h⟩ := cond_none h
  have e : (shS n s).len = s.len := rfl
  rw [e, hc]
  simp only [cond_true]
  cases hp : s.p with
  | none => rw [hp] at h; simp only [shS, hp, Option.map_none]; exact hk _ h
  | some p => rw [hp] at h; simp only [shS, hp, Option.map_some]; exact hk _ h
theorem single_sh : ∀ v : AV, single (sh n v) = single v := fun v => by cases v <;> simp [sh, single]
theorem singles_sh : ∀ l : List AV, singles (l.map (sh n)) = singles l
  | [] => rfl
  | v :: l => by simp only [List.map_cons, singles, single_sh, singles_sh l]
theorem known_sh : ∀ v : AV, known (sh n v) = known v := fun v => by cases v <;> simp [sh, known]
theorem cellsV_sh : ∀ v : AV, cellsV (sh n v) = (cellsV v).map (sh n) := fun v => by cases v <;> simp [sh, cellsV, shL_map]
theorem fillP_sh {σ : Env} : ∀ {ps : List (Nat × Nat × Opd)} {zs : List AV} {κ : List AV → Option ρ} {κ' : List AV → Option ρ'}, (ps.all fun p => noidO p.2.2) = true → (∀ us, κ us = some r → κ' (us.map (sh n)) = some r') → fillP σ zs ps κ = some r → fillP (shE n σ) (zs.map (sh n)) ps κ' = some r'
  | [], zs, κ, κ', _, hk, h => by unfold fillP at h ⊢; exact hk _ h
  | (o, m, x) :: ps, zs, κ, κ', hn, hk, h => by
    simp only [List.all_cons, Bool.and_eq_true] at hn
    unfold fillP at h ⊢
    obtain ⟨hc, h⟩ := cond_none h
    rw [opd_sh hn.1, known_sh, cellsV_sh, List.length_map, List.length_map, hc, cond_true, ← overlay_map]
    exact fillP_sh hn.2 hk h
theorem alc_sh {H0 H : AH} {zs : List AV} {κ : Pt → AH → Option ρ} {κ' : Pt → AH → Option ρ'} (hk : ∀ p H', κ p H' = some r → κ' (shP H0.length p) (shH H0 H') = some r') (h : alc H zs κ = some r) : alc (shH H0 H) (zs.map (sh H0.length)) κ' = some r' := by
  have := hk _ _ h
  simpa only [alc, shP, shH_len, ← shH_snoc, shB, List.length_map] using this
theorem mkb_sh {H0 H : AH} {zs : List AV} {sz len : Nat} {κ : Sl → AH → Option ρ} {κ' : Sl → AH → Option ρ'} (hk : ∀ p H', κ p H' = some r → κ' (shS H0.length p) (shH H0 H') = some r') (h : mkb H zs sz len κ = some r) : mkb (shH H0 H) (zs.map (sh H0.length)) sz len κ' = some r' := by
  have := hk _ _ h
  simpa only [mkb, shS, shP, Option.map_some, shH_len, ← shH_snoc, shB] using this
theorem mks_sh {H0 H : AH} {zs : List AV} {bytes : Nat} {l c : Int} {κ : Sl → AH → Option ρ} {κ' : Sl → AH → Option ρ'} (hk : ∀ p H', κ p H' = some r → κ' (shS H0.length p) (shH H0 H') = some r') (h : mks H zs bytes l c κ = some r) : mks (shH H0 H) (zs.map (sh H0.length)) bytes l c κ' = some r' := by
  unfold mks at h ⊢
  obtain ⟨hc, h⟩ := cond_none h
  rw [hc, cond_true]
  have := hk _ _ h
  simpa only [shS, shP, Option.map_some, shH_len, ← shH_snoc, shB, List.length_map, List.map_flatten, List.map_replicate] using this
theorem app_sh {H0 H : AH} {lo : Nat} {s : Sl} {sz bytes : Nat} {us : List AV} {m : Nat} {κ : Sl → AH → Option ρ} {κ' : Sl → AH → Option ρ'} (hk : ∀ p H', κ p H' = some r → κ' (shS H0.length p) (shH H0 H') = some r') (h : app lo H s sz bytes us m κ = some r) :
    app (lo + H0.length) (shH H0 H) (shS H0.length s) sz bytes (us.map (sh H0.length)) m κ' = some r' := by
  unfold app at h ⊢
  by_cases hm : m = 0
  · simp only [hm, decide_true, cond_true] at h ⊢; exact hk _ _ h
  · simp only [hm, decide_false, cond_false] at h ⊢
    obtain ⟨hc, h⟩ := cond_none h
    have e : (shS H0.length s).len = s.len := rfl
    rw [e, List.length_map, singles_sh, hc, cond_true]
    cases hp : s.p with
    | none =>
      rw [hp] at h
      simp only [shS, hp, Option.map_none] at h ⊢
      obtain ⟨hc2, h⟩ := cond_none h
      rw [hc2, cond_true]
      have := hk _ _ h
      simpa only [shS, shP, Option.map_some, shH_len, ← shH_snoc, shB] using this
    | some p =>
      rw [hp] at h
      simp only at h
      split at h
      · rename_i vs sz' hb
        obtain ⟨hc2, h⟩ := cond_none h
        simp only [Bool.and_eq_true, decide_eq_true_eq] at hc2
        have h1 := cells_sh (H0 := H0) hb
        have e1 : lo + H0.length ≤ p.b + H0.length := by omega
        simp only [shS, hp, Option.map_some, shP, h1, List.length_map, e1, hc2.1.2, hc2.2, decide_true, Bool.and_self, cond_true]
        have := hk _ _ h
        have e3 : (shH H0 H).set (p.b + H0.length) .dead = shH H0 (H.set p.b .dead) := shH_set (x := .dead)
        rw [e3]
        have hl : (H.set p.b .dead).length = H.length := List.length_set ..
        simpa only [shS, shP, Option.map_some, shH_len, ← shH_snoc, shB, List.map_append, List.map_take, List.map_drop, hl, hc2.1.2] using this
      · simp at h
theorem appS_sh {H0 H : AH} {lo : Nat} {s y : Sl} {sz bytes : Nat} {κ : Sl → AH → Option ρ} {κ' : Sl → AH → Option ρ'} (hk : ∀ p H', κ p H' = some r → κ' (shS H0.length p) (shH H0 H') = some r') (h : appS lo H s y sz bytes κ = some r) :
    appS (lo + H0.length) (shH H0 H) (shS H0.length s) (shS H0.length y) sz bytes κ' = some r' := by
  unfold appS at h ⊢
  cases hp : y.p with
  | none =>
    rw [hp] at h
    simp only [shS, hp, Option.map_none] at h ⊢
    obtain ⟨hc, h⟩ := cond_none h
    rw [hc, cond_true]; exact hk _ _ h
  | some q =>
    rw [hp] at h
    simp only [shS, hp, Option.map_some] at h ⊢
    exact ldn_sh (fun us hus => app_sh hk hus) h
theorem sameK_sh {st : Bool} (k k' : AV) : sameK st (sh n k) (sh n k') = sameK st k k' := by
  cases k <;> cases k' <;> simp [sh, sameK]
theorem findM_sh {st : Bool} {k : AV} : ∀ (es : List (AV × AV)) (i : Nat), findM st (sh n k) (es.map fun p => (sh n p.1, sh n p.2)) i = (findM st k es i).map fun q => q.map fun p => (p.1, sh n p.2)
  | [], i => rfl
  | e :: es, i => by
    simp only [List.map_cons, findM, sameK_sh]
    cases h : sameK st k e.1 with
    | none => rfl
    | some b => cases b with
      | true => rfl
      | false => exact findM_sh es (i + 1)
theorem entries_sh {H0 H : AH} {m : Option Nat} {κ : List (AV × AV) → Option ρ} {κ' : List (AV × AV) → Option ρ'} (hk : ∀ es, κ es = some r → κ' (es.map fun p => (sh H0.length p.1, sh H0.length p.2)) = some r') (h : entries H m κ = some r) : entries (shH H0 H) (m.map (· + H0.length)) κ' = some r' := by
  obtain ⟨es, h1, h⟩ := entries_some h
  have := hk _ h
  rcases h1 with ⟨rfl, rfl⟩ | ⟨b, rfl, hb⟩
  · exact this
  · have h2 : (shH H0 H)[b + H0.length]? = some (.map (es.map fun p => (sh H0.length p.1, sh H0.length p.2))) := by rw [shH_get, hb]; rfl
    simp only [Option.map_some, entries, h2]; exact this
theorem mlook_sh {H0 H : AH} {st : Bool} {m : Option Nat} {k : AV} {κ : Option AV → Option ρ} {κ' : Option AV → Option ρ'} (hk : ∀ q, κ q = some r → κ' (q.map (sh H0.length)) = some r') (h : mlook st H m k κ = some r) : mlook st (shH H0 H) (m.map (· + H0.length)) (sh H0.length k) κ' = some r' := by
  refine entries_sh (fun es hes => ?_) h
  rw [findM_sh]
  split at hes
  · rename_i q hq
    have := hk _ hes
    rw [hq]
    cases q <;> simpa using this
  · simp at hes
theorem mput_sh {H0 H : AH} {st : Bool} {lo : Nat} {m : Option Nat} {k v : AV} {κ : AH → Option ρ} {κ' : AH → Option ρ'} (hk : ∀ H', κ H' = some r → κ' (shH H0 H') = some r') (h : mput st lo H m k v κ = some r) : mput st (lo + H0.length) (shH H0 H) (m.map (· + H0.length)) (sh H0.length k) (sh H0.length v) κ' = some r' := by
  obtain ⟨b, es, q, rfl, hb, hlo, hq, _, h⟩ := mput_some h
  have h2 : (shH H0 H)[b + H0.length]? = some (.map (es.map fun p => (sh H0.length p.1, sh H0.length p.2))) := by rw [shH_get, hb]; rfl
  have e1 : lo + H0.length ≤ b + H0.length := by omega
  have := hk _ h
  simp only [Option.map_some, mput, h2, e1, decide_true, cond_true, findM_sh, hq]
  cases q with
  | none => simpa only [Option.map_none, ← shH_set, shB, List.map_append, List.map_cons, List.map_nil] using this
  | some p => simpa only [Option.map_some, ← shH_set, shB, List.map_set] using this
theorem evPF_sh {f : PF} {xs : List AV} {κ : AV → Option ρ} {κ' : AV → Option ρ'} (hk : ∀ u, κ u = some r → κ' (sh n u) = some r') (h : evPF f xs κ = some r) : evPF f (xs.map (sh n)) κ' = some r' := by
  cases f <;> simp only [evPF] at h ⊢
  case bits op k => split at h <;> (try simp only [List.map_cons, List.map_nil]) <;> first | exact asI_sh (fun a ha => asI_sh (fun b hb => by simpa [sh] using hk _ hb) ha) h | simp at h
  case shf op k k' => split at h <;> (try simp only [List.map_cons, List.map_nil]) <;> first | exact asI_sh (fun a ha => asI_sh (fun b hb => by obtain ⟨hc, hb⟩ := cond_none' hb; rw [hc, cond_false]; simpa [sh] using hk _ hb) ha) h | simp at h
  case mx k => split at h <;> (try simp only [List.map_cons, List.map_nil]) <;> first | exact asI_sh (fun a ha => asI_sh (fun b hb => by simpa [sh] using hk _ hb) ha) h | simp at h
  case mn k => split at h <;> (try simp only [List.map_cons, List.map_nil]) <;> first | exact asI_sh (fun a ha => asI_sh (fun b hb => by simpa [sh] using hk _ hb) ha) h | simp at h
  case slc sz =>
    split at h <;> (try simp only [List.map_cons, List.map_nil])
    · exact asS_sh (fun s hs => asN_sh (fun l hl => slc_sh (fun s' hs' => by simpa [sh] using hk _ hs') hl) hs) h
    · exact asS_sh (fun s hs => asN_sh (fun l hl => asN_sh (fun m hm => slc_sh (fun s' hs' => by simpa [sh] using hk _ hs') hm) hl) hs) h
    · simp at h
  case stx =>
    split at h <;> (try simp only [List.map_cons, List.map_nil])
    · refine asStr_sh (fun s hs => asN_sh (fun i hi => ?_) hs) h
      unfold stx at hi ⊢
      split at hi
      · rename_i b hb; simpa [hb, sh] using hk _ hi
      · simp at hi
    · simp at h
  case sts =>
    split at h <;> (try simp only [List.map_cons, List.map_nil])
    · refine asStr_sh (fun s hs => asN_sh (fun l hl => ?_) hs) h
      unfold sts at hl ⊢
      obtain ⟨hc, hl⟩ := cond_none hl
      rw [hc, cond_true]; simpa [sh] using hk _ hl
    · refine asStr_sh (fun s hs => asN_sh (fun l hl => asN_sh (fun m hm => ?_) hl) hs) h
      unfold sts at hm ⊢
      obtain ⟨hc, hm⟩ := cond_none hm
      rw [hc, cond_true]; simpa [sh] using hk _ hm
    · simp at h
  case sop op =>
    split at h <;> (try simp only [List.map_cons, List.map_nil])
    · refine asStr_sh (fun s hs => asStr_sh (fun t ht => ?_) hs) h
      cases op <;> simp only [sopS] at ht ⊢ <;> first
        | (simpa [sh] using hk _ ht)
        | (unfold stc2 at ht ⊢
           obtain ⟨hc, ht⟩ := cond_none ht
           rw [hc, cond_true]; simpa [sh] using hk _ ht)
        | (simp at ht)
    · simp at h
  case pnil neg =>
    split at h <;> (try simp only [List.map_cons, List.map_nil])
    · exact asPO_sh (fun p hp => by simpa [sh] using hk _ hp) h
    · simp at h
end

/-- A call may be moved. -/
def CallSh (H0 : AH) (call call' : CallT) : Prop := ∀ (ρ ρ' : Type) (r : ρ) (r' : ρ') (g : Nat) (args : List AV) (lo : Nat) (H : AH) (κ : AV → AH → Option ρ) (κ' : AV → AH → Option ρ'),
  (∀ v H', κ v H' = some r → κ' (sh H0.length v) (shH H0 H') = some r') → call ρ g args lo H κ = some r → call' ρ' g (args.map (sh H0.length)) (lo + H0.length) (shH H0 H) κ' = some r'

theorem evOp_sh {H0 : AH} {call call' : CallT} (hC : CallSh H0 call call') {ρ ρ' : Type} {r : ρ} {r' : ρ'} {lo : Nat} {io : IOp} {σ : Env} {H : AH} {κ : AV → AH → Option ρ} {κ' : AV → AH → Option ρ'} (hn : noidOp io = true)
    (hk : ∀ v H', κ v H' = some r → κ' (sh H0.length v) (shH H0 H') = some r') (h : evOp call lo io σ H κ = some r) : evOp call' (lo + H0.length) io (shE H0.length σ) (shH H0 H) κ' = some r' := by
  cases io <;> simp only [noidOp, Bool.and_eq_true] at hn <;> simp only [evOp] at h ⊢
  case pf f xs => rw [opds_sh hn]; exact evPF_sh (fun u hu => hk _ _ hu) h
  case mov x => rw [opd_sh hn]; exact hk _ _ h
  case bin op k x y =>
    rw [opd_sh hn.1, opd_sh hn.2]
    refine asI_sh (fun a ha => asI_sh (fun b hb => ?_) ha) h
    cases op <;> simp only [binI] at hb ⊢ <;> first
      | (simpa [sh] using hk _ _ hb)
      | (obtain ⟨hc, hb⟩ := cond_none' hb; rw [hc, cond_false]; simpa [sh] using hk _ _ hb)
      | (simp at hb)
  case beq neg x y =>
    rw [opd_sh hn.1, opd_sh hn.2]
    exact asB_sh (fun a ha => asB_sh (fun b hb => by simpa [sh] using hk _ _ hb) ha) h
  case not x => rw [opd_sh hn]; exact asB_sh (fun a ha => by simpa [sh] using hk _ _ ha) h
  case conv k k' x => rw [opd_sh hn]; exact asI_sh (fun a ha => by simpa [sh] using hk _ _ ha) h
  case ld t x => rw [opd_sh hn]; exact asP_sh (fun p hp => ldT_sh (fun v hv => hk _ _ hv) hp) h
  case st m x v =>
    rw [opd_sh hn.1, opd_sh hn.2]
    refine asP_sh (fun p hp => ?_) h
    cases m with
    | none =>
      simp only at hp ⊢
      obtain ⟨hc, hp⟩ := cond_none hp
      rw [single_sh, hc, cond_true]
      exact stc_sh (fun H' hH => by simpa [sh, shL] using hk _ _ hH) hp
    | some m =>
      simp only at hp ⊢
      refine asAgg_sh (fun us hus => ?_) hp
      obtain ⟨hc, hus⟩ := cond_none hus
      rw [List.length_map, singles_sh, hc, cond_true]
      exact stn_sh (fun H' hH => by simpa [sh, shL] using hk _ _ hH) hus
  case fadr x off => rw [opd_sh hn]; exact asP_sh (fun p hp => by simpa [sh, shP] using hk _ _ hp) h
  case fld x off m =>
    rw [opd_sh hn]
    refine asAgg_sh (fun vs hvs => ?_) h
    cases m with
    | none =>
      simp only at hvs ⊢
      split at hvs
      · rename_i v hv; rw [List.getElem?_map, hv]; exact hk _ _ hvs
      · simp at hvs
    | some m =>
      simp only at hvs ⊢
      obtain ⟨hc, hvs⟩ := cond_none hvs
      rw [List.length_map, hc, cond_true]
      simpa [sh, shL_map, List.map_take, List.map_drop] using hk _ _ hvs
  case iadr s i sz =>
    rw [opd_sh hn.1, opd_sh hn.2]
    exact asS_sh (fun s hs => asN_sh (fun i hi => idx_sh (fun p hp => by simpa [sh] using hk _ _ hp) hi) hs) h
  case aadr x i len sz =>
    rw [opd_sh hn.1, opd_sh hn.2]
    refine asP_sh (fun p hp => asN_sh (fun i hi => ?_) hp) h
    obtain ⟨hc, hi⟩ := cond_none hi
    rw [hc, cond_true]; simpa [sh, shP] using hk _ _ hi
  case alloc zs =>
    have := alc_sh (H0 := H0) (κ' := fun p H' => κ' (.ptr (some p)) H') (fun p H' hp => by simpa [sh] using hk _ _ hp) h
    rw [← shL_map, shL_noid _ _ hn] at this; exact this
  case box m x =>
    rw [opd_sh hn]
    obtain ⟨hc, h⟩ := cond_none h
    rw [known_sh, cellsV_sh, List.length_map, singles_sh, hc, cond_true]
    exact alc_sh (κ' := fun p H' => κ' (.ptr (some p)) H') (fun p H' hp => by simpa [sh] using hk _ _ hp) h
  case bld zs ps =>
    have := fillP_sh (n := H0.length) (κ' := fun cs => κ' (.agg cs) (shH H0 H)) hn.2 (fun us hus => by simpa [sh, shL_map] using hk _ _ hus) h
    rw [← shL_map, shL_noid _ _ hn.1] at this; exact this
  case bsl sz zs len ps =>
    have := fillP_sh (n := H0.length) (κ' := fun cs => bif singles cs then mkb (shH H0 H) cs sz len fun s H' => κ' (.sl s) H' else none) hn.2 (fun us hus => by
      obtain ⟨hc, hus⟩ := cond_none hus
      simp only [singles_sh, hc, cond_true]
      exact mkb_sh (κ' := fun s H' => κ' (.sl s) H') (fun p H' hp => by simpa [sh] using hk _ _ hp) hus) h
    rw [← shL_map, shL_noid _ _ hn.1] at this; exact this
  case mksl zs bytes l c =>
    rw [opd_sh hn.1.2, opd_sh hn.2]
    refine asI_sh (fun l hl => asI_sh (fun c hc => ?_) hl) h
    have := mks_sh (H0 := H0) (κ' := fun s H' => κ' (.sl s) H') (fun p H' hp => by simpa [sh] using hk _ _ hp) hc
    rw [← shL_map, shL_noid _ _ hn.1.1] at this; exact this
  case len x => rw [opd_sh hn]; exact asS_sh (fun s hs => by simpa [sh, shS] using hk _ _ hs) h
  case lens x => rw [opd_sh hn]; exact asStr_sh (fun s hs => by simpa [sh] using hk _ _ hs) h
  case app sz bytes s x =>
    rw [opd_sh hn.1, opd_sh hn.2]
    exact asS_sh (fun s hs => asS_sh (fun y hy => appS_sh (fun p H' hp => by simpa [sh] using hk _ _ hp) hy) hs) h
  case ext x i =>
    rw [opd_sh hn]
    refine asTup_sh (fun l hl => ?_) h
    split at hl
    · rename_i v hv; rw [List.getElem?_map, hv]; exact hk _ _ hl
    · simp at hl
  case call g args fresh rt =>
    rw [opds_sh hn]
    have := hC _ _ r r' _ _ _ _ _ (fun v H' => castTy rt v fun v' => κ' v' H') (fun v H' hv => castTy_sh (fun u hu => hk _ _ hu) hv) h
    cases fresh
    · exact this
    · simpa only [cond_true, shH_len] using this
  case callv x args fresh rt =>
    rw [opds_sh hn.2, opd_sh hn.1]
    split at h
    · rename_i g caps hx
      rw [hx]
      simp only [sh, shL_map]
      rw [← List.map_append]
      have := hC _ _ r r' _ _ _ _ _ (fun v H' => castTy rt v fun v' => κ' v' H') (fun v H' hv => castTy_sh (fun u hu => hk _ _ hu) hv) h
      cases fresh
      · exact this
      · simpa only [cond_true, shH_len] using this
    · simp at h
  case mkf g caps => rw [opds_sh hn]; simpa [sh, shL_map] using hk _ _ h
  case nilck x => rw [opd_sh hn]; exact asP_sh (fun p hp => by simpa [sh] using hk _ _ hp) h
  case mkm r0 =>
    cases r0 with
    | none =>
      have := hk _ _ h
      simpa only [sh, Option.map_some, shH_len, ← shH_snoc, shB, List.map_nil] using this
    | some x =>
      simp only at hn h ⊢
      rw [opd_sh hn]
      refine asI_sh (fun m hm => ?_) h
      have := hk _ _ hm
      simpa only [sh, Option.map_some, shH_len, ← shH_snoc, shB, List.map_nil] using this
  case look st l z m k ok =>
    rw [opd_sh hn.1.2, opd_sh hn.2]
    refine asM_sh (fun m hm => mlook_sh (fun q hq => ?_) hm) h
    have e : (q.map (sh H0.length)).getD z = sh H0.length (q.getD z) := by cases q with | none => exact (sh_noid _ _ hn.1.1).symm | some q => rfl
    rw [e]
    refine castLf_sh (fun u hu => ?_) hq
    have := hk _ _ hu
    cases ok <;> simpa [sh, shL] using this
  case mupd st m k v =>
    rw [opd_sh hn.1.1, opd_sh hn.1.2, opd_sh hn.2]
    exact asM_sh (fun m hm => mput_sh (fun H' hH => by simpa [sh, shL] using hk _ _ hH) hm) h
  case lenm x =>
    rw [opd_sh hn]
    refine asM_sh (fun m hm => entries_sh (fun es hes => ?_) hm) h
    simpa [sh] using hk _ _ hes

theorem aliveB_sh {H0 H : AH} {v : AV} : aliveB (shH H0 H) (sh H0.length v) = aliveB H v := by
  cases v <;> simp [sh, aliveB]
  rename_i p
  cases p with
  | none => rfl
  | some p =>
    simp only [Option.map_some, shP, shH_get]
    cases h : H[p.b]? with
    | none => rfl
    | some b => cases b <;> rfl
theorem evS_sh {H0 : AH} {call call' : CallT} (hC : CallSh H0 call call') {lo : Nat} : ∀ (ss : Steps) {ρ ρ' : Type} {r : ρ} {r' : ρ'} {σ : Env} {H : AH} {κ : Env → AH → Option ρ} {κ' : Env → AH → Option ρ'}, noidS ss = true →
    (∀ σ' H', κ σ' H' = some r → κ' (shE H0.length σ') (shH H0 H') = some r') → evS call lo ss ρ σ H κ = some r → evS call' (lo + H0.length) ss ρ' (shE H0.length σ) (shH H0 H) κ' = some r'
  | .nil, ρ, ρ', r, r', σ, H, κ, κ', _, hk, h => by simp only [evS] at h ⊢; exact hk _ _ h
  | .op i d o rest, ρ, ρ', r, r', σ, H, κ, κ', hn, hk, h => by
    simp only [noidS, Bool.and_eq_true] at hn
    simp only [evS] at h ⊢
    refine evOp_sh hC hn.1 (fun v H' hv => ?_) h
    rw [← shE_putO]
    exact evS_sh hC rest hn.2 hk hv
  | .chk x rest, ρ, ρ', r, r', σ, H, κ, κ', hn, hk, h => by
    simp only [noidS, Bool.and_eq_true] at hn
    simp only [evS] at h ⊢
    obtain ⟨hc, h⟩ := cond_none h
    rw [opd_sh hn.1, aliveB_sh, hc, cond_true]
    exact evS_sh hC rest hn.2 hk h
  | .grp gt want inner i pd px rest, ρ, ρ', r, r', σ, H, κ, κ', hn, hk, h => by
    simp only [noidS, Bool.and_eq_true] at hn
    simp only [evS] at h ⊢
    refine asB_sh (v := σ gt) (fun g hg => ?_) h
    rw [Option.bind_eq_some_iff] at hg ⊢
    obtain ⟨⟨b, H1⟩, h1, h2⟩ := hg
    refine ⟨(b, shH H0 H1), ?_, ?_⟩
    · cases hb : (bif want then g else !g)
      · rw [hb] at h1
        simp only [cond_false, Option.some.injEq, Prod.mk.injEq] at h1
        obtain ⟨rfl, rfl⟩ := h1
        rfl
      · rw [hb] at h1
        simp only [cond_true] at h1 ⊢
        refine evS_sh hC inner hn.1.1 (r := (b, H1)) (r' := (b, shH H0 H1)) (fun σ' H' hs => ?_) h1
        rw [opd_sh hn.1.2]
        refine asB_sh (fun c hc => ?_) hs
        simp only [Option.some.injEq, Prod.mk.injEq] at hc
        obtain ⟨rfl, rfl⟩ := hc
        rfl
    · have := evS_sh hC rest hn.2 hk h2
      rw [shE_put, shE_forget] at this
      simpa [sh] using this
theorem evRV_sh {H0 : AH} {rv : RV} {ρ ρ' : Type} {r : ρ} {r' : ρ'} {σ : Env} {H : AH} {κ : AV → Option ρ} {κ' : AV → Option ρ'} (hk : ∀ v, κ v = some r → κ' (sh H0.length v) = some r') (h : evRV rv σ H κ = some r) : evRV rv (shE H0.length σ) (shH H0 H) κ' = some r' := by
  cases rv with
  | tmp t => exact hk _ h
  | cell t ty => exact asP_sh (v := σ t) (fun p hp => ldT_sh hk hp) h
theorem evRVs_sh {H0 : AH} {ρ ρ' : Type} {r : ρ} {r' : ρ'} {σ : Env} {H : AH} : ∀ {rs : List RV} {κ : List AV → Option ρ} {κ' : List AV → Option ρ'}, (∀ vs, κ vs = some r → κ' (vs.map (sh H0.length)) = some r') → evRVs rs σ H κ = some r → evRVs rs (shE H0.length σ) (shH H0 H) κ' = some r'
  | [], κ, κ', hk, h => by unfold evRVs at h ⊢; exact hk _ h
  | rv :: rs, κ, κ', hk, h => by
    unfold evRVs at h ⊢
    exact evRV_sh (fun v hv => evRVs_sh (fun vs hvs => by simpa using hk _ hvs) hv) h
theorem evRes_sh {H0 : AH} {rs : List RV} {ρ ρ' : Type} {r : ρ} {r' : ρ'} {σ : Env} {H : AH} {κ : AV → AH → Option ρ} {κ' : AV → AH → Option ρ'} (hk : ∀ v H', κ v H' = some r → κ' (sh H0.length v) (shH H0 H') = some r') (h : evRes rs σ H κ = some r) : evRes rs (shE H0.length σ) (shH H0 H) κ' = some r' := by
  unfold evRes at h ⊢
  split at h
  · exact evRV_sh (fun v hv => hk _ _ hv) h
  · exact evRVs_sh (fun vs hvs => by simpa [sh, shL_map] using hk _ _ hvs) h
theorem evC_sh {H0 : AH} {call call' : CallT} (hC : CallSh H0 call call') {ρ ρ' : Type} {r : ρ} {r' : ρ'} {lo : Nat} {sigs : Nat → List Nat} {res : List RV} {jmp : Nat → List AV → AH → Option ρ} {jmp' : Nat → List AV → AH → Option ρ'} {κ : AV → AH → Option ρ} {κ' : AV → AH → Option ρ'}
    (hk : ∀ v H', κ v H' = some r → κ' (sh H0.length v) (shH H0 H') = some r') (hj : ∀ j args H', jmp j args H' = some r → jmp' j (args.map (sh H0.length)) (shH H0 H') = some r') :
    ∀ (c : IRc) (σ : Env) (H : AH), noidC c = true → evC call jmp sigs res lo κ c σ H = some r → evC call' jmp' sigs res (lo + H0.length) κ' c (shE H0.length σ) (shH H0 H) = some r'
  | .reg ss next, σ, H, hn, h => by
    simp only [noidC, Bool.and_eq_true] at hn
    simp only [evC] at h ⊢
    exact evS_sh hC ss hn.1 (fun σ' H' hs => evC_sh hC hk hj next σ' H' hn.2 hs) h
  | .ite c a b, σ, H, hn, h => by
    simp only [noidC, Bool.and_eq_true] at hn
    simp only [evC] at h ⊢
    rw [opd_sh hn.1.1]
    refine asB_sh (fun t ht => ?_) h
    cases t
    · exact evC_sh hC hk hj b σ H hn.2 ht
    · exact evC_sh hC hk hj a σ H hn.1.2 ht
  | .jump j, σ, H, _, h => by
    simp only [evC] at h ⊢
    have := hj _ _ _ h
    rwa [List.map_map] at this
  | .ret, σ, H, _, h => by
    simp only [evC] at h ⊢
    exact evRes_sh hk h
theorem run_sh {G : Pg} (hG : noidG G = true) (H0 : AH) : ∀ (k m : Nat) (ρ ρ' : Type) (r : ρ) (r' : ρ') (f j : Nat) (args : List AV) (lo : Nat) (H : AH) (κ : AV → AH → Option ρ) (κ' : AV → AH → Option ρ'),
    (∀ v H', κ v H' = some r → κ' (sh H0.length v) (shH H0 H') = some r') → run G k ρ f j args lo H κ = some r → run G (k + m) ρ' f j (args.map (sh H0.length)) (lo + H0.length) (shH H0 H) κ' = some r'
  | 0, m, ρ, ρ', r, r', f, j, args, lo, H, κ, κ', _, h => by simp [run] at h
  | k + 1, m, ρ, ρ', r, r', f, j, args, lo, H, κ, κ', hk, h => by
    rw [show k + 1 + m = (k + m) + 1 by omega]
    unfold run at h ⊢
    split at h
    · simp at h
    · rename_i fn hf
      split at h
      · simp at h
      · rename_i pc hp
        obtain ⟨hc, h⟩ := cond_none h
        have hno : noidC pc.code = true := by
          unfold noidG at hG
          rw [List.all_eq_true] at hG
          have h1 := hG fn (List.mem_of_getElem? hf)
          rw [List.all_eq_true] at h1
          exact h1 pc (List.mem_of_getElem? hp)
        simp only [hf, hp, List.length_map, hc, cond_true]
        rw [← shE_envOf]
        exact evC_sh (fun ρ ρ' r r' g args lo H κ κ' hk h => run_sh hG H0 k m ρ ρ' r r' g 0 args lo H κ κ' hk h) hk (fun j args H' hj => run_sh hG H0 k m ρ ρ' r r' f j args lo H' κ κ' hk hj) pc.code _ H hno h
/-- WHAT IS COMPUTED IN AN EMPTY MEMORY HOLDS IN ANY, with that many rounds or more: for functions without parameters. -/
theorem run_any {G : Pg} (hG : noidG G = true) {k g : Nat} {v : AV} {H1 : AH} (h : run G k PV g 0 [] 0 [] pr = some (v, H1)) (H : AH) : ∀ k', k ≤ k' → ∀ (ρ : Type) (κ : AV → AH → Option ρ), run G k' ρ g 0 [] H.length H κ = κ (sh H.length v) (shH H H1) := by
  intro k' hk' ρ κ
  obtain ⟨m, rfl⟩ : ∃ m, k' = k + m := ⟨k' - k, by omega⟩
  have := run_sh hG H k m PV PV (v, H1) (sh H.length v, shH H H1) g 0 [] 0 [] pr pr (fun u H' hu => by obtain ⟨rfl, rfl⟩ := pr_inj hu; rfl) h
  simp only [List.map_nil, Nat.zero_add] at this
  have e : shH H [] = H := by simp [shH]
  rw [e] at this
  obtain ⟨v', H', h1, h2⟩ := run_split G (k + m) PV g 0 [] H.length H pr _ this
  obtain ⟨rfl, rfl⟩ := pr_inj h2
  exact h1 ρ κ
/-- .. as the calculus says it, of a function that answers a bool. -/
theorem ev_any {G : Pg} (hG : noidG G = true) {k g : Nat} {b : Bool} {H1 : AH} (h : run G k PV g 0 [] 0 [] pr = some (.bool b, H1)) (H : AH) : Ev (fun ρ k κ => run G k ρ g 0 [] H.length H fun v H' => asB v fun b => κ b H') (fun c _ => c = b) :=
  ⟨b, shH H H1, rfl, k, fun k' hk' ρ κ => by
    show run G k' ρ g 0 [] H.length H _ = _
    rw [run_any hG h H k' hk']; simp [sh, asB]⟩
/-- Did it answer true? -/
def saysT : Option PV → Bool
  | some (.bool b, _) => b
  | _ => false
theorem saysT_some {x : Option PV} (h : saysT x = true) : ∃ H1, x = some (.bool true, H1) := by
  unfold saysT at h
  split at h
  · subst h; exact ⟨_, rfl⟩
  · cases h
theorem ev_awake {G : Pg} (hG : noidG G = true) {k g : Nat} (h : saysT (run G k PV g 0 [] 0 [] pr) = true) (H : AH) : Ev (fun ρ k κ => run G k ρ g 0 [] H.length H fun v H' => asB v fun b => κ b H') (fun c _ => c = true) := by
  obtain ⟨H1, h⟩ := saysT_some h
  exact ev_any hG h H
end Go.Ab
