/- Reads, stores, new blocks in the calculus: what memory holds. Plain lemmas. No condition. -/
import Derived.Test.YtmdndoghdbhipaaAbAO
import Derived.Test.YtmdndoghdbhipaaAbM3
set_option linter.unusedVariables false
set_option linter.unusedSimpArgs false
namespace Go.Ab
open Go

/-- The memory grew. -/
def Le (H H' : AH) : Prop := ∃ E, H' = H ++ E
theorem Le.refl (H : AH) : Le H H := ⟨[], by simp⟩
theorem Le.trans {H H1 H2 : AH} (h : Le H H1) (h' : Le H1 H2) : Le H H2 := by
  obtain ⟨E, rfl⟩ := h; obtain ⟨E', rfl⟩ := h'; exact ⟨E ++ E', by simp⟩
theorem Le.snoc {H H1 : AH} (h : Le H H1) (b : Blk) : Le H (H1 ++ [b]) := h.trans ⟨[b], rfl⟩
theorem Le.len {H H' : AH} (h : Le H H') : H.length ≤ H'.length := by obtain ⟨E, rfl⟩ := h; simp
theorem Le.get {H H' : AH} (h : Le H H') {b : Nat} {x : Blk} (hb : H[b]? = some x) : H'[b]? = some x := by
  obtain ⟨E, rfl⟩ := h; rw [List.getElem?_append_left (List.getElem?_eq_some_iff.1 hb).1]; exact hb
theorem Le.set {H H1 : AH} (h : Le H H1) {b : Nat} (hb : H.length ≤ b) (v : Blk) : Le H (H1.set b v) := by
  obtain ⟨E, rfl⟩ := h; exact ⟨E.set (b - H.length) v, by rw [List.set_append, if_neg (by omega)]⟩
theorem RowOf.le {α : Type} {R : AV → α → Prop} {H H' : AH} {s : Sl} {xs : List α} (h : RowOf R H s xs) (hl : Le H H') : RowOf R H' s xs := by obtain ⟨E, rfl⟩ := hl; exact h.ext E
theorem Row.le {H H' : AH} {s : Sl} {xs : List Int} (h : Row H s xs) (hl : Le H H') : Row H' s xs := RowOf.le h hl
theorem Tab.le {H H' : AH} {s : Sl} {T : List (List Int)} (h : Tab H s T) (hl : Le H H') : Tab H' s T := by obtain ⟨E, rfl⟩ := hl; exact h.ext E
theorem Row.len {H : AH} {s : Sl} {xs : List Int} (h : Row H s xs) : s.len = xs.length := h.1
theorem Tab.len {H : AH} {s : Sl} {T : List (List Int)} (h : Tab H s T) : s.len = T.length := h.1
/-- A row of bools. -/
def RowB (H : AH) (s : Sl) (xs : List Bool) : Prop := RowOf (fun v x => v = .bool x) H s xs
theorem RowB.len {H : AH} {s : Sl} {xs : List Bool} (h : RowB H s xs) : s.len = xs.length := h.1

section
variable {A : Type} {Q : A → AH → Prop} {H : AH}
theorem ev_idx {s : Sl} {p : Pt} {i : Int} {sz : Nat} {K : (ρ : Type) → Nat → (A → AH → Option ρ) → Pt → Option ρ} (hp : s.p = some p) (h0 : 0 ≤ i) (h1 : i < (s.len : Int)) (hK : Ev (fun ρ k κ => K ρ k κ ⟨p.b, p.o + i.toNat * sz⟩) Q) : Ev (fun ρ k κ => idx s i sz (K ρ k κ)) Q := by
  simpa only [idx, hp, h0, h1, decide_true, Bool.and_self, cond_true] using hK
theorem ev_ldc {p : Pt} {vs : List AV} {sz : Nat} {v : AV} {K : (ρ : Type) → Nat → (A → AH → Option ρ) → AV → Option ρ} (hb : H[p.b]? = some (.cells vs sz)) (hv : vs[p.o]? = some v) (hK : Ev (fun ρ k κ => K ρ k κ v) Q) : Ev (fun ρ k κ => ldc H p (K ρ k κ)) Q := by
  simpa only [ldc, hb, hv] using hK
theorem RowOf.at {α : Type} {R : AV → α → Prop} {s : Sl} {xs : List α} (h : RowOf R H s xs) {i : Nat} (hi : i < xs.length) : ∃ p vs sz v, s.p = some p ∧ H[p.b]? = some (.cells vs sz) ∧ vs[p.o + i]? = some v ∧ R v xs[i] := h.2.1 i _ (List.getElem?_eq_getElem hi)
theorem ev_rdI {s : Sl} {xs : List Int} {i : Int} {K : (ρ : Type) → Nat → (A → AH → Option ρ) → Int → Option ρ} (h : Row H s xs) (h0 : 0 ≤ i) (h1 : i < (xs.length : Int)) (hK : Ev (fun ρ k κ => K ρ k κ (rd xs i)) Q) : Ev (fun ρ k κ => rdI H s i (K ρ k κ)) Q := by
  obtain ⟨p, vs, sz, v, e1, e2, e3, e4⟩ := RowOf.at h (i := i.toNat) (by omega)
  have hl := Row.len h
  refine ev_idx e1 h0 (by omega) (ev_ldc (p := ⟨p.b, p.o + i.toNat * 1⟩) (v := v) e2 (by rw [Nat.mul_one]; exact e3) ?_)
  have : rd xs i = xs[i.toNat]'(by omega) := by unfold rd; rw [List.getD_eq_getElem?_getD, List.getElem?_eq_getElem (by omega)]; rfl
  rw [this] at hK
  subst e4
  simpa [asI] using hK
theorem ev_rdB {s : Sl} {xs : List Bool} {i : Int} {K : (ρ : Type) → Nat → (A → AH → Option ρ) → Bool → Option ρ} (h : RowB H s xs) (h0 : 0 ≤ i) (h1 : i < (xs.length : Int)) (hK : Ev (fun ρ k κ => K ρ k κ (rdOf false xs i)) Q) : Ev (fun ρ k κ => rdB H s i (K ρ k κ)) Q := by
  obtain ⟨p, vs, sz, v, e1, e2, e3, e4⟩ := RowOf.at h (i := i.toNat) (by omega)
  have hl := RowB.len h
  refine ev_idx e1 h0 (by omega) (ev_ldc (p := ⟨p.b, p.o + i.toNat * 1⟩) (v := v) e2 (by rw [Nat.mul_one]; exact e3) ?_)
  have : rdOf false xs i = xs[i.toNat]'(by omega) := by unfold rdOf; rw [List.getD_eq_getElem?_getD, List.getElem?_eq_getElem (by omega)]; rfl
  rw [this] at hK
  subst e4
  simpa [asB] using hK
theorem ev_rdS {s : Sl} {T : List (List Int)} {i : Int} {K : (ρ : Type) → Nat → (A → AH → Option ρ) → Sl → Option ρ} (h : Tab H s T) (h0 : 0 ≤ i) (h1 : i < (T.length : Int)) (hK : ∀ r, Row H r (R T i) → Ev (fun ρ k κ => K ρ k κ r) Q) : Ev (fun ρ k κ => rdS H s i (K ρ k κ)) Q := by
  obtain ⟨p, vs, sz, v, e1, e2, e3, r, e4, e5⟩ := RowOf.at h (i := i.toNat) (by omega)
  have hl := Tab.len h
  refine ev_idx e1 h0 (by omega) (ev_ldc (p := ⟨p.b, p.o + i.toNat * 1⟩) (v := v) e2 (by rw [Nat.mul_one]; exact e3) ?_)
  have : R T i = T[i.toNat]'(by omega) := by unfold R; rw [List.getD_eq_getElem?_getD, List.getElem?_eq_getElem (by omega)]; rfl
  rw [← this] at e5
  subst e4
  simpa [asS] using hK r e5
/-- Two reads: an entry of a table. -/
theorem ev_rdM {s : Sl} {T : List (List Int)} {i j : Int} {K : (ρ : Type) → Nat → (A → AH → Option ρ) → Int → Option ρ} (h : Tab H s T) (h0 : 0 ≤ i) (h1 : i < (T.length : Int)) (h2 : 0 ≤ j) (h3 : j < ((R T i).length : Int)) (hK : Ev (fun ρ k κ => K ρ k κ (M T i j)) Q) : Ev (fun ρ k κ => rdS H s i fun r => rdI H r j (K ρ k κ)) Q :=
  ev_rdS h h0 h1 fun r hr => ev_rdI hr h2 h3 hK

/-! New blocks -/
theorem ev_mkb {cs : List AV} {sz len : Nat} {K : (ρ : Type) → Nat → (A → AH → Option ρ) → Sl → AH → Option ρ} (hK : Ev (fun ρ k κ => K ρ k κ ⟨some ⟨H.length, 0⟩, len⟩ (H ++ [.cells cs sz])) Q) : Ev (fun ρ k κ => mkb H cs sz len (K ρ k κ)) Q := hK
theorem ev_alc {cs : List AV} {K : (ρ : Type) → Nat → (A → AH → Option ρ) → Pt → AH → Option ρ} (hK : Ev (fun ρ k κ => K ρ k κ ⟨H.length, 0⟩ (H ++ [.cells cs cs.length])) Q) : Ev (fun ρ k κ => alc H cs (K ρ k κ)) Q := hK
theorem ev_mks {zs : List AV} {bytes : Nat} {l c : Int} {K : (ρ : Type) → Nat → (A → AH → Option ρ) → Sl → AH → Option ρ} (h0 : 0 ≤ l) (h1 : l ≤ c) (h2 : c * bytes ≤ 70368744177664) (hK : Ev (fun ρ k κ => K ρ k κ ⟨some ⟨H.length, 0⟩, l.toNat⟩ (H ++ [.cells (List.replicate l.toNat zs).flatten zs.length])) Q) : Ev (fun ρ k κ => mks H zs bytes l c (K ρ k κ)) Q := by
  have h2' : c * bytes ≤ (room : Int) := h2
  simpa only [mks, h0, h1, h2', decide_true, Bool.and_self, cond_true] using hK
theorem flatten_rep (n : Nat) (v : AV) : (List.replicate n [v]).flatten = List.replicate n v := by
  induction n with
  | zero => rfl
  | succ n ih => simp [List.replicate_succ, ih]
theorem ev_stc {lo : Nat} {p : Pt} {u : AV} {vs : List AV} {sz : Nat} {K : (ρ : Type) → Nat → (A → AH → Option ρ) → AH → Option ρ} (hb : H[p.b]? = some (.cells vs sz)) (h0 : lo ≤ p.b) (h1 : p.o < vs.length) (hK : Ev (fun ρ k κ => K ρ k κ (H.set p.b (.cells (vs.set p.o u) sz))) Q) : Ev (fun ρ k κ => stc lo H p u (K ρ k κ)) Q := by
  simpa only [stc, hb, h0, h1, decide_true, Bool.and_self, cond_true] using hK

/-- A block that holds a row from its beginning to its end. -/
def Blk1 {α : Type} (e : α → AV) (H : AH) (b : Nat) (xs : List α) : Prop := H[b]? = some (.cells (xs.map e) 1)
abbrev sl0 (b n : Nat) : Sl := ⟨some ⟨b, 0⟩, n⟩
theorem Blk1.rowOf {α : Type} {e : α → AV} {R : AV → α → Prop} {b : Nat} {xs : List α} (h : Blk1 e H b xs) (he : ∀ x, R (e x) x) : RowOf R H (sl0 b xs.length) xs :=
  ⟨rfl, fun j x hj => ⟨⟨b, 0⟩, _, 1, e x, rfl, h, by simp [hj], he x⟩, fun p hp => by cases hp; exact ⟨_, _, h, by simp⟩⟩
abbrev BlkI (H : AH) (b : Nat) (xs : List Int) : Prop := Blk1 (fun n : Int => .int .i64 n) H b xs
abbrev BlkB (H : AH) (b : Nat) (xs : List Bool) : Prop := Blk1 (fun n : Bool => .bool n) H b xs
theorem BlkI.row {b : Nat} {xs : List Int} (h : BlkI H b xs) : Row H (sl0 b xs.length) xs := Blk1.rowOf h fun _ => rfl
theorem BlkB.row {b : Nat} {xs : List Bool} (h : BlkB H b xs) : RowB H (sl0 b xs.length) xs := Blk1.rowOf h fun _ => rfl
theorem Blk1.le {α : Type} {e : α → AV} {H' : AH} {b : Nat} {xs : List α} (h : Blk1 e H b xs) (hl : Le H H') : Blk1 e H' b xs := hl.get h
theorem Blk1.new {α : Type} (e : α → AV) (H : AH) (xs : List α) : Blk1 e (H ++ [.cells (xs.map e) 1]) H.length xs := by simp [Blk1]
theorem Blk1.ne {α : Type} {e : α → AV} {b c : Nat} {xs : List α} (h : Blk1 e H b xs) (hne : c ≠ b) (v : Blk) : Blk1 e (H.set c v) b xs := by
  unfold Blk1; rw [List.getElem?_set_ne hne]; exact h
theorem Blk1.lt {α : Type} {e : α → AV} {b : Nat} {xs : List α} (h : Blk1 e H b xs) : b < H.length := (List.getElem?_eq_some_iff.1 h).1
theorem ev_st1 {α : Type} {e : α → AV} {lo b : Nat} {xs : List α} {i : Nat} {x : α} {K : (ρ : Type) → Nat → (A → AH → Option ρ) → AH → Option ρ} (h : Blk1 e H b xs) (h0 : lo ≤ b) (h1 : i < xs.length)
    (hK : ∀ H', H' = H.set b (.cells ((xs.set i x).map e) 1) → Blk1 e H' b (xs.set i x) → Ev (fun ρ k κ => K ρ k κ H') Q) : Ev (fun ρ k κ => stc lo H ⟨b, 0 + i * 1⟩ (e x) (K ρ k κ)) Q := by
  refine ev_stc (p := ⟨b, 0 + i * 1⟩) h h0 (by simpa using h1) (hK _ (by simp [List.map_set]) ?_)
  have := h.lt
  simp [Blk1, List.getElem?_set, this, List.map_set]
/-- .. as it is printed: the place is found, the value laid. -/
theorem ev_put {α : Type} {e : α → AV} {lo b : Nat} {xs : List α} {i : Int} {n : Nat} {x : α} {K : (ρ : Type) → Nat → (A → AH → Option ρ) → AH → Option ρ} (h : Blk1 e H b xs) (hn : n = xs.length) (h0 : lo ≤ b) (hi : 0 ≤ i) (h1 : i < (xs.length : Int))
    (hK : ∀ H', H' = H.set b (.cells ((xs.set i.toNat x).map e) 1) → Blk1 e H' b (xs.set i.toNat x) → Ev (fun ρ k κ => K ρ k κ H') Q) : Ev (fun ρ k κ => idx (sl0 b n) i 1 fun p => stc lo H p (e x) (K ρ k κ)) Q :=
  ev_idx rfl hi (by show i < (n : Int); omega) (ev_st1 (i := i.toNat) h h0 (by omega) hK)
end

section
variable {A : Type} {Q : A → AH → Prop} {H : AH}
/-- 'g and ..', where all is said to hold. -/
theorem ev_andT {g : Bool} {M : Nat → CPS Bool} {K : (ρ : Type) → Nat → (A → AH → Option ρ) → Bool → AH → Option ρ} (hg : g = true) (h : Ev (fun ρ k κ => M k ρ κ) (fun b H' => b = true ∧ Le H H')) (hK : ∀ H', Le H H' → Ev (fun ρ k κ => K ρ k κ true H') Q) : Ev (fun ρ k κ => andB g (M k) H (K ρ k κ)) Q :=
  ev_and (S := fun b H' => b = true ∧ Le H H') (fun _ => h) (fun e => by rw [hg] at e; cases e) fun b H' ⟨e, hl⟩ => by subst e; exact hK H' hl
/-- 'g or ..', where nothing is said to hold. -/
theorem ev_orF {g : Bool} {M : Nat → CPS Bool} {K : (ρ : Type) → Nat → (A → AH → Option ρ) → Bool → AH → Option ρ} (hg : g = false) (h : Ev (fun ρ k κ => M k ρ κ) (fun b H' => b = false ∧ Le H H')) (hK : ∀ H', Le H H' → Ev (fun ρ k κ => K ρ k κ false H') Q) : Ev (fun ρ k κ => orB g (M k) H (K ρ k κ)) Q :=
  ev_or (S := fun b H' => b = false ∧ Le H H') (fun _ => h) (fun e => by rw [hg] at e; cases e) fun b H' ⟨e, hl⟩ => by subst e; exact hK H' hl
end
section
variable {A : Type} {Q : A → AH → Prop} {H : AH}
/-- 'g or ..', 'g and ..', where what is behind makes blocks, and the answer is known. -/
theorem ev_orL {g c : Bool} {M : Nat → CPS Bool} {K : (ρ : Type) → Nat → (A → AH → Option ρ) → Bool → AH → Option ρ} (h : g = false → Ev (fun ρ k κ => M k ρ κ) (fun b H' => b = c ∧ Le H H')) (h2 : g = true → c = true) (hK : ∀ H', Le H H' → Ev (fun ρ k κ => K ρ k κ c H') Q) : Ev (fun ρ k κ => orB g (M k) H (K ρ k κ)) Q :=
  ev_or (S := fun b H' => b = c ∧ Le H H') h (fun hg => ⟨(h2 hg).symm, Le.refl _⟩) fun b H' ⟨e, hl⟩ => by subst e; exact hK H' hl
theorem ev_andL {g c : Bool} {M : Nat → CPS Bool} {K : (ρ : Type) → Nat → (A → AH → Option ρ) → Bool → AH → Option ρ} (h : g = true → Ev (fun ρ k κ => M k ρ κ) (fun b H' => b = c ∧ Le H H')) (h2 : g = false → c = false) (hK : ∀ H', Le H H' → Ev (fun ρ k κ => K ρ k κ c H') Q) : Ev (fun ρ k κ => andB g (M k) H (K ρ k κ)) Q :=
  ev_and (S := fun b H' => b = c ∧ Le H H') h (fun hg => ⟨(h2 hg).symm, Le.refl _⟩) fun b H' ⟨e, hl⟩ => by subst e; exact hK H' hl
end
/-- Rows that are laid side by side. -/
inductive Sides (H : AH) : List Sl → List (List Int) → Prop where
  | nil : Sides H [] []
  | cons {s : Sl} {l : List Int} {ss : List Sl} {T : List (List Int)} (h : Row H s l) (hs : Sides H ss T) : Sides H (s :: ss) (l :: T)
theorem Sides.get {H : AH} : ∀ {ss : List Sl} {T : List (List Int)}, Sides H ss T → ss.length = T.length ∧ ∀ (j : Nat) (x : List Int), T[j]? = some x → ∃ s, ss[j]? = some s ∧ Row H s x
  | _, _, .nil => ⟨rfl, fun j x h => by simp at h⟩
  | _, _, .cons h hs => by
    obtain ⟨h1, h2⟩ := hs.get
    refine ⟨by simp [h1], fun j x hj => ?_⟩
    cases j with
    | zero => simp at hj; subst hj; exact ⟨_, rfl, h⟩
    | succ j => exact h2 j x (by simpa using hj)
theorem Sides.le {H H' : AH} (hl : Le H H') : ∀ {ss : List Sl} {T : List (List Int)}, Sides H ss T → Sides H' ss T
  | _, _, .nil => .nil
  | _, _, .cons h hs => .cons (h.le hl) (hs.le hl)
section
variable {A : Type} {Q : A → AH → Prop} {H : AH}
/-- A row of whole numbers, written out. -/
theorem ev_mkbI (l : List Int) {cs : List AV} {n : Nat} {K : (ρ : Type) → Nat → (A → AH → Option ρ) → Sl → AH → Option ρ} (hK : ∀ s H', Row H' s l → Le H H' → Ev (fun ρ k κ => K ρ k κ s H') Q) (e1 : cs = l.map fun n => .int .i64 n := by rfl) (e2 : n = l.length := by rfl) : Ev (fun ρ k κ => mkb H cs 1 n (K ρ k κ)) Q := by
  subst e1; subst e2
  exact ev_mkb (hK _ _ (BlkI.row (Blk1.new _ _ _)) ⟨_, rfl⟩)
/-- A table, its rows written out before. -/
theorem ev_mkbS {T : List (List Int)} (ss : List Sl) {cs : List AV} {n : Nat} {K : (ρ : Type) → Nat → (A → AH → Option ρ) → Sl → AH → Option ρ} (h : Sides H ss T) (hK : ∀ s H', Tab H' s T → Le H H' → Ev (fun ρ k κ => K ρ k κ s H') Q) (e1 : cs = ss.map fun s => .sl s := by rfl) (e2 : n = ss.length := by rfl) : Ev (fun ρ k κ => mkb H cs 1 n (K ρ k κ)) Q := by
  subst e1; subst e2
  refine ev_mkb (hK _ _ ⟨h.get.1, fun j x hj => ?_, fun p hp => by cases hp; exact ⟨ss.map fun s => .sl s, 1, by simp, by simp⟩⟩ ⟨_, rfl⟩)
  obtain ⟨s, h1, h2⟩ := h.get.2 j x hj
  exact ⟨⟨H.length, 0⟩, ss.map fun s => .sl s, 1, .sl s, rfl, by simp, by simp [h1], s, rfl, h2.le ⟨_, rfl⟩⟩
end

/-! Structs in memory. -/
section
variable {A : Type} {Q : A → AH → Prop} {H : AH}
/-- What lies at a new place. -/
abbrev At1 (H : AH) (p : Pt) (cs : List AV) : Prop := p.o = 0 ∧ H[p.b]? = some (.cells cs cs.length)
theorem ev_alcB {cs : List AV} {K : (ρ : Type) → Nat → (A → AH → Option ρ) → Pt → AH → Option ρ} (hK : ∀ p H', At1 H' p cs → p.b = H.length → Le H H' → Ev (fun ρ k κ => K ρ k κ p H') Q) : Ev (fun ρ k κ => alc H cs (K ρ k κ)) Q :=
  ev_alc (hK _ _ ⟨rfl, by simp⟩ rfl ⟨_, rfl⟩)
theorem ev_fldI {p : Pt} {cs : List AV} {j : Nat} {n : Int} {K : (ρ : Type) → Nat → (A → AH → Option ρ) → Int → Option ρ} (hp : At1 H p cs) (hj : cs[j]? = some (.int .i64 n)) (hK : Ev (fun ρ k κ => K ρ k κ n) Q) : Ev (fun ρ k κ => ldc H ⟨p.b, p.o + j⟩ fun u => asI .i64 u (K ρ k κ)) Q := by
  refine ev_ldc (p := ⟨p.b, p.o + j⟩) (K := fun ρ k κ u => asI .i64 u (K ρ k κ)) hp.2 (v := .int .i64 n) (by simp only [hp.1, Nat.zero_add]; exact hj) ?_
  simpa [asI] using hK
theorem ev_fldB {p : Pt} {cs : List AV} {j : Nat} {n : Bool} {K : (ρ : Type) → Nat → (A → AH → Option ρ) → Bool → Option ρ} (hp : At1 H p cs) (hj : cs[j]? = some (.bool n)) (hK : Ev (fun ρ k κ => K ρ k κ n) Q) : Ev (fun ρ k κ => ldc H ⟨p.b, p.o + j⟩ fun u => asB u (K ρ k κ)) Q := by
  refine ev_ldc (p := ⟨p.b, p.o + j⟩) (K := fun ρ k κ u => asB u (K ρ k κ)) hp.2 (v := .bool n) (by simp only [hp.1, Nat.zero_add]; exact hj) ?_
  simpa [asB] using hK
theorem ev_fldS {p : Pt} {cs : List AV} {j : Nat} {n : Sl} {K : (ρ : Type) → Nat → (A → AH → Option ρ) → Sl → Option ρ} (hp : At1 H p cs) (hj : cs[j]? = some (.sl n)) (hK : Ev (fun ρ k κ => K ρ k κ n) Q) : Ev (fun ρ k κ => ldc H ⟨p.b, p.o + j⟩ fun u => asS u (K ρ k κ)) Q := by
  refine ev_ldc (p := ⟨p.b, p.o + j⟩) (K := fun ρ k κ u => asS u (K ρ k κ)) hp.2 (v := .sl n) (by simp only [hp.1, Nat.zero_add]; exact hj) ?_
  simpa [asS] using hK
theorem overlay_all {α : Type} (vs us : List α) (h : us.length = vs.length) : overlay vs 0 us = us := by simp [overlay, h]
/-- A whole struct is stored. -/
theorem ev_stnB {lo : Nat} {p : Pt} {cs us : List AV} {K : (ρ : Type) → Nat → (A → AH → Option ρ) → AH → Option ρ} (hp : At1 H p cs) (hl : us.length = cs.length) (h0 : lo ≤ p.b) (hK : ∀ H', H' = H.set p.b (.cells us us.length) → At1 H' p us → Ev (fun ρ k κ => K ρ k κ H') Q) : Ev (fun ρ k κ => stn lo H p us (K ρ k κ)) Q := by
  have hb := (List.getElem?_eq_some_iff.1 hp.2).1
  have := hK (H.set p.b (.cells us us.length)) rfl ⟨hp.1, by simp [List.getElem?_set, hb]⟩
  have e : (decide (lo ≤ p.b) && decide (p.o + us.length ≤ cs.length)) = true := by simp [h0, hp.1, hl]
  simp only [stn, hp.2, e, cond_true]
  rw [hp.1, overlay_all _ _ hl]
  rwa [hl] at this
/-- A whole struct is read. -/
theorem ev_ldnB {p : Pt} {cs : List AV} {n : Nat} {K : (ρ : Type) → Nat → (A → AH → Option ρ) → List AV → Option ρ} (hp : At1 H p cs) (hn : n = cs.length) (hK : Ev (fun ρ k κ => K ρ k κ cs) Q) : Ev (fun ρ k κ => ldn H p n (K ρ k κ)) Q := by
  subst hn
  have e : decide (0 + cs.length ≤ cs.length) = true := by simp
  simp only [ldn, hp.2, hp.1, e, cond_true, List.drop_zero, List.take_length]
  exact hK
theorem At1.le {H' : AH} {p : Pt} {cs : List AV} (h : At1 H p cs) (hl : Le H H') : At1 H' p cs := ⟨h.1, hl.get h.2⟩
end

/-! Arguments that are laid. -/
theorem lay_le (d : Dt) (H : AH) : Le H (lay d H).2 := by obtain ⟨E, h⟩ := lay_ext d H; exact ⟨E, h⟩
theorem layL_nil' (H : AH) : layL [] H = ([], H) := by simp [layL]
theorem layL_cons' {d : Dt} {l : List Dt} {v : AV} {vs : List AV} {H H1 H2 : AH} (h : (lay d H).1 = v) (h1 : (lay d H).2 = H1) (hs : layL l H1 = (vs, H2)) : layL (d :: l) H = (v :: vs, H2) := by
  subst h; subst h1; simp [layL, hs]
theorem lay_agg1 {l : List Dt} {vs : List AV} {H H1 : AH} (h : layL l H = (vs, H1)) : (lay (.agg l) H).1 = .agg vs := by simp [lay, h]
theorem lay_agg2 {l : List Dt} {vs : List AV} {H H1 : AH} (h : layL l H = (vs, H1)) : (lay (.agg l) H).2 = H1 := by simp [lay, h]
theorem chkG_nil' {C : Ctx} : chkG C [] [] = true := rfl
theorem chkG_cons' {C : Ctx} {f : FuncId} {fn : Fn} {fs : List FuncId} {fns : List Fn} (h : chkFn C f fn = true) (hs : chkG C fs fns = true) : chkG C (f :: fs) (fn :: fns) = true := by simp only [chkG, h, hs, Bool.and_self]

/-- THE END: what the calculus says of a law is what 'law_calls' asks for. -/
theorem law_end {G : Pg} {g : Nat} {args : List AV} {lo : Nat} {H : AH} (h : Ev (fun ρ k κ => run G k ρ g 0 args lo H fun v H' => asB v fun b => κ b H') (fun b _ => b = true)) : ∃ k H', run G k PV g 0 args lo H pr = some (.bool true, H') := by
  obtain ⟨b, H', rfl, k, hk⟩ := h
  have := hk k (Nat.le_refl _) Unit (fun _ _ => some ())
  obtain ⟨v, H'', h1, h2⟩ := run_split G k Unit g 0 args lo H _ () this
  have h3 := hk k (Nat.le_refl _) (Bool × AH) (fun b H => some (b, H))
  simp only [h1] at h3
  refine ⟨k, H'', ?_⟩
  rw [h1]
  cases v <;> simp [asB] at h3
  simp [pr, h3.1]
end Go.Ab
