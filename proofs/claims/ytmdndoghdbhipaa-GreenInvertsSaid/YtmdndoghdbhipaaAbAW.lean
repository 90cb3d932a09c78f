/- Owned memory: what a function makes and writes, apart from what came in. Plain lemmas. No condition. -/
import Derived.Test.YtmdndoghdbhipaaAbAR
import Derived.Test.YtmdndoghdbhipaaAbM12
set_option linter.unusedVariables false
set_option linter.unusedSimpArgs false
set_option linter.unusedSectionVars false
namespace Go.Ab
open Go

theorem Le.of_get {H H' : AH} (hl : H.length ≤ H'.length) (h : ∀ b, b < H.length → H'[b]? = H[b]?) : Le H H' := by
  refine ⟨H'.drop H.length, List.ext_getElem? fun i => ?_⟩
  by_cases hi : i < H.length
  · rw [List.getElem?_append_left hi]; exact h i hi
  · rw [List.getElem?_append_right (by omega), List.getElem?_drop]; congr 1; omega
theorem Le.at {H H' : AH} (h : Le H H') {b : Nat} (hb : b < H.length) : H'[b]? = H[b]? := by
  obtain ⟨E, rfl⟩ := h; exact List.getElem?_append_left hb

/-- What is said of memory, and of which blocks. -/
structure Asr where
  on : AH → List Nat → Prop
  loc : ∀ {H H' : AH} {fp : List Nat}, on H fp → (∀ b, b ∈ fp → H'[b]? = H[b]?) → on H' fp
/-- How a cell holds a datum, and in which blocks. -/
structure Re (α : Type) where
  on : AH → AV → α → List Nat → Prop
  loc : ∀ {H H' : AH} {v : AV} {x : α} {fp : List Nat}, on H v x fp → (∀ b, b ∈ fp → H'[b]? = H[b]?) → on H' v x fp
  sing : ∀ {H : AH} {v : AV} {x : α} {fp : List Nat}, on H v x fp → single v = true
def reK (k : IntKind) : Re Int := ⟨fun _ v x fp => v = .int k x ∧ fp = [], fun h _ => h, fun h => by rw [h.1]; rfl⟩
abbrev reI : Re Int := reK .i64
def reB : Re Bool := ⟨fun _ v x fp => v = .bool x ∧ fp = [], fun h _ => h, fun h => by rw [h.1]; rfl⟩
def reS : Re ByteArray := ⟨fun _ v x fp => v = .str x ∧ fp = [], fun h _ => h, fun h => by rw [h.1]; rfl⟩

inductive All3 {α : Type} (r : Re α) (H : AH) : List AV → List α → List Nat → Prop where
  | nil : All3 r H [] [] []
  | cons {v : AV} {x : α} {f : List Nat} {vs : List AV} {xs : List α} {g : List Nat} (h : r.on H v x f) (hs : All3 r H vs xs g) : All3 r H (v :: vs) (x :: xs) (f ++ g)
section
variable {α : Type} {r : Re α} {H H' : AH}
theorem All3.len : ∀ {vs : List AV} {xs : List α} {g : List Nat}, All3 r H vs xs g → vs.length = xs.length
  | _, _, _, .nil => rfl
  | _, _, _, .cons _ hs => by simp [hs.len]
theorem All3.loc : ∀ {vs : List AV} {xs : List α} {g : List Nat}, All3 r H vs xs g → (∀ b, b ∈ g → H'[b]? = H[b]?) → All3 r H' vs xs g
  | _, _, _, .nil, _ => .nil
  | _, _, _, .cons h hs, hg => .cons (r.loc h fun b hb => hg b (List.mem_append_left _ hb)) (hs.loc fun b hb => hg b (List.mem_append_right _ hb))
theorem All3.join : ∀ {vs1 : List AV} {xs1 : List α} {g1 : List Nat} {vs2 : List AV} {xs2 : List α} {g2 : List Nat}, All3 r H vs1 xs1 g1 → All3 r H vs2 xs2 g2 → All3 r H (vs1 ++ vs2) (xs1 ++ xs2) (g1 ++ g2)
  | _, _, _, _, _, _, .nil, h => h
  | _, _, _, _, _, _, .cons h hs, h2 => by simp only [List.cons_append, List.append_assoc]; exact .cons h (hs.join h2)
theorem All3.split : ∀ {vs : List AV} {xs : List α} {g : List Nat}, All3 r H vs xs g → ∀ {j : Nat}, j < xs.length → ∃ vs1 v vs2 xs1 x xs2 g1 f g2, vs = vs1 ++ v :: vs2 ∧ xs = xs1 ++ x :: xs2 ∧ g = g1 ++ (f ++ g2) ∧ vs1.length = j ∧ xs1.length = j ∧ All3 r H vs1 xs1 g1 ∧ r.on H v x f ∧ All3 r H vs2 xs2 g2
  | _, _, _, .nil, _, h => by simp at h
  | _, _, _, .cons (v := v) (x := x) (f := f) (vs := vs) (xs := xs) (g := g) h hs, 0, _ => ⟨[], v, vs, [], x, xs, [], f, g, rfl, rfl, rfl, rfl, rfl, .nil, h, hs⟩
  | _, _, _, .cons (v := v) (x := x) (f := f) h hs, j + 1, hj => by
    obtain ⟨vs1, v', vs2, xs1, x', xs2, g1, f', g2, rfl, rfl, rfl, h1, h2, h3, h4, h5⟩ := hs.split (j := j) (by simpa using hj)
    exact ⟨v :: vs1, v', vs2, x :: xs1, x', xs2, f ++ g1, f', g2, rfl, rfl, by simp, by simp [h1], by simp [h2], .cons h h3, h4, h5⟩
theorem All3.get : ∀ {vs : List AV} {xs : List α} {g : List Nat}, All3 r H vs xs g → ∀ {j : Nat} {x : α}, xs[j]? = some x → ∃ v f, vs[j]? = some v ∧ r.on H v x f
  | _, _, _, .nil, _, _, h => by simp at h
  | _, _, _, .cons h hs, 0, _, e => by simp at e; subst e; exact ⟨_, _, rfl, h⟩
  | _, _, _, .cons h hs, j + 1, _, e => by
    obtain ⟨v, f, h1, h2⟩ := hs.get (j := j) (by simpa using e)
    exact ⟨v, f, by simpa using h1, h2⟩
theorem All3.take : ∀ {vs : List AV} {xs : List α} {g : List Nat} (n : Nat), All3 r H vs xs g → ∃ g1 g2, g = g1 ++ g2 ∧ All3 r H (vs.take n) (xs.take n) g1 ∧ All3 r H (vs.drop n) (xs.drop n) g2
  | _, _, _, 0, h => ⟨[], _, rfl, by simpa using .nil, by simpa using h⟩
  | _, _, _, n + 1, .nil => ⟨[], [], rfl, by simpa using .nil, by simpa using .nil⟩
  | _, _, _, n + 1, .cons (f := f) h hs => by
    obtain ⟨g1, g2, rfl, h1, h2⟩ := hs.take n
    exact ⟨f ++ g1, g2, by simp, by simpa using .cons h h1, by simpa using h2⟩
theorem All3.singles : ∀ {vs : List AV} {xs : List α} {g : List Nat}, All3 r H vs xs g → singles vs = true
  | _, _, _, .nil => rfl
  | _, _, _, .cons h hs => by simp only [Go.Ab.singles, r.sing h, cond_true]; exact hs.singles
theorem All3.rep {v : AV} {x : α} (h : r.on H v x []) : ∀ n : Nat, All3 r H (List.replicate n v) (List.replicate n x) []
  | 0 => by simpa using .nil
  | n + 1 => by simpa [List.replicate_succ] using All3.cons h (All3.rep h n)
theorem All3.map {f : α → AV} (h : ∀ x, r.on H (f x) x []) : ∀ xs : List α, All3 r H (xs.map f) xs []
  | [] => .nil
  | x :: xs => by simpa using All3.cons (h x) (All3.map h xs)

/-- A slice that is owned. -/
def OwnL (r : Re α) (H : AH) (s : Sl) (xs : List α) (fp : List Nat) : Prop :=
  s.len = xs.length ∧ ((s.p = none ∧ xs = [] ∧ fp = []) ∨ ∃ b us vs ws g, s.p = some ⟨b, us.length⟩ ∧ H[b]? = some (.cells (us ++ (vs ++ ws)) 1) ∧ All3 r H vs xs g ∧ fp = b :: g)
theorem OwnL.loc {s : Sl} {xs : List α} {fp : List Nat} (h : OwnL r H s xs fp) (hf : ∀ b, b ∈ fp → H'[b]? = H[b]?) : OwnL r H' s xs fp := by
  obtain ⟨h1, h2 | ⟨b, us, vs, ws, g, h2, h3, h4, rfl⟩⟩ := h
  · exact ⟨h1, .inl h2⟩
  · exact ⟨h1, .inr ⟨b, us, vs, ws, g, h2, by rw [hf b (by simp), h3], h4.loc fun b' hb => hf b' (by simp [hb]), rfl⟩⟩
/-- .. but for the element j, whose cell holds v. -/
def OwnH (r : Re α) (H : AH) (s : Sl) (xs : List α) (j : Nat) (v : AV) (fp : List Nat) : Prop :=
  s.len = xs.length ∧ ∃ b us vs1 vs2 ws xs1 x xs2 g1 g2, s.p = some ⟨b, us.length⟩ ∧ H[b]? = some (.cells (us ++ ((vs1 ++ v :: vs2) ++ ws)) 1) ∧ xs = xs1 ++ x :: xs2 ∧ xs1.length = j ∧ All3 r H vs1 xs1 g1 ∧ All3 r H vs2 xs2 g2 ∧ fp = b :: (g1 ++ g2)
theorem OwnH.loc {s : Sl} {xs : List α} {j : Nat} {v : AV} {fp : List Nat} (h : OwnH r H s xs j v fp) (hf : ∀ b, b ∈ fp → H'[b]? = H[b]?) : OwnH r H' s xs j v fp := by
  obtain ⟨h1, b, us, vs1, vs2, ws, xs1, x, xs2, g1, g2, h2, h3, h4, h5, h6, h7, rfl⟩ := h
  exact ⟨h1, b, us, vs1, vs2, ws, xs1, x, xs2, g1, g2, h2, by rw [hf b (by simp), h3], h4, h5, h6.loc fun b' hb => hf b' (by simp [hb]), h7.loc fun b' hb => hf b' (by simp [hb]), rfl⟩
end
def reL {α : Type} (r : Re α) : Re (List α) := ⟨fun H v xs fp => ∃ s, v = .sl s ∧ OwnL r H s xs fp, fun ⟨s, h1, h2⟩ hf => ⟨s, h1, h2.loc hf⟩, fun ⟨s, h1, _⟩ => by rw [h1]; rfl⟩
def own {α : Type} (r : Re α) (s : Sl) (xs : List α) : Asr := ⟨fun H fp => OwnL r H s xs fp, fun h hf => h.loc hf⟩
def ownH {α : Type} (r : Re α) (s : Sl) (xs : List α) (j : Nat) (v : AV) : Asr := ⟨fun H fp => OwnH r H s xs j v fp, fun h hf => h.loc hf⟩
/-- A block's cells, as they are. -/
def ownC (p : Pt) (cs : List AV) : Asr := ⟨fun H fp => At1 H p cs ∧ fp = [p.b], fun h hf => ⟨⟨h.1.1, by rw [hf _ (by simp [h.2])]; exact h.1.2⟩, h.2⟩⟩
/-- A map's entries, as they are. -/
def ownM (b : Nat) (es : List (AV × AV)) : Asr := ⟨fun H fp => H[b]? = some (.map es) ∧ fp = [b], fun h hf => ⟨by rw [hf _ (by simp [h.2])]; exact h.1, h.2⟩⟩

/-! ### Assertions side by side -/
inductive Seps (H : AH) : List Asr → List Nat → Prop where
  | nil : Seps H [] []
  | cons {P : Asr} {f : List Nat} {L : List Asr} {g : List Nat} (h : P.on H f) (hs : Seps H L g) : Seps H (P :: L) (f ++ g)
theorem Seps.loc {H H' : AH} : ∀ {L : List Asr} {g : List Nat}, Seps H L g → (∀ b, b ∈ g → H'[b]? = H[b]?) → Seps H' L g
  | _, _, .nil, _ => .nil
  | _, _, .cons (P := P) h hs, hg => .cons (P.loc h fun b hb => hg b (List.mem_append_left _ hb)) (hs.loc fun b hb => hg b (List.mem_append_right _ hb))
theorem Seps.join {H : AH} : ∀ {L M : List Asr} {f g : List Nat}, Seps H L f → Seps H M g → Seps H (L ++ M) (f ++ g)
  | _, _, _, _, .nil, h => h
  | _, _, _, _, .cons h hs, h2 => by simp only [List.cons_append, List.append_assoc]; exact .cons h (hs.join h2)
/-- Since H0 what came in is as it was; what is said of L is said of different blocks, all of them new. -/
def Sep (H0 H : AH) (L : List Asr) : Prop := Le H0 H ∧ ∃ fp, Seps H L fp ∧ fp.Nodup ∧ ∀ b, b ∈ fp → H0.length ≤ b ∧ b < H.length
section
variable {H0 H H' : AH} {P P' Q : Asr} {L M : List Asr}
theorem Sep.le (h : Sep H0 H L) : Le H0 H := h.1
theorem Sep.nil (H : AH) : Sep H H [] := ⟨Le.refl H, [], .nil, by simp, by simp⟩
theorem Sep.of_le (h : Le H0 H) : Sep H0 H [] := ⟨h, [], .nil, by simp, by simp⟩
theorem Sep.upd (h : Sep H0 H (P :: L)) (hu : ∀ f, P.on H f → f.Nodup → (∀ b, b ∈ f → b < H.length) → ∃ f', P'.on H' f' ∧ f'.Nodup ∧ (∀ b, b ∈ f' → b ∈ f ∨ (H.length ≤ b ∧ b < H'.length)) ∧ H.length ≤ H'.length ∧ ∀ b, b < H.length → b ∉ f → H'[b]? = H[b]?) : Sep H0 H' (P' :: L) := by
  obtain ⟨hle, fp, hs, nd, hb⟩ := h
  cases hs with
  | cons hP hL =>
    rename_i f g
    obtain ⟨nf, ng, nfg⟩ := List.nodup_append.1 nd
    obtain ⟨f', h1, h2, h3, h4, h5⟩ := hu f hP nf fun b hf => (hb b (List.mem_append_left _ hf)).2
    have ll := hle.len
    refine ⟨Le.of_get (by omega) fun b hb0 => ?_, f' ++ g, .cons h1 (hL.loc fun b hg => ?_), ?_, fun b hbm => ?_⟩
    · rw [h5 b (by omega) (fun hf => by have := hb b (List.mem_append_left _ hf); omega)]; exact hle.at hb0
    · have := hb b (List.mem_append_right _ hg)
      exact h5 b this.2 fun hf => nfg b hf b hg rfl
    · refine List.nodup_append.2 ⟨h2, ng, fun a ha c hc e => ?_⟩
      subst e
      rcases h3 a ha with hf | hf
      · exact nfg a hf a hc rfl
      · have := hb a (List.mem_append_right _ hc); omega
    · rcases List.mem_append.1 hbm with hf | hg
      · rcases h3 b hf with hf | hf
        · have := hb b (List.mem_append_left _ hf); omega
        · omega
      · have := hb b (List.mem_append_right _ hg); omega
theorem Sep.call (h : Sep H0 H L) (h' : Sep H H' M) : Sep H0 H' (M ++ L) := by
  obtain ⟨hle, fp, hs, nd, hb⟩ := h
  obtain ⟨hle', fp', hs', nd', hb'⟩ := h'
  have := hle.len
  have := hle'.len
  refine ⟨hle.trans hle', fp' ++ fp, hs'.join (hs.loc fun b hf => hle'.at (hb b hf).2), List.nodup_append.2 ⟨nd', nd, fun a ha c hc e => ?_⟩, fun b hf => ?_⟩
  · have := hb' a ha; have := hb c hc; omega
  · rcases List.mem_append.1 hf with hf | hf
    · have := hb' b hf; omega
    · have := hb b hf; omega
theorem Sep.on (h : Sep H0 H L) (h' : Le H H') : Sep H0 H' L := h.call (Sep.of_le h')
theorem Sep.base {H1 : AH} (h : Sep H1 H L) (h' : Le H0 H1) : Sep H0 H L := by
  have := (Sep.of_le h').call h
  simpa using this
theorem Sep.drop (h : Sep H0 H (P :: L)) : Sep H0 H L := by
  obtain ⟨hle, fp, hs, nd, hb⟩ := h
  cases hs with
  | cons hP hL => exact ⟨hle, _, hL, (List.nodup_append.1 nd).2.1, fun b hg => hb b (List.mem_append_right _ hg)⟩
theorem Sep.all (h : Sep H0 H L) : Sep H0 H [] := Sep.of_le h.1
theorem Seps.perm {H : AH} {L M : List Asr} (hp : L.Perm M) : ∀ {fp : List Nat}, Seps H L fp → ∃ fp', Seps H M fp' ∧ fp.Perm fp' := by
  induction hp with
  | nil => intro fp h; exact ⟨fp, h, .refl _⟩
  | cons x _ ih =>
    intro fp h
    cases h with
    | cons hP hs =>
      obtain ⟨g', h1, h2⟩ := ih hs
      exact ⟨_, .cons hP h1, h2.append_left _⟩
  | swap x y l =>
    intro fp h
    cases h with
    | cons hP hs =>
      cases hs with
      | cons hQ hL => exact ⟨_, .cons hQ (.cons hP hL), by rw [← List.append_assoc, ← List.append_assoc]; exact List.perm_append_comm.append_right _⟩
  | trans _ _ ih1 ih2 =>
    intro fp h
    obtain ⟨f1, h1, h2⟩ := ih1 h
    obtain ⟨f2, h3, h4⟩ := ih2 h1
    exact ⟨f2, h3, h2.trans h4⟩
theorem Sep.perm (h : Sep H0 H L) (hp : L.Perm M) : Sep H0 H M := by
  obtain ⟨hle, fp, hs, nd, hb⟩ := h
  obtain ⟨fp', h1, h2⟩ := hs.perm hp
  exact ⟨hle, fp', h1, h2.nodup_iff.1 nd, fun b hf => hb b (h2.mem_iff.2 hf)⟩
theorem Sep.swap (h : Sep H0 H (P :: Q :: L)) : Sep H0 H (Q :: P :: L) := h.perm (.swap _ _ _)
end
/-- The assertion n comes first. -/
def pullL {β : Type} : Nat → List β → List β
  | 0, l => l
  | _ + 1, [] => []
  | n + 1, a :: l => match pullL n l with
    | [] => [a]
    | b :: m => b :: a :: m
theorem pullL_perm {β : Type} : ∀ (n : Nat) (l : List β), l.Perm (pullL n l)
  | 0, l => .refl _
  | _ + 1, [] => .refl _
  | n + 1, a :: l => by
    have h := pullL_perm n l
    unfold pullL
    cases e : pullL n l with
    | nil => rw [e] at h; exact h.cons a
    | cons b m => rw [e] at h; exact (h.cons a).trans (.swap _ _ _)
/-- .. and the first goes to place n. -/
def pushL {β : Type} : Nat → List β → List β
  | 0, l => l
  | _ + 1, [] => []
  | _ + 1, [a] => [a]
  | n + 1, a :: b :: l => b :: pushL n (a :: l)
theorem pushL_perm {β : Type} : ∀ (n : Nat) (l : List β), l.Perm (pushL n l)
  | 0, l => .refl _
  | _ + 1, [] => .refl _
  | _ + 1, [a] => .refl _
  | n + 1, a :: b :: l => (List.Perm.swap b a l).trans ((pushL_perm n (a :: l)).cons b)
section
variable {H0 H H' : AH} {P P' Q : Asr} {L M : List Asr}
theorem Sep.pull (n : Nat) (h : Sep H0 H L) : Sep H0 H (pullL n L) := h.perm (pullL_perm n L)
theorem Sep.push (n : Nat) (h : Sep H0 H L) : Sep H0 H (pushL n L) := h.perm (pushL_perm n L)
theorem Sep.mono (h : Sep H0 H (P :: L)) (hu : ∀ f, P.on H f → ∃ f', P'.on H f' ∧ f'.Sublist f) : Sep H0 H (P' :: L) := by
  refine h.upd fun f h1 h2 h3 => ?_
  obtain ⟨f', h4, h5⟩ := hu f h1
  exact ⟨f', h4, h5.nodup h2, fun b hb => .inl (h5.subset hb), Nat.le_refl _, fun _ _ _ => rfl⟩
theorem Sep.keep (h : Sep H0 H (L ++ M)) : Sep H0 H L := by
  have key : ∀ {L : List Asr} {g : List Nat}, Seps H (L ++ M) g → ∃ f, Seps H L f ∧ f.Sublist g := by
    intro L
    induction L with
    | nil => intro g h; exact ⟨[], .nil, List.nil_sublist _⟩
    | cons P L ih =>
      intro g h
      cases h with
      | cons hP hs =>
        obtain ⟨f, h1, h2⟩ := ih hs
        exact ⟨_, .cons hP h1, (List.Sublist.refl _).append h2⟩
  obtain ⟨hle, fp, hs, nd, hb⟩ := h
  obtain ⟨f, h1, h2⟩ := key hs
  exact ⟨hle, f, h1, h2.nodup nd, fun b hf => hb b (h2.subset hf)⟩
theorem Sep.take (n : Nat) (h : Sep H0 H L) : Sep H0 H (L.take n) := by
  rw [← List.take_append_drop n L] at h; exact h.keep
/-- Assertions taken out one after the other, each by its place among those left. -/
def ordL {β : Type} : List Nat → List β → List β
  | [], _ => []
  | i :: is, l => match pullL i l with
    | [] => []
    | a :: m => a :: ordL is m
theorem ordL_perm {β : Type} : ∀ (is : List Nat) (l : List β), ∃ m, l.Perm (ordL is l ++ m)
  | [], l => ⟨l, .refl _⟩
  | i :: is, l => by
    have h := pullL_perm i l
    unfold ordL
    cases e : pullL i l with
    | nil => rw [e] at h; exact ⟨[], h⟩
    | cons a m =>
      rw [e] at h
      obtain ⟨m', hm⟩ := ordL_perm is m
      exact ⟨m', h.trans (hm.cons a)⟩
theorem Sep.ord (is : List Nat) (h : Sep H0 H L) : Sep H0 H (ordL is L) := by
  obtain ⟨m, hm⟩ := ordL_perm is L
  exact (h.perm hm).keep
theorem Sep.join2 {R : Asr} (h : Sep H0 H (P :: Q :: L)) (hu : ∀ f g, P.on H f → Q.on H g → R.on H (f ++ g)) : Sep H0 H (R :: L) := by
  obtain ⟨hle, fp, hs, nd, hb⟩ := h
  cases hs with
  | cons hP hs =>
    cases hs with
    | cons hQ hL =>
      rw [← List.append_assoc] at *
      exact ⟨hle, _, .cons (hu _ _ hP hQ) hL, nd, hb⟩
end

/-! ### What an owned slice reads as -/
section
variable {α : Type} {r : Re α} {H0 H : AH} {L : List Asr} {s : Sl} {xs : List α}
theorem OwnL.rowOf {fp : List Nat} (h : OwnL r H s xs fp) : RowOf (fun v x => ∃ f, r.on H v x f) H s xs := by
  obtain ⟨h1, ⟨h2, rfl, rfl⟩ | ⟨b, us, vs, ws, g, h2, h3, h4, rfl⟩⟩ := h
  · exact ⟨h1, fun j x hj => by simp at hj, fun p hp => by rw [h2] at hp; cases hp⟩
  · have hl := h4.len
    refine ⟨h1, fun j x hj => ?_, fun p hp => ?_⟩
    · obtain ⟨v, f, e1, e2⟩ := h4.get hj
      have hjv := (List.getElem?_eq_some_iff.1 e1).1
      exact ⟨⟨b, us.length⟩, _, 1, v, h2, h3, by rw [List.getElem?_append_right (by simp)]; simp only [Nat.add_sub_cancel_left]; rw [List.getElem?_append_left hjv]; exact e1, f, e2⟩
    · rw [h2] at hp; cases hp
      exact ⟨_, 1, h3, by simp [h1, hl]⟩
theorem Sep.head {P : Asr} (h : Sep H0 H (P :: L)) : ∃ f, P.on H f := by
  obtain ⟨hle, fp, hs, nd, hb⟩ := h
  cases hs with
  | cons hP hL => exact ⟨_, hP⟩
theorem Sep.len (h : Sep H0 H (own r s xs :: L)) : s.len = xs.length := by obtain ⟨f, hf⟩ := h.head; exact hf.1
theorem Sep.rowOf (h : Sep H0 H (own r s xs :: L)) : RowOf (fun v x => ∃ f, r.on H v x f) H s xs := by obtain ⟨f, hf⟩ := h.head; exact hf.rowOf
theorem Sep.row {xs : List Int} (h : Sep H0 H (own reI s xs :: L)) : Row H s xs := h.rowOf.imp fun v x ⟨f, e⟩ => e.1
theorem Sep.rowB {xs : List Bool} (h : Sep H0 H (own reB s xs :: L)) : RowB H s xs := h.rowOf.imp fun v x ⟨f, e⟩ => e.1
theorem Sep.tab {T : List (List Int)} (h : Sep H0 H (own (reL reI) s T :: L)) : Tab H s T :=
  h.rowOf.imp fun v x ⟨f, t, e1, e2⟩ => ⟨t, e1, e2.rowOf.imp fun v x ⟨f, e⟩ => e.1⟩
theorem Sep.at1 {p : Pt} {cs : List AV} (h : Sep H0 H (ownC p cs :: L)) : At1 H p cs := by obtain ⟨f, hf⟩ := h.head; exact hf.1
theorem Sep.nilS (r : Re α) (h : Sep H0 H L) : Sep H0 H (own r ⟨none, 0⟩ [] :: L) := by
  obtain ⟨hle, fp, hs, nd, hb⟩ := h
  exact ⟨hle, [] ++ fp, .cons ⟨rfl, .inl ⟨rfl, rfl, rfl⟩⟩ hs, nd, hb⟩
/-- An element that is not laid yet. -/
def elt (r : Re α) (u : AV) (x : α) : Asr := ⟨fun H fp => r.on H u x fp, fun h hf => r.loc h hf⟩
theorem Sep.elt0 {u : AV} {x : α} (h : Sep H0 H L) (hu : r.on H u x []) : Sep H0 H (elt r u x :: L) := by
  obtain ⟨hle, fp, hs, nd, hb⟩ := h
  exact ⟨hle, [] ++ fp, .cons hu hs, nd, hb⟩
theorem Sep.eltL (h : Sep H0 H (own r s xs :: L)) : Sep H0 H (elt (reL r) (.sl s) xs :: L) := h.mono fun f hf => ⟨f, ⟨s, rfl, hf⟩, .refl _⟩
theorem Sep.ofElt (h : Sep H0 H (elt (reL r) (.sl s) xs :: L)) : Sep H0 H (own r s xs :: L) := h.mono fun f hf => by
  obtain ⟨s', e, h2⟩ := hf; cases e; exact ⟨f, h2, .refl _⟩
theorem Sep.eq {ys : List α} (h : Sep H0 H (own r s xs :: L)) (e : xs = ys) : Sep H0 H (own r s ys :: L) := e ▸ h
/-- A part from the beginning. -/
theorem Sep.cut (h : Sep H0 H (own r s xs :: L)) (n : Nat) (hn : n ≤ xs.length) : Sep H0 H (own r ⟨s.p, n⟩ (xs.take n) :: L) := h.mono fun f hf => by
  obtain ⟨h1, ⟨h2, rfl, rfl⟩ | ⟨b, us, vs, ws, g, h2, h3, h4, rfl⟩⟩ := hf
  · exact ⟨[], ⟨by simp at hn; simp [hn], .inl ⟨h2, by simp, rfl⟩⟩, .refl _⟩
  · obtain ⟨g1, g2, rfl, e1, e2⟩ := h4.take n
    exact ⟨b :: g1, ⟨by simp; omega, .inr ⟨b, us, vs.take n, vs.drop n ++ ws, g1, h2, by rw [h3, ← List.append_assoc (vs.take n), List.take_append_drop], e1, rfl⟩⟩, by simp⟩
/-- A part up to the end. -/
theorem Sep.cutL (h : Sep H0 H (own r s xs :: L)) (n : Nat) (hn : n ≤ xs.length) : Sep H0 H (own r ⟨s.p.map fun p => ⟨p.b, p.o + n⟩, xs.length - n⟩ (xs.drop n) :: L) := h.mono fun f hf => by
  obtain ⟨h1, ⟨h2, rfl, rfl⟩ | ⟨b, us, vs, ws, g, h2, h3, h4, rfl⟩⟩ := hf
  · exact ⟨[], ⟨by simp, .inl ⟨by simp [h2], by simp, rfl⟩⟩, .refl _⟩
  · obtain ⟨g1, g2, rfl, e1, e2⟩ := h4.take n
    have hl := h4.len
    refine ⟨b :: g2, ⟨by simp, .inr ⟨b, us ++ vs.take n, vs.drop n, ws, g2, by simp [h2]; omega, by rw [h3]; simp [← List.append_assoc]; rw [List.append_assoc us, List.take_append_drop], e2, rfl⟩⟩, by simp⟩
end

/-! ### Steps -/
section
variable {A : Type} {Q : A → AH → Prop} {H0 H : AH} {L : List Asr} {α : Type} {r : Re α} {s : Sl} {xs : List α} {lo : Nat}
theorem Sep.new {H' : AH} {P : Asr} (h : Sep H0 H L) (hl : H.length + 1 = H'.length) (hle : Le H H') (hP : P.on H' [H.length]) : Sep H0 H' (P :: L) :=
  h.call (M := [P]) ⟨hle, [H.length], .cons hP .nil, by simp, fun b hb => by simp at hb; omega⟩
theorem OwnL.mk {H : AH} {b : Nat} {vs : List AV} (hb : H[b]? = some (.cells vs 1)) (h : All3 r H vs xs []) : OwnL r H ⟨some ⟨b, 0⟩, xs.length⟩ xs [b] :=
  ⟨rfl, .inr ⟨b, [], vs, [], [], rfl, by simpa using hb, h, rfl⟩⟩
/-- A slice is made. -/
theorem sp_mks {z : AV} {x : α} {n : Int} {bytes : Nat} {K : (ρ : Type) → Nat → (A → AH → Option ρ) → Sl → AH → Option ρ} (hS : Sep H0 H L) (r : Re α) (hz : ∀ H, r.on H z x []) (h0 : 0 ≤ n) (h2 : n * bytes ≤ 70368744177664) (hK : ∀ s H', Sep H0 H' (own r s (List.replicate n.toNat x) :: L) → Ev (fun ρ k κ => K ρ k κ s H') Q) : Ev (fun ρ k κ => mks H [z] bytes n n (K ρ k κ)) Q := by
  refine ev_mks h0 (Int.le_refl _) h2 ?_
  rw [flatten_rep]
  have e := hK ⟨some ⟨H.length, 0⟩, n.toNat⟩ (H ++ [.cells (List.replicate n.toNat z) 1]) (hS.new (by simp) ⟨_, rfl⟩ ?_)
  · exact e
  · have := OwnL.mk (r := r) (H := H ++ [.cells (List.replicate n.toNat z) 1]) (b := H.length) (xs := List.replicate n.toNat x) (vs := List.replicate n.toNat z) (by simp) (All3.rep (hz _) _)
    exact (by simpa using this : OwnL r (H ++ [.cells (List.replicate n.toNat z) 1]) ⟨some ⟨H.length, 0⟩, n.toNat⟩ (List.replicate n.toNat x) [H.length])
/-- A slice is written out. -/
theorem sp_lit {cs : List AV} {n : Nat} (xs : List α) {K : (ρ : Type) → Nat → (A → AH → Option ρ) → Sl → AH → Option ρ} (hS : Sep H0 H L) (r : Re α) (h : ∀ H, All3 r H cs xs []) (hK : ∀ s H', Sep H0 H' (own r s xs :: L) → Ev (fun ρ k κ => K ρ k κ s H') Q) (hn : n = xs.length := by rfl) : Ev (fun ρ k κ => mkb H cs 1 n (K ρ k κ)) Q := by
  subst hn
  refine ev_mkb (hK _ _ (hS.new (by simp) ⟨_, rfl⟩ (OwnL.mk (by simp) (h _))))
/-- A struct or variable is laid. -/
theorem sp_alc {cs : List AV} {K : (ρ : Type) → Nat → (A → AH → Option ρ) → Pt → AH → Option ρ} (hS : Sep H0 H L) (hK : ∀ p H', Sep H0 H' (ownC p cs :: L) → Ev (fun ρ k κ => K ρ k κ p H') Q) : Ev (fun ρ k κ => alc H cs (K ρ k κ)) Q :=
  ev_alc (hK _ _ (hS.new (by simp) ⟨_, rfl⟩ ⟨⟨rfl, by simp⟩, rfl⟩))
/-- A cell of it is stored into. -/
theorem sp_stcC {p : Pt} {cs : List AV} {j : Nat} {u : AV} {K : (ρ : Type) → Nat → (A → AH → Option ρ) → AH → Option ρ} (hS : Sep H0 H (ownC p cs :: L)) (hlo : lo ≤ H0.length) (hj : j < cs.length) (hK : ∀ H', Sep H0 H' (ownC p (cs.set j u) :: L) → Ev (fun ρ k κ => K ρ k κ H') Q) : Ev (fun ρ k κ => stc lo H ⟨p.b, p.o + j⟩ u (K ρ k κ)) Q := by
  have hb : lo ≤ p.b := by
    obtain ⟨hle, fp, hs, nd, hb⟩ := hS
    cases hs with
    | cons hP hL => have := hb p.b (by simp [hP.2]); omega
  have hp := hS.at1
  refine ev_stc (p := ⟨p.b, p.o + j⟩) hp.2 hb (by simp [hp.1, hj]) (hK _ (hS.upd fun f hf nf hlt => ⟨[p.b], ⟨⟨hp.1, ?_⟩, rfl⟩, by simp, fun b hm => .inl (by rw [hf.2]; exact hm), by simp, fun b _ hnf => ?_⟩))
  · have : p.b < H.length := (List.getElem?_eq_some_iff.1 hp.2).1
    simp [hp.1, List.getElem?_set, this]
  · rw [List.getElem?_set_ne (fun e => hnf (by rw [hf.2]; exact List.mem_singleton.2 e.symm))]
theorem sp_stnC {p : Pt} {cs us : List AV} {K : (ρ : Type) → Nat → (A → AH → Option ρ) → AH → Option ρ} (hS : Sep H0 H (ownC p cs :: L)) (hlo : lo ≤ H0.length) (hj : us.length = cs.length) (hK : ∀ H', Sep H0 H' (ownC p us :: L) → Ev (fun ρ k κ => K ρ k κ H') Q) : Ev (fun ρ k κ => stn lo H p us (K ρ k κ)) Q := by
  have hb : lo ≤ p.b := by
    obtain ⟨hle, fp, hs, nd, hb⟩ := hS
    cases hs with
    | cons hP hL => have := hb p.b (by simp [hP.2]); omega
  have hp := hS.at1
  refine ev_stnB hp hj hb fun H' e hp' => hK _ (hS.upd fun f hf nf hlt => ⟨[p.b], ⟨hp', rfl⟩, by simp, fun b hm => .inl (by rw [hf.2]; exact hm), by simp [e], fun b _ hnf => ?_⟩)
  rw [e, List.getElem?_set_ne (fun e => hnf (by rw [hf.2]; simp [e]))]
theorem set_mid {β : Type} (us vs ws : List β) (v u : β) : (us ++ ((vs ++ v :: ws))).set (us.length + vs.length) u = us ++ (vs ++ u :: ws) := by
  rw [List.set_append_right _ _ (by omega)]; simp
/-- An element is stored. -/
theorem sp_putE {i : Int} {u : AV} {x : α} {K : (ρ : Type) → Nat → (A → AH → Option ρ) → AH → Option ρ} (hS : Sep H0 H (own r s xs :: elt r u x :: L)) (hlo : lo ≤ H0.length) (h0 : 0 ≤ i) (h1 : i < (xs.length : Int)) (hK : ∀ H', Sep H0 H' (own r s (xs.set i.toNat x) :: L) → Ev (fun ρ k κ => K ρ k κ H') Q) : Ev (fun ρ k κ => idx s i 1 fun p => stc lo H p u (K ρ k κ)) Q := by
  obtain ⟨hle, fp, hs, nd, hb⟩ := id hS
  cases hs with
  | cons hP hs =>
  cases hs with
  | cons hE hL =>
  rename_i f g fe
  obtain ⟨h1', ⟨h2, rfl, rfl⟩ | ⟨b, us, vs, ws, g, h2, h3, h4, rfl⟩⟩ := hP
  · simp at h1; omega
  have hl := h4.len
  have hbl := hb b (by simp)
  refine ev_idx h2 h0 (by omega) (ev_stc (p := ⟨b, us.length + i.toNat * 1⟩) h3 (by show lo ≤ b; omega) (by simp; omega) (hK _ ?_))
  have hS' := hS.join2 (R := ⟨fun H fp => ∃ f g, OwnL r H s xs f ∧ r.on H u x g ∧ fp = f ++ g, fun ⟨f, g, a, b, c⟩ hf => ⟨f, g, a.loc fun b hb => hf b (by simp [c, hb]), r.loc b fun b hb => hf b (by simp [c, hb]), c⟩⟩) fun f g a b => ⟨f, g, a, b, rfl⟩
  refine hS'.upd fun f ⟨f1, f2, a1, a2, e⟩ nf hlt => ?_
  subst e
  obtain ⟨n1, n2, n12⟩ := List.nodup_append.1 nf
  obtain ⟨_, ⟨e2, _, _⟩ | ⟨b', us', vs', ws', g', e2, e3, e4, rfl⟩⟩ := a1
  · rw [h2] at e2; cases e2
  have : b' = b ∧ us'.length = us.length := by rw [h2] at e2; simpa [eq_comm] using e2
  obtain ⟨rfl, hul⟩ := this
  obtain ⟨vs1, v, vs2, xs1, x0, xs2, g1, f0, g2, rfl, rfl, rfl, l1, l2, t1, t2, t3⟩ := e4.split (j := i.toNat) (by omega)
  have hbn : b' ∉ g1 ++ (f0 ++ g2) := (List.nodup_cons.1 n1).1
  have fr : ∀ c, c ≠ b' → (H.set b' (.cells ((us ++ (vs ++ ws)).set (us.length + i.toNat * 1) u) 1))[c]? = H[c]? := fun c hc => List.getElem?_set_ne (fun e => hc e.symm)
  have heq : us ++ (vs ++ ws) = us' ++ ((vs1 ++ v :: vs2) ++ ws') := by rw [h3] at e3; simpa using e3
  refine ⟨b' :: (g1 ++ (f2 ++ g2)), ⟨by simp [h1', List.length_append], .inr ⟨b', us', vs1 ++ u :: vs2, ws', g1 ++ (f2 ++ g2), e2, ?_, ?_, rfl⟩⟩, ?_, ?_, by simp, fun c _ hc => fr c (fun e => hc (by simp [e]))⟩
  · have : b' < H.length := (List.getElem?_eq_some_iff.1 h3).1
    rw [List.getElem?_set_self this, heq]
    rw [← hul, Nat.mul_one, ← l1]
    simp
  · have hxs : (xs1 ++ x0 :: xs2).set i.toNat x = xs1 ++ x :: xs2 := by rw [List.set_append_right _ _ (by omega), l2, Nat.sub_self]; rfl
    rw [hxs]
    refine (t1.loc fun c hc => fr c fun e => hbn (by simp [← e, hc])).join (All3.cons (r.loc a2 fun c hc => fr c fun e => ?_) (t3.loc fun c hc => fr c fun e => hbn (by simp [← e, hc])))
    exact n12 b' (by simp) c hc e.symm
  · simp only [List.nodup_cons, List.nodup_append, List.mem_append] at n1 n2 n12 nf ⊢
    refine ⟨fun h => ?_, n1.2.1, ⟨n2, n1.2.2.1.2.1, fun a ha c hc => fun e => n12 c (by simp [hc]) a ha e.symm⟩, fun a ha c hc => ?_⟩
    · rcases h with h | h | h
      · exact n1.1 (.inl h)
      · exact n12 b' (by simp) b' h rfl
      · exact n1.1 (.inr (.inr h))
    · rcases hc with hc | hc
      · exact n12 a (by simp [ha]) c hc
      · exact n1.2.2.2 a ha c (.inr hc)
  · intro c hc
    left
    simp at hc ⊢
    rcases hc with h | h | h | h <;> simp [h]
theorem sp_put {i : Int} {u : AV} {x : α} {K : (ρ : Type) → Nat → (A → AH → Option ρ) → AH → Option ρ} (hS : Sep H0 H (own r s xs :: L)) (hlo : lo ≤ H0.length) (hu : ∀ H, r.on H u x []) (h0 : 0 ≤ i) (h1 : i < (xs.length : Int)) (hK : ∀ H', Sep H0 H' (own r s (xs.set i.toNat x) :: L) → Ev (fun ρ k κ => K ρ k κ H') Q) : Ev (fun ρ k κ => idx s i 1 fun p => stc lo H p u (K ρ k κ)) Q :=
  sp_putE (hS.elt0 (hu _)).swap hlo h0 h1 hK
/-- Elements that are not laid yet. -/
def elts (r : Re α) (us : List AV) (ys : List α) : Asr := ⟨fun H fp => All3 r H us ys fp, fun h hf => h.loc hf⟩
theorem sp_app {us : List AV} {ys : List α} {n bytes : Nat} {K : (ρ : Type) → Nat → (A → AH → Option ρ) → Sl → AH → Option ρ} (hS : Sep H0 H (own r s xs :: elts r us ys :: L)) (hlo : lo ≤ H0.length) (hn : n = ys.length) (hr : (xs.length + ys.length) * bytes ≤ 70368744177664) (hK : ∀ s' H', Sep H0 H' (own r s' (xs ++ ys) :: L) → Ev (fun ρ k κ => K ρ k κ s' H') Q) : Ev (fun ρ k κ => app lo H s 1 bytes us n (K ρ k κ)) Q := by
  subst hn
  obtain ⟨hle, fp, hs, nd, hb⟩ := id hS
  cases hs with
  | cons hP hs =>
  cases hs with
  | cons hE hL =>
  rename_i f g fe
  have hl' : us.length = ys.length := All3.len hE
  have hsi : singles us = true := All3.singles hE
  obtain ⟨e1, hP⟩ := hP
  have hS' := hS.join2 (R := ⟨fun H fp => ∃ f g, OwnL r H s xs f ∧ All3 r H us ys g ∧ fp = f ++ g, fun ⟨f, g, a, b, c⟩ hf => ⟨f, g, a.loc fun b hb => hf b (by simp [c, hb]), b.loc fun b hb => hf b (by simp [c, hb]), c⟩⟩) fun f g a b => ⟨f, g, a, b, rfl⟩
  by_cases h0 : ys.length = 0
  · have hys : ys = [] := List.eq_nil_of_length_eq_zero h0
    subst hys
    simp only [app, List.length_nil, decide_true, cond_true]
    refine hK _ _ (hS'.mono fun f ⟨f1, f2, a1, a2, e⟩ => ⟨f1, by show OwnL r H s (xs ++ []) f1; simpa using a1, by rw [e]; simp⟩)
  have hr' : (s.len + ys.length) * bytes ≤ room := by rw [e1]; exact hr
  simp only [app, h0, decide_false, cond_false, hr', decide_true, hl', Nat.mul_one, hsi, Bool.and_self, cond_true]
  rcases hP with ⟨h2, rfl, rfl⟩ | ⟨b, us0, vs, ws, g', h2, h3, h4, rfl⟩
  · simp only [h2, e1, List.length_nil, decide_true, cond_true]
    refine hK _ _ (hS'.upd fun f ⟨f1, f2, a1, a2, e⟩ nf hlt => ⟨H.length :: f2, ⟨by simp, .inr ⟨H.length, [], us, [], f2, rfl, by simp, ?_, rfl⟩⟩, ?_, ?_, by simp, fun c hc _ => List.getElem?_append_left hc⟩)
    · subst e; exact (a2.loc fun c hc => List.getElem?_append_left (hlt c (by simp [hc])))
    · subst e; exact List.nodup_cons.2 ⟨fun hm => by have := hlt _ (List.mem_append_right _ hm); omega, (List.nodup_append.1 nf).2.1⟩
    · intro c hc; subst e
      rcases List.mem_cons.1 hc with rfl | hc
      · right; simp
      · left; exact List.mem_append_right _ hc
  · have hl := h4.len
    have hbl := hb b (by simp)
    have hlo' : lo ≤ b := by omega
    have hfit : us0.length + s.len * 1 ≤ (us0 ++ (vs ++ ws)).length := by rw [e1]; simp; omega
    have hfit' : us0.length + s.len ≤ (us0 ++ (vs ++ ws)).length := by omega
    simp only [h2, h3, hlo', decide_true, hfit', Bool.and_self, cond_true]
    have hcut : ((us0 ++ (vs ++ ws)).drop us0.length).take s.len = vs := by
      rw [List.drop_left, e1, ← hl, List.take_left]
    rw [hcut]
    have fr : ∀ c, c < H.length → c ≠ b → (H.set b .dead ++ [Blk.cells (vs ++ us) 1])[c]? = H[c]? := fun c hc hne => by
      rw [List.getElem?_append_left (by simpa using hc), List.getElem?_set_ne (fun e => hne e.symm)]
    refine hK _ _ (hS'.upd fun f ⟨f1, f2, a1, a2, e⟩ nf hlt => ?_)
    subst e
    obtain ⟨n1, n2, n12⟩ := List.nodup_append.1 nf
    obtain ⟨_, ⟨e2, _, _⟩ | ⟨b', us', vs', ws', g'', e2, e3, e4, rfl⟩⟩ := a1
    · rw [h2] at e2; cases e2
    have : b' = b ∧ us'.length = us0.length := by rw [h2] at e2; simpa [eq_comm] using e2
    obtain ⟨rfl, hul⟩ := this
    have hvv : vs' = vs := by
      rw [h3] at e3
      have e3 : us0 ++ (vs ++ ws) = us' ++ (vs' ++ ws') := by simpa using e3
      have := congrArg (fun l => (l.drop us0.length).take vs.length) e3
      simp only [List.drop_left, List.take_left] at this
      rw [← hul, List.drop_left, hl, ← e4.len, List.take_left] at this
      exact this.symm
    subst hvv
    refine ⟨H.length :: (g'' ++ f2), ⟨by simp [e1], .inr ⟨H.length, [], vs' ++ us, [], g'' ++ f2, by simp, by simp, ?_, rfl⟩⟩, ?_, ?_, by simp, fun c hc hnf => fr c hc (fun e => hnf (by simp [e]))⟩
    · refine (e4.loc fun c hc => fr c (hlt c (by simp [hc])) (fun e => (List.nodup_cons.1 n1).1 (by rw [← e]; exact hc))).join (a2.loc fun c hc => fr c (hlt c (by simp [hc])) fun e => n12 b' (by simp) c hc e.symm)
    · refine List.nodup_cons.2 ⟨fun hm => ?_, List.nodup_append.2 ⟨(List.nodup_cons.1 n1).2, n2, fun a ha c hc => n12 a (by simp [ha]) c hc⟩⟩
      have : H.length < H.length := hlt H.length (by simp at hm ⊢; exact .inr hm)
      omega
    · intro c hc
      simp at hc ⊢
      rcases hc with rfl | h | h
      · right; omega
      · left; simp [h]
      · left; simp [h]
/-- An element behind the others. -/
theorem sp_appE {u : AV} {x : α} {bytes : Nat} {K : (ρ : Type) → Nat → (A → AH → Option ρ) → Sl → AH → Option ρ} (hS : Sep H0 H (own r s xs :: elt r u x :: L)) (hlo : lo ≤ H0.length) (hr : (xs.length + 1) * bytes ≤ 70368744177664) (hK : ∀ s' H', Sep H0 H' (own r s' (xs ++ [x]) :: L) → Ev (fun ρ k κ => K ρ k κ s' H') Q) : Ev (fun ρ k κ => mkb H [u] 1 1 fun t H3 => appS lo H3 s t 1 bytes (K ρ k κ)) Q := by
  have hS2 : Sep H0 (H ++ [.cells [u] 1]) (own r s xs :: elt r u x :: L) := hS.on ⟨_, rfl⟩
  have hS3 : Sep H0 (H ++ [.cells [u] 1]) (own r s xs :: elts r [u] [x] :: L) := (hS2.pull 1 |>.mono (P' := elts r [u] [x]) fun f hf => ⟨f ++ [], All3.cons hf .nil, by simp⟩).pull 1
  have := sp_app (lo := lo) (n := 1) (bytes := bytes) (K := K) hS3 hlo rfl (by simpa using hr) hK
  refine ev_mkb ?_
  have e : decide (0 + 1 * 1 ≤ [u].length) = true := by simp
  simp only [appS, ldn, List.getElem?_concat_length, e, cond_true, List.drop_zero]
  exact this
theorem sp_app1 {u : AV} {x : α} {bytes : Nat} {K : (ρ : Type) → Nat → (A → AH → Option ρ) → Sl → AH → Option ρ} (hS : Sep H0 H (own r s xs :: L)) (hlo : lo ≤ H0.length) (hu : ∀ H, r.on H u x []) (hr : (xs.length + 1) * bytes ≤ 70368744177664) (hK : ∀ s' H', Sep H0 H' (own r s' (xs ++ [x]) :: L) → Ev (fun ρ k κ => K ρ k κ s' H') Q) : Ev (fun ρ k κ => mkb H [u] 1 1 fun t H3 => appS lo H3 s t 1 bytes (K ρ k κ)) Q :=
  sp_appE (hS.elt0 (hu _)).swap hlo hr hK
theorem sp_appL {t : Sl} {ys : List α} {T : List (List α)} {bytes : Nat} {K : (ρ : Type) → Nat → (A → AH → Option ρ) → Sl → AH → Option ρ} (hS : Sep H0 H (own (reL r) s T :: own r t ys :: L)) (hlo : lo ≤ H0.length) (hr : (T.length + 1) * bytes ≤ 70368744177664) (hK : ∀ s' H', Sep H0 H' (own (reL r) s' (T ++ [ys]) :: L) → Ev (fun ρ k κ => K ρ k κ s' H') Q) : Ev (fun ρ k κ => mkb H [.sl t] 1 1 fun t' H3 => appS lo H3 s t' 1 bytes (K ρ k κ)) Q :=
  sp_appE (hS.swap.eltL.swap) hlo hr hK
theorem RowOf.cells {R : AV → α → Prop} {y : Sl} {ys : List α} (h : RowOf R H y ys) : (y.p = none ∧ ys = []) ∨ ∃ p vs sz us, y.p = some p ∧ H[p.b]? = some (.cells vs sz) ∧ p.o + ys.length ≤ vs.length ∧ us = (vs.drop p.o).take ys.length ∧ us.length = ys.length ∧ ∀ (j : Nat) x, ys[j]? = some x → ∃ v, us[j]? = some v ∧ R v x := by
  cases hp : y.p with
  | none =>
    left; refine ⟨rfl, ?_⟩
    cases ys with
    | nil => rfl
    | cons a l => obtain ⟨p, vs, sz, v, e, _⟩ := h.2.1 0 a rfl; rw [hp] at e; cases e
  | some p =>
    right
    obtain ⟨vs, sz, e1, e2⟩ := h.2.2 p hp
    rw [h.1] at e2
    refine ⟨p, vs, sz, _, rfl, e1, e2, rfl, by simp; omega, fun j x hj => ?_⟩
    have hjl := (List.getElem?_eq_some_iff.1 hj).1
    obtain ⟨p', vs', sz', v, a1, a2, a3, a4⟩ := h.2.1 j x hj
    rw [hp] at a1; cases a1
    rw [e1] at a2; cases a2
    exact ⟨v, by rw [List.getElem?_take_of_lt hjl, List.getElem?_drop]; exact a3, a4⟩
theorem All3.of0 : ∀ {us : List AV} {ys : List α}, us.length = ys.length → (∀ (j : Nat) x, ys[j]? = some x → ∃ v, us[j]? = some v ∧ r.on H v x []) → All3 r H us ys []
  | [], [], _, _ => .nil
  | u :: us, y :: ys, hl, h => by
    obtain ⟨v, e1, e2⟩ := h 0 y rfl
    simp at e1; subst e1
    exact All3.cons e2 (All3.of0 (by simpa using hl) fun j x hj => by simpa using h (j + 1) x (by simpa using hj))
/-- A row behind the others. -/
theorem sp_appR {y : Sl} {ys : List α} {bytes : Nat} {K : (ρ : Type) → Nat → (A → AH → Option ρ) → Sl → AH → Option ρ} (hS : Sep H0 H (own r s xs :: L)) (hlo : lo ≤ H0.length) (hy : RowOf (fun v x => r.on H v x []) H y ys) (hr : (xs.length + ys.length) * bytes ≤ 70368744177664) (hK : ∀ s' H', Sep H0 H' (own r s' (xs ++ ys) :: L) → Ev (fun ρ k κ => K ρ k κ s' H') Q) : Ev (fun ρ k κ => appS lo H s y 1 bytes (K ρ k κ)) Q := by
  rcases hy.cells with ⟨h1, rfl⟩ | ⟨p, vs, sz, us, h1, h2, h3, h4, h5, h6⟩
  · have : y.len = 0 := hy.1
    simp only [appS, h1, this, decide_true, cond_true]
    exact hK _ _ (hS.eq (by simp))
  · have e : decide (p.o + ys.length ≤ vs.length) = true := by simpa using h3
    simp only [appS, h1, ldn, h2, hy.1, Nat.mul_one, e, cond_true]
    rw [← h4]
    have : Sep H0 H (elts r us ys :: own r s xs :: L) := by
      obtain ⟨hle, fp, hs, nd, hb⟩ := hS
      exact ⟨hle, [] ++ fp, .cons (P := elts r us ys) (All3.of0 h5 h6) hs, nd, hb⟩
    exact sp_app this.swap hlo rfl hr hK

/-! Rows of rows: a row is taken out, changed, and laid back. -/
theorem OwnH.close {t : Sl} {T : List (List α)} {j : Nat} {ys : List α} {f g : List Nat} (h : OwnH (reL r) H s T j (.sl t) f) (ht : OwnL r H t ys g) : ∃ f', OwnL (reL r) H s (T.set j ys) f' ∧ f'.Perm (f ++ g) := by
  obtain ⟨h1, b, us, vs1, vs2, ws, xs1, x, xs2, g1, g2, h2, h3, rfl, rfl, h6, h7, rfl⟩ := h
  have hx : (xs1 ++ x :: xs2).set xs1.length ys = xs1 ++ ys :: xs2 := by rw [List.set_append_right _ _ (by omega), Nat.sub_self]; rfl
  refine ⟨b :: (g1 ++ (g ++ g2)), ⟨by simpa using h1, .inr ⟨b, us, vs1 ++ .sl t :: vs2, ws, g1 ++ (g ++ g2), h2, h3, ?_, rfl⟩⟩, ?_⟩
  · rw [hx]; exact h6.join (.cons ⟨t, rfl, ht⟩ h7)
  · simp only [List.cons_append, List.append_assoc]
    exact .cons _ (.append_left _ List.perm_append_comm)
theorem Sep.close {t : Sl} {T : List (List α)} {j : Nat} {ys : List α} (h : Sep H0 H (ownH (reL r) s T j (.sl t) :: own r t ys :: L)) : Sep H0 H (own (reL r) s (T.set j ys) :: L) := by
  have := h.join2 (R := ⟨fun H fp => ∃ f g, OwnH (reL r) H s T j (.sl t) f ∧ OwnL r H t ys g ∧ fp = f ++ g, fun ⟨f, g, a, b, c⟩ hf => ⟨f, g, a.loc fun b hb => hf b (by simp [c, hb]), b.loc fun b hb => hf b (by simp [c, hb]), c⟩⟩) fun f g a b => ⟨f, g, a, b, rfl⟩
  refine this.upd fun f ⟨f1, f2, a, b, e⟩ nf hlt => ?_
  subst e
  obtain ⟨f', h1, h2⟩ := a.close b
  exact ⟨f', h1, h2.nodup_iff.2 nf, fun c hc => .inl (h2.mem_iff.1 hc), Nat.le_refl _, fun _ _ _ => rfl⟩
theorem Sep.opens {T : List (List α)} (h : Sep H0 H (own (reL r) s T :: L)) {j : Nat} (hj : j < T.length) : ∃ t : Sl, (∃ b us vs, s.p = some ⟨b, us⟩ ∧ H[b]? = some (.cells vs 1) ∧ vs[us + j]? = some (.sl t)) ∧ Sep H0 H (ownH (reL r) s T j (.sl t) :: own r t T[j] :: L) := by
  obtain ⟨hle, fp, hs, nd, hb⟩ := h
  cases hs with
  | cons hP hL =>
  rename_i f fL
  obtain ⟨h1, ⟨h2, rfl, rfl⟩ | ⟨b, us, vs, ws, g, h2, h3, h4, rfl⟩⟩ := hP
  · simp at hj
  obtain ⟨vs1, v, vs2, xs1, x, xs2, g1, f, g2, rfl, rfl, rfl, l1, l2, t1, ⟨t, rfl, t2⟩, t3⟩ := h4.split hj
  have hx : (xs1 ++ x :: xs2)[j] = x := by simp [← l2]
  refine ⟨t, ⟨b, us.length, _, h2, h3, by simp [← l1]⟩, ?_⟩
  rw [hx]
  have hp : (b :: (g1 ++ (f ++ g2)) ++ fL).Perm (b :: (g1 ++ g2) ++ (f ++ fL)) := by
    simp only [List.cons_append, List.append_assoc]
    refine .cons _ (.append_left _ ?_)
    rw [← List.append_assoc, ← List.append_assoc]
    exact .append_right _ List.perm_append_comm
  exact ⟨hle, _, .cons (P := ownH (reL r) s (xs1 ++ x :: xs2) j (.sl t)) ⟨h1, b, us, vs1, vs2, ws, xs1, x, xs2, g1, g2, h2, h3, rfl, l2, t1, t3, rfl⟩ (.cons (P := own r t x) t2 hL), hp.nodup_iff.1 nd, fun c hc => hb c (hp.mem_iff.2 hc)⟩
/-- A row is taken out. -/
theorem sp_open {T : List (List α)} {i : Int} {K : (ρ : Type) → Nat → (A → AH → Option ρ) → Sl → Option ρ} (hS : Sep H0 H (own (reL r) s T :: L)) (h0 : 0 ≤ i) (h1 : i < (T.length : Int)) (hK : ∀ t, Sep H0 H (ownH (reL r) s T i.toNat (.sl t) :: own r t (rdOf [] T i) :: L) → Ev (fun ρ k κ => K ρ k κ t) Q) : Ev (fun ρ k κ => rdS H s i (K ρ k κ)) Q := by
  obtain ⟨t, ⟨b, o, vs, e1, e2, e3⟩, hS'⟩ := hS.opens (j := i.toNat) (by omega)
  refine ev_idx e1 h0 (by rw [hS.len]; exact h1) (ev_ldc (p := ⟨b, o + i.toNat * 1⟩) (v := .sl t) e2 (by rw [Nat.mul_one]; exact e3) ?_)
  have hx : rdOf [] T i = T[i.toNat]'(by omega) := by unfold rdOf; rw [List.getD_eq_getElem?_getD, List.getElem?_eq_getElem (by omega)]; rfl
  rw [← hx] at hS'
  have := hK t hS'
  simpa [asS] using this
/-- The place that a row was taken out of. -/
theorem sp_putH {i : Int} {j : Nat} {v u : AV} {K : (ρ : Type) → Nat → (A → AH → Option ρ) → AH → Option ρ} (hS : Sep H0 H (ownH r s xs j v :: L)) (hlo : lo ≤ H0.length) (h0 : 0 ≤ i) (hj : j = i.toNat) (hK : ∀ H', Sep H0 H' (ownH r s xs j u :: L) → Ev (fun ρ k κ => K ρ k κ H') Q) : Ev (fun ρ k κ => idx s i 1 fun p => stc lo H p u (K ρ k κ)) Q := by
  obtain ⟨hle, fp, hs, nd, hb⟩ := id hS
  cases hs with
  | cons hP hL =>
  obtain ⟨h1, b, us, vs1, vs2, ws, xs1, x, xs2, g1, g2, h2, h3, rfl, l2, t1, t2, rfl⟩ := hP
  have hl1 := t1.len
  have hbl := hb b (by simp)
  have hlen : i.toNat < s.len := by rw [h1, ← hj, ← l2]; simp
  refine ev_idx h2 h0 (by omega) (ev_stc (p := ⟨b, us.length + i.toNat * 1⟩) h3 (by show lo ≤ b; omega) (by simp; omega) (hK _ (hS.upd fun f hf nf hlt => ?_)))
  obtain ⟨h1', b', us', vs1', vs2', ws', xs1', x', xs2', g1', g2', h2', h3', e4, l2', t1', t2', rfl⟩ := hf
  have : b' = b ∧ us'.length = us.length := by rw [h2] at h2'; simpa [eq_comm] using h2'
  obtain ⟨rfl, hul⟩ := this
  have fr : ∀ c, c ≠ b' → (H.set b' (.cells ((us ++ (vs1 ++ v :: vs2 ++ ws)).set (us.length + i.toNat * 1) u) 1))[c]? = H[c]? := fun c hc => List.getElem?_set_ne (fun e => hc e.symm)
  have heq : us ++ (vs1 ++ v :: vs2 ++ ws) = us' ++ ((vs1' ++ v :: vs2') ++ ws') := by rw [h3] at h3'; simpa using h3'
  have nb := (List.nodup_cons.1 nf).1
  refine ⟨b' :: (g1' ++ g2'), ⟨h1', b', us', vs1', vs2', ws', xs1', x', xs2', g1', g2', h2', ?_, e4, l2', t1'.loc fun c hc => fr c fun e => nb (by simp [← e, hc]), t2'.loc fun c hc => fr c fun e => nb (by simp [← e, hc]), rfl⟩, nf, fun c hc => .inl hc, by simp, fun c _ hc => fr c (fun e => hc (by simp [e]))⟩
  have hbH : b' < H.length := (List.getElem?_eq_some_iff.1 h3).1
  rw [List.getElem?_set_self hbH, heq, ← hul, Nat.mul_one, ← hj, ← l2', ← t1'.len]
  simp
/-- A row of a table that came in: it is known at the beginning. -/
theorem sp_rdS {s : Sl} {T : List (List Int)} {i : Int} {K : (ρ : Type) → Nat → (A → AH → Option ρ) → Sl → Option ρ} (h : Tab H0 s T) (hl : Le H0 H) (h0 : 0 ≤ i) (h1 : i < (T.length : Int)) (hK : ∀ t, Row H0 t (R T i) → Ev (fun ρ k κ => K ρ k κ t) Q) : Ev (fun ρ k κ => rdS H s i (K ρ k κ)) Q := by
  obtain ⟨p, vs, sz, v, e1, e2, e3, r, e4, e5⟩ := RowOf.at h (i := i.toNat) (by omega)
  have hlen := Tab.len h
  refine ev_idx e1 h0 (by omega) (ev_ldc (p := ⟨p.b, p.o + i.toNat * 1⟩) (v := v) (hl.get e2) (by rw [Nat.mul_one]; exact e3) ?_)
  have : R T i = T[i.toNat]'(by omega) := by unfold R; rw [List.getD_eq_getElem?_getD, List.getElem?_eq_getElem (by omega)]; rfl
  rw [← this] at e5
  subst e4
  simpa [asS] using hK r e5
/-- .. where the row was laid there before. -/
theorem sp_openS {T : List (List α)} {row : List α} {i : Int} {K : (ρ : Type) → Nat → (A → AH → Option ρ) → Sl → Option ρ} (hS : Sep H0 H (own (reL r) s (T.set i.toNat row) :: L)) (h0 : 0 ≤ i) (h1 : i < (T.length : Int)) (hK : ∀ t, Sep H0 H (ownH (reL r) s (T.set i.toNat row) i.toNat (.sl t) :: own r t row :: L) → Ev (fun ρ k κ => K ρ k κ t) Q) : Ev (fun ρ k κ => rdS H s i (K ρ k κ)) Q := by
  refine sp_open hS h0 (by simpa using h1) fun t hS' => hK t ?_
  have e : rdOf [] (T.set i.toNat row) i = row := by
    unfold rdOf
    rw [List.getD_eq_getElem?_getD, List.getElem?_set_self (by omega)]; rfl
  rwa [e] at hS'
theorem Sep.closeS {t : Sl} {T : List (List α)} {j : Nat} {row ys : List α} (h : Sep H0 H (ownH (reL r) s (T.set j row) j (.sl t) :: own r t ys :: L)) : Sep H0 H (own (reL r) s (T.set j ys) :: L) := by
  have := h.close
  rwa [List.set_set] at this
end
/-- A table of bools. -/
def TabB (H : AH) (s : Sl) (T : List (List Bool)) : Prop := RowOf (fun v row => ∃ r, v = .sl r ∧ RowB H r row) H s T
theorem RowB.le {H H' : AH} {s : Sl} {xs : List Bool} (h : RowB H s xs) (hl : Le H H') : RowB H' s xs := RowOf.le h hl
theorem TabB.le {H H' : AH} {s : Sl} {T : List (List Bool)} (h : TabB H s T) (hl : Le H H') : TabB H' s T := (RowOf.le h hl).imp fun v x ⟨r, h1, h2⟩ => ⟨r, h1, h2.le hl⟩
theorem TabB.len {H : AH} {s : Sl} {T : List (List Bool)} (h : TabB H s T) : s.len = T.length := h.1
section
variable {A : Type} {Q : A → AH → Prop} {H0 H : AH} {L : List Asr} {s : Sl} {lo : Nat}
theorem Sep.tabB {T : List (List Bool)} (h : Sep H0 H (own (reL reB) s T :: L)) : TabB H s T :=
  h.rowOf.imp fun v x ⟨f, t, e1, e2⟩ => ⟨t, e1, e2.rowOf.imp fun v x ⟨f, e⟩ => e.1⟩
theorem sp_rdSB {T : List (List Bool)} {i : Int} {K : (ρ : Type) → Nat → (A → AH → Option ρ) → Sl → Option ρ} (h : TabB H0 s T) (hl : Le H0 H) (h0 : 0 ≤ i) (h1 : i < (T.length : Int)) (hK : ∀ t, RowB H0 t (rdOf [] T i) → Ev (fun ρ k κ => K ρ k κ t) Q) : Ev (fun ρ k κ => rdS H s i (K ρ k κ)) Q := by
  obtain ⟨p, vs, sz, v, e1, e2, e3, r, e4, e5⟩ := RowOf.at h (i := i.toNat) (by omega)
  have hlen := TabB.len h
  refine ev_idx e1 h0 (by omega) (ev_ldc (p := ⟨p.b, p.o + i.toNat * 1⟩) (v := v) (hl.get e2) (by rw [Nat.mul_one]; exact e3) ?_)
  have : rdOf [] T i = T[i.toNat]'(by omega) := by unfold rdOf; rw [List.getD_eq_getElem?_getD, List.getElem?_eq_getElem (by omega)]; rfl
  rw [← this] at e5
  subst e4
  simpa [asS] using hK r e5
theorem ev_rdSB {T : List (List Bool)} {i : Int} {K : (ρ : Type) → Nat → (A → AH → Option ρ) → Sl → Option ρ} (h : TabB H s T) (h0 : 0 ≤ i) (h1 : i < (T.length : Int)) (hK : ∀ t, RowB H t (rdOf [] T i) → Ev (fun ρ k κ => K ρ k κ t) Q) : Ev (fun ρ k κ => rdS H s i (K ρ k κ)) Q := sp_rdSB h (Le.refl H) h0 h1 hK
/-! A table whose rows' places are known. -/
section
variable {α : Type} {r : Re α} {lo : Nat}
theorem All3.sls {H : AH} : ∀ {vs : List AV} {T : List (List α)} {g : List Nat}, All3 (reL r) H vs T g → ∃ ss : List Sl, vs = ss.map (fun s => AV.sl s) ∧ ss.length = T.length
  | _, _, _, .nil => ⟨[], rfl, rfl⟩
  | _, _, _, .cons h hs => by
    obtain ⟨s, rfl, _⟩ := h
    obtain ⟨ss, rfl, h2⟩ := hs.sls
    exact ⟨s :: ss, rfl, by simp [h2]⟩
def OwnT (r : Re α) (H : AH) (s : Sl) (ss : List Sl) (T : List (List α)) (fp : List Nat) : Prop :=
  s.len = T.length ∧ ss.length = T.length ∧ ((s.p = none ∧ T = [] ∧ fp = []) ∨ ∃ b us ws g, s.p = some ⟨b, us.length⟩ ∧ H[b]? = some (.cells (us ++ (ss.map (fun s => AV.sl s) ++ ws)) 1) ∧ All3 (reL r) H (ss.map fun s => AV.sl s) T g ∧ fp = b :: g)
def ownT (r : Re α) (s : Sl) (ss : List Sl) (T : List (List α)) : Asr := ⟨fun H fp => OwnT r H s ss T fp, fun h hf => by
  obtain ⟨h1, h0, h2 | ⟨b, us, ws, g, h2, h3, h4, rfl⟩⟩ := h
  · exact ⟨h1, h0, .inl h2⟩
  · exact ⟨h1, h0, .inr ⟨b, us, ws, g, h2, by rw [hf b (by simp), h3], h4.loc fun b' hb => hf b' (by simp [hb]), rfl⟩⟩⟩
theorem Sep.rows {s : Sl} {T : List (List α)} (h : Sep H0 H (own (reL r) s T :: L)) : ∃ ss : List Sl, ss.length = T.length ∧ Sep H0 H (ownT r s ss T :: L) := by
  obtain ⟨f, hf⟩ := h.head
  have key : ∃ ss : List Sl, ss.length = T.length ∧ ∀ g, OwnL (reL r) H s T g → OwnT r H s ss T g := by
    obtain ⟨h1, ⟨h2, rfl, rfl⟩ | ⟨b, us, vs, ws, g, h2, h3, h4, rfl⟩⟩ := hf
    · refine ⟨[], rfl, fun g hg => ?_⟩
      obtain ⟨a1, ⟨a2, a3, a4⟩ | ⟨b, us, vs, ws, g', a2, _⟩⟩ := hg
      · exact ⟨a1, rfl, .inl ⟨a2, a3, a4⟩⟩
      · rw [h2] at a2; cases a2
    · obtain ⟨ss, rfl, hl⟩ := h4.sls
      refine ⟨ss, hl, fun g' hg => ?_⟩
      obtain ⟨a1, ⟨a2, a3, a4⟩ | ⟨b', us', vs', ws', g'', a2, a3, a4, rfl⟩⟩ := hg
      · rw [h2] at a2; cases a2
      have : b' = b ∧ us'.length = us.length := by rw [h2] at a2; simpa [eq_comm] using a2
      obtain ⟨rfl, hul⟩ := this
      have e : vs' = ss.map (fun s => AV.sl s) := by
        rw [h3] at a3
        have e3 : us ++ (ss.map (fun s => AV.sl s) ++ ws) = us' ++ (vs' ++ ws') := by simpa using a3
        have l1 := h4.len
        have l2 := a4.len
        have := congrArg (fun l => (l.drop us.length).take T.length) e3
        simp only [List.drop_left] at this
        rw [← hul, List.drop_left, ← l2, List.take_left, l2, ← l1, List.take_left] at this
        exact this.symm
      subst e
      exact ⟨a1, hl, .inr ⟨b', us', ws', g'', a2, a3, a4, rfl⟩⟩
  obtain ⟨ss, hl, hk⟩ := key
  exact ⟨ss, hl, h.mono fun g hg => ⟨g, hk g hg, .refl _⟩⟩
theorem Sep.table {s : Sl} {ss : List Sl} {T : List (List α)} (h : Sep H0 H (ownT r s ss T :: L)) : Sep H0 H (own (reL r) s T :: L) := h.mono fun g hg => by
  obtain ⟨h1, h0, h2 | ⟨b, us, ws, g, h2, h3, h4, rfl⟩⟩ := hg
  · exact ⟨g, ⟨h1, .inl h2⟩, .refl _⟩
  · exact ⟨_, ⟨h1, .inr ⟨b, us, _, ws, g, h2, h3, h4, rfl⟩⟩, .refl _⟩
theorem Sep.tlen {s : Sl} {ss : List Sl} {T : List (List α)} (h : Sep H0 H (ownT r s ss T :: L)) : s.len = T.length := by obtain ⟨f, hf⟩ := h.head; exact hf.1
def slAt (ss : List Sl) (i : Int) : Sl := ss.getD i.toNat ⟨none, 0⟩
/-- Row i. -/
theorem Sep.rowAt {s : Sl} {ss : List Sl} {T : List (List α)} {i : Int} (h : Sep H0 H (ownT r s ss T :: L)) (h0 : 0 ≤ i) (h1 : i < (T.length : Int)) : RowOf (fun v x => ∃ f, r.on H v x f) H (slAt ss i) (rdOf [] T i) := by
  obtain ⟨f, hf⟩ := h.head
  obtain ⟨a1, a0, ⟨a2, rfl, _⟩ | ⟨b, us, ws, g, a2, a3, a4, rfl⟩⟩ := hf
  · simp at h1; omega
  obtain ⟨v, f, e1, s', e2, e3⟩ := a4.get (j := i.toNat) (x := rdOf [] T i) (by unfold rdOf; rw [List.getD_eq_getElem?_getD, List.getElem?_eq_getElem (by omega)]; rfl)
  have : s' = slAt ss i := by
    rw [e2] at e1
    unfold slAt
    rw [List.getElem?_map] at e1
    cases hs : ss[i.toNat]? with
    | none => rw [hs] at e1; simp at e1
    | some x => rw [hs] at e1; rw [List.getD_eq_getElem?_getD, hs]; simpa [eq_comm] using e1
  rw [← this]; exact e3.rowOf
theorem Sep.rowAtI {s : Sl} {ss : List Sl} {T : List (List Int)} {i : Int} (h : Sep H0 H (ownT reI s ss T :: L)) (h0 : 0 ≤ i) (h1 : i < (T.length : Int)) : Row H (slAt ss i) (R T i) := (h.rowAt h0 h1).imp fun v x ⟨f, e⟩ => e.1
theorem Sep.rowAtB {s : Sl} {ss : List Sl} {T : List (List Bool)} {i : Int} (h : Sep H0 H (ownT reB s ss T :: L)) (h0 : 0 ≤ i) (h1 : i < (T.length : Int)) : RowB H (slAt ss i) (rdOf [] T i) := (h.rowAt h0 h1).imp fun v x ⟨f, e⟩ => e.1
theorem sp_rdT {s : Sl} {ss : List Sl} {T : List (List α)} {i : Int} {K : (ρ : Type) → Nat → (A → AH → Option ρ) → Sl → Option ρ} (hS : Sep H0 H (ownT r s ss T :: L)) (h0 : 0 ≤ i) (h1 : i < (T.length : Int)) (hK : Ev (fun ρ k κ => K ρ k κ (slAt ss i)) Q) : Ev (fun ρ k κ => rdS H s i (K ρ k κ)) Q := by
  obtain ⟨f, hf⟩ := hS.head
  obtain ⟨a1, a0, ⟨a2, rfl, _⟩ | ⟨b, us, ws, g, a2, a3, a4, rfl⟩⟩ := hf
  · simp at h1; omega
  refine ev_idx a2 h0 (by omega) (ev_ldc (p := ⟨b, us.length + i.toNat * 1⟩) (v := .sl (slAt ss i)) a3 ?_ ?_)
  · show (us ++ (ss.map (fun s => AV.sl s) ++ ws))[us.length + i.toNat * 1]? = _
    rw [Nat.mul_one, List.getElem?_append_right (by omega), Nat.add_sub_cancel_left, List.getElem?_append_left (by simp; omega)]
    unfold slAt
    rw [List.getElem?_map, List.getD_eq_getElem?_getD, List.getElem?_eq_getElem (by omega)]; rfl
  · simpa [asS] using hK
end
/-! Maps of whole numbers. -/
variable {β : Type}
/-- A map's entries. -/
def ownMp (f : β → AV) (b : Nat) (l : List (Int × β)) : Asr := ownM b (l.map fun e => (.int .i64 e.1, f e.2))
theorem findM_none {f : β → AV} : ∀ {l : List (Int × β)} {k : Int} {i : Nat}, mget l k = none → findM false (.int .i64 k) (l.map fun e => (.int .i64 e.1, f e.2)) i = some none
  | [], _, _, _ => rfl
  | e :: l, k, i, h => by
    unfold mget at h
    split at h
    · cases h
    · rename_i hn
      have hn : ¬ k = e.1 := fun x => hn x.symm
      simp only [List.map_cons, findM, sameK, cond_false, if_pos rfl]
      have : (k == e.1) = false := by simpa using hn
      rw [this]
      exact findM_none h
theorem findM_some {f : β → AV} : ∀ {l : List (Int × β)} {k : Int} {v : β} {i : Nat}, mget l k = some v → ∃ j, findM false (.int .i64 k) (l.map fun e => (.int .i64 e.1, f e.2)) i = some (some (i + j, f v)) ∧ ∀ w, (l.map fun e => (.int .i64 e.1, f e.2)).set j (.int .i64 k, f w) = (mset l k w).map fun e => (AV.int .i64 e.1, f e.2)
  | [], _, _, _, h => by cases h
  | e :: l, k, v, i, h => by
    unfold mget at h
    split at h
    · rename_i he
      cases h
      refine ⟨0, ?_, fun w => ?_⟩
      · simp [findM, sameK, he]
      · simp [mset, he]
    · rename_i hn
      have hn' : ¬ k = e.1 := fun x => hn x.symm
      obtain ⟨j, h1, h2⟩ := findM_some (f := f) (i := i + 1) h
      refine ⟨j + 1, ?_, fun w => ?_⟩
      · simp only [List.map_cons, findM, sameK, cond_false, if_pos rfl]
        have : (k == e.1) = false := by simpa using hn'
        rw [this]
        show findM false _ _ (i + 1) = _
        rw [h1, show i + 1 + j = i + (j + 1) by omega]
      · simp only [List.map_cons, List.set_cons_succ, h2, mset, if_neg hn]
theorem Sep.atM {b : Nat} {es : List (AV × AV)} (h : Sep H0 H (ownM b es :: L)) : H[b]? = some (.map es) ∧ H0.length ≤ b := by
  obtain ⟨hle, fp, hs, nd, hb⟩ := h
  cases hs with
  | cons hP hL => exact ⟨hP.1, (hb b (by simp [hP.2])).1⟩
theorem sp_mkm (f : β → AV) {K : (ρ : Type) → Nat → (A → AH → Option ρ) → Nat → AH → Option ρ} (hS : Sep H0 H L) (hK : ∀ m H', Sep H0 H' (ownMp f m [] :: L) → Ev (fun ρ k κ => K ρ k κ m H') Q) : Ev (fun ρ k κ => mkm H (K ρ k κ)) Q :=
  hK _ _ (hS.new (by simp) ⟨_, rfl⟩ ⟨by simp, rfl⟩)
theorem sp_mlook {f : β → AV} {b : Nat} {l : List (Int × β)} {k : Int} {K : (ρ : Type) → Nat → (A → AH → Option ρ) → Option AV → Option ρ} (hS : Sep H0 H (ownMp f b l :: L)) (hK : Ev (fun ρ n κ => K ρ n κ ((mget l k).map f)) Q) : Ev (fun ρ n κ => mlook false H (some b) (.int .i64 k) (K ρ n κ)) Q := by
  have h := hS.atM.1
  cases e : mget l k with
  | none =>
    simp only [mlook, entries, h, findM_none e, Option.map_none]
    simpa [e] using hK
  | some v =>
    obtain ⟨j, h1, _⟩ := findM_some (f := f) (i := 0) e
    simp only [mlook, entries, h, h1, Option.map_some]
    simpa [e] using hK
theorem sp_mlen {f : β → AV} {b : Nat} {l : List (Int × β)} {K : (ρ : Type) → Nat → (A → AH → Option ρ) → Int → Option ρ} (hS : Sep H0 H (ownMp f b l :: L)) (hK : Ev (fun ρ n κ => K ρ n κ (l.length : Int)) Q) : Ev (fun ρ n κ => mlen H (some b) (K ρ n κ)) Q := by
  have h := hS.atM.1
  simp only [mlen, entries, h, List.length_map]
  exact hK
theorem sp_mput {f : β → AV} {b : Nat} {l : List (Int × β)} {k : Int} {w : β} {K : (ρ : Type) → Nat → (A → AH → Option ρ) → AH → Option ρ} (hS : Sep H0 H (ownMp f b l :: L)) (hlo : lo ≤ H0.length) (hK : ∀ H', Sep H0 H' (ownMp f b (mset l k w) :: L) → Ev (fun ρ n κ => K ρ n κ H') Q) : Ev (fun ρ n κ => mput false lo H (some b) (.int .i64 k) (f w) (K ρ n κ)) Q := by
  obtain ⟨h, hb⟩ := hS.atM
  have hlo' : lo ≤ b := by omega
  have hbH : b < H.length := (List.getElem?_eq_some_iff.1 h).1
  have key : ∀ es, es = (mset l k w).map (fun e => (AV.int .i64 e.1, f e.2)) → Sep H0 (H.set b (.map es)) (ownMp f b (mset l k w) :: L) := fun es he => by
    subst he
    exact hS.upd fun g hg nf hlt => ⟨[b], ⟨by simp [List.getElem?_set, hbH], rfl⟩, by simp, fun c hc => .inl (by rw [hg.2]; exact hc), by simp, fun c _ hc => List.getElem?_set_ne (fun e => hc (by rw [hg.2, e]; simp))⟩
  cases e : mget l k with
  | none =>
    simp only [mput, h, hlo', decide_true, cond_true, findM_none e]
    exact hK _ (key _ (by rw [mset_new e]; simp))
  | some v =>
    obtain ⟨j, h1, h2⟩ := findM_some (f := f) (i := 0) e
    simp only [mput, h, hlo', decide_true, cond_true, h1, Nat.zero_add]
    exact hK _ (key _ (h2 w))
theorem ev_asI {n : Int} {K : (ρ : Type) → Nat → (A → AH → Option ρ) → Int → Option ρ} (hK : Ev (fun ρ k κ => K ρ k κ n) Q) : Ev (fun ρ k κ => asI .i64 (.int .i64 n) (K ρ k κ)) Q := by simpa [asI] using hK
theorem ev_asP {p : Pt} {K : (ρ : Type) → Nat → (A → AH → Option ρ) → Pt → Option ρ} (hK : Ev (fun ρ k κ => K ρ k κ p) Q) : Ev (fun ρ k κ => asP (.ptr (some p)) (K ρ k κ)) Q := hK
theorem ev_asB {n : Bool} {K : (ρ : Type) → Nat → (A → AH → Option ρ) → Bool → Option ρ} (hK : Ev (fun ρ k κ => K ρ k κ n) Q) : Ev (fun ρ k κ => asB (.bool n) (K ρ k κ)) Q := hK
/-! 'or' and 'and' of values. -/
theorem ev_orV {g c : Bool} {M : Nat → CPS Bool} {K : (ρ : Type) → Nat → (A → AH → Option ρ) → Bool → AH → Option ρ} (h : g = false → Ev (fun ρ k κ => M k ρ κ) (Is c H)) (hK : Ev (fun ρ k κ => K ρ k κ (g || c) H) Q) : Ev (fun ρ k κ => orB g (M k) H (K ρ k κ)) Q :=
  ev_orI (c := g || c) (fun hg => by rw [hg]; exact h hg) (fun hg => by rw [hg]; rfl) hK
theorem ev_andV {g c : Bool} {M : Nat → CPS Bool} {K : (ρ : Type) → Nat → (A → AH → Option ρ) → Bool → AH → Option ρ} (h : g = true → Ev (fun ρ k κ => M k ρ κ) (Is c H)) (hK : Ev (fun ρ k κ => K ρ k κ (g && c) H) Q) : Ev (fun ρ k κ => andB g (M k) H (K ρ k κ)) Q :=
  ev_andI (c := g && c) (fun hg => by rw [hg]; exact h hg) (fun hg => by rw [hg]; rfl) hK
theorem ev_orVL {g c : Bool} {M : Nat → CPS Bool} {K : (ρ : Type) → Nat → (A → AH → Option ρ) → Bool → AH → Option ρ} (h : g = false → Ev (fun ρ k κ => M k ρ κ) (fun b H' => b = c ∧ Le H H')) (hK : ∀ H', Le H H' → Ev (fun ρ k κ => K ρ k κ (g || c) H') Q) : Ev (fun ρ k κ => orB g (M k) H (K ρ k κ)) Q :=
  ev_orL (c := g || c) (fun hg => by rw [hg]; exact h hg) (fun hg => by rw [hg]; rfl) hK
theorem ev_andVL {g c : Bool} {M : Nat → CPS Bool} {K : (ρ : Type) → Nat → (A → AH → Option ρ) → Bool → AH → Option ρ} (h : g = true → Ev (fun ρ k κ => M k ρ κ) (fun b H' => b = c ∧ Le H H')) (hK : ∀ H', Le H H' → Ev (fun ρ k κ => K ρ k κ (g && c) H') Q) : Ev (fun ρ k κ => andB g (M k) H (K ρ k κ)) Q :=
  ev_andL (c := g && c) (fun hg => by rw [hg]; exact h hg) (fun hg => by rw [hg]; rfl) hK
/-- .. where nothing is said, and the answer is known. -/
theorem ev_orF' {g : Bool} {M : Nat → CPS Bool} {K : (ρ : Type) → Nat → (A → AH → Option ρ) → Bool → AH → Option ρ} (hg : g = false) (h : Ev (fun ρ k κ => M k ρ κ) (Is false H)) (hK : Ev (fun ρ k κ => K ρ k κ false H) Q) : Ev (fun ρ k κ => orB g (M k) H (K ρ k κ)) Q :=
  ev_orI (c := false) (fun _ => h) (fun e => by rw [hg] at e; cases e) hK
theorem ev_andT' {g : Bool} {M : Nat → CPS Bool} {K : (ρ : Type) → Nat → (A → AH → Option ρ) → Bool → AH → Option ρ} (hg : g = true) (h : Ev (fun ρ k κ => M k ρ κ) (Is true H)) (hK : Ev (fun ρ k κ => K ρ k κ true H) Q) : Ev (fun ρ k κ => andB g (M k) H (K ρ k κ)) Q :=
  ev_andI (c := true) (fun _ => h) (fun e => by rw [hg] at e; cases e) hK
/-- 'all that, and awake': the last question of a law. -/
theorem ev_aw {b : Bool} {F : Nat → AH → CPS Bool} {H : AH} (hb : b = true) (h : ∀ H : AH, Ev (fun ρ k κ => F k H ρ κ) (fun v _ => v = true)) : Ev (fun ρ k κ => andB b (F k H) H fun b' H' => κ b' H') (fun v _ => v = true) :=
  ev_and (S := fun b _ => b = true) (fun _ => h H) (fun e => by rw [hb] at e; cases e) fun b H' hb => ev_ret hb
end
end Go.Ab
