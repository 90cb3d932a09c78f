/- What an abstract value, an abstract heap stand for; laws of memory. -/
import Derived.Test.YtmdndoghdbhipaaAbA1
import Derived.Below
import Derived.Calls
import Derived.Orders
namespace Go.Ab
open Go Go.RowKit

/-- Where a block lies: the real block, the offset of its first cell there, how many cells from there on are the call's own, the size of an element. -/
structure Ent where
  B : Nat
  o : Nat
  cap : Nat
  sz : Nat

abbrev MU := List (Option Ent)

mutual
inductive VR (fids : List Nat) (μ : MU) : AV → Value → Prop where
  | unk (v : Value) : VR fids μ .unk v
  | int (k : IntKind) (n : Int) : VR fids μ (.int k n) (.int k n)
  | bool (b : Bool) : VR fids μ (.bool b) (.bool b)
  | str (s : ByteArray) : VR fids μ (.str s) (.string s)
  | nilsl (x : Option Addr) : VR fids μ (.sl ⟨none, 0⟩) (.slice x 0 0)
  | sl (b o len cap : Nat) (e : Ent) (he : μ[b]? = some (some e)) (hc : o + cap * e.sz ≤ e.cap) (hl : len ≤ cap) (hz : 0 < e.sz) :
      VR fids μ (.sl ⟨some ⟨b, o⟩, len⟩) (.slice (some ⟨e.B, e.o + o, none⟩) len cap)
  | sle (b o : Nat) (x : Option Addr) (e : Ent) (he : μ[b]? = some (some e)) : VR fids μ (.sl ⟨some ⟨b, o⟩, 0⟩) (.slice x 0 0)
  | nilptr : VR fids μ (.ptr none) (.pointer none)
  | ptr (b o : Nat) (e : Ent) (he : μ[b]? = some (some e)) : VR fids μ (.ptr (some ⟨b, o⟩)) (.pointer (some ⟨e.B, e.o + o, none⟩))
  | nilmap : VR fids μ (.map none) (.map none)
  | map (b : Nat) (e : Ent) (he : μ[b]? = some (some e)) : VR fids μ (.map (some b)) (.map (some e.B))
  | clo (g f : Nat) (caps : List AV) (cs : List Value) (hf : fids[g]? = some f) (hc : VRs fids μ caps cs) : VR fids μ (.clo g caps) (.func (.func f) #[] cs.toArray)
  | nilf : VR fids μ .nilf .nilFunc
  | nili : VR fids μ .nili .nilIface
  | ifc (t : Nat) (v : AV) (c : Value) (h : VR fids μ v c) : VR fids μ (.ifc t v) (.iface t c)
  | agg (l : List AV) (cs : List Value) (h : VRs fids μ l cs) : VR fids μ (.agg l) (.agg cs.toArray)
  | tup (l : List AV) (cs : List Value) (h : VRs fids μ l cs) : VR fids μ (.tup l) (.tuple cs.toArray)
inductive VRs (fids : List Nat) (μ : MU) : List AV → List Value → Prop where
  | nil : VRs fids μ [] []
  | cons (v : AV) (c : Value) (l : List AV) (cs : List Value) (h : VR fids μ v c) (hs : VRs fids μ l cs) : VRs fids μ (v :: l) (c :: cs)
end

/-- All that is backed stays where it is. -/
def Ref (μ μ' : MU) : Prop := ∀ (i : Nat) (e : Ent), μ[i]? = some (some e) → μ'[i]? = some (some e)
theorem Ref.refl (μ : MU) : Ref μ μ := fun _ _ h => h
theorem Ref.trans {a b c : MU} (h : Ref a b) (k : Ref b c) : Ref a c := fun i e x => k i e (h i e x)
theorem Ref.app (μ ν : MU) : Ref μ (μ ++ ν) := fun i e h => by
  have : i < μ.length := (List.getElem?_eq_some_iff.1 h).1
  rw [List.getElem?_append_left this]; exact h

section
variable {fids : List Nat} {μ μ' : MU}
mutual
theorem VR.mono (hr : Ref μ μ') : ∀ {v : AV} {c : Value}, VR fids μ v c → VR fids μ' v c
  | _, _, .unk v => .unk v
  | _, _, .int k n => .int k n
  | _, _, .bool b => .bool b
  | _, _, .str s => .str s
  | _, _, .nilsl x => .nilsl x
  | _, _, .sl b o len cap e he hc hl hz => .sl b o len cap e (hr _ _ he) hc hl hz
  | _, _, .sle b o x e he => .sle b o x e (hr _ _ he)
  | _, _, .nilptr => .nilptr
  | _, _, .ptr b o e he => .ptr b o e (hr _ _ he)
  | _, _, .nilmap => .nilmap
  | _, _, .map b e he => .map b e (hr _ _ he)
  | _, _, .clo g f caps cs hf hc => .clo g f caps cs hf (VRs.mono hr hc)
  | _, _, .nilf => .nilf
  | _, _, .nili => .nili
  | _, _, .ifc t v c h => .ifc t v c (VR.mono hr h)
  | _, _, .agg l cs h => .agg l cs (VRs.mono hr h)
  | _, _, .tup l cs h => .tup l cs (VRs.mono hr h)
theorem VRs.mono (hr : Ref μ μ') : ∀ {l : List AV} {cs : List Value}, VRs fids μ l cs → VRs fids μ' l cs
  | _, _, .nil => .nil
  | _, _, .cons v c l cs h hs => .cons v c l cs (VR.mono hr h) (VRs.mono hr hs)
end

theorem VRs.length {l : List AV} {cs : List Value} (h : VRs fids μ l cs) : l.length = cs.length := by
  induction l generalizing cs with
  | nil => cases h; rfl
  | cons v l ih => cases h with | cons _ _ _ _ h hs => simp [ih hs]
theorem VRs.get {l : List AV} {cs : List Value} (h : VRs fids μ l cs) {j : Nat} {v : AV} (hj : l[j]? = some v) : ∃ c, cs[j]? = some c ∧ VR fids μ v c := by
  induction l generalizing cs j with
  | nil => simp at hj
  | cons x l ih =>
    cases h with
    | cons _ c _ cs h hs =>
      cases j with
      | zero => simp at hj; subst hj; exact ⟨c, by simp, h⟩
      | succ j => simpa using ih hs (by simpa using hj)
theorem VRs.of_get : ∀ {l : List AV} {cs : List Value}, l.length = cs.length → (∀ (j : Nat) (v : AV) (c : Value), l[j]? = some v → cs[j]? = some c → VR fids μ v c) → VRs fids μ l cs
  | [], [], _, _ => .nil
  | v :: l, c :: cs, hl, h => .cons v c l cs (h 0 v c (by simp) (by simp)) (VRs.of_get (by simpa using hl) fun j x y hx hy => h (j + 1) x y (by simpa using hx) (by simpa using hy))
  | [], _ :: _, hl, _ => by simp at hl
  | _ :: _, [], hl, _ => by simp at hl
theorem VRs.append {l l' : List AV} {cs cs' : List Value} (h : VRs fids μ l cs) (h' : VRs fids μ l' cs') : VRs fids μ (l ++ l') (cs ++ cs') := by
  induction l generalizing cs with
  | nil => cases h; exact h'
  | cons v l ih => cases h with | cons _ _ _ _ h hs => exact .cons _ _ _ _ h (ih hs)
theorem VRs.drop {l : List AV} {cs : List Value} (h : VRs fids μ l cs) (n : Nat) : VRs fids μ (l.drop n) (cs.drop n) := by
  induction n generalizing l cs with
  | zero => simpa using h
  | succ n ih => cases h with
    | nil => simpa using VRs.nil
    | cons _ _ _ _ h hs => simpa using ih hs
theorem VRs.take {l : List AV} {cs : List Value} (h : VRs fids μ l cs) (n : Nat) : VRs fids μ (l.take n) (cs.take n) := by
  induction n generalizing l cs with
  | zero => simpa using VRs.nil
  | succ n ih => cases h with
    | nil => simpa using VRs.nil
    | cons _ _ _ _ h hs => simpa using VRs.cons _ _ _ _ h (ih hs)

/-- A value of one cell is one cell. -/
theorem VR.single {v : AV} {c : Value} (h : VR fids μ v c) (hs : single v = true) : c.oneCell' = true := by
  cases h <;> simp [Ab.single] at hs <;> rfl
theorem cells_of_oneCell {c : Value} (h : c.oneCell' = true) : c.cells = #[c] := by
  cases c <;> simp [Value.oneCell'] at h <;> rfl
theorem VR.cells {v : AV} {c : Value} (h : VR fids μ v c) (hs : known v = true) : VRs fids μ (cellsV v) c.cells.toList := by
  cases h <;> simp [known] at hs <;> first
    | (rename_i h; simpa [cellsV, Value.cells] using h)
    | (refine VRs.cons _ _ _ _ ?_ .nil; constructor <;> assumption)
end

/-! ### Blocks -/

structure Ctx where
  P : Program
  fids : List Nat
  lo0 : Nat
  base : Nat

/-- The entries of a map. -/
def MR (fids : List Nat) (μ : MU) : List (AV × AV) → List MapEntry → Prop
  | [], [] => True
  | p :: es, m :: ms => VR fids μ p.1 m.key ∧ VR fids μ p.2 m.val ∧ MR fids μ es ms
  | _, _ => False

def BR (fids : List Nat) (μ : MU) (own : Prop) (b : Blk) (e : Ent) (w : World) : Prop :=
  match b with
  | .cells vs sz => e.sz = sz ∧ (∀ (j : Nat) (v : AV), vs[j]? = some v → ∃ c, w.cell? ⟨e.B, e.o + j, none⟩ = some c ∧ VR fids μ v c) ∧
      (own → vs.length ≤ e.cap ∧ ∀ j, j < e.cap → (w.cell? ⟨e.B, e.o + j, none⟩).isSome = true ∧ w.frozen? ⟨e.B, e.o + j, none⟩ = false)
  | .map es => ∃ ms clock, w.heap[e.B]? = some (.map ms clock) ∧ MR fids μ es ms.toList ∧ own ∧ clock = ms.size ∧ (∀ (i : Nat) (m : MapEntry), ms.toList[i]? = some m → m.born = i)
  | .dead => True

structure HR (C : Ctx) (μ : MU) (H : AH) (w : World) : Prop where
  len : μ.length = H.length
  blk : ∀ (i : Nat) (b : Blk) (e : Ent), H[i]? = some b → μ[i]? = some (some e) → BR C.fids μ (C.lo0 ≤ i) b e w
  sep : ∀ (i j : Nat) (bi bj : Blk) (ei ej : Ent), i ≠ j → H[i]? = some bi → H[j]? = some bj → μ[i]? = some (some ei) → μ[j]? = some (some ej) →
    bi ≠ .dead → bj ≠ .dead → C.lo0 ≤ i → ei.B ≠ ej.B
  own : ∀ (i : Nat) (e : Ent), μ[i]? = some (some e) → e.B < w.heap.size ∧ (C.lo0 ≤ i → C.base ≤ e.B)
  base : C.base ≤ w.heap.size
  low : C.lo0 ≤ H.length

def Keep (μ : MU) (H H' : AH) : Prop := ∀ i : Nat, μ[i]? = some none → H'[i]? = H[i]?
def Ext (μ μ' : MU) : Prop := ∃ ν : MU, μ' = μ ++ ν
theorem Ext.refl (μ : MU) : Ext μ μ := ⟨[], by simp⟩
theorem Ext.trans {a b c : MU} (h : Ext a b) (k : Ext b c) : Ext a c := by obtain ⟨x, rfl⟩ := h; obtain ⟨y, rfl⟩ := k; exact ⟨x ++ y, by simp⟩
theorem Ext.ref {a b : MU} (h : Ext a b) : Ref a b := by obtain ⟨x, rfl⟩ := h; exact Ref.app _ _
theorem Ext.none {a b : MU} (h : Ext a b) {i : Nat} (hi : a[i]? = some none) : b[i]? = some none := by
  obtain ⟨x, rfl⟩ := h
  rw [List.getElem?_append_left (List.getElem?_eq_some_iff.1 hi).1]; exact hi
theorem Keep.refl (μ : MU) (H : AH) : Keep μ H H := fun _ _ => rfl
theorem Keep.trans {μ μ' : MU} {a b c : AH} (h : Keep μ a b) (k : Keep μ' b c) (he : Ext μ μ') : Keep μ a c := fun i hi => (k i (he.none hi)).trans (h i hi)

/-- What a step leaves. -/
structure Good (C : Ctx) (μ : MU) (H : AH) (w : World) (v : AV) (H' : AH) (c : Value) (w' : World) (μ' : MU) : Prop where
  ext : Ext μ μ'
  val : VR C.fids μ' v c
  hr : HR C μ' H' w'
  below : Below C.base w w'
  keep : Keep μ H H'

theorem Good.same {C : Ctx} {μ : MU} {H : AH} {w : World} {v : AV} {c : Value} (hH : HR C μ H w) (hv : VR C.fids μ v c) : Good C μ H w v H c w μ :=
  ⟨.refl _, hv, hH, Below.refl _ _, .refl _ _⟩

theorem MR.mono {fids : List Nat} {μ μ' : MU} (hr : Ref μ μ') : ∀ {es : List (AV × AV)} {ms : List MapEntry}, MR fids μ es ms → MR fids μ' es ms
  | [], [], _ => trivial
  | _ :: _, _ :: _, ⟨a, b, c⟩ => ⟨a.mono hr, b.mono hr, MR.mono hr c⟩
  | [], _ :: _, h => h.elim
  | _ :: _, [], h => h.elim

/-- A block's facts depend on its own real block alone. -/
theorem BR.of {fids : List Nat} {μ μ' : MU} {own : Prop} {b : Blk} {e : Ent} {w w' : World} (h : BR fids μ own b e w) (hr : Ref μ μ')
    (hb : w'.heap[e.B]? = w.heap[e.B]?) : BR fids μ' own b e w' := by
  have hc : ∀ o, w'.cell? ⟨e.B, o, none⟩ = w.cell? ⟨e.B, o, none⟩ := fun o => by unfold World.cell?; simp only [hb]
  have hf : ∀ o, w'.frozen? ⟨e.B, o, none⟩ = w.frozen? ⟨e.B, o, none⟩ := fun o => by unfold World.frozen?; simp only [hb]
  cases b with
  | cells vs sz =>
    obtain ⟨h1, h2, h3⟩ := h
    refine ⟨h1, fun j v hj => ?_, fun ho => ⟨(h3 ho).1, fun j hj => ?_⟩⟩
    · obtain ⟨c, hc', hv⟩ := h2 j v hj
      exact ⟨c, by rw [hc]; exact hc', hv.mono hr⟩
    · rw [hc, hf]; exact (h3 ho).2 j hj
  | map es =>
    obtain ⟨ms, ck, h1, h2, h3⟩ := h
    exact ⟨ms, ck, by rw [hb]; exact h1, h2.mono hr, h3⟩
  | dead => trivial

theorem BR.set_none {fids : List Nat} {μ : MU} {own : Prop} {b : Blk} {e : Ent} {w w' : World} (h : BR fids μ own b e w) (hb : w'.heap[e.B]? = w.heap[e.B]?) : BR fids μ own b e w' := h.of (Ref.refl _) hb

/-- A world with the same heap. -/
theorem HR.heap {C : Ctx} {μ : MU} {H : AH} {w w' : World} (h : HR C μ H w) (hw : w'.heap = w.heap) : HR C μ H w' :=
  ⟨h.len, fun i b e hb he => (h.blk i b e hb he).of (Ref.refl _) (by rw [hw]), h.sep, fun i e he => by rw [hw]; exact h.own i e he, by rw [hw]; exact h.base, h.low⟩

/-- A new real block that nothing knows of. -/
theorem HR.alloc {C : Ctx} {μ : MU} {H : AH} {w : World} (h : HR C μ H w) (o : Obj) : HR C μ H (w.alloc o) :=
  ⟨h.len, fun i b e hb he => (h.blk i b e hb he).of (Ref.refl _) (Below.heap_alloc _ _ _ (h.own i e he).1), h.sep,
    fun i e he => ⟨by have := (h.own i e he).1; simp; omega, (h.own i e he).2⟩, by have := h.base; simp; omega, h.low⟩

theorem getElem?_snoc {α : Type} (l : List α) (x : α) (i : Nat) : (l ++ [x])[i]? = if i = l.length then some x else l[i]? := by
  rcases Nat.lt_trichotomy i l.length with h | h | h
  · rw [List.getElem?_append_left h, if_neg (by omega)]
  · subst h; simp
  · rw [if_neg (by omega), List.getElem?_eq_none (by simp; omega), List.getElem?_eq_none (by omega)]

/-- A new block at the end, of whatever kind. -/
theorem HR.push {C : Ctx} {μ : MU} {H : AH} {w : World} (h : HR C μ H w) (b : Blk) (e : Ent) (o : Obj) (he : e.B = w.heap.size)
    (hb : BR C.fids (μ ++ [some e]) True b e (w.alloc o)) : HR C (μ ++ [some e]) (H ++ [b]) (w.alloc o) := by
  have hl := h.len
  have hlow := h.low
  refine ⟨by simp [hl], ?_, ?_, ?_, by have := h.base; simp; omega, by simp; omega⟩
  · intro i b' e' hb' he'
    rw [getElem?_snoc] at hb' he'
    by_cases hi : i = H.length
    · subst hi
      rw [if_pos rfl] at hb'; rw [if_pos hl.symm] at he'
      cases hb'; cases he'
      have : C.lo0 ≤ H.length := hlow
      cases b with
      | cells vs sz => obtain ⟨a, b, c⟩ := hb; exact ⟨a, b, fun _ => c trivial⟩
      | map es => obtain ⟨ms, ck, a, b, _, c⟩ := hb; exact ⟨ms, ck, a, b, this, c⟩
      | dead => trivial
    · rw [if_neg hi] at hb'; rw [if_neg (by omega)] at he'
      exact (h.blk i b' e' hb' he').of (Ref.app _ _) (Below.heap_alloc _ _ _ (h.own i e' he').1)
  · intro i j bi bj ei ej hij hbi hbj hei hej hdi hdj hlo
    rw [getElem?_snoc] at hbi hbj hei hej
    by_cases hi : i = H.length
    · subst hi
      rw [if_pos hl.symm] at hei; cases hei
      rw [if_neg (by omega)] at hej
      rw [he]; have := (h.own j ej hej).1; omega
    · rw [if_neg hi] at hbi; rw [if_neg (by omega)] at hei
      by_cases hj : j = H.length
      · subst hj
        rw [if_pos hl.symm] at hej; cases hej
        rw [he]; have := (h.own i ei hei).1; omega
      · rw [if_neg hj] at hbj; rw [if_neg (by omega)] at hej
        exact h.sep i j bi bj ei ej hij hbi hbj hei hej hdi hdj hlo
  · intro i e' he'
    rw [getElem?_snoc] at he'
    by_cases hi : i = μ.length
    · rw [if_pos hi] at he'; cases he'; have := h.base; simp; omega
    · rw [if_neg hi] at he'; have := h.own i e' he'; simp; omega

/-- A block that was not backed is backed by a new real block. -/
theorem HR.back {C : Ctx} {μ : MU} {H : AH} {w : World} (h : HR C μ H w) (i : Nat) (b : Blk) (e : Ent) (o : Obj) (hi : μ[i]? = some none) (hbi : H[i]? = some b) (hlo : C.lo0 ≤ i) (he : e.B = w.heap.size)
    (hb : BR C.fids (μ.set i (some e)) True b e (w.alloc o)) : HR C (μ.set i (some e)) H (w.alloc o) := by
  have hil : i < μ.length := (List.getElem?_eq_some_iff.1 hi).1
  have hr : Ref μ (μ.set i (some e)) := fun j x hj => by
    by_cases hij : i = j
    · subst hij; rw [hi] at hj; cases hj
    · rw [List.getElem?_set_ne hij]; exact hj
  have hget : ∀ j x, (μ.set i (some e))[j]? = some (some x) → (j = i ∧ x = e) ∨ (j ≠ i ∧ μ[j]? = some (some x)) := fun j x hj => by
    by_cases hij : i = j
    · subst hij; rw [List.getElem?_set_self hil] at hj; cases hj; exact .inl ⟨rfl, rfl⟩
    · rw [List.getElem?_set_ne hij] at hj; exact .inr ⟨Ne.symm hij, hj⟩
  refine ⟨by simpa using h.len, ?_, ?_, ?_, by have := h.base; simp; omega, h.low⟩
  · intro j b' e' hb' he'
    rcases hget j e' he' with ⟨rfl, rfl⟩ | ⟨hne, he'⟩
    · rw [hbi] at hb'; cases hb'
      cases b with
      | cells vs sz => obtain ⟨a, b, c⟩ := hb; exact ⟨a, b, fun _ => c trivial⟩
      | map es => obtain ⟨ms, ck, a, b, _, c⟩ := hb; exact ⟨ms, ck, a, b, hlo, c⟩
      | dead => trivial
    · exact (h.blk j b' e' hb' he').of hr (Below.heap_alloc _ _ _ (h.own j e' he').1)
  · intro j k bj bk ej ek hjk hbj hbk hej hek hdj hdk hlj
    rcases hget j ej hej with ⟨hj1, hj2⟩ | ⟨hnj, hej'⟩
    · rcases hget k ek hek with ⟨hk1, hk2⟩ | ⟨hnk, hek'⟩
      · exact absurd (hj1.trans hk1.symm) hjk
      · rw [hj2, he]; have := (h.own k ek hek').1; omega
    · rcases hget k ek hek with ⟨hk1, hk2⟩ | ⟨hnk, hek'⟩
      · rw [hk2, he]; have := (h.own j ej hej').1; omega
      · exact h.sep j k bj bk ej ek hjk hbj hbk hej' hek' hdj hdk hlj
  · intro j e' he'
    rcases hget j e' he' with ⟨rfl, rfl⟩ | ⟨hne, he'⟩
    · have := h.base; simp; omega
    · have := h.own j e' he'; simp; omega
end Go.Ab
