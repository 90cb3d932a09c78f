/- Green's relations: what lies in whose ideals, the classes as lists. Plain lemmas. No condition. -/
import Derived.Test.YtmdndoghdbhipaaAbM12
set_option linter.unusedVariables false
set_option linter.unusedSimpArgs false
set_option linter.unusedSectionVars false
namespace Go.Ab
open Go
/-- x is in the right ideal, the left ideal, the ideal of y. -/
def JR (t : List (List Int)) (y x : Int) : Prop := x = y ∨ ∃ s : Int, 0 ≤ s ∧ s < (t.length : Int) ∧ x = M t y s
def JL (t : List (List Int)) (y x : Int) : Prop := x = y ∨ ∃ s : Int, 0 ≤ s ∧ s < (t.length : Int) ∧ x = M t s y
def JJ (t : List (List Int)) (y x : Int) : Prop := ∃ z : Int, 0 ≤ z ∧ z < (t.length : Int) ∧ JL t y z ∧ JR t z x
def Mu (P : Int → Int → Prop) (x y : Int) : Prop := P x y ∧ P y x
/-- Reflexive and transitive on n points. -/
structure Pre (n : Nat) (P : Int → Int → Prop) : Prop where
  refl : ∀ x : Int, 0 ≤ x → x < n → P x x
  trans : ∀ x y z : Int, 0 ≤ x → x < n → 0 ≤ y → y < n → 0 ≤ z → z < n → P x y → P y z → P x z
structure Eqv (n : Nat) (E : Int → Int → Prop) : Prop where
  refl : ∀ x : Int, 0 ≤ x → x < n → E x x
  symm : ∀ x y : Int, 0 ≤ x → x < n → 0 ≤ y → y < n → E x y → E y x
  trans : ∀ x y z : Int, 0 ≤ x → x < n → 0 ≤ y → y < n → 0 ≤ z → z < n → E x y → E y z → E x z
theorem Pre.mu {n : Nat} {P : Int → Int → Prop} (h : Pre n P) : Eqv n (Mu P) :=
  ⟨fun x a b => ⟨h.refl x a b, h.refl x a b⟩, fun x y _ _ _ _ e => ⟨e.2, e.1⟩, fun x y z a b c d e f h1 h2 => ⟨h.trans x y z a b c d e f h1.1 h2.1, h.trans z y x e f c d a b h2.2 h1.2⟩⟩
theorem Eqv.and {n : Nat} {E F : Int → Int → Prop} (h : Eqv n E) (k : Eqv n F) : Eqv n (fun x y => E x y ∧ F x y) :=
  ⟨fun x a b => ⟨h.refl x a b, k.refl x a b⟩, fun x y a b c d e => ⟨h.symm x y a b c d e.1, k.symm x y a b c d e.2⟩, fun x y z a b c d e f h1 h2 => ⟨h.trans x y z a b c d e f h1.1 h2.1, k.trans x y z a b c d e f h1.2 h2.2⟩⟩
theorem eqv_rd (n : Nat) (p : List Int) : Eqv n (fun x y => rd p x = rd p y) := ⟨fun _ _ _ => rfl, fun _ _ _ _ _ _ e => e.symm, fun _ _ _ _ _ _ _ _ _ e f => e.trans f⟩
/-- Every equivalence has its classes. -/
theorem IsCl.exists {E : Int → Int → Prop} : ∀ {n : Nat}, Eqv n E → ∃ p, IsCl n E p
  | 0, _ => ⟨[], rfl, fun x y a b => by omega, fun i a b => by simp at b; omega⟩
  | n + 1, h => by
    obtain ⟨p, hp⟩ := IsCl.exists (n := n) (E := E) ⟨fun x a b => h.refl x a (by omega), fun x y a b c d => h.symm x y a (by omega) c (by omega), fun x y z a b c d e f => h.trans x y z a (by omega) c (by omega) e (by omega)⟩
    have hl := hp.len
    by_cases hy : ∃ y : Int, 0 ≤ y ∧ y < n ∧ E y n
    · obtain ⟨y, y0, y1, hy⟩ := hy
      have hs : ∀ j : Int, 0 ≤ j → j < ((n + 1 : Nat) : Int) → rd (p ++ [rd p y]) j = if j = n then rd p y else rd p j := fun j a b => by rw [rd_snoc a (by omega), hl]
      refine ⟨p ++ [rd p y], by simp [hl], fun a b a0 a1 b0 b1 => ?_, fun i i0 i1 => ?_⟩
      · rw [hs a a0 a1, hs b b0 b1]
        by_cases ha : a = n
        · by_cases hb : b = n
          · rw [ha, hb]; exact ⟨fun _ => h.refl _ (by omega) (by omega), fun _ => rfl⟩
          · rw [if_pos ha, if_neg hb, hp.eqv y b y0 y1 b0 (by omega), ha]
            exact ⟨fun e => h.trans n y b (by omega) (by omega) y0 (by omega) b0 b1 (h.symm y n y0 (by omega) (by omega) (by omega) hy) e, fun e => h.trans y n b y0 (by omega) (by omega) (by omega) b0 b1 hy e⟩
        · by_cases hb : b = n
          · rw [if_neg ha, if_pos hb, hp.eqv a y a0 (by omega) y0 y1, hb]
            exact ⟨fun e => h.trans a y n a0 a1 y0 (by omega) (by omega) (by omega) e hy, fun e => h.trans a n y a0 a1 (by omega) (by omega) y0 (by omega) e (h.symm y n y0 (by omega) (by omega) (by omega) hy)⟩
          · rw [if_neg ha, if_neg hb]; exact hp.eqv a b a0 (by omega) b0 (by omega)
      · simp only [List.length_append, List.length_singleton, hl] at i1
        rw [hs i i0 (by omega)]
        have key : ∀ j : Int, 0 ≤ j → j < n → j ≤ i → 0 ≤ rd p j ∧ ∀ c : Int, 0 ≤ c → c < rd p j → ∃ k : Int, 0 ≤ k ∧ k < i ∧ rd (p ++ [rd p y]) k = c := fun j j0 j1 j2 => by
          obtain ⟨c1, c2⟩ := hp.can j j0 (by omega)
          refine ⟨c1, fun c c0 c3 => ?_⟩
          obtain ⟨k, k0, k1, k2⟩ := c2 c c0 c3
          exact ⟨k, k0, by omega, by rw [hs k k0 (by omega), if_neg (by omega)]; exact k2⟩
        by_cases hi : i = n
        · rw [if_pos hi]; exact key y y0 y1 (by omega)
        · rw [if_neg hi]; exact key i i0 (by omega) (Int.le_refl _)
    · have hno : ∀ y : Int, 0 ≤ y → y < n → ¬ E y n := fun y a b c => hy ⟨y, a, b, c⟩
      have hno' : ∀ y : Int, 0 ≤ y → y < n → ¬ E n y := fun y a b c => hy ⟨y, a, b, h.symm n y (by omega) (by omega) a (by omega) c⟩
      have hs : ∀ j : Int, 0 ≤ j → j < ((n + 1 : Nat) : Int) → rd (p ++ [((frs p).length : Int)]) j = if j = n then ((frs p).length : Int) else rd p j := fun j a b => by rw [rd_snoc a (by omega), hl]
      refine ⟨p ++ [((frs p).length : Int)], by simp [hl], fun a b a0 a1 b0 b1 => ?_, fun i i0 i1 => ?_⟩
      · rw [hs a a0 a1, hs b b0 b1]
        by_cases ha : a = n
        · by_cases hb : b = n
          · rw [ha, hb]; exact ⟨fun _ => h.refl _ (by omega) (by omega), fun _ => rfl⟩
          · rw [if_pos ha, if_neg hb, ha]
            have := hp.can.frs_lt b0 (show b < (p.length : Int) by omega)
            exact ⟨fun e => by omega, fun e => absurd e (hno' b b0 (by omega))⟩
        · by_cases hb : b = n
          · rw [if_neg ha, if_pos hb, hb]
            have := hp.can.frs_lt a0 (show a < (p.length : Int) by omega)
            exact ⟨fun e => by omega, fun e => absurd e (hno a a0 (by omega))⟩
          · rw [if_neg ha, if_neg hb]; exact hp.eqv a b a0 (by omega) b0 (by omega)
      · simp only [List.length_append, List.length_singleton, hl] at i1
        rw [hs i i0 (by omega)]
        by_cases hi : i = n
        · rw [if_pos hi]
          refine ⟨by omega, fun c c0 c1 => ?_⟩
          obtain ⟨a1, a2, a3, a4⟩ := hp.can.frs c0 c1
          exact ⟨_, a1, by omega, by rw [hs _ a1 (by omega), if_neg (by omega)]; exact a3⟩
        · rw [if_neg hi]
          obtain ⟨c1, c2⟩ := hp.can i i0 (by omega)
          refine ⟨c1, fun c c0 c3 => ?_⟩
          obtain ⟨k, k0, k1, k2⟩ := c2 c c0 c3
          exact ⟨k, k0, k1, by rw [hs k k0 (by omega), if_neg (by omega)]; exact k2⟩
open Classical in
/-- The classes of E on n points. -/
noncomputable def clN (n : Nat) (E : Int → Int → Prop) : List Int := if h : ∃ p, IsCl n E p then Classical.choose h else []
theorem IsCl.eq_clN {n : Nat} {E : Int → Int → Prop} {p : List Int} (h : IsCl n E p) : p = clN n E := by
  unfold clN
  rw [dif_pos ⟨p, h⟩]
  exact h.unique (Classical.choose_spec (⟨p, h⟩ : ∃ p, IsCl n E p))
theorem clN_cl {n : Nat} {E : Int → Int → Prop} (h : Eqv n E) : IsCl n E (clN n E) := by
  obtain ⟨p, hp⟩ := IsCl.exists h
  rw [← hp.eq_clN]; exact hp
theorem clN_congr {n : Nat} {E F : Int → Int → Prop} (hE : Eqv n E) (h : ∀ x y : Int, 0 ≤ x → x < n → 0 ≤ y → y < n → (E x y ↔ F x y)) : clN n E = clN n F := ((clN_cl hE).congr h).eq_clN

section
variable {t : List (List Int)}
theorem JR_pre (hv : Va t) : Pre t.length (JR t) := by
  refine ⟨fun x _ _ => .inl rfl, fun x y z a b c d e f h1 h2 => ?_⟩
  rcases h1 with rfl | ⟨s, s0, s1, rfl⟩
  · exact h2
  · rcases h2 with rfl | ⟨r, r0, r1, rfl⟩
    · exact .inr ⟨s, s0, s1, rfl⟩
    · exact .inr ⟨M t s r, hv.lo s r s0 s1 r0 r1, hv.hi s r s0 s1 r0 r1, hv.asc x s r a b s0 s1 r0 r1⟩
theorem JL_pre (hv : Va t) : Pre t.length (JL t) := by
  refine ⟨fun x _ _ => .inl rfl, fun x y z a b c d e f h1 h2 => ?_⟩
  rcases h1 with rfl | ⟨s, s0, s1, rfl⟩
  · exact h2
  · rcases h2 with rfl | ⟨r, r0, r1, rfl⟩
    · exact .inr ⟨s, s0, s1, rfl⟩
    · exact .inr ⟨M t r s, hv.lo r s r0 r1 s0 s1, hv.hi r s r0 r1 s0 s1, (hv.asc r s x r0 r1 s0 s1 a b).symm⟩
theorem JR_in (hv : Va t) {x y : Int} (y0 : 0 ≤ y) (y1 : y < (t.length : Int)) (h : JR t y x) : 0 ≤ x ∧ x < (t.length : Int) := by
  rcases h with rfl | ⟨s, s0, s1, rfl⟩
  · exact ⟨y0, y1⟩
  · exact ⟨hv.lo _ _ y0 y1 s0 s1, hv.hi _ _ y0 y1 s0 s1⟩
theorem JL_in (hv : Va t) {x y : Int} (y0 : 0 ≤ y) (y1 : y < (t.length : Int)) (h : JL t y x) : 0 ≤ x ∧ x < (t.length : Int) := by
  rcases h with rfl | ⟨s, s0, s1, rfl⟩
  · exact ⟨y0, y1⟩
  · exact ⟨hv.lo _ _ s0 s1 y0 y1, hv.hi _ _ s0 s1 y0 y1⟩
/-- Left and right may be exchanged. -/
theorem JJ_swap (hv : Va t) {x y : Int} (y0 : 0 ≤ y) (y1 : y < (t.length : Int)) : JJ t y x ↔ ∃ z : Int, 0 ≤ z ∧ z < (t.length : Int) ∧ JR t y z ∧ JL t z x := by
  constructor
  · rintro ⟨z, z0, z1, h1, h2⟩
    rcases h1 with rfl | ⟨s, s0, s1, rfl⟩
    · have := JR_in hv y0 y1 h2
      exact ⟨x, this.1, this.2, h2, .inl rfl⟩
    · rcases h2 with rfl | ⟨r, r0, r1, rfl⟩
      · exact ⟨y, y0, y1, .inl rfl, .inr ⟨s, s0, s1, rfl⟩⟩
      · exact ⟨M t y r, hv.lo _ _ y0 y1 r0 r1, hv.hi _ _ y0 y1 r0 r1, .inr ⟨r, r0, r1, rfl⟩, .inr ⟨s, s0, s1, hv.asc s y r s0 s1 y0 y1 r0 r1⟩⟩
  · rintro ⟨z, z0, z1, h1, h2⟩
    rcases h1 with rfl | ⟨r, r0, r1, rfl⟩
    · have := JL_in hv y0 y1 h2
      exact ⟨x, this.1, this.2, h2, .inl rfl⟩
    · rcases h2 with rfl | ⟨s, s0, s1, rfl⟩
      · exact ⟨y, y0, y1, .inl rfl, .inr ⟨r, r0, r1, rfl⟩⟩
      · exact ⟨M t s y, hv.lo _ _ s0 s1 y0 y1, hv.hi _ _ s0 s1 y0 y1, .inr ⟨s, s0, s1, rfl⟩, .inr ⟨r, r0, r1, (hv.asc s y r s0 s1 y0 y1 r0 r1).symm⟩⟩
theorem JJ_pre (hv : Va t) : Pre t.length (JJ t) := by
  refine ⟨fun x a b => ⟨x, a, b, .inl rfl, .inl rfl⟩, fun x y z a b c d e f h1 h2 => ?_⟩
  obtain ⟨u, u0, u1, h3, h4⟩ := h1
  obtain ⟨w, w0, w1, h5, h6⟩ := h2
  -- y is right of u, w left of y: so there is v left of u with w right of v
  obtain ⟨v, v0, v1, h7, h8⟩ := (JJ_swap (x := w) hv u0 u1).2 ⟨y, c, d, h4, h5⟩
  exact ⟨v, v0, v1, (JL_pre hv).trans x u v a b u0 u1 v0 v1 h3 h7, (JR_pre hv).trans v w z v0 v1 w0 w1 e f h8 h6⟩
theorem JJ_in (hv : Va t) {x y : Int} (y0 : 0 ≤ y) (y1 : y < (t.length : Int)) (h : JJ t y x) : 0 ≤ x ∧ x < (t.length : Int) := by
  obtain ⟨z, z0, z1, h1, h2⟩ := h
  exact JR_in hv z0 z1 h2
theorem JR_JJ {x y : Int} (y0 : 0 ≤ y) (y1 : y < (t.length : Int)) (h : JR t y x) : JJ t y x := ⟨y, y0, y1, .inl rfl, h⟩
theorem JL_JJ (hv : Va t) {x y : Int} (y0 : 0 ≤ y) (y1 : y < (t.length : Int)) (h : JL t y x) : JJ t y x := by
  have := JL_in hv y0 y1 h
  exact ⟨x, this.1, this.2, h, .inl rfl⟩
end
/-- The classes of R, L, J and H; which J-class lies below which. -/
noncomputable def gR (t : List (List Int)) : List Int := clN t.length (Mu (JR t))
noncomputable def gL (t : List (List Int)) : List Int := clN t.length (Mu (JL t))
noncomputable def gJ (t : List (List Int)) : List Int := clN t.length (Mu (JJ t))
noncomputable def gH (t : List (List Int)) : List Int := clN t.length (fun x y => rd (gR t) x = rd (gR t) y ∧ rd (gL t) x = rd (gL t) y)
/-- How many J-classes; the least element of one. -/
noncomputable def nJ (t : List (List Int)) : Nat := (frs (gJ t)).length
noncomputable def fJ (t : List (List Int)) (c : Int) : Int := rd (frs (gJ t)) c
noncomputable def gB (t : List (List Int)) : List (List Bool) := btab (nJ t) (nJ t) fun a b => JJ t (fJ t b) (fJ t a)
section
variable {t : List (List Int)}
theorem gR_cl (hv : Va t) : IsCl t.length (Mu (JR t)) (gR t) := clN_cl (JR_pre hv).mu
theorem gL_cl (hv : Va t) : IsCl t.length (Mu (JL t)) (gL t) := clN_cl (JL_pre hv).mu
theorem gJ_cl (hv : Va t) : IsCl t.length (Mu (JJ t)) (gJ t) := clN_cl (JJ_pre hv).mu
theorem gH_cl (hv : Va t) : IsCl t.length (fun x y => rd (gR t) x = rd (gR t) y ∧ rd (gL t) x = rd (gL t) y) (gH t) := clN_cl ((eqv_rd _ _).and (eqv_rd _ _))
theorem fJ_in (hv : Va t) {c : Int} (c0 : 0 ≤ c) (c1 : c < (nJ t : Int)) : 0 ≤ fJ t c ∧ fJ t c < (t.length : Int) ∧ rd (gJ t) (fJ t c) = c := by
  obtain ⟨a, b, d, e⟩ := (gJ_cl hv).can.frs c0 c1
  rw [(gJ_cl hv).len] at b
  exact ⟨a, b, d⟩
theorem nJ_le (hv : Va t) : nJ t ≤ t.length := by
  have := frs_len (gJ t)
  rw [(gJ_cl hv).len] at this
  exact this
theorem nJ_pos (hv : Va t) : 0 < (nJ t : Int) := ((gJ_cl hv).can.count (by rw [(gJ_cl hv).len]; exact hv.pos)).1
theorem gJ_lt (hv : Va t) {x : Int} (x0 : 0 ≤ x) (x1 : x < (t.length : Int)) : 0 ≤ rd (gJ t) x ∧ rd (gJ t) x < (nJ t : Int) := by
  have h := gJ_cl hv
  have e := h.len
  exact ⟨(h.can.lt x0 (by omega)).1, h.can.frs_lt x0 (by omega)⟩
end
end Go.Ab
