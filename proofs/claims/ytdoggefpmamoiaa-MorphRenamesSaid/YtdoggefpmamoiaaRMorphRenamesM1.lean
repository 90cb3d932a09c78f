/- Plain lemmas, and the abstract evaluator with its soundness. No condition. -/
import Derived.Test.YtdoggefpmamoiaaAbA3
/- Green's relations: what lies in whose ideals, the classes as lists. Plain lemmas. No condition. -/
set_option linter.unusedVariables false
set_option linter.unusedSimpArgs false
set_option linter.unusedSectionVars false
namespace Go.Ab
open Go
/-- x is in the right ideal, the left ideal, the ideal of y. -/
def JR (t : List (List Int)) (y x : Int) : Prop := x = y ∨ ∃ s : Int, 0 ≤ s ∧ s < (t.length : Int) ∧ x = M t y s
def JL (t : List (List Int)) (y x : Int) : Prop := x = y ∨ ∃ s : Int, 0 ≤ s ∧ s < (t.length : Int) ∧ x = M t s y
def JJ (t : List (List Int)) (y x : Int) : Prop := ∃ z : Int, 0 ≤ z ∧ z < (t.length : Int) ∧ JL t y z ∧ JR t z x
def Mu (P : Int → Int → Prop) (x y : Int) : Prop := P x y ∧ P y x
/-- Reflexive and transitive on n points. -/
structure Pre (n : Nat) (P : Int → Int → Prop) : Prop where
  refl : ∀ x : Int, 0 ≤ x → x < n → P x x
  trans : ∀ x y z : Int, 0 ≤ x → x < n → 0 ≤ y → y < n → 0 ≤ z → z < n → P x y → P y z → P x z
structure Eqv (n : Nat) (E : Int → Int → Prop) : Prop where
  refl : ∀ x : Int, 0 ≤ x → x < n → E x x
  symm : ∀ x y : Int, 0 ≤ x → x < n → 0 ≤ y → y < n → E x y → E y x
  trans : ∀ x y z : Int, 0 ≤ x → x < n → 0 ≤ y → y < n → 0 ≤ z → z < n → E x y → E y z → E x z
theorem Pre.mu {n : Nat} {P : Int → Int → Prop} (h : Pre n P) : Eqv n (Mu P) :=
  ⟨fun x a b => ⟨h.refl x a b, h.refl x a b⟩, fun x y _ _ _ _ e => ⟨e.2, e.1⟩, fun x y z a b c d e f h1 h2 => ⟨h.trans x y z a b c d e f h1.1 h2.1, h.trans z y x e f c d a b h2.2 h1.2⟩⟩
theorem Eqv.and {n : Nat} {E F : Int → Int → Prop} (h : Eqv n E) (k : Eqv n F) : Eqv n (fun x y => E x y ∧ F x y) :=
  ⟨fun x a b => ⟨h.refl x a b, k.refl x a b⟩, fun x y a b c d e => ⟨h.symm x y a b c d e.1, k.symm x y a b c d e.2⟩, fun x y z a b c d e f h1 h2 => ⟨h.trans x y z a b c d e f h1.1 h2.1, k.trans x y z a b c d e f h1.2 h2.2⟩⟩
theorem eqv_rd (n : Nat) (p : List Int) : Eqv n (fun x y => rd p x = rd p y) := ⟨fun _ _ _ => rfl, fun _ _ _ _ _ _ e => e.symm, fun _ _ _ _ _ _ _ _ _ e f => e.trans f⟩
/-- Every equivalence has its classes. -/
theorem IsCl.exists {E : Int → Int → Prop} : ∀ {n : Nat}, Eqv n E → ∃ p, IsCl n E p
  | 0, _ => ⟨[], rfl, fun x y a b => by omega, fun i a b => by simp at b; omega⟩
  | n + 1, h => by
    obtain ⟨p, hp⟩ := IsCl.exists (n := n) (E := E) ⟨fun x a b => h.refl x a (by omega), fun x y a b c d => h.symm x y a (by omega) c (by omega), fun x y z a b c d e f => h.trans x y z a (by omega) c (by omega) e (by omega)⟩
    have hl := hp.len
    by_cases hy : ∃ y : Int, 0 ≤ y ∧ y < n ∧ E y n
    · obtain ⟨y, y0, y1, hy⟩ := hy
      have hs : ∀ j : Int, 0 ≤ j → j < ((n + 1 : Nat) : Int) → rd (p ++ [rd p y]) j = if j = n then rd p y else rd p j := fun j a b => by rw [rd_snoc a (by omega), hl]
      refine ⟨p ++ [rd p y], by simp [hl], fun a b a0 a1 b0 b1 => ?_, fun i i0 i1 => ?_⟩
      · rw [hs a a0 a1, hs b b0 b1]
        by_cases ha : a = n
        · by_cases hb : b = n
          · rw [ha, hb]; exact ⟨fun _ => h.refl _ (by omega) (by omega), fun _ => rfl⟩
          · rw [if_pos ha, if_neg hb, hp.eqv y b y0 y1 b0 (by omega), ha]
            exact ⟨fun e => h.trans n y b (by omega) (by omega) y0 (by omega) b0 b1 (h.symm y n y0 (by omega) (by omega) (by omega) hy) e, fun e => h.trans y n b y0 (by omega) (by omega) (by omega) b0 b1 hy e⟩
        · by_cases hb : b = n
          · rw [if_neg ha, if_pos hb, hp.eqv a y a0 (by omega) y0 y1, hb]
            exact ⟨fun e => h.trans a y n a0 a1 y0 (by omega) (by omega) (by omega) e hy, fun e => h.trans a n y a0 a1 (by omega) (by omega) y0 (by omega) e (h.symm y n y0 (by omega) (by omega) (by omega) hy)⟩
          · rw [if_neg ha, if_neg hb]; exact hp.eqv a b a0 (by omega) b0 (by omega)
      · simp only [List.length_append, List.length_singleton, hl] at i1
        rw [hs i i0 (by omega)]
        have key : ∀ j : Int, 0 ≤ j → j < n → j ≤ i → 0 ≤ rd p j ∧ ∀ c : Int, 0 ≤ c → c < rd p j → ∃ k : Int, 0 ≤ k ∧ k < i ∧ rd (p ++ [rd p y]) k = c := fun j j0 j1 j2 => by
          obtain ⟨c1, c2⟩ := hp.can j j0 (by omega)
          refine ⟨c1, fun c c0 c3 => ?_⟩
          obtain ⟨k, k0, k1, k2⟩ := c2 c c0 c3
          exact ⟨k, k0, by omega, by rw [hs k k0 (by omega), if_neg (by omega)]; exact k2⟩
        by_cases hi : i = n
        · rw [if_pos hi]; exact key y y0 y1 (by omega)
        · rw [if_neg hi]; exact key i i0 (by omega) (Int.le_refl _)
    · have hno : ∀ y : Int, 0 ≤ y → y < n → ¬ E y n := fun y a b c => hy ⟨y, a, b, c⟩
      have hno' : ∀ y : Int, 0 ≤ y → y < n → ¬ E n y := fun y a b c => hy ⟨y, a, b, h.symm n y (by omega) (by omega) a (by omega) c⟩
      have hs : ∀ j : Int, 0 ≤ j → j < ((n + 1 : Nat) : Int) → rd (p ++ [((frs p).length : Int)]) j = if j = n then ((frs p).length : Int) else rd p j := fun j a b => by rw [rd_snoc a (by omega), hl]
      refine ⟨p ++ [((frs p).length : Int)], by simp [hl], fun a b a0 a1 b0 b1 => ?_, fun i i0 i1 => ?_⟩
      · rw [hs a a0 a1, hs b b0 b1]
        by_cases ha : a = n
        · by_cases hb : b = n
          · rw [ha, hb]; exact ⟨fun _ => h.refl _ (by omega) (by omega), fun _ => rfl⟩
          · rw [if_pos ha, if_neg hb, ha]
            have := hp.can.frs_lt b0 (show b < (p.length : Int) by omega)
            exact ⟨fun e => by omega, fun e => absurd e (hno' b b0 (by omega))⟩
        · by_cases hb : b = n
          · rw [if_neg ha, if_pos hb, hb]
            have := hp.can.frs_lt a0 (show a < (p.length : Int) by omega)
            exact ⟨fun e => by omega, fun e => absurd e (hno a a0 (by omega))⟩
          · rw [if_neg ha, if_neg hb]; exact hp.eqv a b a0 (by omega) b0 (by omega)
      · simp only [List.length_append, List.length_singleton, hl] at i1
        rw [hs i i0 (by omega)]
        by_cases hi : i = n
        · rw [if_pos hi]
          refine ⟨by omega, fun c c0 c1 => ?_⟩
          obtain ⟨a1, a2, a3, a4⟩ := hp.can.frs c0 c1
          exact ⟨_, a1, by omega, by rw [hs _ a1 (by omega), if_neg (by omega)]; exact a3⟩
        · rw [if_neg hi]
          obtain ⟨c1, c2⟩ := hp.can i i0 (by omega)
          refine ⟨c1, fun c c0 c3 => ?_⟩
          obtain ⟨k, k0, k1, k2⟩ := c2 c c0 c3
          exact ⟨k, k0, k1, by rw [hs k k0 (by omega), if_neg (by omega)]; exact k2⟩
open Classical in
/-- The classes of E on n points. -/
noncomputable def clN (n : Nat) (E : Int → Int → Prop) : List Int := if h : ∃ p, IsCl n E p then Classical.choose h else []
theorem IsCl.eq_clN {n : Nat} {E : Int → Int → Prop} {p : List Int} (h : IsCl n E p) : p = clN n E := by
  unfold clN
  rw [dif_pos ⟨p, h⟩]
  exact h.unique (Classical.choose_spec (⟨p, h⟩ : ∃ p, IsCl n E p))
theorem clN_cl {n : Nat} {E : Int → Int → Prop} (h : Eqv n E) : IsCl n E (clN n E) := by
  obtain ⟨p, hp⟩ := IsCl.exists h
  rw [← hp.eq_clN]; exact hp
theorem clN_congr {n : Nat} {E F : Int → Int → Prop} (hE : Eqv n E) (h : ∀ x y : Int, 0 ≤ x → x < n → 0 ≤ y → y < n → (E x y ↔ F x y)) : clN n E = clN n F := ((clN_cl hE).congr h).eq_clN

section
variable {t : List (List Int)}
theorem JR_pre (hv : Va t) : Pre t.length (JR t) := by
  refine ⟨fun x _ _ => .inl rfl, fun x y z a b c d e f h1 h2 => ?_⟩
  rcases h1 with rfl | ⟨s, s0, s1, rfl⟩
  · exact h2
  · rcases h2 with rfl | ⟨r, r0, r1, rfl⟩
    · exact .inr ⟨s, s0, s1, rfl⟩
    · exact .inr ⟨M t s r, hv.lo s r s0 s1 r0 r1, hv.hi s r s0 s1 r0 r1, hv.asc x s r a b s0 s1 r0 r1⟩
theorem JL_pre (hv : Va t) : Pre t.length (JL t) := by
  refine ⟨fun x _ _ => .inl rfl, fun x y z a b c d e f h1 h2 => ?_⟩
  rcases h1 with rfl | ⟨s, s0, s1, rfl⟩
  · exact h2
  · rcases h2 with rfl | ⟨r, r0, r1, rfl⟩
    · exact .inr ⟨s, s0, s1, rfl⟩
    · exact .inr ⟨M t r s, hv.lo r s r0 r1 s0 s1, hv.hi r s r0 r1 s0 s1, (hv.asc r s x r0 r1 s0 s1 a b).symm⟩
theorem JR_in (hv : Va t) {x y : Int} (y0 : 0 ≤ y) (y1 : y < (t.length : Int)) (h : JR t y x) : 0 ≤ x ∧ x < (t.length : Int) := by
  rcases h with rfl | ⟨s, s0, s1, rfl⟩
  · exact ⟨y0, y1⟩
  · exact ⟨hv.lo _ _ y0 y1 s0 s1, hv.hi _ _ y0 y1 s0 s1⟩
theorem JL_in (hv : Va t) {x y : Int} (y0 : 0 ≤ y) (y1 : y < (t.length : Int)) (h : JL t y x) : 0 ≤ x ∧ x < (t.length : Int) := by
  rcases h with rfl | ⟨s, s0, s1, rfl⟩
  · exact ⟨y0, y1⟩
  · exact ⟨hv.lo _ _ s0 s1 y0 y1, hv.hi _ _ s0 s1 y0 y1⟩
/-- Left and right may be exchanged. -/
theorem JJ_swap (hv : Va t) {x y : Int} (y0 : 0 ≤ y) (y1 : y < (t.length : Int)) : JJ t y x ↔ ∃ z : Int, 0 ≤ z ∧ z < (t.length : Int) ∧ JR t y z ∧ JL t z x := by
  constructor
  · rintro ⟨z, z0, z1, h1, h2⟩
    rcases h1 with rfl | ⟨s, s0, s1, rfl⟩
    · have := JR_in hv y0 y1 h2
      exact ⟨x, this.1, this.2, h2, .inl rfl⟩
    · rcases h2 with rfl | ⟨r, r0, r1, rfl⟩
      · exact ⟨y, y0, y1, .inl rfl, .inr ⟨s, s0, s1, rfl⟩⟩
      · exact ⟨M t y r, hv.lo _ _ y0 y1 r0 r1, hv.hi _ _ y0 y1 r0 r1, .inr ⟨r, r0, r1, rfl⟩, .inr ⟨s, s0, s1, hv.asc s y r s0 s1 y0 y1 r0 r1⟩⟩
  · rintro ⟨z, z0, z1, h1, h2⟩
    rcases h1 with rfl | ⟨r, r0, r1, rfl⟩
    · have := JL_in hv y0 y1 h2
      exact ⟨x, this.1, this.2, h2, .inl rfl⟩
    · rcases h2 with rfl | ⟨s, s0, s1, rfl⟩
      · exact ⟨y, y0, y1, .inl rfl, .inr ⟨r, r0, r1, rfl⟩⟩
      · exact ⟨M t s y, hv.lo _ _ s0 s1 y0 y1, hv.hi _ _ s0 s1 y0 y1, .inr ⟨s, s0, s1, rfl⟩, .inr ⟨r, r0, r1, (hv.asc s y r s0 s1 y0 y1 r0 r1).symm⟩⟩
theorem JJ_pre (hv : Va t) : Pre t.length (JJ t) := by
  refine ⟨fun x a b => ⟨x, a, b, .inl rfl, .inl rfl⟩, fun x y z a b c d e f h1 h2 => ?_⟩
  obtain ⟨u, u0, u1, h3, h4⟩ := h1
  obtain ⟨w, w0, w1, h5, h6⟩ := h2
  -- y is right of u, w left of y: so there is v left of u with w right of v
  obtain ⟨v, v0, v1, h7, h8⟩ := (JJ_swap (x := w) hv u0 u1).2 ⟨y, c, d, h4, h5⟩
  exact ⟨v, v0, v1, (JL_pre hv).trans x u v a b u0 u1 v0 v1 h3 h7, (JR_pre hv).trans v w z v0 v1 w0 w1 e f h8 h6⟩
theorem JJ_in (hv : Va t) {x y : Int} (y0 : 0 ≤ y) (y1 : y < (t.length : Int)) (h : JJ t y x) : 0 ≤ x ∧ x < (t.length : Int) := by
  obtain ⟨z, z0, z1, h1, h2⟩ := h
  exact JR_in hv z0 z1 h2
theorem JR_JJ {x y : Int} (y0 : 0 ≤ y) (y1 : y < (t.length : Int)) (h : JR t y x) : JJ t y x := ⟨y, y0, y1, .inl rfl, h⟩
theorem JL_JJ (hv : Va t) {x y : Int} (y0 : 0 ≤ y) (y1 : y < (t.length : Int)) (h : JL t y x) : JJ t y x := by
  have := JL_in hv y0 y1 h
  exact ⟨x, this.1, this.2, h, .inl rfl⟩
end
/-- The classes of R, L, J and H; which J-class lies below which. -/
noncomputable def gR (t : List (List Int)) : List Int := clN t.length (Mu (JR t))
noncomputable def gL (t : List (List Int)) : List Int := clN t.length (Mu (JL t))
noncomputable def gJ (t : List (List Int)) : List Int := clN t.length (Mu (JJ t))
noncomputable def gH (t : List (List Int)) : List Int := clN t.length (fun x y => rd (gR t) x = rd (gR t) y ∧ rd (gL t) x = rd (gL t) y)
/-- How many J-classes; the least element of one. -/
noncomputable def nJ (t : List (List Int)) : Nat := (frs (gJ t)).length
noncomputable def fJ (t : List (List Int)) (c : Int) : Int := rd (frs (gJ t)) c
noncomputable def gB (t : List (List Int)) : List (List Bool) := btab (nJ t) (nJ t) fun a b => JJ t (fJ t b) (fJ t a)
section
variable {t : List (List Int)}
theorem gR_cl (hv : Va t) : IsCl t.length (Mu (JR t)) (gR t) := clN_cl (JR_pre hv).mu
theorem gL_cl (hv : Va t) : IsCl t.length (Mu (JL t)) (gL t) := clN_cl (JL_pre hv).mu
theorem gJ_cl (hv : Va t) : IsCl t.length (Mu (JJ t)) (gJ t) := clN_cl (JJ_pre hv).mu
theorem gH_cl (hv : Va t) : IsCl t.length (fun x y => rd (gR t) x = rd (gR t) y ∧ rd (gL t) x = rd (gL t) y) (gH t) := clN_cl ((eqv_rd _ _).and (eqv_rd _ _))
theorem fJ_in (hv : Va t) {c : Int} (c0 : 0 ≤ c) (c1 : c < (nJ t : Int)) : 0 ≤ fJ t c ∧ fJ t c < (t.length : Int) ∧ rd (gJ t) (fJ t c) = c := by
  obtain ⟨a, b, d, e⟩ := (gJ_cl hv).can.frs c0 c1
  rw [(gJ_cl hv).len] at b
  exact ⟨a, b, d⟩
theorem nJ_le (hv : Va t) : nJ t ≤ t.length := by
  have := frs_len (gJ t)
  rw [(gJ_cl hv).len] at this
  exact this
theorem nJ_pos (hv : Va t) : 0 < (nJ t : Int) := ((gJ_cl hv).can.count (by rw [(gJ_cl hv).len]; exact hv.pos)).1
theorem gJ_lt (hv : Va t) {x : Int} (x0 : 0 ≤ x) (x1 : x < (t.length : Int)) : 0 ≤ rd (gJ t) x ∧ rd (gJ t) x < (nJ t : Int) := by
  have h := gJ_cl hv
  have e := h.len
  exact ⟨(h.can.lt x0 (by omega)).1, h.can.frs_lt x0 (by omega)⟩
end
end Go.Ab

/- The opposite table's relations; lengths of chains. Plain lemmas. No condition. -/
set_option linter.unusedVariables false
set_option linter.unusedSimpArgs false
set_option linter.unusedSectionVars false
namespace Go.Ab
open Go
section
variable {t : List (List Int)}
theorem opp_len (t : List (List Int)) : (opp t).length = t.length := tab_len _ _
theorem opp_M {x y : Int} (x0 : 0 ≤ x) (x1 : x < (t.length : Int)) (y0 : 0 ≤ y) (y1 : y < (t.length : Int)) : M (opp t) x y = M t y x := tab_M x0 x1 y0 y1
theorem opp_JR {x y : Int} (y0 : 0 ≤ y) (y1 : y < (t.length : Int)) : JR (opp t) y x ↔ JL t y x := by
  unfold JR JL
  rw [opp_len]
  refine ⟨fun h => h.imp id fun ⟨s, s0, s1, e⟩ => ⟨s, s0, s1, ?_⟩, fun h => h.imp id fun ⟨s, s0, s1, e⟩ => ⟨s, s0, s1, ?_⟩⟩
  · rw [e, opp_M y0 y1 s0 s1]
  · rw [e, opp_M y0 y1 s0 s1]
theorem opp_JL {x y : Int} (y0 : 0 ≤ y) (y1 : y < (t.length : Int)) : JL (opp t) y x ↔ JR t y x := by
  unfold JR JL
  rw [opp_len]
  refine ⟨fun h => h.imp id fun ⟨s, s0, s1, e⟩ => ⟨s, s0, s1, ?_⟩, fun h => h.imp id fun ⟨s, s0, s1, e⟩ => ⟨s, s0, s1, ?_⟩⟩
  · rw [e, opp_M s0 s1 y0 y1]
  · rw [e, opp_M s0 s1 y0 y1]
theorem opp_JJ (hv : Va t) {x y : Int} (y0 : 0 ≤ y) (y1 : y < (t.length : Int)) : JJ (opp t) y x ↔ JJ t y x := by
  rw [JJ_swap hv y0 y1]
  unfold JJ
  rw [opp_len]
  refine ⟨fun ⟨z, z0, z1, h1, h2⟩ => ⟨z, z0, z1, (opp_JL y0 y1).1 h1, (opp_JR z0 z1).1 h2⟩, fun ⟨z, z0, z1, h1, h2⟩ => ⟨z, z0, z1, (opp_JL y0 y1).2 h1, (opp_JR z0 z1).2 h2⟩⟩
theorem opp_gR (hv : Va t) : gR (opp t) = gL t := by
  have h := gR_cl (opp_va hv)
  rw [opp_len] at h
  exact (h.congr fun x y a b c d => by unfold Mu; rw [opp_JR a b, opp_JR c d]).eq_clN
theorem opp_gL (hv : Va t) : gL (opp t) = gR t := by
  have h := gL_cl (opp_va hv)
  rw [opp_len] at h
  exact (h.congr fun x y a b c d => by unfold Mu; rw [opp_JL a b, opp_JL c d]).eq_clN
theorem opp_gJ (hv : Va t) : gJ (opp t) = gJ t := by
  have h := gJ_cl (opp_va hv)
  rw [opp_len] at h
  exact (h.congr fun x y a b c d => by unfold Mu; rw [opp_JJ hv a b, opp_JJ hv c d]).eq_clN
theorem opp_gH (hv : Va t) : gH (opp t) = gH t := by
  have h := gH_cl (opp_va hv)
  rw [opp_len, opp_gR hv, opp_gL hv] at h
  exact (h.congr fun x y a b c d => and_comm).eq_clN
theorem opp_gB (hv : Va t) : gB (opp t) = gB t := by
  have e1 : nJ (opp t) = nJ t := by unfold nJ; rw [opp_gJ hv]
  have e2 : ∀ c, fJ (opp t) c = fJ t c := fun c => by unfold fJ; rw [opp_gJ hv]
  unfold gB
  rw [e1]
  refine btab_congr fun y x a b c d => ?_
  rw [e2, e2]
  have := fJ_in hv c d
  exact opp_JJ hv this.1 this.2.1
end

/-! ### Chains -/
/-- Irreflexive and transitive on m points. -/
structure Str (m : Nat) (D : Int → Int → Prop) : Prop where
  irr : ∀ a : Int, 0 ≤ a → a < m → ¬ D a a
  trans : ∀ a b c : Int, 0 ≤ a → a < m → 0 ≤ b → b < m → 0 ≤ c → c < m → D a b → D b c → D a c
/-- There is a chain of k points above a. -/
def Chn (m : Nat) (D : Int → Int → Prop) : Nat → Int → Prop
  | 0, _ => True
  | k + 1, a => ∃ b : Int, 0 ≤ b ∧ b < m ∧ D a b ∧ Chn m D k b
theorem Chn.less {m : Nat} {D : Int → Int → Prop} : ∀ {k : Nat} {a : Int}, Chn m D (k + 1) a → Chn m D k a
  | 0, _, _ => trivial
  | k + 1, a, ⟨b, b0, b1, h, hc⟩ => ⟨b, b0, b1, h, Chn.less hc⟩
theorem Chn.le {m : Nat} {D : Int → Int → Prop} {j k : Nat} {a : Int} (h : Chn m D k a) (hj : j ≤ k) : Chn m D j a := by
  induction k with
  | zero => have : j = 0 := by omega
            subst this; exact h
  | succ k ih =>
    by_cases hjk : j = k + 1
    · subst hjk; exact h
    · exact ih h.less (by omega)
theorem Chn.list {m : Nat} {D : Int → Int → Prop} (hD : Str m D) : ∀ {k : Nat} {a : Int}, 0 ≤ a → a < m → Chn m D k a → ∃ l : List Int, l.length = k ∧ l.Nodup ∧ (∀ x ∈ l, 0 ≤ x ∧ x < m ∧ D a x)
  | 0, _, _, _, _ => ⟨[], rfl, by simp, by simp⟩
  | k + 1, a, a0, a1, ⟨b, b0, b1, h, hc⟩ => by
    obtain ⟨l, h1, h2, h3⟩ := Chn.list hD b0 b1 hc
    refine ⟨b :: l, by simp [h1], List.nodup_cons.2 ⟨fun hm => hD.irr b b0 b1 (h3 b hm).2.2, h2⟩, fun x hx => ?_⟩
    rcases List.mem_cons.1 hx with rfl | hx
    · exact ⟨b0, b1, h⟩
    · obtain ⟨x0, x1, x2⟩ := h3 x hx
      exact ⟨x0, x1, hD.trans a b x a0 a1 b0 b1 x0 x1 h x2⟩
theorem Chn.lt {m : Nat} {D : Int → Int → Prop} (hD : Str m D) {k : Nat} {a : Int} (a0 : 0 ≤ a) (a1 : a < m) (h : Chn m D k a) : k < m := by
  obtain ⟨l, h1, h2, h3⟩ := Chn.list hD a0 a1 h
  have := drawers (l := a :: l) (n := m) (List.nodup_cons.2 ⟨fun hm => hD.irr a a0 a1 (h3 a hm).2.2, h2⟩) fun x hx => by
    rcases List.mem_cons.1 hx with rfl | hx
    · exact ⟨a0, a1⟩
    · exact ⟨(h3 x hx).1, (h3 x hx).2.1⟩
  simp at this; omega
open Classical in
/-- The length of the longest chain above a. -/
noncomputable def hgt (m : Nat) (D : Int → Int → Prop) (a : Int) : Nat := if h : ∃ k, ¬ Chn m D (k + 1) a then Classical.choose (least h) else 0
theorem hgt_iff {m : Nat} {D : Int → Int → Prop} (hD : Str m D) {k : Nat} {a : Int} (a0 : 0 ≤ a) (a1 : a < m) : Chn m D k a ↔ k ≤ hgt m D a := by
  have hex : ∃ k, ¬ Chn m D (k + 1) a := ⟨m, fun h => by have := h.lt hD a0 a1; omega⟩
  have e : hgt m D a = Classical.choose (least hex) := by unfold hgt; rw [dif_pos hex]
  obtain ⟨h1, h2⟩ := Classical.choose_spec (least hex)
  rw [← e] at h1 h2
  constructor
  · intro h
    exact Classical.byContradiction fun hn => h1 (h.le (by omega))
  · intro h
    cases k with
    | zero => trivial
    | succ k => exact Classical.byContradiction fun hn => h2 k (by omega) hn
theorem hgt_lt {m : Nat} {D : Int → Int → Prop} (hD : Str m D) {a : Int} (a0 : 0 ≤ a) (a1 : a < m) : hgt m D a < m := ((hgt_iff hD a0 a1).2 (Nat.le_refl _)).lt hD a0 a1
theorem hgt_step {m : Nat} {D : Int → Int → Prop} (hD : Str m D) {a b : Int} (a0 : 0 ≤ a) (a1 : a < m) (b0 : 0 ≤ b) (b1 : b < m) (h : D a b) : hgt m D b + 1 ≤ hgt m D a :=
  (hgt_iff hD a0 a1).1 ⟨b, b0, b1, h, (hgt_iff hD b0 b1).2 (Nat.le_refl _)⟩
theorem hgt_pred {m : Nat} {D : Int → Int → Prop} (hD : Str m D) {a : Int} (a0 : 0 ≤ a) (a1 : a < m) (h : 0 < hgt m D a) : ∃ b : Int, 0 ≤ b ∧ b < m ∧ D a b ∧ hgt m D b + 1 = hgt m D a := by
  obtain ⟨k, hk⟩ : ∃ k, hgt m D a = k + 1 := ⟨hgt m D a - 1, by omega⟩
  obtain ⟨b, b0, b1, hb, hc⟩ := (hgt_iff (k := k + 1) hD a0 a1).2 (by omega)
  have h1 := (hgt_iff hD b0 b1).1 hc
  have h2 := hgt_step hD a0 a1 b0 b1 hb
  exact ⟨b, b0, b1, hb, by omega⟩
/-- Below, and another. -/
def DJ (t : List (List Int)) (a b : Int) : Prop := a ≠ b ∧ JJ t (fJ t b) (fJ t a)
theorem DJ_str {t : List (List Int)} (hv : Va t) : Str (nJ t) (DJ t) := by
  refine ⟨fun a a0 a1 h => h.1 rfl, fun a b c a0 a1 b0 b1 c0 c1 h1 h2 => ⟨fun e => ?_, ?_⟩⟩
  · subst e
    obtain ⟨x0, x1, x2⟩ := fJ_in hv a0 a1
    obtain ⟨y0, y1, y2⟩ := fJ_in hv b0 b1
    have := ((gJ_cl hv).eqv _ _ x0 x1 y0 y1).2 ⟨h2.2, h1.2⟩
    exact h1.1 (by omega)
  · obtain ⟨x0, x1, x2⟩ := fJ_in hv a0 a1
    obtain ⟨y0, y1, y2⟩ := fJ_in hv b0 b1
    obtain ⟨z0, z1, z2⟩ := fJ_in hv c0 c1
    exact (JJ_pre hv).trans _ _ _ z0 z1 y0 y1 x0 x1 h2.2 h1.2
noncomputable def htsL (t : List (List Int)) : List Int := (List.range (nJ t)).map fun a : Nat => (hgt (nJ t) (DJ t) a : Int)
end Go.Ab

/- Finite semigroups: stability, J is the join of R and L, inverses, Green's lemma. Plain lemmas. No condition but associativity and that every element has an idempotent power. -/
set_option linter.unusedVariables false
set_option linter.unusedSimpArgs false
set_option linter.unusedSectionVars false
namespace Go.Ab
open Go
section
variable {S : Type} [Mul S]
def ppow (x : S) : Nat → S
  | 0 => x
  | i + 1 => ppow x i * x
structure Sem (S : Type) [Mul S] : Prop where
  assoc : ∀ a b c : S, a * b * c = a * (b * c)
  idem : ∀ x : S, ∃ i, ppow x i * ppow x i = ppow x i
/-- y is in the right ideal, the left ideal, the ideal of x. -/
def rI (x y : S) : Prop := y = x ∨ ∃ s, y = x * s
def lI (x y : S) : Prop := y = x ∨ ∃ s, y = s * x
def jI (x y : S) : Prop := ∃ z, lI x z ∧ rI z y
def rE (x y : S) : Prop := rI x y ∧ rI y x
def lE (x y : S) : Prop := lI x y ∧ lI y x
def jE (x y : S) : Prop := jI x y ∧ jI y x
def Idm (e : S) : Prop := e * e = e
variable (h : Sem S)
include h
theorem ppow_left (x : S) : ∀ i, ppow x (i + 1) = x * ppow x i
  | 0 => rfl
  | i + 1 => by
    show ppow x (i + 1) * x = x * (ppow x i * x)
    rw [ppow_left x i, h.assoc]
theorem pow_both {u x c : S} (hx : x = u * x * c) : ∀ i, x = ppow u i * x * ppow c i
  | 0 => hx
  | i + 1 => by
    have ih := pow_both hx i
    show x = ppow u i * u * x * ppow c (i + 1)
    rw [ppow_left h c i, h.assoc (ppow u i) u x, ← h.assoc (ppow u i * (u * x)) c, h.assoc (ppow u i) (u * x) c, ← hx]
    exact ih
theorem rI_refl (x : S) : rI x x := .inl rfl
theorem lI_refl (x : S) : lI x x := .inl rfl
theorem rI_mul (x s : S) : rI x (x * s) := .inr ⟨s, rfl⟩
theorem lI_mul (s x : S) : lI x (s * x) := .inr ⟨s, rfl⟩
theorem rI_trans {x y z : S} (h1 : rI x y) (h2 : rI y z) : rI x z := by
  rcases h1 with rfl | ⟨s, rfl⟩
  · exact h2
  · rcases h2 with rfl | ⟨r, rfl⟩
    · exact .inr ⟨s, rfl⟩
    · exact .inr ⟨s * r, h.assoc x s r⟩
theorem lI_trans {x y z : S} (h1 : lI x y) (h2 : lI y z) : lI x z := by
  rcases h1 with rfl | ⟨s, rfl⟩
  · exact h2
  · rcases h2 with rfl | ⟨r, rfl⟩
    · exact .inr ⟨s, rfl⟩
    · exact .inr ⟨r * s, (h.assoc r s x).symm⟩
theorem jI_swap {x y : S} : jI x y ↔ ∃ z, rI x z ∧ lI z y := by
  constructor
  · rintro ⟨z, h1, h2⟩
    rcases h1 with rfl | ⟨s, rfl⟩
    · exact ⟨y, h2, lI_refl h y⟩
    · rcases h2 with rfl | ⟨r, rfl⟩
      · exact ⟨x, rI_refl h x, .inr ⟨s, rfl⟩⟩
      · exact ⟨x * r, .inr ⟨r, rfl⟩, .inr ⟨s, h.assoc s x r⟩⟩
  · rintro ⟨z, h1, h2⟩
    rcases h1 with rfl | ⟨s, rfl⟩
    · exact ⟨y, h2, rI_refl h y⟩
    · rcases h2 with rfl | ⟨r, rfl⟩
      · exact ⟨x, lI_refl h x, .inr ⟨s, rfl⟩⟩
      · exact ⟨r * x, .inr ⟨r, rfl⟩, .inr ⟨s, (h.assoc r x s).symm⟩⟩
theorem jI_trans {x y z : S} (h1 : jI x y) (h2 : jI y z) : jI x z := by
  obtain ⟨u, h3, h4⟩ := h1
  obtain ⟨w, h5, h6⟩ := h2
  obtain ⟨v, h7, h8⟩ := (jI_swap h).2 ⟨y, h4, h5⟩
  exact ⟨v, lI_trans h h3 h7, rI_trans h h8 h6⟩
theorem rI_jI {x y : S} (h1 : rI x y) : jI x y := ⟨x, lI_refl h x, h1⟩
theorem lI_jI {x y : S} (h1 : lI x y) : jI x y := ⟨y, h1, rI_refl h y⟩
theorem rE_refl (x : S) : rE x x := ⟨rI_refl h x, rI_refl h x⟩
theorem lE_refl (x : S) : lE x x := ⟨lI_refl h x, lI_refl h x⟩
theorem rE_symm {x y : S} (h1 : rE x y) : rE y x := ⟨h1.2, h1.1⟩
theorem lE_symm {x y : S} (h1 : lE x y) : lE y x := ⟨h1.2, h1.1⟩
theorem rE_trans {x y z : S} (h1 : rE x y) (h2 : rE y z) : rE x z := ⟨rI_trans h h1.1 h2.1, rI_trans h h2.2 h1.2⟩
theorem lE_trans {x y z : S} (h1 : lE x y) (h2 : lE y z) : lE x z := ⟨lI_trans h h1.1 h2.1, lI_trans h h2.2 h1.2⟩
theorem jE_trans {x y z : S} (h1 : jE x y) (h2 : jE y z) : jE x z := ⟨jI_trans h h1.1 h2.1, jI_trans h h2.2 h1.2⟩
theorem jE_symm {x y : S} (h1 : jE x y) : jE y x := ⟨h1.2, h1.1⟩
theorem jE_refl (x : S) : jE x x := ⟨rI_jI h (rI_refl h x), rI_jI h (rI_refl h x)⟩
theorem rE_jE {x y : S} (h1 : rE x y) : jE x y := ⟨rI_jI h h1.1, rI_jI h h1.2⟩
theorem lE_jE {x y : S} (h1 : lE x y) : jE x y := ⟨lI_jI h h1.1, lI_jI h h1.2⟩
/-- x = u x c: then x comes back from x c. -/
theorem back_r {u x c : S} (hx : x = u * x * c) : rI (x * c) x := by
  obtain ⟨i, hi⟩ := h.idem u
  have e1 := pow_both h hx i
  have e2 : ppow u i * x = x := by
    conv => lhs; rw [e1]
    rw [← h.assoc, ← h.assoc, hi]; exact e1.symm
  rw [e2] at e1
  cases i with
  | zero => exact .inl e1
  | succ i => rw [ppow_left h c i, ← h.assoc] at e1; exact .inr ⟨_, e1⟩
theorem back_l {u x c : S} (hx : x = u * x * c) : lI (u * x) x := by
  obtain ⟨i, hi⟩ := h.idem c
  have e1 := pow_both h hx i
  have e2 : x * ppow c i = x := by
    conv => lhs; rw [e1]
    rw [h.assoc, hi]; exact e1.symm
  rw [h.assoc, e2] at e1
  cases i with
  | zero => exact .inl e1
  | succ i =>
    have e3 : x = ppow u i * (u * x) := by rw [← h.assoc]; exact e1
    exact .inr ⟨_, e3⟩
theorem stabR {x y : S} (h1 : rI x y) (h2 : jI y x) : rI y x := by
  rcases h1 with rfl | ⟨b, rfl⟩
  · exact rI_refl h y
  obtain ⟨z, h3, h4⟩ := h2
  rcases h3 with rfl | ⟨u, rfl⟩
  · exact h4
  · rcases h4 with h4 | ⟨v, h4⟩
    · exact back_r h (u := u) (by rw [h.assoc]; exact h4)
    · have e : x = u * x * (b * v) := by rw [← h.assoc, h.assoc u x b]; exact h4
      have := back_r h e
      rw [← h.assoc] at this
      exact rI_trans h (rI_mul h (x * b) v) this
theorem stabL {x y : S} (h1 : lI x y) (h2 : jI y x) : lI y x := by
  rcases h1 with rfl | ⟨b, rfl⟩
  · exact lI_refl h y
  obtain ⟨z, h3, h4⟩ := (jI_swap h).1 h2
  rcases h3 with rfl | ⟨v, rfl⟩
  · exact h4
  · rcases h4 with h4 | ⟨u, h4⟩
    · exact back_l h h4
    · have e : x = u * b * x * v := by rw [h.assoc u b x, h.assoc]; exact h4
      have := back_l h e
      rw [h.assoc] at this
      exact lI_trans h (lI_mul h u (b * x)) this
/-- J is the join of R and L. -/
theorem jE_D {x y : S} (h1 : jE x y) : ∃ z, lE x z ∧ rE z y := by
  obtain ⟨⟨z, h3, h4⟩, h2⟩ := h1
  have zx : jI z x := jI_trans h (rI_jI h h4) h2
  exact ⟨z, ⟨h3, stabL h h3 zx⟩, ⟨h4, stabR h h4 (jI_trans h h2 (lI_jI h h3))⟩⟩
theorem jE_D' {x y : S} (h1 : jE x y) : ∃ z, rE x z ∧ lE z y := by
  obtain ⟨z, h2, h3⟩ := jE_D h (jE_symm h h1)
  exact ⟨z, rE_symm h h3, lE_symm h h2⟩
/-! ### Idempotents and inverses -/
theorem idm_r {e x : S} (he : Idm e) (hx : rI e x) : e * x = x := by
  rcases hx with rfl | ⟨s, rfl⟩
  · exact he
  · rw [← h.assoc, he]
theorem idm_l {e x : S} (he : Idm e) (hx : lI e x) : x * e = x := by
  rcases hx with rfl | ⟨s, rfl⟩
  · exact he
  · rw [h.assoc, he]
/-- e = x a for an idempotent e of the R-class of x. -/
theorem idm_ra {e x : S} (he : Idm e) (hx : rI x e) : ∃ a, e = x * a := by
  rcases hx with rfl | ⟨s, hs⟩
  · exact ⟨e, he.symm⟩
  · exact ⟨s, hs⟩
theorem idm_lb {f x : S} (hf : Idm f) (hx : lI x f) : ∃ b, f = b * x := by
  rcases hx with rfl | ⟨s, hs⟩
  · exact ⟨f, hf.symm⟩
  · exact ⟨s, hs⟩
def Inv2 (x y : S) : Prop := x * y * x = x ∧ y * x * y = y
theorem inv_idm {x y : S} (hxy : Inv2 x y) : Idm (x * y) ∧ Idm (y * x) ∧ rE x (x * y) ∧ lE x (y * x) := by
  refine ⟨?_, ?_, ⟨rI_mul h x y, .inr ⟨x, hxy.1.symm⟩⟩, ⟨lI_mul h y x, .inr ⟨x, ?_⟩⟩⟩
  · unfold Idm; rw [← h.assoc, hxy.1]
  · unfold Idm; rw [← h.assoc, hxy.2]
  · rw [← h.assoc]; exact hxy.1.symm
theorem inv_inj {x y z : S} (hy : Inv2 x y) (hz : Inv2 x z) (h1 : x * y = x * z) (h2 : y * x = z * x) : y = z := by
  rw [← hy.2, h2, h.assoc, h1, ← h.assoc, hz.2]
theorem inv_sur {x e f : S} (he : Idm e) (hf : Idm f) (h1 : rE x e) (h2 : lE x f) : ∃ y, Inv2 x y ∧ x * y = e ∧ y * x = f := by
  obtain ⟨a, ha⟩ := idm_ra h he h1.1
  obtain ⟨b, hb⟩ := idm_lb h hf h2.1
  have xf : x * f = x := idm_l h hf h2.2
  have ex : e * x = x := idm_r h he h1.2
  refine ⟨f * a * e, ⟨?_, ?_⟩, ?_, ?_⟩
  all_goals have e1 : x * (f * a * e) = e := by rw [← h.assoc, ← h.assoc, xf, ← ha, he]
  all_goals have e2 : f * a * e * x = f := by
              rw [h.assoc, ex, hb, h.assoc b x a, ← ha, h.assoc, ex]
  · rw [e1, ex]
  · rw [e2, ← h.assoc, ← h.assoc, hf]
  · exact e1
  · exact e2
/-- An element of a J-class with an idempotent has an inverse. -/
theorem reg_inv {x e : S} (he : Idm e) (hx : jE x e) : ∃ y, Inv2 x y := by
  obtain ⟨z, h1, h2⟩ := jE_D h hx
  -- x L z R e
  obtain ⟨a, ha⟩ := idm_ra h he h2.1
  have ez : e * z = z := idm_r h he h2.2
  have hz : z * a * z = z := by rw [← ha, ez]
  have key : ∃ s, x * s * x = x := by
    rcases h1.2 with hxz | ⟨u, hu⟩
    · rw [hxz]; exact ⟨a, hz⟩
    rcases h1.1 with hzx | ⟨v, hv⟩
    · rw [← hzx]; exact ⟨a, hz⟩
    refine ⟨a * v, ?_⟩
    calc x * (a * v) * x = u * z * (a * v) * x := by rw [← hu]
      _ = u * (z * a * (v * x)) := by simp only [h.assoc]
      _ = u * (z * a * z) := by rw [← hv]
      _ = x := by rw [hz, ← hu]
  obtain ⟨s, hs⟩ := key
  refine ⟨s * x * s, ?_, ?_⟩
  · calc x * (s * x * s) * x = x * s * x * s * x := by simp only [h.assoc]
      _ = x := by rw [hs, hs]
  · calc s * x * s * x * (s * x * s) = s * (x * s * x) * s * x * s := by simp only [h.assoc]
      _ = s * x * s * x * s := by rw [hs]
      _ = s * (x * s * x) * s := by simp only [h.assoc]
      _ = s * x * s := by rw [hs]
/-! ### Cells -/
theorem rI_left {x y : S} (s : S) (h1 : rI x y) : rI (s * x) (s * y) := by
  rcases h1 with rfl | ⟨r, rfl⟩
  · exact rI_refl h _
  · exact .inr ⟨r, (h.assoc s x r).symm⟩
theorem lI_right {x y : S} (s : S) (h1 : lI x y) : lI (x * s) (y * s) := by
  rcases h1 with rfl | ⟨r, rfl⟩
  · exact lI_refl h _
  · exact .inr ⟨r, h.assoc r x s⟩
theorem rE_left {x y : S} (s : S) (h1 : rE x y) : rE (s * x) (s * y) := ⟨rI_left h s h1.1, rI_left h s h1.2⟩
theorem lE_right {x y : S} (s : S) (h1 : lE x y) : lE (x * s) (y * s) := ⟨lI_right h s h1.1, lI_right h s h1.2⟩
/-- An H-class with an idempotent is closed. -/
theorem cell_closed {e a b : S} (he : Idm e) (a1 : rE a e) (a2 : lE a e) (b1 : rE b e) (b2 : lE b e) : rE (a * b) e ∧ lE (a * b) e := by
  have ae : a * e = a := idm_l h he a2.2
  have eb : e * b = b := idm_r h he b1.2
  refine ⟨?_, ?_⟩
  · have := rE_left h a b1
    rw [ae] at this
    exact rE_trans h this a1
  · have := lE_right h b a2
    rw [eb] at this
    exact lE_trans h this b2
/-- Green's lemma: right multiplication carries L-classes along an R-class, one to one. -/
theorem green_r {a b s r : S} (hs : b = a * s) (hr : a = b * r) {x : S} (hx : lE x a) : lE (x * s) b ∧ rE (x * s) x ∧ x * s * r = x := by
  have e : x * s * r = x := by
    have asr : a * s * r = a := by rw [← hs, ← hr]
    rcases hx.2 with hxa | ⟨u, hu⟩
    · rw [hxa]; exact asr
    · rw [hu, h.assoc u a s, h.assoc u, asr]
  refine ⟨by have := lE_right h s hx; rwa [← hs] at this, ⟨.inr ⟨r, e.symm⟩, rI_mul h x s⟩, e⟩
theorem green_l {a b s r : S} (hs : b = s * a) (hr : a = r * b) {x : S} (hx : rE x a) : rE (s * x) b ∧ lE (s * x) x ∧ r * (s * x) = x := by
  have e : r * (s * x) = x := by
    have rsa : r * (s * a) = a := by rw [← hs, ← hr]
    rcases hx.2 with hxa | ⟨u, hu⟩
    · rw [hxa]; exact rsa
    · rw [hu, ← h.assoc s a u, ← h.assoc r, rsa]
  refine ⟨by have := rE_left h s hx; rwa [← hs] at this, ⟨.inr ⟨r, e.symm⟩, lI_mul h s x⟩, e⟩
end
/-! ### Tables -/
/-- The elements of a table. -/
abbrev Elt (t : List (List Int)) : Type := {x : Int // 0 ≤ x ∧ x < (t.length : Int)}
open Classical in
noncomputable instance {t : List (List Int)} : Mul (Elt t) := ⟨fun a b => if hh : 0 ≤ M t a.1 b.1 ∧ M t a.1 b.1 < (t.length : Int) then ⟨M t a.1 b.1, hh⟩ else a⟩
section
variable {t : List (List Int)}
theorem elt_mul (hv : Sq t) (a b : Elt t) : (a * b).1 = M t a.1 b.1 := by
  show (if hh : 0 ≤ M t a.1 b.1 ∧ M t a.1 b.1 < (t.length : Int) then (⟨M t a.1 b.1, hh⟩ : Elt t) else a).1 = _
  rw [dif_pos ⟨hv.lo _ _ a.2.1 a.2.2 b.2.1 b.2.2, hv.hi _ _ a.2.1 a.2.2 b.2.1 b.2.2⟩]
theorem elt_pow (hv : Sq t) (a : Elt t) : ∀ i, (ppow a i).1 = pw t a.1 i
  | 0 => rfl
  | i + 1 => by
    show (ppow a i * a).1 = M t (pw t a.1 i) a.1
    rw [elt_mul hv, elt_pow hv a i]
theorem elt_sem (hv : Va t) : Sem (Elt t) := by
  refine ⟨fun a b c => Subtype.ext ?_, fun x => ?_⟩
  · rw [elt_mul hv.toSq, elt_mul hv.toSq, elt_mul hv.toSq, elt_mul hv.toSq]
    exact hv.asc _ _ _ a.2.1 a.2.2 b.2.1 b.2.2 c.2.1 c.2.2
  · obtain ⟨i, hi, _⟩ := om_idem hv x.2.1 x.2.2
    refine ⟨i, Subtype.ext ?_⟩
    rw [elt_mul hv.toSq, elt_pow hv.toSq]; exact hi
theorem elt_rI (hv : Va t) (a b : Elt t) : rI a b ↔ JR t a.1 b.1 := by
  unfold rI JR
  refine ⟨fun h => h.imp (fun e => by rw [e]) fun ⟨s, hs⟩ => ⟨s.1, s.2.1, s.2.2, by rw [hs, elt_mul hv.toSq]⟩, fun h => h.imp Subtype.ext fun ⟨s, s0, s1, hs⟩ => ⟨⟨s, s0, s1⟩, Subtype.ext (by rw [elt_mul hv.toSq]; exact hs)⟩⟩
theorem elt_lI (hv : Va t) (a b : Elt t) : lI a b ↔ JL t a.1 b.1 := by
  unfold lI JL
  refine ⟨fun h => h.imp (fun e => by rw [e]) fun ⟨s, hs⟩ => ⟨s.1, s.2.1, s.2.2, by rw [hs, elt_mul hv.toSq]⟩, fun h => h.imp Subtype.ext fun ⟨s, s0, s1, hs⟩ => ⟨⟨s, s0, s1⟩, Subtype.ext (by rw [elt_mul hv.toSq]; exact hs)⟩⟩
theorem elt_jI (hv : Va t) (a b : Elt t) : jI a b ↔ JJ t a.1 b.1 := by
  unfold jI JJ
  refine ⟨fun ⟨z, h1, h2⟩ => ⟨z.1, z.2.1, z.2.2, (elt_lI hv a z).1 h1, (elt_rI hv z b).1 h2⟩, fun ⟨z, z0, z1, h1, h2⟩ => ⟨⟨z, z0, z1⟩, (elt_lI hv a ⟨z, z0, z1⟩).2 h1, (elt_rI hv ⟨z, z0, z1⟩ b).2 h2⟩⟩
theorem elt_R (hv : Va t) (a b : Elt t) : rE a b ↔ rd (gR t) a.1 = rd (gR t) b.1 := by
  rw [(gR_cl hv).eqv _ _ a.2.1 a.2.2 b.2.1 b.2.2]
  unfold rE Mu; rw [elt_rI hv, elt_rI hv]
theorem elt_L (hv : Va t) (a b : Elt t) : lE a b ↔ rd (gL t) a.1 = rd (gL t) b.1 := by
  rw [(gL_cl hv).eqv _ _ a.2.1 a.2.2 b.2.1 b.2.2]
  unfold lE Mu; rw [elt_lI hv, elt_lI hv]
theorem elt_J (hv : Va t) (a b : Elt t) : jE a b ↔ rd (gJ t) a.1 = rd (gJ t) b.1 := by
  rw [(gJ_cl hv).eqv _ _ a.2.1 a.2.2 b.2.1 b.2.2]
  unfold jE Mu; rw [elt_jI hv, elt_jI hv]
theorem elt_H (hv : Va t) (a b : Elt t) : (rE a b ∧ lE a b) ↔ rd (gH t) a.1 = rd (gH t) b.1 := by
  rw [(gH_cl hv).eqv _ _ a.2.1 a.2.2 b.2.1 b.2.2, elt_R hv, elt_L hv]
theorem elt_idm (hv : Va t) (a : Elt t) : Idm a ↔ M t a.1 a.1 = a.1 := by
  unfold Idm
  rw [← elt_mul hv.toSq]
  exact ⟨fun e => by rw [e], fun e => Subtype.ext e⟩
end
end Go.Ab

/- How many inverses an element has. Plain lemmas. No condition but that a table is valid. -/
set_option linter.unusedVariables false
set_option linter.unusedSimpArgs false
set_option linter.unusedSectionVars false
namespace Go.Ab
open Go
theorem nodup_map_on {α β : Type} {f : α → β} {l : List α} (hl : l.Nodup) (h : ∀ a ∈ l, ∀ b ∈ l, f a = f b → a = b) : (l.map f).Nodup := by
  unfold List.Nodup at *
  rw [List.pairwise_map]
  exact hl.imp_of_mem fun {a b} ha hb hne e => hne (h a ha b hb e)
theorem sel_nodup {P : Int → Prop} : ∀ {m : Nat} {i : Int}, (sel P i m).Nodup
  | 0, i => by simp [sel]
  | m + 1, i => by
    rw [sel_succ]
    split
    · refine List.nodup_cons.2 ⟨fun h => ?_, sel_nodup⟩
      have := (sel_mem.1 h).1
      omega
    · exact sel_nodup
/-- All pairs. -/
def prs {α β : Type} (b : List α) (c : List β) : List (α × β) := b.flatMap fun x => c.map fun y => (x, y)
theorem prs_len {α β : Type} (b : List α) (c : List β) : (prs b c).length = b.length * c.length := by
  unfold prs
  induction b with
  | nil => simp
  | cons x b ih => simp only [List.flatMap_cons, List.length_append, List.length_map, ih, List.length_cons]; rw [Nat.add_mul]; omega
theorem prs_mem {α β : Type} {b : List α} {c : List β} {p : α × β} : p ∈ prs b c ↔ p.1 ∈ b ∧ p.2 ∈ c := by
  unfold prs
  simp only [List.mem_flatMap, List.mem_map]
  constructor
  · rintro ⟨x, hx, y, hy, rfl⟩; exact ⟨hx, hy⟩
  · rintro ⟨h1, h2⟩; exact ⟨p.1, h1, p.2, h2, rfl⟩
theorem prs_nodup {α β : Type} {b : List α} {c : List β} (hb : b.Nodup) (hc : c.Nodup) : (prs b c).Nodup := by
  unfold prs
  induction b with
  | nil => simp
  | cons x b ih =>
    obtain ⟨h1, h2⟩ := List.nodup_cons.1 hb
    simp only [List.flatMap_cons]
    refine List.nodup_append.2 ⟨nodup_map_on hc fun a _ b _ e => by simpa using e, ih h2, fun p hp q hq e => ?_⟩
    subst e
    obtain ⟨y, _, rfl⟩ := List.mem_map.1 hp
    exact h1 (prs_mem.1 hq).1
theorem same_len {α β : Type} {a : List α} {b : List β} {f : α → β} (ha : a.Nodup) (hb : b.Nodup) (hi : ∀ x ∈ a, ∀ y ∈ a, f x = f y → x = y) (hm : ∀ x ∈ a, f x ∈ b) (hs : ∀ y ∈ b, ∃ x ∈ a, f x = y) : a.length = b.length := by
  have h1 := (nodup_map_on ha hi).length_le_of_subset (l₂ := b) fun y hy => by
    obtain ⟨x, hx, rfl⟩ := List.mem_map.1 hy; exact hm x hx
  have h2 := hb.length_le_of_subset (l₂ := a.map f) fun y hy => by
    obtain ⟨x, hx, rfl⟩ := hs y hy; exact List.mem_map.2 ⟨x, hx, rfl⟩
  simp at h1 h2
  omega
section
variable {t : List (List Int)} (hv : Va t) {x : Int} (x0 : 0 ≤ x) (x1 : x < (t.length : Int))
include hv x0 x1
theorem inv2_iff (y : Elt t) : Inv2 (⟨x, x0, x1⟩ : Elt t) y ↔ (M t (M t x y.1) x = x ∧ M t (M t y.1 x) y.1 = y.1) := by
  unfold Inv2
  rw [Subtype.ext_iff, Subtype.ext_iff, elt_mul hv.toSq, elt_mul hv.toSq, elt_mul hv.toSq, elt_mul hv.toSq]
open Classical in
theorem inv_count : (sel (fun y => M t (M t x y) x = x ∧ M t (M t y x) y = y) 0 t.length).length = ((idem t).filter fun e => decide (rd (gL t) e = rd (gL t) x)).length * ((idem t).filter fun e => decide (rd (gR t) e = rd (gR t) x)).length := by
  have hs := elt_sem hv
  have hsq := hv.toSq
  have midem : ∀ e, e ∈ idem t ↔ (0 ≤ e ∧ e < (t.length : Int)) ∧ M t e e = e := fun e => by unfold idem; rw [sel_mem]; simp [and_assoc]
  rw [← prs_len]
  refine same_len (f := fun y => (M t y x, M t x y)) sel_nodup (prs_nodup (sel_nodup.filter _) (sel_nodup.filter _)) (fun y hy z hz e => ?_) (fun y hy => ?_) (fun p hp => ?_)
  · obtain ⟨y0, y1, y2⟩ := sel_mem.1 hy
    obtain ⟨z0, z1, z2⟩ := sel_mem.1 hz
    have e : M t y x = M t z x ∧ M t x y = M t x z := by simpa using e
    have := inv_inj hs ((inv2_iff hv x0 x1 ⟨y, y0, by omega⟩).2 y2) ((inv2_iff hv x0 x1 ⟨z, z0, by omega⟩).2 z2) (Subtype.ext (by rw [elt_mul hsq, elt_mul hsq]; exact e.2)) (Subtype.ext (by rw [elt_mul hsq, elt_mul hsq]; exact e.1))
    exact Subtype.ext_iff.1 this
  · obtain ⟨y0, y1, y2⟩ := sel_mem.1 hy
    obtain ⟨h1, h2, h3, h4⟩ := inv_idm hs ((inv2_iff hv x0 x1 ⟨y, y0, by omega⟩).2 y2)
    rw [elt_idm hv, elt_mul hsq] at h1 h2
    rw [elt_R hv, elt_mul hsq] at h3
    rw [elt_L hv, elt_mul hsq] at h4
    refine prs_mem.2 ⟨List.mem_filter.2 ⟨(midem _).2 ⟨⟨hsq.lo _ _ y0 (by omega) x0 x1, hsq.hi _ _ y0 (by omega) x0 x1⟩, h2⟩, ?_⟩, List.mem_filter.2 ⟨(midem _).2 ⟨⟨hsq.lo _ _ x0 x1 y0 (by omega), hsq.hi _ _ x0 x1 y0 (by omega)⟩, h1⟩, ?_⟩⟩
    · exact decide_eq_true h4.symm
    · exact decide_eq_true h3.symm
  · obtain ⟨hf, he⟩ := prs_mem.1 hp
    obtain ⟨f1, f2⟩ := List.mem_filter.1 hf
    obtain ⟨e1, e2⟩ := List.mem_filter.1 he
    obtain ⟨⟨f0, f1⟩, f3⟩ := (midem _).1 f1
    obtain ⟨⟨e0, e1⟩, e3⟩ := (midem _).1 e1
    have f2 := of_decide_eq_true f2
    have e2 := of_decide_eq_true e2
    obtain ⟨y, h1, h2, h3⟩ := inv_sur hs (x := ⟨x, x0, x1⟩) (e := ⟨p.2, e0, e1⟩) (f := ⟨p.1, f0, f1⟩) ((elt_idm hv _).2 e3) ((elt_idm hv _).2 f3) ((elt_R hv _ _).2 e2.symm) ((elt_L hv _ _).2 f2.symm)
    refine ⟨y.1, sel_mem.2 ⟨y.2.1, by have := y.2.2; omega, (inv2_iff hv x0 x1 y).1 h1⟩, ?_⟩
    have a1 := Subtype.ext_iff.1 h2
    have a2 := Subtype.ext_iff.1 h3
    rw [elt_mul hsq] at a1 a2
    exact Prod.ext a2 a1
theorem inv_some : 0 < (sel (fun y => M t (M t x y) x = x ∧ M t (M t y x) y = y) 0 t.length).length ↔ ∃ e : Int, 0 ≤ e ∧ e < (t.length : Int) ∧ rd (gJ t) e = rd (gJ t) x ∧ M t e e = e := by
  have hs := elt_sem hv
  have hsq := hv.toSq
  constructor
  · intro h
    obtain ⟨y, hy⟩ := List.exists_mem_of_length_pos h
    obtain ⟨y0, y1, y2⟩ := sel_mem.1 hy
    obtain ⟨h1, h2, h3, h4⟩ := inv_idm hs ((inv2_iff hv x0 x1 ⟨y, y0, by omega⟩).2 y2)
    have h5 := (elt_J hv _ _).1 (rE_jE hs h3)
    rw [elt_idm hv, elt_mul hsq] at h1
    rw [elt_mul hsq] at h5
    exact ⟨M t x y, hsq.lo _ _ x0 x1 y0 (by omega), hsq.hi _ _ x0 x1 y0 (by omega), h5.symm, h1⟩
  · rintro ⟨e, e0, e1, e2, e3⟩
    obtain ⟨y, hy⟩ := reg_inv hs (x := ⟨x, x0, x1⟩) (e := ⟨e, e0, e1⟩) ((elt_idm hv _).2 e3) ((elt_J hv _ _).2 e2.symm)
    exact List.length_pos_of_mem (sel_mem.2 ⟨y.2.1, by have := y.2.2; omega, (inv2_iff hv x0 x1 y).1 hy⟩)
end
end Go.Ab

/- Principal factors: their elements and tables. Plain lemmas. No condition. -/
set_option linter.unusedVariables false
set_option linter.unusedSimpArgs false
set_option linter.unusedSectionVars false
namespace Go.Ab
open Go
/-- No J-class lies below j. -/
def MinC (t : List (List Int)) (j : Int) : Prop := ∀ i : Int, 0 ≤ i → i < (nJ t : Int) → ¬ DJ t i j
open Classical in
/-- The error of class. -/
noncomputable def cerr (t : List (List Int)) (j : Int) : Int := if val t = 0 then (if 0 ≤ j ∧ j < (nJ t : Int) then 0 else 1) else val t
theorem cerr_ok {t : List (List Int)} {j : Int} : cerr t j = 0 ↔ val t = 0 ∧ 0 ≤ j ∧ j < (nJ t : Int) := by
  unfold cerr
  constructor
  · intro h
    split at h
    · rename_i hv
      split at h
      · rename_i hj; exact ⟨hv, hj⟩
      · omega
    · rename_i hv; exact absurd h hv
  · rintro ⟨a, b⟩; rw [if_pos a, if_pos b]
open Classical in
/-- The elements of the principal factor, -1 for the zero. -/
noncomputable def prL (t : List (List Int)) (j : Int) : List Int := (if MinC t j then [] else [-1]) ++ mem (gJ t) j
/-- Where v stands in a list. -/
noncomputable def idxOf (l : List Int) (v : Int) : Int := first l.length (fun p => rd l p = v)
theorem idxOf_spec {l : List Int} {v : Int} (h : v ∈ l) : 0 ≤ idxOf l v ∧ idxOf l v < (l.length : Int) ∧ rd l (idxOf l v) = v := by
  rcases first_spec (n := l.length) (P := fun p => rd l p = v) with ⟨_, hn⟩ | ⟨a, b, c, _⟩
  · obtain ⟨i, hi, e⟩ := List.getElem_of_mem h
    refine absurd ?_ (hn i (by omega) (by omega))
    unfold rd
    rw [List.getD_eq_getElem?_getD, show ((i : Int)).toNat = i by omega, List.getElem?_eq_getElem hi]; exact e
  · exact ⟨a, b, c⟩
theorem nodup_rd {l : List Int} (hl : l.Nodup) {i j : Int} (i0 : 0 ≤ i) (i1 : i < (l.length : Int)) (j0 : 0 ≤ j) (j1 : j < (l.length : Int)) (e : rd l i = rd l j) : i = j := by
  unfold rd at e
  rw [List.getD_eq_getElem?_getD, List.getD_eq_getElem?_getD, List.getElem?_eq_getElem (by omega), List.getElem?_eq_getElem (by omega)] at e
  have e : l[i.toNat]'(by omega) = l[j.toNat]'(by omega) := e
  have hp := List.pairwise_iff_getElem.1 hl
  rcases Nat.lt_trichotomy i.toNat j.toNat with h | h | h
  · exact absurd e (hp _ _ (by omega) (by omega) h)
  · omega
  · exact absurd e.symm (hp _ _ (by omega) (by omega) h)
theorem idxOf_rd {l : List Int} (hl : l.Nodup) {i : Int} (i0 : 0 ≤ i) (i1 : i < (l.length : Int)) : idxOf l (rd l i) = i := by
  obtain ⟨a, b, c⟩ := idxOf_spec (rd_mem i0 i1)
  exact nodup_rd hl a b i0 i1 c
theorem rd_of_mem {l : List Int} {v : Int} (h : v ∈ l) : ∃ i : Int, 0 ≤ i ∧ i < (l.length : Int) ∧ rd l i = v := ⟨_, idxOf_spec h⟩
theorem mem_nodup (p : List Int) (c : Int) : (mem p c).Nodup := sel_nodup
theorem prL_mem {t : List (List Int)} {j v : Int} : v ∈ prL t j ↔ (v = -1 ∧ ¬ MinC t j) ∨ v ∈ mem (gJ t) j := by
  unfold prL
  split
  · rename_i h; simp [h]
  · rename_i h; simp [h]
theorem prL_nodup (t : List (List Int)) (j : Int) : (prL t j).Nodup := by
  unfold prL
  split
  · simpa using mem_nodup _ _
  · refine List.nodup_append.2 ⟨by simp, mem_nodup _ _, fun a ha b hb e => ?_⟩
    subst e
    have := (mem_mem.1 hb).1
    simp at ha; omega
theorem prL_len {t : List (List Int)} (hv : Va t) (j : Int) : (prL t j).length ≤ t.length + 1 := by
  have h : (mem (gJ t) j).length ≤ t.length := by
    have := sel_len (P := fun x => rd (gJ t) x = j) (i := 0) (m := (gJ t).length)
    rw [(gJ_cl hv).len] at this
    unfold mem
    rwa [(gJ_cl hv).len]
  unfold prL
  split <;> simp <;> omega
theorem prL_in {t : List (List Int)} (hv : Va t) {j : Int} {i : Int} (i0 : 0 ≤ i) (i1 : i < ((prL t j).length : Int)) : (rd (prL t j) i = -1 ∧ ¬ MinC t j) ∨ (0 ≤ rd (prL t j) i ∧ rd (prL t j) i < (t.length : Int) ∧ rd (gJ t) (rd (prL t j) i) = j) := by
  rcases prL_mem.1 (rd_mem i0 i1) with h | h
  · exact .inl h
  · have := mem_mem.1 h
    rw [(gJ_cl hv).len] at this
    exact .inr this
open Classical in
/-- The products in the principal factor. -/
noncomputable def prM (t : List (List Int)) (j : Int) (i k : Int) : Int := if 0 ≤ rd (prL t j) i ∧ 0 ≤ rd (prL t j) k ∧ M t (rd (prL t j) i) (rd (prL t j) k) ∈ mem (gJ t) j then idxOf (prL t j) (M t (rd (prL t j) i) (rd (prL t j) k)) else 0
noncomputable def prT (t : List (List Int)) (j : Int) : List (List Int) := tab (prL t j).length (prM t j)
end Go.Ab

/- Homomorphisms: maps between tables, their images. Plain lemmas. No condition. -/
set_option linter.unusedVariables false
set_option linter.unusedSimpArgs false
set_option linter.unusedSectionVars false
namespace Go.Ab
open Go
/-- A homomorphism. -/
structure Hm (t u : List (List Int)) (f : List Int) : Prop where
  len : f.length = t.length
  into : ∀ x : Int, 0 ≤ x → x < (t.length : Int) → 0 ≤ rd f x ∧ rd f x < (u.length : Int)
  mul : ∀ x y : Int, 0 ≤ x → x < (t.length : Int) → 0 ≤ y → y < (t.length : Int) → rd f (M t x y) = M u (rd f x) (rd f y)
/-- The elements that occur. -/
noncomputable def imgL (n : Nat) (f : List Int) : List Int := sel (fun v => v ∈ f) 0 n
end Go.Ab

/- What elements generate; the homomorphism that a map of them extends to. Plain lemmas. No condition. -/
set_option linter.unusedVariables false
set_option linter.unusedSimpArgs false
set_option linter.unusedSectionVars false
namespace Go.Ab
open Go
/-- What elements generate. -/
inductive Gn (t : List (List Int)) (gs : List Int) : Int → Prop
  | base {x : Int} (h : x ∈ gs) : Gn t gs x
  | mul {x y : Int} (hx : Gn t gs x) (hy : Gn t gs y) : Gn t gs (M t x y)
section
variable {t u : List (List Int)} {gs is : List Int}
theorem Gn.into (hv : Sq t) (hg : El t gs) {x : Int} (h : Gn t gs x) : 0 ≤ x ∧ x < (t.length : Int) := by
  induction h with
  | base h => exact hg _ h
  | mul _ _ h1 h2 => exact ⟨hv.lo _ _ h1.1 h1.2 h2.1 h2.2, hv.hi _ _ h1.1 h1.2 h2.1 h2.2⟩
theorem Gn.mono {hs : List Int} (hm : ∀ x ∈ gs, x ∈ hs) {x : Int} (h : Gn t gs x) : Gn t hs x := by
  induction h with
  | base h => exact .base (hm _ h)
  | mul _ _ h1 h2 => exact .mul h1 h2
/-- A set with the generators, closed under products of two. -/
theorem Gn.sub {S : Int → Prop} (hb : ∀ g ∈ gs, S g) (hm : ∀ x y, S x → S y → S (M t x y)) {x : Int} (h : Gn t gs x) : S x := by
  induction h with
  | base h => exact hb _ h
  | mul _ _ h1 h2 => exact hm _ _ h1 h2
/-- .. or closed under products with a generator at the right. -/
theorem Gn.right (hv : Va t) (hg : El t gs) {S : Int → Prop} (hS : ∀ x, S x → 0 ≤ x ∧ x < (t.length : Int)) (hb : ∀ g ∈ gs, S g) (hm : ∀ x g, S x → g ∈ gs → S (M t x g)) {x : Int} (h : Gn t gs x) : S x := by
  have key : ∀ y, Gn t gs y → ∀ x, S x → S (M t x y) := by
    intro y hy
    induction hy with
    | base h => exact fun x hx => hm x _ hx h
    | mul h1 h2 i1 i2 =>
      intro x hx
      have a := hS x hx
      have b := h1.into hv.toSq hg
      have c := h2.into hv.toSq hg
      rw [← hv.asc _ _ _ a.1 a.2 b.1 b.2 c.1 c.2]
      exact i2 _ (i1 _ hx)
  induction h with
  | base h => exact hb _ h
  | mul h1 h2 i1 _ => exact key _ h2 _ i1
/-- Every element is generated. -/
def Fl (t : List (List Int)) (gs : List Int) : Prop := ∀ x : Int, 0 ≤ x → x < (t.length : Int) → Gn t gs x
/-- A homomorphism with the given values at the generators. -/
structure Xt (t u : List (List Int)) (gs is h : List Int) : Prop where
  hom : Hm t u h
  gen : ∀ i : Int, 0 ≤ i → i < (gs.length : Int) → rd h (rd gs i) = rd is i
theorem Xt.unique {a b : List Int} (hv : Sq t) (hg : El t gs) (hf : Fl t gs) (h1 : Xt t u gs is a) (h2 : Xt t u gs is b) : a = b := by
  have key : ∀ x, Gn t gs x → rd a x = rd b x := by
    intro x hx
    induction hx with
    | base h =>
      obtain ⟨i, i0, i1, rfl⟩ := rd_of_mem h
      rw [h1.gen i i0 i1, h2.gen i i0 i1]
    | mul g1 g2 e1 e2 =>
      have p := g1.into hv hg
      have q := g2.into hv hg
      rw [h1.hom.mul _ _ p.1 p.2 q.1 q.2, h2.hom.mul _ _ p.1 p.2 q.1 q.2, e1, e2]
  exact rd_ext (by rw [h1.hom.len, h2.hom.len]) fun j j0 j1 => key j (hf j j0 (by have := h1.hom.len; omega))
/-- The map of generators extends, and to one map alone. -/
def XOk (t u : List (List Int)) (gs is : List Int) : Prop := ((val t = 0 ∧ val u = 0) ∧ gs.length = is.length) ∧ El t gs ∧ El u is ∧ Fl t gs ∧ ∃ h, Xt t u gs is h
open Classical in
noncomputable def xtL (t u : List (List Int)) (gs is : List Int) : List Int := if h : XOk t u gs is then Classical.choose h.2.2.2.2 else []
theorem xtL_eq {f : List Int} (h : XOk t u gs is) (hx : Xt t u gs is f) : f = xtL t u gs is := by
  unfold xtL
  rw [dif_pos h]
  exact Xt.unique (val_va.1 h.1.1.1).toSq h.2.1 h.2.2.2.1 hx (Classical.choose_spec h.2.2.2.2)
theorem xtL_no (h : ¬ XOk t u gs is) : xtL t u gs is = [] := by
  unfold xtL
  rw [dif_neg h]
theorem xtL_len : (xtL t u gs is).length ≤ t.length := by
  by_cases h : XOk t u gs is
  · obtain ⟨f, hf⟩ := h.2.2.2.2
    rw [← xtL_eq h hf, hf.hom.len]; exact Nat.le_refl _
  · rw [xtL_no h]; exact Nat.zero_le _
/-- All elements are among as many different ones. -/
theorem all_of_len {l : List Int} {n : Nat} (hl : l.Nodup) (h : ∀ x ∈ l, 0 ≤ x ∧ x < (n : Int)) (hn : n ≤ l.length) {x : Int} (x0 : 0 ≤ x) (x1 : x < n) : x ∈ l := by
  by_cases hx : x ∈ l
  · exact hx
  have := drawers (l := x :: l) (n := n) (List.nodup_cons.2 ⟨hx, hl⟩) fun y hy => by
    rcases List.mem_cons.1 hy with rfl | hy
    · exact ⟨x0, x1⟩
    · exact h y hy
  simp at this; omega
theorem len_of_all {l : List Int} {n : Nat} (h : ∀ x : Int, 0 ≤ x → x < n → x ∈ l) : n ≤ l.length := by
  have := (nodup_map (f := fun i : Nat => (i : Int)) (m := n) fun i j _ _ e => Int.ofNat.inj e).length_le_of_subset (l₂ := l) fun y hy => by
    obtain ⟨i, hi, rfl⟩ := List.mem_map.1 hy
    exact h _ (by omega) (by have := List.mem_range.1 hi; omega)
  simpa using this
/-- What is known so far of the map: f at the elements of ll. -/
structure Wk (t u : List (List Int)) (gs is f ll : List Int) : Prop where
  len : f.length = t.length
  iff : ∀ x : Int, 0 ≤ x → x < (t.length : Int) → (0 ≤ rd f x ↔ x ∈ ll)
  hi : ∀ x : Int, 0 ≤ x → x < (t.length : Int) → rd f x < (u.length : Int)
  nd : ll.Nodup
  into : ∀ x ∈ ll, 0 ≤ x ∧ x < (t.length : Int)
  gn : ∀ x ∈ ll, Gn t gs x
  ext : ∀ h, Xt t u gs is h → ∀ x ∈ ll, rd f x = rd h x
theorem Wk.zero (hu : 0 ≤ (u.length : Int)) {f : List Int} (hl : f.length = t.length) (h : ∀ x : Int, 0 ≤ x → x < (t.length : Int) → rd f x = -1) : Wk t u gs is f [] :=
  ⟨hl, fun x a b => by rw [h x a b]; simp, fun x a b => by rw [h x a b]; omega, by simp, by simp, by simp, by simp⟩
theorem Wk.add {f ll : List Int} (w : Wk t u gs is f ll) {x y : Int} (x0 : 0 ≤ x) (x1 : x < (t.length : Int)) (hx : rd f x < 0) (y0 : 0 ≤ y) (y1 : y < (u.length : Int)) (hg : Gn t gs x) (he : ∀ h, Xt t u gs is h → rd h x = y) : Wk t u gs is (f.set x.toNat y) (ll ++ [x]) := by
  have hl := w.len
  have nx : x ∉ ll := fun h => by have := (w.iff x x0 x1).2 h; omega
  have rs : ∀ j : Int, 0 ≤ j → rd (f.set x.toNat y) j = if j = x then y else rd f j := fun j j0 => rd_set x0 (by omega) j0
  refine ⟨by simpa using hl, fun j j0 j1 => ?_, fun j j0 j1 => ?_, ?_, fun j hj => ?_, fun j hj => ?_, fun h hh j hj => ?_⟩
  · rw [rs j j0, List.mem_append, List.mem_singleton]
    split
    · rename_i e; exact ⟨fun _ => .inr e, fun _ => y0⟩
    · rename_i e; rw [w.iff j j0 j1]; exact ⟨.inl, fun h => h.resolve_right e⟩
  · rw [rs j j0]; split
    · exact y1
    · exact w.hi j j0 j1
  · refine List.nodup_append.2 ⟨w.nd, by simp, fun a ha b hb e => nx ?_⟩
    rw [← List.mem_singleton.1 hb, ← e]; exact ha
  · rcases List.mem_append.1 hj with hj | hj
    · exact w.into j hj
    · rw [List.mem_singleton.1 hj]; exact ⟨x0, x1⟩
  · rcases List.mem_append.1 hj with hj | hj
    · exact w.gn j hj
    · rw [List.mem_singleton.1 hj]; exact hg
  · have j0 : 0 ≤ j := by
      rcases List.mem_append.1 hj with hj | hj
      · exact (w.into j hj).1
      · rw [List.mem_singleton.1 hj]; exact x0
    rw [rs j j0]
    rcases List.mem_append.1 hj with hj | hj
    · have ne : ¬ j = x := fun e => nx (e ▸ hj)
      rw [if_neg ne]; exact w.ext h hh j hj
    · rw [if_pos (List.mem_singleton.1 hj), List.mem_singleton.1 hj]; exact (he h hh).symm
theorem Wk.keep {f ll : List Int} (w : Wk t u gs is f ll) {x y z : Int} (x0 : 0 ≤ x) (x1 : x < (t.length : Int)) (hx : rd f x < 0) (z0 : 0 ≤ z) (hz : 0 ≤ rd f z) : rd (f.set x.toNat y) z = rd f z := by
  rw [rd_set x0 (by have := w.len; omega) z0, if_neg (fun e => by rw [e] at hz; omega)]
theorem Wk.bound {f ll : List Int} (w : Wk t u gs is f ll) : ll.length ≤ t.length := drawers w.nd w.into
/-- What extends agrees at what is known. -/
theorem Wk.agree {f ll h : List Int} (w : Wk t u gs is f ll) (hh : Xt t u gs is h) {x : Int} (x0 : 0 ≤ x) (x1 : x < (t.length : Int)) (hx : 0 ≤ rd f x) : rd f x = rd h x := w.ext h hh x ((w.iff x x0 x1).1 hx)
/-- At the end: all are known exactly if all are generated; then the map decides. -/
theorem Wk.yes {f ll : List Int} (w : Wk t u gs is f ll) (hi : (val t = 0 ∧ val u = 0) ∧ gs.length = is.length) (hg : El t gs) (hs : El u is) (hn : ¬ ((ll.length : Int) < (t.length : Int))) (hh : Hm t u f) (he : ∀ i : Int, 0 ≤ i → i < (gs.length : Int) → rd f (rd gs i) = rd is i) : XOk t u gs is ∧ f = xtL t u gs is := by
  have hx : Xt t u gs is f := ⟨hh, he⟩
  have ok : XOk t u gs is := ⟨hi, hg, hs, fun x x0 x1 => w.gn x (all_of_len w.nd w.into (by omega) x0 x1), f, hx⟩
  exact ⟨ok, xtL_eq ok hx⟩
theorem Wk.no {f ll : List Int} (w : Wk t u gs is f ll) (hk : XOk t u gs is) (hc : ∀ x, Gn t gs x → x ∈ ll) : ¬ ((ll.length : Int) < (t.length : Int)) ∧ Hm t u f := by
  obtain ⟨⟨⟨hv, _⟩, _⟩, hg, _, hf, h, hh⟩ := hk
  have hv := (val_va.1 hv).toSq
  have all : ∀ x : Int, 0 ≤ x → x < (t.length : Int) → x ∈ ll := fun x x0 x1 => hc x (hf x x0 x1)
  have := len_of_all all
  refine ⟨by omega, ?_⟩
  have : f = h := rd_ext (by rw [w.len, hh.hom.len]) fun j j0 j1 => w.ext h hh j (all j j0 (by have := w.len; omega))
  rw [this]; exact hh.hom
theorem rd_before {l : List Int} {x p : Int} (p0 : 0 ≤ p) (p1 : p < (l.length : Int)) : rd (l ++ [x]) p = rd l p := by
  unfold rd
  rw [List.getD_eq_getElem?_getD, List.getD_eq_getElem?_getD, List.getElem?_append_left (by omega)]
end
end Go.Ab

/- Closing a set under products. Plain lemmas. No condition. -/
set_option linter.unusedVariables false
set_option linter.unusedSimpArgs false
set_option linter.unusedSectionVars false
namespace Go.Ab
open Go
section
variable {t u : List (List Int)} {gs is : List Int}
/-- What is marked so far: the elements of ll, all of them generated. -/
structure Gk (t : List (List Int)) (gs : List Int) (b : List Bool) (ll : List Int) : Prop where
  len : b.length = t.length
  iff : ∀ x : Int, 0 ≤ x → x < (t.length : Int) → (rdOf false b x = true ↔ x ∈ ll)
  nd : ll.Nodup
  into : ∀ x ∈ ll, 0 ≤ x ∧ x < (t.length : Int)
  gn : ∀ x ∈ ll, Gn t gs x
theorem Gk.bound {b : List Bool} {ll : List Int} (g : Gk t gs b ll) : ll.length ≤ t.length := drawers g.nd g.into
theorem Gk.zero : Gk t gs (List.replicate t.length false) [] :=
  ⟨by simp, fun x a b => by rw [rb_rep a b]; simp, by simp, by simp, by simp⟩
theorem Gk.add {b : List Bool} {ll : List Int} (g : Gk t gs b ll) {x : Int} (x0 : 0 ≤ x) (x1 : x < (t.length : Int)) (hx : rdOf false b x = false) (hg : Gn t gs x) : Gk t gs (b.set x.toNat true) (ll ++ [x]) := by
  have hl := g.len
  have nx : x ∉ ll := fun h => by have := (g.iff x x0 x1).2 h; rw [hx] at this; cases this
  refine ⟨by simpa using hl, fun j j0 j1 => ?_, ?_, fun j hj => ?_, fun j hj => ?_⟩
  · rw [rb_set x0 (by omega) j0, List.mem_append, List.mem_singleton]
    split
    · rename_i e; exact ⟨fun _ => .inr e, fun _ => rfl⟩
    · rename_i e; rw [g.iff j j0 j1]; exact ⟨.inl, fun h => h.resolve_right e⟩
  · refine List.nodup_append.2 ⟨g.nd, by simp, fun a ha b hb e => nx ?_⟩
    rw [← List.mem_singleton.1 hb, ← e]; exact ha
  · rcases List.mem_append.1 hj with hj | hj
    · exact g.into j hj
    · rw [List.mem_singleton.1 hj]; exact ⟨x0, x1⟩
  · rcases List.mem_append.1 hj with hj | hj
    · exact g.gn j hj
    · rw [List.mem_singleton.1 hj]; exact hg
theorem Gk.done {b : List Bool} {ll : List Int} (g : Gk t gs b ll) (hc : ∀ x, Gn t gs x → x ∈ ll) : sel (fun x => rdOf false b x = true) 0 b.length = sel (Gn t gs) 0 t.length := by
  rw [g.len]
  exact sel_congr fun x x0 x1 => (g.iff x x0 (by omega)).trans ⟨g.gn x, hc x⟩
end
end Go.Ab

/- Variables that a closure shares. Plain lemmas. No condition. -/
set_option linter.unusedVariables false
set_option linter.unusedSimpArgs false
set_option linter.unusedSectionVars false
namespace Go.Ab
open Go
section
variable {A : Type} {Q : A → AH → Prop} {H0 H : AH} {L : List Asr} {lo : Nat}
theorem ev_var {p : Pt} {n : Sl} {K : (ρ : Type) → Nat → (A → AH → Option ρ) → Sl → Option ρ} (hp : At1 H p [.sl n]) (hK : Ev (fun ρ k κ => K ρ k κ n) Q) : Ev (fun ρ k κ => ldc H p fun u => asS u (K ρ k κ)) Q :=
  ev_fldS (j := 0) hp rfl hK
theorem sp_stv {p : Pt} {c u : AV} {K : (ρ : Type) → Nat → (A → AH → Option ρ) → AH → Option ρ} (hS : Sep H0 H (ownC p [c] :: L)) (hlo : lo ≤ H0.length) (hK : ∀ H', Sep H0 H' (ownC p [u] :: L) → Ev (fun ρ k κ => K ρ k κ H') Q) : Ev (fun ρ k κ => stc lo H p u (K ρ k κ)) Q :=
  sp_stcC (j := 0) hS hlo (by simp) hK
end
end Go.Ab

/- Congruences and quotients. Plain lemmas. No condition. -/
set_option linter.unusedVariables false
set_option linter.unusedSimpArgs false
set_option linter.unusedSectionVars false
namespace Go.Ab
open Go
/-- The least element of the class of x. -/
noncomputable def cf (p : List Int) (x : Int) : Int := rd (frs p) (rd p x)
/-- A partition in canonical form that is a congruence. -/
structure Cg (t : List (List Int)) (p : List Int) : Prop where
  len : p.length = t.length
  can : Cano p
  lft : ∀ x s : Int, 0 ≤ x → x < (t.length : Int) → 0 ≤ s → s < (t.length : Int) → rd p (M t s x) = rd p (M t s (cf p x))
  rgt : ∀ x s : Int, 0 ≤ x → x < (t.length : Int) → 0 ≤ s → s < (t.length : Int) → rd p (M t x s) = rd p (M t (cf p x) s)
noncomputable def qt (t : List (List Int)) (p : List Int) : List (List Int) := tab (frs p).length fun i j => rd p (M t (rd (frs p) i) (rd (frs p) j))
section
variable {t u : List (List Int)} {p f : List Int}
theorem cf_in (hc : Cano p) {x : Int} (x0 : 0 ≤ x) (x1 : x < (p.length : Int)) : 0 ≤ cf p x ∧ cf p x < (p.length : Int) ∧ rd p (cf p x) = rd p x :=
  let h := hc.frs (hc.lt x0 x1).1 (hc.frs_lt x0 x1)
  ⟨h.1, h.2.1, h.2.2.1⟩
theorem qt_len : (qt t p).length = (frs p).length := tab_len _ _
theorem Cg.at (h : Cg t p) {x : Int} (x0 : 0 ≤ x) (x1 : x < (t.length : Int)) : 0 ≤ rd p x ∧ rd p x < ((qt t p).length : Int) := by
  rw [qt_len]
  have := h.len
  exact ⟨(h.can.lt x0 (by omega)).1, h.can.frs_lt x0 (by omega)⟩
theorem Cg.of (h : Cg t p) {c : Int} (c0 : 0 ≤ c) (c1 : c < ((qt t p).length : Int)) : ∃ x : Int, 0 ≤ x ∧ x < (t.length : Int) ∧ rd p x = c := by
  rw [qt_len] at c1
  have := h.can.frs c0 c1
  have := h.len
  exact ⟨rd (frs p) c, by omega, by omega, by omega⟩
/-- Products of classes. -/
theorem Cg.mul (h : Cg t p) (hv : Sq t) {x y : Int} (x0 : 0 ≤ x) (x1 : x < (t.length : Int)) (y0 : 0 ≤ y) (y1 : y < (t.length : Int)) : M (qt t p) (rd p x) (rd p y) = rd p (M t x y) := by
  have hl := h.len
  have a := h.at x0 x1
  have b := h.at y0 y1
  rw [qt_len] at a b
  have cx := cf_in h.can x0 (by omega)
  unfold qt
  rw [tab_M a.1 a.2 b.1 b.2]
  show rd p (M t (cf p x) (cf p y)) = _
  rw [← h.lft y (cf p x) y0 y1 cx.1 (by omega), ← h.rgt x y x0 x1 y0 y1]
theorem Cg.qva (h : Cg t p) (hv : Va t) : Va (qt t p) := by
  have hl := h.len
  have hn := hv.le
  have hp := hv.pos
  have lf := frs_len p
  have hsq : Sq (qt t p) := by
    refine tab_sq (by have := (h.can.count (by omega)).1; omega) (by omega) fun x y a b c d => ?_
    obtain ⟨x', x0, x1, rfl⟩ := h.of (c := x) a (by rw [qt_len]; exact b)
    obtain ⟨y', y0, y1, rfl⟩ := h.of (c := y) c (by rw [qt_len]; exact d)
    have cx := cf_in h.can x0 (by omega)
    have cy := cf_in h.can y0 (by omega)
    have := h.at (x := M t (cf p x') (cf p y')) (hv.lo _ _ cx.1 (by omega) cy.1 (by omega)) (hv.hi _ _ cx.1 (by omega) cy.1 (by omega))
    rw [qt_len] at this
    exact this
  refine ⟨hsq, fun x y z a b c d e f => ?_⟩
  obtain ⟨x', x0, x1, rfl⟩ := h.of a b
  obtain ⟨y', y0, y1, rfl⟩ := h.of c d
  obtain ⟨z', z0, z1, rfl⟩ := h.of e f
  have p1 := hv.lo _ _ x0 x1 y0 y1
  have p2 := hv.hi _ _ x0 x1 y0 y1
  have p3 := hv.lo _ _ y0 y1 z0 z1
  have p4 := hv.hi _ _ y0 y1 z0 z1
  rw [h.mul hv.toSq x0 x1 y0 y1, h.mul hv.toSq y0 y1 z0 z1, h.mul hv.toSq p1 p2 z0 z1, h.mul hv.toSq x0 x1 p3 p4, hv.asc _ _ _ x0 x1 y0 y1 z0 z1]
theorem Cg.hom (h : Cg t p) (hv : Va t) : Hm t (qt t p) p :=
  ⟨h.len, fun x x0 x1 => h.at x0 x1, fun x y x0 x1 y0 y1 => (h.mul hv.toSq x0 x1 y0 y1).symm⟩
/-- The kernel of a homomorphism is a congruence. -/
theorem ker_cg (hv : Va t) (hf : Hm t u f) (hc : IsCl f.length (fun i j => rd f i = rd f j) p) : Cg t p := by
  have l1 := hc.len
  have l2 := hf.len
  have same : ∀ x y : Int, 0 ≤ x → x < (t.length : Int) → 0 ≤ y → y < (t.length : Int) → (rd p x = rd p y ↔ rd f x = rd f y) := fun x y a b c d => hc.eqv x y a (by omega) c (by omega)
  have cfx : ∀ x : Int, 0 ≤ x → x < (t.length : Int) → 0 ≤ cf p x ∧ cf p x < (t.length : Int) ∧ rd f x = rd f (cf p x) := fun x x0 x1 => by
    have a := cf_in hc.can x0 (show x < (p.length : Int) by omega)
    exact ⟨a.1, by omega, (same x (cf p x) x0 x1 a.1 (by omega)).1 a.2.2.symm⟩
  refine ⟨by omega, hc.can, fun x s x0 x1 s0 s1 => ?_, fun x s x0 x1 s0 s1 => ?_⟩
  · obtain ⟨a, b, c⟩ := cfx x x0 x1
    rw [same _ _ (hv.lo _ _ s0 s1 x0 x1) (hv.hi _ _ s0 s1 x0 x1) (hv.lo _ _ s0 s1 a b) (hv.hi _ _ s0 s1 a b), hf.mul _ _ s0 s1 x0 x1, hf.mul _ _ s0 s1 a b, c]
  · obtain ⟨a, b, c⟩ := cfx x x0 x1
    rw [same _ _ (hv.lo _ _ x0 x1 s0 s1) (hv.hi _ _ x0 x1 s0 s1) (hv.lo _ _ a b s0 s1) (hv.hi _ _ a b s0 s1), hf.mul _ _ x0 x1 s0 s1, hf.mul _ _ a b s0 s1, c]
/-- The values at the least elements of the classes. -/
noncomputable def vl (p f : List Int) : List Int := (List.range (frs p).length).map fun c : Nat => rd f (rd (frs p) c)
theorem vl_len : (vl p f).length = (frs p).length := by simp [vl]
theorem vl_at (hc : Cano p) (he : ∀ x y : Int, 0 ≤ x → x < (p.length : Int) → 0 ≤ y → y < (p.length : Int) → rd p x = rd p y → rd f x = rd f y) {x : Int} (x0 : 0 ≤ x) (x1 : x < (p.length : Int)) : rd (vl p f) (rd p x) = rd f x := by
  have a := hc.lt x0 x1
  have b := hc.frs_lt x0 x1
  have c := cf_in hc x0 x1
  unfold vl
  rw [rd_map a.1 b, show ((rd p x).toNat : Int) = rd p x by omega]
  exact (he x (cf p x) x0 x1 c.1 c.2.1 c.2.2.symm).symm
theorem vl_hom (hv : Va t) (hf : Hm t u f) (hc : IsCl f.length (fun i j => rd f i = rd f j) p) : Hm (qt t p) u (vl p f) ∧ (imgL u.length (vl p f)).length = (qt t p).length := by
  have l1 := hc.len
  have l2 := hf.len
  have cg := ker_cg hv hf hc
  have hat : ∀ x : Int, 0 ≤ x → x < (t.length : Int) → rd (vl p f) (rd p x) = rd f x := fun x x0 x1 => vl_at hc.can (fun x y a b c d e => (hc.eqv x y a (by omega) c (by omega)).1 e) x0 (by omega)
  have hh : Hm (qt t p) u (vl p f) := by
    refine ⟨by rw [vl_len, qt_len], fun c c0 c1 => ?_, fun c d c0 c1 d0 d1 => ?_⟩
    · obtain ⟨x, x0, x1, rfl⟩ := cg.of c0 c1
      rw [hat x x0 x1]; exact hf.into x x0 x1
    · obtain ⟨x, x0, x1, rfl⟩ := cg.of c0 c1
      obtain ⟨y, y0, y1, rfl⟩ := cg.of d0 d1
      rw [cg.mul hv.toSq x0 x1 y0 y1, hat x x0 x1, hat y y0 y1, hat _ (hv.lo _ _ x0 x1 y0 y1) (hv.hi _ _ x0 x1 y0 y1), hf.mul x y x0 x1 y0 y1]
  refine ⟨hh, ?_⟩
  have nd : (vl p f).Nodup := nodup_map fun i j hi hj e => by
    have a := hc.can.frs (c := (i : Int)) (by omega) (by omega)
    have b := hc.can.frs (c := (j : Int)) (by omega) (by omega)
    have := (hc.eqv _ _ a.1 (by omega) b.1 (by omega)).2 e
    omega
  rw [qt_len, ← vl_len (p := p) (f := f)]
  refine same_len (f := fun x => x) sel_nodup nd (fun x _ y _ e => e) (fun x hx => (sel_mem.1 hx).2.2) fun y hy => ⟨y, sel_mem.2 ?_, rfl⟩
  obtain ⟨c, c0, c1, rfl⟩ := rd_of_mem hy
  rw [vl_len, ← qt_len (t := t)] at c1
  have := hh.into c c0 c1
  exact ⟨this.1, by omega, hy⟩
end
end Go.Ab

/- Lists of maps in lexicographic order. Plain lemmas. No condition. -/
set_option linter.unusedVariables false
set_option linter.unusedSimpArgs false
set_option linter.unusedSectionVars false
namespace Go.Ab
open Go
def Lex (a b : List Int) : Prop := ∃ i : Int, 0 ≤ i ∧ (∀ j : Int, 0 ≤ j → j < i → rd a j = rd b j) ∧ rd a i < rd b i
/-- All maps of n points into m. -/
def allL (m : Nat) : Nat → List (List Int)
  | 0 => [[]]
  | n + 1 => (List.range m).flatMap fun y : Nat => (allL m n).map fun l => (y : Int) :: l
theorem rd_zero {y : Int} {l : List Int} : rd (y :: l) 0 = y := rfl
theorem rd_succ {y i : Int} {l : List Int} (h : 0 ≤ i) : rd (y :: l) (i + 1) = rd l i := by
  unfold rd
  rw [show (i + 1).toNat = i.toNat + 1 by omega]; rfl
theorem Lex.cons {y : Int} {a b : List Int} (h : Lex a b) : Lex (y :: a) (y :: b) := by
  obtain ⟨i, i0, h1, h2⟩ := h
  refine ⟨i + 1, by omega, fun j j0 j1 => ?_, by rw [rd_succ i0, rd_succ i0]; exact h2⟩
  by_cases hj : j = 0
  · rw [hj]; rfl
  · rw [show j = (j - 1) + 1 by omega, rd_succ (by omega), rd_succ (by omega)]; exact h1 _ (by omega) (by omega)
theorem allL_lex (m : Nat) : ∀ n, (allL m n).Pairwise Lex
  | 0 => by simp [allL]
  | n + 1 => by
    unfold allL
    rw [List.pairwise_flatMap]
    refine ⟨fun y _ => List.pairwise_map.2 ((allL_lex m n).imp fun h => h.cons), List.pairwise_lt_range.imp fun {a b} h x hx y hy => ?_⟩
    obtain ⟨x', _, rfl⟩ := List.mem_map.1 hx
    obtain ⟨y', _, rfl⟩ := List.mem_map.1 hy
    exact ⟨0, Int.le_refl _, fun j j0 j1 => by omega, by rw [rd_zero, rd_zero]; omega⟩
theorem allL_mem {m : Nat} : ∀ {n : Nat} {h : List Int}, h ∈ allL m n ↔ h.length = n ∧ ∀ x ∈ h, 0 ≤ x ∧ x < (m : Int)
  | 0, h => by
    simp only [allL, List.mem_singleton]
    exact ⟨fun e => by subst e; simp, fun e => List.eq_nil_of_length_eq_zero e.1⟩
  | n + 1, h => by
    unfold allL
    rw [List.mem_flatMap]
    constructor
    · rintro ⟨y, hy, hm⟩
      obtain ⟨l, hl, rfl⟩ := List.mem_map.1 hm
      obtain ⟨a, b⟩ := allL_mem.1 hl
      have := List.mem_range.1 hy
      refine ⟨by simp [a], fun x hx => ?_⟩
      rcases List.mem_cons.1 hx with rfl | hx
      · omega
      · exact b x hx
    · rintro ⟨a, b⟩
      cases h with
      | nil => simp at a
      | cons y l =>
        have hy := b y (by simp)
        refine ⟨y.toNat, List.mem_range.2 (by omega), List.mem_map.2 ⟨l, allL_mem.2 ⟨by simpa using a, fun x hx => b x (by simp [hx])⟩, ?_⟩⟩
        rw [show ((y.toNat : Nat) : Int) = y by omega]
theorem sum_const {α : Type} {f : α → Nat} {c : Nat} : ∀ {l : List α}, (∀ a ∈ l, f a ≤ c) → (l.map f).sum ≤ l.length * c
  | [], _ => by simp
  | a :: l, h => by
    have h1 := h a (by simp)
    have h2 := sum_const (l := l) (f := f) (c := c) fun b hb => h b (by simp [hb])
    simp only [List.map_cons, List.sum_cons, List.length_cons, Nat.add_mul, Nat.one_mul]
    omega
theorem allL_len (m : Nat) : ∀ n, (allL m n).length ≤ m ^ n
  | 0 => by simp [allL]
  | n + 1 => by
    unfold allL
    rw [List.length_flatMap]
    have := sum_const (l := List.range m) (f := fun y : Nat => ((allL m n).map fun l => (y : Int) :: l).length) (c := m ^ n) fun a _ => by simpa using allL_len m n
    rw [List.length_range] at this
    rw [Nat.pow_succ, Nat.mul_comm]
    exact this
/-- Maps without repetition. -/
def injL : Nat → List Int → List (List Int)
  | 0, _ => [[]]
  | n + 1, av => av.flatMap fun y => (injL n (av.erase y)).map fun l => y :: l
def facL : Nat → Nat → Nat
  | 0, _ => 1
  | n + 1, k => k * facL n (k - 1)
theorem injL_len : ∀ (n : Nat) (av : List Int), (injL n av).length ≤ facL n av.length
  | 0, _ => by simp [injL, facL]
  | n + 1, av => by
    unfold injL facL
    rw [List.length_flatMap]
    refine sum_const (f := fun y => ((injL n (av.erase y)).map fun l => y :: l).length) fun y hy => ?_
    have := injL_len n (av.erase y)
    rw [List.length_erase_of_mem hy] at this
    simpa using this
theorem injL_mem : ∀ {n : Nat} {av h : List Int}, h.length = n → h.Nodup → (∀ x ∈ h, x ∈ av) → h ∈ injL n av
  | 0, _, h, e, _, _ => by simp [injL, List.eq_nil_of_length_eq_zero e]
  | n + 1, av, h, e, nd, hm => by
    cases h with
    | nil => simp at e
    | cons y l =>
      obtain ⟨h1, h2⟩ := List.nodup_cons.1 nd
      unfold injL
      refine List.mem_flatMap.2 ⟨y, hm y (by simp), List.mem_map.2 ⟨l, injL_mem (by simpa using e) h2 fun x hx => ?_, rfl⟩⟩
      have ne : x ≠ y := fun e => h1 (e ▸ hx)
      exact (List.mem_erase_of_ne ne).2 (hm x (by simp [hx]))
theorem Lex.ne {a b : List Int} (h : Lex a b) : a ≠ b := fun e => by obtain ⟨i, _, _, h⟩ := h; rw [e] at h; omega
theorem lex_nodup {l : List (List Int)} (h : l.Pairwise Lex) : l.Nodup := h.imp fun h => h.ne
/-- The maps with P, in order. -/
structure Full (P : List Int → Prop) (l : List (List Int)) : Prop where
  lex : l.Pairwise Lex
  mem : ∀ h, h ∈ l ↔ P h
theorem filter_or {α : Type} {R : α → α → Prop} {B C D : α → Bool} : ∀ {l : List α}, l.Pairwise R → (∀ a, D a = (B a || C a)) → (∀ a, B a = true → C a = true → False) → (∀ a b, R a b → C a = true → B b = true → False) → l.filter D = l.filter B ++ l.filter C
  | [], _, _, _, _ => rfl
  | a :: l, hp, hd, hx, hR => by
    obtain ⟨h1, h2⟩ := List.pairwise_cons.1 hp
    have ih := filter_or h2 hd hx hR
    simp only [List.filter_cons, hd a]
    cases hb : B a with
    | true =>
      have hc : C a = false := by cases hc : C a with
        | false => rfl
        | true => exact (hx a hb hc).elim
      simp [hc, ih]
    | false =>
      cases hc : C a with
      | true =>
        have : l.filter B = [] := List.filter_eq_nil_iff.2 fun b hb' hB => hR a b (h1 b hb') hc hB
        simp [this, ih]
      | false => simp [ih]
theorem dtrue {p : Prop} {i : Decidable p} (h : @decide p i = true) : p := of_decide_eq_true h
/-- Those with E. -/
noncomputable def flt (l : List (List Int)) (E : List Int → Prop) : List (List Int) := open Classical in l.filter fun h => decide (E h)
theorem flt_mem {l : List (List Int)} {E : List Int → Prop} {h : List Int} : h ∈ flt l E ↔ h ∈ l ∧ E h := by
  classical
  unfold flt
  rw [List.mem_filter, decide_eq_true_iff]
/-- The maps with D whose value at x is y come next. -/
theorem Full.next {P : List Int → Prop} {l : List (List Int)} (hl : Full P l) {D : List Int → Prop} {x y : Int} (x0 : 0 ≤ x) (hD : ∀ a b, D a → D b → ∀ j : Int, 0 ≤ j → j < x → rd a j = rd b j) : flt l (fun h => D h ∧ rd h x < y + 1) = flt l (fun h => D h ∧ rd h x < y) ++ flt l (fun h => D h ∧ rd h x = y) := by
  classical
  unfold flt
  refine filter_or hl.lex (fun a => ?_) (fun a h1 h2 => ?_) fun a b hab h1 h2 => ?_
  · rw [Bool.eq_iff_iff]
    simp only [Bool.or_eq_true, decide_eq_true_iff]
    exact ⟨fun ⟨p, q⟩ => (Int.lt_or_eq_of_le (Int.lt_add_one_iff.1 q)).elim (fun h => .inl ⟨p, h⟩) fun h => .inr ⟨p, h⟩, fun h => h.elim (fun ⟨p, q⟩ => ⟨p, by omega⟩) fun ⟨p, q⟩ => ⟨p, by omega⟩⟩
  · have a1 := dtrue h1
    have a2 := dtrue h2
    omega
  · obtain ⟨d1, e1⟩ := dtrue h1
    obtain ⟨d2, e2⟩ := dtrue h2
    obtain ⟨i, i0, hi, hlt⟩ := hab
    by_cases h : i < x
    · have := hD a b d1 d2 i i0 h; omega
    · by_cases h' : i = x
      · rw [h'] at hlt; omega
      · have := hi x x0 (by omega); omega
open Classical in
theorem full_ex (n m : Nat) (P : List Int → Prop) (hP : ∀ h, P h → h.length = n ∧ ∀ x ∈ h, 0 ≤ x ∧ x < (m : Int)) : ∃ l, Full P l :=
  ⟨(allL m n).filter fun h => decide (P h), (allL_lex m n).filter _, fun h => by
    rw [List.mem_filter, allL_mem, decide_eq_true_iff]
    exact ⟨fun h => h.2, fun hp => ⟨hP h hp, hp⟩⟩⟩
theorem take_app_take {α : Type} {a b c : List α} {k : Nat} (h : a = (b ++ c).take k) (d : List α) : (a ++ d).take k = (b ++ c ++ d).take k ∨ k ≤ a.length := by
  by_cases hk : k ≤ a.length
  · exact .inr hk
  · left
    have : a = b ++ c := by
      rw [h]
      refine List.take_of_length_le ?_
      rw [h, List.length_take] at hk
      omega
    rw [this]
end Go.Ab

/- The search for homomorphisms: parts of maps, and what follows from one more value. Plain lemmas. No condition. -/
set_option linter.unusedVariables false
set_option linter.unusedSimpArgs false
set_option linter.unusedSectionVars false
namespace Go.Ab
open Go
/-- A homomorphism, one to one if asked. -/
def Hn (once : Bool) (t u : List (List Int)) (h : List Int) : Prop := Hm t u h ∧ (once = true → ∀ x y : Int, 0 ≤ x → x < (t.length : Int) → 0 ≤ y → y < (t.length : Int) → rd h x = rd h y → x = y)
/-- h agrees with f where f is known. -/
def Ag (n : Nat) (f h : List Int) : Prop := ∀ x : Int, 0 ≤ x → x < n → 0 ≤ rd f x → rd h x = rd f x
structure Pm (t u : List (List Int)) (once : Bool) (f : List Int) : Prop where
  len : f.length = t.length
  hi : ∀ x : Int, 0 ≤ x → x < (t.length : Int) → rd f x < (u.length : Int)
  inj : once = true → ∀ x y : Int, 0 ≤ x → x < (t.length : Int) → 0 ≤ y → y < (t.length : Int) → 0 ≤ rd f x → rd f x = rd f y → x = y
def Clo (t u : List (List Int)) (f : List Int) : Prop := ∀ a b : Int, 0 ≤ a → a < (t.length : Int) → 0 ≤ b → b < (t.length : Int) → 0 ≤ rd f a → 0 ≤ rd f b → rd f (M t a b) = M u (rd f a) (rd f b)
/-- On the way: g is known, wl is to do. -/
structure Ws (t u : List (List Int)) (once : Bool) (f : List Int) (x y : Int) (g : List Int) (wl : List (Int × Int)) : Prop where
  pm : Pm t u once g
  ext : ∀ z : Int, 0 ≤ z → z < (t.length : Int) → 0 ≤ rd f z → rd g z = rd f z
  x0 : 0 ≤ x
  y0 : 0 ≤ y
  pt : rd g x = y ∨ (x, y) ∈ wl
  cl : ∀ a b : Int, 0 ≤ a → a < (t.length : Int) → 0 ≤ b → b < (t.length : Int) → 0 ≤ rd g a → 0 ≤ rd g b → rd g (M t a b) = M u (rd g a) (rd g b) ∨ (M t a b, M u (rd g a) (rd g b)) ∈ wl
  ok : ∀ h, Hn once t u h → Ag t.length f h → rd h x = y → Ag t.length g h ∧ ∀ e ∈ wl, rd h e.1 = e.2
  into : ∀ e ∈ wl, (0 ≤ e.1 ∧ e.1 < (t.length : Int)) ∧ (0 ≤ e.2 ∧ e.2 < (u.length : Int))
/-- How much is known. -/
noncomputable def nset (n : Nat) (f : List Int) : Nat := (sel (fun x => 0 ≤ rd f x) 0 n).length
theorem nset_le (n : Nat) (f : List Int) : nset n f ≤ n := sel_len
theorem nset_lt {n : Nat} {f g : List Int} {x : Int} (x0 : 0 ≤ x) (x1 : x < n) (h : ∀ z : Int, 0 ≤ z → z < n → 0 ≤ rd f z → 0 ≤ rd g z) (hf : rd f x < 0) (hg : 0 ≤ rd g x) : nset n f < nset n g := by
  have := (List.nodup_cons.2 ⟨fun hm => by have := (sel_mem.1 hm).2.2; omega, sel_nodup (P := fun z => 0 ≤ rd f z) (i := 0) (m := n)⟩ : (x :: sel (fun z => 0 ≤ rd f z) 0 n).Nodup).length_le_of_subset (l₂ := sel (fun z => 0 ≤ rd g z) 0 n) fun z hz => by
    rcases List.mem_cons.1 hz with rfl | hz
    · exact sel_mem.2 ⟨x0, by omega, hg⟩
    · obtain ⟨a, b, c⟩ := sel_mem.1 hz
      exact sel_mem.2 ⟨a, b, h z a (by omega) c⟩
  simp only [List.length_cons] at this
  unfold nset; omega
/-- The products of a with what is known. -/
def prd (t u : List (List Int)) (g : List Int) (a b : Int) (k : Nat) : List (Int × Int) := (List.range k).flatMap fun z : Nat => if 0 ≤ rd g z then [(M t a z, M u b (rd g z)), (M t z a, M u (rd g z) b)] else []
section
variable {t u : List (List Int)} {once : Bool} {f : List Int} {x y : Int} {g : List Int} {wl : List (Int × Int)}
theorem prd_succ {a b : Int} {z : Int} (z0 : 0 ≤ z) : prd t u g a b (z + 1).toNat = prd t u g a b z.toNat ++ if 0 ≤ rd g z then [(M t a z, M u b (rd g z)), (M t z a, M u (rd g z) b)] else [] := by
  unfold prd
  rw [show (z + 1).toNat = z.toNat + 1 by omega, List.range_succ, List.flatMap_append]
  simp only [List.flatMap_cons, List.flatMap_nil, List.append_nil]
  rw [show ((z.toNat : Nat) : Int) = z by omega]
theorem prd_len {a b : Int} {k : Nat} : (prd t u g a b k).length ≤ 2 * k := by
  unfold prd
  rw [List.length_flatMap]
  have := sum_const (l := List.range k) (f := fun z : Nat => (if 0 ≤ rd g z then [(M t a z, M u b (rd g z)), (M t z a, M u (rd g z) b)] else [] : List (Int × Int)).length) (c := 2) fun z _ => by split <;> simp
  rw [List.length_range] at this
  omega
theorem prd_mem {a b : Int} {k : Nat} {e : Int × Int} : e ∈ prd t u g a b k ↔ ∃ z : Int, 0 ≤ z ∧ z < k ∧ 0 ≤ rd g z ∧ (e = (M t a z, M u b (rd g z)) ∨ e = (M t z a, M u (rd g z) b)) := by
  unfold prd
  rw [List.mem_flatMap]
  constructor
  · rintro ⟨z, hz, he⟩
    have := List.mem_range.1 hz
    split at he
    · rename_i h
      exact ⟨z, by omega, by omega, h, by simpa using he⟩
    · simp at he
  · rintro ⟨z, z0, z1, h, he⟩
    refine ⟨z.toNat, List.mem_range.2 (by omega), ?_⟩
    rw [show ((z.toNat : Nat) : Int) = z by omega, if_pos h]
    simpa using he
theorem Ws.zero (pm : Pm t u once f) (hc : Clo t u f) (x0 : 0 ≤ x) (x1 : x < (t.length : Int)) (y0 : 0 ≤ y) (y1 : y < (u.length : Int)) : Ws t u once f x y f [(x, y)] :=
  ⟨pm, fun _ _ _ _ => rfl, x0, y0, .inr (by simp), fun a b a0 a1 b0 b1 h1 h2 => .inl (hc a b a0 a1 b0 b1 h1 h2), fun h _ ha hx => ⟨ha, fun e he => by rw [List.mem_singleton.1 he]; exact hx⟩, fun e he => by rw [List.mem_singleton.1 he]; exact ⟨⟨x0, x1⟩, y0, y1⟩⟩
theorem Ws.skip {a b : Int} (w : Ws t u once f x y g (wl ++ [(a, b)])) (h : rd g a = b) : Ws t u once f x y g wl := by
  have key : ∀ {p q : Int}, (p, q) ∈ wl ++ [(a, b)] → rd g p = q ∨ (p, q) ∈ wl := fun hm => by
    rcases List.mem_append.1 hm with hm | hm
    · exact .inr hm
    · have e := List.mem_singleton.1 hm
      have e1 := congrArg Prod.fst e
      have e2 := congrArg Prod.snd e
      simp only at e1 e2
      rw [e1, e2]; exact .inl h
  exact ⟨w.pm, w.ext, w.x0, w.y0, w.pt.elim .inl key, fun p q p0 p1 q0 q1 h1 h2 => (w.cl p q p0 p1 q0 q1 h1 h2).elim .inl key, fun h' a' b' c' => ⟨(w.ok h' a' b' c').1, fun e he => (w.ok h' a' b' c').2 e (List.mem_append_left _ he)⟩, fun e he => w.into e (List.mem_append_left _ he)⟩
theorem Ws.bad {a b : Int} (w : Ws t u once f x y g (wl ++ [(a, b)])) (h0 : 0 ≤ rd g a) (h : rd g a ≠ b) : ∀ h, Hn once t u h → Ag t.length f h → rd h x = y → False := by
  intro h' h1 h2 h3
  obtain ⟨p, q⟩ := w.ok h' h1 h2 h3
  have i := w.into (a, b) (by simp)
  have := q (a, b) (by simp)
  have := p a i.1.1 i.1.2 h0
  simp only at *
  omega
theorem Ws.dup {a b z : Int} (w : Ws t u once f x y g (wl ++ [(a, b)])) (ho : once = true) (z0 : 0 ≤ z) (z1 : z < (t.length : Int)) (hz : rd g z = b) (ha : rd g a < 0) : ∀ h, Hn once t u h → Ag t.length f h → rd h x = y → False := by
  intro h' h1 h2 h3
  obtain ⟨p, q⟩ := w.ok h' h1 h2 h3
  have i := w.into (a, b) (by simp)
  have e1 := q (a, b) (by simp)
  simp only at i e1
  have e2 := p z z0 z1 (by omega)
  have := h1.2 ho z a z0 z1 i.1.1 i.1.2 (by omega)
  rw [this] at hz; omega
theorem Ws.set {a b : Int} (hv : Sq t) (hu : Sq u) (w : Ws t u once f x y g (wl ++ [(a, b)])) (ha : rd g a < 0) (ho : once = true → ∀ z : Int, 0 ≤ z → z < (t.length : Int) → rd g z ≠ b) : Ws t u once f x y (g.set a.toNat b) (wl ++ prd t u (g.set a.toNat b) a b t.length) := by
  have i := w.into (a, b) (by simp)
  simp only at i
  obtain ⟨⟨a0, a1⟩, b0, b1⟩ := i
  have hl := w.pm.len
  have rs : ∀ j : Int, 0 ≤ j → rd (g.set a.toNat b) j = if j = a then b else rd g j := fun j j0 => rd_set a0 (by omega) j0
  have old : ∀ j : Int, 0 ≤ j → 0 ≤ rd g j → rd (g.set a.toNat b) j = rd g j := fun j j0 h => by
    rw [rs j j0, if_neg]; intro e; rw [e] at h; omega
  have new : rd (g.set a.toNat b) a = b := by rw [rs a a0, if_pos rfl]
  have hi : ∀ j : Int, 0 ≤ j → j < (t.length : Int) → rd (g.set a.toNat b) j < (u.length : Int) := fun j j0 j1 => by
    rw [rs j j0]; split
    · exact b1
    · exact w.pm.hi j j0 j1
  have mv : ∀ {p q : Int}, 0 ≤ p → (rd g p = q ∨ (p, q) ∈ wl ++ [(a, b)]) → 0 ≤ q → rd (g.set a.toNat b) p = q ∨ (p, q) ∈ wl ++ prd t u (g.set a.toNat b) a b t.length := fun {p q} p0 h q0 => by
    rcases h with h | h
    · left; rw [old p p0 (by omega)]; exact h
    · rcases List.mem_append.1 h with h | h
      · exact .inr (List.mem_append_left _ h)
      · have e := List.mem_singleton.1 h
        have e1 := congrArg Prod.fst e
        have e2 := congrArg Prod.snd e
        simp only at e1 e2
        rw [e1, e2]; exact .inl new
  refine ⟨⟨by simpa using hl, hi, fun ht p q p0 p1 q0 q1 hp he => ?_⟩, fun z z0 z1 hz => ?_, w.x0, w.y0, ?_, fun p q p0 p1 q0 q1 hp hq => ?_, fun h h1 h2 h3 => ?_, fun e he => ?_⟩
  · rw [rs p p0] at hp he
    rw [rs q q0] at he
    by_cases hpa : p = a
    · rw [if_pos hpa] at he
      by_cases hqa : q = a
      · rw [hpa, hqa]
      · rw [if_neg hqa] at he; exact absurd he.symm (ho ht q q0 q1)
    · rw [if_neg hpa] at he hp
      by_cases hqa : q = a
      · rw [if_pos hqa] at he; exact absurd he (ho ht p p0 p1)
      · rw [if_neg hqa] at he; exact w.pm.inj ht p q p0 p1 q0 q1 hp he
  · have := w.ext z z0 z1 hz
    rw [old z z0 (by omega)]; exact this
  · exact mv w.x0 w.pt w.y0
  · by_cases hpa : p = a
    · right
      rw [hpa, new]
      exact List.mem_append_right _ (prd_mem.2 ⟨q, q0, q1, hq, .inl rfl⟩)
    · by_cases hqa : q = a
      · right
        rw [hqa, new]
        exact List.mem_append_right _ (prd_mem.2 ⟨p, p0, p1, hp, .inr rfl⟩)
      · have ep : rd (g.set a.toNat b) p = rd g p := by rw [rs p p0, if_neg hpa]
        have eq : rd (g.set a.toNat b) q = rd g q := by rw [rs q q0, if_neg hqa]
        have hp1 := hi p p0 p1
        have hq1 := hi q q0 q1
        rw [ep] at hp hp1 ⊢
        rw [eq] at hq hq1 ⊢
        exact mv (hv.lo _ _ p0 p1 q0 q1) (w.cl p q p0 p1 q0 q1 hp hq) (hu.lo _ _ hp hp1 hq hq1)
  · obtain ⟨h4, h5⟩ := w.ok h h1 h2 h3
    have hab := h5 (a, b) (by simp)
    simp only at hab
    have ag : Ag t.length (g.set a.toNat b) h := fun z z0 z1 hz => by
      rw [rs z z0] at hz ⊢
      by_cases hza : z = a
      · rw [if_pos hza, hza]; exact hab
      · rw [if_neg hza] at hz ⊢; exact h4 z z0 z1 hz
    refine ⟨ag, fun e he => ?_⟩
    rcases List.mem_append.1 he with he | he
    · exact h5 e (List.mem_append_left _ he)
    · obtain ⟨z, z0, z1, hz, he⟩ := prd_mem.1 he
      have ez := ag z z0 z1 hz
      rcases he with rfl | rfl
      · simp only; rw [h1.1.mul _ _ a0 a1 z0 z1, hab, ez]
      · simp only; rw [h1.1.mul _ _ z0 z1 a0 a1, hab, ez]
  · rcases List.mem_append.1 he with he | he
    · exact w.into e (List.mem_append_left _ he)
    · obtain ⟨z, z0, z1, hz, he⟩ := prd_mem.1 he
      have hz1 := hi z z0 z1
      rcases he with rfl | rfl
      · exact ⟨⟨hv.lo _ _ a0 a1 z0 z1, hv.hi _ _ a0 a1 z0 z1⟩, hu.lo _ _ b0 b1 hz hz1, hu.hi _ _ b0 b1 hz hz1⟩
      · exact ⟨⟨hv.lo _ _ z0 z1 a0 a1, hv.hi _ _ z0 z1 a0 a1⟩, hu.lo _ _ hz hz1 b0 b1, hu.hi _ _ hz hz1 b0 b1⟩
/-- What is known at the end. -/
structure Wd (t u : List (List Int)) (once : Bool) (f : List Int) (x y : Int) (g : List Int) : Prop where
  pm : Pm t u once g
  clo : Clo t u g
  ext : ∀ z : Int, 0 ≤ z → z < (t.length : Int) → 0 ≤ rd f z → rd g z = rd f z
  value : rd g x = y
  iff : ∀ h, Hn once t u h → (Ag t.length g h ↔ Ag t.length f h ∧ rd h x = y)
theorem Ws.done (w : Ws t u once f x y g []) (x1 : x < (t.length : Int)) : Wd t u once f x y g := by
  have hx : rd g x = y := w.pt.elim id fun h => by simp at h
  refine ⟨w.pm, fun a b a0 a1 b0 b1 h1 h2 => (w.cl a b a0 a1 b0 b1 h1 h2).elim id fun h => by simp at h, w.ext, hx, fun h hh => ⟨fun hg => ⟨fun z z0 z1 hz => ?_, ?_⟩, fun ⟨h1, h2⟩ => (w.ok h hh h1 h2).1⟩⟩
  · have := w.ext z z0 z1 hz
    rw [← this]; exact hg z z0 z1 (by omega)
  · have := hg x w.x0 x1 (by have := w.y0; omega)
    omega
/-- A whole map that is closed is a homomorphism, and the only one. -/
theorem Clo.whole (hv : Sq t) (pm : Pm t u once g) (hc : Clo t u g) (hw : ∀ z : Int, 0 ≤ z → z < (t.length : Int) → 0 ≤ rd g z) : Hn once t u g ∧ ∀ h, Hn once t u h → (Ag t.length g h ↔ h = g) := by
  refine ⟨⟨⟨pm.len, fun x x0 x1 => ⟨hw x x0 x1, pm.hi x x0 x1⟩, fun x y x0 x1 y0 y1 => hc x y x0 x1 y0 y1 (hw x x0 x1) (hw y y0 y1)⟩, fun ho x y x0 x1 y0 y1 e => pm.inj ho x y x0 x1 y0 y1 (hw x x0 x1) e⟩, fun h hh => ⟨fun ha => ?_, fun e z z0 z1 _ => by rw [e]⟩⟩
  have l1 := hh.1.len
  have l2 := pm.len
  exact rd_ext (by omega) fun j j0 j1 => ha j j0 (by omega) (hw j j0 (by omega))
end
end Go.Ab

/- A list of pairs that is worked off from its end. Plain lemmas. No condition. -/
set_option linter.unusedVariables false
set_option linter.unusedSimpArgs false
set_option linter.unusedSectionVars false
namespace Go.Ab
open Go
def flatP (wl : List (Int × Int)) : List AV := wl.flatMap fun e => [.int .i64 e.1, .int .i64 e.2]
theorem flatP_len : ∀ wl : List (Int × Int), (flatP wl).length = 2 * wl.length
  | [] => rfl
  | e :: l => by
    have := flatP_len l
    unfold flatP at this ⊢
    simp only [List.flatMap_cons, List.length_append, List.length_cons, List.length_nil]
    omega
theorem flatP_app (a b : List (Int × Int)) : flatP (a ++ b) = flatP a ++ flatP b := by unfold flatP; rw [List.flatMap_append]
/-- The pairs wl, and what lies behind them. -/
def ownP (s : Sl) (wl : List (Int × Int)) : Asr := ⟨fun H fp => s.len = wl.length ∧ ∃ b vs, s.p = some ⟨b, 0⟩ ∧ H[b]? = some (.cells (flatP wl ++ vs) 2) ∧ fp = [b], fun ⟨h1, b, vs, h2, h3, h4⟩ hf => ⟨h1, b, vs, h2, by rw [hf b (by simp [h4])]; exact h3, h4⟩⟩
section
variable {A : Type} {Q : A → AH → Prop} {H0 H : AH} {L : List Asr} {s : Sl} {wl : List (Int × Int)} {lo : Nat}
theorem Sep.plen (h : Sep H0 H (ownP s wl :: L)) : s.len = wl.length := by obtain ⟨f, hf⟩ := h.head; exact hf.1
theorem sp_mk2 {a b : Int} {K : (ρ : Type) → Nat → (A → AH → Option ρ) → Sl → AH → Option ρ} (hS : Sep H0 H L) (hK : ∀ s H', Sep H0 H' (ownP s [(a, b)] :: L) → Ev (fun ρ k κ => K ρ k κ s H') Q) : Ev (fun ρ k κ => mkb H [.int .i64 a, .int .i64 b] 2 1 (K ρ k κ)) Q :=
  ev_mkb (hK _ _ (hS.new (by simp) ⟨_, rfl⟩ ⟨rfl, _, [], rfl, by simp [flatP], rfl⟩))
/-- The last pair is read. -/
theorem sp_last {a b : Int} {n : Int} {K : (ρ : Type) → Nat → (A → AH → Option ρ) → Int → Int → Option ρ} (hS : Sep H0 H (ownP s (wl ++ [(a, b)]) :: L)) (hn : n = wl.length) (hK : Ev (fun ρ k κ => K ρ k κ a b) Q) : Ev (fun ρ k κ => idx s n 2 fun p => ldn H p 2 fun vs => castLfs [(.int .i64), (.int .i64)] vs fun vs' => match vs' with | [.int _ a0, .int _ a1] => K ρ k κ a0 a1 | _ => none) Q := by
  obtain ⟨f, h1, b', vs, h2, h3, h4⟩ := hS.head
  subst hn
  refine ev_idx h2 (by omega) (by rw [h1]; simp; omega) ?_
  have e : decide (0 + wl.length * 2 + 2 ≤ (flatP (wl ++ [(a, b)]) ++ vs).length) = true := by
    rw [decide_eq_true_iff, List.length_append, flatP_len]; simp; omega
  have d : ((flatP (wl ++ [(a, b)]) ++ vs).drop (0 + wl.length * 2)).take 2 = [.int .i64 a, .int .i64 b] := by
    rw [flatP_app, List.append_assoc, show 0 + wl.length * 2 = (flatP wl).length by rw [flatP_len]; omega, List.drop_left]
    simp [flatP]
  simp only [ldn, h3, Int.toNat_natCast, e, cond_true, d]
  simpa [castLfs, castLf, asI] using hK
/-- .. and cut off. -/
theorem sp_cutP {e : Int × Int} {n : Int} {K : (ρ : Type) → Nat → (A → AH → Option ρ) → Sl → Option ρ} (hS : Sep H0 H (ownP s (wl ++ [e]) :: L)) (hn : n = wl.length) (hK : ∀ s', Sep H0 H (ownP s' wl :: L) → Ev (fun ρ k κ => K ρ k κ s') Q) : Ev (fun ρ k κ => slc s 0 n 2 (K ρ k κ)) Q := by
  obtain ⟨f, h1, b', vs, h2, h3, h4⟩ := hS.head
  subst hn
  have c : (decide ((0 : Int) ≤ 0) && decide ((0 : Int) ≤ (wl.length : Int)) && decide ((wl.length : Int) ≤ (s.len : Int)) && (decide ((0 : Int) = 0) || decide (2 = 1))) = true := by
    rw [h1]; simp; omega
  have key : ∀ (ρ : Type) (κ : Sl → Option ρ), slc s 0 (wl.length : Int) 2 κ = κ ⟨some ⟨b', 0⟩, wl.length⟩ := fun ρ κ => by
    unfold slc
    rw [c, h2]
    simp
  simp only [key]
  refine hK _ (hS.mono fun f' hf => ?_)
  obtain ⟨g1, b2, vs2, g2, g3, g4⟩ := hf
  rw [h2] at g2
  refine ⟨f', ⟨rfl, b2, flatP [e] ++ vs2, by simpa using g2, by rw [g3, flatP_app, List.append_assoc], g4⟩, .refl _⟩
/-- Two pairs are laid behind the others. -/
theorem sp_app2 {a b c d : Int} {K : (ρ : Type) → Nat → (A → AH → Option ρ) → Sl → AH → Option ρ} (hS : Sep H0 H (ownP s wl :: L)) (hlo : lo ≤ H0.length) (hr : (wl.length + 2) * 16 ≤ 70368744177664) (hK : ∀ s' H', Sep H0 H' (ownP s' (wl ++ [(a, b), (c, d)]) :: L) → Ev (fun ρ k κ => K ρ k κ s' H') Q) : Ev (fun ρ k κ => mkb H [.int .i64 a, .int .i64 b, .int .i64 c, .int .i64 d] 2 2 fun t H3 => appS lo H3 s t 2 16 (K ρ k κ)) Q := by
  have hS2 : Sep H0 (H ++ [.cells [.int .i64 a, .int .i64 b, .int .i64 c, .int .i64 d] 2]) (ownP s wl :: L) := hS.on ⟨_, rfl⟩
  refine ev_mkb ?_
  have e : decide (0 + 2 * 2 ≤ [(AV.int .i64 a), .int .i64 b, .int .i64 c, .int .i64 d].length) = true := by simp
  simp only [appS, ldn, List.getElem?_concat_length, e, cond_true, List.drop_zero]
  generalize hG : H ++ [Blk.cells [AV.int .i64 a, .int .i64 b, .int .i64 c, .int .i64 d] 2] = G at hS2 ⊢
  obtain ⟨hle, fp, hs, nd, hb⟩ := id hS2
  cases hs with
  | cons hP hL =>
  obtain ⟨h1, b', vs, h2, h3, h4⟩ := hP
  subst h4
  have hbl := hb b' (by simp)
  have hlo' : lo ≤ b' := by omega
  have hr' : decide ((s.len + 2) * 16 ≤ room) = true := by rw [h1, decide_eq_true_iff]; exact hr
  have hfit : decide (0 + s.len * 2 ≤ (flatP wl ++ vs).length) = true := by rw [decide_eq_true_iff, List.length_append, flatP_len]; omega
  have hc : ((flatP wl ++ vs).drop 0).take (s.len * 2) = flatP wl := by
    rw [List.drop_zero, h1, show wl.length * 2 = (flatP wl).length by rw [flatP_len]; omega, List.take_left]
  have hsi : singles ([AV.int .i64 a, .int .i64 b, .int .i64 c, .int .i64 d].take (2 * 2)) = true := rfl
  simp only [app, hr', h2, h3, hlo', hfit, hc, hsi, decide_true, Bool.and_self, cond_true, cond_false]
  have hd : decide (2 = 0) = false := by decide
  have hl4 : decide (([AV.int .i64 a, .int .i64 b, .int .i64 c, .int .i64 d].take (2 * 2)).length = 2 * 2) = true := by simp
  simp only [hd, hl4, cond_false, cond_true, Bool.and_self, Bool.true_and]
  refine hK _ _ (hS2.upd fun f hf nf hlt => ?_)
  obtain ⟨g1, b2, vs2, g2, g3, g4⟩ := hf
  have hb2 : b2 = b' := by rw [h2] at g2; simpa using g2.symm
  subst hb2
  refine ⟨[G.length], ⟨by simp [h1], G.length, [], rfl, ?_, rfl⟩, by simp, fun c hc => .inr (by simp at hc ⊢; omega), by simp, fun c hc hnf => ?_⟩
  · simp [flatP_app, flatP]
  · rw [List.getElem?_append_left (by simpa using hc), List.getElem?_set_ne (fun e => hnf (by rw [g4, e]; simp))]
end
end Go.Ab

/- What a search has listed so far. Plain lemmas. No condition. -/
set_option linter.unusedVariables false
set_option linter.unusedSimpArgs false
set_option linter.unusedSectionVars false
namespace Go.Ab
open Go
theorem Full.split {P : List Int → Prop} {l : List (List Int)} (hl : Full P l) {D : List Int → Prop} {x y : Int} (x0 : 0 ≤ x) (hD : ∀ a b, D a → D b → ∀ j : Int, 0 ≤ j → j < x → rd a j = rd b j) : flt l D = flt l (fun h => D h ∧ rd h x < y) ++ flt l (fun h => D h ∧ ¬ rd h x < y) := by
  classical
  unfold flt
  refine filter_or hl.lex (fun a => ?_) (fun a h1 h2 => ?_) fun a b hab h1 h2 => ?_
  · rw [Bool.eq_iff_iff]
    simp only [Bool.or_eq_true, decide_eq_true_iff]
    exact ⟨fun p => (Classical.em (rd a x < y)).elim (fun h => .inl ⟨p, h⟩) fun h => .inr ⟨p, h⟩, fun h => h.elim (fun h => h.1) fun h => h.1⟩
  · exact (dtrue h2).2 (dtrue h1).2
  · obtain ⟨d1, e1⟩ := dtrue h1
    obtain ⟨d2, e2⟩ := dtrue h2
    obtain ⟨i, i0, hi, hlt⟩ := hab
    by_cases h : i < x
    · have := hD a b d1 d2 i i0 h; omega
    · by_cases h' : i = x
      · rw [h'] at hlt; omega
      · have := hi x x0 (by omega); omega
theorem filter_one {α : Type} {P : α → Bool} {a : α} : ∀ {l : List α}, l.Nodup → a ∈ l → (∀ h ∈ l, P h = true ↔ h = a) → l.filter P = [a]
  | [], _, h, _ => by simp at h
  | b :: l, nd, hm, hP => by
    obtain ⟨h1, h2⟩ := List.nodup_cons.1 nd
    rw [List.filter_cons]
    by_cases hb : b = a
    · rw [if_pos ((hP b (by simp)).2 hb)]
      have : l.filter P = [] := List.filter_eq_nil_iff.2 fun c hc hP' => h1 (by rw [hb, ← (hP c (by simp [hc])).1 hP']; exact hc)
      rw [this, hb]
    · rw [if_neg (fun h => hb ((hP b (by simp)).1 h))]
      exact filter_one h2 ((List.mem_cons.1 hm).resolve_left fun e => hb e.symm) fun h hh => hP h (by simp [hh])
/-- What has been listed: at most K of them. -/
noncomputable def lst (K : Nat) (o full : List (List Int)) (D : List Int → Prop) : List (List Int) := (o ++ flt full D).take K
section
variable {K : Nat} {o full : List (List Int)} {D E : List Int → Prop}
theorem flt_congr (h : ∀ a ∈ full, D a ↔ E a) : flt full D = flt full E := by
  classical
  unfold flt
  exact List.filter_congr fun a ha => decide_eq_decide.2 (h a ha)
theorem flt_none (h : ∀ a ∈ full, ¬ D a) : flt full D = [] := by
  classical
  unfold flt
  exact List.filter_eq_nil_iff.2 fun a ha => by simpa using h a ha
theorem flt_all (h : ∀ a ∈ full, D a) : flt full D = full := by
  classical
  unfold flt
  exact List.filter_eq_self.2 fun a ha => by simpa using h a ha
theorem lst_congr (h : ∀ a ∈ full, D a ↔ E a) : lst K o full D = lst K o full E := by
  unfold lst
  rw [flt_congr h]
theorem lst_none (hK : o.length ≤ K) (h : ∀ a ∈ full, ¬ D a) : lst K o full D = o := by
  unfold lst
  rw [flt_none h, List.append_nil, List.take_of_length_le hK]
theorem lst_one {a : List Int} (hK : o.length < K) (hn : full.Nodup) (ha : a ∈ full) (h : ∀ b ∈ full, D b ↔ b = a) : lst K o full D = o ++ [a] := by
  classical
  have : flt full D = [a] := by
    unfold flt
    exact filter_one hn ha fun b hb => by rw [decide_eq_true_iff]; exact h b hb
  unfold lst
  rw [this]
  exact List.take_of_length_le (by simp; omega)
theorem lst_next {P : List Int → Prop} (hF : Full P full) {x y : Int} (x0 : 0 ≤ x) (hD : ∀ a b, D a → D b → ∀ j : Int, 0 ≤ j → j < x → rd a j = rd b j) (hK : (lst K o full fun h => D h ∧ rd h x < y).length < K) : lst K o full (fun h => D h ∧ rd h x < y + 1) = lst K (lst K o full fun h => D h ∧ rd h x < y) full fun h => D h ∧ rd h x = y := by
  have e : lst K o full (fun h => D h ∧ rd h x < y) = o ++ flt full (fun h => D h ∧ rd h x < y) := by
    unfold lst at hK ⊢
    rw [List.length_take] at hK
    exact List.take_of_length_le (by omega)
  rw [e]
  unfold lst
  rw [hF.next x0 hD, List.append_assoc]
theorem lst_full {P : List Int → Prop} (hF : Full P full) {x y : Int} (x0 : 0 ≤ x) (hD : ∀ a b, D a → D b → ∀ j : Int, 0 ≤ j → j < x → rd a j = rd b j) (hK : K ≤ (lst K o full fun h => D h ∧ rd h x < y).length) : lst K o full (fun h => D h ∧ rd h x < y) = lst K o full D := by
  unfold lst at hK ⊢
  rw [List.length_take] at hK
  rw [hF.split (D := D) (y := y) x0 hD, ← List.append_assoc]
  exact (List.take_append_of_le_length (by omega)).symm
theorem lst_len : (lst K o full D).length ≤ K := by unfold lst; rw [List.length_take]; omega
end
end Go.Ab

/- The reference's search: the images of the first elements. Plain lemmas. No condition. -/
set_option linter.unusedVariables false
set_option linter.unusedSimpArgs false
set_option linter.unusedSectionVars false
namespace Go.Ab
open Go
structure PreH (inject : Bool) (t u : List (List Int)) (f : List Int) : Prop where
  into : ∀ j : Int, 0 ≤ j → j < (f.length : Int) → 0 ≤ rd f j ∧ rd f j < (u.length : Int)
  mul : ∀ y z : Int, 0 ≤ y → y < (f.length : Int) → 0 ≤ z → z < (f.length : Int) → M t y z < (f.length : Int) → rd f (M t y z) = M u (rd f y) (rd f z)
  inj : inject = true → ∀ y z : Int, 0 ≤ y → y < (f.length : Int) → 0 ≤ z → z < (f.length : Int) → rd f y = rd f z → y = z
def Pfx (f h : List Int) : Prop := ∀ j : Int, 0 ≤ j → j < (f.length : Int) → rd h j = rd f j
def C1 (inject : Bool) (f : List Int) (x y : Int) : Prop := ¬ ((inject = true ∧ y ≠ x) ∧ rd f y = rd f x)
def C2 (t u : List (List Int)) (f : List Int) (x y z : Int) : Prop := (y = x ∨ z = x ∨ M t y z = x) → M t y z < (f.length : Int) → rd f (M t y z) = M u (rd f y) (rd f z)
/-- The image of x fits to those of the others. -/
def Fit (inject : Bool) (t u : List (List Int)) (f : List Int) (x : Int) : Prop := ∀ y : Int, 0 ≤ y → y < (f.length : Int) → C1 inject f x y ∧ ∀ z : Int, 0 ≤ z → z < (f.length : Int) → C2 t u f x y z
section
variable {inject : Bool} {t u : List (List Int)} {f h : List Int} {c : Int}
theorem pfx_snoc : Pfx (f ++ [c]) h ↔ Pfx f h ∧ rd h (f.length : Int) = c := by
  constructor
  · intro hp
    refine ⟨fun j j0 j1 => ?_, ?_⟩
    · have := hp j j0 (by simp; omega)
      rwa [rd_before j0 j1] at this
    · have := hp (f.length : Int) (by omega) (by simp; omega)
      rwa [rd_snoc (by omega) (by omega), if_pos rfl] at this
  · rintro ⟨h1, h2⟩ j j0 j1
    simp at j1
    rw [rd_snoc j0 (by omega)]
    split
    · rename_i e; rw [e]; exact h2
    · exact h1 j j0 (by omega)
theorem PreH.nil : PreH inject t u [] := ⟨fun j a b => by simp at b; omega, fun y z a b => by simp at b; omega, fun _ y z a b => by simp at b; omega⟩
theorem PreH.snoc (hv : Sq t) (hl : f.length < t.length) (hp : PreH inject t u f) (c0 : 0 ≤ c) (c1 : c < (u.length : Int)) (hf : Fit inject t u (f ++ [c]) (f.length : Int)) : PreH inject t u (f ++ [c]) := by
  have L : ((f ++ [c]).length : Int) = (f.length : Int) + 1 := by simp
  have old : ∀ j : Int, 0 ≤ j → j < (f.length : Int) → rd (f ++ [c]) j = rd f j := fun j => rd_before
  have new : rd (f ++ [c]) (f.length : Int) = c := by rw [rd_snoc (by omega) (by omega), if_pos rfl]
  refine ⟨fun j j0 j1 => ?_, fun y z y0 y1 z0 z1 hm => ?_, fun hi y z y0 y1 z0 z1 e => ?_⟩
  · by_cases hj : j = (f.length : Int)
    · rw [hj, new]; exact ⟨c0, c1⟩
    · rw [old j j0 (by omega)]; exact hp.into j j0 (by omega)
  · by_cases hx : y = (f.length : Int) ∨ z = (f.length : Int) ∨ M t y z = (f.length : Int)
    · exact (hf y y0 y1).2 z z0 z1 hx hm
    · have m0 := hv.lo y z y0 (by omega) z0 (by omega)
      rw [old y y0 (by omega), old z z0 (by omega), old _ m0 (by omega)]
      exact hp.mul y z y0 (by omega) z0 (by omega) (by omega)
  · by_cases hy : y = (f.length : Int)
    · by_cases hz : z = (f.length : Int)
      · omega
      · exact absurd ⟨⟨hi, hz⟩, by rw [← hy]; exact e.symm⟩ (hf z z0 z1).1
    · by_cases hz : z = (f.length : Int)
      · exact absurd ⟨⟨hi, hy⟩, by rw [← hz]; exact e⟩ (hf y y0 y1).1
      · rw [old y y0 (by omega), old z z0 (by omega)] at e
        exact hp.inj hi y z y0 (by omega) z0 (by omega) e
theorem Fit.of (hv : Sq t) (hl : f.length ≤ t.length) (hh : Hn inject t u h) (hp : Pfx f h) {x : Int} (x0 : 0 ≤ x) (x1 : x < (f.length : Int)) : Fit inject t u f x := by
  intro y y0 y1
  refine ⟨fun ⟨⟨hi, ne⟩, e⟩ => ne ?_, fun z z0 z1 _ hm => ?_⟩
  · rw [← hp y y0 y1, ← hp x x0 x1] at e
    exact hh.2 hi y x y0 (by omega) x0 (by omega) e
  · rw [← hp y y0 y1, ← hp z z0 z1, ← hp _ (hv.lo y z y0 (by omega) z0 (by omega)) hm]
    exact hh.1.mul y z y0 (by omega) z0 (by omega)
theorem PreH.whole (hv : Sq t) (hp : PreH inject t u f) (hl : f.length = t.length) : Hn inject t u f ∧ ∀ h, Hn inject t u h → (Pfx f h ↔ h = f) := by
  refine ⟨⟨⟨hl, fun x x0 x1 => hp.into x x0 (by omega), fun x y x0 x1 y0 y1 => hp.mul x y x0 (by omega) y0 (by omega) (by have := hv.hi x y x0 x1 y0 y1; omega)⟩, fun hi x y x0 x1 y0 y1 e => hp.inj hi x y x0 (by omega) y0 (by omega) e⟩, fun h hh => ⟨fun hx => ?_, fun e j _ _ => by rw [e]⟩⟩
  have := hh.1.len
  exact rd_ext (by omega) fun j j0 j1 => hx j j0 (by omega)
/-- There are all homomorphisms, in order. -/
theorem homs_ex (once : Bool) (t u : List (List Int)) : ∃ l, Full (Hn once t u) l :=
  full_ex t.length u.length _ fun h hh => ⟨hh.1.len, rd_all.2 fun i i0 i1 => hh.1.into i i0 (by have := hh.1.len; omega)⟩
theorem homs_few {once : Bool} {l : List (List Int)} (hl : Full (Hn once t u) l) : l.length ≤ u.length ^ t.length := by
  refine Nat.le_trans ?_ (allL_len u.length t.length)
  exact (lex_nodup hl.lex).length_le_of_subset fun h hh => allL_mem.2 (by
    have := (hl.mem h).1 hh
    exact ⟨this.1.len, rd_all.2 fun i i0 i1 => this.1.into i i0 (by have := this.1.len; omega)⟩)
theorem autos_few {l : List (List Int)} (hl : Full (Hn true t u) l) : l.length ≤ facL t.length u.length := by
  have h1 := injL_len t.length ((List.range u.length).map fun i : Nat => (i : Int))
  rw [List.length_map, List.length_range] at h1
  refine Nat.le_trans ?_ h1
  refine (lex_nodup hl.lex).length_le_of_subset fun h hh => ?_
  have hh := (hl.mem h).1 hh
  have hlen := hh.1.len
  refine injL_mem hlen ?_ fun x hx => ?_
  · have e : h = (List.range t.length).map fun i : Nat => rd h i := rd_ext (by simp [hlen]) fun j j0 j1 => by rw [rd_map j0 (by omega), show ((j.toNat : Nat) : Int) = j by omega]
    rw [e]
    exact nodup_map fun i j hi hj e => by
      have := hh.2 rfl i j (by omega) (by omega) (by omega) (by omega) e
      omega
  · obtain ⟨i, i0, i1, rfl⟩ := rd_of_mem hx
    have := hh.1.into i i0 (by omega)
    exact List.mem_map.2 ⟨(rd h i).toNat, List.mem_range.2 (by omega), by omega⟩
end
end Go.Ab

/- The lists of homomorphisms. Plain lemmas. No condition. -/
set_option linter.unusedVariables false
set_option linter.unusedSimpArgs false
set_option linter.unusedSectionVars false
namespace Go.Ab
open Go
noncomputable def hms (once : Bool) (t u : List (List Int)) : List (List Int) := Classical.choose (homs_ex once t u)
theorem hms_full (once : Bool) (t u : List (List Int)) : Full (Hn once t u) (hms once t u) := Classical.choose_spec (homs_ex once t u)
/-- The first error of a search. -/
noncomputable def sErr (t u : List (List Int)) : Int := if val t ≠ 0 then val t else if val u ≠ 0 then val u else if (t.length : Int) > 8 ∨ (u.length : Int) > 8 then 3 else 0
theorem sErr_zero {t u : List (List Int)} : sErr t u = 0 ↔ (val t = 0 ∧ val u = 0) ∧ (t.length : Int) ≤ 8 ∧ (u.length : Int) ≤ 8 := by
  unfold sErr
  by_cases h1 : val t = 0
  · by_cases h2 : val u = 0
    · rw [if_neg (by simpa using h1), if_neg (by simpa using h2)]
      by_cases h3 : (t.length : Int) > 8 ∨ (u.length : Int) > 8
      · rw [if_pos h3]; omega
      · rw [if_neg h3]; omega
    · rw [if_neg (by simpa using h1), if_pos h2]; exact ⟨fun h => absurd h h2, fun h => absurd h.1.2 h2⟩
  · rw [if_pos h1]; exact ⟨fun h => absurd h h1, fun h => absurd h.1.1 h1⟩
/-- .. and of a list of at most 2000. -/
noncomputable def fErr (once : Bool) (t u : List (List Int)) : Int := if sErr t u ≠ 0 then sErr t u else if 2000 < (hms once t u).length then 3 else 0
theorem fErr_bad {once : Bool} {t u : List (List Int)} (h : sErr t u ≠ 0) : fErr once t u = sErr t u := by unfold fErr; rw [if_pos h]
theorem fErr_ok {once : Bool} {t u : List (List Int)} (h : sErr t u = 0) (hl : (hms once t u).length ≤ 2000) : fErr once t u = 0 := by unfold fErr; rw [if_neg (by simpa using h), if_neg (by omega)]
/-- The least isomorphism, if there is one. -/
noncomputable def isoL (t u : List (List Int)) : List (List Int) := if sErr t u = 0 ∧ t.length = u.length then (hms true t u).take 1 else []
theorem isoL_len (t u : List (List Int)) : (isoL t u).length ≤ 1 := by
  unfold isoL; split
  · rw [List.length_take]; omega
  · simp
theorem hms_few {once : Bool} {t u : List (List Int)} {a b : Nat} (hu : 0 < u.length) (h1 : t.length ≤ a) (h2 : u.length ≤ b) (hb : 0 < b) : (hms once t u).length ≤ b ^ a :=
  Nat.le_trans (homs_few (hms_full once t u)) (Nat.le_trans (Nat.pow_le_pow_left h2 _) (Nat.pow_le_pow_right hb h1))
theorem fac6 : ∀ n, n ≤ 6 → facL n n ≤ 720 := by decide
theorem autos_720 {t : List (List Int)} (h : t.length ≤ 6) : (hms true t t).length ≤ 720 := Nat.le_trans (autos_few (hms_full true t t)) (fac6 _ h)
/-- A map of a set to itself is one to one exactly if it is onto. -/
theorem img_inj {t u : List (List Int)} {f : List Int} (hf : Hm t u f) (hl : u.length = t.length) : (imgL u.length f).length = u.length ↔ ∀ x y : Int, 0 ≤ x → x < (t.length : Int) → 0 ≤ y → y < (t.length : Int) → rd f x = rd f y → x = y := by
  have l1 := hf.len
  constructor
  · intro h
    have all := sel_full (P := fun v => v ∈ f) (i := 0) (m := u.length) |>.1 h
    have nd : f.Nodup := by
      -- as many as different values
      refine Classical.byContradiction fun hn => ?_
      have : ∃ g : List Int, (∀ x ∈ f, x ∈ g) ∧ g.length < f.length := by
        clear all h
        clear l1 hf
        induction f with
        | nil => exact absurd (by simp) hn
        | cons a l ih =>
          by_cases ha : a ∈ l
          · exact ⟨l, fun x hx => by rcases List.mem_cons.1 hx with rfl | hx <;> assumption, by simp⟩
          · have : ¬ l.Nodup := fun h => hn (List.nodup_cons.2 ⟨ha, h⟩)
            obtain ⟨g, h1, h2⟩ := ih this
            exact ⟨a :: g, fun x hx => by
              rcases List.mem_cons.1 hx with rfl | hx
              · simp
              · exact List.mem_cons_of_mem _ (h1 x hx), by simpa using h2⟩
      obtain ⟨g, h1, h2⟩ := this
      have := len_of_all (l := g) (n := u.length) fun x x0 x1 => h1 x (all x x0 (by omega))
      omega
    intro x y x0 x1 y0 y1 e
    exact nodup_rd nd x0 (by omega) y0 (by omega) e
  · intro h
    have nd : f.Nodup := by
      have e : f = (List.range t.length).map fun i : Nat => rd f i := rd_ext (by simp [l1]) fun j j0 j1 => by rw [rd_map j0 (by omega), show ((j.toNat : Nat) : Int) = j by omega]
      rw [e]
      exact nodup_map fun i j hi hj e => by
        have := h i j (by omega) (by omega) (by omega) (by omega) e
        omega
    refine sel_full.2 fun v v0 v1 => ?_
    exact all_of_len (n := u.length) nd (fun x hx => by
      obtain ⟨i, i0, i1, rfl⟩ := rd_of_mem hx
      exact hf.into i i0 (by omega)) (by omega) v0 (by omega)
end Go.Ab

/- Renamed tables, composed automorphisms. Plain lemmas. No condition. -/
set_option linter.unusedVariables false
set_option linter.unusedSimpArgs false
set_option linter.unusedSectionVars false
namespace Go.Ab
open Go
theorem tmod_ok {a n : Int} (n0 : 0 < n) (hn : n ≤ 4000) : 0 ≤ Int.tmod (W (Int.tmod a n + n)) n ∧ Int.tmod (W (Int.tmod a n + n)) n < n := by
  have h1 := Int.tmod_lt_of_pos a n0
  have h2 := Int.lt_tmod_of_pos a n0
  rw [W_in (by omega) (by omega)]
  exact ⟨Int.tmod_nonneg _ (by omega), Int.tmod_lt_of_pos _ n0⟩
structure Pe (n : Nat) (p : List Int) : Prop where
  len : p.length = n
  into : ∀ x : Int, 0 ≤ x → x < n → 0 ≤ rd p x ∧ rd p x < n
  inj : ∀ x y : Int, 0 ≤ x → x < n → 0 ≤ y → y < n → rd p x = rd p y → x = y
def swapL (p : List Int) (k x : Int) : List Int := (p.set k.toNat (rd p x)).set x.toNat (rd p k)
theorem swap_at {p : List Int} {k x j : Int} (k0 : 0 ≤ k) (k1 : k < (p.length : Int)) (x0 : 0 ≤ x) (x1 : x < (p.length : Int)) (j0 : 0 ≤ j) : rd (swapL p k x) j = if j = x then rd p k else if j = k then rd p x else rd p j := by
  unfold swapL
  rw [rd_set x0 (by simpa using x1) j0, rd_set k0 k1 j0]
theorem Pe.swap {n : Nat} {p : List Int} (h : Pe n p) {k x : Int} (k0 : 0 ≤ k) (k1 : k < n) (x0 : 0 ≤ x) (x1 : x < n) : Pe n (swapL p k x) := by
  have hl := h.len
  have at' : ∀ j : Int, 0 ≤ j → rd (swapL p k x) j = rd p (if j = x then k else if j = k then x else j) := fun j j0 => by
    rw [swap_at k0 (by omega) x0 (by omega) j0]
    split
    · rfl
    · split <;> rfl
  refine ⟨by simp [swapL, hl], fun j j0 j1 => ?_, fun i j i0 i1 j0 j1 e => ?_⟩
  · rw [at' j j0]
    exact h.into _ (by split; exact k0; split <;> omega) (by split; exact k1; split <;> omega)
  · rw [at' i i0, at' j j0] at e
    have := h.inj _ _ (by split; exact k0; split <;> omega) (by split; exact k1; split <;> omega) (by split; exact k0; split <;> omega) (by split; exact k1; split <;> omega) e
    split at this <;> split at this <;> (try split at this) <;> (try split at this) <;> omega
theorem Pe.onto {n : Nat} {p : List Int} (h : Pe n p) {v : Int} (v0 : 0 ≤ v) (v1 : v < n) : ∃ x : Int, 0 ≤ x ∧ x < n ∧ rd p x = v := by
  have hl := h.len
  have nd : p.Nodup := by
    have e : p = (List.range n).map fun i : Nat => rd p i := rd_ext (by simp [hl]) fun j j0 j1 => by rw [rd_map j0 (by omega), show ((j.toNat : Nat) : Int) = j by omega]
    rw [e]
    exact nodup_map fun i j hi hj e => by
      have := h.inj i j (by omega) (by omega) (by omega) (by omega) e
      omega
  obtain ⟨x, x0, x1, e⟩ := rd_of_mem (all_of_len nd (fun x hx => by
    obtain ⟨i, i0, i1, rfl⟩ := rd_of_mem hx
    exact h.into i i0 (by omega)) (by omega) v0 v1)
  exact ⟨x, x0, by omega, e⟩
def idL (n : Nat) : List Int := (List.range n).map fun i : Nat => (i : Int)
theorem idL_at {n : Nat} {x : Int} (x0 : 0 ≤ x) (x1 : x < n) : rd (idL n) x = x := by unfold idL; rw [rd_map x0 x1]; omega
theorem idL_pe (n : Nat) : Pe n (idL n) := ⟨by simp [idL], fun x x0 x1 => by rw [idL_at x0 x1]; exact ⟨x0, x1⟩, fun x y x0 x1 y0 y1 e => by rw [idL_at x0 x1, idL_at y0 y1] at e; exact e⟩
section
variable {t : List (List Int)}
theorem idL_hn (hv : Sq t) : Hn true t t (idL t.length) := by
  have h := idL_pe t.length
  refine ⟨⟨h.len, h.into, fun x y x0 x1 y0 y1 => ?_⟩, fun _ => h.inj⟩
  rw [idL_at x0 x1, idL_at y0 y1, idL_at (hv.lo _ _ x0 x1 y0 y1) (hv.hi _ _ x0 x1 y0 y1)]
def comL (n : Nat) (b c : List Int) : List Int := (List.range n).map fun i : Nat => rd c (rd b i)
theorem comL_at {n : Nat} {b c : List Int} {x : Int} (x0 : 0 ≤ x) (x1 : x < n) : rd (comL n b c) x = rd c (rd b x) := by
  unfold comL
  rw [rd_map x0 x1, show ((x.toNat : Nat) : Int) = x by omega]
theorem comL_hn (hv : Sq t) {b c : List Int} (hb : Hn true t t b) (hc : Hn true t t c) : Hn true t t (comL t.length b c) := by
  refine ⟨⟨by simp [comL], fun x x0 x1 => ?_, fun x y x0 x1 y0 y1 => ?_⟩, fun _ x y x0 x1 y0 y1 e => ?_⟩
  · rw [comL_at x0 x1]
    have := hb.1.into x x0 x1
    exact hc.1.into _ this.1 this.2
  · have p := hb.1.into x x0 x1
    have q := hb.1.into y y0 y1
    rw [comL_at x0 x1, comL_at y0 y1, comL_at (hv.lo _ _ x0 x1 y0 y1) (hv.hi _ _ x0 x1 y0 y1), hb.1.mul x y x0 x1 y0 y1, hc.1.mul _ _ p.1 p.2 q.1 q.2]
  · rw [comL_at x0 x1, comL_at y0 y1] at e
    have p := hb.1.into x x0 x1
    have q := hb.1.into y y0 y1
    exact hb.2 rfl x y x0 x1 y0 y1 (hc.2 rfl _ _ p.1 p.2 q.1 q.2 e)
/-- T is t with its elements renamed by p. -/
structure Rn (t : List (List Int)) (p : List Int) (T : List (List Int)) : Prop where
  len : T.length = t.length
  row : ∀ x : Int, 0 ≤ x → x < (t.length : Int) → (R T x).length = t.length
  mul : ∀ x y : Int, 0 ≤ x → x < (t.length : Int) → 0 ≤ y → y < (t.length : Int) → M T (rd p x) (rd p y) = rd p (M t x y)
theorem Rn.va {p : List Int} {T : List (List Int)} (hv : Va t) (hp : Pe t.length p) (h : Rn t p T) : Va T := by
  have hn := hv.le
  have h0 := hv.pos
  have hl := h.len
  have on : ∀ {v : Int}, 0 ≤ v → v < (T.length : Int) → ∃ x : Int, 0 ≤ x ∧ x < (t.length : Int) ∧ rd p x = v := fun a b => hp.onto a (by omega)
  have m : ∀ {x y : Int}, 0 ≤ x → x < (t.length : Int) → 0 ≤ y → y < (t.length : Int) → 0 ≤ M t x y ∧ M t x y < (t.length : Int) := fun a b c d => ⟨hv.lo _ _ a b c d, hv.hi _ _ a b c d⟩
  refine ⟨⟨by omega, by omega, fun x a b => by have := h.row x a (by omega); omega, fun x y a b c d => ?_, fun x y a b c d => ?_⟩, fun x y z a b c d e f => ?_⟩
  · obtain ⟨x', x0, x1, rfl⟩ := on a b
    obtain ⟨y', y0, y1, rfl⟩ := on c d
    have := m x0 x1 y0 y1
    rw [h.mul _ _ x0 x1 y0 y1]; exact (hp.into _ this.1 this.2).1
  · obtain ⟨x', x0, x1, rfl⟩ := on a b
    obtain ⟨y', y0, y1, rfl⟩ := on c d
    have := m x0 x1 y0 y1
    rw [h.mul _ _ x0 x1 y0 y1]; have := (hp.into _ this.1 this.2).2; omega
  · obtain ⟨x', x0, x1, rfl⟩ := on a b
    obtain ⟨y', y0, y1, rfl⟩ := on c d
    obtain ⟨z', z0, z1, rfl⟩ := on e f
    have p1 := m x0 x1 y0 y1
    have p2 := m y0 y1 z0 z1
    rw [h.mul _ _ x0 x1 y0 y1, h.mul _ _ y0 y1 z0 z1, h.mul _ _ p1.1 p1.2 z0 z1, h.mul _ _ x0 x1 p2.1 p2.2, hv.asc _ _ _ x0 x1 y0 y1 z0 z1]
theorem Rn.hom {p : List Int} {T : List (List Int)} (hp : Pe t.length p) (h : Rn t p T) : Hn true t T p :=
  ⟨⟨hp.len, fun x x0 x1 => by have := hp.into x x0 x1; have := h.len; omega, fun x y x0 x1 y0 y1 => (h.mul x y x0 x1 y0 y1).symm⟩, fun _ => hp.inj⟩
end
end Go.Ab
