/- Finite semigroups: stability, J is the join of R and L, inverses, Green's lemma. Plain lemmas. No condition but associativity and that every element has an idempotent power. -/
import Derived.Test.YtmdndoghdbhipaaAbM14
import Derived.Test.YtmdndoghdbhipaaAbM5
set_option linter.unusedVariables false
set_option linter.unusedSimpArgs false
set_option linter.unusedSectionVars false
namespace Go.Ab
open Go
section
variable {S : Type} [Mul S]
def ppow (x : S) : Nat → S
  | 0 => x
  | i + 1 => ppow x i * x
structure Sem (S : Type) [Mul S] : Prop where
  assoc : ∀ a b c : S, a * b * c = a * (b * c)
  idem : ∀ x : S, ∃ i, ppow x i * ppow x i = ppow x i
/-- y is in the right ideal, the left ideal, the ideal of x. -/
def rI (x y : S) : Prop := y = x ∨ ∃ s, y = x * s
def lI (x y : S) : Prop := y = x ∨ ∃ s, y = s * x
def jI (x y : S) : Prop := ∃ z, lI x z ∧ rI z y
def rE (x y : S) : Prop := rI x y ∧ rI y x
def lE (x y : S) : Prop := lI x y ∧ lI y x
def jE (x y : S) : Prop := jI x y ∧ jI y x
def Idm (e : S) : Prop := e * e = e
variable (h : Sem S)
include h
theorem ppow_left (x : S) : ∀ i, ppow x (i + 1) = x * ppow x i
  | 0 => rfl
  | i + 1 => by
    show ppow x (i + 1) * x = x * (ppow x i * x)
    rw [ppow_left x i, h.assoc]
theorem pow_both {u x c : S} (hx : x = u * x * c) : ∀ i, x = ppow u i * x * ppow c i
  | 0 => hx
  | i + 1 => by
    have ih := pow_both hx i
    show x = ppow u i * u * x * ppow c (i + 1)
    rw [ppow_left h c i, h.assoc (ppow u i) u x, ← h.assoc (ppow u i * (u * x)) c, h.assoc (ppow u i) (u * x) c, ← hx]
    exact ih
theorem rI_refl (x : S) : rI x x := .inl rfl
theorem lI_refl (x : S) : lI x x := .inl rfl
theorem rI_mul (x s : S) : rI x (x * s) := .inr ⟨s, rfl⟩
theorem lI_mul (s x : S) : lI x (s * x) := .inr ⟨s, rfl⟩
theorem rI_trans {x y z : S} (h1 : rI x y) (h2 : rI y z) : rI x z := by
  rcases h1 with rfl | ⟨s, rfl⟩
  · exact h2
  · rcases h2 with rfl | ⟨r, rfl⟩
    · exact .inr ⟨s, rfl⟩
    · exact .inr ⟨s * r, h.assoc x s r⟩
theorem lI_trans {x y z : S} (h1 : lI x y) (h2 : lI y z) : lI x z := by
  rcases h1 with rfl | ⟨s, rfl⟩
  · exact h2
  · rcases h2 with rfl | ⟨r, rfl⟩
    · exact .inr ⟨s, rfl⟩
    · exact .inr ⟨r * s, (h.assoc r s x).symm⟩
theorem jI_swap {x y : S} : jI x y ↔ ∃ z, rI x z ∧ lI z y := by
  constructor
  · rintro ⟨z, h1, h2⟩
    rcases h1 with rfl | ⟨s, rfl⟩
    · exact ⟨y, h2, lI_refl h y⟩
    · rcases h2 with rfl | ⟨r, rfl⟩
      · exact ⟨x, rI_refl h x, .inr ⟨s, rfl⟩⟩
      · exact ⟨x * r, .inr ⟨r, rfl⟩, .inr ⟨s, h.assoc s x r⟩⟩
  · rintro ⟨z, h1, h2⟩
    rcases h1 with rfl | ⟨s, rfl⟩
    · exact ⟨y, h2, rI_refl h y⟩
    · rcases h2 with rfl | ⟨r, rfl⟩
      · exact ⟨x, lI_refl h x, .inr ⟨s, rfl⟩⟩
      · exact ⟨r * x, .inr ⟨r, rfl⟩, .inr ⟨s, (h.assoc r x s).symm⟩⟩
theorem jI_trans {x y z : S} (h1 : jI x y) (h2 : jI y z) : jI x z := by
  obtain ⟨u, h3, h4⟩ := h1
  obtain ⟨w, h5, h6⟩ := h2
  obtain ⟨v, h7, h8⟩ := (jI_swap h).2 ⟨y, h4, h5⟩
  exact ⟨v, lI_trans h h3 h7, rI_trans h h8 h6⟩
theorem rI_jI {x y : S} (h1 : rI x y) : jI x y := ⟨x, lI_refl h x, h1⟩
theorem lI_jI {x y : S} (h1 : lI x y) : jI x y := ⟨y, h1, rI_refl h y⟩
theorem rE_refl (x : S) : rE x x := ⟨rI_refl h x, rI_refl h x⟩
theorem lE_refl (x : S) : lE x x := ⟨lI_refl h x, lI_refl h x⟩
theorem rE_symm {x y : S} (h1 : rE x y) : rE y x := ⟨h1.2, h1.1⟩
theorem lE_symm {x y : S} (h1 : lE x y) : lE y x := ⟨h1.2, h1.1⟩
theorem rE_trans {x y z : S} (h1 : rE x y) (h2 : rE y z) : rE x z := ⟨rI_trans h h1.1 h2.1, rI_trans h h2.2 h1.2⟩
theorem lE_trans {x y z : S} (h1 : lE x y) (h2 : lE y z) : lE x z := ⟨lI_trans h h1.1 h2.1, lI_trans h h2.2 h1.2⟩
theorem jE_trans {x y z : S} (h1 : jE x y) (h2 : jE y z) : jE x z := ⟨jI_trans h h1.1 h2.1, jI_trans h h2.2 h1.2⟩
theorem jE_symm {x y : S} (h1 : jE x y) : jE y x := ⟨h1.2, h1.1⟩
theorem jE_refl (x : S) : jE x x := ⟨rI_jI h (rI_refl h x), rI_jI h (rI_refl h x)⟩
theorem rE_jE {x y : S} (h1 : rE x y) : jE x y := ⟨rI_jI h h1.1, rI_jI h h1.2⟩
theorem lE_jE {x y : S} (h1 : lE x y) : jE x y := ⟨lI_jI h h1.1, lI_jI h h1.2⟩
/-- x = u x c: then x comes back from x c. -/
theorem back_r {u x c : S} (hx : x = u * x * c) : rI (x * c) x := by
  obtain ⟨i, hi⟩ := h.idem u
  have e1 := pow_both h hx i
  have e2 : ppow u i * x = x := by
    conv => lhs; rw [e1]
    rw [← h.assoc, ← h.assoc, hi]; exact e1.symm
  rw [e2] at e1
  cases i with
  | zero => exact .inl e1
  | succ i => rw [ppow_left h c i, ← h.assoc] at e1; exact .inr ⟨_, e1⟩
theorem back_l {u x c : S} (hx : x = u * x * c) : lI (u * x) x := by
  obtain ⟨i, hi⟩ := h.idem c
  have e1 := pow_both h hx i
  have e2 : x * ppow c i = x := by
    conv => lhs; rw [e1]
    rw [h.assoc, hi]; exact e1.symm
  rw [h.assoc, e2] at e1
  cases i with
  | zero => exact .inl e1
  | succ i =>
    have e3 : x = ppow u i * (u * x) := by rw [← h.assoc]; exact e1
    exact .inr ⟨_, e3⟩
theorem stabR {x y : S} (h1 : rI x y) (h2 : jI y x) : rI y x := by
  rcases h1 with rfl | ⟨b, rfl⟩
  · exact rI_refl h y
  obtain ⟨z, h3, h4⟩ := h2
  rcases h3 with rfl | ⟨u, rfl⟩
  · exact h4
  · rcases h4 with h4 | ⟨v, h4⟩
    · exact back_r h (u := u) (by rw [h.assoc]; exact h4)
    · have e : x = u * x * (b * v) := by rw [← h.assoc, h.assoc u x b]; exact h4
      have := back_r h e
      rw [← h.assoc] at this
      exact rI_trans h (rI_mul h (x * b) v) this
theorem stabL {x y : S} (h1 : lI x y) (h2 : jI y x) : lI y x := by
  rcases h1 with rfl | ⟨b, rfl⟩
  · exact lI_refl h y
  obtain ⟨z, h3, h4⟩ := (jI_swap h).1 h2
  rcases h3 with rfl | ⟨v, rfl⟩
  · exact h4
  · rcases h4 with h4 | ⟨u, h4⟩
    · exact back_l h h4
    · have e : x = u * b * x * v := by rw [h.assoc u b x, h.assoc]; exact h4
      have := back_l h e
      rw [h.assoc] at this
      exact lI_trans h (lI_mul h u (b * x)) this
/-- J is the join of R and L. -/
theorem jE_D {x y : S} (h1 : jE x y) : ∃ z, lE x z ∧ rE z y := by
  obtain ⟨⟨z, h3, h4⟩, h2⟩ := h1
  have zx : jI z x := jI_trans h (rI_jI h h4) h2
  exact ⟨z, ⟨h3, stabL h h3 zx⟩, ⟨h4, stabR h h4 (jI_trans h h2 (lI_jI h h3))⟩⟩
theorem jE_D' {x y : S} (h1 : jE x y) : ∃ z, rE x z ∧ lE z y := by
  obtain ⟨z, h2, h3⟩ := jE_D h (jE_symm h h1)
  exact ⟨z, rE_symm h h3, lE_symm h h2⟩
/-! ### Idempotents and inverses -/
theorem idm_r {e x : S} (he : Idm e) (hx : rI e x) : e * x = x := by
  rcases hx with rfl | ⟨s, rfl⟩
  · exact he
  · rw [← h.assoc, he]
theorem idm_l {e x : S} (he : Idm e) (hx : lI e x) : x * e = x := by
  rcases hx with rfl | ⟨s, rfl⟩
  · exact he
  · rw [h.assoc, he]
/-- e = x a for an idempotent e of the R-class of x. -/
theorem idm_ra {e x : S} (he : Idm e) (hx : rI x e) : ∃ a, e = x * a := by
  rcases hx with rfl | ⟨s, hs⟩
  · exact ⟨e, he.symm⟩
  · exact ⟨s, hs⟩
theorem idm_lb {f x : S} (hf : Idm f) (hx : lI x f) : ∃ b, f = b * x := by
  rcases hx with rfl | ⟨s, hs⟩
  · exact ⟨f, hf.symm⟩
  · exact ⟨s, hs⟩
def Inv2 (x y : S) : Prop := x * y * x = x ∧ y * x * y = y
theorem inv_idm {x y : S} (hxy : Inv2 x y) : Idm (x * y) ∧ Idm (y * x) ∧ rE x (x * y) ∧ lE x (y * x) := by
  refine ⟨?_, ?_, ⟨rI_mul h x y, .inr ⟨x, hxy.1.symm⟩⟩, ⟨lI_mul h y x, .inr ⟨x, ?_⟩⟩⟩
  · unfold Idm; rw [← h.assoc, hxy.1]
  · unfold Idm; rw [← h.assoc, hxy.2]
  · rw [← h.assoc]; exact hxy.1.symm
theorem inv_inj {x y z : S} (hy : Inv2 x y) (hz : Inv2 x z) (h1 : x * y = x * z) (h2 : y * x = z * x) : y = z := by
  rw [← hy.2, h2, h.assoc, h1, ← h.assoc, hz.2]
theorem inv_sur {x e f : S} (he : Idm e) (hf : Idm f) (h1 : rE x e) (h2 : lE x f) : ∃ y, Inv2 x y ∧ x * y = e ∧ y * x = f := by
  obtain ⟨a, ha⟩ := idm_ra h he h1.1
  obtain ⟨b, hb⟩ := idm_lb h hf h2.1
  have xf : x * f = x := idm_l h hf h2.2
  have ex : e * x = x := idm_r h he h1.2
  refine ⟨f * a * e, ⟨?_, ?_⟩, ?_, ?_⟩
  all_goals have e1 : x * (f * a * e) = e := by rw [← h.assoc, ← h.assoc, xf, ← ha, he]
  all_goals have e2 : f * a * e * x = f := by
              rw [h.assoc, ex, hb, h.assoc b x a, ← ha, h.assoc, ex]
  · rw [e1, ex]
  · rw [e2, ← h.assoc, ← h.assoc, hf]
  · exact e1
  · exact e2
/-- An element of a J-class with an idempotent has an inverse. -/
theorem reg_inv {x e : S} (he : Idm e) (hx : jE x e) : ∃ y, Inv2 x y := by
  obtain ⟨z, h1, h2⟩ := jE_D h hx
  -- x L z R e
  obtain ⟨a, ha⟩ := idm_ra h he h2.1
  have ez : e * z = z := idm_r h he h2.2
  have hz : z * a * z = z := by rw [← ha, ez]
  have key : ∃ s, x * s * x = x := by
    rcases h1.2 with hxz | ⟨u, hu⟩
    · rw [hxz]; exact ⟨a, hz⟩
    rcases h1.1 with hzx | ⟨v, hv⟩
    · rw [← hzx]; exact ⟨a, hz⟩
    refine ⟨a * v, ?_⟩
    calc x * (a * v) * x = u * z * (a * v) * x := by rw [← hu]
      _ = u * (z * a * (v * x)) := by simp only [h.assoc]
      _ = u * (z * a * z) := by rw [← hv]
      _ = x := by rw [hz, ← hu]
  obtain ⟨s, hs⟩ := key
  refine ⟨s * x * s, ?_, ?_⟩
  · calc x * (s * x * s) * x = x * s * x * s * x := by simp only [h.assoc]
      _ = x := by rw [hs, hs]
  · calc s * x * s * x * (s * x * s) = s * (x * s * x) * s * x * s := by simp only [h.assoc]
      _ = s * x * s * x * s := by rw [hs]
      _ = s * (x * s * x) * s := by simp only [h.assoc]
      _ = s * x * s := by rw [hs]
/-! ### Cells -/
theorem rI_left {x y : S} (s : S) (h1 : rI x y) : rI (s * x) (s * y) := by
  rcases h1 with rfl | ⟨r, rfl⟩
  · exact rI_refl h _
  · exact .inr ⟨r, (h.assoc s x r).symm⟩
theorem lI_right {x y : S} (s : S) (h1 : lI x y) : lI (x * s) (y * s) := by
  rcases h1 with rfl | ⟨r, rfl⟩
  · exact lI_refl h _
  · exact .inr ⟨r, h.assoc r x s⟩
theorem rE_left {x y : S} (s : S) (h1 : rE x y) : rE (s * x) (s * y) := ⟨rI_left h s h1.1, rI_left h s h1.2⟩
theorem lE_right {x y : S} (s : S) (h1 : lE x y) : lE (x * s) (y * s) := ⟨lI_right h s h1.1, lI_right h s h1.2⟩
/-- An H-class with an idempotent is closed. -/
theorem cell_closed {e a b : S} (he : Idm e) (a1 : rE a e) (a2 : lE a e) (b1 : rE b e) (b2 : lE b e) : rE (a * b) e ∧ lE (a * b) e := by
  have ae : a * e = a := idm_l h he a2.2
  have eb : e * b = b := idm_r h he b1.2
  refine ⟨?_, ?_⟩
  · have := rE_left h a b1
    rw [ae] at this
    exact rE_trans h this a1
  · have := lE_right h b a2
    rw [eb] at this
    exact lE_trans h this b2
/-- Green's lemma: right multiplication carries L-classes along an R-class, one to one. -/
theorem green_r {a b s r : S} (hs : b = a * s) (hr : a = b * r) {x : S} (hx : lE x a) : lE (x * s) b ∧ rE (x * s) x ∧ x * s * r = x := by
  have e : x * s * r = x := by
    have asr : a * s * r = a := by rw [← hs, ← hr]
    rcases hx.2 with hxa | ⟨u, hu⟩
    · rw [hxa]; exact asr
    · rw [hu, h.assoc u a s, h.assoc u, asr]
  refine ⟨by have := lE_right h s hx; rwa [← hs] at this, ⟨.inr ⟨r, e.symm⟩, rI_mul h x s⟩, e⟩
theorem green_l {a b s r : S} (hs : b = s * a) (hr : a = r * b) {x : S} (hx : rE x a) : rE (s * x) b ∧ lE (s * x) x ∧ r * (s * x) = x := by
  have e : r * (s * x) = x := by
    have rsa : r * (s * a) = a := by rw [← hs, ← hr]
    rcases hx.2 with hxa | ⟨u, hu⟩
    · rw [hxa]; exact rsa
    · rw [hu, ← h.assoc s a u, ← h.assoc r, rsa]
  refine ⟨by have := rE_left h s hx; rwa [← hs] at this, ⟨.inr ⟨r, e.symm⟩, lI_mul h s x⟩, e⟩
end
/-! ### Tables -/
/-- The elements of a table. -/
abbrev Elt (t : List (List Int)) : Type := {x : Int // 0 ≤ x ∧ x < (t.length : Int)}
open Classical in
noncomputable instance {t : List (List Int)} : Mul (Elt t) := ⟨fun a b => if hh : 0 ≤ M t a.1 b.1 ∧ M t a.1 b.1 < (t.length : Int) then ⟨M t a.1 b.1, hh⟩ else a⟩
section
variable {t : List (List Int)}
theorem elt_mul (hv : Sq t) (a b : Elt t) : (a * b).1 = M t a.1 b.1 := by
  show (if hh : 0 ≤ M t a.1 b.1 ∧ M t a.1 b.1 < (t.length : Int) then (⟨M t a.1 b.1, hh⟩ : Elt t) else a).1 = _
  rw [dif_pos ⟨hv.lo _ _ a.2.1 a.2.2 b.2.1 b.2.2, hv.hi _ _ a.2.1 a.2.2 b.2.1 b.2.2⟩]
theorem elt_pow (hv : Sq t) (a : Elt t) : ∀ i, (ppow a i).1 = pw t a.1 i
  | 0 => rfl
  | i + 1 => by
    show (ppow a i * a).1 = M t (pw t a.1 i) a.1
    rw [elt_mul hv, elt_pow hv a i]
theorem elt_sem (hv : Va t) : Sem (Elt t) := by
  refine ⟨fun a b c => Subtype.ext ?_, fun x => ?_⟩
  · rw [elt_mul hv.toSq, elt_mul hv.toSq, elt_mul hv.toSq, elt_mul hv.toSq]
    exact hv.asc _ _ _ a.2.1 a.2.2 b.2.1 b.2.2 c.2.1 c.2.2
  · obtain ⟨i, hi, _⟩ := om_idem hv x.2.1 x.2.2
    refine ⟨i, Subtype.ext ?_⟩
    rw [elt_mul hv.toSq, elt_pow hv.toSq]; exact hi
theorem elt_rI (hv : Va t) (a b : Elt t) : rI a b ↔ JR t a.1 b.1 := by
  unfold rI JR
  refine ⟨fun h => h.imp (fun e => by rw [e]) fun ⟨s, hs⟩ => ⟨s.1, s.2.1, s.2.2, by rw [hs, elt_mul hv.toSq]⟩, fun h => h.imp Subtype.ext fun ⟨s, s0, s1, hs⟩ => ⟨⟨s, s0, s1⟩, Subtype.ext (by rw [elt_mul hv.toSq]; exact hs)⟩⟩
theorem elt_lI (hv : Va t) (a b : Elt t) : lI a b ↔ JL t a.1 b.1 := by
  unfold lI JL
  refine ⟨fun h => h.imp (fun e => by rw [e]) fun ⟨s, hs⟩ => ⟨s.1, s.2.1, s.2.2, by rw [hs, elt_mul hv.toSq]⟩, fun h => h.imp Subtype.ext fun ⟨s, s0, s1, hs⟩ => ⟨⟨s, s0, s1⟩, Subtype.ext (by rw [elt_mul hv.toSq]; exact hs)⟩⟩
theorem elt_jI (hv : Va t) (a b : Elt t) : jI a b ↔ JJ t a.1 b.1 := by
  unfold jI JJ
  refine ⟨fun ⟨z, h1, h2⟩ => ⟨z.1, z.2.1, z.2.2, (elt_lI hv a z).1 h1, (elt_rI hv z b).1 h2⟩, fun ⟨z, z0, z1, h1, h2⟩ => ⟨⟨z, z0, z1⟩, (elt_lI hv a ⟨z, z0, z1⟩).2 h1, (elt_rI hv ⟨z, z0, z1⟩ b).2 h2⟩⟩
theorem elt_R (hv : Va t) (a b : Elt t) : rE a b ↔ rd (gR t) a.1 = rd (gR t) b.1 := by
  rw [(gR_cl hv).eqv _ _ a.2.1 a.2.2 b.2.1 b.2.2]
  unfold rE Mu; rw [elt_rI hv, elt_rI hv]
theorem elt_L (hv : Va t) (a b : Elt t) : lE a b ↔ rd (gL t) a.1 = rd (gL t) b.1 := by
  rw [(gL_cl hv).eqv _ _ a.2.1 a.2.2 b.2.1 b.2.2]
  unfold lE Mu; rw [elt_lI hv, elt_lI hv]
theorem elt_J (hv : Va t) (a b : Elt t) : jE a b ↔ rd (gJ t) a.1 = rd (gJ t) b.1 := by
  rw [(gJ_cl hv).eqv _ _ a.2.1 a.2.2 b.2.1 b.2.2]
  unfold jE Mu; rw [elt_jI hv, elt_jI hv]
theorem elt_H (hv : Va t) (a b : Elt t) : (rE a b ∧ lE a b) ↔ rd (gH t) a.1 = rd (gH t) b.1 := by
  rw [(gH_cl hv).eqv _ _ a.2.1 a.2.2 b.2.1 b.2.2, elt_R hv, elt_L hv]
theorem elt_idm (hv : Va t) (a : Elt t) : Idm a ↔ M t a.1 a.1 = a.1 := by
  unfold Idm
  rw [← elt_mul hv.toSq]
  exact ⟨fun e => by rw [e], fun e => Subtype.ext e⟩
end
end Go.Ab
