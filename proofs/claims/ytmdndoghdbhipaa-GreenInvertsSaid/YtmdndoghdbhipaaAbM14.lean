/- The opposite table's relations; lengths of chains. Plain lemmas. No condition. -/
import Derived.Test.YtmdndoghdbhipaaAbM13
set_option linter.unusedVariables false
set_option linter.unusedSimpArgs false
set_option linter.unusedSectionVars false
namespace Go.Ab
open Go
section
variable {t : List (List Int)}
theorem opp_len (t : List (List Int)) : (opp t).length = t.length := tab_len _ _
theorem opp_M {x y : Int} (x0 : 0 ≤ x) (x1 : x < (t.length : Int)) (y0 : 0 ≤ y) (y1 : y < (t.length : Int)) : M (opp t) x y = M t y x := tab_M x0 x1 y0 y1
theorem opp_JR {x y : Int} (y0 : 0 ≤ y) (y1 : y < (t.length : Int)) : JR (opp t) y x ↔ JL t y x := by
  unfold JR JL
  rw [opp_len]
  refine ⟨fun h => h.imp id fun ⟨s, s0, s1, e⟩ => ⟨s, s0, s1, ?_⟩, fun h => h.imp id fun ⟨s, s0, s1, e⟩ => ⟨s, s0, s1, ?_⟩⟩
  · rw [e, opp_M y0 y1 s0 s1]
  · rw [e, opp_M y0 y1 s0 s1]
theorem opp_JL {x y : Int} (y0 : 0 ≤ y) (y1 : y < (t.length : Int)) : JL (opp t) y x ↔ JR t y x := by
  unfold JR JL
  rw [opp_len]
  refine ⟨fun h => h.imp id fun ⟨s, s0, s1, e⟩ => ⟨s, s0, s1, ?_⟩, fun h => h.imp id fun ⟨s, s0, s1, e⟩ => ⟨s, s0, s1, ?_⟩⟩
  · rw [e, opp_M s0 s1 y0 y1]
  · rw [e, opp_M s0 s1 y0 y1]
theorem opp_JJ (hv : Va t) {x y : Int} (y0 : 0 ≤ y) (y1 : y < (t.length : Int)) : JJ (opp t) y x ↔ JJ t y x := by
  rw [JJ_swap hv y0 y1]
  unfold JJ
  rw [opp_len]
  refine ⟨fun ⟨z, z0, z1, h1, h2⟩ => ⟨z, z0, z1, (opp_JL y0 y1).1 h1, (opp_JR z0 z1).1 h2⟩, fun ⟨z, z0, z1, h1, h2⟩ => ⟨z, z0, z1, (opp_JL y0 y1).2 h1, (opp_JR z0 z1).2 h2⟩⟩
theorem opp_gR (hv : Va t) : gR (opp t) = gL t := by
  have h := gR_cl (opp_va hv)
  rw [opp_len] at h
  exact (h.congr fun x y a b c d => by unfold Mu; rw [opp_JR a b, opp_JR c d]).eq_clN
theorem opp_gL (hv : Va t) : gL (opp t) = gR t := by
  have h := gL_cl (opp_va hv)
  rw [opp_len] at h
  exact (h.congr fun x y a b c d => by unfold Mu; rw [opp_JL a b, opp_JL c d]).eq_clN
theorem opp_gJ (hv : Va t) : gJ (opp t) = gJ t := by
  have h := gJ_cl (opp_va hv)
  rw [opp_len] at h
  exact (h.congr fun x y a b c d => by unfold Mu; rw [opp_JJ hv a b, opp_JJ hv c d]).eq_clN
theorem opp_gH (hv : Va t) : gH (opp t) = gH t := by
  have h := gH_cl (opp_va hv)
  rw [opp_len, opp_gR hv, opp_gL hv] at h
  exact (h.congr fun x y a b c d => and_comm).eq_clN
theorem opp_gB (hv : Va t) : gB (opp t) = gB t := by
  have e1 : nJ (opp t) = nJ t := by unfold nJ; rw [opp_gJ hv]
  have e2 : ∀ c, fJ (opp t) c = fJ t c := fun c => by unfold fJ; rw [opp_gJ hv]
  unfold gB
  rw [e1]
  refine btab_congr fun y x a b c d => ?_
  rw [e2, e2]
  have := fJ_in hv c d
  exact opp_JJ hv this.1 this.2.1
end

/-! ### Chains -/
/-- Irreflexive and transitive on m points. -/
structure Str (m : Nat) (D : Int → Int → Prop) : Prop where
  irr : ∀ a : Int, 0 ≤ a → a < m → ¬ D a a
  trans : ∀ a b c : Int, 0 ≤ a → a < m → 0 ≤ b → b < m → 0 ≤ c → c < m → D a b → D b c → D a c
/-- There is a chain of k points above a. -/
def Chn (m : Nat) (D : Int → Int → Prop) : Nat → Int → Prop
  | 0, _ => True
  | k + 1, a => ∃ b : Int, 0 ≤ b ∧ b < m ∧ D a b ∧ Chn m D k b
theorem Chn.less {m : Nat} {D : Int → Int → Prop} : ∀ {k : Nat} {a : Int}, Chn m D (k + 1) a → Chn m D k a
  | 0, _, _ => trivial
  | k + 1, a, ⟨b, b0, b1, h, hc⟩ => ⟨b, b0, b1, h, Chn.less hc⟩
theorem Chn.le {m : Nat} {D : Int → Int → Prop} {j k : Nat} {a : Int} (h : Chn m D k a) (hj : j ≤ k) : Chn m D j a := by
  induction k with
  | zero => have : j = 0 := by omega
            subst this; exact h
  | succ k ih =>
    by_cases hjk : j = k + 1
    · subst hjk; exact h
    · exact ih h.less (by omega)
theorem Chn.list {m : Nat} {D : Int → Int → Prop} (hD : Str m D) : ∀ {k : Nat} {a : Int}, 0 ≤ a → a < m → Chn m D k a → ∃ l : List Int, l.length = k ∧ l.Nodup ∧ (∀ x ∈ l, 0 ≤ x ∧ x < m ∧ D a x)
  | 0, _, _, _, _ => ⟨[], rfl, by simp, by simp⟩
  | k + 1, a, a0, a1, ⟨b, b0, b1, h, hc⟩ => by
    obtain ⟨l, h1, h2, h3⟩ := Chn.list hD b0 b1 hc
    refine ⟨b :: l, by simp [h1], List.nodup_cons.2 ⟨fun hm => hD.irr b b0 b1 (h3 b hm).2.2, h2⟩, fun x hx => ?_⟩
    rcases List.mem_cons.1 hx with rfl | hx
    · exact ⟨b0, b1, h⟩
    · obtain ⟨x0, x1, x2⟩ := h3 x hx
      exact ⟨x0, x1, hD.trans a b x a0 a1 b0 b1 x0 x1 h x2⟩
theorem Chn.lt {m : Nat} {D : Int → Int → Prop} (hD : Str m D) {k : Nat} {a : Int} (a0 : 0 ≤ a) (a1 : a < m) (h : Chn m D k a) : k < m := by
  obtain ⟨l, h1, h2, h3⟩ := Chn.list hD a0 a1 h
  have := drawers (l := a :: l) (n := m) (List.nodup_cons.2 ⟨fun hm => hD.irr a a0 a1 (h3 a hm).2.2, h2⟩) fun x hx => by
    rcases List.mem_cons.1 hx with rfl | hx
    · exact ⟨a0, a1⟩
    · exact ⟨(h3 x hx).1, (h3 x hx).2.1⟩
  simp at this; omega
open Classical in
/-- The length of the longest chain above a. -/
noncomputable def hgt (m : Nat) (D : Int → Int → Prop) (a : Int) : Nat := if h : ∃ k, ¬ Chn m D (k + 1) a then Classical.choose (least h) else 0
theorem hgt_iff {m : Nat} {D : Int → Int → Prop} (hD : Str m D) {k : Nat} {a : Int} (a0 : 0 ≤ a) (a1 : a < m) : Chn m D k a ↔ k ≤ hgt m D a := by
  have hex : ∃ k, ¬ Chn m D (k + 1) a := ⟨m, fun h => by have := h.lt hD a0 a1; omega⟩
  have e : hgt m D a = Classical.choose (least hex) := by unfold hgt; rw [dif_pos hex]
  obtain ⟨h1, h2⟩ := Classical.choose_spec (least hex)
  rw [← e] at h1 h2
  constructor
  · intro h
    exact Classical.byContradiction fun hn => h1 (h.le (by omega))
  · intro h
    cases k with
    | zero => trivial
    | succ k => exact Classical.byContradiction fun hn => h2 k (by omega) hn
theorem hgt_lt {m : Nat} {D : Int → Int → Prop} (hD : Str m D) {a : Int} (a0 : 0 ≤ a) (a1 : a < m) : hgt m D a < m := ((hgt_iff hD a0 a1).2 (Nat.le_refl _)).lt hD a0 a1
theorem hgt_step {m : Nat} {D : Int → Int → Prop} (hD : Str m D) {a b : Int} (a0 : 0 ≤ a) (a1 : a < m) (b0 : 0 ≤ b) (b1 : b < m) (h : D a b) : hgt m D b + 1 ≤ hgt m D a :=
  (hgt_iff hD a0 a1).1 ⟨b, b0, b1, h, (hgt_iff hD b0 b1).2 (Nat.le_refl _)⟩
theorem hgt_pred {m : Nat} {D : Int → Int → Prop} (hD : Str m D) {a : Int} (a0 : 0 ≤ a) (a1 : a < m) (h : 0 < hgt m D a) : ∃ b : Int, 0 ≤ b ∧ b < m ∧ D a b ∧ hgt m D b + 1 = hgt m D a := by
  obtain ⟨k, hk⟩ : ∃ k, hgt m D a = k + 1 := ⟨hgt m D a - 1, by omega⟩
  obtain ⟨b, b0, b1, hb, hc⟩ := (hgt_iff (k := k + 1) hD a0 a1).2 (by omega)
  have h1 := (hgt_iff hD b0 b1).1 hc
  have h2 := hgt_step hD a0 a1 b0 b1 hb
  exact ⟨b, b0, b1, hb, by omega⟩
/-- Below, and another. -/
def DJ (t : List (List Int)) (a b : Int) : Prop := a ≠ b ∧ JJ t (fJ t b) (fJ t a)
theorem DJ_str {t : List (List Int)} (hv : Va t) : Str (nJ t) (DJ t) := by
  refine ⟨fun a a0 a1 h => h.1 rfl, fun a b c a0 a1 b0 b1 c0 c1 h1 h2 => ⟨fun e => ?_, ?_⟩⟩
  · subst e
    obtain ⟨x0, x1, x2⟩ := fJ_in hv a0 a1
    obtain ⟨y0, y1, y2⟩ := fJ_in hv b0 b1
    have := ((gJ_cl hv).eqv _ _ x0 x1 y0 y1).2 ⟨h2.2, h1.2⟩
    exact h1.1 (by omega)
  · obtain ⟨x0, x1, x2⟩ := fJ_in hv a0 a1
    obtain ⟨y0, y1, y2⟩ := fJ_in hv b0 b1
    obtain ⟨z0, z1, z2⟩ := fJ_in hv c0 c1
    exact (JJ_pre hv).trans _ _ _ z0 z1 y0 y1 x0 x1 h2.2 h1.2
noncomputable def htsL (t : List (List Int)) : List Int := (List.range (nJ t)).map fun a : Nat => (hgt (nJ t) (DJ t) a : Int)
end Go.Ab
