/- The opposite table, idempotents, heights. What they answer. No condition but that a table comes in. -/
import Derived.Test.YtmdndoghdbhipaaRGreenInvertsF12
import Derived.Test.YtmdndoghdbhipaaAbM14
set_option linter.unusedVariables false
set_option linter.unusedSimpArgs false
namespace Go.Ab
open Go
theorem mult_Idempotents_ev {s : Sl} {t : List (List Int)} {H : AH} {lo : Nat} (hlo : lo ≤ H.length) (hin : In2 t) (ht : Tab H s t) : Ev (fun ρ k κ => mult_Idempotents k s lo H κ) (fun v H' => Sep H H' [own reI v (vif t (idem t))]) := by
  refine ev_eq (fun _ k _ => mult_Idempotents_eq k) (ev_is (mult_Validate_ev hin ht) (ev_nif (fun h => ev_ret ?_) (fun h => ?_)))
  · rw [vif_neg h]; exact (Sep.nil H).nilS _
  rw [vif_pos h, ht.len]
  have hv := (val_va.1 h).toSq
  have hn := hv.le
  refine ev_loop (α := Sl × AH) (g := fun y a ρ k κ => mult_Idempotents_1 k s a.1 (t.length : Int) y lo a.2 κ) (t.length : Int) (fun y a => Sep H a.2 [own reI a.1 (sel (fun x => M t x x = x) 0 y.toNat)]) ?_ ?_ 0 (⟨none, 0⟩, H) (by omega) (by omega) ((Sep.nil H).nilS _)
  · rintro y ⟨u, H1⟩ y0 y1 hS hk
    simp only at hS
    have hln := sel_len (P := fun x => M t x x = x) (i := 0) (m := y.toNat)
    have r1 := hv.row y y0 y1
    refine ev_eq (fun _ k _ => mult_Idempotents_1_eq k) (ev_pos y1 (ev_rdM (ht.le hS.le) y0 y1 y0 (by omega) (ev_if (fun h => ?_) (fun h => ?_))))
    · refine sp_app1 (x := y) hS hlo (fun _ => ⟨rfl, rfl⟩) (by omega) fun u' H2 hS => ev_eq (fun _ k _ => mult_Idempotents_2_eq k) ?_
      rw [W_add y0 y1 (by omega)]
      exact hk (u', H2) (hS.eq (sel_snoc (P := fun x => M t x x = x) y0 h))
    · refine ev_eq (fun _ k _ => mult_Idempotents_2_eq k) ?_
      rw [W_add y0 y1 (by omega)]
      exact hk (u, H1) (hS.eq (sel_skip (P := fun x => M t x x = x) y0 h))
  · rintro ⟨u, H1⟩ hS
    exact ev_eq (fun _ k _ => mult_Idempotents_1_eq k) (ev_neg (by omega) (ev_ret (show Sep H H1 [own reI u (sel (fun x => M t x x = x) 0 t.length)] by simpa using hS)))

/-- What a pass over the heights has reached: class a as far as b, those before a wholly. -/
structure Hi (m : Nat) (D : Int → Int → Prop) (k : Nat) (o : List Int) (a b : Int) (o' : List Int) : Prop where
  len : o'.length = m
  le : ∀ x : Int, 0 ≤ x → x < m → rd o x ≤ rd o' x ∧ rd o' x ≤ (hgt m D x : Int)
  lo : ∀ x : Int, 0 ≤ x → x < m → min (hgt m D x : Int) k ≤ rd o' x
  done : ∀ x y : Int, 0 ≤ x → x < m → 0 ≤ y → y < m → D x y → (x < a ∨ (x = a ∧ y < b)) → rd o y + 1 ≤ rd o' x
theorem Hi.next {m : Nat} {D : Int → Int → Prop} (hD : Str m D) {k : Nat} {o o' : List Int} {a b : Int} (h : Hi m D k o a b o') (ho : ∀ x : Int, 0 ≤ x → x < m → min (hgt m D x : Int) k ≤ rd o x) (a0 : 0 ≤ a) (a1 : a < m) (b0 : 0 ≤ b) (b1 : b < m) {v : Int} (hv : v = rd o' a ∧ (D a b → rd o' b + 1 ≤ rd o' a) ∨ D a b ∧ v = rd o' b + 1 ∧ rd o' a ≤ v) : Hi m D k o a (b + 1) (o'.set a.toNat v) := by
  have hl := h.len
  have hs : ∀ j : Int, 0 ≤ j → rd (o'.set a.toNat v) j = if j = a then v else rd o' j := fun j j0 => rd_set a0 (by omega) j0
  have hva : rd o' a ≤ v ∧ v ≤ (hgt m D a : Int) ∧ (D a b → rd o' b + 1 ≤ v) := by
    have h1 := h.le a a0 a1
    have h2 := h.le b b0 b1
    rcases hv with ⟨e, f⟩ | ⟨d, e, f⟩
    · exact ⟨by omega, by omega, fun d => by have := f d; omega⟩
    · have := hgt_step hD a0 a1 b0 b1 d
      exact ⟨f, by omega, fun _ => by omega⟩
  refine ⟨by simpa using hl, fun x x0 x1 => ?_, fun x x0 x1 => ?_, fun x y x0 x1 y0 y1 d hxy => ?_⟩
  · rw [hs x x0]
    have := h.le x x0 x1
    split
    · rename_i e; subst e; omega
    · exact this
  · rw [hs x x0]
    have := h.lo x x0 x1
    split
    · rename_i e; subst e; omega
    · exact this
  · rw [hs x x0]
    split
    · rename_i e; subst e
      by_cases hyb : y = b
      · subst hyb
        have := hva.2.2 d
        have := h.le y y0 y1
        omega
      · have := h.done x y x0 x1 y0 y1 d (by omega)
        omega
    · exact h.done x y x0 x1 y0 y1 d (by omega)
theorem Hi.row {m : Nat} {D : Int → Int → Prop} {k : Nat} {o o' : List Int} {a : Int} (h : Hi m D k o a m o') : Hi m D k o (a + 1) 0 o' :=
  ⟨h.len, h.le, h.lo, fun x y x0 x1 y0 y1 d hxy => h.done x y x0 x1 y0 y1 d (by omega)⟩
theorem Hi.pass {m : Nat} {D : Int → Int → Prop} (hD : Str m D) {k : Nat} {o o' : List Int} (h : Hi m D k o m 0 o') (ho : ∀ x : Int, 0 ≤ x → x < m → min (hgt m D x : Int) k ≤ rd o x) : ∀ x : Int, 0 ≤ x → x < m → min (hgt m D x : Int) ((k + 1 : Nat) : Int) ≤ rd o' x := by
  intro x x0 x1
  by_cases h0 : 0 < hgt m D x
  · obtain ⟨b, b0, b1, d, e⟩ := hgt_pred hD x0 x1 h0
    have := h.done x b x0 x1 b0 b1 d (by omega)
    have := ho b b0 b1
    omega
  · have := h.lo x x0 x1
    omega
end Go.Ab
