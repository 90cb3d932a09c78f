/- The opposite table, idempotents, heights. What they answer. No condition but that a table comes in. -/
import Derived.Test.YtmdndoghdbhipaaRGreenMirrorsF12
import Derived.Test.YtmdndoghdbhipaaAbM14
set_option linter.unusedVariables false
set_option linter.unusedSimpArgs false
namespace Go.Ab
open Go
theorem nilRowI {H : AH} : (reL reI).on H (.sl ⟨none, 0⟩) [] [] := ⟨⟨none, 0⟩, rfl, rfl, .inl ⟨rfl, rfl, rfl⟩⟩
theorem mult_Opposite_ev {s : Sl} {t : List (List Int)} {H : AH} {lo : Nat} (hlo : lo ≤ H.length) (hin : In2 t) (ht : Tab H s t) : Ev (fun ρ k κ => mult_Opposite k s lo H κ) (fun v H' => Sep H H' [own (reL reI) v (vif t (opp t))]) := by
  refine ev_eq (fun _ k _ => mult_Opposite_eq k) (ev_is (mult_Validate_ev hin ht) (ev_nif (fun h => ev_ret ?_) (fun h => ?_)))
  · rw [vif_neg h]; exact (Sep.nil H).nilS _
  rw [vif_pos h, ht.len]
  have hv := (val_va.1 h).toSq
  have hn := hv.le
  refine sp_mks (x := []) (Sep.nil H) (reL reI) (fun _ => nilRowI) (by omega) (by omega) fun u H2 hS => ?_
  refine ev_loop (α := AH) (g := fun x H ρ k κ => mult_Opposite_1 k s u (t.length : Int) x lo H κ) (t.length : Int) (fun x H' => ∃ T : List (List Int), Sep H H' [own (reL reI) u T] ∧ T.length = t.length ∧ ∀ z : Int, 0 ≤ z → z < x → (R T z).length = t.length ∧ ∀ y : Int, 0 ≤ y → y < (t.length : Int) → M T z y = M t y z) ?_ ?_ 0 H2 (by omega) (by omega) ⟨_, hS, by simp, fun z a b => by omega⟩
  · rintro x H1 x0 x1 ⟨T, hS, hT, hz⟩ hk
    have hT' : x < (T.length : Int) := by omega
    refine ev_eq (fun _ k _ => mult_Opposite_1_eq k) (ev_pos x1 ?_)
    rw [ht.len]
    refine sp_mks (x := (0 : Int)) hS reI (fun _ => ⟨rfl, rfl⟩) (by omega) (by omega) fun w H2 hS => sp_putE hS.eltL.swap hlo x0 hT' fun H3 hS => ?_
    refine ev_loop (α := AH) (g := fun y H ρ k κ => mult_Opposite_2 k s u x (t.length : Int) x (t.length : Int) y lo H κ) (t.length : Int) (fun y H' => ∃ row : List Int, Sep H H' [own (reL reI) u (T.set x.toNat row)] ∧ row.length = t.length ∧ ∀ y' : Int, 0 ≤ y' → y' < y → rd row y' = M t y' x) ?_ ?_ 0 H3 (by omega) (by omega) ⟨_, hS, by simp, fun y' a b => by omega⟩
    · rintro y H1 y0 y1 ⟨row, hS, hr, hy⟩ hk
      have hrow := hv.row y y0 y1
      refine ev_eq (fun _ k _ => mult_Opposite_2_eq k) (ev_pos y1 (sp_openS hS x0 hT' fun w hS => ev_rdM (ht.le hS.le) y0 y1 x0 (by omega) (sp_put (x := M t y x) (hS.pull 1) hlo (fun _ => ⟨rfl, rfl⟩) y0 (by omega) fun H2 hS => ?_)))
      rw [W_add y0 y1 (by omega)]
      refine hk H2 ⟨_, (hS.pull 1).closeS, by simpa using hr, fun y' a b => ?_⟩
      rw [rd_set y0 (by omega) a]
      by_cases hyy : y' = y
      · rw [if_pos hyy, hyy]
      · rw [if_neg hyy]; exact hy y' a (by omega)
    · rintro H1 ⟨row, hS, hr, hy⟩
      refine ev_eq (fun _ k _ => mult_Opposite_2_eq k) (ev_neg (by omega) ?_)
      rw [W_add x0 x1 (by omega)]
      refine hk H1 ⟨_, hS, by simpa using hT, fun z a b => ?_⟩
      unfold M
      rw [R_set x0 hT' a]
      by_cases hzx : z = x
      · rw [if_pos hzx, hzx]; exact ⟨hr, hy⟩
      · rw [if_neg hzx]; exact hz z a (by omega)
  · rintro H1 ⟨T, hS, hT, hz⟩
    refine ev_eq (fun _ k _ => mult_Opposite_1_eq k) (ev_neg (by omega) (ev_ret (hS.eq ?_)))
    exact tab_eq hT (fun x a b => (hz x a b).1) (fun x y a b c d => (hz x a b).2 y c d)
/-- What a pass over the heights has reached: class a as far as b, those before a wholly. -/
structure Hi (m : Nat) (D : Int → Int → Prop) (k : Nat) (o : List Int) (a b : Int) (o' : List Int) : Prop where
  len : o'.length = m
  le : ∀ x : Int, 0 ≤ x → x < m → rd o x ≤ rd o' x ∧ rd o' x ≤ (hgt m D x : Int)
  lo : ∀ x : Int, 0 ≤ x → x < m → min (hgt m D x : Int) k ≤ rd o' x
  done : ∀ x y : Int, 0 ≤ x → x < m → 0 ≤ y → y < m → D x y → (x < a ∨ (x = a ∧ y < b)) → rd o y + 1 ≤ rd o' x
theorem Hi.next {m : Nat} {D : Int → Int → Prop} (hD : Str m D) {k : Nat} {o o' : List Int} {a b : Int} (h : Hi m D k o a b o') (ho : ∀ x : Int, 0 ≤ x → x < m → min (hgt m D x : Int) k ≤ rd o x) (a0 : 0 ≤ a) (a1 : a < m) (b0 : 0 ≤ b) (b1 : b < m) {v : Int} (hv : v = rd o' a ∧ (D a b → rd o' b + 1 ≤ rd o' a) ∨ D a b ∧ v = rd o' b + 1 ∧ rd o' a ≤ v) : Hi m D k o a (b + 1) (o'.set a.toNat v) := by
  have hl := h.len
  have hs : ∀ j : Int, 0 ≤ j → rd (o'.set a.toNat v) j = if j = a then v else rd o' j := fun j j0 => rd_set a0 (by omega) j0
  have hva : rd o' a ≤ v ∧ v ≤ (hgt m D a : Int) ∧ (D a b → rd o' b + 1 ≤ v) := by
    have h1 := h.le a a0 a1
    have h2 := h.le b b0 b1
    rcases hv with ⟨e, f⟩ | ⟨d, e, f⟩
    · exact ⟨by omega, by omega, fun d => by have := f d; omega⟩
    · have := hgt_step hD a0 a1 b0 b1 d
      exact ⟨f, by omega, fun _ => by omega⟩
  refine ⟨by simpa using hl, fun x x0 x1 => ?_, fun x x0 x1 => ?_, fun x y x0 x1 y0 y1 d hxy => ?_⟩
  · rw [hs x x0]
    have := h.le x x0 x1
    split
    · rename_i e; subst e; omega
    · exact this
  · rw [hs x x0]
    have := h.lo x x0 x1
    split
    · rename_i e; subst e; omega
    · exact this
  · rw [hs x x0]
    split
    · rename_i e; subst e
      by_cases hyb : y = b
      · subst hyb
        have := hva.2.2 d
        have := h.le y y0 y1
        omega
      · have := h.done x y x0 x1 y0 y1 d (by omega)
        omega
    · exact h.done x y x0 x1 y0 y1 d (by omega)
theorem Hi.row {m : Nat} {D : Int → Int → Prop} {k : Nat} {o o' : List Int} {a : Int} (h : Hi m D k o a m o') : Hi m D k o (a + 1) 0 o' :=
  ⟨h.len, h.le, h.lo, fun x y x0 x1 y0 y1 d hxy => h.done x y x0 x1 y0 y1 d (by omega)⟩
theorem Hi.pass {m : Nat} {D : Int → Int → Prop} (hD : Str m D) {k : Nat} {o o' : List Int} (h : Hi m D k o m 0 o') (ho : ∀ x : Int, 0 ≤ x → x < m → min (hgt m D x : Int) k ≤ rd o x) : ∀ x : Int, 0 ≤ x → x < m → min (hgt m D x : Int) ((k + 1 : Nat) : Int) ≤ rd o' x := by
  intro x x0 x1
  by_cases h0 : 0 < hgt m D x
  · obtain ⟨b, b0, b1, d, e⟩ := hgt_pred hD x0 x1 h0
    have := h.done x b x0 x1 b0 b1 d (by omega)
    have := ho b b0 b1
    omega
  · have := h.lo x x0 x1
    omega
end Go.Ab
