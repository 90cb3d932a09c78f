/- Green's relations: orders, regular classes, inverses, the opposite table. What they answer. No condition but that a table comes in. -/
import Derived.Test.YtmdndoghdbhipaaRGreenOrdersF11
set_option linter.unusedVariables false
set_option linter.unusedSimpArgs false
namespace Go.Ab
open Go
open Classical in
theorem green_leq_ev {s : Sl} {t : List (List Int)} {H : AH} {lo : Nat} {x y : Int} {X : AV} {P : Int → Int → Prop} {F : Nat → (ρ : Type) → Nat → AH → (Sl → AH → Option ρ) → Option ρ} (hX : ∀ (ρ : Type) (k : Nat) (lo : Nat) (H : AH) (κ : Sl → AH → Option ρ), callX G k X [.sl s] lo H (fun u H' => asS u fun v => κ v H') = F k ρ lo H κ) (hF : ∀ H, Tab H s t → Sq t → ∀ lo, lo ≤ H.length → Ev (fun ρ k κ => F k ρ lo H κ) (fun v H' => Sep H H' [own (reL reB) v (btab t.length t.length P)])) (hlo : lo ≤ H.length) (hin : In2 t) (ht : Tab H s t) :
    Ev (fun ρ k κ => green_leq k s x y X lo H κ) (fun v H' => v = decide (val t = 0 ∧ (0 ≤ x ∧ x < (t.length : Int)) ∧ (0 ≤ y ∧ y < (t.length : Int)) ∧ P y x) ∧ Le H H') := by
  refine ev_eq (fun _ k _ => green_leq_eq k) (ev_is (mult_Validate_ev hin ht) ?_)
  rw [ht.len]
  refine ev_orV (c := decide (x < 0)) (fun _ => ev_ret ⟨rfl, rfl⟩) (ev_orV (c := decide (x ≥ (t.length : Int))) (fun _ => ev_ret ⟨rfl, rfl⟩) (ev_orV (c := decide (y < 0)) (fun _ => ev_ret ⟨rfl, rfl⟩) (ev_orV (c := decide (y ≥ (t.length : Int))) (fun _ => ev_ret ⟨rfl, rfl⟩) (ev_b (fun h => ev_ret ⟨?_, Le.refl _⟩) (fun h => ?_)))))
  · symm
    simp only [decide_eq_false_iff_not]
    rintro ⟨a, ⟨b, c⟩, ⟨d, e⟩, _⟩
    simp [a, show ¬ x < 0 by omega, show ¬ x ≥ (t.length : Int) by omega, show ¬ y < 0 by omega, show ¬ y ≥ (t.length : Int) by omega] at h
  · simp only [Bool.or_eq_false_iff, Bool.not_eq_false', decide_eq_true_iff, decide_eq_false_iff_not] at h
    obtain ⟨⟨⟨⟨a, b⟩, c⟩, d⟩, e⟩ := h
    have hsq := (val_va.1 a).toSq
    have key : (fun (ρ : Type) (k : Nat) (κ : Bool → AH → Option ρ) => callX G k X [.sl s] lo H fun u11 H13 => asS u11 fun v12 => rdS H13 v12 y fun v14 => rdB H13 v14 x fun v15 => κ v15 H13) = fun ρ k κ => F k ρ lo H fun v12 H13 => rdS H13 v12 y fun v14 => rdB H13 v14 x fun v15 => κ v15 H13 := by
      funext ρ k κ; exact hX ρ k lo H _
    show Ev (fun (ρ : Type) (k : Nat) (κ : Bool → AH → Option ρ) => callX G k X [.sl s] lo H fun u11 H13 => asS u11 fun v12 => rdS H13 v12 y fun v14 => rdB H13 v14 x fun v15 => κ v15 H13) _
    rw [key]
    refine ev_call (hF H ht hsq lo hlo) fun v H' hS => ev_rdSB hS.tabB (by omega) (by rw [btab_len]; omega) fun r hr => ev_rdB hr (by omega) (by rw [btab_rlen (by omega) (by omega)]; omega) (ev_ret ⟨?_, hS.le⟩)
    rw [btab_at (by omega) (by omega) (by omega) (by omega)]
    apply decide_eq_decide.2
    exact ⟨fun h => ⟨a, by omega, by omega, h⟩, fun h => h.2.2.2⟩
open Classical in
theorem green_LeqR_ev {s : Sl} {t : List (List Int)} {H : AH} {lo : Nat} {x y : Int} (hin : In2 t) (ht : Tab H s t) : Ev (fun ρ k κ => green_LeqR k s x y lo H κ) (fun v H' => v = decide (val t = 0 ∧ (0 ≤ x ∧ x < (t.length : Int)) ∧ (0 ≤ y ∧ y < (t.length : Int)) ∧ JR t y x) ∧ Le H H') :=
  ev_eq (fun _ k _ => green_LeqR_eq k) (ev_call (green_leq_ev (F := fun k ρ lo H κ => green_right k s lo H κ) (fun _ _ _ _ _ => rfl) (fun H ht hv lo hlo => green_right_ev hlo hv ht) (Nat.le_refl _) hin ht) fun v H' h => ev_ret h)
open Classical in
theorem green_LeqL_ev {s : Sl} {t : List (List Int)} {H : AH} {lo : Nat} {x y : Int} (hin : In2 t) (ht : Tab H s t) : Ev (fun ρ k κ => green_LeqL k s x y lo H κ) (fun v H' => v = decide (val t = 0 ∧ (0 ≤ x ∧ x < (t.length : Int)) ∧ (0 ≤ y ∧ y < (t.length : Int)) ∧ JL t y x) ∧ Le H H') :=
  ev_eq (fun _ k _ => green_LeqL_eq k) (ev_call (green_leq_ev (F := fun k ρ lo H κ => green_left k s lo H κ) (fun _ _ _ _ _ => rfl) (fun H ht hv lo hlo => green_left_ev hlo hv ht) (Nat.le_refl _) hin ht) fun v H' h => ev_ret h)
open Classical in
theorem green_LeqJ_ev {s : Sl} {t : List (List Int)} {H : AH} {lo : Nat} {x y : Int} (hin : In2 t) (ht : Tab H s t) : Ev (fun ρ k κ => green_LeqJ k s x y lo H κ) (fun v H' => v = decide (val t = 0 ∧ (0 ≤ x ∧ x < (t.length : Int)) ∧ (0 ≤ y ∧ y < (t.length : Int)) ∧ JJ t y x) ∧ Le H H') :=
  ev_eq (fun _ k _ => green_LeqJ_eq k) (ev_call (green_leq_ev (F := fun k ρ lo H κ => green_two k s lo H κ) (fun _ _ _ _ _ => rfl) (fun H ht hv lo hlo => green_two_ev hlo hv ht) (Nat.le_refl _) hin ht) fun v H' h => ev_ret h)
end Go.Ab
