/- Green's relations by the reference; comparisons. What they answer. No condition but that a table comes in. -/
import Derived.Test.YtmdndoghdbhipaaRGreenInvertsF10
set_option linter.unusedVariables false
set_option linter.unusedSimpArgs false
namespace Go.Ab
open Go
open Classical in
/-- A row of bools. -/
noncomputable def brow (n : Nat) (Q : Int → Prop) : List Bool := (List.range n).map fun x : Nat => decide (Q x)
theorem brow_len (n : Nat) (Q : Int → Prop) : (brow n Q).length = n := by simp [brow]
open Classical in
theorem brow_at {n : Nat} {Q : Int → Prop} {x : Int} (x0 : 0 ≤ x) (x1 : x < n) : rdOf false (brow n Q) x = decide (Q x) := by
  unfold brow; rw [rdOf_map false x0 x1, show ((x.toNat : Nat) : Int) = x by omega]
open Classical in
theorem brow_eq {n : Nat} {Q : Int → Prop} {l : List Bool} (hl : l.length = n) (h : ∀ x : Int, 0 ≤ x → x < n → (rdOf false l x = true ↔ Q x)) : l = brow n Q :=
  rdOf_ext false (by rw [brow_len, hl]) fun x x0 x1 => by rw [brow_at x0 (by omega), Bool.eq_iff_iff, decide_eq_true_iff]; exact h x x0 (by omega)
/-- What Classes answers. -/
noncomputable def vif {α : Type} (t : List (List Int)) (l : List α) : List α := open Classical in if val t = 0 then l else []
theorem vif_pos {α : Type} {t : List (List Int)} {l : List α} (h : val t = 0) : vif t l = l := by unfold vif; rw [if_pos h]
theorem vif_neg {α : Type} {t : List (List Int)} {l : List α} (h : ¬ val t = 0) : vif t l = [] := by unfold vif; rw [if_neg h]
noncomputable abbrev OwnG' (t : List (List Int)) (v : Sl × Sl × Sl × Sl × Sl) : List Asr := [own reI v.1 (vif t (gR t)), own reI v.2.1 (vif t (gL t)), own reI v.2.2.1 (vif t (gJ t)), own reI v.2.2.2.1 (vif t (gH t)), own (reL reB) v.2.2.2.2 (vif t (gB t))]
theorem green_Classes_ev {s : Sl} {t : List (List Int)} {H : AH} {lo : Nat} (hlo : lo ≤ H.length) (hin : In2 t) (ht : Tab H s t) : Ev (fun ρ k κ => green_Classes k s lo H κ) (fun v H' => Sep H H' (OwnG' t v)) := by
  refine ev_eq (fun _ k _ => green_Classes_eq k) (sp_alc (Sep.nil H) fun p1 H2 hS => ev_is (mult_Validate_ev hin (ht.le hS.le)) (ev_nif (fun h => ?_) (fun h => ?_)))
  · refine sp_stnC hS hlo rfl fun H3 hS => ev_sssss hS.at1 (ev_ret ?_)
    have h5 := ((((((hS.nilS (reL reB)).nilS reI).nilS reI).nilS reI).nilS reI).take 5)
    simp only [OwnG', vif_neg h]
    exact h5
  · refine ev_call (green_classes_ev (Nat.le_refl _) (val_va.1 h) (ht.le hS.le)) fun v H12 h12 => ?_
    have hS := hS.call h12
    refine sp_stnC (p := p1) (us := [.sl v.1, .sl v.2.1, .sl v.2.2.1, .sl v.2.2.2.1, .sl v.2.2.2.2]) (hS.pull 5) hlo rfl fun H3 hS => ?_
    have hp1 := hS.at1
    refine ev_sssss hp1 (ev_ret ?_)
    have h5 := hS.ord [1, 1, 1, 1, 1]
    simp only [OwnG', vif_pos h]
    exact h5
theorem semigrouplaw15_small_ev {s : Sl} {t : List (List Int)} {H : AH} {lo : Nat} {n : Int} (ht : In2 t) (hs : Tab H s t) : Ev (fun ρ k κ => semigrouplaw15_small k s n lo H κ) (Is (decide ((t.length : Int) ≤ n ∧ val t = 0)) H) := by
  refine ev_eq (fun _ k _ => semigrouplaw15_small_eq k) ?_
  rw [hs.len]
  exact ev_andP (fun _ => ev_is (semigroupref14_Valid_ev ht hs) (ev_ret ⟨rfl, rfl⟩)) (ev_ret ⟨rfl, rfl⟩)

end Go.Ab
