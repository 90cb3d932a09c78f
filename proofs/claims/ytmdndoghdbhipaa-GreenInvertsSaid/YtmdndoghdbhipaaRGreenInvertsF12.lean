/- Green's relations: orders, regular classes, inverses, the opposite table. What they answer. No condition but that a table comes in. -/
import Derived.Test.YtmdndoghdbhipaaRGreenInvertsF11
set_option linter.unusedVariables false
set_option linter.unusedSimpArgs false
namespace Go.Ab
open Go
/-- The inverses of x. -/
def IsInv (t : List (List Int)) (x y : Int) : Prop := M t (M t x y) x = x ∧ M t (M t y x) y = y
noncomputable def invsOf (t : List (List Int)) (x : Int) : List Int := sel (IsInv t x) 0 t.length
theorem green_Inverses_ev {s : Sl} {t : List (List Int)} {H : AH} {lo : Nat} {x : Int} (hlo : lo ≤ H.length) (hin : In2 t) (ht : Tab H s t) : Ev (fun ρ k κ => green_Inverses k s x lo H κ) (fun v H' => Sep H H' [own reI v (open Classical in if val t = 0 ∧ 0 ≤ x ∧ x < (t.length : Int) then invsOf t x else [])]) := by
  refine ev_eq (fun _ k _ => green_Inverses_eq k) (ev_is (mult_Validate_ev hin ht) ?_)
  rw [ht.len]
  refine ev_orV (c := decide (x < 0)) (fun _ => ev_ret ⟨rfl, rfl⟩) (ev_orV (c := decide (x ≥ (t.length : Int))) (fun _ => ev_ret ⟨rfl, rfl⟩) (ev_b (fun h => ev_ret ?_) (fun h => ?_)))
  · rw [if_neg]
    · exact (Sep.nil H).nilS _
    · rintro ⟨a, b, c⟩
      simp [a, show ¬ x < 0 by omega, show ¬ x ≥ (t.length : Int) by omega] at h
  simp only [Bool.or_eq_false_iff, Bool.not_eq_false', decide_eq_true_iff, decide_eq_false_iff_not] at h
  obtain ⟨⟨a, b⟩, c⟩ := h
  have hv := (val_va.1 a).toSq
  have hn := hv.le
  rw [if_pos ⟨a, by omega, by omega⟩]
  refine ev_loop (α := Sl × AH) (g := fun y a ρ k κ => green_Inverses_1 k s x a.1 (t.length : Int) y lo a.2 κ) (t.length : Int) (fun y a => Sep H a.2 [own reI a.1 (sel (IsInv t x) 0 y.toNat)]) ?_ ?_ 0 (⟨none, 0⟩, H) (by omega) (by omega) ((Sep.nil H).nilS _)
  · rintro y ⟨u, H1⟩ y0 y1 hS hk
    simp only at hS
    have hln := sel_len (P := IsInv t x) (i := 0) (m := y.toNat)
    have r1 := hv.row x (by omega) (by omega)
    have m1 := hv.lo x y (by omega) (by omega) y0 y1
    have m2 := hv.hi x y (by omega) (by omega) y0 y1
    have r2 := hv.row _ m1 m2
    have n1 := hv.lo y x y0 y1 (by omega) (by omega)
    have n2 := hv.hi y x y0 y1 (by omega) (by omega)
    have r3 := hv.row _ n1 n2
    have r4 := hv.row y y0 y1
    have ht1 := ht.le hS.le
    refine ev_eq (fun _ k _ => green_Inverses_1_eq k) (ev_pos y1 (ev_rdM ht1 (by omega) (by omega) y0 (by omega) (ev_rdM ht1 m1 m2 (by omega) (by omega) (ev_andP (c := M t (M t y x) y = y) (fun _ => ev_rdM ht1 y0 y1 (by omega) (by omega) (ev_rdM ht1 n1 n2 y0 (by omega) (ev_ret ⟨rfl, rfl⟩))) (ev_if (fun h => ?_) (fun h => ?_))))))
    · refine sp_app1 (x := y) hS hlo (fun _ => ⟨rfl, rfl⟩) (by omega) fun u' H2 hS => ev_eq (fun _ k _ => green_Inverses_2_eq k) ?_
      rw [W_add y0 y1 (by omega)]
      exact hk (u', H2) (hS.eq (sel_snoc y0 h))
    · refine ev_eq (fun _ k _ => green_Inverses_2_eq k) ?_
      rw [W_add y0 y1 (by omega)]
      exact hk (u, H1) (hS.eq (sel_skip y0 h))
  · rintro ⟨u, H1⟩ hS
    exact ev_eq (fun _ k _ => green_Inverses_1_eq k) (ev_neg (by omega) (ev_ret (show Sep H H1 [own reI u (sel (IsInv t x) 0 t.length)] by simpa using hS)))
/-- J-class c has an idempotent. -/
def RegC (t : List (List Int)) (c : Int) : Prop := ∃ x : Int, 0 ≤ x ∧ x < (t.length : Int) ∧ rd (gJ t) x = c ∧ M t x x = x
noncomputable def regL (t : List (List Int)) : List Bool := brow (nJ t) (RegC t)
theorem green_Regular_ev {s : Sl} {t : List (List Int)} {H : AH} {lo : Nat} (hlo : lo ≤ H.length) (hin : In2 t) (ht : Tab H s t) : Ev (fun ρ k κ => green_Regular k s lo H κ) (fun v H' => Sep H H' [own reB v (vif t (regL t))]) := by
  refine ev_eq (fun _ k _ => green_Regular_eq k) (ev_is (mult_Validate_ev hin ht) (ev_nif (fun h => ev_ret ?_) (fun h => ?_)))
  · rw [vif_neg h]; exact (Sep.nil H).nilS _
  have hv := val_va.1 h
  have hsq := hv.toSq
  have hn := hv.le
  have hnJ := nJ_le hv
  have lJ := (gJ_cl hv).len
  have lB : (gB t).length = nJ t := btab_len _ _ _
  rw [vif_pos h]
  refine ev_call (green_classes_ev (Nat.le_refl _) hv ht) fun r H4 hg => sp_alc hg fun p H6 hS => sp_stnC hS hlo rfl fun Hb hS => ev_fldS hS.at1 rfl ?_
  -- what was made till now stays
  have hlb : lo ≤ Hb.length := by have := hS.le.len; omega
  have hp := hS.at1
  have hJ : Row Hb r.2.2.1 (gJ t) := (hS.pull 3).row
  have htb := ht.le hS.le
  rw [(hS.pull 5).len, lB]
  refine sp_mks (x := false) (Sep.nil Hb) reB (fun _ => ⟨rfl, rfl⟩) (by omega) (by omega) fun u H11 hS2 => ev_fldS (hp.le hS2.le) rfl ?_
  rw [hJ.len, lJ]
  refine ev_loop (α := AH) (g := fun x H ρ k κ => green_Regular_1 k s u r.2.2.1 (t.length : Int) x lo H κ) (t.length : Int) (fun x H' => ∃ l : List Bool, Sep Hb H' [own reB u l] ∧ l.length = nJ t ∧ ∀ c : Int, 0 ≤ c → c < (nJ t : Int) → (rdOf false l c = true ↔ ∃ x' : Int, 0 ≤ x' ∧ x' < x ∧ rd (gJ t) x' = c ∧ M t x' x' = x')) ?_ ?_ 0 H11 (by omega) (by omega) ⟨_, hS2, by simp, fun c a b => ?_⟩
  · rintro x H1 x0 x1 ⟨l, hS3, hl, hc⟩ hk
    have jx := gJ_lt hv x0 x1
    have rx := hsq.row x x0 x1
    refine ev_eq (fun _ k _ => green_Regular_1_eq k) (ev_pos x1 (ev_rdI (hJ.le hS3.le) x0 (by omega) (ev_rdB hS3.rowB jx.1 (by omega) (ev_orV (c := decide (M t x x = x)) (fun _ => ev_rdM (htb.le hS3.le) x0 x1 x0 (by omega) (ev_ret ⟨rfl, rfl⟩)) (sp_put (x := rdOf false l (rd (gJ t) x) || decide (M t x x = x)) hS3 hlb (fun _ => ⟨rfl, rfl⟩) jx.1 (by omega) fun H2 hS3 => ?_)))))
    rw [W_add x0 x1 (by omega)]
    refine hk H2 ⟨_, hS3, by simpa using hl, fun c c0 c1 => ?_⟩
    rw [rb_set jx.1 (by omega) c0]
    by_cases hcx : c = rd (gJ t) x
    · rw [if_pos hcx, Bool.or_eq_true, hc _ jx.1 jx.2, decide_eq_true_iff]
      constructor
      · rintro (⟨x', a, b, d, e⟩ | h)
        · exact ⟨x', a, by omega, by omega, e⟩
        · exact ⟨x, x0, by omega, hcx.symm, h⟩
      · rintro ⟨x', a, b, d, e⟩
        by_cases hxx : x' = x
        · rw [hxx] at e; exact .inr e
        · exact .inl ⟨x', a, by omega, by omega, e⟩
    · rw [if_neg hcx, hc c c0 c1]
      refine ⟨fun ⟨x', a, b, d, e⟩ => ⟨x', a, by omega, d, e⟩, fun ⟨x', a, b, d, e⟩ => ⟨x', a, ?_, d, e⟩⟩
      by_cases hxx : x' = x
      · rw [hxx] at d; exact absurd d.symm hcx
      · omega
  · rintro H1 ⟨l, hS3, hl, hc⟩
    exact ev_eq (fun _ k _ => green_Regular_1_eq k) (ev_neg (by omega) (ev_ret ((hS3.base hS.le).eq (brow_eq hl hc))))
  · rw [rb_rep a (by omega)]
    exact ⟨fun h => by (cases h), fun ⟨x', a, b, _⟩ => by omega⟩
end Go.Ab
