/- Layer 14: identity, zero, powers, index and period. What they answer. No condition but that a table comes in. -/
import Derived.Test.YtnoickhdbinciaaRReesValidatesF1
import Derived.Test.YtnoickhdbinciaaAbM5
set_option linter.unusedVariables false
set_option linter.unusedSimpArgs false
namespace Go.Ab
open Go
open Classical
theorem semigroupref14_Identity_l1 {s : Sl} {t : List (List Int)} {H : AH} {lo : Nat} (ht : Tab H s t) (hs : Sq t) : Ev (fun ρ k κ => semigroupref14_Identity_1 k s (t.length : Int) 0 lo H κ) (Is (idn t) H) := by
  have hle := hs.le
  have hpos := hs.pos
  have hl := ht.len
  have round : ∀ e : Int, 0 ≤ e → e < (t.length : Int) → ∀ Q : Int → AH → Prop, (IsId t e → Q e H) → (¬ IsId t e → Ev (fun ρ k κ => semigroupref14_Identity_1 k s (t.length : Int) (e + 1) lo H κ) Q) → Ev (fun ρ k κ => semigroupref14_Identity_1 k s (t.length : Int) e lo H κ) Q := by
    intro e he0 he1 Q q1 q2
    have r1 := hs.row e he0 he1
    refine ev_eq (fun _ k _ => semigroupref14_Identity_1_eq k) (ev_pos he1 ?_)
    rw [hl]
    refine ev_all (g := fun y a ρ k κ => semigroupref14_Identity_2 k s e a (t.length : Int) e (t.length : Int) y lo H κ) (t.length : Int) (fun y => M t e y = y ∧ M t y e = y) (by omega) ?_ ?_
    · intro y b hy0 hy1 H'
      have r2 := hs.row y hy0 hy1
      refine ev_eq (fun _ k _ => semigroupref14_Identity_2_eq k) (ev_pos hy1 ?_)
      rw [W_add hy0 hy1 (by omega)]
      refine ev_andI (c := b && decide (M t e y = y)) (fun hb => ?_) (fun hb => by simp [hb]) ?_
      · exact ev_rdM ht he0 he1 hy0 (by omega) (ev_ret ⟨by simp [hb], rfl⟩)
      refine ev_andI (c := (b && decide (M t e y = y)) && decide (M t y e = y)) (fun hb => ?_) (fun hb => by simp [hb]) (H' _ (by simp [and_assoc]))
      exact ev_rdM ht hy0 hy1 he0 (by omega) (ev_ret ⟨by rw [hb, Bool.true_and], rfl⟩)
    · intro c hc
      refine ev_eq (fun _ k _ => semigroupref14_Identity_2_eq k) (ev_neg (by omega) (ev_b (fun hb => ev_ret (q1 (hc.1 hb))) fun hb => ?_))
      rw [W_add he0 he1 (by omega)]
      exact q2 fun hp => by rw [hc.2 hp] at hb; cases hb
  refine ev_first (g := fun e ρ k κ => semigroupref14_Identity_1 k s (t.length : Int) e lo H κ) t.length (IsId t) ?_ ?_ ?_
  · intro e he0 he1 hp H'
    exact round e he0 he1 _ (fun h => absurd h hp) (fun _ => H')
  · intro e he0 he1 hp hf
    exact round e he0 he1 _ (fun _ => ⟨hf.symm, rfl⟩) (fun h => absurd hp h)
  · intro hf
    exact ev_eq (fun _ k _ => semigroupref14_Identity_1_eq k) (ev_neg (by omega) (ev_ret ⟨hf.symm, rfl⟩))
theorem va_of {t : List (List Int)} (h : val t = 0) : Va t := val_va.1 h
theorem semigroupref14_Identity_ev {s : Sl} {t : List (List Int)} {H : AH} {lo : Nat} (hv : Sq t) (hs : Tab H s t) : Ev (fun ρ k κ => semigroupref14_Identity k s lo H κ) (Is (idn t) H) :=
  ev_eq (fun _ k _ => semigroupref14_Identity_eq k) (by rw [hs.len]; exact semigroupref14_Identity_l1 hs hv)
end Go.Ab
