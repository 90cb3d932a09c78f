/- ReesPrincipal: for all arguments the law answers true. No condition but that they come in. -/
import Derived.Test.YtnoickhdbinciaaRReesPrincipalF1
/- ReesPrincipal: for every table the law answers true. No condition but that the arguments come in. -/
set_option linter.unusedVariables false
set_option linter.unusedSimpArgs false
namespace Go.Ab
open Go

theorem prT_rows {t : List (List Int)} {j : Int} : ∀ v ∈ prT t j, v.length = (prL t j).length := by
  intro v hv
  unfold prT tab at hv
  obtain ⟨x, _, rfl⟩ := List.mem_map.1 hv
  simp
open Classical in
theorem law_ReesPrincipal {H : AH} {s0 : Sl} {l0 : List (List Int)} {a1 : Int} (h0 : In2 l0) (t0 : Tab H s0 l0) (h1 : (Lit.int .i64 a1).wf = true) : Ev (fun ρ k κ => semigrouplaw17_ReesPrincipal k s0 a1 H.length H κ) (fun v _ => v = true) := by
  have aw : ∀ H : AH, Ev (fun ρ k κ => semigrouplaw17_awake k H.length H fun v H' => κ v H') (fun v _ => v = true) := fun H => ev_call semigrouplaw17_awake_true fun v H' hv => ev_ret hv
  refine ev_eq (fun _ k _ => semigrouplaw17_ReesPrincipal_eq k) (ev_is (semigrouplaw17_large_ev h0 t0) (ev_if (fun _ => aw _) (fun hl => ?_)))
  have hn : val l0 = 0 → l0.length ≤ 399 := fun h => by
    have := shp_sq.2 (val_va.1 h).toSq
    have : ¬ (l0.length : Int) > 20 := fun hh => hl ⟨hh, this⟩
    omega
  refine ev_call (rees_Principal_ev (Nat.le_refl _) h0 t0 hn) fun r H6 ⟨er, hr⟩ => ev_call (semigroupref17_Principal_ev (Nat.le_refl _) h0 (t0.le hr.le) hn) fun q H8 ⟨eq, hq⟩ => ?_
  have lP : (if cerr l0 a1 = 0 then prL l0 a1 else []).length ≤ 400 := by
    split
    · rename_i h
      have hv := val_va.1 (cerr_ok.1 h).1
      have := prL_len hv a1
      have := hn (cerr_ok.1 h).1
      omega
    · simp
  refine ev_andT (by simp [er, eq]) (ev_is (semigroupref03_SameRows_ev (hr.tab.le hq.le) hq.tab (by split <;> simp [prT, tab]; simp_all; omega) (fun v hv => ?_)) (ev_ret ⟨by simp, Le.refl _⟩)) fun H12 l12 => ?_
  · split at hv
    · rename_i h
      rw [if_pos h] at lP
      rw [prT_rows v hv]; omega
    · simp at hv
  exact ev_andT rfl (ev_is (semigroupref03_Same_ev (((hr.pull 1).row.le hq.le).le l12) ((hq.pull 1).row.le l12) (by omega)) (ev_ret ⟨by simp, Le.refl _⟩)) fun H16 _ => ev_aw rfl aw
end Go.Ab
