/- The opposite table, idempotents, heights. What they answer. No condition but that a table comes in. -/
import Derived.Test.YtmdndoghdbhipaaRGreenHeightsF12
import Derived.Test.YtmdndoghdbhipaaAbM14
set_option linter.unusedVariables false
set_option linter.unusedSimpArgs false
namespace Go.Ab
open Go
/-- What a pass over the heights has reached: class a as far as b, those before a wholly. -/
structure Hi (m : Nat) (D : Int → Int → Prop) (k : Nat) (o : List Int) (a b : Int) (o' : List Int) : Prop where
  len : o'.length = m
  le : ∀ x : Int, 0 ≤ x → x < m → rd o x ≤ rd o' x ∧ rd o' x ≤ (hgt m D x : Int)
  lo : ∀ x : Int, 0 ≤ x → x < m → min (hgt m D x : Int) k ≤ rd o' x
  done : ∀ x y : Int, 0 ≤ x → x < m → 0 ≤ y → y < m → D x y → (x < a ∨ (x = a ∧ y < b)) → rd o y + 1 ≤ rd o' x
theorem Hi.next {m : Nat} {D : Int → Int → Prop} (hD : Str m D) {k : Nat} {o o' : List Int} {a b : Int} (h : Hi m D k o a b o') (ho : ∀ x : Int, 0 ≤ x → x < m → min (hgt m D x : Int) k ≤ rd o x) (a0 : 0 ≤ a) (a1 : a < m) (b0 : 0 ≤ b) (b1 : b < m) {v : Int} (hv : v = rd o' a ∧ (D a b → rd o' b + 1 ≤ rd o' a) ∨ D a b ∧ v = rd o' b + 1 ∧ rd o' a ≤ v) : Hi m D k o a (b + 1) (o'.set a.toNat v) := by
  have hl := h.len
  have hs : ∀ j : Int, 0 ≤ j → rd (o'.set a.toNat v) j = if j = a then v else rd o' j := fun j j0 => rd_set a0 (by omega) j0
  have hva : rd o' a ≤ v ∧ v ≤ (hgt m D a : Int) ∧ (D a b → rd o' b + 1 ≤ v) := by
    have h1 := h.le a a0 a1
    have h2 := h.le b b0 b1
    rcases hv with ⟨e, f⟩ | ⟨d, e, f⟩
    · exact ⟨by omega, by omega, fun d => by have := f d; omega⟩
    · have := hgt_step hD a0 a1 b0 b1 d
      exact ⟨f, by omega, fun _ => by omega⟩
  refine ⟨by simpa using hl, fun x x0 x1 => ?_, fun x x0 x1 => ?_, fun x y x0 x1 y0 y1 d hxy => ?_⟩
  · rw [hs x x0]
    have := h.le x x0 x1
    split
    · rename_i e; subst e; omega
    · exact this
  · rw [hs x x0]
    have := h.lo x x0 x1
    split
    · rename_i e; subst e; omega
    · exact this
  · rw [hs x x0]
    split
    · rename_i e; subst e
      by_cases hyb : y = b
      · subst hyb
        have := hva.2.2 d
        have := h.le y y0 y1
        omega
      · have := h.done x y x0 x1 y0 y1 d (by omega)
        omega
    · exact h.done x y x0 x1 y0 y1 d (by omega)
theorem Hi.row {m : Nat} {D : Int → Int → Prop} {k : Nat} {o o' : List Int} {a : Int} (h : Hi m D k o a m o') : Hi m D k o (a + 1) 0 o' :=
  ⟨h.len, h.le, h.lo, fun x y x0 x1 y0 y1 d hxy => h.done x y x0 x1 y0 y1 d (by omega)⟩
theorem Hi.pass {m : Nat} {D : Int → Int → Prop} (hD : Str m D) {k : Nat} {o o' : List Int} (h : Hi m D k o m 0 o') (ho : ∀ x : Int, 0 ≤ x → x < m → min (hgt m D x : Int) k ≤ rd o x) : ∀ x : Int, 0 ≤ x → x < m → min (hgt m D x : Int) ((k + 1 : Nat) : Int) ≤ rd o' x := by
  intro x x0 x1
  by_cases h0 : 0 < hgt m D x
  · obtain ⟨b, b0, b1, d, e⟩ := hgt_pred hD x0 x1 h0
    have := h.done x b x0 x1 b0 b1 d (by omega)
    have := ho b b0 b1
    omega
  · have := h.lo x x0 x1
    omega
theorem Hi.start {m : Nat} {D : Int → Int → Prop} {k : Nat} {o : List Int} (hl : o.length = m) (h : ∀ x : Int, 0 ≤ x → x < m → rd o x ≤ (hgt m D x : Int)) (ho : ∀ x : Int, 0 ≤ x → x < m → min (hgt m D x : Int) k ≤ rd o x) : Hi m D k o 0 0 o :=
  ⟨hl, fun x a b => ⟨Int.le_refl _, h x a b⟩, ho, fun x y x0 x1 y0 y1 d hxy => by omega⟩
theorem htsL_eq {t : List (List Int)} (hv : Va t) {o : List Int} (hl : o.length = nJ t) (h : ∀ x : Int, 0 ≤ x → x < (nJ t : Int) → rd o x = (hgt (nJ t) (DJ t) x : Int)) : o = htsL t :=
  rd_ext (by simp [htsL, hl]) fun j a b => by unfold htsL; rw [rd_map a (by omega), show ((j.toNat : Nat) : Int) = j by omega]; exact h j a (by omega)
/-- Nothing more is to be done: the heights are reached. -/
theorem stable {m : Nat} {D : Int → Int → Prop} (hD : Str m D) {o : List Int} (h0 : ∀ x : Int, 0 ≤ x → x < m → 0 ≤ rd o x ∧ rd o x ≤ (hgt m D x : Int)) (h : ∀ x y : Int, 0 ≤ x → x < m → 0 ≤ y → y < m → D x y → rd o y + 1 ≤ rd o x) : ∀ x : Int, 0 ≤ x → x < m → rd o x = (hgt m D x : Int) := by
  have key : ∀ k : Nat, ∀ x : Int, 0 ≤ x → x < m → hgt m D x < k → rd o x = (hgt m D x : Int) := by
    intro k
    induction k with
    | zero => intro x a b c; omega
    | succ k ih =>
      intro x x0 x1 hx
      have := h0 x x0 x1
      by_cases hp : 0 < hgt m D x
      · obtain ⟨b, b0, b1, d, e⟩ := hgt_pred hD x0 x1 hp
        have e1 := ih b b0 b1 (by omega)
        have := h x b x0 x1 b0 b1 d
        omega
      · omega
  exact fun x x0 x1 => key _ x x0 x1 (Nat.lt_succ_self _)
open Classical in
theorem gB_at {t : List (List Int)} {a b : Int} (a0 : 0 ≤ a) (a1 : a < (nJ t : Int)) (b0 : 0 ≤ b) (b1 : b < (nJ t : Int)) : rdOf false (rdOf [] (gB t) a) b = decide (JJ t (fJ t b) (fJ t a)) := btab_at a0 a1 b0 b1
open Classical in
theorem green_Heights_ev {s : Sl} {t : List (List Int)} {H : AH} {lo : Nat} (hlo : lo ≤ H.length) (hin : In2 t) (ht : Tab H s t) : Ev (fun ρ k κ => green_Heights k s lo H κ) (fun v H' => Sep H H' [own reI v (vif t (htsL t))]) := by
  refine ev_eq (fun _ k _ => green_Heights_eq k) (ev_is (mult_Validate_ev hin ht) (ev_nif (fun h => ev_ret ?_) (fun h => ?_)))
  · rw [vif_neg h]; exact (Sep.nil H).nilS _
  have hv := val_va.1 h
  have hn := hv.le
  have hnJ := nJ_le hv
  have hD := DJ_str hv
  have lB : (gB t).length = nJ t := btab_len _ _ _
  rw [vif_pos h]
  refine ev_call (green_classes_ev (Nat.le_refl _) hv ht) fun r H4 hg => sp_alc hg fun p H6 hS => sp_stnC hS hlo rfl fun Hb hS => ev_fldS hS.at1 rfl ?_
  have hlb : lo ≤ Hb.length := by have := hS.le.len; omega
  have hp := hS.at1
  have hB : TabB Hb r.2.2.2.2 (gB t) := (hS.pull 5).tabB
  rw [(hS.pull 5).len, lB]
  refine sp_mks (x := (0 : Int)) (Sep.nil Hb) reI (fun _ => ⟨rfl, rfl⟩) (by omega) (by omega) fun u H11 hS2 => ?_
  have hHb := hS.le
  have pass : ∀ (k : Nat) (o : List Int) (H1 : AH), Sep Hb H1 [own reI u o] → o.length = nJ t → (∀ x : Int, 0 ≤ x → x < (nJ t : Int) → rd o x ≤ (hgt (nJ t) (DJ t) x : Int)) → (∀ x : Int, 0 ≤ x → x < (nJ t : Int) → min (hgt (nJ t) (DJ t) x : Int) k ≤ rd o x) → (k < nJ t → ∀ (o : List Int) (H1 : AH), Sep Hb H1 [own reI u o] → o.length = nJ t → (∀ x : Int, 0 ≤ x → x < (nJ t : Int) → rd o x ≤ (hgt (nJ t) (DJ t) x : Int)) → (∀ x : Int, 0 ≤ x → x < (nJ t : Int) → min (hgt (nJ t) (DJ t) x : Int) ((k + 1 : Nat) : Int) ≤ rd o x) → Ev (fun ρ k κ => green_Heights_1 k (some p) u true lo H1 κ) (fun v H' => Sep H H' [own reI v (htsL t)])) → Ev (fun ρ k κ => green_Heights_1 k (some p) u true lo H1 κ) (fun v H' => Sep H H' [own reI v (htsL t)]) := by
      intro k o H1 hS ho hle hlo' ih
      refine ev_eq (fun _ k _ => green_Heights_1_eq k) (ev_t rfl ?_)
      rw [hS.len, ho]
      refine ev_loop (α := Bool × AH) (g := fun a c ρ k κ => green_Heights_2 k (some p) u c.1 (nJ t : Int) a lo c.2 κ) (nJ t : Int) (fun a c => ∃ o', Sep Hb c.2 [own reI u o'] ∧ Hi (nJ t) (DJ t) k o a 0 o' ∧ (c.1 = false → o' = o) ∧ (c.1 = true → ∃ x : Int, 0 ≤ x ∧ x < (nJ t : Int) ∧ rd o x ≠ (hgt (nJ t) (DJ t) x : Int))) ?_ ?_ 0 (false, H1) (by omega) (by omega) ⟨o, hS, Hi.start ho hle hlo', fun _ => rfl, fun e => by cases e⟩
      · rintro a ⟨c, H2⟩ a0 a1 ⟨o', hS, hH, hc1, hc2⟩ hk'
        simp only at hS hc1 hc2
        have hl := hH.len
        refine ev_eq (fun _ k _ => green_Heights_2_eq k) (ev_pos a1 ?_)
        rw [hS.len, hl]
        refine ev_loop (α := Bool × AH) (g := fun b c ρ k κ => green_Heights_3 k (some p) u c.1 a (nJ t : Int) a (nJ t : Int) b lo c.2 κ) (nJ t : Int) (fun b c => ∃ o', Sep Hb c.2 [own reI u o'] ∧ Hi (nJ t) (DJ t) k o a b o' ∧ (c.1 = false → o' = o) ∧ (c.1 = true → ∃ x : Int, 0 ≤ x ∧ x < (nJ t : Int) ∧ rd o x ≠ (hgt (nJ t) (DJ t) x : Int))) ?_ ?_ 0 (c, H2) (by omega) (by omega) ⟨o', hS, hH, hc1, hc2⟩
        · rintro b ⟨c, H2⟩ b0 b1 ⟨o', hS, hH, hc1, hc2⟩ hk''
          simp only at hS hc1 hc2
          have hl := hH.len
          have ha := hH.le a a0 a1
          have hb := hH.le b b0 b1
          have ha2 := hgt_lt hD a0 a1
          have hb2 := hgt_lt hD b0 b1
          have oa := hlo' a a0 a1
          have ob := hlo' b b0 b1
          refine ev_eq (fun _ k _ => green_Heights_3_eq k) (ev_pos b1 (ev_andV (c := decide (JJ t (fJ t b) (fJ t a))) (fun _ => ev_asP (ev_fldS (hp.le hS.le) rfl (sp_rdSB hB hS.le a0 (by omega) fun w hw => ev_rdB (hw.le hS.le) b0 (by rw [show rdOf [] (gB t) a = _ from rfl, gB, btab_rlen a0 a1]; exact b1) (ev_ret ⟨gB_at a0 a1 b0 b1, rfl⟩)))) ?_))
          refine ev_andV (c := decide (rd o' a < rd o' b + 1)) (fun _ => ev_rdI hS.row a0 (by omega) (ev_rdI hS.row b0 (by omega) (ev_ret ⟨by rw [W_in (by omega) (by omega)], rfl⟩))) (ev_b (fun hh => ?_) (fun hh => ?_))
          · simp only [Bool.and_eq_true, Bool.not_eq_true', decide_eq_false_iff_not, decide_eq_true_iff] at hh
            obtain ⟨⟨h1, h2⟩, h3⟩ := hh
            have hd : DJ t a b := ⟨h1, h2⟩
            have hst := hgt_step hD a0 a1 b0 b1 hd
            refine ev_rdI hS.row b0 (by omega) ?_
            rw [W_in (i := rd o' b + 1) (by omega) (by omega)]
            refine sp_put (x := rd o' b + 1) hS hlb (fun _ => ⟨rfl, rfl⟩) a0 (by omega) fun H3 hS => ev_eq (fun _ k _ => green_Heights_4_eq k) ?_
            rw [W_add b0 b1 (by omega)]
            refine hk'' (true, H3) ⟨_, hS, hH.next hD hlo' a0 a1 b0 b1 (.inr ⟨hd, rfl, by omega⟩), fun e => by (cases e), fun _ => ⟨a, a0, a1, ?_⟩⟩
            omega
          · simp only [Bool.and_eq_false_iff, Bool.not_eq_false', decide_eq_false_iff_not, decide_eq_true_iff] at hh
            refine ev_eq (fun _ k _ => green_Heights_4_eq k) ?_
            rw [W_add b0 b1 (by omega)]
            refine hk'' (c, H2) ⟨o', hS, ?_, hc1, hc2⟩
            have := hH.next hD hlo' a0 a1 b0 b1 (v := rd o' a) (.inl ⟨rfl, fun d => ?_⟩)
            · have e : o'.set a.toNat (rd o' a) = o' := rd_ext (by simp) fun j j0 j1 => by
                rw [rd_set a0 (by omega) j0]; split
                · rename_i e; rw [e]
                · rfl
              rwa [e] at this
            · rcases hh with (h1 | h1) | h1
              · exact absurd h1 d.1
              · exact absurd d.2 h1
              · omega
        · rintro ⟨c, H2⟩ ⟨o', hS, hH, hc1, hc2⟩
          refine ev_eq (fun _ k _ => green_Heights_3_eq k) (ev_neg (by omega) ?_)
          rw [W_add a0 a1 (by omega)]
          exact hk' (c, H2) ⟨o', hS, hH.row, hc1, hc2⟩
      · rintro ⟨c, H2⟩ ⟨o', hS', hH, hc1, hc2⟩
        simp only at hS' hc1 hc2
        refine ev_eq (fun _ k _ => green_Heights_2_eq k) (ev_neg (by omega) ?_)
        cases c with
        | true =>
          obtain ⟨x, x0, x1, hx⟩ := hc2 rfl
          have := hlo' x x0 x1
          have := hle x x0 x1
          have := hgt_lt hD x0 x1
          exact ih (by omega) o' H2 hS' hH.len (fun x a b => (hH.le x a b).2) (hH.pass hD hlo')
        | false =>
          have e := hc1 rfl
          subst e
          refine ev_eq (fun _ k _ => green_Heights_1_eq k) (ev_f rfl (ev_ret ?_))
          refine (hS'.base hHb).eq (htsL_eq hv ho (stable hD (fun x a b => ⟨by have := hlo' x a b; omega, hle x a b⟩) fun x y x0 x1 y0 y1 d => hH.done x y x0 x1 y0 y1 d (by omega)))
  have all : ∀ (j k : Nat) (o : List Int) (H1 : AH), k + j = nJ t → Sep Hb H1 [own reI u o] → o.length = nJ t → (∀ x : Int, 0 ≤ x → x < (nJ t : Int) → rd o x ≤ (hgt (nJ t) (DJ t) x : Int)) → (∀ x : Int, 0 ≤ x → x < (nJ t : Int) → min (hgt (nJ t) (DJ t) x : Int) k ≤ rd o x) → Ev (fun ρ k κ => green_Heights_1 k (some p) u true lo H1 κ) (fun v H' => Sep H H' [own reI v (htsL t)]) := by
    intro j
    induction j with
    | zero => intro k o H1 hk hS ho hle hlo'; exact pass k o H1 hS ho hle hlo' fun hlt => absurd hlt (by omega)
    | succ j ih => intro k o H1 hk hS ho hle hlo'; exact pass k o H1 hS ho hle hlo' fun hlt o H1 a b c d => ih (k + 1) o H1 (by omega) a b c d
  exact all (nJ t) 0 _ H11 (by omega) hS2 (by simp) (fun x x0 x1 => by rw [rd_rep x0 (by omega)]; omega) (fun x x0 x1 => by rw [rd_rep x0 (by omega)]; omega)
open Classical in
theorem semigroupref15_Heights_ev {s : Sl} {t : List (List Int)} {H : AH} {lo : Nat} (hlo : lo ≤ H.length) (hv : Va t) (ht : Tab H s t) : Ev (fun ρ k κ => semigroupref15_Heights k s lo H κ) (fun v H' => Sep H H' [own reI v (htsL t)]) := by
  have hn := hv.le
  have hnJ := nJ_le hv
  have hD := DJ_str hv
  have lB : (gB t).length = nJ t := btab_len _ _ _
  refine ev_eq (fun _ k _ => semigroupref15_Heights_eq k) (ev_call (semigroupref15_Classes_ev (Nat.le_refl _) hv ht) fun r H4 hg => sp_alc hg fun p H6 hS => sp_stnC hS hlo rfl fun Hb hS => ev_fldS hS.at1 rfl ?_)
  have hlb : lo ≤ Hb.length := by have := hS.le.len; omega
  have hp := hS.at1
  have hB : TabB Hb r.2.2.2.2 (gB t) := (hS.pull 5).tabB
  have hHb := hS.le
  rw [(hS.pull 5).len, lB]
  refine sp_mks (x := (0 : Int)) (Sep.nil Hb) reI (fun _ => ⟨rfl, rfl⟩) (by omega) (by omega) fun u H11 hS2 => ?_
  refine ev_loop (α := AH) (g := fun k H ρ n κ => semigroupref15_Heights_1 n (some p) u k lo H κ) (nJ t : Int) (fun k H1 => ∃ o, Sep Hb H1 [own reI u o] ∧ o.length = nJ t ∧ (∀ x : Int, 0 ≤ x → x < (nJ t : Int) → rd o x ≤ (hgt (nJ t) (DJ t) x : Int)) ∧ (∀ x : Int, 0 ≤ x → x < (nJ t : Int) → min (hgt (nJ t) (DJ t) x : Int) (k.toNat : Int) ≤ rd o x)) ?_ ?_ 0 H11 (by omega) (by omega) ⟨_, hS2, by simp, fun x x0 x1 => by rw [rd_rep x0 (by omega)]; omega, fun x x0 x1 => by rw [rd_rep x0 (by omega)]; omega⟩
  · rintro k H1 k0 k1 ⟨o, hS, ho, hle, hlo'⟩ hk
    refine ev_eq (fun _ k _ => semigroupref15_Heights_1_eq k) (ev_pos (by rw [hS.len, ho]; omega) ?_)
    rw [hS.len, ho]
    refine ev_loop (α := AH) (g := fun a H2 ρ n κ => semigroupref15_Heights_2 n (some p) u k (nJ t : Int) a lo H2 κ) (nJ t : Int) (fun a H2 => ∃ o', Sep Hb H2 [own reI u o'] ∧ Hi (nJ t) (DJ t) k.toNat o a 0 o') ?_ ?_ 0 H1 (by omega) (by omega) ⟨o, hS, Hi.start ho hle hlo'⟩
    · rintro a H2 a0 a1 ⟨o', hS, hH⟩ hk'
      have hl := hH.len
      refine ev_eq (fun _ k _ => semigroupref15_Heights_2_eq k) (ev_pos a1 ?_)
      rw [hS.len, hl]
      refine ev_loop (α := AH) (g := fun b H2 ρ n κ => semigroupref15_Heights_3 n (some p) u k a (nJ t : Int) a (nJ t : Int) b lo H2 κ) (nJ t : Int) (fun b H2 => ∃ o', Sep Hb H2 [own reI u o'] ∧ Hi (nJ t) (DJ t) k.toNat o a b o') ?_ ?_ 0 H2 (by omega) (by omega) ⟨o', hS, hH⟩
      · rintro b H2 b0 b1 ⟨o', hS, hH⟩ hk''
        have hl := hH.len
        have ha := hH.le a a0 a1
        have hb := hH.le b b0 b1
        have ha2 := hgt_lt hD a0 a1
        have hb2 := hgt_lt hD b0 b1
        have oa := hlo' a a0 a1
        have ob := hlo' b b0 b1
        refine ev_eq (fun _ k _ => semigroupref15_Heights_3_eq k) (ev_pos b1 (ev_andV (c := decide (JJ t (fJ t b) (fJ t a))) (fun _ => ev_asP (ev_fldS (hp.le hS.le) rfl (sp_rdSB hB hS.le a0 (by omega) fun w hw => ev_rdB (hw.le hS.le) b0 (by rw [show rdOf [] (gB t) a = _ from rfl, gB, btab_rlen a0 a1]; exact b1) (ev_ret ⟨gB_at a0 a1 b0 b1, rfl⟩)))) (ev_b (fun hh => ?_) (fun hh => ?_))))
        · simp only [Bool.and_eq_true, Bool.not_eq_true', decide_eq_false_iff_not, decide_eq_true_iff] at hh
          have hd : DJ t a b := hh
          refine ev_rdI hS.row a0 (by omega) (ev_rdI hS.row b0 (by omega) ?_)
          rw [W_in (i := rd o' b + 1) (by omega) (by omega)]
          refine sp_put (x := mxI (rd o' a) (rd o' b + 1)) hS hlb (fun _ => ⟨rfl, rfl⟩) a0 (by omega) fun H3 hS => ev_eq (fun _ k _ => semigroupref15_Heights_4_eq k) ?_
          rw [W_add b0 b1 (by omega)]
          refine hk'' H3 ⟨_, hS, hH.next hD hlo' a0 a1 b0 b1 ?_⟩
          unfold mxI
          by_cases hm : rd o' b + 1 > rd o' a
          · rw [if_pos hm]; exact .inr ⟨hd, rfl, by omega⟩
          · rw [if_neg hm]; exact .inl ⟨rfl, fun _ => by omega⟩
        · simp only [Bool.and_eq_false_iff, Bool.not_eq_false', decide_eq_false_iff_not, decide_eq_true_iff] at hh
          refine ev_eq (fun _ k _ => semigroupref15_Heights_4_eq k) ?_
          rw [W_add b0 b1 (by omega)]
          refine hk'' H2 ⟨o', hS, ?_⟩
          have := hH.next hD hlo' a0 a1 b0 b1 (v := rd o' a) (.inl ⟨rfl, fun d => ?_⟩)
          · have e : o'.set a.toNat (rd o' a) = o' := rd_ext (by simp) fun j j0 j1 => by
              rw [rd_set a0 (by omega) j0]; split
              · rename_i e; rw [e]
              · rfl
            rwa [e] at this
          · rcases hh with h1 | h1
            · exact absurd h1 d.1
            · exact absurd d.2 h1
      · rintro H2 ⟨o', hS, hH⟩
        refine ev_eq (fun _ k _ => semigroupref15_Heights_3_eq k) (ev_neg (by omega) ?_)
        rw [W_add a0 a1 (by omega)]
        exact hk' H2 ⟨o', hS, hH.row⟩
    · rintro H2 ⟨o', hS', hH⟩
      refine ev_eq (fun _ k _ => semigroupref15_Heights_2_eq k) (ev_neg (by omega) ?_)
      rw [W_add k0 k1 (by omega)]
      refine hk H2 ⟨o', hS', hH.len, fun x a b => (hH.le x a b).2, ?_⟩
      rw [show (k + 1).toNat = k.toNat + 1 by omega]
      exact hH.pass hD hlo'
  · rintro H1 ⟨o, hS, ho, hle, hlo'⟩
    refine ev_eq (fun _ k _ => semigroupref15_Heights_1_eq k) (ev_neg (by rw [hS.len, ho]; omega) (ev_ret ((hS.base hHb).eq (htsL_eq hv ho fun x x0 x1 => ?_))))
    have := hlo' x x0 x1
    have := hle x x0 x1
    have := hgt_lt hD x0 x1
    omega

end Go.Ab
