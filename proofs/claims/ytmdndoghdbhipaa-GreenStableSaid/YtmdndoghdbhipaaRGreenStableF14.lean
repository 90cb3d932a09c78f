/- Joins of partitions by the reference. What they answer. No condition but that rows come in. -/
import Derived.Test.YtmdndoghdbhipaaRGreenStableF13
import Derived.Test.YtmdndoghdbhipaaAbM15
set_option linter.unusedVariables false
set_option linter.unusedSimpArgs false
namespace Go.Ab
open Go
theorem semigroupref03_Merge_ev {s : Sl} {p : List Int} {H0 H : AH} {L : List Asr} {lo : Nat} {i j : Int} (hS : Sep H0 H (own reI s p :: L)) (hlo : lo ≤ H0.length) (hl : p.length ≤ 4096) (i0 : 0 ≤ i) (i1 : i < (p.length : Int)) (j0 : 0 ≤ j) (j1 : j < (p.length : Int)) :
    Ev (fun ρ k κ => semigroupref03_Merge k s i j lo H κ) (fun _ H' => ∃ p' : List Int, Sep H0 H' (own reI s p' :: L) ∧ p'.length = p.length ∧ ∀ x : Int, 0 ≤ x → x < (p.length : Int) → rd p' x = if rd p x = rd p j then rd p i else rd p x) := by
  refine ev_eq (fun _ k _ => semigroupref03_Merge_eq k) (ev_rdI hS.row i0 i1 (ev_rdI hS.row j0 j1 ?_))
  rw [hS.len]
  refine ev_loop (α := AH) (g := fun x H ρ k κ => semigroupref03_Merge_1 k s (rd p i) (rd p j) (p.length : Int) x lo H κ) (p.length : Int) (fun x H' => ∃ p' : List Int, Sep H0 H' (own reI s p' :: L) ∧ p'.length = p.length ∧ ∀ y : Int, 0 ≤ y → y < (p.length : Int) → rd p' y = if y < x ∧ rd p y = rd p j then rd p i else rd p y) ?_ ?_ 0 H (by omega) (by omega) ⟨p, hS, rfl, fun y a b => by rw [if_neg (by omega)]⟩
  · rintro x H1 x0 x1 ⟨p', hS, hl', hy⟩ hk
    have ex : rd p' x = rd p x := by rw [hy x x0 x1, if_neg (by omega)]
    have next : ∀ (H2 : AH) (p2 : List Int), Sep H0 H2 (own reI s p2 :: L) → p2.length = p.length → (∀ y : Int, 0 ≤ y → y < (p.length : Int) → rd p2 y = if y < x + 1 ∧ rd p y = rd p j then rd p i else rd p y) → Ev (fun ρ k κ => semigroupref03_Merge_2 k s (rd p i) (rd p j) (p.length : Int) x lo H2 κ) _ := fun H2 p2 a b c => by
      refine ev_eq (fun _ k _ => semigroupref03_Merge_2_eq k) ?_
      rw [W_add x0 x1 (by omega)]
      exact hk H2 ⟨p2, a, b, c⟩
    refine ev_eq (fun _ k _ => semigroupref03_Merge_1_eq k) (ev_pos x1 (ev_rdI hS.row x0 (by omega) (ev_if (fun h => ?_) (fun h => ?_))))
    · rw [ex] at h
      refine sp_put (x := rd p i) hS hlo (fun _ => ⟨rfl, rfl⟩) x0 (by omega) fun H2 hS => next H2 _ hS (by simpa using hl') fun y y0 y1 => ?_
      rw [rd_set x0 (by omega) y0]
      by_cases hyx : y = x
      · rw [if_pos hyx, hyx, if_pos ⟨by omega, h⟩]
      · rw [if_neg hyx, hy y y0 y1]
        by_cases hlt : y < x
        · by_cases he : rd p y = rd p j
          · rw [if_pos ⟨hlt, he⟩, if_pos ⟨by omega, he⟩]
          · rw [if_neg (fun z => he z.2), if_neg (fun z => he z.2)]
        · rw [if_neg (fun z => hlt z.1), if_neg (fun z => by omega)]
    · rw [ex] at h
      refine next H1 p' hS hl' fun y y0 y1 => ?_
      rw [hy y y0 y1]
      by_cases hyx : y = x
      · rw [if_neg (by omega), if_neg (fun z => h (hyx ▸ z.2))]
      · by_cases hlt : y < x
        · by_cases he : rd p y = rd p j
          · rw [if_pos ⟨hlt, he⟩, if_pos ⟨by omega, he⟩]
          · rw [if_neg (fun z => he z.2), if_neg (fun z => he z.2)]
        · rw [if_neg (fun z => hlt z.1), if_neg (fun z => by omega)]
  · rintro H1 ⟨p', hS, hl', hy⟩
    refine ev_eq (fun _ k _ => semigroupref03_Merge_1_eq k) (ev_neg (by omega) (ev_ret ⟨p', hS, hl', fun x x0 x1 => ?_⟩))
    rw [hy x x0 x1]
    by_cases he : rd p x = rd p j
    · rw [if_pos ⟨x1, he⟩, if_pos he]
    · rw [if_neg (fun z => he z.2), if_neg he]
/-- What Join has reached: the classes of q among the first i are joined. -/
structure Jn (N : Nat) (E : Int → Int → Prop) (p q o : List Int) (i : Int) : Prop where
  len : o.length = N
  sound : ∀ x y : Int, 0 ≤ x → x < N → 0 ≤ y → y < N → rd o x = rd o y → E x y
  ofp : ∀ x y : Int, 0 ≤ x → x < N → 0 ≤ y → y < N → rd p x = rd p y → rd o x = rd o y
  ofq : ∀ x y : Int, 0 ≤ x → x < i → 0 ≤ y → y < i → rd q x = rd q y → rd o x = rd o y
theorem semigroupref03_Join_ev {s u : Sl} {p q : List Int} {H : AH} {lo N : Nat} {E : Int → Int → Prop} (hlo : lo ≤ H.length) (hs : Row H s p) (hu : Row H u q) (lp : p.length = N) (lq : q.length = N) (hN : N ≤ 4096) (hE : Eqv N E) (hp : ∀ x y : Int, 0 ≤ x → x < N → 0 ≤ y → y < N → rd p x = rd p y → E x y) (hq : ∀ x y : Int, 0 ≤ x → x < N → 0 ≤ y → y < N → rd q x = rd q y → E x y) :
    Ev (fun ρ k κ => semigroupref03_Join k s u lo H κ) (fun v H' => ∃ o r, Sep H H' [own reI v o] ∧ IsCl N (fun x y => rd r x = rd r y) o ∧ Jn N E p q r N) := by
  refine ev_eq (fun _ k _ => semigroupref03_Join_eq k) (sp_lit [] (Sep.nil H) reI (fun _ => .nil) (fun t H2 hS => sp_appR hS hlo ((hs.le hS.le).imp fun v x e => ⟨e, rfl⟩) (by simp; omega) fun w H4 hS => ?_))
  rw [hu.len, lq]
  refine ev_loop (α := AH) (g := fun i H ρ k κ => semigroupref03_Join_1 k u w (N : Int) i lo H κ) (N : Int) (fun i H' => ∃ o, Sep H H' [own reI w o] ∧ Jn N E p q o i) ?_ ?_ 0 H4 (by omega) (by omega) ⟨_, hS, by simp [lp], fun x y a b c d e => hp x y a b c d (by simpa using e), fun x y a b c d e => by simpa using e, fun x y a b => by omega⟩
  · rintro i H1 i0 i1 ⟨o, hS, hJ⟩ hk
    have lo' := hJ.len
    have next : ∀ (H2 : AH) (o2 : List Int), Sep H H2 [own reI w o2] → Jn N E p q o2 (i + 1) → Ev (fun ρ k κ => semigroupref03_Join_3 k u w (N : Int) i lo H2 κ) _ := fun H2 o2 a b => by
      refine ev_eq (fun _ k _ => semigroupref03_Join_3_eq k) ?_
      rw [W_add i0 i1 (by omega)]
      exact hk H2 ⟨o2, a, b⟩
    refine ev_eq (fun _ k _ => semigroupref03_Join_1_eq k) (ev_pos i1 ?_)
    refine ev_for0 (g := fun j ρ k κ => semigroupref03_Join_2 k u w i j (N : Int) i lo H1 κ) i (fun j => ∀ j' : Int, 0 ≤ j' → j' < j → rd q i ≠ rd q j') ?_ ?_ 0 (by omega) (by omega) (fun j a b => by omega)
    · intro j j0 j1 hj
      by_cases hqq : rd q i = rd q j
      · left
        refine ev_eq (fun _ k _ => semigroupref03_Join_2_eq k) (ev_pos j1 (ev_rdI (hu.le hS.le) i0 (by omega) (ev_rdI (hu.le hS.le) j0 (by omega) (ev_pos hqq (ev_call (semigroupref03_Merge_ev hS hlo (by omega) i0 (by omega) j0 (by omega)) fun _ H2 ⟨o2, hS2, hl2, h2⟩ => next H2 o2 hS2 ?_)))))
        rw [lo'] at h2
        have eij : E i j := hq i j i0 i1 j0 (by omega) hqq
        refine ⟨by omega, fun x y x0 x1 y0 y1 e => ?_, fun x y x0 x1 y0 y1 e => ?_, fun x y x0 x1 y0 y1 e => ?_⟩
        · rw [h2 x x0 x1, h2 y y0 y1] at e
          split at e <;> split at e
          · rename_i a b
            exact hE.trans x j y x0 x1 j0 (by omega) y0 y1 (hJ.sound x j x0 x1 j0 (by omega) a) (hE.symm y j y0 y1 j0 (by omega) (hJ.sound y j y0 y1 j0 (by omega) b))
          · rename_i a b
            have e1 := hJ.sound x j x0 x1 j0 (by omega) a
            have e2 := hJ.sound i y i0 i1 y0 y1 e
            exact hE.trans x j y x0 x1 j0 (by omega) y0 y1 e1 (hE.trans j i y j0 (by omega) i0 i1 y0 y1 (hE.symm i j i0 i1 j0 (by omega) eij) e2)
          · rename_i a b
            have e1 := hJ.sound y j y0 y1 j0 (by omega) b
            have e2 := hJ.sound x i x0 x1 i0 i1 e
            exact hE.trans x i y x0 x1 i0 i1 y0 y1 e2 (hE.trans i j y i0 i1 j0 (by omega) y0 y1 eij (hE.symm y j y0 y1 j0 (by omega) e1))
          · exact hJ.sound x y x0 x1 y0 y1 e
        · rw [h2 x x0 x1, h2 y y0 y1, hJ.ofp x y x0 x1 y0 y1 e]
        · have hi2 : rd o2 i = rd o i := by
            rw [h2 i i0 i1]; split
            · rfl
            · rfl
          have hj2 : rd o2 j = rd o i := by rw [h2 j j0 (by omega), if_pos rfl]
          have one : ∀ z : Int, 0 ≤ z → z < i → rd q z = rd q i → rd o2 z = rd o i := fun z z0 z1 ez => by
            have : rd o z = rd o j := hJ.ofq z j z0 z1 j0 j1 (by omega)
            rw [h2 z z0 (by omega), if_pos this]
          by_cases hx : x = i
          · by_cases hy : y = i
            · rw [hx, hy]
            · rw [hx, hi2, one y y0 (by omega) (by rw [← e, hx])]
          · by_cases hy : y = i
            · rw [hy, hi2, one x x0 (by omega) (by rw [e, hy])]
            · rw [h2 x x0 (by omega), h2 y y0 (by omega), hJ.ofq x y x0 (by omega) y0 (by omega) e]
      · right
        refine ⟨fun j' a b => ?_, fun h' => ?_⟩
        · by_cases hjj : j' = j
          · rw [hjj]; exact hqq
          · exact hj j' a (by omega)
        · refine ev_eq (fun _ k _ => semigroupref03_Join_2_eq k) (ev_pos j1 (ev_rdI (hu.le hS.le) i0 (by omega) (ev_rdI (hu.le hS.le) j0 (by omega) (ev_neg hqq ?_))))
          rw [W_add j0 j1 (by omega)]; exact h'
    · intro hj
      refine ev_eq (fun _ k _ => semigroupref03_Join_2_eq k) (ev_neg (by omega) (next H1 o hS ⟨lo', hJ.sound, hJ.ofp, fun x y x0 x1 y0 y1 e => ?_⟩))
      by_cases hx : x = i
      · by_cases hy : y = i
        · rw [hx, hy]
        · exact absurd (hx ▸ e) (hj y y0 (by omega))
      · by_cases hy : y = i
        · exact absurd (hy ▸ e).symm (hj x x0 (by omega))
        · exact hJ.ofq x y x0 (by omega) y0 (by omega) e
  · rintro H1 ⟨o, hS, hJ⟩
    have lo' := hJ.len
    refine ev_eq (fun _ k _ => semigroupref03_Join_1_eq k) (ev_neg (by omega) (ev_call (semigroupref03_Canonical_ev (Nat.le_refl _) hS.row (by omega)) fun v H2 ⟨c, h2, hc⟩ => ev_ret ⟨c, o, h2.base hS.le, ?_, hJ⟩))
    rw [lo'] at hc
    exact hc

end Go.Ab
