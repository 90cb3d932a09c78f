/- What the printed functions Valid (of words) and Value answer. No condition but that the table is valid. -/
import Derived.Test.YtlhckcldeojfmaaLists
import Derived.Test.YtlhckcldeojfmaaF14b
import Derived.Test.YtlhckcldeojfmaaPAllx2
import Derived.Test.YtlhckcldeojfmaaPAllx5
import Derived.Test.YtlhckcldeojfmaaPAllx13
import Derived.Test.YtlhckcldeojfmaaPAllx14
namespace Go.Proofs.Ytlhckcldeojfmaa.F
open Go.RowKit Go.Proofs.YtlhckcldeojfmaaW.PrintWords Go.Proofs.Ytlhckcldeojfmaa.B Go.Proofs.Ytlhckcldeojfmaa.PAll
set_option linter.unusedVariables false
set_option linter.unusedSimpArgs false
open Classical

theorem bt_range (s : ByteArray) (i : Int) : 0 ≤ bt s i ∧ bt s i ≤ 255 := by
  unfold bt
  split
  · rename_i h
    have := (s[i.toNat]'h).toNat_lt
    omega
  · omega
theorem bt_append (u w : ByteArray) {i : Int} (h0 : 0 ≤ i) : bt (u ++ w) i = if i < (u.size : Int) then bt u i else bt w (i - u.size) := by
  unfold bt
  by_cases h : i.toNat < u.size
  · rw [if_pos (by omega), dif_pos h, dif_pos (by rw [ByteArray.size_append]; omega), ByteArray.getElem_append_left h]
  · rw [if_neg (by omega)]
    by_cases h2 : (i - u.size).toNat < w.size
    · rw [dif_pos h2, dif_pos (by rw [ByteArray.size_append]; omega), ByteArray.getElem_append_right (by omega)]
      have : i.toNat - u.size = (i - u.size).toNat := by omega
      simp only [this]
    · rw [dif_neg h2, dif_neg (by rw [ByteArray.size_append]; omega)]
/-- A word over n letters. -/
def WordOk (w : ByteArray) (n : Int) : Prop := 1 ≤ n ∧ n ≤ 6 ∧ (w.size : Int) ≤ 2048 ∧ ∀ i : Int, 0 ≤ i → i < (w.size : Int) → 97 ≤ bt w i ∧ bt w i - 97 < n
theorem word_Valid_l0 {w : ByteArray} {n : Int} (h1 : 1 ≤ n) (h2 : n ≤ 6) (h3 : (w.size : Int) ≤ 2048) : Ev (fun k => word_Valid.l0 k w n 0) (decide (WordOk w n)) := by
  refine ev_for0 (g := fun i k => word_Valid.l0 k w n i) (w.size : Int) (fun j => ∀ i : Int, 0 ≤ i → i < j → 97 ≤ bt w i ∧ bt w i - 97 < n) ?_ ?_ 0 (by omega) (by omega) (fun i a b => by omega)
  · intro i hi0 hi1 hi
    have hr := bt_range w i
    by_cases hp : 97 ≤ bt w i ∧ bt w i - 97 < n
    · right
      refine ⟨fun j j0 j1 => ?_, fun H => ?_⟩
      · by_cases hj : j = i
        · rw [hj]; exact hp
        · exact hi j j0 (by omega)
      · apply ev_succ
        simp only [word_Valid.l0]
        rw [wrap_add hi0 hi1 (by omega)]
        exact ev_pos hi1 (ev_pos hi0 (ev_neg (by omega) (ev_neg (by omega) H)))
    · left
      have hf : ¬ WordOk w n := fun h => hp (h.2.2.2 i hi0 hi1)
      simp only [hf, decide_false]
      apply ev_succ
      simp only [word_Valid.l0]
      exact ev_pos hi1 (ev_pos hi0 (ev_ite (fun _ => ev_some rfl) (fun h => ev_pos (by omega) (ev_some rfl))))
  · intro hi
    have : WordOk w n := ⟨h1, h2, h3, hi⟩
    simp only [this, decide_true]
    apply ev_succ
    simp only [word_Valid.l0]
    exact ev_neg (by omega) (ev_some rfl)
theorem word_Valid_j0 {w : ByteArray} {n : Int} {b : Bool} (hb : b = false → 1 ≤ n ∧ n ≤ 6 ∧ (w.size : Int) ≤ 2048) (hb2 : b = true → ¬ WordOk w n) : Ev (fun k => word_Valid.j0 k w n b) (decide (WordOk w n)) := by
  apply ev_succ
  unfold word_Valid.j0
  cases b with
  | true =>
    have := hb2 rfl
    simp only [this, decide_false]
    exact ev_pos (by simp) (ev_some rfl)
  | false =>
    obtain ⟨h1, h2, h3⟩ := hb rfl
    exact ev_neg (by simp) (word_Valid_l0 h1 h2 h3)

theorem semigroupref01_Valid_l0 {w : ByteArray} {n : Int} (h1 : 1 ≤ n) (h2 : n ≤ 6) (h3 : (w.size : Int) ≤ 2048) : Ev (fun k => semigroupref01_Valid.l0 k w n 0) (decide (WordOk w n)) := by
  refine ev_for0 (g := fun i k => semigroupref01_Valid.l0 k w n i) (w.size : Int) (fun j => ∀ i : Int, 0 ≤ i → i < j → 97 ≤ bt w i ∧ bt w i - 97 < n) ?_ ?_ 0 (by omega) (by omega) (fun i a b => by omega)
  · intro i hi0 hi1 hi
    have hr := bt_range w i
    by_cases hp : 97 ≤ bt w i ∧ bt w i - 97 < n
    · right
      refine ⟨fun j j0 j1 => ?_, fun H => ?_⟩
      · by_cases hj : j = i
        · rw [hj]; exact hp
        · exact hi j j0 (by omega)
      · apply ev_succ
        simp only [semigroupref01_Valid.l0]
        rw [wrap_add hi0 hi1 (by omega)]
        exact ev_pos hi1 (ev_pos hi0 (ev_neg (by omega) (ev_neg (by omega) H)))
    · left
      have hf : ¬ WordOk w n := fun h => hp (h.2.2.2 i hi0 hi1)
      simp only [hf, decide_false]
      apply ev_succ
      simp only [semigroupref01_Valid.l0]
      exact ev_pos hi1 (ev_pos hi0 (ev_ite (fun _ => ev_some rfl) (fun h => ev_pos (by omega) (ev_some rfl))))
  · intro hi
    have : WordOk w n := ⟨h1, h2, h3, hi⟩
    simp only [this, decide_true]
    apply ev_succ
    simp only [semigroupref01_Valid.l0]
    exact ev_neg (by omega) (ev_some rfl)
theorem semigroupref01_Valid_j0 {w : ByteArray} {n : Int} {b : Bool} (hb : b = false → 1 ≤ n ∧ n ≤ 6 ∧ (w.size : Int) ≤ 2048) (hb2 : b = true → ¬ WordOk w n) : Ev (fun k => semigroupref01_Valid.j0 k w n b) (decide (WordOk w n)) := by
  apply ev_succ
  unfold semigroupref01_Valid.j0
  cases b with
  | true =>
    have := hb2 rfl
    simp only [this, decide_false]
    exact ev_pos (by simp) (ev_some rfl)
  | false =>
    obtain ⟨h1, h2, h3⟩ := hb rfl
    exact ev_neg (by simp) (semigroupref01_Valid_l0 h1 h2 h3)
theorem word_Valid_ev {w : ByteArray} {n : Int} : Ev (fun k => word_Valid.f k w n) (decide (WordOk w n)) := by
  unfold word_Valid.f
  refine ev_ite (fun h => word_Valid_j0 (fun h => by cases h) (fun _ hw => by have := hw.1; omega)) (fun h => ev_ite (fun h2 => word_Valid_j0 (fun h => by cases h) (fun _ hw => by have := hw.2.1; omega)) (fun h2 => word_Valid_j0 ?_ ?_))
  · intro h3
    simp at h3
    omega
  · intro h3 hw
    have := hw.2.2.1
    simp at h3
    omega
theorem semigroupref01_Valid_ev {w : ByteArray} {n : Int} : Ev (fun k => semigroupref01_Valid.f k w n) (decide (WordOk w n)) := by
  unfold semigroupref01_Valid.f
  have hm : Ev (fun _ => semigroupref01_MayLetters.f n) (decide (1 ≤ n ∧ n ≤ 6)) := by
    unfold semigroupref01_MayLetters.f
    refine ev_ite (fun h => ev_some ?_) (fun h => ev_some ?_)
    · by_cases h2 : n ≤ 6 <;> simp [h2] <;> omega
    · symm
      simp
      omega
  refine ev_call hm (ev_ite (fun h => semigroupref01_Valid_j0 ?_ ?_) (fun h => semigroupref01_Valid_j0 (fun h => by cases h) (fun _ hw => h (by have := hw.1; have := hw.2.1; simp; omega))))
  · intro h3
    simp at h3 h
    omega
  · intro h3 hw
    have := hw.2.2.1
    simp at h3
    omega

/-- The product of the images of the letters 0 to i. -/
def vl (t : List (List Int)) (im : List Int) (w : ByteArray) : Nat → Int
  | 0 => rd im (bt w 0 - 97)
  | i + 1 => M t (vl t im w i) (rd im (bt w ((i + 1 : Nat) : Int) - 97))
theorem vl_in {t : List (List Int)} (hs : Sq t) {im : List Int} (hE : El t im) {w : ByteArray} (hw : WordOk w (im.length : Int)) (i : Nat) (hi : (i : Int) < w.size) : 0 ≤ vl t im w i ∧ vl t im w i < (t.length : Int) := by
  induction i with
  | zero =>
    have := hw.2.2.2 0 (by omega) (by omega)
    exact hE _ (rd_mem (by omega) (by omega))
  | succ i ih =>
    have h1 := ih (by omega)
    have := hw.2.2.2 ((i + 1 : Nat) : Int) (by omega) (by omega)
    have h2 := hE _ (rd_mem (l := im) (x := bt w ((i + 1 : Nat) : Int) - 97) (by omega) (by omega))
    exact ⟨hs.lo _ _ h1.1 h1.2 h2.1 h2.2, hs.hi _ _ h1.1 h1.2 h2.1 h2.2⟩
/-- What Value answers. -/
noncomputable def value (t : List (List Int)) (im : List Int) (w : ByteArray) : Int :=
  if El t im ∧ WordOk w (im.length : Int) then (if w.size = 0 then idn t else vl t im w (w.size - 1)) else -1
theorem size_nil (w : ByteArray) : w.toList = ([] : List UInt8) ↔ w.size = 0 := by
  have ne : ∀ (m i : Nat) (r : List UInt8), w.size - i = m → r ≠ [] → ByteArray.toList.loop w i r ≠ [] := by
    intro m
    induction m with
    | zero =>
      intro i r hi hr
      unfold ByteArray.toList.loop
      rw [if_neg (by omega)]
      simpa using hr
    | succ m ih =>
      intro i r hi hr
      unfold ByteArray.toList.loop
      rw [if_pos (by omega)]
      exact ih _ _ (by omega) (by simp)
  unfold ByteArray.toList
  constructor
  · intro h
    refine Classical.byContradiction fun hn => ?_
    unfold ByteArray.toList.loop at h
    rw [if_pos (by omega)] at h
    exact ne _ _ _ rfl (by simp) h
  · intro h
    unfold ByteArray.toList.loop
    rw [if_neg (by omega)]
    rfl
theorem mult_Value_l0 {t : List (List Int)} (hs : Sq t) {im : List Int} (hE : El t im) {w : ByteArray} (hw : WordOk w (im.length : Int)) (m : Nat) : ∀ i : Nat, i + 1 + m = w.size → Ev (fun k => mult_Value.l0 k t im w (vl t im w i) ((i : Int) + 1)) (vl t im w (w.size - 1)) := by
  induction m with
  | zero =>
    intro i hi
    apply ev_succ
    simp only [mult_Value.l0]
    refine ev_neg (by omega) (ev_some ?_)
    congr 1; omega
  | succ m ih =>
    intro i hi
    have hv := vl_in hs hE hw i (by omega)
    have hle := hw.2.2.1
    have hb := hw.2.2.2 ((i : Int) + 1) (by omega) (by omega)
    have hl := hw.2.1
    have hx := hE _ (rd_mem (l := im) (x := bt w ((i : Int) + 1) - 97) (by omega) (by omega))
    have r1 := hs.row _ hv.1 hv.2
    apply ev_succ
    simp only [mult_Value.l0, rdR, rdM]
    rw [show (bt w ((i : Int) + 1) - 97) % 256 = bt w ((i : Int) + 1) - 97 by omega, wrap_in (by omega) (by omega)]
    have := ih (i + 1) (by omega)
    exact ev_pos (by omega) (ev_pos hv.1 (ev_pos hv.2 (ev_pos (by omega) (ev_pos (by omega) (ev_pos (by omega) (ev_pos hx.1 (ev_pos (by omega) (by simpa [vl] using this))))))))

theorem semigroupref14_Value_l0 {t : List (List Int)} (hs : Sq t) {im : List Int} (hE : El t im) {w : ByteArray} (hw : WordOk w (im.length : Int)) (m : Nat) : ∀ i : Nat, i + 1 + m = w.size → Ev (fun k => semigroupref14_Value.l0 k t im w (vl t im w i) ((i : Int) + 1)) (vl t im w (w.size - 1)) := by
  induction m with
  | zero =>
    intro i hi
    apply ev_succ
    simp only [semigroupref14_Value.l0]
    refine ev_neg (by omega) (ev_some ?_)
    congr 1; omega
  | succ m ih =>
    intro i hi
    have hv := vl_in hs hE hw i (by omega)
    have hle := hw.2.2.1
    have hb := hw.2.2.2 ((i : Int) + 1) (by omega) (by omega)
    have hl := hw.2.1
    have hx := hE _ (rd_mem (l := im) (x := bt w ((i : Int) + 1) - 97) (by omega) (by omega))
    have r1 := hs.row _ hv.1 hv.2
    apply ev_succ
    simp only [semigroupref14_Value.l0, rdR, rdM]
    rw [show (bt w ((i : Int) + 1) - 97) % 256 = bt w ((i : Int) + 1) - 97 by omega, wrap_in (by omega) (by omega)]
    have := ih (i + 1) (by omega)
    exact ev_pos (by omega) (ev_pos hv.1 (ev_pos hv.2 (ev_pos (by omega) (ev_pos (by omega) (ev_pos (by omega) (ev_pos hx.1 (ev_pos (by omega) (by simpa [vl] using this))))))))
theorem mult_Value_j0 {t : List (List Int)} (hs : Sq t) {im : List Int} {w : ByteArray} {b : Bool} (hb : b = false ↔ (El t im ∧ WordOk w (im.length : Int))) : Ev (fun k => mult_Value.j0 k t im w b) (value t im w) := by
  unfold value
  apply ev_succ
  unfold mult_Value.j0
  cases b with
  | true =>
    rw [if_neg (fun h => by have := hb.2 h; cases this)]
    exact ev_pos (by simp) (ev_some rfl)
  | false =>
    obtain ⟨hE, hw⟩ := hb.1 rfl
    rw [if_pos ⟨hE, hw⟩]
    refine ev_neg (by simp) ?_
    by_cases h0 : w.size = 0
    · rw [if_pos h0]
      refine ev_pos ((size_nil w).2 h0) (ev_call ?_ (ev_some rfl))
      unfold mult_identity.f
      exact mult_identity_l0 hs
    · rw [if_neg h0]
      have h1 := hw.2.2.2 0 (by omega) (by omega)
      have h2 := hw.2.1
      refine ev_neg (fun h => h0 ((size_nil w).1 h)) ?_
      rw [show (bt w 0 - 97) % 256 = bt w 0 - 97 by omega]
      have := mult_Value_l0 hs hE hw (w.size - 1) 0 (by omega)
      exact ev_pos (by omega) (ev_pos (by omega) (ev_pos (by omega) (by simpa [vl] using this)))

theorem semigroupref14_Value_j0 {t : List (List Int)} (hs : Sq t) {im : List Int} {w : ByteArray} {b : Bool} (hb : b = false ↔ (El t im ∧ WordOk w (im.length : Int))) : Ev (fun k => semigroupref14_Value.j0 k t im w b) (value t im w) := by
  unfold value
  apply ev_succ
  unfold semigroupref14_Value.j0
  cases b with
  | true =>
    rw [if_neg (fun h => by have := hb.2 h; cases this)]
    exact ev_pos (by simp) (ev_some rfl)
  | false =>
    obtain ⟨hE, hw⟩ := hb.1 rfl
    rw [if_pos ⟨hE, hw⟩]
    refine ev_neg (by simp) ?_
    by_cases h0 : w.size = 0
    · rw [if_pos h0]
      refine ev_pos ((size_nil w).2 h0) (ev_call ?_ (ev_some rfl))
      unfold semigroupref14_Identity.f
      exact semigroupref14_Identity_l0 hs
    · rw [if_neg h0]
      have h1 := hw.2.2.2 0 (by omega) (by omega)
      have h2 := hw.2.1
      refine ev_neg (fun h => h0 ((size_nil w).1 h)) ?_
      rw [show (bt w 0 - 97) % 256 = bt w 0 - 97 by omega]
      have := semigroupref14_Value_l0 hs hE hw (w.size - 1) 0 (by omega)
      exact ev_pos (by omega) (ev_pos (by omega) (ev_pos (by omega) (by simpa [vl] using this)))
theorem mult_Value_ev {t : List (List Int)} (ht : In2 t) {im : List Int} (hl : im.length ≤ 9223372036854775807) {w : ByteArray} : Ev (fun k => mult_Value.f k t im w) (if val t = 0 then value t im w else -1) := by
  have no : ∀ r, r = -1 → Ev (fun k => mult_Value.j0 k t im w true) r := by
    rintro r rfl
    apply ev_succ
    unfold mult_Value.j0
    exact ev_pos rfl (ev_some rfl)
  unfold mult_Value.f
  refine ev_call (mult_Validate_ev ht) ?_
  by_cases h : val t = 0
  · rw [if_pos h]
    have hs := (va_of h).toSq
    refine ev_pos h (ev_ite (fun h1 => mult_Value_j0 hs ?_) (fun h1 => ev_ite (fun h2 => mult_Value_j0 hs ?_) (fun h2 => ev_call (mult_elements_ev hl) (ev_ite (fun h3 => ev_call word_Valid_ev (mult_Value_j0 hs ?_)) (fun h3 => mult_Value_j0 hs ?_)))))
    · exact ⟨(fun h => by cases h), fun hh => by have := hh.2.1; omega⟩
    · exact ⟨(fun h => by cases h), fun hh => by have := hh.2.2.1; omega⟩
    · have hE : El t im := by simpa using h3
      simp [hE]
    · exact ⟨(fun h => by cases h), fun hh => absurd (by simpa using hh.1) h3⟩
  · rw [if_neg h]
    exact ev_neg h (no _ rfl)
theorem semigroupref14_Value_ev {t : List (List Int)} (hs : Sq t) {im : List Int} (hl : im.length ≤ 9223372036854775807) {w : ByteArray} : Ev (fun k => semigroupref14_Value.f k t im w) (value t im w) := by
  unfold semigroupref14_Value.f
  refine (ev_ite (fun h1 => semigroupref14_Value_j0 hs ?_) (fun h1 => ev_ite (fun h2 => semigroupref14_Value_j0 hs ?_) (fun h2 => ev_call (semigroupref14_In_ev hl) (ev_ite (fun h3 => ev_call semigroupref01_Valid_ev (semigroupref14_Value_j0 hs ?_)) (fun h3 => semigroupref14_Value_j0 hs ?_)))))
  · exact ⟨(fun h => by cases h), fun hh => by have := hh.2.1; omega⟩
  · exact ⟨(fun h => by cases h), fun hh => by have := hh.2.2.1; omega⟩
  · have hE : El t im := by simpa using h3
    simp [hE]
  · exact ⟨(fun h => by cases h), fun hh => absurd (by simpa using hh.1) h3⟩
/-- The value of a concatenation. -/
theorem vl_append {t : List (List Int)} (hv : Va t) {im : List Int} (hE : El t im) {u w : ByteArray} (hu : WordOk u (im.length : Int)) (hw : WordOk w (im.length : Int)) (h0 : 0 < u.size) (i : Nat) (hi : (i : Int) < w.size) :
    vl t im (u ++ w) (u.size + i) = M t (vl t im u (u.size - 1)) (vl t im w i) := by
  have left : ∀ j : Nat, j < u.size → vl t im (u ++ w) j = vl t im u j := by
    intro j hj
    induction j with
    | zero => simp only [vl]; rw [bt_append u w (Int.le_refl _), if_pos (by omega)]
    | succ j ih => simp only [vl]; rw [ih (by omega), bt_append u w (by omega), if_pos (by omega)]
  have hul := vl_in hv.toSq hE hu (u.size - 1) (by omega)
  induction i with
  | zero =>
    obtain ⟨s, hs⟩ : ∃ s, u.size = s + 1 := ⟨u.size - 1, by omega⟩
    rw [Nat.add_zero]
    conv => lhs; rw [hs]
    simp only [vl]
    rw [left s (by omega), bt_append u w (by omega), if_neg (by omega), show u.size - 1 = s by omega]
    congr 2
    rw [show ((s + 1 : Nat) : Int) - (u.size : Int) = 0 by omega]
  | succ i ih =>
    have hwl := vl_in hv.toSq hE hw i (by omega)
    have hb := hw.2.2.2 ((i + 1 : Nat) : Int) (by omega) (by omega)
    have hx := hE _ (rd_mem (l := im) (x := bt w ((i + 1 : Nat) : Int) - 97) (by omega) (by omega))
    rw [← Nat.add_assoc]
    simp only [vl]
    rw [ih (by omega), bt_append u w (by omega), if_neg (by omega), hv.asc _ _ _ hul.1 hul.2 hwl.1 hwl.2]
    · rw [show ((u.size + i + 1 : Nat) : Int) - (u.size : Int) = ((i + 1 : Nat) : Int) by omega]
    · rw [show ((u.size + i + 1 : Nat) : Int) - (u.size : Int) = ((i + 1 : Nat) : Int) by omega]; exact hx.1
    · rw [show ((u.size + i + 1 : Nat) : Int) - (u.size : Int) = ((i + 1 : Nat) : Int) by omega]; exact hx.2
end Go.Proofs.Ytlhckcldeojfmaa.F
