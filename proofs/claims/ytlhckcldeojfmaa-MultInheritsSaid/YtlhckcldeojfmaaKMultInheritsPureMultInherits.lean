/- The pure statement of MultInherits: for all tables the printed law answers true. No condition. -/
import Derived.Test.YtlhckcldeojfmaaKMultInheritsF14f
import Derived.Test.YtlhckcldeojfmaaKMultInheritsP3
namespace Go.Proofs.Ytlhckcldeojfmaa.Pure
open Go.RowKit Go.Proofs.YtlhckcldeojfmaaW.PrintWords Go.Proofs.Ytlhckcldeojfmaa.B Go.Proofs.Ytlhckcldeojfmaa.F Go.Proofs.Ytlhckcldeojfmaa.PAll
set_option linter.unusedVariables false
set_option linter.unusedSimpArgs false
theorem in2_sq {t : List (List Int)} (hs : Sq t) : In2 t := by
  have := hs.le
  refine ⟨by omega, fun v hv => ?_⟩
  obtain ⟨i, hi, rfl⟩ := List.getElem_of_mem hv
  have e : t[i] = R t (i : Int) := by
    show _ = t.getD ((i : Int)).toNat []
    rw [List.getD_eq_getElem?_getD]
    simp [hi]
  rw [e]
  have hr := hs.row i (by omega) (by omega)
  refine ⟨by omega, ?_⟩
  rw [rd_all (P := fun u => (Lit.int .i64 u).wf = true)]
  intro y h0 h1
  have a := hs.lo i y (by omega) (by omega) h0 (by omega)
  have b := hs.hi i y (by omega) (by omega) h0 (by omega)
  have c : rd (R t i) y = M t i y := rfl
  simp only [Lit.wf, Bool.and_eq_true, decide_eq_true_eq, IntKind.min, IntKind.max, IntKind.signed, IntKind.bits]
  simp
  omega
theorem id_unique {t : List (List Int)} {e e' : Int} (h : IsId t e) (h' : IsId t e') (a : 0 ≤ e) (b : e < (t.length : Int)) (c : 0 ≤ e') (d : e' < (t.length : Int)) : e = e' := by
  have h1 := (h e' c d).1
  have h2 := (h' e a b).2
  rw [h2] at h1
  exact h1
theorem idn_eq {t : List (List Int)} {e : Int} (h : IsId t e) (a : 0 ≤ e) (b : e < (t.length : Int)) : idn t = e :=
  first_eq a b h (fun i i0 i1 hi => by have := id_unique hi h i0 (by omega) a b; omega)
theorem idn_cases (t : List (List Int)) : (idn t = -1 ∧ ∀ e : Int, 0 ≤ e → e < (t.length : Int) → ¬ IsId t e) ∨ (0 ≤ idn t ∧ idn t < (t.length : Int) ∧ IsId t (idn t)) := by
  rcases first_spec (n := t.length) (P := IsId t) with h | ⟨a, b, c, _⟩
  · exact .inl h
  · exact .inr ⟨a, b, c⟩
theorem idn_opp {t : List (List Int)} (hs : Sq t) : idn (opp t) = idn t := by
  have hl := tab_len t.length fun x y => M t y x
  unfold idn
  rw [show (opp t).length = t.length from hl]
  refine first_congr fun e e0 e1 => ?_
  unfold IsId opp
  rw [hl]
  constructor
  · intro h x x0 x1
    have := h x x0 x1
    rw [tab_M e0 e1 x0 x1, tab_M x0 x1 e0 e1] at this
    exact ⟨this.2, this.1⟩
  · intro h x x0 x1
    rw [tab_M e0 e1 x0 x1, tab_M x0 x1 e0 e1]
    have := h x x0 x1
    exact ⟨this.2, this.1⟩
theorem idn_adj (t : List (List Int)) : idn (adj t) = (t.length : Int) := by
  have hl := tab_len (t.length + 1) fun x y => if x = (t.length : Int) then y else if y = (t.length : Int) then x else M t x y
  refine idn_eq ?_ (by omega) (by unfold adj; rw [hl]; omega)
  intro x x0 x1
  unfold adj at *
  rw [hl] at x1
  rw [tab_M (by omega) (by omega) x0 x1, tab_M x0 x1 (by omega) (by omega), if_pos rfl]
  refine ⟨rfl, ?_⟩
  split
  · rename_i h; exact h.symm
  · rw [if_pos rfl]
theorem dir_id {t u : List (List Int)} (hs : Sq t) (hu : Sq u) {a b : Int} (a0 : 0 ≤ a) (a1 : a < (t.length : Int)) (b0 : 0 ≤ b) (b1 : b < (u.length : Int)) : IsId (dir t u) (a * (u.length : Int) + b) ↔ IsId t a ∧ IsId u b := by
  have hl := tab_len (t.length * u.length) fun x y => M t (x / (u.length : Int)) (y / (u.length : Int)) * (u.length : Int) + M u (x % (u.length : Int)) (y % (u.length : Int))
  have hk := hu.pos
  have hk' := hs.pos
  have pd := pair_div (a := a) b0 b1
  have hmul : ((t.length * u.length : Nat) : Int) = (t.length : Int) * (u.length : Int) := Int.natCast_mul _ _
  have plt := pair_lt a0 a1 b0 b1
  rw [← hmul] at plt
  unfold IsId dir
  rw [hl]
  constructor
  · intro h
    have key : ∀ x y : Int, 0 ≤ x → x < (t.length : Int) → 0 ≤ y → y < (u.length : Int) → (M t a x = x ∧ M t x a = x) ∧ (M u b y = y ∧ M u y b = y) := by
      intro x y x0 x1 y0 y1
      have pl := pair_lt x0 x1 y0 y1
      rw [← hmul] at pl
      have pq := pair_div (a := x) y0 y1
      have := h _ pl.1 pl.2
      rw [tab_M plt.1 plt.2 pl.1 pl.2, tab_M pl.1 pl.2 plt.1 plt.2, pd.1, pd.2, pq.1, pq.2] at this
      have e1 := pair_div (a := M t a x) (hu.lo b y b0 b1 y0 y1) (hu.hi b y b0 b1 y0 y1)
      have e2 := pair_div (a := M t x a) (hu.lo y b y0 y1 b0 b1) (hu.hi y b y0 y1 b0 b1)
      rw [this.1, pq.1, pq.2] at e1
      rw [this.2, pq.1, pq.2] at e2
      exact ⟨⟨e1.1.symm, e2.1.symm⟩, ⟨e1.2.symm, e2.2.symm⟩⟩
    exact ⟨fun x x0 x1 => (key x 0 x0 x1 (Int.le_refl _) hk).1, fun y y0 y1 => (key 0 y (Int.le_refl _) hk' y0 y1).2⟩
  · rintro ⟨h1, h2⟩ x x0 x1
    have po := pair_of x0 (hmul ▸ x1) hk
    rw [tab_M plt.1 plt.2 x0 x1, tab_M x0 x1 plt.1 plt.2, pd.1, pd.2]
    have g1 := h1 _ po.1 po.2.1
    have g2 := h2 _ po.2.2.1 po.2.2.2.1
    rw [g1.1, g1.2, g2.1, g2.2]
    exact ⟨po.2.2.2.2.symm, po.2.2.2.2.symm⟩
theorem idn_dir {t u : List (List Int)} (hs : Sq t) (hu : Sq u) : idn (dir t u) = if 0 ≤ idn t ∧ 0 ≤ idn u then idn t * (u.length : Int) + idn u else -1 := by
  have hl := tab_len (t.length * u.length) fun x y => M t (x / (u.length : Int)) (y / (u.length : Int)) * (u.length : Int) + M u (x % (u.length : Int)) (y % (u.length : Int))
  have hmul : ((t.length * u.length : Nat) : Int) = (t.length : Int) * (u.length : Int) := Int.natCast_mul _ _
  have no : (∀ a b : Int, 0 ≤ a → a < (t.length : Int) → 0 ≤ b → b < (u.length : Int) → ¬ (IsId t a ∧ IsId u b)) → idn (dir t u) = -1 := by
    intro h
    refine first_no fun e e0 e1 he => ?_
    rw [show (dir t u).length = t.length * u.length from hl, hmul] at e1
    obtain ⟨p1, p2, p3, p4, p5⟩ := pair_of e0 e1 hu.pos
    rw [p5, dir_id hs hu p1 p2 p3 p4] at he
    exact h _ _ p1 p2 p3 p4 he
  rcases idn_cases t with ⟨h1, h2⟩ | ⟨h1, h2, h3⟩
  · rw [if_neg (by omega)]
    exact no fun a b a0 a1 b0 b1 hh => h2 a a0 a1 hh.1
  · rcases idn_cases u with ⟨k1, k2⟩ | ⟨k1, k2, k3⟩
    · rw [if_neg (by omega)]
      exact no fun a b a0 a1 b0 b1 hh => k2 b b0 b1 hh.2
    · rw [if_pos ⟨h1, k1⟩]
      have pl := pair_lt h1 h2 k1 k2
      refine idn_eq ((dir_id hs hu h1 h2 k1 k2).2 ⟨h3, k3⟩) pl.1 ?_
      rw [show (dir t u).length = t.length * u.length from hl, hmul]
      exact pl.2
theorem sel_succ (P : Int → Prop) (i : Int) (m : Nat) [Decidable (P i)] : sel P i (m + 1) = if P i then i :: sel P (i + 1) m else sel P (i + 1) m := by
  conv => lhs; unfold sel
  by_cases h : P i <;> simp [h]
open Classical in
theorem sel_append (P : Int → Prop) (i : Int) (m m' : Nat) : sel P i (m + m') = sel P i m ++ sel P (i + m) m' := by
  induction m generalizing i with
  | zero => simp [sel]
  | succ m ih =>
    rw [show m + 1 + m' = (m + m') + 1 by omega, sel_succ, sel_succ, ih, show i + 1 + (m : Int) = i + ((m + 1 : Nat) : Int) by omega]
    split <;> simp
theorem sel_shift (Q : Int → Prop) (c i : Int) (m : Nat) : (sel (fun x => Q (x - c)) (i + c) m).length = (sel Q i m).length := by
  induction m generalizing i with
  | zero => rfl
  | succ m ih =>
    unfold sel
    have := ih (i + 1)
    rw [show i + 1 + c = i + c + 1 by omega] at this
    rw [show i + c - c = i by omega]
    split <;> simp [this]
theorem sel_none {P : Int → Prop} {i : Int} {m : Nat} (h : ∀ j : Int, i ≤ j → j < i + m → ¬ P j) : sel P i m = [] := by
  cases e : sel P i m with
  | nil => rfl
  | cons a l =>
    have : a ∈ sel P i m := by rw [e]; simp
    rw [sel_mem] at this
    exact absurd this.2.2 (h a this.1 this.2.1)
theorem sel_pairs (P Q : Int → Prop) (n k : Nat) (hk : 0 < k) : (sel (fun x => P (x / (k : Int)) ∧ Q (x % (k : Int))) 0 (n * k)).length = (sel P 0 n).length * (sel Q 0 k).length := by
  induction n with
  | zero => simp [sel]
  | succ n ih =>
    rw [Nat.add_mul, Nat.one_mul, sel_append, sel_append P 0 n 1, List.length_append, List.length_append, ih, Nat.add_mul]
    congr 1
    rw [Int.zero_add, Int.zero_add]
    have hmul : ((n * k : Nat) : Int) = (n : Int) * (k : Int) := Int.natCast_mul _ _
    have hd : ∀ j : Int, ((n * k : Nat) : Int) ≤ j → j < ((n * k : Nat) : Int) + k → j / (k : Int) = n ∧ j % (k : Int) = j - ((n * k : Nat) : Int) := by
      intro j j0 j1
      have := pair_div (a := (n : Int)) (b := j - (n * k : Nat)) (k := (k : Int)) (by omega) (by omega)
      rw [← hmul, show ((n * k : Nat) : Int) + (j - ((n * k : Nat) : Int)) = j by omega] at this
      exact this
    by_cases hp : P n
    · rw [sel_congr (Q := fun x => Q (x - ((n * k : Nat) : Int))) (fun j j0 j1 => by rw [(hd j j0 j1).1, (hd j j0 j1).2]; exact ⟨fun h => h.2, fun h => ⟨hp, h⟩⟩)]
      have := sel_shift Q ((n * k : Nat) : Int) 0 k
      rw [Int.zero_add] at this
      rw [this]
      simp [sel, hp]
    · rw [sel_none (fun j j0 j1 h => hp (by rw [← (hd j j0 j1).1]; exact h.1))]
      simp [sel, hp]
theorem idem_dir {t u : List (List Int)} (hs : Sq t) (hu : Sq u) : (idem (dir t u)).length = (idem t).length * (idem u).length := by
  have hl := tab_len (t.length * u.length) fun x y => M t (x / (u.length : Int)) (y / (u.length : Int)) * (u.length : Int) + M u (x % (u.length : Int)) (y % (u.length : Int))
  have hmul : ((t.length * u.length : Nat) : Int) = (t.length : Int) * (u.length : Int) := Int.natCast_mul _ _
  have hk := hu.pos
  unfold idem
  rw [← sel_pairs (fun x => M t x x = x) (fun y => M u y y = y) t.length u.length (by omega), show (dir t u).length = t.length * u.length from hl]
  congr 1
  refine sel_congr fun x x0 x1 => ?_
  unfold dir
  have x1' : x < ((t.length * u.length : Nat) : Int) := by omega
  rw [tab_M x0 x1' x0 x1']
  rw [hmul] at x1'
  obtain ⟨p1, p2, p3, p4, p5⟩ := pair_of x0 x1' hk
  constructor
  · intro h
    have := pair_div (a := M t (x / (u.length : Int)) (x / (u.length : Int))) (hu.lo _ _ p3 p4 p3 p4) (hu.hi _ _ p3 p4 p3 p4)
    rw [h] at this
    exact ⟨this.1.symm, this.2.symm⟩
  · rintro ⟨h1, h2⟩
    rw [h1, h2]
    exact p5.symm
theorem opp_opp {t : List (List Int)} (hs : Sq t) : opp (opp t) = t := by
  have hl := tab_len t.length fun x y => M t y x
  conv => rhs; rw [hs.tab]
  unfold opp
  rw [hl]
  exact tab_congr fun x y a b c d => tab_M c d a b
open Classical in
theorem MultInherits (l0 : List (List Int)) (l1 : List (List Int)) (h0 : (l0.length ≤ 9223372036854775807 ∧ ∀ v ∈ l0, (v.length ≤ 9223372036854775807 ∧ ∀ u ∈ v, (Lit.int .i64 u).wf = true))) (h1 : (l1.length ≤ 9223372036854775807 ∧ ∀ v ∈ l1, (v.length ≤ 9223372036854775807 ∧ ∀ u ∈ v, (Lit.int .i64 u).wf = true))) : ∃ k, semigrouplaw14_MultInherits.f k l0 l1 = some true := by
  have awk : Ev (fun k => (semigrouplaw14_awake.f k).bind fun t229 => some t229) true := ev_call awake_ev (ev_some rfl)
  have no : Ev (fun k => semigrouplaw14_MultInherits.j0 k l0 l1 true) true := by
    apply ev_succ
    unfold semigrouplaw14_MultInherits.j0
    exact ev_pos rfl awk
  have small : ∀ l : List (List Int), In2 l → Ev (fun k => semigrouplaw14_small.f k l 8) (decide ((l.length : Int) ≤ 8 ∧ val l = 0)) := by
    intro l hl
    unfold semigrouplaw14_small.f
    refine ev_ite (fun h => ev_call (semigroupref14_Valid_ev hl) (ev_some ?_)) (fun h => ev_some ?_)
    · by_cases hv : val l = 0 <;> simp [h, hv]
    · simp [h]
  have key : Va l0 → Va l1 → (l0.length : Int) ≤ 8 → (l1.length : Int) ≤ 8 → Ev (fun k => semigrouplaw14_MultInherits.j0 k l0 l1 false) true := by
    intro va vb s0 s1
    have hs := va.toSq
    have hu := vb.toSq
    have hb : l0.length * l1.length ≤ 8 * 8 := Nat.mul_le_mul (by omega) (by omega)
    have vo := opp_va va
    have vj := adj_va va (by omega)
    have vd := dir_va va vb (by omega)
    have c0 := val_va.2 va
    have c1 := val_va.2 vb
    have po := hs.pos
    have pu := hu.pos
    apply ev_succ
    simp only [semigrouplaw14_MultInherits.j0]
    refine ev_neg (by simp) (ev_call (mult_Opposite_ev h0) (ev_call (mult_Adjoin_ev h0) (ev_call (mult_Direct_ev h0 h1) ?_)))
    rw [if_pos c0, if_pos (show val l0 = 0 ∧ (l0.length : Int) < 400 from ⟨c0, by omega⟩), if_pos (show val l0 = 0 ∧ val l1 = 0 ∧ l0.length * l1.length ≤ 400 from ⟨c0, c1, by omega⟩)]
    refine ev_call (mult_Validate_ev (in2_sq vo.toSq)) (ev_pos (val_va.2 vo) (ev_call (mult_Validate_ev (in2_sq vj.toSq)) (ev_pos (val_va.2 vj) (ev_call (mult_Validate_ev (in2_sq vd.toSq)) ?_))))
    rw [show (val (dir l0 l1) != 0) = false by simp [val_va.2 vd]]
    -- j1 .. j3
    have last : ∀ want, want = (if 0 ≤ idn l0 ∧ 0 ≤ idn l1 then idn l0 * (l1.length : Int) + idn l1 else -1) → Ev (fun k => semigrouplaw14_MultInherits.j3 k l0 l1 (opp l0) (adj l0) (dir l0 l1) (idn l0) want) true := by
      rintro want rfl
      have i1 := sel_len (P := fun x => M l0 x x = x) (i := 0) (m := l0.length)
      have i2 := sel_len (P := fun x => M l1 x x = x) (i := 0) (m := l1.length)
      have i3 : (idem l0).length * (idem l1).length ≤ 8 * 8 := Nat.mul_le_mul (by unfold idem; omega) (by unfold idem; omega)
      apply ev_succ
      simp only [semigrouplaw14_MultInherits.j3]
      refine ev_call (mult_Identity_ev (in2_sq vo.toSq)) (ev_pos (by rw [if_pos (val_va.2 vo), idn_opp hs]) (ev_call (mult_Identity_ev (in2_sq vj.toSq)) (ev_pos (by rw [if_pos (val_va.2 vj), idn_adj]) (ev_call (mult_Identity_ev (in2_sq vd.toSq)) (ev_pos (by rw [if_pos (val_va.2 vd), idn_dir hs hu]) ?_)))))
      refine ev_call (mult_Idempotents_ev (in2_sq vd.toSq)) (ev_call (mult_Idempotents_ev h0) (ev_call (mult_Idempotents_ev h1) ?_))
      rw [if_pos (val_va.2 vd), if_pos c0, if_pos c1, ← Int.natCast_mul, wrap_in (by omega) (by omega)]
      refine ev_pos (by rw [idem_dir hs hu]) (ev_call (mult_Opposite_ev (in2_sq vo.toSq)) ?_)
      rw [if_pos (val_va.2 vo), opp_opp hs]
      exact ev_call (semigroupref03_SameRows_ev (.inl h0)) (ev_pos rfl awk)
    apply ev_succ
    simp only [semigrouplaw14_MultInherits.j1]
    refine ev_neg (by simp) (ev_call (mult_Identity_ev h0) (ev_call (mult_Identity_ev h1) ?_))
    rw [if_pos c0, if_pos c1]
    rcases idn_cases l0 with ⟨x1, _⟩ | ⟨x1, x2, _⟩
    · refine ev_neg (by omega) ?_
      apply ev_succ
      simp only [semigrouplaw14_MultInherits.j2]
      exact ev_neg (by simp) (last _ (by rw [if_neg (by omega)]))
    · refine ev_pos (by omega) ?_
      rcases idn_cases l1 with ⟨y1, _⟩ | ⟨y1, y2, _⟩
      · rw [show decide (idn l1 ≥ 0) = false by simp; omega]
        apply ev_succ
        simp only [semigrouplaw14_MultInherits.j2]
        exact ev_neg (by simp) (last _ (by rw [if_neg (by omega)]))
      · rw [show decide (idn l1 ≥ 0) = true by simp; omega]
        have pl := pair_lt x1 x2 y1 y2
        have pm : 0 ≤ idn l0 * (l1.length : Int) := Int.mul_nonneg x1 (by omega)
        rw [← Int.natCast_mul] at pl
        apply ev_succ
        simp only [semigrouplaw14_MultInherits.j2]
        rw [wrap_in (i := idn l0 * (l1.length : Int)) (by omega) (by omega), wrap_in (by omega) (by omega)]
        exact ev_pos (by simp) (last _ (by rw [if_pos ⟨x1, y1⟩]))
  apply ev_get
  unfold semigrouplaw14_MultInherits.f
  refine ev_call (small l0 h0) (ev_ite (fun h => ev_call (small l1 h1) ?_) (fun _ => no))
  have h : (l0.length : Int) ≤ 8 ∧ val l0 = 0 := by simpa using h
  by_cases h2 : (l1.length : Int) ≤ 8 ∧ val l1 = 0
  · simp only [h2, decide_true, Bool.not_true, and_self]
    exact key (va_of h.2) (va_of h2.2) h.1 h2.1
  · simp only [h2, decide_false, Bool.not_false]
    exact no
end Go.Proofs.Ytlhckcldeojfmaa.Pure
