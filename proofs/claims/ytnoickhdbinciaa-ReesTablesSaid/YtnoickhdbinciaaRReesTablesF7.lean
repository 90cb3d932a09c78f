/- Rows compared, members; tables of Rees matrix semigroups, regularity. What they answer. No condition but that a structure comes in. -/
import Derived.Test.YtnoickhdbinciaaRReesTablesF6
import Derived.Test.YtnoickhdbinciaaAbAW
import Derived.Test.YtnoickhdbinciaaAbM10
set_option linter.unusedVariables false
set_option linter.unusedSimpArgs false
namespace Go.Ab
open Go
theorem semigroupref03_Same_ev {a b : Sl} {x y : List Int} {H : AH} {lo : Nat} (ha : Row H a x) (hb : Row H b y) (hl : x.length ≤ 9223372036854775807) : Ev (fun ρ k κ => semigroupref03_Same k a b lo H κ) (Is (decide (x = y)) H) := by
  refine ev_eq (fun _ k _ => semigroupref03_Same_eq k) ?_
  rw [ha.len, hb.len]
  refine ev_nif (fun h => ev_ret ⟨by rw [decide_eq_false]; exact fun e => h (by rw [e]), rfl⟩) (fun h => ?_)
  refine ev_for0 (g := fun i ρ k κ => semigroupref03_Same_1 k a b (x.length : Int) i lo H κ) (x.length : Int) (fun i => ∀ j : Int, 0 ≤ j → j < i → rd x j = rd y j) ?_ ?_ 0 (by omega) (by omega) (fun j a b => by omega)
  · intro i i0 i1 hi
    by_cases hv : rd x i = rd y i
    · right
      refine ⟨fun j a b => ?_, fun h' => ?_⟩
      · by_cases hj : j = i
        · rw [hj]; exact hv
        · exact hi j a (by omega)
      · refine ev_eq (fun _ k _ => semigroupref03_Same_1_eq k) (ev_pos i1 (ev_rdI ha i0 i1 (ev_rdI hb i0 (by omega) (ev_nneg hv ?_))))
        rw [W_add i0 i1 (by omega)]; exact h'
    · left
      refine ev_eq (fun _ k _ => semigroupref03_Same_1_eq k) (ev_pos i1 (ev_rdI ha i0 i1 (ev_rdI hb i0 (by omega) (ev_npos hv (ev_ret ⟨by rw [decide_eq_false]; exact fun e => hv (by rw [e]), rfl⟩)))))
  · intro hi
    refine ev_eq (fun _ k _ => semigroupref03_Same_1_eq k) (ev_neg (by omega) (ev_ret ⟨?_, rfl⟩))
    rw [decide_eq_true]
    exact rd_ext (by omega) hi
theorem semigroupref03_SameRows_ev {a b : Sl} {x y : List (List Int)} {H : AH} {lo : Nat} (ha : Tab H a x) (hb : Tab H b y) (hl : x.length ≤ 9223372036854775807) (hr : ∀ v ∈ x, v.length ≤ 9223372036854775807) : Ev (fun ρ k κ => semigroupref03_SameRows k a b lo H κ) (Is (decide (x = y)) H) := by
  refine ev_eq (fun _ k _ => semigroupref03_SameRows_eq k) ?_
  rw [ha.len, hb.len]
  refine ev_nif (fun h => ev_ret ⟨by rw [decide_eq_false]; exact fun e => h (by rw [e]), rfl⟩) (fun h => ?_)
  refine ev_for0 (g := fun i ρ k κ => semigroupref03_SameRows_1 k a b (x.length : Int) i lo H κ) (x.length : Int) (fun i => ∀ j : Int, 0 ≤ j → j < i → R x j = R y j) ?_ ?_ 0 (by omega) (by omega) (fun j a b => by omega)
  · intro i i0 i1 hi
    by_cases hv : R x i = R y i
    · right
      refine ⟨fun j a b => ?_, fun h' => ?_⟩
      · by_cases hj : j = i
        · rw [hj]; exact hv
        · exact hi j a (by omega)
      · refine ev_eq (fun _ k _ => semigroupref03_SameRows_1_eq k) (ev_pos i1 (ev_rdS ha i0 i1 fun v hv1 => ev_rdS hb i0 (by omega) fun w hw1 => ev_is (semigroupref03_Same_ev hv1 hw1 (hr _ (R_mem i0 i1))) (ev_nf (by simpa using hv) ?_)))
        rw [W_add i0 i1 (by omega)]; exact h'
    · left
      refine ev_eq (fun _ k _ => semigroupref03_SameRows_1_eq k) (ev_pos i1 (ev_rdS ha i0 i1 fun v hv1 => ev_rdS hb i0 (by omega) fun w hw1 => ev_is (semigroupref03_Same_ev hv1 hw1 (hr _ (R_mem i0 i1))) (ev_nt (by simpa using hv) (ev_ret ⟨by rw [decide_eq_false]; exact fun e => hv (by rw [e]), rfl⟩))))
  · intro hi
    refine ev_eq (fun _ k _ => semigroupref03_SameRows_1_eq k) (ev_neg (by omega) (ev_ret ⟨?_, rfl⟩))
    rw [decide_eq_true]
    exact R_ext (by omega) hi
theorem rees_Table_l2 {g q s : Sl} {m k : Int} {Z : Bool} {G P : List (List Int)} {H0 : AH} {lo : Nat} {Qq : (Sl × Int) → AH → Prop} {p : Pt} (hlo : lo ≤ H0.length) (hgt : Tab H0 g G) (hqt : Tab H0 q P) (h : RVa G m k P Z) (hp : At1 H0 p [.sl g, .int .i64 m, .int .i64 k, .sl q, .bool Z]) {N : Nat} (hN : (N : Int) = m * k * (G.length : Int) + zz Z) {x : Int} (x0 : 0 ≤ x) (x1 : x < (N : Int))
    (hend : ∀ (T : List (List Int)) (H : AH), Sep H0 H [own (reL reI) s T] → T.length = N → (∀ x' : Int, 0 ≤ x' → x' < x + 1 → (R T x').length = N ∧ ∀ y : Int, 0 ≤ y → y < N → M T x' y = rmul G k P Z x' y) → Ev (fun ρ n κ => rees_Table_1 n (some p) s (N : Int) (x + 1) lo H κ) Qq) (H : AH) (T : List (List Int)) (hS : Sep H0 H [own (reL reI) s T]) (hT : T.length = N) (hr : (R T x).length = N) (hb : ∀ x' : Int, 0 ≤ x' → x' < x → (R T x').length = N ∧ ∀ y : Int, 0 ≤ y → y < N → M T x' y = rmul G k P Z x' y) :
    Ev (fun ρ n κ => rees_Table_2 n (some p) s x (N : Int) x (N : Int) 0 lo H κ) Qq := by
  have hN4 := h.sz
  refine ev_loop (α := AH) (g := fun y H ρ n κ => rees_Table_2 n (some p) s x (N : Int) x (N : Int) y lo H κ) (N : Int) (fun y H => ∃ T : List (List Int), Sep H0 H [own (reL reI) s T] ∧ T.length = N ∧ (R T x).length = N ∧ (∀ x' : Int, 0 ≤ x' → x' < x → (R T x').length = N ∧ ∀ y : Int, 0 ≤ y → y < N → M T x' y = rmul G k P Z x' y) ∧ ∀ y' : Int, 0 ≤ y' → y' < y → M T x y' = rmul G k P Z x y') ?_ ?_ 0 H (by omega) (by omega) ⟨T, hS, hT, hr, hb, fun y a b => by omega⟩
  · rintro y H y0 y1 ⟨T, hS, hT, hr, hb, hy⟩ hk
    refine ev_eq (fun _ k _ => rees_Table_2_eq k) (ev_pos y1 (sp_open hS x0 (by omega) fun t hS => ?_))
    refine ev_siisb (hp.le hS.le) (ev_call (rees_mul_ev (hgt.le hS.le) (hqt.le hS.le) h x0 (by omega) y0 (by omega)) fun v H9 ⟨e, l9⟩ => ?_)
    subst e
    have hrl : (rdOf [] T x).length = N := hr
    refine sp_put (x := rmul G k P Z x y) ((hS.on l9).pull 1) hlo (fun _ => ⟨rfl, rfl⟩) y0 (by omega) fun H' hS' => ?_
    rw [W_add y0 y1 (by omega)]
    have hx1 : x < (T.length : Int) := by omega
    refine hk H' ⟨_, (hS'.pull 1).close, by simpa using hT, ?_, fun x' a b => ?_, fun y' a b => ?_⟩
    · rw [R_set x0 hx1 x0, if_pos rfl, List.length_set]; exact hr
    · have := hb x' a b
      unfold M
      rw [R_set x0 hx1 a, if_neg (by omega)]; exact this
    · unfold M
      rw [R_set x0 hx1 x0, if_pos rfl, rd_set y0 (by omega) a]
      by_cases hyy : y' = y
      · rw [if_pos hyy, hyy]
      · rw [if_neg hyy]; exact hy y' a (by omega)
  · rintro H ⟨T, hS, hT, hr, hb, hy⟩
    refine ev_eq (fun _ k _ => rees_Table_2_eq k) (ev_neg (by omega) ?_)
    rw [W_add x0 x1 (by omega)]
    refine hend T H hS hT fun x' a b => ?_
    by_cases hx : x' = x
    · subst hx; exact ⟨hr, fun y c d => hy y c d⟩
    · exact hb x' a (by omega)
theorem rees_Table_ev {g q : Sl} {m k : Int} {Z : Bool} {G P : List (List Int)} {H : AH} {lo : Nat} (hlo : lo ≤ H.length) (hG : In2 G) (hg : Tab H g G) (hP : In2 P) (hq : Tab H q P) : Ev (fun ρ n κ => rees_Table n g m k q Z lo H κ) (fun v H' => v.2 = rval G m k P Z ∧ Sep H H' [own (reL reI) v.1 (if rval G m k P Z = 0 then rtab G m k P Z else [])]) := by
  refine ev_eq (fun _ k _ => rees_Table_eq k) (ev_alcB fun p H2 hp _ l2 => ev_siisb hp (ev_call (rees_Validate_ev hG (hg.le l2) hP (hq.le l2)) fun v H9 ⟨e, l9⟩ => ?_))
  subst e
  have hp := hp.le l9
  have l9 := l2.trans l9
  refine ev_nif (fun hv => ev_ret ⟨rfl, ?_⟩) (fun hv => ?_)
  · rw [if_neg hv]; exact (Sep.of_le l9).nilS _
  rw [if_pos hv]
  have hv' := rval_rv.1 hv
  have hn := rtab_n hv'
  have hsz := hv'.sz
  refine ev_siisb hp (ev_call (rees_size_rv hg.len hv') fun v H16 ⟨e, l16⟩ => ?_)
  subst e
  have hp := hp.le l16
  have l16 := l9.trans l16
  obtain ⟨N, hN⟩ : ∃ N : Nat, (N : Int) = m * k * (G.length : Int) + zz Z := ⟨_, hn.1⟩
  rw [← hN]
  have hlo' : lo ≤ H16.length := by have := l16.len; omega
  refine sp_mks (x := []) (Sep.nil H16) (reL reI) (fun _ => ⟨⟨none, 0⟩, rfl, rfl, .inl ⟨rfl, rfl, rfl⟩⟩) (by omega) (by omega) fun s H18 hS => ?_
  rw [hS.len]
  simp only [Int.toNat_natCast, List.length_replicate] at hS ⊢
  refine ev_loop (α := AH) (g := fun x H ρ n κ => rees_Table_1 n (some p) s (N : Int) x lo H κ) (N : Int) (fun x H => ∃ T : List (List Int), Sep H16 H [own (reL reI) s T] ∧ T.length = N ∧ ∀ x' : Int, 0 ≤ x' → x' < x → (R T x').length = N ∧ ∀ y : Int, 0 ≤ y → y < N → M T x' y = rmul G k P Z x' y) ?_ ?_ 0 H18 (by omega) (by omega) ⟨_, hS, by simp, fun x a b => by omega⟩
  · rintro x H1 x0 x1 ⟨T, hS, hT, hb⟩ hk
    refine ev_eq (fun _ k _ => rees_Table_1_eq k) (ev_pos x1 ?_)
    rw [hS.len, hT]
    refine sp_mks (x := (0 : Int)) hS reI (fun _ => ⟨rfl, rfl⟩) (by omega) (by omega) fun t H3 hS => ?_
    refine sp_putE hS.eltL.swap hlo' x0 (by omega) fun H4 hS => ?_
    refine rees_Table_l2 hlo' (hg.le l16) (hq.le l16) hv' hp hN x0 x1 (fun T H hS hT hr => hk H ⟨T, hS, hT, hr⟩) H4 _ hS (by simpa using hT) ?_ fun x' a b => ?_
    · rw [R_set x0 (by omega) x0, if_pos rfl]; simp
    · have := hb x' a b
      unfold M
      rw [R_set x0 (by omega) a, if_neg (by omega)]; exact this
  · rintro H1 ⟨T, hS, hT, hb⟩
    refine ev_eq (fun _ k _ => rees_Table_1_eq k) (ev_neg (by omega) (ev_ret ⟨hv.symm, ?_⟩))
    have : T = rtab G m k P Z := by
      unfold rtab
      rw [← hN, Int.toNat_natCast]
      exact tab_eq hT (fun x a b => (hb x a b).1) (fun x y a b c d => (hb x a b).2 y c d)
    rw [← this]
    exact hS.base l16
theorem semigroupref17_Table_ev {g q : Sl} {m k : Int} {Z : Bool} {G P : List (List Int)} {H : AH} {lo : Nat} (hlo : lo ≤ H.length) (hgt : Tab H g G) (hqt : Tab H q P) (h : RVa G m k P Z) : Ev (fun ρ n κ => semigroupref17_Table n g m k q Z lo H κ) (fun v H' => Sep H H' [own (reL reI) v (rtab G m k P Z)]) := by
  refine ev_eq (fun _ k _ => semigroupref17_Table_eq k) (ev_alcB fun p H2 hp _ l2 => ?_)
  have hn := rtab_n h
  have hsz := h.sz
  obtain ⟨N, hN⟩ : ∃ N : Nat, (N : Int) = m * k * (G.length : Int) + zz Z := ⟨_, hn.1⟩
  have hlo' : lo ≤ H2.length := by have := l2.len; omega
  have hgt := hgt.le l2
  have hqt := hqt.le l2
  refine ev_loop (α := Sl × AH) (g := fun x a ρ n κ => semigroupref17_Table_1 n (some p) a.1 x lo a.2 κ) (N : Int) (fun x a => Sep H2 a.2 [own (reL reI) a.1 ((List.range x.toNat).map fun x : Nat => (List.range N).map fun y : Nat => rmulc G m k P Z x y)]) ?_ ?_ 0 (⟨none, 0⟩, H2) (by omega) (by omega) ((Sep.nil H2).nilS _)
  · rintro x ⟨s, H1⟩ x0 x1 hS hk
    simp only at hS
    refine ev_eq (fun _ k _ => semigroupref17_Table_1_eq k) (ev_siisb (hp.le hS.le) (ev_call (semigroupref17_Size_ev (hgt.le hS.le).len h) fun v H8 ⟨e, l8⟩ => ev_pos (by omega) ?_))
    refine ev_loop (α := Sl × AH) (g := fun y a ρ n κ => semigroupref17_Table_2 n (some p) s x a.1 y lo a.2 κ) (N : Int) (fun y a => Sep H2 a.2 [own reI a.1 ((List.range y.toNat).map fun y : Nat => rmulc G m k P Z x y), own (reL reI) s ((List.range x.toNat).map fun x : Nat => (List.range N).map fun y : Nat => rmulc G m k P Z x y)]) ?_ ?_ 0 (⟨none, 0⟩, H8) (by omega) (by omega) ((hS.on l8).nilS _)
    · rintro y ⟨r, H3⟩ y0 y1 hS hk
      simp only at hS
      refine ev_eq (fun _ k _ => semigroupref17_Table_2_eq k) (ev_siisb (hp.le hS.le) (ev_call (semigroupref17_Size_ev (hgt.le hS.le).len h) fun v H8 ⟨e, l8⟩ => ev_pos (by omega) ?_))
      have hS := hS.on l8
      refine ev_siisb (hp.le hS.le) (ev_call (semigroupref17_Mul_ev (hgt.le hS.le) (hqt.le hS.le) h ⟨by omega, by omega⟩) fun v H16 ⟨e, l16⟩ => ?_)
      subst e
      refine sp_app1 (x := rmulc G m k P Z x y) (hS.on l16) hlo' (fun _ => ⟨rfl, rfl⟩) (by simp; omega) fun s' H' hS' => ?_
      rw [W_add y0 y1 (by omega)]
      refine hk (s', H') (hS'.eq ?_)
      have := range_snoc (fun y : Nat => rmulc G m k P Z x y) y0
      rwa [show ((y.toNat : Nat) : Int) = y by omega] at this
    · rintro ⟨r, H3⟩ hS
      simp only at hS
      refine ev_eq (fun _ k _ => semigroupref17_Table_2_eq k) (ev_siisb (hp.le hS.le) (ev_call (semigroupref17_Size_ev (hgt.le hS.le).len h) fun v H8 ⟨e, l8⟩ => ev_neg (by omega) ?_))
      refine sp_appL (hS.on l8).swap hlo' (by simp; omega) fun s' H' hS' => ?_
      rw [W_add x0 x1 (by omega)]
      refine hk (s', H') (hS'.eq ?_)
      have := range_snoc (fun x : Nat => (List.range N).map fun y : Nat => rmulc G m k P Z x y) x0
      rwa [show ((x.toNat : Nat) : Int) = x by omega] at this
  · rintro ⟨s, H1⟩ hS
    simp only at hS
    refine ev_eq (fun _ k _ => semigroupref17_Table_1_eq k) (ev_siisb (hp.le hS.le) (ev_call (semigroupref17_Size_ev (hgt.le hS.le).len h) fun v H8 ⟨e, l8⟩ => ev_neg (by omega) (ev_ret ?_)))
    refine ((hS.on l8).base l2).eq ?_
    unfold rtab
    rw [← hN, Int.toNat_natCast]
    refine tab_congr fun x y a b c d => ?_
    unfold rmulc
    rw [if_pos (by omega)]

end Go.Ab
