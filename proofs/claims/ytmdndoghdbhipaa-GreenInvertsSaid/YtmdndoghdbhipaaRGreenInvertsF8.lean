/- Partitions: canonical forms, validity, meets, counts, classes. What they answer. No condition but that rows come in. -/
import Derived.Test.YtmdndoghdbhipaaRGreenInvertsF7
import Derived.Test.YtmdndoghdbhipaaAbM12
set_option linter.unusedVariables false
set_option linter.unusedSimpArgs false
namespace Go.Ab
open Go
abbrev ival : Int → AV := fun n => .int .i64 n
theorem partition_Canonical_ev {s : Sl} {x : List Int} {H : AH} {lo : Nat} (hlo : lo ≤ H.length) (hs : Row H s x) (hl : x.length ≤ 4096) : Ev (fun ρ k κ => partition_Canonical k s lo H κ) (fun v H' => ∃ o, Sep H H' [own reI v o] ∧ IsCl x.length (fun i j => rd x i = rd x j) o) := by
  refine ev_eq (fun _ k _ => partition_Canonical_eq k) ?_
  rw [hs.len]
  refine ev_neg (by omega) (sp_mkm ival (Sep.nil H) fun m H1 hS => sp_mks (x := (0 : Int)) hS reI (fun _ => ⟨rfl, rfl⟩) (by omega) (by omega) fun t H4 hS => ?_)
  refine ev_loop (α := AH) (g := fun i H ρ n κ => partition_Canonical_1 n (some m) t s (x.length : Int) i lo H κ) (x.length : Int) (fun i H' => ∃ o l, Sep H H' [own reI t o, ownMp ival m l] ∧ Num x o l i) ?_ ?_ 0 H4 (by omega) (by omega) ⟨_, [], hS, Num.zero (by simp)⟩
  · rintro i H1 i0 i1 ⟨o, l, hS, hN⟩ hk
    have hln := hN.len
    have step : ∀ (c : Int) (l' : List (Int × Int)) (H2 : AH), Sep H H2 [own reI t o, ownMp ival m l'] → (∀ H3, Sep H H3 [own reI t (o.set i.toNat c), ownMp ival m l'] → Num x (o.set i.toNat c) l' (i + 1)) → Ev (fun ρ n κ => partition_Canonical_2 n (some m) t i c s (x.length : Int) i lo H2 κ) (fun v H' => ∃ o, Sep H H' [own reI v o] ∧ IsCl x.length (fun i j => rd x i = rd x j) o) := by
      intro c l' H2 hS h
      refine ev_eq (fun _ k _ => partition_Canonical_2_eq k) (sp_put (x := c) hS hlo (fun _ => ⟨rfl, rfl⟩) i0 (by omega) fun H3 hS => ?_)
      rw [W_add i0 i1 (by omega)]
      exact hk H3 ⟨_, _, hS, h H3 hS⟩
    refine ev_eq (fun _ k _ => partition_Canonical_1_eq k) (ev_pos i1 (ev_rdI (hs.le hS.le) i0 i1 (sp_mlook (hS.pull 1) ?_)))
    cases e : mget l (rd x i) with
    | none =>
      exact ev_asI (n := 0) (ev_nt rfl (sp_mlen (hS.pull 1) (sp_mput (f := ival) (hS.pull 1) hlo fun H5 hS => step _ _ _ (hS.pull 1) fun _ _ => hN.new i0 i1 e)))
    | some c => exact ev_asI (n := c) (ev_nf rfl (step _ _ _ hS fun _ _ => hN.old i0 i1 e))
  · rintro H1 ⟨o, l, hS, hN⟩
    exact ev_eq (fun _ k _ => partition_Canonical_1_eq k) (ev_neg (by omega) (ev_ret ⟨o, (hS.pull 1).drop, hN.done⟩))
/-- What partition.Valid has seen of the first i. -/
structure PV1 (p : List Int) (i n : Int) : Prop where
  n0 : 0 ≤ n ∧ n ≤ i
  lt : ∀ j : Int, 0 ≤ j → j < i → 0 ≤ rd p j ∧ rd p j < n
  all : ∀ c : Int, 0 ≤ c → c < n → ∃ j : Int, 0 ≤ j ∧ j < i ∧ rd p j = c
  can : ∀ j : Int, 0 ≤ j → j < i → ∀ c : Int, 0 ≤ c → c < rd p j → ∃ j' : Int, 0 ≤ j' ∧ j' < j ∧ rd p j' = c
open Classical in
theorem partition_Valid_ev {s : Sl} {p : List Int} {H : AH} {lo : Nat} (hs : Row H s p) : Ev (fun ρ k κ => partition_Valid k s lo H κ) (Is (decide ((p.length : Int) ≤ 4096 ∧ Cano p)) H) := by
  refine ev_eq (fun _ k _ => partition_Valid_eq k) ?_
  rw [hs.len]
  refine ev_if (fun h => ev_ret ⟨by rw [decide_eq_false]; omega, rfl⟩) (fun h => ?_)
  refine ev_for (α := Int) (g := fun i n ρ k κ => partition_Valid_1 k n s (p.length : Int) i lo H κ) (p.length : Int) (fun i n => PV1 p i n) ?_ ?_ 0 0 (by omega) (by omega) ⟨by omega, fun j a b => by omega, fun c a b => by omega, fun j a b => by omega⟩
  · intro i n i0 i1 hP
    have hn := hP.n0
    by_cases hbad : rd p i < 0 ∨ rd p i > n
    · left
      refine ev_eq (fun _ k _ => partition_Valid_1_eq k) (ev_pos i1 (ev_rdI hs i0 i1 (ev_orP (c := rd p i > n) (fun _ => ev_ret ⟨rfl, rfl⟩) (ev_pos hbad (ev_ret ⟨?_, rfl⟩)))))
      rw [decide_eq_false]
      rintro ⟨_, hc⟩
      obtain ⟨c1, c2⟩ := hc i i0 i1
      rcases hbad with hbad | hbad
      · omega
      · obtain ⟨j, j0, j1, j2⟩ := c2 n hn.1 hbad
        have := hP.lt j j0 j1
        omega
    · right
      by_cases hnew : rd p i = n
      · refine ⟨n + 1, ⟨by omega, fun j a b => ?_, fun c a b => ?_, fun j a b c c0 c1 => ?_⟩, fun h' => ?_⟩
        · by_cases hj : j = i
          · rw [hj]; omega
          · have := hP.lt j a (by omega); omega
        · by_cases hc : c = n
          · exact ⟨i, i0, by omega, by omega⟩
          · obtain ⟨j, x, y, z⟩ := hP.all c a (by omega)
            exact ⟨j, x, by omega, z⟩
        · by_cases hj : j = i
          · rw [hj] at c1 ⊢
            exact hP.all c c0 (by omega)
          · exact hP.can j a (by omega) c c0 c1
        · refine ev_eq (fun _ k _ => partition_Valid_1_eq k) (ev_pos i1 (ev_rdI hs i0 i1 (ev_orP (c := rd p i > n) (fun _ => ev_ret ⟨rfl, rfl⟩) (ev_neg hbad (ev_pos hnew (ev_eq (fun _ k _ => partition_Valid_2_eq k) ?_))))))
          rw [W_add i0 i1 (by omega), W_in (by omega) (by omega)]; exact h'
      · refine ⟨n, ⟨by omega, fun j a b => ?_, fun c a b => ?_, fun j a b c c0 c1 => ?_⟩, fun h' => ?_⟩
        · by_cases hj : j = i
          · rw [hj]; omega
          · exact hP.lt j a (by omega)
        · obtain ⟨j, x, y, z⟩ := hP.all c a b
          exact ⟨j, x, by omega, z⟩
        · by_cases hj : j = i
          · rw [hj] at c1 ⊢
            exact hP.all c c0 (by omega)
          · exact hP.can j a (by omega) c c0 c1
        · refine ev_eq (fun _ k _ => partition_Valid_1_eq k) (ev_pos i1 (ev_rdI hs i0 i1 (ev_orP (c := rd p i > n) (fun _ => ev_ret ⟨rfl, rfl⟩) (ev_neg hbad (ev_neg hnew (ev_eq (fun _ k _ => partition_Valid_2_eq k) ?_))))))
          rw [W_add i0 i1 (by omega)]; exact h'
  · intro n hP
    refine ev_eq (fun _ k _ => partition_Valid_1_eq k) (ev_neg (by omega) (ev_ret ⟨?_, rfl⟩))
    rw [decide_eq_true]
    exact ⟨by omega, fun i a b => ⟨(hP.lt i a b).1, hP.can i a b⟩⟩
open Classical in
theorem partition_both_ev {s t : Sl} {p q : List Int} {H : AH} {lo : Nat} (hs : Row H s p) (ht : Row H t q) : Ev (fun ρ k κ => partition_both k s t lo H κ) (Is (decide ((p.length : Int) = q.length ∧ ((p.length : Int) ≤ 4096 ∧ Cano p) ∧ ((q.length : Int) ≤ 4096 ∧ Cano q))) H) := by
  refine ev_eq (fun _ k _ => partition_both_eq k) ?_
  rw [hs.len, ht.len]
  refine ev_andP (c := (p.length : Int) ≤ 4096 ∧ Cano p) (fun _ => ev_is (partition_Valid_ev hs) (ev_ret ⟨rfl, rfl⟩)) (ev_andP (c := (q.length : Int) ≤ 4096 ∧ Cano q) (fun _ => ev_is (partition_Valid_ev ht) (ev_ret ⟨rfl, rfl⟩)) (ev_ret ⟨?_, rfl⟩))
  apply decide_eq_decide.2
  exact and_assoc
/-- Pairs of class numbers, coded. -/
theorem pair_inj {a b c d : Int} (h0 : 0 ≤ b ∧ b < 4096) (h1 : 0 ≤ d ∧ d < 4096) : a * 4096 + b = c * 4096 + d ↔ a = c ∧ b = d := by
  constructor
  · intro h; omega
  · rintro ⟨rfl, rfl⟩; rfl
def meetL (p q : List Int) : List Int := (List.range p.length).map fun i : Nat => rd p i * 4096 + rd q i
theorem meetL_cl {p q o : List Int} (hp : Cano p) (hq : Cano q) (hl : p.length = q.length) (h4 : p.length ≤ 4096) (ho : IsCl (meetL p q).length (fun i j => rd (meetL p q) i = rd (meetL p q) j) o) : IsCl p.length (fun i j => rd p i = rd p j ∧ rd q i = rd q j) o := by
  have e : (meetL p q).length = p.length := by simp [meetL]
  rw [e] at ho
  refine ho.congr fun x y x0 x1 y0 y1 => ?_
  unfold meetL
  rw [rd_map x0 x1, rd_map y0 y1, show ((x.toNat : Nat) : Int) = x by omega, show ((y.toNat : Nat) : Int) = y by omega]
  have := hq.lt x0 (by omega)
  have := hq.lt y0 (by omega)
  exact pair_inj (by omega) (by omega)
open Classical in
theorem partition_Meet_ev {s t : Sl} {p q : List Int} {H : AH} {lo : Nat} (hlo : lo ≤ H.length) (hs : Row H s p) (ht : Row H t q) (hp : Cano p) (hq : Cano q) (hl : p.length = q.length) (h4 : p.length ≤ 4096) : Ev (fun ρ k κ => partition_Meet k s t lo H κ) (fun v H' => ∃ o, Sep H H' [own reI v o] ∧ IsCl p.length (fun i j => rd p i = rd p j ∧ rd q i = rd q j) o) := by
  refine ev_eq (fun _ k _ => partition_Meet_eq k) (ev_is (partition_both_ev hs ht) (ev_nf ?_ ?_))
  · rw [decide_eq_true]; exact ⟨by omega, ⟨by omega, hp⟩, by omega, hq⟩
  rw [hs.len]
  refine sp_mks (x := (0 : Int)) (Sep.nil H) reI (fun _ => ⟨rfl, rfl⟩) (by omega) (by omega) fun u H4 hS => ?_
  refine ev_loop (α := AH) (g := fun i H ρ k κ => partition_Meet_1 k s t u (p.length : Int) i lo H κ) (p.length : Int) (fun i H' => ∃ o, Sep H H' [own reI u o] ∧ o.length = p.length ∧ ∀ j : Int, 0 ≤ j → j < i → rd o j = rd p j * 4096 + rd q j) ?_ ?_ 0 H4 (by omega) (by omega) ⟨_, hS, by simp, fun j a b => by omega⟩
  · rintro i H1 i0 i1 ⟨o, hS, ho, hv⟩ hk
    have := hp.lt i0 i1
    have := hq.lt i0 (by omega)
    refine ev_eq (fun _ k _ => partition_Meet_1_eq k) (ev_pos i1 (ev_rdI (hs.le hS.le) i0 i1 (ev_rdI (ht.le hS.le) i0 (by omega) ?_)))
    rw [W_in (i := rd p i * 4096) (by omega) (by omega), W_in (i := rd p i * 4096 + rd q i) (by omega) (by omega), W_add i0 i1 (by omega)]
    refine sp_put (x := rd p i * 4096 + rd q i) hS hlo (fun _ => ⟨rfl, rfl⟩) i0 (by omega) fun H2 hS => hk H2 ⟨_, hS, by simpa using ho, fun j a b => ?_⟩
    rw [rd_set i0 (by omega) a]
    by_cases hj : j = i
    · rw [if_pos hj, hj]
    · rw [if_neg hj]; exact hv j a (by omega)
  · rintro H1 ⟨o, hS, ho, hv⟩
    have e : o = meetL p q := rd_ext (by simp [meetL, ho]) fun j a b => by
      unfold meetL; rw [rd_map a (by omega), show ((j.toNat : Nat) : Int) = j by omega]; exact hv j a (by omega)
    subst e
    refine ev_eq (fun _ k _ => partition_Meet_1_eq k) (ev_neg (by omega) (ev_call (partition_Canonical_ev (Nat.le_refl _) hS.row (by omega)) fun v H2 ⟨o, hS2, ho⟩ => ev_ret ⟨o, hS2.base hS.le, meetL_cl hp hq hl h4 ho⟩))
theorem green_firsts_ev {s : Sl} {p : List Int} {H : AH} {lo : Nat} (hlo : lo ≤ H.length) (hs : Row H s p) (hp : Cano p) (hl : p.length ≤ 4096) : Ev (fun ρ k κ => green_firsts k s lo H κ) (fun v H' => Sep H H' [own reI v (frs p)]) := by
  refine ev_eq (fun _ k _ => green_firsts_eq k) ?_
  rw [hs.len]
  refine ev_loop (α := Sl × AH) (g := fun i a ρ k κ => green_firsts_1 k a.1 s (p.length : Int) i lo a.2 κ) (p.length : Int) (fun i a => Sep H a.2 [own reI a.1 (sel (Fst p) 0 i.toNat)]) ?_ ?_ 0 (⟨none, 0⟩, H) (by omega) (by omega) ((Sep.nil H).nilS reI)
  · rintro i ⟨t, H1⟩ i0 i1 hS hk
    simp only at hS
    have hln := sel_len (P := Fst p) (i := 0) (m := i.toNat)
    refine ev_eq (fun _ k _ => green_firsts_1_eq k) (ev_pos i1 (ev_rdI (hs.le hS.le) i0 i1 ?_))
    rw [hS.len]
    refine ev_if (fun h => ?_) (fun h => ?_)
    · have hf := (hp.new i0 i1).1 h
      refine sp_app1 (x := i) hS hlo (fun _ => ⟨rfl, rfl⟩) (by omega) fun t' H' hS' => ev_eq (fun _ k _ => green_firsts_2_eq k) ?_
      rw [W_add i0 i1 (by omega)]
      exact hk (t', H') (hS'.eq (sel_snoc i0 hf))
    · have hf := fun x => h ((hp.new i0 i1).2 x)
      refine ev_eq (fun _ k _ => green_firsts_2_eq k) ?_
      rw [W_add i0 i1 (by omega)]
      exact hk (t, H1) (hS.eq (sel_skip i0 hf))
  · rintro ⟨t, H1⟩ hS
    exact ev_eq (fun _ k _ => green_firsts_1_eq k) (ev_neg (by omega) (ev_ret (show Sep H H1 [own reI t (sel (Fst p) 0 p.length)] by simpa using hS)))
end Go.Ab
