/- mult.generated and its closure: what they answer, and that the code does: walked by hand. No condition. -/
import Derived.Test.YtlhckcldeojfmaaKMultNeedsPAllx0
import Derived.Maps.OwnSet
import Derived.OneCell
namespace Go.Proofs.Ytlhckcldeojfmaa.PAll
open Go.RowKit Go.Proofs.YtlhckcldeojfmaaW.PrintWords
set_option linter.unusedVariables false
set_option linter.unusedSimpArgs false

/-- What the closure keeps: marks and a list, each in a captured variable. -/
structure PutInv (B g5 g6 : Nat) (bs : List Bool) (xs : List Int) (W : World) : Prop where
  l5 : B ≤ g5
  l6 : B ≤ g6
  in_ : ∃ v5, W.heap[g5]? = some (.cells #[v5] 54 (0, 0)) ∧ Kd.R Kd.bool 4 W B (fun _ => True) v5 bs
  li : ∃ v6, W.heap[g6]? = some (.cells #[v6] 30 (0, 0)) ∧ Kd.R (Kd.int .i64) 3 W B (fun _ => True) v6 xs
def putB (bs : List Bool) (x : Int) : List Bool := if rdOf false bs x = true then bs else bs.set x.toNat true
def putL (bs : List Bool) (xs : List Int) (x : Int) : List Int := if rdOf false bs x = true then xs else xs ++ [x]
theorem hand_info3g : (Try.prog.info? 3).map (fun i => (i.zero, i.size, i.bytes)) = some (some (.int .i64 0), 1, 8) := by kernel_rfl
theorem hand_ne {α : Type} {d : Kd α} {e t g : Nat} {W : World} {B : Nat} {ok : Nat → Prop} {v u : Value} {xs : List α} (h : d.R e W B ok v xs) (hb : W.heap[g]? = some (.cells #[u] t (0, 0))) (ht : e ≠ t) : some g ≠ v.ownBlock := by
  intro he
  obtain ⟨cells, hc⟩ := Kd.R_typed h g he.symm
  rw [hc] at hb
  injection hb with hb
  injection hb with _ hb
  exact ht hb

set_option maxHeartbeats 4000000 in
set_option maxRecDepth 100000 in
theorem put_calls {B g5 g6 : Nat} {bs : List Bool} {xs : List Int} {w : World} (inv : PutInv B g5 g6 bs xs w) {x : Int} (x0 : 0 ≤ x) (x1 : x < (bs.length : Int)) (hn : xs.length < 17592186044415) :
    Calls Try.prog 77 #[.int .i64 x, .pointer (some ⟨g5, 0, none⟩), .pointer (some ⟨g6, 0, none⟩)] w fun e w' => e = .returned (.tuple #[]) ∧ PutInv B g5 g6 (putB bs x) (putL bs xs x) w' ∧ Below B w w' := by
  have inv0 := inv
  obtain ⟨l5, l6, ⟨v5, hb5, HO5⟩, ⟨v6, hb6, HO6⟩⟩ := inv
  obtain ⟨gi, ci, e5, bi, li, cli, hci⟩ := Kd.R_form HO5 (by omega)
  subst e5
  have hc5 : w.cell? ⟨g5, 0, none⟩ = some (.slice (some ⟨gi, 0, none⟩) bs.length ci) := (blk_cell hb5 0).trans rfl
  obtain ⟨hx1, hf1⟩ := Kd.R_celln false HO5 x x0 (by omega)
  have hd0 : decide (0 ≤ x) = true := decide_eq_true x0
  have hd1 : decide (x < (bs.length : Int)) = true := decide_eq_true x1
  by_cases hin : rdOf false bs x = true
  · rw [hin] at hx1
    go_enter Try.func77, Try.ntmps77
    go_wp2
    go_end0
    refine ⟨rfl, ?_, Below.refl _ _⟩
    unfold putB putL
    rw [if_pos hin, if_pos hin]
    exact inv0
  · have hin' : rdOf false bs x = false := by simpa using hin
    rw [hin'] at hx1
    have hgi5 : gi ≠ g5 := fun e => by subst e; exact hand_ne HO5 hb5 (by decide) rfl
    have hgi6 : gi ≠ g6 := fun e => by subst e; exact hand_ne HO5 hb6 (by decide) rfl
    have HF1 := Aside0.mk hf1
    clear hf1
    go_enter Try.func77, Try.ntmps77
    go_wp2_with (first
      | ((with_reducible refine gate_store (t := 4) (p := 11) rfl ?_); refine store_event (t := 4) (p := 11) (v := ?vo_) (w1 := w.setCell ⟨gi, x.toNat, none⟩ (.bool true)) ?hg ?ho ?hn ?hr ?_; (case ho => rfl); (case hg => rfl); (case hn => rfl); (case hr => have hf1 := HF1.out; first | (go_simp; done) | (go_simp; rfl)); intro w2 hw; have HP := Kd.R_putn HO5 x true; have HG2 := (Kd.R_putg HO5 x true).2; rw [← show w2 = w.setCell ⟨gi, x.toNat, none⟩ (.bool true) from hw] at HP HG2; have hb5' := blk_grown hb5 HG2 (by intro e; injection e with e; exact hgi5 e.symm); have hb6' := blk_grown hb6 HG2 (by intro e; injection e with e; exact hgi6 e.symm); have HO6' := Kd.R_over' (v := .slice (some ⟨gi, 0, none⟩) bs.length ci) HO6 (Kd.R_typed HO5) (by decide) HG2; have HB2 : Below B w w2 := hw ▸ (Below.refl B w).setCell bi _; have hc6 : w2.cell? ⟨g6, 0, none⟩ = some v6 := (blk_cell hb6' 0).trans rfl; have hl6 := blk_lt hb6'; clear hw)
      | ((with_reducible refine gate_builtin (b := .append) (xs := #[.tmp 12, .tmp 14]) rfl ?_); at_builtin; refine Kd.R_append (Kd.int .i64) (w0 := w) B rfl (.tmp 12) (.tmp 14) 30 3 (.int .i64 0) 8 rfl Try.underlying30 hand_info3g rfl (by decide) (by omega) v6 xs x [.int .i64 x] (fun _ => True) (fun _ => False) rfl rfl ?aP (fun _ hk => hk.elim) ?aF ?aO ?aB ?aS ?aL ?_; (case aP => exact rfl); (case aB => exact HB2); (case aF => exact (fun _ _ => trivial)); (case aO => exact HO6'); (case aS => omega); (case aL => omega); intro v1 w3 ho hb hg hat; obtain ⟨A7, c7, rfl⟩ := Kd.R_slice ho; simp only [List.length_append, List.length_cons, List.length_nil, Nat.zero_add] at ho; have hb6'' := blk_grown hb6' hg (hand_ne HO6 hb6 (by decide)); have hb5'' := blk_grown hb5' hg (hand_ne HO6 hb5 (by decide)); have hin3 := Kd.R_over' (v := v6) HP (Kd.R_typed HO6') (by decide) hg; have hc7 : w3.cell? ⟨g6, 0, none⟩ = some v6 := (blk_cell hb6'' 0).trans rfl; have hf7 := blk_frozen hb6'' 0))
    go_end0
    refine ⟨rfl, ?_, hb.setCell l6 _⟩
    unfold putB putL
    rw [if_neg hin, if_neg hin]
    have hne : g5 ≠ g6 := blk_ne hb5 hb6 (by decide)
    refine ⟨l5, l6, ⟨_, (Below.heap_setCell _ _ _ _ hne).trans hb5'', ?_⟩, ⟨_, one_setCell hb6'', ?_⟩⟩
    · exact Kd.R_mono (Kd.R_far (Kd.R_types hin3 hb6'' (by decide)) (fun k hk => hk.2) _) (fun _ _ => trivial)
    · exact Kd.R_mono (Kd.R_far (Kd.R_types ho hb6'' (by decide)) (fun k hk => hk.2) _) (fun _ _ => trivial)

abbrev GS := List Bool × List Int
def put1 (s : GS) (x : Int) : GS := (putB s.1 x, putL s.1 s.2 x)
def gen0 (n : Nat) (l : List Int) : Nat → GS
  | 0 => (List.replicate n false, [])
  | k + 1 => put1 (gen0 n l k) (rd l k)
def genI (t : List (List Int)) (l : List Int) (s : GS) (i : Nat) : Nat → GS
  | 0 => s
  | j + 1 => put1 (genI t l s i j) (rd (rd_L1 t (rd (genI t l s i j).2 i)) (rd l j))
def genR (t : List (List Int)) (l : List Int) : Nat → GS
  | 0 => gen0 t.length l l.length
  | i + 1 => genI t l (genR t l i) i l.length
def genF (t : List (List Int)) (l : List Int) : Nat → Nat → List Bool
  | 0, i => (genR t l i).1
  | f + 1, i => if i < (genR t l i).2.length then genF t l f (i + 1) else (genR t l i).1
def trues (b : List Bool) : Nat → List Int
  | 0 => []
  | k + 1 => if rdOf false b k = true then trues b k ++ [(k : Int)] else trues b k
def genOk (t : List (List Int)) (l : List Int) : Prop := t.length ≤ 400 ∧ (∀ v ∈ t, v.length = t.length ∧ ∀ u ∈ v, 0 ≤ u ∧ u < (t.length : Int)) ∧ (∀ g ∈ l, 0 ≤ g ∧ g < (t.length : Int)) ∧ l.length ≤ 9223372036854775807
instance (t : List (List Int)) (l : List Int) : Decidable (genOk t l) := by unfold genOk; exact inferInstance
def mult_generated.f (l0 : List (List Int)) (l1 : List Int) : Option (List Int) := if genOk l0 l1 then some (trues (genF l0 l1 (l0.length + 1) 0) l0.length) else none

/-- Sound: marks for all elements, no more listed than marked. -/
structure GI (n : Nat) (s : GS) : Prop where
  len : s.1.length = n
  el : ∀ x ∈ s.2, 0 ≤ x ∧ x < (n : Int)
  cnt : s.2.length + s.1.count false ≤ n
theorem count_set {b : List Bool} {i : Nat} (hi : i < b.length) (h : b.getD i false = false) : (b.set i true).count false + 1 = b.count false := by
  have h' : b[i] = false := by
    rw [List.getD_eq_getElem?_getD] at h
    simpa [hi] using h
  clear h
  induction b generalizing i with
  | nil => simp at hi
  | cons a b ih =>
    cases i with
    | zero =>
      simp at h'
      subst h'
      simp
    | succ j =>
      simp only [List.set_cons_succ, List.count_cons]
      have := ih (i := j) (by simpa using hi) (by simpa using h')
      omega
theorem put1_ok {n : Nat} {s : GS} (h : GI n s) {x : Int} (x0 : 0 ≤ x) (x1 : x < (n : Int)) : GI n (put1 s x) ∧ s.2.length ≤ (put1 s x).2.length := by
  have hl := h.len
  by_cases hin : rdOf false s.1 x = true
  · unfold put1 putB putL
    rw [if_pos hin, if_pos hin]
    exact ⟨h, Nat.le_refl _⟩
  · have hc := count_set (b := s.1) (i := x.toNat) (by omega) (by unfold rdOf at hin; simpa using hin)
    have := h.cnt
    unfold put1 putB putL
    rw [if_neg hin, if_neg hin]
    refine ⟨⟨by simpa using hl, fun y hy => ?_, by simp; omega⟩, by simp⟩
    rcases List.mem_append.1 hy with hy | hy
    · exact h.el y hy
    · have : y = x := by simpa using hy
      omega
theorem hand_rd {l : List Int} {k : Nat} (h : k < l.length) : rd l k ∈ l := by
  unfold rd
  rw [List.getD_eq_getElem?_getD, List.getElem?_eq_getElem (by omega), Option.getD_some]
  exact List.getElem_mem _
theorem hand_rows {t : List (List Int)} {x : Int} (h0 : 0 ≤ x) (h1 : x < (t.length : Int)) : rd_L1 t x ∈ t := by
  unfold rd_L1
  rw [List.getD_eq_getElem?_getD, List.getElem?_eq_getElem (by omega), Option.getD_some]
  exact List.getElem_mem _
section
variable {t : List (List Int)} {l : List Int}
theorem gen0_ok (h : genOk t l) : ∀ k, k ≤ l.length → GI t.length (gen0 t.length l k)
  | 0, _ => ⟨by simp [gen0], by simp [gen0], by simp [gen0]⟩
  | k + 1, hk => (put1_ok (gen0_ok h k (by omega)) (h.2.2.1 _ (hand_rd (by omega))).1 (h.2.2.1 _ (hand_rd (by omega))).2).1
theorem prod_ok (h : genOk t l) {s : GS} (hs : GI t.length s) {i j : Nat} (hi : i < s.2.length) (hj : j < l.length) :
    (0 ≤ rd s.2 i ∧ rd s.2 i < (t.length : Int)) ∧ (rd_L1 t (rd s.2 i)).length = t.length ∧ 0 ≤ rd (rd_L1 t (rd s.2 i)) (rd l j) ∧ rd (rd_L1 t (rd s.2 i)) (rd l j) < (t.length : Int) := by
  have h1 := hs.el _ (hand_rd hi)
  have h2 := h.2.1 _ (hand_rows h1.1 h1.2)
  have h3 := h.2.2.1 _ (hand_rd hj)
  refine ⟨h1, h2.1, ?_⟩
  have := h2.2 (rd (rd_L1 t (rd s.2 i)) ((rd l j).toNat : Nat)) (hand_rd (by omega))
  rwa [show (((rd l j).toNat : Nat) : Int) = rd l j by omega] at this
theorem genI_ok (h : genOk t l) {s : GS} (hs : GI t.length s) {i : Nat} (hi : i < s.2.length) : ∀ j, j ≤ l.length → GI t.length (genI t l s i j) ∧ s.2.length ≤ (genI t l s i j).2.length
  | 0, _ => ⟨hs, Nat.le_refl _⟩
  | j + 1, hj => by
    obtain ⟨a, b⟩ := genI_ok h hs hi j (by omega)
    have hp := prod_ok h a (i := i) (j := j) (by omega) (by omega)
    obtain ⟨c, d⟩ := put1_ok a hp.2.2.1 hp.2.2.2
    exact ⟨c, by show _ ≤ (put1 _ _).2.length; omega⟩
theorem genR_ok (h : genOk t l) : ∀ k, (∀ j, j < k → j < (genR t l j).2.length) → GI t.length (genR t l k)
  | 0, _ => gen0_ok h _ (Nat.le_refl _)
  | k + 1, hj => (genI_ok h (genR_ok h k (fun j a => hj j (by omega))) (hj k (by omega)) _ (Nat.le_refl _)).1
theorem genF_at : ∀ m f i, (∀ j, i ≤ j → j < i + m → j < (genR t l j).2.length) → genF t l (m + f) i = genF t l f (i + m)
  | 0, f, i, _ => by simp
  | m + 1, f, i, h => by
    rw [show m + 1 + f = (m + f) + 1 by omega]
    show (if i < (genR t l i).2.length then genF t l (m + f) (i + 1) else (genR t l i).1) = _
    rw [if_pos (h i (by omega) (by omega)), genF_at m f (i + 1) (fun j a b => h j (by omega) (by omega))]
    congr 1
    omega
theorem genF_end (hok : genOk t l) {k : Nat} (h : ∀ j, j < k → j < (genR t l j).2.length) (hk : ¬ k < (genR t l k).2.length) : k ≤ t.length ∧ genF t l (t.length + 1) 0 = (genR t l k).1 := by
  have hle : k ≤ t.length := by
    cases k with
    | zero => omega
    | succ k =>
      have h1 := h k (by omega)
      have := (genR_ok hok k (fun j a => h j (by omega))).cnt
      omega
  refine ⟨hle, ?_⟩
  have := genF_at (t := t) (l := l) k (t.length + 1 - k) 0 (fun j _ b => h j (by omega))
  rw [show k + (t.length + 1 - k) = t.length + 1 by omega] at this
  rw [this, show t.length + 1 - k = (t.length - k) + 1 by omega, Nat.zero_add]
  show (if k < (genR t l k).2.length then _ else (genR t l k).1) = _
  rw [if_neg hk]
end

theorem trues_len (b : List Bool) : ∀ k, (trues b k).length ≤ k
  | 0 => Nat.le_refl _
  | k + 1 => by
    have := trues_len b k
    unfold trues
    split <;> simp <;> omega
theorem hand_info4g : (Try.prog.info? 4).map (fun i => (i.zero, i.size, i.bytes)) = some (some (.bool false), 1, 1) := by kernel_rfl
set_option maxHeartbeats 4000000 in
set_option maxRecDepth 100000 in
theorem mult_generated.calls (A0 : Option Addr) (c0 : Nat) (l0 : List (List Int)) (A1 : Option Addr) (c1 : Nat) (l1 : List Int) (r : List Int) (w : World) (hr0 : Kd.C (Kd.slice 3 (Kd.int .i64)) w A0 l0.length l0) (hc0 : l0.length ≤ c0) (hr1 : Kd.C (Kd.int .i64) w A1 l1.length l1) (hc1 : l1.length ≤ c1) (h : mult_generated.f l0 l1 = some r) :
    Calls Try.prog 74 #[.slice A0 l0.length c0, .slice A1 l1.length c1] w fun e w' => ∃ v0_ : Value, e = .returned v0_ ∧ Kd.R (Kd.int .i64) 3 w' w.heap.size (fun _ => True) v0_ r ∧ Below w.heap.size w w' := by
  have HR0 := Aside0.mk hr0
  have HR1 := Aside0.mk hr1
  clear hr0 hr1
  unfold mult_generated.f at h
  by_cases hok : genOk l0 l1
  · rw [if_pos hok] at h
    have hr := Option.some.inj h
    clear h
    have OK := Aside0.mk hok
    have hn4 : l0.length ≤ 400 := hok.1
    have hg6 : l1.length ≤ 9223372036854775807 := hok.2.2.2
    clear hok
    go_enter Try.func74, Try.ntmps74
    go_wp2_with (first
      | ((with_reducible refine gate_dst (N := 18) rfl ?_); refine Kd.R_make Kd.bool w.heap.size 4 rfl (N := 18) rfl 54 _ _ rfl (l0.length : Int) rfl rfl Try.underlying54 (.bool false) 1 hand_info4g rfl (by decide) (by omega) false (ok := fun _ => True) (okp := fun _ => True) rfl (fun _ hk => hk) trivial (by omega) (by omega) (Below.refl _ _) (Nat.le_refl _) ?_; intro v1 w1 ho1 hb1 hgr1 hnew; obtain ⟨A5, c5, rfl⟩ := Kd.R_slice ho1; simp only [List.length_replicate, Int.toNat_natCast] at ho1 ⊢; have hs1 := hb1.size)
      | ((with_reducible refine gate_dst (N := 5) rfl ?_); refine box_event ?hg (N := 5) ?hd (cs := #[.slice none 0 0]) (t := 54) ?hr ?_; (case hd => rfl); (case hg => rfl); (case hr => first | (go_simp; done) | (go_simp; rfl)); intro g5 hg5 w2 hbx5 hbl5; have hb2 := below_step hb1 hbl5; have ho2 := Kd.R_below ho1 hbl5; have hs2 := hb2.size; have hl5 : w.heap.size ≤ g5 := (by omega); clear hg5)
      | ((with_reducible refine gate_store (t := 54) (p := 5) rfl ?_); refine store_event (t := 54) (p := 5) (v := ?vo_) (w1 := w2.setCell ⟨g5, 0, none⟩ (.slice A5 l0.length c5)) ?hg ?ho ?hn ?hr ?_; (case ho => rfl); (case hg => rfl); (case hn => rfl); (case hr => have hc_ : w2.cell? ⟨g5, 0, none⟩ = some (.slice none 0 0) := (blk_cell hbx5 0).trans rfl; have hf_ := blk_frozen hbx5 0; first | (go_simp; done) | (go_simp; rfl)); intro w3 hw3; have hb3 : Below w.heap.size w w3 := hw3 ▸ hb2.setCell hl5 _; have ho3 : Kd.R Kd.bool 4 w3 w.heap.size (fun _ => True) (.slice A5 l0.length c5) (List.replicate l0.length false) := hw3 ▸ Kd.R_mono (Kd.R_far (Kd.R_types ho2 hbx5 (by decide)) (fun k hk => hk.2) _) (fun _ _ => trivial); have hbx3 : w3.heap[g5]? = some (.cells #[.slice A5 l0.length c5] 54 (0, 0)) := hw3 ▸ one_setCell hbx5; have hs3 := hb3.size; clear hw3)
      | ((with_reducible refine gate_dst (N := 6) rfl ?_); refine box_event ?hg (N := 6) ?hd (cs := #[.slice none 0 0]) (t := 30) ?hr ?_; (case hd => rfl); (case hg => rfl); (case hr => first | (go_simp; done) | (go_simp; rfl)); intro g6 hg6_ w4 hbx6 hbl6; have hb4 := below_step hb3 hbl6; have hl6 : w.heap.size ≤ g6 := (by omega); clear hg6_; have INV := Aside0.mk (show PutInv w.heap.size g5 g6 (List.replicate l0.length false) [] w4 from ⟨hl5, hl6, ⟨_, (hbl6.block _ (blk_lt hbx3)).trans hbx3, Kd.R_below ho3 hbl6⟩, ⟨_, hbx6, Kd.R_nil _ _ _ _ _⟩⟩)))
    go_loopw [22] (fun i wr => ∃ k : Nat, k ≤ l1.length ∧ i = .int .i64 k ∧ Aside0 (PutInv w.heap.size g5 g6 (gen0 l0.length l1 k).1 (gen0 l0.length l1 k).2 wr) ∧ Below w.heap.size w wr)
      (fun i _ => l1.length - (intOf i).toNat)
    case atStart => exact ⟨0, Nat.zero_le _, rfl, INV, hb4⟩
    case round =>
      clear ho1 hb1 hgr1 hnew hbx5 hbl5 ho2 hb2 hb3 ho3 hbx3 hbx6 hbl6 INV
      obtain ⟨k, hk, rfl, HI, hnx⟩ := hrel
      by_cases hkl : k < l1.length
      · have hdec : decide ((k : Int) < (l1.length : Int)) = true := decide_eq_true (by omega)
        obtain ⟨ad, e0, hx0⟩ := Kd.at_int HR1.out (k : Int) (by omega) (by omega)
        cases e0
        simp only [Int.toNat_natCast] at hx0
        replace hx0 := (hnx.cell (World.block_lt_of_cell? w _ hx0)).trans hx0
        have hgi := gen0_ok OK.out k (by omega)
        have hge := OK.out.2.2.1 _ (hand_rd hkl)
        have hgc := hgi.cnt
        have hgl := hgi.len
        go_wp2_with (go_at_call 77; refine (put_calls HI.out hge.1 (by omega) (by omega)).mono ?_; rintro e w5 ⟨rfl, hinv, hbel⟩)
        go_roundw
        case rel => exact ⟨k + 1, by omega, by go_num, ⟨hinv⟩, hnx.trans hbel⟩
        case measure => simp [intOf]; omega
      · have hke : k = l1.length := by omega
        subst hke
        have hdec : decide ((l1.length : Int) < (l1.length : Int)) = false := decide_eq_false (by omega)
        clear hdec
        go_wp2
        go_loopw [10] (fun i wr => ∃ k : Nat, i = .int .i64 k ∧ (∀ j, j < k → j < (genR l0 l1 j).2.length) ∧ Aside0 (PutInv w.heap.size g5 g6 (genR l0 l1 k).1 (genR l0 l1 k).2 wr) ∧ Below w.heap.size w wr)
          (fun i _ => l0.length - (intOf i).toNat)
        case atStart => exact ⟨0, rfl, fun j a => absurd a (by omega), HI, hnx⟩
        case round =>
          clear HI hnx
          obtain ⟨k, rfl, hall, HI, hnx⟩ := hrel
          have hgi := genR_ok OK.out k hall
          have hgc := hgi.cnt
          have hgl := hgi.len
          obtain ⟨l5_, l6_, ⟨v5, hb5, HO5⟩, ⟨v6, hb6, HO6⟩⟩ := HI.out
          obtain ⟨A6, c6, rfl⟩ := Kd.R_slice HO6
          obtain ⟨A5', c5', rfl⟩ := Kd.R_slice HO5
          have hc6 : wr.cell? ⟨g6, 0, none⟩ = some (.slice A6 (genR l0 l1 k).2.length c6) := (blk_cell hb6 0).trans rfl
          have hc5 : wr.cell? ⟨g5, 0, none⟩ = some (.slice A5' (genR l0 l1 k).1.length c5') := (blk_cell hb5 0).trans rfl
          by_cases hkl : k < (genR l0 l1 k).2.length
          · have hdec : decide ((k : Int) < ((genR l0 l1 k).2.length : Int)) = true := decide_eq_true (by omega)
            clear HO5 HO6 hb5 hb6 hc5
            go_wp2
            go_loopw [38] (fun i wr => ∃ j : Nat, j ≤ l1.length ∧ i = .int .i64 j ∧ Aside0 (PutInv w.heap.size g5 g6 (genI l0 l1 (genR l0 l1 k) k j).1 (genI l0 l1 (genR l0 l1 k) k j).2 wr) ∧ Below w.heap.size w wr)
              (fun i _ => l1.length - (intOf i).toNat)
            case atStart => exact ⟨0, Nat.zero_le _, rfl, HI, hnx⟩
            case round =>
              clear HI hnx hc6 hdec
              obtain ⟨j, hj, rfl, HI, hnx⟩ := hrel
              by_cases hjl : j < l1.length
              · obtain ⟨hgi2, hge2⟩ := genI_ok OK.out hgi hkl j hj
                have hgc2 := hgi2.cnt
                have hgl2 := hgi2.len
                obtain ⟨hpe, hpl, hp0, hp1⟩ := prod_ok OK.out hgi2 (i := k) (j := j) (by omega) hjl
                have hgg := OK.out.2.2.1 _ (hand_rd hjl)
                obtain ⟨l5_, l6_, ⟨v5, hb5, HO5⟩, ⟨v6, hb6, HO6⟩⟩ := HI.out
                obtain ⟨gq, cq, e6, bq, lq, clq, hq⟩ := Kd.R_form HO6 (by omega)
                subst e6
                have hc6 : wr.cell? ⟨g6, 0, none⟩ = some (.slice (some ⟨gq, 0, none⟩) (genI l0 l1 (genR l0 l1 k) k j).2.length cq) := (blk_cell hb6 0).trans rfl
                obtain ⟨hx6, hf6⟩ := Kd.R_celln 0 HO6 (k : Int) (by omega) (by omega)
                simp only [Int.toNat_natCast] at hx6
                obtain ⟨ad, e0, hx0⟩ := Kd.at_int HR1.out (j : Int) (by omega) (by omega)
                cases e0
                simp only [Int.toNat_natCast] at hx0
                replace hx0 := (hnx.cell (World.block_lt_of_cell? w _ hx0)).trans hx0
                have hgen : genI l0 l1 (genR l0 l1 k) k (j + 1) = put1 (genI l0 l1 (genR l0 l1 k) k j) (rd (rd_L1 l0 (rd (genI l0 l1 (genR l0 l1 k) k j).2 k)) (rd l1 j)) := rfl
                replace hx6 : wr.cell? ⟨gq, k, none⟩ = some (.int .i64 (rd (genI l0 l1 (genR l0 l1 k) k j).2 k)) := hx6
                generalize rd (genI l0 l1 (genR l0 l1 k) k j).2 (k : Int) = X at hpe hpl hp0 hp1 hgen hx6
                generalize rd l1 (j : Int) = Y at hp0 hp1 hgen hx0 hgg
                obtain ⟨adt, At, ct, et, hxt, hlt, hit⟩ := at_L1 HR0.out X hpe.1 hpe.2
                cases et
                replace hxt := (hnx.cell (World.block_lt_of_cell? w _ hxt)).trans hxt
                obtain ⟨adr, er, hxr⟩ := Kd.at_int hit Y hgg.1 (by omega)
                cases er
                replace hxr := (hnx.cell (World.block_lt_of_cell? w _ hxr)).trans hxr
                generalize rd (rd_L1 l0 X) Y = Z at hp0 hp1 hgen hxr
                rw [hpl] at hxt
                have hdec : decide ((j : Int) < (l1.length : Int)) = true := decide_eq_true (by omega)
                have hX0 : decide (0 ≤ X) = true := decide_eq_true hpe.1
                have hX1 : decide (X < (l0.length : Int)) = true := decide_eq_true hpe.2
                have hY0 : decide (0 ≤ Y) = true := decide_eq_true hgg.1
                have hY1 : decide (Y < (l0.length : Int)) = true := decide_eq_true hgg.2
                have hX2 := hpe.1
                have hX3 := hpe.2
                have hY2 := hgg.1
                have hY3 := hgg.2
                have hkk : (k : Int) < ((genI l0 l1 (genR l0 l1 k) k j).2.length : Int) := by omega
                have hkd : decide ((k : Int) < ((genI l0 l1 (genR l0 l1 k) k j).2.length : Int)) = true := decide_eq_true hkk
                go_wp2_with (go_at_call 77; refine (put_calls HI.out hp0 (by omega) (by omega)).mono ?_; rintro e w5 ⟨rfl, hinv, hbel⟩)
                go_roundw
                case rel => exact ⟨j + 1, by omega, by go_num, ⟨by rw [hgen]; exact hinv⟩, hnx.trans hbel⟩
                case measure => simp [intOf]; omega
              · have hke : j = l1.length := by omega
                subst hke
                have hdec : decide ((l1.length : Int) < (l1.length : Int)) = false := decide_eq_false (by omega)
                go_wp2
                go_roundw
                case rel =>
                  refine ⟨k + 1, by go_num, fun j a => ?_, HI, hnx⟩
                  by_cases hjk : j = k
                  · rw [hjk]; exact hkl
                  · exact hall j (by omega)
                case measure => simp [intOf]; omega
          · have hdec : decide ((k : Int) < ((genR l0 l1 k).2.length : Int)) = false := decide_eq_false (by omega)
            obtain ⟨hkn, hend⟩ := genF_end OK.out hall hkl
            rw [hend] at hr
            clear hall hend HO6 hb6
            generalize hbs : (genR l0 l1 k).1 = bs at *
            rw [hgl] at hc5 HO5
            go_wp2
            go_loopw [13, 57] (fun v i wr => ∃ q : Nat, q ≤ l0.length ∧ i = .int .i64 q ∧ Aside0 (Kd.R (Kd.int .i64) 3 wr w.heap.size (fun _ => True) v (trues bs q)) ∧ Aside0 (Kd.R Kd.bool 4 wr w.heap.size (fun _ => True) (.slice A5' l0.length c5') bs) ∧ Below w.heap.size w wr)
              (fun _ i _ => l0.length - (intOf i).toNat)
            case atStart => exact ⟨0, Nat.zero_le _, rfl, ⟨Kd.R_nil _ _ _ _ _⟩, ⟨HO5⟩, hnx⟩
            case round =>
              clear HI hnx HO5 hc5 hc6 hb5
              obtain ⟨q, hq, rfl, HT, HBv, hnx⟩ := hrel
              by_cases hql : q < l0.length
              · have hdec : decide ((q : Int) < (l0.length : Int)) = true := decide_eq_true (by omega)
                obtain ⟨gq, cq, eq_, bq, lq, clq, hq_⟩ := Kd.R_form HBv.out (by omega)
                rw [hgl] at eq_
                cases eq_
                obtain ⟨hx7, hf7⟩ := Kd.R_celln false HBv.out (q : Int) (by omega) (by omega)
                simp only [Int.toNat_natCast] at hx7
                have htl := trues_len bs q
                by_cases hin : rdOf false bs (q : Int) = true
                · rw [hin] at hx7
                  have htr : trues bs (q + 1) = trues bs q ++ [(q : Int)] := by show (if _ then _ else _) = _; rw [if_pos hin]
                  go_wp2_with ((with_reducible refine gate_builtin (b := .append) (xs := #[.tmp 63, .tmp 65]) rfl ?_); at_builtin; refine Kd.R_append (Kd.int .i64) (w0 := w) w.heap.size rfl (.tmp 63) (.tmp 65) 30 3 (.int .i64 0) 8 rfl Try.underlying30 hand_info3g rfl (by decide) (by omega) u13 (trues bs q) (q : Int) [.int .i64 (q : Int)] (fun _ => True) (fun _ => False) rfl rfl ?aP (fun _ hk => hk.elim) ?aF ?aO ?aB ?aS ?aL ?_; (case aP => exact rfl); (case aB => exact hnx); (case aF => exact (fun _ _ => trivial)); (case aO => exact HT.out); (case aS => exact hnx.size); (case aL => omega); intro v8 w8 ho8 hb8 hg8 hat8)
                  go_roundw
                  case rel => exact ⟨q + 1, by omega, by go_num, ⟨by rw [htr]; exact ho8⟩, ⟨Kd.R_over' (v := u13) HBv.out (Kd.R_typed HT.out) (by decide) hg8⟩, hb8⟩
                  case measure => simp [intOf]; omega
                · have hin' : rdOf false bs (q : Int) = false := by simpa using hin
                  rw [hin'] at hx7
                  have htr : trues bs (q + 1) = trues bs q := by show (if _ then _ else _) = _; rw [if_neg hin]
                  go_wp2
                  go_roundw
                  case rel => exact ⟨q + 1, by omega, by go_num, ⟨by rw [htr]; exact HT.out⟩, HBv, hnx⟩
                  case measure => simp [intOf]; omega
              · have hqe : q = l0.length := by omega
                subst hqe
                have hdec : decide ((l0.length : Int) < (l0.length : Int)) = false := decide_eq_false (by omega)
                go_wp2
                go_ret
                subst hr
                exact ⟨_, rfl, HT.out, hnx⟩
  · rw [if_neg hok] at h
    cases h
end Go.Proofs.Ytlhckcldeojfmaa.PAll
