/- Green's relations: the classes. What they answer. No condition but that a table comes in. -/
import Derived.Test.YtmdndoghdbhipaaRGreenInvertsF9
set_option linter.unusedVariables false
set_option linter.unusedSimpArgs false
namespace Go.Ab
open Go
/-- The classes that were numbered before x, n of them. -/
structure MuI (N : Nat) (E : Int → Int → Prop) (o : List Int) (x n : Int) : Prop where
  len : o.length = N
  n0 : 0 ≤ n ∧ n ≤ x
  lt : ∀ j : Int, 0 ≤ j → j < N → -1 ≤ rd o j ∧ rd o j < n
  done : ∀ j : Int, 0 ≤ j → j < N → (0 ≤ rd o j ↔ ∃ x' : Int, 0 ≤ x' ∧ x' < x ∧ E x' j)
  eqv : ∀ j j' : Int, 0 ≤ j → j < N → 0 ≤ j' → j' < N → 0 ≤ rd o j → 0 ≤ rd o j' → (rd o j = rd o j' ↔ E j j')
  all : ∀ c : Int, 0 ≤ c → c < n → ∃ x' : Int, 0 ≤ x' ∧ x' < x ∧ rd o x' = c
  can : ∀ j : Int, 0 ≤ j → j < N → ∀ c : Int, 0 ≤ c → c < rd o j → ∃ j' : Int, 0 ≤ j' ∧ j' < j ∧ rd o j' = c
theorem MuI.skip {N : Nat} {E : Int → Int → Prop} (hE : Eqv N E) {o : List Int} {x n : Int} (h : MuI N E o x n) (x0 : 0 ≤ x) (x1 : x < N) (hx : 0 ≤ rd o x) : MuI N E o (x + 1) n := by
  have := h.n0
  refine ⟨h.len, by omega, h.lt, fun j a b => (h.done j a b).trans ⟨fun ⟨x', p, q, r⟩ => ⟨x', p, by omega, r⟩, fun ⟨x', p, q, r⟩ => ?_⟩, h.eqv, fun c a b => ?_, h.can⟩
  · by_cases hxx : x' = x
    · obtain ⟨y, y0, y1, y2⟩ := (h.done x x0 x1).1 hx
      exact ⟨y, y0, y1, hE.trans y x j y0 (by omega) x0 x1 a b y2 (hxx ▸ r)⟩
    · exact ⟨x', p, by omega, r⟩
  · obtain ⟨x', p, q, r⟩ := h.all c a b
    exact ⟨x', p, by omega, r⟩
theorem MuI.new {N : Nat} {E : Int → Int → Prop} (hE : Eqv N E) {o o' : List Int} {x n : Int} (h : MuI N E o x n) (x0 : 0 ≤ x) (x1 : x < N) (hx : ¬ 0 ≤ rd o x) (hl : o'.length = N) (ho : ∀ j : Int, 0 ≤ j → j < N → (x ≤ j ∧ E x j ∧ rd o' j = n) ∨ (¬ (x ≤ j ∧ E x j) ∧ rd o' j = rd o j)) : MuI N E o' (x + 1) (n + 1) := by
  have hn := h.n0
  have hno : ∀ j : Int, 0 ≤ j → j < N → E x j → ¬ 0 ≤ rd o j := fun j a b e hj => by
    obtain ⟨y, y0, y1, y2⟩ := (h.done j a b).1 hj
    exact hx ((h.done x x0 x1).2 ⟨y, y0, y1, hE.trans y j x y0 (by omega) a b x0 x1 y2 (hE.symm x j x0 x1 a b e)⟩)
  have hlt : ∀ j : Int, 0 ≤ j → j < N → E x j → x ≤ j := fun j a b e => Classical.byContradiction fun hn => hno j a b e ((h.done j a b).2 ⟨j, a, by omega, hE.refl j a b⟩)
  have ho' : ∀ j : Int, 0 ≤ j → j < N → (E x j ∧ rd o' j = n) ∨ (¬ E x j ∧ rd o' j = rd o j) := fun j a b => by
    rcases ho j a b with ⟨p, q, r⟩ | ⟨p, q⟩
    · exact .inl ⟨q, r⟩
    · exact .inr ⟨fun e => p ⟨hlt j a b e, e⟩, q⟩
  refine ⟨hl, by omega, fun j a b => ?_, fun j a b => ?_, fun j j' a b a' b' c d => ?_, fun c a b => ?_, fun j a b c c0 c1 => ?_⟩
  · have := h.lt j a b
    rcases ho' j a b with ⟨_, e⟩ | ⟨_, e⟩ <;> omega
  · rcases ho' j a b with ⟨e, e'⟩ | ⟨e, e'⟩
    · exact ⟨fun _ => ⟨x, x0, by omega, e⟩, fun _ => by omega⟩
    · rw [e', h.done j a b]
      refine ⟨fun ⟨x', p, q, r⟩ => ⟨x', p, by omega, r⟩, fun ⟨x', p, q, r⟩ => ⟨x', p, ?_, r⟩⟩
      by_cases hxx : x' = x
      · exact absurd (hxx ▸ r) e
      · omega
  · rcases ho' j a b with ⟨e1, e2⟩ | ⟨e1, e2⟩ <;> rcases ho' j' a' b' with ⟨f1, f2⟩ | ⟨f1, f2⟩
    · exact ⟨fun _ => hE.trans j x j' a b x0 x1 a' b' (hE.symm x j x0 x1 a b e1) f1, fun _ => by omega⟩
    · have := h.lt j' a' b'
      exact ⟨fun _ => by omega, fun e => absurd (hE.trans x j j' x0 x1 a b a' b' e1 e) f1⟩
    · have := h.lt j a b
      exact ⟨fun _ => by omega, fun e => absurd (hE.trans x j' j x0 x1 a' b' a b f1 (hE.symm j j' a b a' b' e)) e1⟩
    · rw [e2] at c ⊢
      rw [f2] at d ⊢
      exact h.eqv j j' a b a' b' c d
  · by_cases hc : c = n
    · rcases ho' x x0 x1 with ⟨_, e⟩ | ⟨e, _⟩
      · exact ⟨x, x0, by omega, by omega⟩
      · exact absurd (hE.refl x x0 x1) e
    · obtain ⟨x', p, q, r⟩ := h.all c a (by omega)
      rcases ho' x' p (by omega) with ⟨e, _⟩ | ⟨_, e⟩
      · exact absurd (hlt x' p (by omega) e) (by omega)
      · exact ⟨x', p, by omega, by omega⟩
  · rcases ho' j a b with ⟨e, e'⟩ | ⟨e, e'⟩
    · obtain ⟨x', p, q, r⟩ := h.all c c0 (by omega)
      have := hlt j a b e
      rcases ho' x' p (by omega) with ⟨f, _⟩ | ⟨_, f⟩
      · exact absurd (hlt x' p (by omega) f) (by omega)
      · exact ⟨x', p, by omega, by omega⟩
    · rw [e'] at c1
      obtain ⟨j', p, q, r⟩ := h.can j a b c c0 c1
      rcases ho' j' p (by omega) with ⟨f, _⟩ | ⟨_, f⟩
      · exact absurd (show 0 ≤ rd o j' by omega) (hno j' p (by omega) f)
      · exact ⟨j', p, q, by omega⟩
theorem MuI.end' {N : Nat} {E : Int → Int → Prop} (hE : Eqv N E) {o : List Int} {n : Int} (h : MuI N E o N n) : IsCl N E o := by
  have hl := h.len
  have h0 : ∀ j : Int, 0 ≤ j → j < N → 0 ≤ rd o j := fun j a b => (h.done j a b).2 ⟨j, a, b, hE.refl j a b⟩
  exact ⟨h.len, fun x y a b c d => h.eqv x y a b c d (h0 x a b) (h0 y c d), fun i a b => ⟨h0 i a (by omega), h.can i a (by omega)⟩⟩
open Classical in
theorem green_mutual_ev {s : Sl} {N : Nat} {P : Int → Int → Prop} {H : AH} {lo : Nat} (hlo : lo ≤ H.length) (hN : N ≤ 4096) (hP : Pre N P) (hs : TabB H s (btab N N P)) : Ev (fun ρ k κ => green_mutual k s lo H κ) (fun v H' => Sep H H' [own reI v (clN N (Mu P))]) := by
  have hE := hP.mu
  have hlen := btab_len N N P
  refine ev_eq (fun _ k _ => green_mutual_eq k) ?_
  rw [hs.len, hlen]
  refine sp_mks (x := (0 : Int)) (Sep.nil H) reI (fun _ => ⟨rfl, rfl⟩) (by omega) (by omega) fun u H2 hS => ?_
  rw [hS.len]
  simp only [Int.toNat_natCast, List.length_replicate] at hS ⊢
  refine ev_loop (α := AH) (g := fun i H ρ k κ => green_mutual_1 k s u (N : Int) i lo H κ) (N : Int) (fun i H' => ∃ o : List Int, Sep H H' [own reI u o] ∧ o.length = N ∧ ∀ j : Int, 0 ≤ j → j < i → rd o j = -1) ?_ ?_ 0 H2 (by omega) (by omega) ⟨_, hS, by simp, fun j a b => by omega⟩
  · rintro i H1 i0 i1 ⟨o, hS, ho, hv⟩ hk
    refine ev_eq (fun _ k _ => green_mutual_1_eq k) (ev_pos i1 (sp_put (x := (-1 : Int)) hS hlo (fun _ => ⟨rfl, rfl⟩) i0 (by omega) fun H2 hS => ?_))
    rw [W_add i0 i1 (by omega)]
    refine hk H2 ⟨_, hS, by simpa using ho, fun j a b => ?_⟩
    rw [rd_set i0 (by omega) a]
    by_cases hj : j = i
    · rw [if_pos hj]
    · rw [if_neg hj]; exact hv j a (by omega)
  · rintro H1 ⟨o, hS, ho, hv⟩
    refine ev_eq (fun _ k _ => green_mutual_1_eq k) (ev_neg (by omega) ?_)
    rw [hS.len, ho]
    have next : ∀ {x : Int}, 0 ≤ x → x < N → ∀ (n : Int) (H1 : AH), Ev (fun ρ k κ => green_mutual_2 k s u n (N : Int) (x + 1) lo H1 κ) (fun v H' => Sep H H' [own reI v (clN N (Mu P))]) → Ev (fun ρ k κ => green_mutual_5 k s u n (N : Int) x lo H1 κ) (fun v H' => Sep H H' [own reI v (clN N (Mu P))]) := fun x0 x1 n H1 h => by
      refine ev_eq (fun _ k _ => green_mutual_5_eq k) ?_
      rw [W_add x0 x1 (by omega)]; exact h
    refine ev_loop (α := Int × AH) (g := fun x a ρ k κ => green_mutual_2 k s u a.1 (N : Int) x lo a.2 κ) (N : Int) (fun x a => ∃ o : List Int, Sep H a.2 [own reI u o] ∧ MuI N (Mu P) o x a.1) ?_ ?_ 0 (0, H1) (by omega) (by omega) ⟨o, hS, ho, by simp, fun j a b => ?_, fun j a b => ?_, fun j j' a b c d e f => ?_, fun c a b => by simp at b; omega, fun j a b c c0 c1 => ?_⟩
    · rintro x ⟨n, H1⟩ x0 x1 ⟨o, hS, hM⟩ hk
      simp only at hS hM
      have ho := hM.len
      have hn := hM.n0
      refine ev_eq (fun _ k _ => green_mutual_2_eq k) (ev_pos x1 (ev_rdI hS.row x0 (by omega) (ev_if (fun h => next x0 x1 n H1 (hk (n, H1) ⟨o, hS, hM.skip hE x0 x1 h⟩)) (fun h => ?_))))
      refine ev_loop (α := AH) (g := fun y H ρ k κ => green_mutual_3 k s u n x y (N : Int) x lo H κ) (N : Int) (fun y H' => x ≤ y ∧ ∃ o' : List Int, Sep H H' [own reI u o'] ∧ o'.length = N ∧ ∀ j : Int, 0 ≤ j → j < N → (x ≤ j ∧ j < y ∧ Mu P x j ∧ rd o' j = n) ∨ (¬ (x ≤ j ∧ j < y ∧ Mu P x j) ∧ rd o' j = rd o j)) ?_ ?_ x H1 x0 (by omega) ⟨Int.le_refl x, o, hS, ho, fun j a b => .inr ⟨by omega, rfl⟩⟩
      · rintro y H1 y0 y1 ⟨hxy, o', hS, ho', hj⟩ hk
        refine ev_eq (fun _ k _ => green_mutual_3_eq k) (ev_pos (by rw [hS.len]; omega) (sp_rdSB hs hS.le x0 (by omega) fun rx hrx => ev_rdB (hrx.le hS.le) y0 (by rw [btab_rlen x0 x1]; omega) ?_))
        rw [btab_at x0 x1 y0 y1]
        refine ev_andP (c := P y x) (fun _ => sp_rdSB hs hS.le y0 (by omega) fun ry hry => ev_rdB (hry.le hS.le) x0 (by rw [btab_rlen y0 y1]; omega) (ev_ret ⟨by rw [btab_at y0 y1 x0 x1], rfl⟩)) (ev_if (fun hm => ?_) (fun hm => ?_))
        · refine sp_put (x := n) hS hlo (fun _ => ⟨rfl, rfl⟩) y0 (by omega) fun H2 hS => ev_eq (fun _ k _ => green_mutual_4_eq k) ?_
          rw [W_add y0 y1 (by omega)]
          refine hk H2 ⟨by omega, _, hS, by simpa using ho', fun j a b => ?_⟩
          rw [rd_set y0 (by omega) a]
          by_cases hjy : j = y
          · rw [if_pos hjy, hjy]; exact .inl ⟨hxy, by omega, hm, rfl⟩
          · rw [if_neg hjy]
            rcases hj j a b with ⟨p, q, r⟩ | ⟨p, q⟩
            · exact .inl ⟨p, by omega, r⟩
            · exact .inr ⟨fun ⟨u, v, w⟩ => p ⟨u, by omega, w⟩, q⟩
        · refine ev_eq (fun _ k _ => green_mutual_4_eq k) ?_
          rw [W_add y0 y1 (by omega)]
          refine hk H1 ⟨by omega, _, hS, ho', fun j a b => ?_⟩
          rcases hj j a b with ⟨p, q, r⟩ | ⟨p, q⟩
          · exact .inl ⟨p, by omega, r⟩
          · refine .inr ⟨fun ⟨u, v, w⟩ => p ⟨u, ?_, w⟩, q⟩
            by_cases hjy : j = y
            · rw [hjy] at w; exact absurd w hm
            · omega
      · rintro H1 ⟨_, o', hS, ho', hj⟩
        refine ev_eq (fun _ k _ => green_mutual_3_eq k) (ev_neg (by rw [hS.len]; omega) ?_)
        rw [W_in (i := n + 1) (by omega) (by omega)]
        refine next x0 x1 _ _ (hk (n + 1, H1) ⟨o', hS, hM.new hE x0 x1 h ho' fun j a b => ?_⟩)
        rcases hj j a b with ⟨p, q, r⟩ | ⟨p, q⟩
        · exact .inl ⟨p, r⟩
        · exact .inr ⟨fun ⟨u, w⟩ => p ⟨u, b, w⟩, q⟩
    · rintro ⟨n, H1⟩ ⟨o, hS, hM⟩
      exact ev_eq (fun _ k _ => green_mutual_2_eq k) (ev_neg (by omega) (ev_ret (hS.eq (hM.end' hE).eq_clN)))
    · rw [hv j a b]; simp
    · rw [hv j a b]
      exact ⟨fun h => by omega, fun ⟨x', p, q, _⟩ => by omega⟩
    · rw [hv j a b] at e; omega
    · rw [hv j a b] at c1; omega
theorem ev_sssss {A : Type} {Q : A → AH → Prop} {H : AH} {p : Pt} {a b c d e : Sl} {K : (ρ : Type) → Nat → (A → AH → Option ρ) → Sl → Sl → Sl → Sl → Sl → Option ρ} (hp : At1 H p [.sl a, .sl b, .sl c, .sl d, .sl e])
    (hK : Ev (fun ρ n κ => K ρ n κ a b c d e) Q) : Ev (fun ρ n κ => ldA_sssss H p (K ρ n κ)) Q := by
  unfold ldA_sssss
  refine ev_ldnB (n := 5) hp rfl ?_
  simpa [castLfs, castLf, asS] using hK
/-- What Classes answers of a valid table. -/
noncomputable abbrev OwnG (t : List (List Int)) (v : Sl × Sl × Sl × Sl × Sl) : List Asr := [own reI v.1 (gR t), own reI v.2.1 (gL t), own reI v.2.2.1 (gJ t), own reI v.2.2.2.1 (gH t), own (reL reB) v.2.2.2.2 (gB t)]
open Classical in
theorem green_classes_ev {s : Sl} {t : List (List Int)} {H : AH} {lo : Nat} (hlo : lo ≤ H.length) (hv : Va t) (ht : Tab H s t) : Ev (fun ρ k κ => green_classes k s lo H κ) (fun v H' => Sep H H' (OwnG t v)) := by
  have hn := hv.le
  have hp := hv.pos
  have hsq := hv.toSq
  have cR := gR_cl hv
  have cL := gL_cl hv
  have cJ := gJ_cl hv
  have lR := cR.len
  have lL := cL.len
  have lJ := cJ.len
  refine ev_eq (fun _ k _ => green_classes_eq k) (sp_alc (Sep.nil H) fun p1 H2 hS => ?_)
  refine ev_call (green_two_ev (Nat.le_refl _) hsq (ht.le hS.le)) fun v3 H4 h4 => ?_
  have hS := hS.call h4
  refine ev_call (green_right_ev (Nat.le_refl _) hsq (ht.le hS.le)) fun v5 H6 h6 => ?_
  have hS := hS.on h6.le
  refine ev_call (green_mutual_ev (Nat.le_refl _) (by omega) (JR_pre hv) h6.tabB) fun v7 H8 h8 => ?_
  have h8 : Sep H6 H8 [own reI v7 (gR t)] := h8
  have hS := hS.call h8
  refine ev_call (green_left_ev (Nat.le_refl _) hsq (ht.le hS.le)) fun v9 H10 h10 => ?_
  have hS := hS.on h10.le
  refine ev_call (green_mutual_ev (Nat.le_refl _) (by omega) (JL_pre hv) h10.tabB) fun v11 H12 h12 => ?_
  have h12 : Sep H10 H12 [own reI v11 (gL t)] := h12
  have hS := hS.call h12
  refine ev_call (green_mutual_ev (Nat.le_refl _) (by omega) (JJ_pre hv) (hS.pull 2).tabB) fun v13 H14 h14 => ?_
  have h14 : Sep H12 H14 [own reI v13 (gJ t)] := h14
  have hS := hS.call h14
  refine sp_alc hS fun p15 H16 hS => sp_stnC hS hlo rfl fun H17 hS => ev_fldS hS.at1 rfl (ev_fldS hS.at1 rfl ?_)
  refine ev_call (partition_Meet_ev (Nat.le_refl _) (hS.pull 3).row (hS.pull 2).row cR.can cL.can (by omega) (by omega)) fun v22 H23 ⟨h, h23, hh⟩ => ?_
  have eh : h = gH t := by
    rw [lR] at hh
    exact hh.eq_clN
  subst eh
  have hS := hS.call h23
  refine sp_stcC (j := 3) (hS.pull 1) hlo (by simp) fun H24 hS => ev_fldS hS.at1 rfl ?_
  refine ev_call (green_firsts_ev (Nat.le_refl _) (hS.pull 2).row cJ.can (by show (gJ t).length ≤ 4096; omega)) fun v27 H28 h28 => ?_
  have hS := hS.call h28
  have hfl : (frs (gJ t)).length = nJ t := rfl
  have hnJ := nJ_le hv
  rw [hS.len]
  refine sp_mks (x := []) hS (reL reB) (fun _ => nilRow) (by omega) (by show ((nJ t : Nat) : Int) * _ ≤ _; omega) fun s29 H30 hS => ?_
  refine sp_stcC (j := 4) (hS.pull 2) hlo (by simp) fun H31 hS => ?_
  simp only [List.set_cons_succ, List.set_cons_zero] at hS
  have hS := hS.pull 1
  refine ev_loop (α := AH) (g := fun a H ρ k κ => green_classes_1 k (some p1) v3 (some p15) v27 v27 ((frs (gJ t)).length : Int) a lo H κ) ((frs (gJ t)).length : Int) (fun a H' => ∃ T : List (List Bool), Sep H H' [own (reL reB) s29 T, ownC p15 [.sl v7, .sl v11, .sl v13, .sl v22, .sl s29], own reI v27 (frs (gJ t)), own reI v22 (gH t), own reI v13 (gJ t), own reI v11 (gL t), own reI v7 (gR t), own (reL reB) v3 (btab t.length t.length (JJ t)), ownC p1 [.sl ⟨none, 0⟩, .sl ⟨none, 0⟩, .sl ⟨none, 0⟩, .sl ⟨none, 0⟩, .sl ⟨none, 0⟩]] ∧ T.length = nJ t ∧ ∀ z : Int, 0 ≤ z → z < a → (rdOf [] T z).length = nJ t ∧ ∀ x : Int, 0 ≤ x → x < (nJ t : Int) → (rdOf false (rdOf [] T z) x = true ↔ JJ t (fJ t x) (fJ t z))) ?_ ?_ 0 H31 (by omega) (by omega) ⟨_, hS, by simp [hfl], fun z a b => by omega⟩
  · rintro a H1 a0 a1 ⟨T, hS, hT, hz⟩ hk
    have hT' : a < (T.length : Int) := by omega
    obtain ⟨fa0, fa1, _⟩ := fJ_in hv a0 (show a < (nJ t : Int) by omega)
    refine ev_eq (fun _ k _ => green_classes_1_eq k) (ev_pos a1 (ev_rdI (hS.pull 2).row a0 a1 (ev_fldS (p := p15) (hS.pull 1).at1 rfl ?_)))
    rw [(hS.pull 2).len]
    refine sp_mks (x := false) hS reB (fun _ => ⟨rfl, rfl⟩) (by omega) (by omega) fun w H2 hS => sp_putE hS.eltL.swap hlo a0 hT' fun H3 hS => ?_
    refine ev_loop (α := AH) (g := fun b H ρ k κ => green_classes_2 k (some p1) v3 (some p15) v27 a (fJ t a) v27 ((frs (gJ t)).length : Int) a v27 ((frs (gJ t)).length : Int) b lo H κ) ((frs (gJ t)).length : Int) (fun b H' => ∃ row : List Bool, Sep H H' [own (reL reB) s29 (T.set a.toNat row), ownC p15 [.sl v7, .sl v11, .sl v13, .sl v22, .sl s29], own reI v27 (frs (gJ t)), own reI v22 (gH t), own reI v13 (gJ t), own reI v11 (gL t), own reI v7 (gR t), own (reL reB) v3 (btab t.length t.length (JJ t)), ownC p1 [.sl ⟨none, 0⟩, .sl ⟨none, 0⟩, .sl ⟨none, 0⟩, .sl ⟨none, 0⟩, .sl ⟨none, 0⟩]] ∧ row.length = nJ t ∧ ∀ x : Int, 0 ≤ x → x < b → (rdOf false row x = true ↔ JJ t (fJ t x) (fJ t a))) ?_ ?_ 0 H3 (by omega) (by omega) ⟨_, hS, by simp [hfl], fun x c d => by omega⟩
    · rintro b H1 b0 b1 ⟨row, hS, hr, hx⟩ hk
      obtain ⟨fb0, fb1, _⟩ := fJ_in hv b0 (show b < (nJ t : Int) by omega)
      refine ev_eq (fun _ k _ => green_classes_2_eq k) (ev_pos b1 (ev_rdI (hS.pull 2).row b0 b1 (ev_fldS (p := p15) (hS.pull 1).at1 rfl (sp_openS hS a0 hT' fun w hS => ev_rdSB (hS.pull 8).tabB fb0 (by rw [btab_len]; exact fb1) fun jy hjy => ev_rdB hjy fa0 (by rw [show rdOf [] (btab t.length t.length (JJ t)) (rd (frs (gJ t)) b) = rdOf [] (btab t.length t.length (JJ t)) (fJ t b) from rfl, btab_rlen fb0 fb1]; exact fa1) ?_))))
      rw [show rdOf [] (btab t.length t.length (JJ t)) (rd (frs (gJ t)) b) = rdOf [] (btab t.length t.length (JJ t)) (fJ t b) from rfl, btab_at fb0 fb1 fa0 fa1]
      refine sp_put (x := decide (JJ t (fJ t b) (fJ t a))) (hS.pull 1) hlo (fun _ => ⟨rfl, rfl⟩) b0 (by omega) fun H2 hS => ?_
      rw [W_add b0 b1 (by omega)]
      refine hk H2 ⟨_, (hS.pull 1).closeS, by simpa using hr, fun x c d => ?_⟩
      rw [rb_set b0 (by omega) c]
      by_cases hxb : x = b
      · rw [if_pos hxb, hxb, decide_eq_true_iff]
      · rw [if_neg hxb]; exact hx x c (by omega)
    · rintro H1 ⟨row, hS, hr, hx⟩
      refine ev_eq (fun _ k _ => green_classes_2_eq k) (ev_neg (by omega) ?_)
      rw [W_add a0 a1 (by omega)]
      refine hk H1 ⟨_, hS, by simpa using hT, fun z c d => ?_⟩
      rw [rdOf_set [] a0 hT' c]
      by_cases hza : z = a
      · rw [if_pos hza, hza]; exact ⟨hr, fun x e f => hx x e (by omega)⟩
      · rw [if_neg hza]; exact hz z c (by omega)
  · rintro H1 ⟨T, hS, hT, hz⟩
    have eT : T = gB t := btab_eq hT fun y a b => hz y a (by omega)
    subst eT
    refine ev_eq (fun _ k _ => green_classes_1_eq k) (ev_neg (by omega) (ev_asP (ev_sssss (hS.pull 1).at1 (ev_asP ?_))))
    refine sp_stnC (p := p1) (us := [.sl v7, .sl v11, .sl v13, .sl v22, .sl s29]) (hS.pull 8) hlo rfl fun H2 hS => ?_
    have hp1 := hS.at1
    refine ev_asP (ev_sssss hp1 (ev_ret ?_))
    have h5 := (hS.pull 1 |>.pull 4 |>.pull 5 |>.pull 6 |>.pull 7).take 5
    exact h5

end Go.Ab
