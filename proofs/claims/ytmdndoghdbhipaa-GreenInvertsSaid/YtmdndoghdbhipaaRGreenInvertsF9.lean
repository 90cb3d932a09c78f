/- Green's relations: ideals, classes. What they answer. No condition but that a valid table comes in. -/
import Derived.Test.YtmdndoghdbhipaaRGreenInvertsF8
import Derived.Test.YtmdndoghdbhipaaAbM13
set_option linter.unusedVariables false
set_option linter.unusedSimpArgs false
namespace Go.Ab
open Go
theorem nilRow {H : AH} : (reL reB).on H (.sl ⟨none, 0⟩) [] [] := ⟨⟨none, 0⟩, rfl, rfl, .inl ⟨rfl, rfl, rfl⟩⟩
theorem green_right_ev {s : Sl} {t : List (List Int)} {H : AH} {lo : Nat} (hlo : lo ≤ H.length) (hv : Sq t) (ht : Tab H s t) : Ev (fun ρ k κ => green_right k s lo H κ) (fun v H' => Sep H H' [own (reL reB) v (btab t.length t.length (JR t))]) := by
  have hn := hv.le
  have hp := hv.pos
  refine ev_eq (fun _ k _ => green_right_eq k) ?_
  rw [ht.len]
  refine sp_mks (x := []) (Sep.nil H) (reL reB) (fun _ => nilRow) (by omega) (by omega) fun u H2 hS => ?_
  refine ev_loop (α := AH) (g := fun y H ρ k κ => green_right_1 k s u (t.length : Int) y lo H κ) (t.length : Int) (fun y H' => ∃ T : List (List Bool), Sep H H' [own (reL reB) u T] ∧ T.length = t.length ∧ ∀ z : Int, 0 ≤ z → z < y → (rdOf [] T z).length = t.length ∧ ∀ x : Int, 0 ≤ x → x < (t.length : Int) → (rdOf false (rdOf [] T z) x = true ↔ JR t z x)) ?_ ?_ 0 H2 (by omega) (by omega) ⟨_, hS, by simp, fun z a b => by omega⟩
  · rintro y H1 y0 y1 ⟨T, hS, hT, hz⟩ hk
    have hT' : y < (T.length : Int) := by omega
    refine ev_eq (fun _ k _ => green_right_1_eq k) (ev_pos y1 ?_)
    rw [ht.len]
    refine sp_mks (x := false) hS reB (fun _ => ⟨rfl, rfl⟩) (by omega) (by omega) fun w H2 hS => sp_putE hS.eltL.swap hlo y0 hT' fun H3 hS => sp_openS hS y0 hT' fun w hS => ?_
    refine sp_put (x := true) (hS.pull 1) hlo (fun _ => ⟨rfl, rfl⟩) y0 (by simp; omega) fun H4 hS => ?_
    have hS := (hS.pull 1).closeS
    refine ev_loop (α := AH) (g := fun i H ρ k κ => green_right_2 k s u y (t.length : Int) y (t.length : Int) i lo H κ) (t.length : Int) (fun i H' => ∃ row : List Bool, Sep H H' [own (reL reB) u (T.set y.toNat row)] ∧ row.length = t.length ∧ ∀ x : Int, 0 ≤ x → x < (t.length : Int) → (rdOf false row x = true ↔ x = y ∨ ∃ i' : Int, 0 ≤ i' ∧ i' < i ∧ x = M t y i')) ?_ ?_ 0 H4 (by omega) (by omega) ⟨_, hS, by simp, fun x a b => ?_⟩
    · rintro i H1 i0 i1 ⟨row, hS, hr, hx⟩ hk
      have m0 := hv.lo y i y0 y1 i0 i1
      have m1 := hv.hi y i y0 y1 i0 i1
      have hrow := hv.row y y0 y1
      refine ev_eq (fun _ k _ => green_right_2_eq k) (ev_pos i1 (sp_openS hS y0 hT' fun w hS => ev_rdM (ht.le hS.le) y0 y1 i0 (by omega) (sp_put (x := true) (hS.pull 1) hlo (fun _ => ⟨rfl, rfl⟩) m0 (by omega) fun H2 hS => ?_)))
      rw [W_add i0 i1 (by omega)]
      refine hk H2 ⟨_, (hS.pull 1).closeS, by simpa using hr, fun x a b => ?_⟩
      rw [rb_set m0 (by omega) a]
      by_cases hxm : x = M t y i
      · rw [if_pos hxm]; exact ⟨fun _ => .inr ⟨i, i0, by omega, hxm⟩, fun _ => rfl⟩
      · rw [if_neg hxm, hx x a b]
        refine ⟨fun h => h.imp id fun ⟨i', p, q, r⟩ => ⟨i', p, by omega, r⟩, fun h => h.imp id fun ⟨i', p, q, r⟩ => ⟨i', p, ?_, r⟩⟩
        by_cases hi : i' = i
        · rw [hi] at r; exact absurd r hxm
        · omega
    · rintro H1 ⟨row, hS, hr, hx⟩
      refine ev_eq (fun _ k _ => green_right_2_eq k) (ev_neg (by omega) ?_)
      rw [W_add y0 y1 (by omega)]
      refine hk H1 ⟨_, hS, by simpa using hT, fun z a b => ?_⟩
      rw [rdOf_set [] y0 hT' a]
      by_cases hzy : z = y
      · rw [if_pos hzy, hzy]; exact ⟨hr, hx⟩
      · rw [if_neg hzy]; exact hz z a (by omega)
    · rw [rb_set y0 (by simp; omega) a]
      by_cases hxy : x = y
      · rw [if_pos hxy]; exact ⟨fun _ => .inl hxy, fun _ => rfl⟩
      · rw [if_neg hxy, rb_rep a (by omega)]
        refine ⟨fun h => by (cases h), fun h => ?_⟩
        rcases h with h | ⟨i', p, q, _⟩
        · exact absurd h hxy
        · omega
  · rintro H1 ⟨T, hS, hT, hz⟩
    exact ev_eq (fun _ k _ => green_right_1_eq k) (ev_neg (by omega) (ev_ret (hS.eq (btab_eq hT hz))))
theorem green_left_ev {s : Sl} {t : List (List Int)} {H : AH} {lo : Nat} (hlo : lo ≤ H.length) (hv : Sq t) (ht : Tab H s t) : Ev (fun ρ k κ => green_left k s lo H κ) (fun v H' => Sep H H' [own (reL reB) v (btab t.length t.length (JL t))]) := by
  have hn := hv.le
  have hp := hv.pos
  refine ev_eq (fun _ k _ => green_left_eq k) ?_
  rw [ht.len]
  refine sp_mks (x := []) (Sep.nil H) (reL reB) (fun _ => nilRow) (by omega) (by omega) fun u H2 hS => ?_
  refine ev_loop (α := AH) (g := fun y H ρ k κ => green_left_1 k s u (t.length : Int) y lo H κ) (t.length : Int) (fun y H' => ∃ T : List (List Bool), Sep H H' [own (reL reB) u T] ∧ T.length = t.length ∧ ∀ z : Int, 0 ≤ z → z < y → (rdOf [] T z).length = t.length ∧ ∀ x : Int, 0 ≤ x → x < (t.length : Int) → (rdOf false (rdOf [] T z) x = true ↔ JL t z x)) ?_ ?_ 0 H2 (by omega) (by omega) ⟨_, hS, by simp, fun z a b => by omega⟩
  · rintro y H1 y0 y1 ⟨T, hS, hT, hz⟩ hk
    have hT' : y < (T.length : Int) := by omega
    refine ev_eq (fun _ k _ => green_left_1_eq k) (ev_pos y1 ?_)
    rw [ht.len]
    refine sp_mks (x := false) hS reB (fun _ => ⟨rfl, rfl⟩) (by omega) (by omega) fun w H2 hS => sp_putE hS.eltL.swap hlo y0 hT' fun H3 hS => sp_openS hS y0 hT' fun w hS => ?_
    refine sp_put (x := true) (hS.pull 1) hlo (fun _ => ⟨rfl, rfl⟩) y0 (by simp; omega) fun H4 hS => ?_
    have hS := (hS.pull 1).closeS
    refine ev_loop (α := AH) (g := fun i H ρ k κ => green_left_2 k s u y (t.length : Int) y (t.length : Int) i lo H κ) (t.length : Int) (fun i H' => ∃ row : List Bool, Sep H H' [own (reL reB) u (T.set y.toNat row)] ∧ row.length = t.length ∧ ∀ x : Int, 0 ≤ x → x < (t.length : Int) → (rdOf false row x = true ↔ x = y ∨ ∃ i' : Int, 0 ≤ i' ∧ i' < i ∧ x = M t i' y)) ?_ ?_ 0 H4 (by omega) (by omega) ⟨_, hS, by simp, fun x a b => ?_⟩
    · rintro i H1 i0 i1 ⟨row, hS, hr, hx⟩ hk
      have m0 := hv.lo i y i0 i1 y0 y1
      have m1 := hv.hi i y i0 i1 y0 y1
      have hrow := hv.row i i0 i1
      refine ev_eq (fun _ k _ => green_left_2_eq k) (ev_pos i1 (sp_openS hS y0 hT' fun w hS => ev_rdM (ht.le hS.le) i0 i1 y0 (by omega) (sp_put (x := true) (hS.pull 1) hlo (fun _ => ⟨rfl, rfl⟩) m0 (by omega) fun H2 hS => ?_)))
      rw [W_add i0 i1 (by omega)]
      refine hk H2 ⟨_, (hS.pull 1).closeS, by simpa using hr, fun x a b => ?_⟩
      rw [rb_set m0 (by omega) a]
      by_cases hxm : x = M t i y
      · rw [if_pos hxm]; exact ⟨fun _ => .inr ⟨i, i0, by omega, hxm⟩, fun _ => rfl⟩
      · rw [if_neg hxm, hx x a b]
        refine ⟨fun h => h.imp id fun ⟨i', p, q, r⟩ => ⟨i', p, by omega, r⟩, fun h => h.imp id fun ⟨i', p, q, r⟩ => ⟨i', p, ?_, r⟩⟩
        by_cases hi : i' = i
        · rw [hi] at r; exact absurd r hxm
        · omega
    · rintro H1 ⟨row, hS, hr, hx⟩
      refine ev_eq (fun _ k _ => green_left_2_eq k) (ev_neg (by omega) ?_)
      rw [W_add y0 y1 (by omega)]
      refine hk H1 ⟨_, hS, by simpa using hT, fun z a b => ?_⟩
      rw [rdOf_set [] y0 hT' a]
      by_cases hzy : z = y
      · rw [if_pos hzy, hzy]; exact ⟨hr, hx⟩
      · rw [if_neg hzy]; exact hz z a (by omega)
    · rw [rb_set y0 (by simp; omega) a]
      by_cases hxy : x = y
      · rw [if_pos hxy]; exact ⟨fun _ => .inl hxy, fun _ => rfl⟩
      · rw [if_neg hxy, rb_rep a (by omega)]
        refine ⟨fun h => by (cases h), fun h => ?_⟩
        rcases h with h | ⟨i', p, q, _⟩
        · exact absurd h hxy
        · omega
  · rintro H1 ⟨T, hS, hT, hz⟩
    exact ev_eq (fun _ k _ => green_left_1_eq k) (ev_neg (by omega) (ev_ret (hS.eq (btab_eq hT hz))))
open Classical in
theorem green_two_ev {s : Sl} {t : List (List Int)} {H : AH} {lo : Nat} (hlo : lo ≤ H.length) (hv : Sq t) (ht : Tab H s t) : Ev (fun ρ k κ => green_two k s lo H κ) (fun v H' => Sep H H' [own (reL reB) v (btab t.length t.length (JJ t))]) := by
  have hn := hv.le
  have hp := hv.pos
  refine ev_eq (fun _ k _ => green_two_eq k) (ev_call (green_right_ev (Nat.le_refl _) hv ht) fun r H2 hSr => ev_call (green_left_ev (Nat.le_refl _) hv (ht.le hSr.le)) fun l Hb hSl => ?_)
  have hb : Le H Hb := hSr.le.trans hSl.le
  have hr : TabB Hb r (btab t.length t.length (JR t)) := hSr.tabB.le hSl.le
  have hl : TabB Hb l (btab t.length t.length (JL t)) := hSl.tabB
  have hlb : lo ≤ Hb.length := by have := hb.len; omega
  have rl := btab_len t.length t.length (JR t)
  have ll := btab_len t.length t.length (JL t)
  rw [ht.len]
  refine sp_mks (x := []) (Sep.nil Hb) (reL reB) (fun _ => nilRow) (by omega) (by omega) fun u H2 hS => ?_
  refine ev_loop (α := AH) (g := fun y H ρ k κ => green_two_1 k s r l u (t.length : Int) y lo H κ) (t.length : Int) (fun y H' => ∃ T : List (List Bool), Sep Hb H' [own (reL reB) u T] ∧ T.length = t.length ∧ ∀ z : Int, 0 ≤ z → z < y → (rdOf [] T z).length = t.length ∧ ∀ x : Int, 0 ≤ x → x < (t.length : Int) → (rdOf false (rdOf [] T z) x = true ↔ JJ t z x)) ?_ ?_ 0 H2 (by omega) (by omega) ⟨_, hS, by simp, fun z a b => by omega⟩
  · rintro y H1 y0 y1 ⟨T, hS, hT, hz⟩ hk
    have hT' : y < (T.length : Int) := by omega
    refine ev_eq (fun _ k _ => green_two_1_eq k) (ev_pos y1 ?_)
    rw [ht.len]
    refine sp_mks (x := false) hS reB (fun _ => ⟨rfl, rfl⟩) (by omega) (by omega) fun w H2 hS => sp_putE hS.eltL.swap hlb y0 hT' fun H3 hS => sp_rdSB hl hS.le y0 (by omega) fun ly hly => ?_
    have lyl : (rdOf [] (btab t.length t.length (JL t)) y).length = t.length := btab_rlen y0 y1
    rw [hly.len, lyl]
    refine ev_loop (α := AH) (g := fun z H ρ k κ => green_two_2 k s r l u y (t.length : Int) y ly (t.length : Int) z lo H κ) (t.length : Int) (fun z H' => ∃ row : List Bool, Sep Hb H' [own (reL reB) u (T.set y.toNat row)] ∧ row.length = t.length ∧ ∀ x : Int, 0 ≤ x → x < (t.length : Int) → (rdOf false row x = true ↔ ∃ z' : Int, 0 ≤ z' ∧ z' < z ∧ JL t y z' ∧ JR t z' x)) ?_ ?_ 0 H3 (by omega) (by omega) ⟨_, hS, by simp, fun x a b => ?_⟩
    · rintro z H1 z0 z1 ⟨row, hS, hr', hx⟩ hk
      have next : ∀ H1, (∃ row : List Bool, Sep Hb H1 [own (reL reB) u (T.set y.toNat row)] ∧ row.length = t.length ∧ ∀ x : Int, 0 ≤ x → x < (t.length : Int) → (rdOf false row x = true ↔ ∃ z' : Int, 0 ≤ z' ∧ z' < z + 1 ∧ JL t y z' ∧ JR t z' x)) → Ev (fun ρ k κ => green_two_4 k s r l u y (t.length : Int) y ly (t.length : Int) z lo H1 κ) (fun v H' => Sep H H' [own (reL reB) v (btab t.length t.length (JJ t))]) := fun H1 h => by
        refine ev_eq (fun _ k _ => green_two_4_eq k) ?_
        rw [W_add z0 z1 (by omega)]
        exact hk H1 h
      refine ev_eq (fun _ k _ => green_two_2_eq k) (ev_pos z1 (ev_rdB (hly.le hS.le) z0 (by omega) ?_))
      rw [btab_at y0 y1 z0 z1]
      refine ev_nif (fun h => next H1 ⟨row, hS, hr', fun x a b => ?_⟩) (fun h => sp_rdSB hr hS.le z0 (by omega) fun rz hrz => ?_)
      · rw [hx x a b]
        refine ⟨fun ⟨z', p, q, r⟩ => ⟨z', p, by omega, r⟩, fun ⟨z', p, q, r⟩ => ⟨z', p, ?_, r⟩⟩
        by_cases hzz : z' = z
        · rw [hzz] at r; exact absurd r.1 h
        · omega
      · have rzl : (rdOf [] (btab t.length t.length (JR t)) z).length = t.length := btab_rlen z0 z1
        rw [hrz.len, rzl]
        refine ev_loop (α := AH) (g := fun i H ρ k κ => green_two_3 k s r l u y (t.length : Int) y ly (t.length : Int) z rz (t.length : Int) i lo H κ) (t.length : Int) (fun i H' => ∃ row : List Bool, Sep Hb H' [own (reL reB) u (T.set y.toNat row)] ∧ row.length = t.length ∧ ∀ x : Int, 0 ≤ x → x < (t.length : Int) → (rdOf false row x = true ↔ (∃ z' : Int, 0 ≤ z' ∧ z' < z ∧ JL t y z' ∧ JR t z' x) ∨ (x < i ∧ JR t z x))) ?_ ?_ 0 H1 (by omega) (by omega) ⟨row, hS, hr', fun x a b => (hx x a b).trans ⟨.inl, fun h => h.elim id fun ⟨p, _⟩ => by omega⟩⟩
        · rintro i H1 i0 i1 ⟨row, hS, hr', hx⟩ hk
          refine ev_eq (fun _ k _ => green_two_3_eq k) (ev_pos i1 (ev_rdB (hrz.le hS.le) i0 (by omega) ?_))
          rw [btab_at z0 z1 i0 i1]
          refine sp_openS hS y0 hT' fun w hSo => ?_
          have hSo2 := (hSo.pull 1 |>.pull 1).closeS
          refine sp_openS hSo2 y0 hT' fun w2 hSo3 => ?_
          -- both reads give the same row
          have hw : w = w2 := by
            obtain ⟨f, hf⟩ := hSo.head
            obtain ⟨g, hg⟩ := hSo3.head
            obtain ⟨_, b1, us1, vs1, vs2, ws1, xs1, x1, xs2, g1, g2, e1, e2, e3, e4, e5, e6, e7⟩ := hf
            obtain ⟨_, b2, us2, ws1', ws2', ws2, ys1, y1', ys2, k1, k2, d1, d2, d3, d4, d5, d6, d7⟩ := hg
            rw [e1] at d1
            have : b1 = b2 ∧ us1.length = us2.length := by simpa using d1
            obtain ⟨rfl, hu⟩ := this
            rw [e2] at d2
            have d2 : us1 ++ (vs1 ++ AV.sl w :: vs2 ++ ws1) = us2 ++ (ws1' ++ AV.sl w2 :: ws2' ++ ws2) := by simpa using d2
            have l1 := e5.len
            have l2 := d5.len
            have a1 : (us1 ++ (vs1 ++ AV.sl w :: vs2 ++ ws1))[us1.length + y.toNat]? = some (AV.sl w) := by rw [List.getElem?_append_right (by omega)]; simp; rw [List.getElem?_append_right (by omega)]; simp [l1, e4]
            have a2 : (us2 ++ (ws1' ++ AV.sl w2 :: ws2' ++ ws2))[us1.length + y.toNat]? = some (AV.sl w2) := by rw [hu, List.getElem?_append_right (by omega)]; simp; rw [List.getElem?_append_right (by omega)]; simp [l2, d4]
            rw [d2, a2] at a1
            simpa [eq_comm] using a1
          subst hw
          refine ev_rdB (hSo3.pull 1).rowB i0 (by omega) (ev_orI (c := rdOf false row i || decide (JR t z i)) (fun hh => ev_ret ⟨by rw [hh]; rfl, rfl⟩) (fun hh => by rw [hh]; rfl) (sp_put (hSo3.pull 1) hlb (fun _ => ⟨rfl, rfl⟩) i0 (by omega) fun H2 hS => ?_))
          rw [W_add i0 i1 (by omega)]
          refine hk H2 ⟨_, (hS.pull 1).closeS, by simpa using hr', fun x a b => ?_⟩
          rw [rb_set i0 (by omega) a]
          by_cases hxi : x = i
          · rw [if_pos hxi, hxi, Bool.or_eq_true, hx i i0 i1, decide_eq_true_iff]
            exact ⟨fun h => h.elim (fun h => h.imp id fun ⟨p, q⟩ => ⟨by omega, q⟩) fun h => .inr ⟨by omega, h⟩, fun h => h.elim (fun h => .inl (.inl h)) fun h => .inr h.2⟩
          · rw [if_neg hxi, hx x a b]
            exact ⟨fun h => h.imp id fun ⟨p, q⟩ => ⟨by omega, q⟩, fun h => h.imp id fun ⟨p, q⟩ => ⟨by omega, q⟩⟩
        · rintro H1 ⟨row, hS, hr', hx⟩
          refine ev_eq (fun _ k _ => green_two_3_eq k) (ev_neg (by omega) (next H1 ⟨row, hS, hr', fun x a b => ?_⟩))
          rw [hx x a b]
          constructor
          · rintro (⟨z', p, q, r⟩ | ⟨p, q⟩)
            · exact ⟨z', p, by omega, r⟩
            · exact ⟨z, z0, by omega, h, q⟩
          · rintro ⟨z', p, q, r⟩
            by_cases hzz : z' = z
            · rw [hzz] at r; exact .inr ⟨b, r.2⟩
            · exact .inl ⟨z', p, by omega, r⟩
    · rintro H1 ⟨row, hS, hr', hx⟩
      refine ev_eq (fun _ k _ => green_two_2_eq k) (ev_neg (by omega) ?_)
      rw [W_add y0 y1 (by omega)]
      refine hk H1 ⟨_, hS, by simpa using hT, fun z a b => ?_⟩
      rw [rdOf_set [] y0 hT' a]
      by_cases hzy : z = y
      · rw [if_pos hzy, hzy]; exact ⟨hr', hx⟩
      · rw [if_neg hzy]; exact hz z a (by omega)
    · rw [rb_rep a (by omega)]
      refine ⟨fun h => by (cases h), fun ⟨z', p, q, _⟩ => by omega⟩
  · rintro H1 ⟨T, hS, hT, hz⟩
    exact ev_eq (fun _ k _ => green_two_1_eq k) (ev_neg (by omega) (ev_ret ((hS.base hb).eq (btab_eq hT hz))))

end Go.Ab
