/- Regions that draw their order: the step, and the theorem. -/
import Derived.Test.YtmdndoghdbhipaaAbAD3
set_option linter.unusedSimpArgs false
set_option linter.unusedVariables false
namespace Go.Ab
open Go Go.RowKit

section
variable {C : Ctx} {ops : Array Oper} {nt : Nat} {call : CallT} {lo : Nat} {F : List FOp} {V : Nat → AV} {Hs : Nat → AH} {σ0 σn : Env} {H0 Hn : AH}

theorem Reg.stay3 (R : Reg C ops nt call lo F V Hs σ0) {b m : Nat} : ∀ (k : Nat), m + k ≤ F.length → b < (Hs m).length → (∀ (q : Nat) (f : FOp), m ≤ q → q < m + k → F[q]? = some f → f.cls ≤ 3) → (Hs (m + k))[b]? = (Hs m)[b]?
  | 0, _, _, _ => rfl
  | k + 1, hk, hb, hq => by
    have ih := Reg.stay3 R k (by omega) hb (fun q f h1 h2 => hq q f h1 (by omega))
    have hf : F[m + k]? = some (F[m + k]'(by omega)) := List.getElem?_eq_getElem _
    have hle := R.le (m + k) (by omega)
    have hbk : b < (Hs (m + k)).length := Nat.lt_of_lt_of_le hb (hle.2 m (by omega))
    rw [← Nat.add_assoc, ← ih]
    by_cases hc : F[m + k].cls < 2
    · rw [R.quiet hf hc]
    · have h4 := hq (m + k) _ (by omega) (by omega) hf
      rcases R.st (m + k) _ hf with ⟨_, h⟩ | ⟨_, _, h⟩
      · split at h
        · rename_i o hkk
          simp only [FOp.cls, hkk] at hc h4
          have hc' : o.cls = 2 ∨ o.cls = 3 := by
            cases hb2 : decide (o.cls = 2) && (F[m + k]).g.isSome
            · rw [hb2, cond_false] at hc h4; omega
            · rw [hb2, cond_true] at h4; omega
          rcases hc' with hc' | hc'
          · exact (evOp_bar_alloc R.hS R.hB hc' h).1 b hbk
          · exact (evOp_fresh R.hS R.hB hc' h).1 b hbk
        · rw [h.1]
      · rw [h]

theorem compat_le {a : Nat} (h : compatB a 1 = true) : a ≤ 4 := by
  rcases a with _ | _ | _ | _ | _ | a <;> simp_all [compatB]
theorem compat_load {a : Nat} (h : compatB 1 a = true) : a ≤ 3 := by
  rcases a with _ | _ | _ | _ | a <;> simp_all [compatB]
theorem compat_strict {a b : Nat} (ha : 2 ≤ a) (hb : 3 ≤ b) (h : compatB a b = true) : a = 2 := by
  rcases a with _ | _ | _ | a
  · omega
  · omega
  · rfl
  · rcases b with _ | _ | _ | b
    · omega
    · omega
    · omega
    · rcases a with _ | _ | a <;> rcases b with _ | b <;> simp_all [compatB]
theorem compat_alloc {a : Nat} (ha : 2 ≤ a) (h : compatB a 2 = true) : a = 2 := by
  rcases a with _ | _ | _ | _ | _ | a <;> simp_all [compatB]

variable {Q : Exit → Act → World → Prop}

theorem Reg.step (R : Reg C ops nt call lo F V Hs σ0) {μ0 : MU} {w0 : World} {a0 : Act} {listed : Array Bool} {a : Act} {w : World} {μ : MU} {m : Nat} (I : Inv C ops nt F V Hs σ0 μ0 w0 a0 listed a w μ m) {p : Nat} {f : FOp} (hp : F[p]? = some f)
    (hr : f.i ∈ Region.ready .any ops listed) {K : Act → World → Prop} (hK : ∀ a' w' μ' m', Inv C ops nt F V Hs σ0 μ0 w0 a0 (listed.setIfInBounds f.i true) a' w' μ' m' → K a' w') : wpOp C.P ops Q f.i K a w := by
  have hpl : p < F.length := (List.getElem?_eq_some_iff.1 hp).1
  obtain ⟨o, ck⟩ := R.chk f (List.mem_of_getElem? hp)
  obtain ⟨hun, o', ho', hall⟩ := mem_ready.1 hr
  have e0 := ck.at_
  rw [e0] at ho'; cases ho'
  have hfi : f.i < listed.size := by rw [I.sz]; exact (Array.getElem?_eq_some_iff.1 e0).1
  have hun' : listed.getD f.i false = false := by
    rw [Array.getD_eq_getD_getElem?] at hun ⊢
    rw [Array.getElem?_eq_getElem hfi] at hun ⊢
    exact hun
  have hnd : Dn F listed p = false := by unfold Dn; rw [hp]; exact hun'
  have hdeps : ∀ i, Rch ops i f.i → listed.getD i false = true := by
    intro i r
    cases r with
    | dep j o2 e h he hb => rw [e0] at h; cases h; exact hall e (Array.mem_toList_iff.1 he) hb
    | far i j o2 e h he hb r => rw [e0] at h; cases h; exact I.cl.rch r (hall e (Array.mem_toList_iff.1 he) hb)
  have hlook := R.looks I.cl hp hnd hdeps
  have hsz' : (listed.setIfInBounds f.i true).size = ops.size := by simpa using I.sz
  have hcl' : Closed ops (listed.setIfInBounds f.i true) := by
    intro j o2 e hj hl he hb
    by_cases hjf : f.i = j
    · subst hjf; rw [e0] at hj; cases hj; exact getD_set_true (hall e (Array.mem_toList_iff.1 he) hb)
    · rw [getD_set_ne false hjf] at hl; exact getD_set_true (I.cl j o2 e hj hl he hb)
  have hDn := R.dn_set I.sz hp
  have hdst := ck.dst
  have hdn : dstB a.tmps.size o.dst = true := by rw [I.asz, hdst]; exact ck.lt
  -- what has been shown is kept
  have fin : ∀ (c : Value) (w' : World) (μ' : MU) (m' : Nat), VR C.fids μ' (V p) c → HR C μ' (Hs m') w' → Below C.base w w' → Ref μ μ' → Ext μ0 μ' → m' ≤ F.length → Keep μ0 (Hs 0) (Hs m') →
      (∀ (q : Nat) (g : FOp), F[q]? = some g → Dn F (listed.setIfInBounds f.i true) q = true → 2 ≤ g.cls → q < m') → (∀ (q : Nat) (g : FOp), F[q]? = some g → q < m' → 3 ≤ g.cls → Dn F (listed.setIfInBounds f.i true) q = true) →
      (∀ (q : Nat) (g : FOp), F[q]? = some g → q < m' → g.cls = 2 → Dn F (listed.setIfInBounds f.i true) q = false → μ'[(Hs q).length]? = some none ∧ (Hs m')[(Hs q).length]? = (Hs (q + 1))[(Hs q).length]?) →
      K (a.put o.dst c) w' := by
    intro c w' μ' m' hv hh hbl href hext hm hkp hl hs hlt
    refine hK _ w' μ' m' ⟨hsz', hcl', fun x => ?_, by rw [size_put]; exact I.asz, by rw [defs_put]; exact I.defs, hm, hh, I.below.trans hbl, hl, hs, hlt, hext, I.ext0, hkp, fun x hx => ?_⟩
    · rw [R.env_set I.sz I.cl hp hnd x, getD_put _ _ _ _ hdn, hdst]
      by_cases hd : f.d = some x
      · rw [if_pos hd, if_pos hd]; exact hv
      · rw [if_neg hd, if_neg hd]; exact (I.er x).mono href
    · rw [getD_put _ _ _ _ hdn, hdst, if_neg (hx f (List.mem_of_getElem? hp))]
      exact I.same x hx
  -- nothing loud happened
  have quiet : ∀ (c : Value) (w' : World) (μ' : MU), f.cls < 2 → VR C.fids μ' (V p) c → HR C μ' (Hs m) w' → Below C.base w w' → Ext μ μ' → K (a.put o.dst c) w' := by
    intro c w' μ' hc hv hh hbl hext
    refine fin c w' μ' m hv hh hbl hext.ref (I.ext.trans hext) I.mle I.keep (fun q g hq hd hcl => ?_) (fun q g hq hqm hcl => ?_) (fun q g hq hqm hcl hd => ?_)
    · rw [hDn] at hd
      by_cases hqp : q = p
      · subst hqp; rw [hp] at hq; cases hq; omega
      · rw [if_neg hqp] at hd; exact I.loud q g hq hd hcl
    · rw [hDn]; split
      · rfl
      · exact I.str q g hq hqm hcl
    · rw [hDn] at hd
      by_cases hqp : q = p
      · rw [if_pos hqp] at hd; cases hd
      · rw [if_neg hqp] at hd
        obtain ⟨g1, g2⟩ := I.late q g hq hqm hcl hd
        exact ⟨hext.none g1, g2⟩
  -- what is loud between the mark and p
  have between : 2 ≤ f.cls → ∀ (q : Nat) (g : FOp), m ≤ q → q < p → F[q]? = some g → 2 ≤ g.cls → g.cls = 2 ∧ Dn F listed q = false := by
    intro hc q g h1 h2 hq hg
    have hqd : Dn F listed q = false := by
      cases h : Dn F listed q
      · rfl
      · have := I.loud q g hq h hg; omega
    refine ⟨?_, hqd⟩
    rcases (R.ord.pair p q f g hp hq h2).1 with h | h
    · have := hdeps _ h
      unfold Dn at hqd; rw [hq] at hqd; simp only at hqd; rw [this] at hqd; cases hqd
    · simp only [commB, Bool.and_eq_true] at h
      rcases Nat.lt_or_ge f.cls 3 with h3 | h3
      · have : f.cls = 2 := by omega
        rw [this] at h; exact compat_alloc hg h.2
      · exact compat_strict hg h3 h.2
  -- a loud operation (no new block) at p: the mark comes to p, then behind it
  have strict : 3 ≤ f.cls → (∀ μ1, Inv C ops nt F V Hs σ0 μ0 w0 a0 listed a w μ1 p → HR C μ1 (Hs p) w → (∀ c w' μ2, Ext μ1 μ2 → VR C.fids μ2 (V p) c → HR C μ2 (Hs (p + 1)) w' → Below C.base w w' → Keep μ1 (Hs p) (Hs (p + 1)) → K (a.put o.dst c) w') → wpOp C.P ops Q f.i K a w) → wpOp C.P ops Q f.i K a w := by
    intro hc hgo
    have hpm : m ≤ p := by
      rcases Nat.lt_or_ge p m with h | h
      · have := I.str p f hp h hc; rw [hnd] at this; cases this
      · exact h
    obtain ⟨μ1, I1, x1⟩ := R.advance (p - m) I (by omega) (fun q g h1 h2 hq hg => between (by omega) q g h1 (by omega) hq hg)
    rw [show m + (p - m) = p by omega] at I1
    refine hgo μ1 I1 I1.hr fun c w' μ2 hx hv hh hbl hkp => ?_
    have hlen := I1.hr.len
    refine fin c w' μ2 (p + 1) hv hh hbl (x1.ref.trans hx.ref) (I1.ext.trans hx) (by omega) (I1.keep.trans hkp I1.ext) (fun q g hq hd hcl => ?_) (fun q g hq hqm hcl => ?_) (fun q g hq hqm hcl hd => ?_)
    · rw [hDn] at hd
      by_cases hqp : q = p
      · omega
      · rw [if_neg hqp] at hd; have := I1.loud q g hq hd hcl; omega
    · rw [hDn]; split
      · rfl
      · exact I1.str q g hq (by omega) hcl
    · rw [hDn] at hd
      by_cases hqp : q = p
      · rw [if_pos hqp] at hd; cases hd
      · rw [if_neg hqp] at hd
        obtain ⟨g1, g2⟩ := I1.late q g hq (by omega) hcl hd
        exact ⟨hx.none g1, by rw [hkp _ g1]; exact g2⟩
  have hleP := R.le p (by omega)
  have hleM := R.le m I.mle
  have herM : ER C.fids μ (envAt F V σ0 (Dn F listed) F.length) a := I.er
  rcases R.st p f hp with ⟨hg, hst⟩ | ⟨hg, hv, hh⟩
  · -- the guard is met
    have hm : Met f.g a := by
      cases hgc : f.g with
      | none => trivial
      | some q =>
        obtain ⟨t, wv⟩ := q
        rw [hgc] at hg
        have ht : t ∈ f.looks := by unfold FOp.looks; rw [hgc]; simp [gl]
        have := I.er t
        rw [hlook t ht, hg] at this
        exact this.bool_inv
    have hw := hm.wanted ck.grd
    have hkind := ck.kind
    have unf : Oper.wp C.P o a w K Q → wpOp C.P ops Q f.i K a w := fun h => by
      unfold wpOp
      simp only [e0, hw, if_true]
      exact .inl h
    cases hkk : f.k with
    | pick gt want px =>
      rw [hkk] at hst hkind
      simp only at hst hkind
      obtain ⟨hH, gb, b, h1, h2, h3⟩ := hst
      have hgt : gt ∈ f.looks := by unfold FOp.looks; rw [hkk]; simp
      have hgv : a.tmps.getD gt undef = .bool gb := by
        have := I.er gt
        rw [hlook gt hgt, h1] at this
        exact this.bool_inv
      have hcls : f.cls < 2 := by simp [FOp.cls, hkk]
      have hexec : (execOp a.eval o).run C.P w = .ok (.value (.bool b)) w := by
        obtain ⟨k1, k2⟩ := pick_run (P := C.P) (w := w) hkind a hgv
        by_cases hgw : gb = want
        · obtain ⟨x, hx, hex⟩ := k1 hgw
          have vx := chkOpd_sound hx herM
          have hag : opd (envAt F V σ0 (Dn F listed) F.length) px = opd (envAt F V σ0 (fun _ => true) p) px := opd_agree fun y hy => hlook y (by unfold FOp.looks; rw [hkk]; simp [hy])
          rw [hag, h3.1 hgw] at vx
          rw [vx.bool_inv] at hex; exact hex
        · rw [k2 hgw, h3.2 hgw]
      refine unf ?_
      unfold Oper.wp
      rw [hexec, Oper.upon_value]
      exact quiet (.bool b) w μ hcls (by rw [h2]; exact .bool b) I.hr (Below.refl _ _) (.refl _)
    | op io =>
      rw [hkk] at hst hkind
      simp only at hst hkind
      have hagree : AgreeOn io.looks (envAt F V σ0 (fun _ => true) p) (envAt F V σ0 (Dn F listed) F.length) := fun y hy => (hlook y (by unfold FOp.looks; rw [hkk]; simp [hy])).symm
      have hcl : f.cls = bif decide (io.cls = 2) && f.g.isSome then 5 else io.cls := by simp [FOp.cls, hkk]
      rcases Nat.lt_trichotomy io.cls 1 with hc | hc | hc
      · -- nothing of memory
        have hc0 : io.cls = 0 := by omega
        have hcls : f.cls < 2 := by rw [hcl, hc0]; simp
        obtain ⟨_, hall⟩ := evOp_pure hc0 hst
        have hev := hall (Hs m)
        rw [evOp_agree hagree] at hev
        exact unf <| op_sound R.hF R.hC R.hS R.hlo hleM.1 hkind hev herM I.hr fun c w' ⟨μ', g⟩ => quiet c w' μ' hcls g.val g.hr g.below g.ext
      · -- a load
        have hcls : f.cls < 2 := by rw [hcl, hc]; simp
        have hcls1 : f.cls = 1 := by rw [hcl, hc]; simp
        rcases (evOp_load hc hst).2 with hall | ⟨pb, blk, y, hnd, hyl, hyc, hy, hb, hev⟩
        case inl =>
          have hev := hall (Hs m)
          rw [evOp_agree hagree] at hev
          exact unf <| op_sound R.hF R.hC R.hS R.hlo hleM.1 hkind hev herM I.hr fun c w' ⟨μ', g⟩ => quiet c w' μ' hcls g.val g.hr g.below g.ext
        have hpt : ∃ e, μ[pb]? = some (some e) := by
          have hag : opd (envAt F V σ0 (Dn F listed) F.length) y = opd (envAt F V σ0 (fun _ => true) p) y := (opd_agree fun z hz => hagree z (hyl z hz)).symm
          cases y with
          | t n =>
            have := I.er n
            simp only [opd] at hag hy
            rw [hag] at this
            rcases hy with ⟨pt, hy, rfl⟩ | hy
            · rw [hy] at this; obtain ⟨e, _, he⟩ := this.ptr_inv; exact ⟨e, he⟩
            · rw [hy] at this
              rcases this.map_inv with ⟨h, _⟩ | ⟨b', e, h, _, he⟩
              · cases h
              · cases h; exact ⟨e, he⟩
          | c v =>
            -- a constant pointer or map is nil: no such check
            exfalso
            obtain ⟨x, hx⟩ := hyc _ _ hkind
            simp only [opd] at hy
            rcases hy with ⟨pt, hy, rfl⟩ | hy
            · subst hy
              cases x <;> simp [chkOpd] at hx
              rename_i cv
              cases cv <;> simp [chkV] at hx
            · subst hy
              cases x <;> simp [chkOpd] at hx
              rename_i cv
              cases cv <;> simp [chkV] at hx
        obtain ⟨e, he⟩ := hpt
        have hbm : pb < (Hs m).length := by rw [← I.hr.len]; exact (List.getElem?_eq_some_iff.1 he).1
        have hsame : (Hs m)[pb]? = (Hs p)[pb]? := by
          rcases Nat.lt_or_ge p m with hpm | hpm
          · have := R.stay3 (b := pb) (m := p) (m - p) (by have := I.mle; omega) (List.getElem?_eq_some_iff.1 hb).1 (fun q g h1 h2 hq => by
              by_cases hqp : q = p
              · subst hqp; rw [hp] at hq; cases hq; omega
              · rcases Nat.lt_or_ge g.cls 3 with h3 | h3
                · omega
                · have hqd := I.str q g hq (by omega) h3
                  rcases (R.ord.pair q p g f hq hp (by omega)).1 with h | h
                  · have : listed.getD f.i false = true := I.cl.rch h (by unfold Dn at hqd; rw [hq] at hqd; exact hqd)
                    rw [this] at hun'; cases hun'
                  · simp only [commB, Bool.and_eq_true] at h
                    rw [hcls1] at h
                    exact compat_load h.2)
            rw [show p + (m - p) = m by omega] at this
            exact this
          · have := R.stay (b := pb) (m := m) (p - m) (by omega) hbm (fun q g h1 h2 hq => by
              rcases Nat.lt_or_ge g.cls 2 with h3 | h3
              · omega
              · have hqd : Dn F listed q = false := by
                  cases h : Dn F listed q
                  · rfl
                  · have := I.loud q g hq h h3; omega
                rcases (R.ord.pair p q f g hp hq (by omega)).1 with h | h
                · have := hdeps _ h
                  unfold Dn at hqd; rw [hq] at hqd; simp only at hqd; rw [this] at hqd; cases hqd
                · simp only [commB, Bool.and_eq_true] at h
                  rw [hcls1] at h
                  exact compat_le h.2)
            rw [show m + (p - m) = p by omega] at this
            rcases this with h | h
            · exact h.symm
            · rw [hb] at h; cases h; exact absurd rfl hnd
        have hevm := hev (Hs m) hsame
        rw [evOp_agree hagree] at hevm
        exact unf <| op_sound R.hF R.hC R.hS R.hlo hleM.1 hkind hevm herM I.hr fun c w' ⟨μ', g⟩ => quiet c w' μ' hcls g.val g.hr g.below g.ext
      · by_cases halloc : io.cls = 2 ∧ f.g = none
        · -- a new block
          obtain ⟨hc2, hgn⟩ := halloc
          have hcls : f.cls = 2 := by rw [hcl, hc2, hgn]; simp
          have hevp := hst
          rw [evOp_agree hagree] at hevp
          rcases Nat.lt_or_ge p m with hpm | hpm
          · -- it was passed already
            obtain ⟨l1, l2⟩ := I.late p f hp hpm hcls hnd
            obtain ⟨us, cs, sz, el, mk, c, hv, hH', hrun, hcs, hmk⟩ := alloc_raw (w := w) hc2 hkind hevp herM
            have hil : (Hs p).length < μ.length := (List.getElem?_eq_some_iff.1 l1).1
            have hlow : C.lo0 ≤ (Hs p).length := Nat.le_trans R.hlo hleP.1
            have href : Ref μ (μ.set (Hs p).length (some ⟨w.heap.size, 0, cs.length, sz⟩)) := fun j x hj => by
              by_cases hij : (Hs p).length = j
              · subst hij; rw [l1] at hj; cases hj
              · rw [List.getElem?_set_ne hij]; exact hj
            have hHm : (Hs m)[(Hs p).length]? = some (.cells us sz) := by rw [l2, hH']; simp
            have hlen : us.length ≤ cs.length := by
              rcases Nat.lt_or_ge cs.length us.length with h | h
              · obtain ⟨d, hd, _⟩ := hcs cs.length _ (List.getElem?_eq_getElem h)
                simp at hd
              · exact h
            have hHR := I.hr.back (Hs p).length (.cells us sz) ⟨w.heap.size, 0, cs.length, sz⟩ (.cells cs.toArray el) l1 hHm hlow rfl ⟨rfl, fun j u hj => by
                obtain ⟨d, hd, hr⟩ := hcs j u hj
                refine ⟨d, ?_, hr.mono href⟩
                simp only [Nat.zero_add, World.cell?_alloc_new]; simpa using hd, fun _ => ⟨hlen, fun j hj => by simp only at hj; simp [hj]⟩⟩
            refine unf ?_
            unfold Oper.wp
            rw [hrun, Oper.upon_value]
            refine fin c _ _ m (by rw [hv]; exact hmk _ _ (List.getElem?_set_self hil)) hHR ((Below.refl _ _).alloc I.hr.base _) href ?_ I.mle I.keep (fun q g hq hd hcl' => ?_) (fun q g hq hqm hcl' => ?_) (fun q g hq hqm hcl' hd => ?_)
            · obtain ⟨ν, e⟩ := I.ext
              have h0 : μ0.length ≤ (Hs p).length := by
                have := hleP.2 0 (by omega)
                have hk0 : μ0.length ≤ (Hs 0).length := by
                  have h1 := I.hr.len
                  rcases Nat.lt_or_ge (Hs 0).length μ0.length with h | h
                  · exact absurd h (by have := I.ext0; omega)
                  · exact h
                omega
              exact ⟨ν.set ((Hs p).length - μ0.length) (some ⟨w.heap.size, 0, cs.length, sz⟩), by rw [e, List.set_append_right _ _ h0]⟩
            · rw [hDn] at hd
              by_cases hqp : q = p
              · omega
              · rw [if_neg hqp] at hd; exact I.loud q g hq hd hcl'
            · rw [hDn]; split
              · rfl
              · exact I.str q g hq hqm hcl'
            · rw [hDn] at hd
              by_cases hqp : q = p
              · rw [if_pos hqp] at hd; cases hd
              · rw [if_neg hqp] at hd
                obtain ⟨g1, g2⟩ := I.late q g hq hqm hcl' hd
                have hne : (Hs p).length ≠ (Hs q).length := by
                  -- two new blocks have two numbers
                  obtain ⟨ioq, q1, q2, q3, qe⟩ := R.alloc hq hcl'
                  have hgrow : ∀ {x : Nat}, x < F.length → ∀ {fx : FOp}, F[x]? = some fx → fx.cls = 2 → (Hs x).length < (Hs (x + 1)).length := by
                    intro x hx fx hfx hcx
                    obtain ⟨iox, x1, x2, x3, xe⟩ := R.alloc hfx hcx
                    cases iox <;> simp [IOp.cls] at x2 <;> simp only [evOp] at xe
                    case alloc zs => simp only [alc] at xe; obtain ⟨_, e⟩ := pr_inj xe; rw [← e]; simp
                    case box n x => obtain ⟨_, xe⟩ := cond_none xe; simp only [alc] at xe; obtain ⟨_, e⟩ := pr_inj xe; rw [← e]; simp
                    case bsl sz zs len ps => obtain ⟨us, _, xe⟩ := fillP_split xe; obtain ⟨_, xe⟩ := cond_none xe; simp only [mkb] at xe; obtain ⟨_, e⟩ := pr_inj xe; rw [← e]; simp
                    case mksl zs bytes l c =>
                      obtain ⟨n, _, xe⟩ := asI_some xe
                      obtain ⟨n', _, xe⟩ := asI_some xe
                      simp only [mks] at xe
                      obtain ⟨_, xe⟩ := cond_none xe
                      obtain ⟨_, e⟩ := pr_inj xe; rw [← e]; simp
                    all_goals (rename_i fresh _; cases fresh <;> simp at x2)
                  have hql : q < F.length := (List.getElem?_eq_some_iff.1 hq).1
                  rcases Nat.lt_or_ge q p with h | h
                  · have h1 := hgrow hql hq hcl'
                    have h2 := (R.le p (by omega)).2 (q + 1) (by omega)
                    omega
                  · have h1 := hgrow hpl hp hcls
                    have h2 := (R.le q (by omega)).2 (p + 1) (by omega)
                    omega
                exact ⟨by rw [List.getElem?_set_ne hne]; exact g1, g2⟩
          · -- the mark comes behind it
            obtain ⟨μ1, I1, x1⟩ := R.advance (p - m) I (by omega) (fun q g h1 h2 hq hg => between (by omega) q g h1 (by omega) hq hg)
            rw [show m + (p - m) = p by omega] at I1
            have her1 : ER C.fids μ1 (envAt F V σ0 (Dn F listed) F.length) a := I1.er
            refine unf <| op_sound R.hF R.hC R.hS R.hlo hleP.1 hkind hevp her1 I1.hr fun c w' ⟨μ2, g⟩ => ?_
            refine fin c w' μ2 (p + 1) g.val g.hr g.below (x1.ref.trans g.ext.ref) (I1.ext.trans g.ext) (by omega) (I1.keep.trans g.keep I1.ext) (fun q g' hq hd hcl' => ?_) (fun q g' hq hqm hcl' => ?_) (fun q g' hq hqm hcl' hd => ?_)
            · rw [hDn] at hd
              by_cases hqp : q = p
              · omega
              · rw [if_neg hqp] at hd; have := I1.loud q g' hq hd hcl'; omega
            · rw [hDn]; split
              · rfl
              · exact I1.str q g' hq (by omega) hcl'
            · rw [hDn] at hd
              by_cases hqp : q = p
              · rw [if_pos hqp] at hd; cases hd
              · rw [if_neg hqp] at hd
                obtain ⟨g1, g2⟩ := I1.late q g' hq (by omega) hcl' hd
                exact ⟨g.ext.none g1, by rw [g.keep _ g1]; exact g2⟩
        · -- loud
          have hcls : 3 ≤ f.cls := by
            rw [hcl]
            cases hb : decide (io.cls = 2) && f.g.isSome
            · simp only [cond_false]
              rcases Nat.lt_or_ge io.cls 3 with h | h
              · exfalso
                have h2 : io.cls = 2 := by omega
                have : f.g = none := by simpa [h2] using hb
                exact halloc ⟨h2, this⟩
              · exact h
            · simp
          exact strict hcls fun μ1 I1 h1 hk => by
            have her1 : ER C.fids μ1 (envAt F V σ0 (Dn F listed) F.length) a := I1.er
            have hevp := hst
            rw [evOp_agree hagree] at hevp
            exact unf (op_sound R.hF R.hC R.hS R.hlo hleP.1 hkind hevp her1 h1 fun c w' ⟨μ2, g⟩ => hk c w' μ2 g.ext g.val g.hr g.below g.keep)
  · -- it is not
    cases hgc : f.g with
    | none => rw [hgc] at hg; exact hg.elim
    | some q =>
      obtain ⟨t, wv⟩ := q
      rw [hgc] at hg
      have ht : t ∈ f.looks := by unfold FOp.looks; rw [hgc]; simp [gl]
      have hvr := I.er t
      rw [hlook t ht] at hvr
      have hw : Region.wanted o (yielded ops a.tmps) = false := by
        have hgrd := ck.grd
        rw [hgc] at hgrd
        rw [wanted_of hgrd]
        rcases hg with h | h
        · rw [h] at hvr
          rw [getD_some hvr.bool_inv (undef_ne_bool _)]
          cases wv <;> rfl
        · rw [h] at hvr
          obtain ⟨cs, hc, hcs⟩ := hvr.tup_inv
          cases hcs
          cases hx : a.tmps[t]? with
          | none => rfl
          | some u =>
            have : a.tmps.getD t undef = u := by rw [Array.getD_eq_getD_getElem?, hx]; rfl
            rw [this] at hc; subst hc; rfl
      unfold wpOp
      simp only [e0, hw, Bool.false_eq_true, if_false]
      have hvu : ∀ μ', VR C.fids μ' (V p) undef := fun μ' => by rw [hv]; exact .tup [] [] .nil
      rcases Nat.lt_or_ge f.cls 3 with hc | hc
      · have hc2 : f.cls < 2 := by
          rcases Nat.lt_or_ge f.cls 2 with h | h
          · exact h
          · exfalso
            obtain ⟨io, _, _, hn, _⟩ := R.alloc hp (by omega)
            rw [hn] at hgc; cases hgc
        exact quiet undef w μ hc2 (hvu μ) I.hr (Below.refl _ _) (.refl _)
      · have := strict hc fun μ1 I1 h1 hk => by
          unfold wpOp
          simp only [e0, hw, Bool.false_eq_true, if_false]
          exact hk undef w μ1 (.refl _) (hvu μ1) (by rw [hh]; exact h1) (Below.refl _ _) (by rw [hh]; exact .refl _ _)
        unfold wpOp at this
        simp only [e0, hw, Bool.false_eq_true, if_false] at this
        exact this

/-- How many are still to come. -/
def left (listed : Array Bool) : Nat := listed.toList.countP (fun b => !b)
theorem left_set {listed : Array Bool} {i : Nat} (h : listed.getD i true = false) : left (listed.setIfInBounds i true) + 1 = left listed := by
  have hi : i < listed.size := by
    rcases Nat.lt_or_ge i listed.size with h' | h'
    · exact h'
    · rw [Array.getD_eq_getD_getElem?, Array.getElem?_eq_none h'] at h; simp at h
  have hv : listed.toList[i]'(by simpa using hi) = false := by
    rw [Array.getD_eq_getD_getElem?, Array.getElem?_eq_getElem hi] at h
    simpa using h
  unfold left
  rw [Array.toList_setIfInBounds, List.countP_set (by simpa using hi)]
  simp only [hv, Bool.not_false, if_true, Bool.not_true, Bool.false_eq_true, if_false, Nat.add_zero]
  have : 0 < listed.toList.countP (fun b => !b) := List.countP_pos_iff.2 ⟨listed.toList[i]'(by simpa using hi), List.getElem_mem _, by rw [hv]; rfl⟩
  omega

theorem Reg.ready_of (R : Reg C ops nt call lo F V Hs σ0) {listed : Array Bool} (hsz : listed.size = ops.size) : ∀ (p : Nat) (f : FOp), F[p]? = some f → Dn F listed p = false → ∃ i, i ∈ Region.ready .any ops listed := by
  intro p
  induction p using Nat.strongRecOn with
  | _ p ih =>
    intro f hp hnd
    obtain ⟨o, ck⟩ := R.chk f (List.mem_of_getElem? hp)
    have hfi : f.i < listed.size := by rw [hsz]; exact (Array.getElem?_eq_some_iff.1 ck.at_).1
    by_cases hall : ∀ e ∈ o.after, Region.binds .any e = true → listed.getD e.on false = true
    · refine ⟨f.i, mem_ready.2 ⟨?_, o, ck.at_, hall⟩⟩
      unfold Dn at hnd; rw [hp] at hnd; simp only at hnd
      rw [Array.getD_eq_getD_getElem?] at hnd ⊢
      rw [Array.getElem?_eq_getElem hfi] at hnd ⊢
      exact hnd
    · have : ∃ e, e ∈ o.after ∧ Region.binds .any e = true ∧ listed.getD e.on false = false := by
        apply Classical.byContradiction
        intro hno
        exact hall fun e he hb => by
          cases h : listed.getD e.on false
          · exact absurd ⟨e, he, hb, h⟩ hno
          · rfl
      obtain ⟨e, he, hb, hl⟩ := this
      obtain ⟨q, g, hqp, hq, hgi⟩ := R.ord.deps p f o e hp ck.at_ (Array.mem_toList_iff.2 he) hb
      exact ih q hqp g hq (by unfold Dn; rw [hq]; simp only; rw [hgi]; exact hl)

theorem Reg.any (R : Reg C ops nt call lo F V Hs σ0) {μ0 : MU} {w0 : World} {a0 : Act} (hQ : ∀ listed a w μ m, Inv C ops nt F V Hs σ0 μ0 w0 a0 listed a w μ m → (∀ (p : Nat) (f : FOp), F[p]? = some f → Dn F listed p = true) → Q .normal a w) :
    ∀ (fuel : Nat) (listed : Array Bool) (a : Act) (w : World) (μ : MU) (m : Nat), Inv C ops nt F V Hs σ0 μ0 w0 a0 listed a w μ m → left listed = fuel → wpAny C.P .any ops Q fuel listed a w := by
  have stop : ∀ (listed : Array Bool) (a : Act) (w : World) (μ : MU) (m : Nat), Inv C ops nt F V Hs σ0 μ0 w0 a0 listed a w μ m → Region.ready .any ops listed = [] → Q .normal a w := fun listed a w μ m I hr => by
    refine hQ listed a w μ m I fun p f hp => ?_
    cases h : Dn F listed p
    · obtain ⟨i, hi⟩ := R.ready_of I.sz p f hp h
      rw [hr] at hi; cases hi
    · rfl
  intro fuel
  induction fuel with
  | zero =>
    intro listed a w μ m I hl
    have hr : Region.ready .any ops listed = [] := by
      cases h : Region.ready .any ops listed with
      | nil => rfl
      | cons i l =>
        have hi := (mem_ready (md := .any) (ops := ops) (listed := listed) (j := i)).1 (by rw [h]; simp)
        have := left_set hi.1
        omega
    exact ⟨hr, stop listed a w μ m I hr⟩
  | succ fuel ih =>
    intro listed a w μ m I hl
    refine ⟨stop listed a w μ m I, fun i hi => ?_⟩
    obtain ⟨hun, o, ho, _⟩ := mem_ready.1 hi
    obtain ⟨p, f, hp, rfl⟩ := R.all i (Array.getElem?_eq_some_iff.1 ho).1
    refine R.step I hp hi fun a' w' μ' m' I' => ih _ a' w' μ' m' I' ?_
    have := left_set hun
    omega

theorem hasF_some {i : Nat} : ∀ {l : List FOp}, hasF i l = true → ∃ (p : Nat) (f : FOp), l[p]? = some f ∧ f.i = i
  | [], h => by simp [hasF] at h
  | f :: l, h => by
    unfold hasF at h
    cases hb : Nat.beq f.i i
    · rw [hb] at h; obtain ⟨p, g, h1, h2⟩ := hasF_some h; exact ⟨p + 1, g, by simpa using h1, h2⟩
    · exact ⟨0, f, rfl, Nat.eq_of_beq_eq_true hb⟩
theorem flat_dsts : ∀ (ss : Steps) (g : GC) (f : FOp), f ∈ ss.flat g → ∀ x, f.d = some x → memN x ss.dsts = true
  | .nil, _, f, h, _, _ => by simp [Steps.flat] at h
  | .chk _ r, g, f, h, x, hx => flat_dsts r g f h x hx
  | .op i d io r, g, f, h, x, hx => by
    rw [Steps.dsts, memN_app, Bool.or_eq_true]
    rcases List.mem_cons.1 h with rfl | h
    · exact .inl (by rw [memN_dl]; exact decide_eq_true hx)
    · exact .inr (flat_dsts r g f h x hx)
  | .grp gt want inner i pd px r, g, f, h, x, hx => by
    rw [Steps.dsts, memN_app, memN_cons, Bool.or_eq_true, Bool.or_eq_true]
    rcases List.mem_append.1 h with h | h
    · exact .inl (flat_dsts inner _ f h x hx)
    · rcases List.mem_cons.1 h with rfl | h
      · simp only [Option.some.injEq] at hx; subst hx; exact .inr (.inl (by simp))
      · exact .inr (.inr (flat_dsts r g f h x hx))

/-- WHATEVER ORDER IS DRAWN. -/
theorem draw_run (hF : FnsOK C) (hC : CallOK C call) (hS : CallSplit call) (hB : CallBar call) (hlo : C.lo0 ≤ lo) (hw : C.P.follows .mixedOrders = true) (ss : Steps) {ρ : Type} (σ : Env) (H : AH)
    (κ : Env → AH → Option ρ) (r : ρ) (a : Act) (w : World) (μ : MU) (id : Nat) (h : evS call lo ss ρ σ H κ = some r) (hc : chkD C ops nt ss = true) (hσ : ER C.fids μ σ a) (hn : a.tmps.size = nt) (hH : HR C μ H w) (hle : lo ≤ H.length)
    (hk : ∀ σ' H' a' w' μ', Aft C nt μ H w a ss.dsts σ' H' a' w' μ' → κ σ' H' = some r → Q .normal a' w') : (Code.region id ops true).wp C.P Q a w := by
  simp only [chkD, Bool.and_eq_true] at hc
  obtain ⟨⟨⟨c1, c2⟩, c3⟩, c4⟩ := hc
  obtain ⟨σ', H', τ', D', ht, hκ, hlike, _⟩ := flat_of hS ss none [] σ σ H κ r [] h c1 c2 (fun x => .inl rfl) trivial
  obtain ⟨V, Hs, way⟩ := ht.way
  have h0 := way.h0
  have R : Reg C ops nt call lo (ss.flat none) V Hs σ := ⟨hF, hC, hS, hB, hlo, by rw [h0]; exact hle, way.st, ordAt_of c3, flat_chk ss none [] c1, fun i hi => by
    have := List.all_eq_true.1 c4 i (List.mem_range.2 hi)
    exact hasF_some this⟩
  refine wp_region_any hw ?_
  have hlisted : ∀ i, (Array.replicate ops.size false).getD i false = false := fun i => by
    rw [Array.getD_eq_getD_getElem?, Array.getElem?_replicate]
    split <;> rfl
  have hDn0 : ∀ q, Dn (ss.flat none) (Array.replicate ops.size false) q = false := fun q => by
    unfold Dn; split
    · exact hlisted _
    · rfl
  have henv0 : ∀ n, envAt (ss.flat none) V σ (Dn (ss.flat none) (Array.replicate ops.size false)) n = σ := by
    intro n
    induction n with
    | zero => rfl
    | succ n ih =>
      simp only [envAt]
      split
      · rw [hDn0, cond_false]; exact ih
      · exact ih
  have I : Inv C ops nt (ss.flat none) V Hs σ μ w a (Array.replicate ops.size false) a w.drew μ 0 :=
    ⟨by simp, (fun j o e _ hj => by rw [hlisted] at hj; cases hj), (fun x => by rw [henv0]; exact hσ x), hn, rfl, Nat.zero_le _, (by rw [h0]; exact hH.heap rfl), (Below.refl _ _).drew, (fun p f _ hd => by rw [hDn0] at hd; cases hd),
      (fun p f _ hp => absurd hp (by omega)), (fun p f _ hp => absurd hp (by omega)), .refl _, (by rw [h0]; exact hH.len), .refl _ _, fun _ _ => rfl⟩
  have := R.any (Q := Q) (fun listed a' w' μ' m I' hall => ?_) (left (Array.replicate ops.size false)) _ a w.drew μ 0 I rfl
  · have hl : left (Array.replicate ops.size false) = ops.size := by simp [left, List.countP_replicate]
    rw [hl] at this
    exact this
  · have hm : Hs m = H' := by
      rw [← way.hn]
      have : ∀ k, m + k ≤ (ss.flat none).length → Hs (m + k) = Hs m := by
        intro k
        induction k with
        | zero => intro _; rfl
        | succ k ih =>
          intro hk'
          have hf : (ss.flat none)[m + k]? = some ((ss.flat none)[m + k]'(by omega)) := List.getElem?_eq_getElem _
          rw [← Nat.add_assoc, R.quiet hf ?_, ih (by omega)]
          rcases Nat.lt_or_ge ((ss.flat none)[m + k]'(by omega)).cls 2 with h2 | h2
          · exact h2
          · have := I'.loud (m + k) _ hf (hall _ _ hf) h2; omega
      have h1 := this ((ss.flat none).length - m) (by have := I'.mle; omega)
      rw [show m + ((ss.flat none).length - m) = (ss.flat none).length by have := I'.mle; omega] at h1
      exact h1.symm
    have henv : ∀ x, envAt (ss.flat none) V σ (Dn (ss.flat none) listed) (ss.flat none).length x = τ' x := fun x => by
      rw [← way.sn]
      exact envAt_same x _ fun q g _ hg _ => hall q g hg
    refine hk σ' H' a' w' μ' ⟨I'.ext, fun x => ?_, I'.asz, by rw [← hm]; exact I'.hr, I'.below, by rw [← hm, ← h0]; exact I'.keep, I'.defs, fun x hx => I'.same x fun f hf hd => ?_⟩ hκ
    · rcases hlike x with e | ⟨e, _⟩
      · rw [e, ← henv x]; exact I'.er x
      · rw [e]; exact .unk _
    · have := flat_dsts ss none f hf x hd
      rw [hx] at this; cases this
end
end Go.Ab
