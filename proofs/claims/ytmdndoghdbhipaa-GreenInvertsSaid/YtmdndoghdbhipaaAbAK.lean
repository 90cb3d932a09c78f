/- Each operation's law: maps. -/
import Derived.Test.YtmdndoghdbhipaaAbA7
import Derived.MapKept
set_option linter.unusedSimpArgs false
set_option linter.unusedVariables false
namespace Go.Ab
open Go Go.RowKit

/-- The keys that a map's type has: whole numbers, or strings. -/
def keyD (st : Bool) : TypeDesc → Bool
  | .int _ => !st
  | .string => st
  | _ => false
def keyB (P : Program) (st : Bool) (t : TypeId) : Bool := match P.underlying t with | some d => keyD st d | none => false
/-- The types of a map's keys and values. -/
def mapB (P : Program) (t : TypeId) : Option (TypeId × TypeId) :=
  match P.underlying t with
  | some (.map k e) => some (k, e)
  | _ => none
theorem map_und {P : Program} {t k e : TypeId} (h : mapB P t = some (k, e)) : P.underlying t = some (.map k e) := by
  unfold mapB at h; split at h
  · rename_i k' e' he; rw [he]; cases h; rfl
  · simp at h

section
variable {fids : List Nat} {μ : MU}
theorem MR.len : ∀ {es : List (AV × AV)} {ms : List MapEntry}, MR fids μ es ms → es.length = ms.length
  | [], [], _ => rfl
  | _ :: _, _ :: _, h => by simp [MR.len h.2.2]
theorem MR.snoc {k v : AV} {m : MapEntry} (hk : VR fids μ k m.key) (hv : VR fids μ v m.val) : ∀ {es : List (AV × AV)} {ms : List MapEntry}, MR fids μ es ms → MR fids μ (es ++ [(k, v)]) (ms ++ [m])
  | [], [], _ => ⟨hk, hv, trivial⟩
  | _ :: _, _ :: _, h => ⟨h.1, h.2.1, MR.snoc hk hv h.2.2⟩
theorem MR.set {k v : AV} {m : MapEntry} (hk : VR fids μ k m.key) (hv : VR fids μ v m.val) : ∀ {es : List (AV × AV)} {ms : List MapEntry} (i : Nat), MR fids μ es ms → MR fids μ (es.set i (k, v)) (ms.set i m)
  | [], [], _, _ => trivial
  | _ :: _, _ :: _, 0, h => ⟨hk, hv, h.2.2⟩
  | _ :: _, _ :: _, i + 1, h => ⟨h.1, h.2.1, MR.set hk hv i h.2.2⟩
theorem sameK_run {st : Bool} {d : TypeDesc} {k k' : AV} {c c' : Value} {b : Bool} (hd : keyD st d = true) (hk : VR fids μ k c) (hk' : VR fids μ k' c') (h : sameK st k k' = some b) : Instr.sameNow d c c' = some b ∧ (b = true → c = c' ∧ (∀ n, Instr.sameBits n c c' = true)) := by
  unfold sameK at h
  split at h
  · rename_i j a j' a'
    cases hk; cases hk'
    cases st <;> simp at h
    cases d <;> simp [keyD] at hd
    obtain ⟨h1, h2⟩ := h
    subst h1; subst h2
    refine ⟨by simp [Instr.sameNow], fun hb => ?_⟩
    have : a = a' := by simpa using hb
    subst this
    exact ⟨rfl, fun n => by cases n <;> simp [Instr.sameBits]⟩
  · rename_i a a'
    cases hk; cases hk'
    cases st <;> simp at h
    cases d <;> simp [keyD] at hd
    subst h
    refine ⟨rfl, fun hb => ?_⟩
    have : a = a' := by
      obtain ⟨x⟩ := a; obtain ⟨y⟩ := a'
      have : (x == y) = true := hb
      rw [eq_of_beq this]
    subst this
    exact ⟨rfl, fun n => by cases n <;> exact hb⟩
  · simp at h
/-- What is found. -/
theorem findM_run {st : Bool} {d : TypeDesc} {k : AV} {c : Value} (hd : keyD st d = true) (hk : VR fids μ k c) : ∀ (es : List (AV × AV)) (ms : List MapEntry) (i : Nat) (r : Option (Nat × AV)), MR fids μ es ms → findM st k es i = some r →
    (r = none ∧ Instr.findNow d c ms i = some none) ∨ ∃ j v m, r = some (i + j, v) ∧ ms[j]? = some m ∧ Instr.findNow d c ms i = some (some (i + j, m.val)) ∧ VR fids μ v m.val ∧ m.key = c ∧ (∀ n, Instr.sameBits n m.key c = true)
  | [], [], i, r, _, h => by simp [findM] at h; exact .inl ⟨h.symm, rfl⟩
  | e :: es, m :: ms, i, r, hm, h => by
    obtain ⟨h1, h2, h3⟩ := hm
    unfold findM at h
    split at h
    · rename_i hs
      cases h
      obtain ⟨g1, g2⟩ := sameK_run hd hk h1 hs
      obtain ⟨g3, g4⟩ := g2 rfl
      refine .inr ⟨0, _, m, rfl, rfl, by simp [Instr.findNow, g1], h2, g3.symm, fun n => ?_⟩
      rw [← g3] at g4 ⊢; exact g4 n
    · rename_i hs
      obtain ⟨g1, _⟩ := sameK_run hd hk h1 hs
      rcases findM_run hd hk es ms (i + 1) r h3 h with ⟨k1, k2⟩ | ⟨j, v, m', k1, k2, k3, k4⟩
      · exact .inl ⟨k1, by simp [Instr.findNow, g1, k2]⟩
      · exact .inr ⟨j + 1, v, m', by rw [k1, show i + 1 + j = i + (j + 1) by omega], by simpa using k2, by simp only [Instr.findNow, g1, k3, show i + 1 + j = i + (j + 1) by omega], k4⟩
    · simp at h
  | [], _ :: _, _, _, hm, _ => hm.elim
  | _ :: _, [], _, _, hm, _ => hm.elim
theorem checkKey_run {P : Program} {w : World} {st : Bool} {t : TypeId} {d : TypeDesc} {c : Value} {em : Bool} (hu : P.underlying t = some d) (hd : keyD st d = true) : (Instr.checkKey em 10000 t c).run P w = .ok () w := by
  show (Instr.checkKey em (9999 + 1) t c).run P w = _
  generalize 9999 = n
  unfold Instr.checkKey
  cases d <;> simp [keyD] at hd <;> simp [underlying, hu]
theorem findKey_run {P : Program} {w : World} {t : TypeId} {d : TypeDesc} {c : Value} {ms : List MapEntry} {r : Option (Nat × Value)} (hu : P.underlying t = some d) (h : Instr.findNow d c ms 0 = some r) : (Instr.findKey t c ms).run P w = .ok r w := by
  simp [Instr.findKey, underlying, hu, h]
theorem VR.map_inv {m : Option Nat} {c : Value} (h : VR fids μ (.map m) c) : (m = none ∧ c = .map none) ∨ ∃ b e, m = some b ∧ c = .map (some e.B) ∧ μ[b]? = some (some e) := by
  cases h with
  | nilmap => exact .inl ⟨rfl, rfl⟩
  | map b e he => exact .inr ⟨b, e, rfl, rfl, he⟩
end

section
variable {ρ : Type} {r : ρ}
theorem entries_some {H : AH} {m : Option Nat} {κ : List (AV × AV) → Option ρ} (h : entries H m κ = some r) : ∃ es, (m = none ∧ es = [] ∨ ∃ b, m = some b ∧ H[b]? = some (.map es)) ∧ κ es = some r := by
  unfold entries at h
  split at h
  · exact ⟨[], .inl ⟨rfl, rfl⟩, h⟩
  · split at h
    · rename_i es he; exact ⟨es, .inr ⟨_, rfl, he⟩, h⟩
    · simp at h
theorem entries_eq {H : AH} {m : Option Nat} {es : List (AV × AV)} (h : m = none ∧ es = [] ∨ ∃ b, m = some b ∧ H[b]? = some (.map es)) {ρ' : Type} {κ : List (AV × AV) → Option ρ'} : entries H m κ = κ es := by
  rcases h with ⟨rfl, rfl⟩ | ⟨b, rfl, hb⟩
  · rfl
  · simp only [entries, hb]
theorem mlook_some {st : Bool} {H : AH} {m : Option Nat} {k : AV} {κ : Option AV → Option ρ} (h : mlook st H m k κ = some r) : ∃ es q, (m = none ∧ es = [] ∨ ∃ b, m = some b ∧ H[b]? = some (.map es)) ∧ findM st k es 0 = some q ∧ κ (q.map (·.2)) = some r := by
  obtain ⟨es, h1, h⟩ := entries_some h
  split at h
  · rename_i q hq; exact ⟨es, q, h1, hq, h⟩
  · simp at h
theorem mlook_eq {st : Bool} {H : AH} {m : Option Nat} {k : AV} {es : List (AV × AV)} {q : Option (Nat × AV)} (h : m = none ∧ es = [] ∨ ∃ b, m = some b ∧ H[b]? = some (.map es)) (hq : findM st k es 0 = some q) {ρ' : Type} {κ : Option AV → Option ρ'} : mlook st H m k κ = κ (q.map (·.2)) := by
  unfold mlook; rw [entries_eq h]; simp only [hq]
theorem mput_some {st : Bool} {lo : Nat} {H : AH} {m : Option Nat} {k v : AV} {κ : AH → Option ρ} (h : mput st lo H m k v κ = some r) : ∃ b es q, m = some b ∧ H[b]? = some (.map es) ∧ lo ≤ b ∧ findM st k es 0 = some q ∧
    (∀ (ρ' : Type) (κ' : AH → Option ρ'), mput st lo H m k v κ' = κ' (H.set b (.map (match q with | some (i, _) => es.set i (k, v) | none => es ++ [(k, v)])))) ∧ κ (H.set b (.map (match q with | some (i, _) => es.set i (k, v) | none => es ++ [(k, v)]))) = some r := by
  unfold mput at h
  split at h
  · simp at h
  · rename_i b
    split at h
    · rename_i es he
      obtain ⟨hc, h⟩ := cond_none h
      have hc' := of_decide_eq_true hc
      split at h
      · rename_i i v' hq; exact ⟨b, es, _, rfl, he, hc', hq, fun _ _ => by simp only [mput, he, hc, cond_true, hq], h⟩
      · rename_i hq; exact ⟨b, es, _, rfl, he, hc', hq, fun _ _ => by simp only [mput, he, hc, cond_true, hq], h⟩
      · simp at h
    · simp at h
end

section
variable {C : Ctx} {o : Oper} {a : Act} {w : World} {μ : MU} {H H' : AH} {σ : Env} {v : AV} {lo : Nat} {call : CallT}

theorem push_map (hH : HR C μ H w) : HR C (μ ++ [some ⟨w.heap.size, 0, 0, 1⟩]) (H ++ [.map []]) (w.alloc (.map #[] 0)) := by
  have hlow := hH.low
  refine hH.push _ _ _ rfl ⟨#[], 0, ?_, trivial, trivial, rfl, by simp⟩
  show (w.heap.push _)[w.heap.size]? = _
  simp
theorem op_mkm {t k e : TypeId} {r : Option Operand} {r' : Option Opd} (hop : o.op = .makeMap t r) (ht : mapB C.P t = some (k, e)) (hr : match r, r' with | none, none => True | some x, some y => chkOpd C.fids x y = true | _, _ => False)
    (h : evOp call lo (.mkm r') σ H pr = some (v, H')) (hσ : ER C.fids μ σ a) (hH : HR C μ H w) : Runs C o a w (Done C μ H w v H') := by
  have fin : v = .map (some H.length) → H' = H ++ [.map []] → (execOp a.eval o).run C.P w = .ok (.value (.map (some w.heap.size))) (w.alloc (.map #[] 0)) → Runs C o a w (Done C μ H w v H') := by
    intro e1 e2 he
    subst e1; subst e2
    refine Runs.value he ⟨_, ⟨_, rfl⟩, ?_, push_map hH, (Below.refl _ _).alloc hH.base _, keep_snoc hH _⟩
    exact .map H.length ⟨w.heap.size, 0, 0, 1⟩ (by rw [← hH.len]; simp)
  simp only [evOp] at h
  cases r' with
  | none =>
    cases r with
    | some x => exact hr.elim
    | none =>
      obtain ⟨g1, g2⟩ := pr_inj h
      exact fin g1.symm g2.symm (by simp [execOp, hop, Instr.makeMap])
  | some y =>
    cases r with
    | none => exact hr.elim
    | some x =>
      obtain ⟨n, hn, h⟩ := asI_some h
      obtain ⟨g1, g2⟩ := pr_inj h
      have vx := chkOpd_sound hr hσ
      rw [hn] at vx
      have hex := vx.int_inv
      exact fin g1.symm g2.symm (by simp [execOp, hop, Instr.makeMap, underlying, map_und ht, hex, Go.asInt, asIntOf])
theorem op_look {t kt et : TypeId} {st ok : Bool} {l : Lf} {z : AV} {zc : Value} {x y : Operand} {x' y' : Opd} (hop : o.op = .lookup t x y ok) (ht : mapB C.P t = some (kt, et)) (hk : keyB C.P st kt = true) (hz : zeroB C.P et = some zc) (hzc : chkV zc z = true)
    (hx : chkOpd C.fids x x' = true) (hy : chkOpd C.fids y y' = true) (h : evOp call lo (.look st l z x' y' ok) σ H pr = some (v, H')) (hσ : ER C.fids μ σ a) (hH : HR C μ H w) : Runs C o a w (Done C μ H w v H') := by
  simp only [evOp] at h
  obtain ⟨m, hm, h⟩ := asM_some h
  obtain ⟨es, q, h1, h2, h⟩ := mlook_some h
  have h := castLf_some h
  obtain ⟨g1, g2⟩ := pr_inj h
  subst g1; subst g2
  have vx := chkOpd_sound hx hσ
  have vy := chkOpd_sound hy hσ
  rw [hm] at vx
  obtain ⟨d, hd, hkd⟩ : ∃ d, C.P.underlying kt = some d ∧ keyD st d = true := by
    unfold keyB at hk; split at hk
    · rename_i d hd; exact ⟨d, hd, hk⟩
    · simp at hk
  obtain ⟨ms, clock, hms, hmr⟩ : ∃ (ms : Array MapEntry) (clock : Nat), (a.eval x = .map none ∧ ms = #[] ∨ ∃ B, a.eval x = .map (some B) ∧ w.heap[B]? = some (.map ms clock)) ∧ MR C.fids μ es ms.toList := by
    rcases vx.map_inv with ⟨rfl, hc⟩ | ⟨b, e, rfl, hc, he⟩
    · rcases h1 with ⟨_, rfl⟩ | ⟨_, h, _⟩
      · exact ⟨#[], 0, .inl ⟨hc, rfl⟩, trivial⟩
      · cases h
    · rcases h1 with ⟨h, _⟩ | ⟨b', h, hb⟩
      · cases h
      · cases h
        obtain ⟨ms, clock, k1, k2, _⟩ := hH.blk b _ e hb he
        exact ⟨ms, clock, .inr ⟨_, hc, k1⟩, k2⟩
  have hex : ∀ (r : Value) (b : Bool), (∀ f : Option (Nat × Value), Instr.findNow d (a.eval y) ms.toList 0 = some f → (match f with | some (_, u) => (u, true) | none => (zc, false)) = (r, b)) → ∀ f, Instr.findNow d (a.eval y) ms.toList 0 = some f → (execOp a.eval o).run C.P w = .ok (.value (if ok then .tuple #[r, .bool b] else r)) w := by
    intro r b hrb f hf
    have hrb := hrb f hf
    have hck : ∀ em, (Instr.checkKey em 10000 kt (a.eval y)).run C.P w = .ok () w := fun em => checkKey_run hd hkd
    have hfk := findKey_run (w := w) hd hf
    rcases hms with ⟨hc, rfl⟩ | ⟨B, hc, hB⟩
    · simp only [execOp, hop, Instr.lookup, Sem.run_bind, underlying, run_program, map_und ht, Sem.run_pure, Result.andThen_ok, hc, hck, hfk]
      cases f with
      | none => simp at hrb; obtain ⟨rfl, rfl⟩ := hrb; simp [zero_run C.P w hz]
      | some p => obtain ⟨_, u⟩ := p; simp at hrb; obtain ⟨rfl, rfl⟩ := hrb; simp
    · simp only [execOp, hop, Instr.lookup, Sem.run_bind, underlying, run_program, map_und ht, Sem.run_pure, Result.andThen_ok, hc, MapKept.run_getObj_map hB, hck, hfk]
      cases f with
      | none => simp at hrb; obtain ⟨rfl, rfl⟩ := hrb; simp [zero_run C.P w hz]
      | some p => obtain ⟨_, u⟩ := p; simp at hrb; obtain ⟨rfl, rfl⟩ := hrb; simp
  rcases findM_run hkd vy es ms.toList 0 q hmr h2 with ⟨rfl, hf⟩ | ⟨j, u, m', rfl, hj, hf, hu, _⟩
  · refine Runs.value (hex zc false (fun f hf' => by rw [hf] at hf'; cases hf'; rfl) _ hf) (done_same hH ?_)
    have := chkV_sound (fids := C.fids) (μ := μ) hzc
    cases ok
    · simpa using this
    · exact .tup [_, _] [zc, .bool false] (.cons _ _ _ _ (by simpa using this) (.cons _ _ _ _ (.bool _) .nil))
  · refine Runs.value (hex m'.val true (fun f hf' => by rw [hf] at hf'; cases hf'; rfl) _ hf) (done_same hH ?_)
    cases ok
    · simpa using hu
    · exact .tup [_, _] [m'.val, .bool true] (.cons _ _ _ _ (by simpa using hu) (.cons _ _ _ _ (.bool _) .nil))
theorem op_lenm {t k e : TypeId} {x : Operand} {x' : Opd} {ats : Array TypeId} (hop : o.op = .call ⟨.builtin .len, #[x], ats⟩) (h0 : ats[0]? = some t) (ht : mapB C.P t = some (k, e)) (hx : chkOpd C.fids x x' = true)
    (h : evOp call lo (.lenm x') σ H pr = some (v, H')) (hσ : ER C.fids μ σ a) (hH : HR C μ H w) : Runs C o a w (Done C μ H w v H') := by
  simp only [evOp] at h
  obtain ⟨m, hm, h⟩ := asM_some h
  obtain ⟨es, h1, h⟩ := entries_some h
  obtain ⟨g1, g2⟩ := pr_inj h
  subst g1; subst g2
  have vx := chkOpd_sound hx hσ
  rw [hm] at vx
  rcases vx.map_inv with ⟨rfl, hc⟩ | ⟨b, e', rfl, hc, he⟩
  · rcases h1 with ⟨_, rfl⟩ | ⟨_, h, _⟩
    · exact Runs.value (c := .int .i64 0) (by simp [execOp, hop, resolve, invoke, builtin, Builtin.len_, h0, hc, underlying, map_und ht, goInt]) (done_same hH (.int _ _))
    · cases h
  · rcases h1 with ⟨h, _⟩ | ⟨b', h, hb⟩
    · cases h
    · cases h
      obtain ⟨ms, clock, k1, k2, _⟩ := hH.blk b _ e' hb he
      have hl := k2.len
      exact Runs.value (c := .int .i64 ms.size) (by simp [execOp, hop, resolve, invoke, builtin, Builtin.len_, h0, hc, underlying, map_und ht, goInt, MapKept.run_getObj_map k1]) (done_same hH (by rw [hl, Array.length_toList]; exact .int _ _))
theorem op_mupd {t kt et : TypeId} {st : Bool} {x y u : Operand} {x' y' u' : Opd} (hop : o.op = .mapUpdate t x y u ∨ o.op = .insert t x y u) (ht : mapB C.P t = some (kt, et)) (hk : keyB C.P st kt = true)
    (hx : chkOpd C.fids x x' = true) (hy : chkOpd C.fids y y' = true) (hu : chkOpd C.fids u u' = true) (hlo : C.lo0 ≤ lo)
    (h : evOp call lo (.mupd st x' y' u') σ H pr = some (v, H')) (hσ : ER C.fids μ σ a) (hH : HR C μ H w) : Runs C o a w (Done C μ H w v H') := by
  simp only [evOp] at h
  obtain ⟨m, hm, h⟩ := asM_some h
  obtain ⟨b, es, q, rfl, hb, hlb, hq, _, h⟩ := mput_some h
  obtain ⟨g1, g2⟩ := pr_inj h
  subst g1; subst g2
  have vx := chkOpd_sound hx hσ
  have vy := chkOpd_sound hy hσ
  have vu := chkOpd_sound hu hσ
  rw [hm] at vx
  obtain ⟨d, hd, hkd⟩ : ∃ d, C.P.underlying kt = some d ∧ keyD st d = true := by
    unfold keyB at hk; split at hk
    · rename_i d hd; exact ⟨d, hd, hk⟩
    · simp at hk
  rcases vx.map_inv with ⟨h, _⟩ | ⟨b', e, hbb, hc, he⟩
  · cases h
  cases hbb
  have hlo0 : C.lo0 ≤ b := Nat.le_trans hlo hlb
  obtain ⟨ms, clock, k1, k2, k3, k4, k5⟩ := hH.blk b _ e hb he
  have hBs : e.B < w.heap.size := (hH.own b e he).1
  have hml := k2.len
  rw [Array.length_toList] at hml
  have hexec : ∀ {w'}, (Instr.mapUpdate t (.map (some e.B)) (a.eval y) (a.eval u)).run C.P w = .ok () w' → (execOp a.eval o).run C.P w = .ok .skip w' := fun {w'} hr => by
    rcases hop with hop | hop <;> simp [execOp, hop, hc, hr]
  have hck : (Instr.checkKey false 10000 kt (a.eval y)).run C.P w = .ok () w := checkKey_run hd hkd
  have fin : ∀ (ms' : Array MapEntry) (es' : List (AV × AV)) (ck : Nat), (Instr.mapUpdate t (.map (some e.B)) (a.eval y) (a.eval u)).run C.P w = .ok () { w with heap := w.heap.setIfInBounds e.B (.map ms' ck) } →
      MR C.fids μ es' ms'.toList → ck = ms'.size → (∀ (i : Nat) (m : MapEntry), ms'.toList[i]? = some m → m.born = i) → Runs C o a w (Done C μ H w (.tup []) (H.set b (.map es'))) := by
    intro ms' es' ck hr hmr hck hborn
    have hget : ∀ k, k ≠ e.B → (w.heap.setIfInBounds e.B (.map ms' ck))[k]? = w.heap[k]? := fun k hk => by rw [Array.getElem?_setIfInBounds_ne (Ne.symm hk)]
    refine Runs.skip (hexec hr) ⟨μ, .refl _, ?_, ?_, ⟨rfl, rfl, rfl, by simp, fun k hk => hget k (by have := (hH.own b e he).2 hlo0; omega)⟩, fun i hi => ?_⟩
    · exact .tup [] [] .nil
    · exact hH.change hb (by simp) he hlo0 (by simp) (fun k _ hk => hget k hk) ⟨ms', ck, by simp [Array.getElem?_setIfInBounds_self_of_lt hBs], hmr, hlo0, hck, hborn⟩
    · have hne : b ≠ i := fun e' => by subst e'; rw [hi] at he; cases he
      rw [List.getElem?_set_ne hne]
  rcases findM_run hkd vy es ms.toList 0 q k2 hq with ⟨rfl, hf⟩ | ⟨j, v', m', rfl, hj, hf, _, hkey, hbits⟩
  · refine fin (ms.push { key := a.eval y, val := a.eval u, born := clock }) _ (clock + 1) ?_ ?_ (by simp [k4]) (fun i m hi => ?_)
    · simp [Instr.mapUpdate, underlying, map_und ht, MapKept.run_getObj_map k1, hck, findKey_run hd hf, MapKept.run_setObj_map _ k1]
    · simp only [Array.toList_push]
      exact k2.snoc vy vu
    · simp only [Array.toList_push] at hi
      rw [getElem?_snoc] at hi
      by_cases hil : i = ms.toList.length
      · rw [if_pos hil] at hi; cases hi; simp [k4, hil]
      · rw [if_neg hil] at hi; exact k5 i m hi
  · have hjl : j < ms.size := by have := (List.getElem?_eq_some_iff.1 hj).1; simpa using this
    have hja : ms[j]? = some m' := by simpa using hj
    simp only [Nat.zero_add] at hf ⊢
    have hstay : (Instr.keyThatStays m'.key (a.eval y)).run C.P w = .ok (a.eval y) w := by simp [Instr.keyThatStays, hbits]
    refine fin (ms.modify j fun e => { e with key := a.eval y, val := a.eval u }) _ clock ?_ ?_ (by simp [k4]) (fun i m hi => ?_)
    · simp [Instr.mapUpdate, underlying, map_und ht, MapKept.run_getObj_map k1, hck, findKey_run hd hf, hja, hstay, MapKept.run_setObj_map _ k1]
    · have : (ms.modify j fun e => { e with key := a.eval y, val := a.eval u }).toList = ms.toList.set j { m' with key := a.eval y, val := a.eval u } := by
        apply List.ext_getElem?
        intro i
        simp only [Array.getElem?_toList, Array.getElem?_modify, List.getElem?_set]
        by_cases hij : j = i
        · subst hij
          have : ms[j].born = m'.born := by rw [Array.getElem?_eq_getElem hjl] at hja; cases hja; rfl
          simp [hjl, this]
        · simp [hij]
      rw [this]
      exact k2.set vy vu j
    · simp only [Array.getElem?_toList, Array.getElem?_modify] at hi
      by_cases hij : j = i
      · subst hij
        rw [if_pos rfl, hja] at hi
        simp only [Option.map_some, Option.some.injEq] at hi
        subst hi
        exact k5 j m' hj
      · rw [if_neg hij] at hi; exact k5 i m (by simpa using hi)
end
end Go.Ab
