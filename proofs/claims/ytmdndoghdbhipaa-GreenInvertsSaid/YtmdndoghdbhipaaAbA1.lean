/- The abstract evaluator: values, heap, code in labelled pieces, and what they do. -/
import GoSem.Core.Code
import GoSem.Core.View
import GoSem.Op.String
namespace Go.Ab
open Go

structure Pt where
  b : Nat
  o : Nat

structure Sl where
  p : Option Pt
  len : Nat

/-- Values: 'unk' stands for any value at all. -/
inductive AV where
  | unk
  | int (k : IntKind) (n : Int)
  | bool (b : Bool)
  | str (s : ByteArray)
  | sl (s : Sl)
  | ptr (p : Option Pt)
  | map (r : Option Nat)
  | clo (f : Nat) (caps : List AV)
  | nilf
  | ifc (t : Nat) (v : AV)
  | nili
  | agg (l : List AV)
  | tup (l : List AV)

/-- Blocks of the heap. -/
inductive Blk where
  | cells (vs : List AV) (sz : Nat)
  | map (es : List (AV × AV))
  | dead

abbrev AH := List Blk
abbrev Env := Nat → AV

def put (σ : Env) (d : Nat) (v : AV) : Env := fun x => bif Nat.beq x d then v else σ x
def putO (σ : Env) (d : Option Nat) (v : AV) : Env := match d with | some d => put σ d v | none => σ
def memN (x : Nat) : List Nat → Bool
  | [] => false
  | y :: l => bif Nat.beq x y then true else memN x l
def forget (σ : Env) (l : List Nat) : Env := fun x => bif memN x l then .unk else σ x
def envOf : List Nat → List AV → Env
  | s :: ss, v :: vs => fun x => bif Nat.beq x s then v else envOf ss vs x
  | _, _ => fun _ => .unk

/-- Types of one cell. -/
inductive Lf where
  | int (k : IntKind) | bool | str | sl | ptr | map | any

inductive T1 where
  | lf (l : Lf)
  | agg (ls : List Lf)

inductive Ty where
  | one (t : T1)
  | tup (ts : List T1)

section
variable {ρ : Type}

def asI (k : IntKind) (v : AV) (κ : Int → Option ρ) : Option ρ :=
  match v with
  | .int k' n => bif decide (k' = k) then κ n else none
  | _ => none
/-- A whole number of any kind. -/
def asN (v : AV) (κ : Int → Option ρ) : Option ρ :=
  match v with
  | .int _ n => κ n
  | _ => none
def asB (v : AV) (κ : Bool → Option ρ) : Option ρ :=
  match v with
  | .bool b => κ b
  | _ => none
def asStr (v : AV) (κ : ByteArray → Option ρ) : Option ρ :=
  match v with
  | .str s => κ s
  | _ => none
def asS (v : AV) (κ : Sl → Option ρ) : Option ρ :=
  match v with
  | .sl s => κ s
  | _ => none
def asPO (v : AV) (κ : Option Pt → Option ρ) : Option ρ :=
  match v with
  | .ptr p => κ p
  | _ => none
def asP (v : AV) (κ : Pt → Option ρ) : Option ρ :=
  match v with
  | .ptr (some p) => κ p
  | _ => none
def asM (v : AV) (κ : Option Nat → Option ρ) : Option ρ :=
  match v with
  | .map r => κ r
  | _ => none
def asAgg (v : AV) (κ : List AV → Option ρ) : Option ρ :=
  match v with
  | .agg l => κ l
  | _ => none
def asTup (v : AV) (κ : List AV → Option ρ) : Option ρ :=
  match v with
  | .tup l => κ l
  | _ => none

def castLf (l : Lf) (v : AV) (κ : AV → Option ρ) : Option ρ :=
  match l with
  | .int k => asI k v fun n => κ (.int k n)
  | .bool => asB v fun b => κ (.bool b)
  | .str => asStr v fun s => κ (.str s)
  | .sl => asS v fun s => κ (.sl s)
  | .ptr => asPO v fun p => κ (.ptr p)
  | .map => asM v fun p => κ (.map p)
  | .any => κ v
def castLfs (ls : List Lf) (vs : List AV) (κ : List AV → Option ρ) : Option ρ :=
  match ls with
  | [] => (match vs with | [] => κ [] | _ :: _ => none)
  | l :: ls => (match vs with | v :: vs => castLf l v fun v' => castLfs ls vs fun vs' => κ (v' :: vs') | [] => none)
def castT1 (t : T1) (v : AV) (κ : AV → Option ρ) : Option ρ :=
  match t with
  | .lf l => castLf l v κ
  | .agg ls => asAgg v fun vs => castLfs ls vs fun vs' => κ (.agg vs')
def castT1s (ls : List T1) (vs : List AV) (κ : List AV → Option ρ) : Option ρ :=
  match ls with
  | [] => (match vs with | [] => κ [] | _ :: _ => none)
  | l :: ls => (match vs with | v :: vs => castT1 l v fun v' => castT1s ls vs fun vs' => κ (v' :: vs') | [] => none)
def castTy (t : Ty) (v : AV) (κ : AV → Option ρ) : Option ρ :=
  match t with
  | .one t => castT1 t v κ
  | .tup ts => asTup v fun vs => castT1s ts vs fun vs' => κ (.tup vs')
end

/-- Not 'unk' and no tuple: what it takes in memory is known. -/
def known : AV → Bool
  | .unk => false
  | .tup _ => false
  | _ => true
/-- A value of one cell. -/
def single : AV → Bool
  | .unk => false
  | .tup _ => false
  | .agg _ => false
  | _ => true
def singles : List AV → Bool
  | [] => true
  | v :: l => bif single v then singles l else false


/-! ### Memory -/

def cellsOf (H : AH) (b : Nat) : Option (List AV) :=
  match H[b]? with
  | some (.cells vs _) => some vs
  | _ => none
/-- n cells from a place on. -/
def range (vs : List AV) (o n : Nat) : Option (List AV) := if o + n ≤ vs.length then some ((vs.drop o).take n) else none

section
variable {ρ : Type}
def ldc (H : AH) (p : Pt) (κ : AV → Option ρ) : Option ρ :=
  match H[p.b]? with
  | some (.cells vs _) => (match vs[p.o]? with | some v => κ v | none => none)
  | _ => none
def ldn (H : AH) (p : Pt) (n : Nat) (κ : List AV → Option ρ) : Option ρ :=
  match H[p.b]? with
  | some (.cells vs _) => bif decide (p.o + n ≤ vs.length) then κ ((vs.drop p.o).take n) else none
  | _ => none
def ldT (H : AH) (t : T1) (p : Pt) (κ : AV → Option ρ) : Option ρ :=
  match t with
  | .lf l => ldc H p fun v => castLf l v κ
  | .agg ls => ldn H p ls.length fun vs => castLfs ls vs fun vs' => κ (.agg vs')
/-- The cells vs, with those of 'us' laid over from 'o' on. -/
def overlay {α : Type} (vs : List α) (o : Nat) (us : List α) : List α := vs.take o ++ us ++ vs.drop (o + us.length)
def stn (lo : Nat) (H : AH) (p : Pt) (us : List AV) (κ : AH → Option ρ) : Option ρ :=
  match H[p.b]? with
  | some (.cells vs sz) => bif decide (lo ≤ p.b) && decide (p.o + us.length ≤ vs.length) then κ (H.set p.b (.cells (overlay vs p.o us) sz)) else none
  | _ => none
def stc (lo : Nat) (H : AH) (p : Pt) (u : AV) (κ : AH → Option ρ) : Option ρ :=
  match H[p.b]? with
  | some (.cells vs sz) => bif decide (lo ≤ p.b) && decide (p.o < vs.length) then κ (H.set p.b (.cells (vs.set p.o u) sz)) else none
  | _ => none
def idx (s : Sl) (i : Int) (sz : Nat) (κ : Pt → Option ρ) : Option ρ :=
  match s.p with
  | some p => bif decide (0 ≤ i) && decide (i < (s.len : Int)) then κ ⟨p.b, p.o + i.toNat * sz⟩ else none
  | none => none
def slc (s : Sl) (l h : Int) (sz : Nat) (κ : Sl → Option ρ) : Option ρ :=
  bif decide (0 ≤ l) && decide (l ≤ h) && decide (h ≤ (s.len : Int)) && (decide (l = 0) || decide (sz = 1)) then
    (match s.p with
    | some p => κ ⟨some ⟨p.b, p.o + l.toNat * sz⟩, (h - l).toNat⟩
    | none => κ ⟨none, 0⟩)
  else none
/-- A byte of a string. -/
def stx (s : ByteArray) (i : Int) (κ : Int → Option ρ) : Option ρ :=
  match (if 0 ≤ i then s[i.toNat]? else none) with
  | some b => κ b.toNat
  | none => none
/-- A part of a string. -/
def sts (s : ByteArray) (l h : Int) (κ : ByteArray → Option ρ) : Option ρ :=
  bif decide (0 ≤ l) && decide (l ≤ h) && decide (h ≤ (s.size : Int)) then κ (s.extract l.toNat h.toNat) else none
/-- Two strings, one behind the other. -/
def stc2 (x y : ByteArray) (κ : ByteArray → Option ρ) : Option ρ := bif decide (((x.size + y.size : Nat) : Int) ≤ 9223372036854775807) then κ (x ++ y) else none
/-- Keys of maps: whole numbers and strings. -/
def sameK (st : Bool) : AV → AV → Option Bool
  | .int k a, .int k' b => bif st then none else if k = k' then some (a == b) else none
  | .str a, .str b => bif st then some (a == b) else none
  | _, _ => none
/-- The flag: the keys are strings. -/
def findM (st : Bool) (k : AV) : List (AV × AV) → Nat → Option (Option (Nat × AV))
  | [], _ => some none
  | e :: es, i =>
    match sameK st k e.1 with
    | some true => some (some (i, e.2))
    | some false => findM st k es (i + 1)
    | none => none
def entries (H : AH) (m : Option Nat) (κ : List (AV × AV) → Option ρ) : Option ρ :=
  match m with
  | none => κ []
  | some b => match H[b]? with
    | some (.map es) => κ es
    | _ => none
/-- A new map. -/
def mkm (H : AH) (κ : Nat → AH → Option ρ) : Option ρ := κ H.length (H ++ [.map []])
/-- What a map holds at a key. -/
def mlook (st : Bool) (H : AH) (m : Option Nat) (k : AV) (κ : Option AV → Option ρ) : Option ρ := entries H m fun es => match findM st k es 0 with | some r => κ (r.map (·.2)) | none => none
/-- How many keys there are. -/
def mlen (H : AH) (m : Option Nat) (κ : Int → Option ρ) : Option ρ := entries H m fun es => κ es.length
def mput (st : Bool) (lo : Nat) (H : AH) (m : Option Nat) (k v : AV) (κ : AH → Option ρ) : Option ρ :=
  match m with
  | none => none
  | some b => match H[b]? with
    | some (.map es) => bif decide (lo ≤ b) then (match findM st k es 0 with
      | some (some (i, _)) => κ (H.set b (.map (es.set i (k, v))))
      | some none => κ (H.set b (.map (es ++ [(k, v)])))
      | none => none) else none
    | _ => none
/-- How many bytes a slice that is made or grows may take here. -/
def room : Nat := 70368744177664
/-- A new block of these cells. -/
def alc (H : AH) (zs : List AV) (κ : Pt → AH → Option ρ) : Option ρ := κ ⟨H.length, 0⟩ (H ++ [.cells zs zs.length])
/-- A new slice of these cells, 'len' elements of sz cells. -/
def mkb (H : AH) (cs : List AV) (sz len : Nat) (κ : Sl → AH → Option ρ) : Option ρ := κ ⟨some ⟨H.length, 0⟩, len⟩ (H ++ [.cells cs sz])
def mks (H : AH) (zs : List AV) (bytes : Nat) (l c : Int) (κ : Sl → AH → Option ρ) : Option ρ :=
  bif decide (0 ≤ l) && decide (l ≤ c) && decide (c * bytes ≤ (room : Int)) then
    κ ⟨some ⟨H.length, 0⟩, l.toNat⟩ (H ++ [.cells (List.replicate l.toNat zs).flatten zs.length]) else none
/-- An append of the cells 'us' (n > 0 elements of sz cells). -/
def app (lo : Nat) (H : AH) (s : Sl) (sz bytes : Nat) (us : List AV) (n : Nat) (κ : Sl → AH → Option ρ) : Option ρ :=
  bif decide (n = 0) then κ s H else
  bif decide ((s.len + n) * bytes ≤ room) && decide (us.length = n * sz) && singles us then
    (match s.p with
    | none => bif decide (s.len = 0) then κ ⟨some ⟨H.length, 0⟩, n⟩ (H ++ [.cells us sz]) else none
    | some p =>
      match H[p.b]? with
      | some (.cells vs sz') =>
        bif decide (lo ≤ p.b) && decide (sz' = sz) && decide (p.o + s.len * sz ≤ vs.length) then
          κ ⟨some ⟨H.length, 0⟩, s.len + n⟩ (H.set p.b .dead ++ [.cells ((vs.drop p.o).take (s.len * sz) ++ us) sz])
        else none
      | _ => none)
  else none
def appS (lo : Nat) (H : AH) (s y : Sl) (sz bytes : Nat) (κ : Sl → AH → Option ρ) : Option ρ :=
  match y.p with
  | none => bif decide (y.len = 0) then κ s H else none
  | some q => ldn H q (y.len * sz) fun us => app lo H s sz bytes us y.len κ
/-- What is evaluated: the result's type comes first, so that one thing can be asked for any continuation. -/
abbrev CPS (A : Type) := (ρ : Type) → (A → AH → Option ρ) → Option ρ
def andB (g : Bool) (m : CPS Bool) (H : AH) (κ : Bool → AH → Option ρ) : Option ρ := (bif g then m (Bool × AH) (fun b H' => some (b, H')) else some (false, H)).bind fun p => κ p.1 p.2
def orB (g : Bool) (m : CPS Bool) (H : AH) (κ : Bool → AH → Option ρ) : Option ρ := (bif !g then m (Bool × AH) (fun b H' => some (b, H')) else some (true, H)).bind fun p => κ p.1 p.2
/-- An element of one cell that is read. -/
def rdI (H : AH) (s : Sl) (i : Int) (κ : Int → Option ρ) : Option ρ := idx s i 1 fun p => ldc H p fun v => asI .i64 v κ
def rdB (H : AH) (s : Sl) (i : Int) (κ : Bool → Option ρ) : Option ρ := idx s i 1 fun p => ldc H p fun v => asB v κ
def rdS (H : AH) (s : Sl) (i : Int) (κ : Sl → Option ρ) : Option ρ := idx s i 1 fun p => ldc H p fun v => asS v κ
def W (n : Int) : Int := IntKind.wrap .i64 n
end

/-! ### Operations -/

inductive Opd where
  | t (n : Nat)
  | c (v : AV)

/-- Functions of values alone. -/
inductive PF where
  | bits (op : BinOp) (k : IntKind)
  | shf (op : BinOp) (k k' : IntKind)
  | mx (k : IntKind)
  | mn (k : IntKind)
  | slc (sz : Nat)
  | stx
  | sts
  | sop (op : BinOp)
  | pnil (neg : Bool)

inductive IOp where
  | pf (f : PF) (xs : List Opd)
  | mov (x : Opd)
  | bin (op : BinOp) (k : IntKind) (x y : Opd)
  | beq (neg : Bool) (x y : Opd)
  | not (x : Opd)
  | conv (k k' : IntKind) (x : Opd)
  | ld (t : T1) (x : Opd)
  | st (n : Option Nat) (x v : Opd)
  | fadr (x : Opd) (off : Nat)
  | fld (x : Opd) (off : Nat) (n : Option Nat)
  | iadr (s i : Opd) (sz : Nat)
  | aadr (x i : Opd) (len sz : Nat)
  | alloc (zs : List AV)
  | box (n : Nat) (x : Opd)
  | bld (zs : List AV) (parts : List (Nat × Nat × Opd))
  | bsl (sz : Nat) (zs : List AV) (len : Nat) (parts : List (Nat × Nat × Opd))
  | mksl (zs : List AV) (bytes : Nat) (l c : Opd)
  | len (x : Opd)
  | lens (x : Opd)
  | app (sz bytes : Nat) (s x : Opd)
  | ext (x : Opd) (i : Nat)
  | call (g : Nat) (args : List Opd) (fresh : Bool) (rt : Ty)
  | callv (x : Opd) (args : List Opd) (fresh : Bool) (rt : Ty)
  | mkf (g : Nat) (caps : List Opd)
  | nilck (x : Opd)
  | mkm (r : Option Opd)
  | look (st : Bool) (l : Lf) (z : AV) (m k : Opd) (ok : Bool)
  | mupd (st : Bool) (m k v : Opd)
  | lenm (x : Opd)

def opd (σ : Env) : Opd → AV
  | .t n => σ n
  | .c v => v
def cellsV : AV → List AV
  | .agg l => l
  | v => [v]
section
variable {ρ : Type}
def binI (op : BinOp) (k : IntKind) (a b : Int) (κ : AV → Option ρ) : Option ρ :=
  match op with
  | .add => κ (.int k (k.wrap (a + b)))
  | .sub => κ (.int k (k.wrap (a - b)))
  | .mul => κ (.int k (k.wrap (a * b)))
  | .quo => bif decide (b = 0) then none else κ (.int k (k.wrap (a.tdiv b)))
  | .rem => bif decide (b = 0) then none else κ (.int k (a.tmod b))
  | .eql => κ (.bool (decide (a = b)))
  | .neq => κ (.bool (!decide (a = b)))
  | .lss => κ (.bool (decide (a < b)))
  | .leq => κ (.bool (decide (a ≤ b)))
  | .gtr => κ (.bool (decide (a > b)))
  | .geq => κ (.bool (decide (a ≥ b)))
  | _ => none

def bitsI (op : BinOp) (k : IntKind) (a b : Int) : Int :=
  match op with
  | .and => k.wrap (BitVec.ofInt k.bits a &&& BitVec.ofInt k.bits b).toNat
  | .or => k.wrap (BitVec.ofInt k.bits a ||| BitVec.ofInt k.bits b).toNat
  | .xor => k.wrap (BitVec.ofInt k.bits a ^^^ BitVec.ofInt k.bits b).toNat
  | _ => k.wrap (BitVec.ofInt k.bits a &&& ~~~BitVec.ofInt k.bits b).toNat
def shfI (op : BinOp) (k : IntKind) (a b : Int) : Int :=
  match op with
  | .shl => k.wrap (a * 2 ^ min b.toNat k.bits)
  | _ => a.fdiv (2 ^ min b.toNat k.bits)
def mxI (a b : Int) : Int := if b > a then b else a
def mnI (a b : Int) : Int := if b < a then b else a
def eqS (x y : ByteArray) : Bool := x.toList == y.toList
def ltS (x y : ByteArray) : Bool := Op.bytesLess x.toList y.toList
def sopS (op : BinOp) (x y : ByteArray) (κ : AV → Option ρ) : Option ρ :=
  match op with
  | .add => stc2 x y fun z => κ (.str z)
  | .eql => κ (.bool (eqS x y))
  | .neq => κ (.bool !(eqS x y))
  | .lss => κ (.bool (ltS x y))
  | .leq => κ (.bool (ltS x y || eqS x y))
  | .gtr => κ (.bool !(ltS x y || eqS x y))
  | .geq => κ (.bool !(ltS x y))
  | _ => none
/-- A function of values alone. -/
def evPF (f : PF) (xs : List AV) (κ : AV → Option ρ) : Option ρ :=
  match f with
  | .bits op k => (match xs with | [x, y] => asI k x fun a => asI k y fun b => κ (.int k (bitsI op k a b)) | _ => none)
  | .shf op k k' => (match xs with | [x, y] => asI k x fun a => asI k' y fun b => bif decide (b < 0) then none else κ (.int k (shfI op k a b)) | _ => none)
  | .mx k => (match xs with | [x, y] => asI k x fun a => asI k y fun b => κ (.int k (mxI a b)) | _ => none)
  | .mn k => (match xs with | [x, y] => asI k x fun a => asI k y fun b => κ (.int k (mnI a b)) | _ => none)
  | .slc sz => (match xs with
    | [x, l] => asS x fun s => asN l fun l => slc s l s.len sz fun s' => κ (.sl s')
    | [x, l, h] => asS x fun s => asN l fun l => asN h fun h => slc s l h sz fun s' => κ (.sl s')
    | _ => none)
  | .stx => (match xs with | [x, i] => asStr x fun s => asN i fun i => stx s i fun n => κ (.int .u8 n) | _ => none)
  | .sts => (match xs with
    | [x, l] => asStr x fun s => asN l fun l => sts s l s.size fun s' => κ (.str s')
    | [x, l, h] => asStr x fun s => asN l fun l => asN h fun h => sts s l h fun s' => κ (.str s')
    | _ => none)
  | .sop op => (match xs with | [x, y] => asStr x fun a => asStr y fun b => sopS op a b κ | _ => none)
  | .pnil neg => (match xs with | [x] => asPO x fun p => κ (.bool (bif neg then p.isSome else p.isNone)) | _ => none)

/-- Parts laid over zero cells. -/
def fillP (σ : Env) (zs : List AV) (ps : List (Nat × Nat × Opd)) (κ : List AV → Option ρ) : Option ρ :=
  match ps with
  | [] => κ zs
  | (o, n, x) :: r =>
    bif known (opd σ x) && decide ((cellsV (opd σ x)).length = n) && decide (o + n ≤ zs.length) then fillP σ (overlay zs o (cellsV (opd σ x))) r κ else none

abbrev CallT := (ρ : Type) → Nat → List AV → Nat → AH → (AV → AH → Option ρ) → Option ρ

def evOp (call : CallT) (lo : Nat) (o : IOp) (σ : Env) (H : AH) (κ : AV → AH → Option ρ) : Option ρ :=
  match o with
  | .pf f xs => evPF f (xs.map (opd σ)) fun v => κ v H
  | .mov x => κ (opd σ x) H
  | .bin op k x y => asI k (opd σ x) fun a => asI k (opd σ y) fun b => binI op k a b fun v => κ v H
  | .beq neg x y => asB (opd σ x) fun a => asB (opd σ y) fun b => κ (.bool (bif neg then a != b else a == b)) H
  | .not x => asB (opd σ x) fun a => κ (.bool !a) H
  | .conv k k' x => asI k (opd σ x) fun a => κ (.int k' (k'.wrap a)) H
  | .ld t x => asP (opd σ x) fun p => ldT H t p fun v => κ v H
  | .st n x v => asP (opd σ x) fun p =>
    match n with
    | none => bif single (opd σ v) then stc lo H p (opd σ v) fun H' => κ (.tup []) H' else none
    | some n => asAgg (opd σ v) fun us => bif decide (us.length = n) && singles us then stn lo H p us fun H' => κ (.tup []) H' else none
  | .fadr x off => asP (opd σ x) fun p => κ (.ptr (some ⟨p.b, p.o + off⟩)) H
  | .fld x off n => asAgg (opd σ x) fun vs =>
    match n with
    | none => (match vs[off]? with | some v => κ v H | none => none)
    | some n => bif decide (off + n ≤ vs.length) then κ (.agg ((vs.drop off).take n)) H else none
  | .iadr s i sz => asS (opd σ s) fun s => asN (opd σ i) fun i => idx s i sz fun p => κ (.ptr (some p)) H
  | .aadr x i len sz => asP (opd σ x) fun p => asN (opd σ i) fun i =>
    bif decide (0 ≤ i) && decide (i < (len : Int)) then κ (.ptr (some ⟨p.b, p.o + i.toNat * sz⟩)) H else none
  | .alloc zs => alc H zs fun p H' => κ (.ptr (some p)) H'
  | .box n x => bif known (opd σ x) && decide ((cellsV (opd σ x)).length = n) && singles (cellsV (opd σ x)) then alc H (cellsV (opd σ x)) fun p H' => κ (.ptr (some p)) H' else none
  | .bld zs parts => fillP σ zs parts fun cs => κ (.agg cs) H
  | .bsl sz zs len parts => fillP σ zs parts fun cs => bif singles cs then mkb H cs sz len fun s H' => κ (.sl s) H' else none
  | .mksl zs bytes l c => asI .i64 (opd σ l) fun l => asI .i64 (opd σ c) fun c => mks H zs bytes l c fun s H' => κ (.sl s) H'
  | .len x => asS (opd σ x) fun s => κ (.int .i64 s.len) H
  | .lens x => asStr (opd σ x) fun s => κ (.int .i64 s.size) H
  | .app sz bytes s x => asS (opd σ s) fun s => asS (opd σ x) fun y => appS lo H s y sz bytes fun s' H' => κ (.sl s') H'
  | .ext x i => asTup (opd σ x) fun l => match l[i]? with | some v => κ v H | none => none
  | .callv x args fresh rt =>
    match opd σ x with
    | .clo g caps => call ρ g (args.map (opd σ) ++ caps) (bif fresh then H.length else lo) H fun v H' => castTy rt v fun v' => κ v' H'
    | _ => none
  | .mkf g caps => κ (.clo g (caps.map (opd σ))) H
  | .mkm r => (match r with
    | none => κ (.map (some H.length)) (H ++ [.map []])
    | some n => asI .i64 (opd σ n) fun _ => κ (.map (some H.length)) (H ++ [.map []]))
  | .look st l z m k ok => asM (opd σ m) fun m => mlook st H m (opd σ k) fun r => castLf l (r.getD z) fun v => κ (bif ok then .tup [v, .bool r.isSome] else v) H
  | .mupd st m k v => asM (opd σ m) fun m => mput st lo H m (opd σ k) (opd σ v) fun H' => κ (.tup []) H'
  | .lenm x => asM (opd σ x) fun m => mlen H m fun n => κ (.int .i64 n) H
  | .nilck x => asP (opd σ x) fun p => κ (.ptr (some p)) H
  | .call g args fresh rt => call ρ g (args.map (opd σ)) (bif fresh then H.length else lo) H fun v H' => castTy rt v fun v' => κ v' H'
end

/-- What a region does: operations in a row; 'grp': operations under one guard, and the choice behind them. -/
inductive Steps where
  | nil
  | op (i : Nat) (d : Option Nat) (o : IOp) (rest : Steps)
  | chk (x : Opd) (rest : Steps)
  | grp (gt : Nat) (want : Bool) (inner : Steps) (i pd : Nat) (px : Opd) (rest : Steps)

def dl : Option Nat → List Nat
  | none => []
  | some d => [d]
def Steps.dsts : Steps → List Nat
  | .nil => []
  | .op _ d _ r => dl d ++ r.dsts
  | .chk _ r => r.dsts
  | .grp _ _ inner _ pd _ r => inner.dsts ++ pd :: r.dsts

def aliveB (H : AH) (v : AV) : Bool :=
  match v with
  | .ptr (some p) => (match H[p.b]? with | some (.cells _ _) => true | _ => false)
  | _ => false

def evS (call : CallT) (lo : Nat) : Steps → (ρ : Type) → Env → AH → (Env → AH → Option ρ) → Option ρ
  | .nil, _, σ, H, κ => κ σ H
  | .op _ d o rest, ρ, σ, H, κ => evOp call lo o σ H fun v H' => evS call lo rest ρ (putO σ d v) H' κ
  | .chk x rest, ρ, σ, H, κ => bif aliveB H (opd σ x) then evS call lo rest ρ σ H κ else none
  | .grp gt want inner _ pd px rest, ρ, σ, H, κ =>
    asB (σ gt) fun g =>
      (bif (bif want then g else !g) then evS call lo inner (Bool × AH) σ H (fun σ' H' => asB (opd σ' px) fun b => some (b, H')) else some (!want, H)).bind fun p =>
        evS call lo rest ρ (put (forget σ inner.dsts) pd (.bool p.1)) p.2 κ

/-- A piece's code. -/
inductive IRc where
  | reg (ss : Steps) (next : IRc)
  | ite (c : Opd) (a b : IRc)
  | jump (j : Nat)
  | ret

inductive RV where
  | tmp (t : Nat)
  | cell (t : Nat) (ty : T1)

inductive At where
  | code (n : Nat)
  | inBlock (n : Nat)
  | inLoop (n : Nat)
  deriving DecidableEq

structure Piece where
  sig : List Nat
  todo : List At
  code : IRc

structure Fn where
  np : Nat
  res : List RV
  pieces : List Piece

abbrev Pg := List Fn

section
variable {ρ : Type}
def evRV (r : RV) (σ : Env) (H : AH) (κ : AV → Option ρ) : Option ρ :=
  match r with
  | .tmp t => κ (σ t)
  | .cell t ty => asP (σ t) fun p => ldT H ty p κ
def evRVs : List RV → Env → AH → (List AV → Option ρ) → Option ρ
  | [], _, _, κ => κ []
  | r :: rs, σ, H, κ => evRV r σ H fun v => evRVs rs σ H fun vs => κ (v :: vs)
def evRes (rs : List RV) (σ : Env) (H : AH) (κ : AV → AH → Option ρ) : Option ρ :=
  match rs with
  | [r] => evRV r σ H fun v => κ v H
  | rs => evRVs rs σ H fun vs => κ (.tup vs) H

def evC (call : CallT) (jmp : Nat → List AV → AH → Option ρ) (sigs : Nat → List Nat) (res : List RV) (lo : Nat) (κ : AV → AH → Option ρ) : IRc → Env → AH → Option ρ
  | .reg ss next, σ, H => evS call lo ss ρ σ H fun σ' H' => evC call jmp sigs res lo κ next σ' H'
  | .ite c a b, σ, H => asB (opd σ c) fun t => bif t then evC call jmp sigs res lo κ a σ H else evC call jmp sigs res lo κ b σ H
  | .jump j, σ, H => jmp j ((sigs j).map σ) H
  | .ret, σ, H => evRes res σ H κ
end

def sigOf (f : Fn) (j : Nat) : List Nat :=
  match f.pieces[j]? with
  | some p => p.sig
  | none => []

/-- Function f from its label j on, with k rounds. -/
def run (G : Pg) : Nat → (ρ : Type) → Nat → Nat → List AV → Nat → AH → (AV → AH → Option ρ) → Option ρ
  | 0, _, _, _, _, _, _, _ => none
  | k + 1, ρ, f, j, args, lo, H, κ =>
    match G[f]? with
    | none => none
    | some fn =>
      match fn.pieces[j]? with
      | none => none
      | some pc => bif decide (args.length = pc.sig.length) then evC (fun ρ' g args lo H κ => run G k ρ' g 0 args lo H κ) (fun j args H => run G k ρ f j args lo H κ) (sigOf fn) fn.res lo κ pc.code (envOf pc.sig args) H else none

/-- A call of a value. -/
def callX {ρ : Type} (G : Pg) (k : Nat) (x : AV) (args : List AV) (lo : Nat) (H : AH) (κ : AV → AH → Option ρ) : Option ρ :=
  match x with
  | .clo g caps => run G k ρ g 0 (args ++ caps) lo H κ
  | _ => none

end Go.Ab
