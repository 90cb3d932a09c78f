/- Plain lemmas, and the abstract evaluator with its soundness. No condition. -/
import GoSem.Core.Code
import GoSem.Core.View
import GoSem.Op.String
import Derived.Below
import Derived.Calls
import Derived.Orders
import Derived.IntWalk
import Derived.MapKept
/- The abstract evaluator: values, heap, code in labelled pieces, and what they do. -/
namespace Go.Ab
open Go

structure Pt where
  b : Nat
  o : Nat

structure Sl where
  p : Option Pt
  len : Nat

/-- Values: 'unk' stands for any value at all. -/
inductive AV where
  | unk
  | int (k : IntKind) (n : Int)
  | bool (b : Bool)
  | str (s : ByteArray)
  | sl (s : Sl)
  | ptr (p : Option Pt)
  | map (r : Option Nat)
  | clo (f : Nat) (caps : List AV)
  | nilf
  | ifc (t : Nat) (v : AV)
  | nili
  | agg (l : List AV)
  | tup (l : List AV)

/-- Blocks of the heap. -/
inductive Blk where
  | cells (vs : List AV) (sz : Nat)
  | map (es : List (AV × AV))
  | dead

abbrev AH := List Blk
abbrev Env := Nat → AV

def put (σ : Env) (d : Nat) (v : AV) : Env := fun x => bif Nat.beq x d then v else σ x
def putO (σ : Env) (d : Option Nat) (v : AV) : Env := match d with | some d => put σ d v | none => σ
def memN (x : Nat) : List Nat → Bool
  | [] => false
  | y :: l => bif Nat.beq x y then true else memN x l
def forget (σ : Env) (l : List Nat) : Env := fun x => bif memN x l then .unk else σ x
def envOf : List Nat → List AV → Env
  | s :: ss, v :: vs => fun x => bif Nat.beq x s then v else envOf ss vs x
  | _, _ => fun _ => .unk

/-- Types of one cell. -/
inductive Lf where
  | int (k : IntKind) | bool | str | sl | ptr | map | any

inductive T1 where
  | lf (l : Lf)
  | agg (ls : List Lf)

inductive Ty where
  | one (t : T1)
  | tup (ts : List T1)

section
variable {ρ : Type}

def asI (k : IntKind) (v : AV) (κ : Int → Option ρ) : Option ρ :=
  match v with
  | .int k' n => bif decide (k' = k) then κ n else none
  | _ => none
/-- A whole number of any kind. -/
def asN (v : AV) (κ : Int → Option ρ) : Option ρ :=
  match v with
  | .int _ n => κ n
  | _ => none
def asB (v : AV) (κ : Bool → Option ρ) : Option ρ :=
  match v with
  | .bool b => κ b
  | _ => none
def asStr (v : AV) (κ : ByteArray → Option ρ) : Option ρ :=
  match v with
  | .str s => κ s
  | _ => none
def asS (v : AV) (κ : Sl → Option ρ) : Option ρ :=
  match v with
  | .sl s => κ s
  | _ => none
def asPO (v : AV) (κ : Option Pt → Option ρ) : Option ρ :=
  match v with
  | .ptr p => κ p
  | _ => none
def asP (v : AV) (κ : Pt → Option ρ) : Option ρ :=
  match v with
  | .ptr (some p) => κ p
  | _ => none
def asM (v : AV) (κ : Option Nat → Option ρ) : Option ρ :=
  match v with
  | .map r => κ r
  | _ => none
def asAgg (v : AV) (κ : List AV → Option ρ) : Option ρ :=
  match v with
  | .agg l => κ l
  | _ => none
def asTup (v : AV) (κ : List AV → Option ρ) : Option ρ :=
  match v with
  | .tup l => κ l
  | _ => none

def castLf (l : Lf) (v : AV) (κ : AV → Option ρ) : Option ρ :=
  match l with
  | .int k => asI k v fun n => κ (.int k n)
  | .bool => asB v fun b => κ (.bool b)
  | .str => asStr v fun s => κ (.str s)
  | .sl => asS v fun s => κ (.sl s)
  | .ptr => asPO v fun p => κ (.ptr p)
  | .map => asM v fun p => κ (.map p)
  | .any => κ v
def castLfs (ls : List Lf) (vs : List AV) (κ : List AV → Option ρ) : Option ρ :=
  match ls with
  | [] => (match vs with | [] => κ [] | _ :: _ => none)
  | l :: ls => (match vs with | v :: vs => castLf l v fun v' => castLfs ls vs fun vs' => κ (v' :: vs') | [] => none)
def castT1 (t : T1) (v : AV) (κ : AV → Option ρ) : Option ρ :=
  match t with
  | .lf l => castLf l v κ
  | .agg ls => asAgg v fun vs => castLfs ls vs fun vs' => κ (.agg vs')
def castT1s (ls : List T1) (vs : List AV) (κ : List AV → Option ρ) : Option ρ :=
  match ls with
  | [] => (match vs with | [] => κ [] | _ :: _ => none)
  | l :: ls => (match vs with | v :: vs => castT1 l v fun v' => castT1s ls vs fun vs' => κ (v' :: vs') | [] => none)
def castTy (t : Ty) (v : AV) (κ : AV → Option ρ) : Option ρ :=
  match t with
  | .one t => castT1 t v κ
  | .tup ts => asTup v fun vs => castT1s ts vs fun vs' => κ (.tup vs')
end

/-- Not 'unk' and no tuple: what it takes in memory is known. -/
def known : AV → Bool
  | .unk => false
  | .tup _ => false
  | _ => true
/-- A value of one cell. -/
def single : AV → Bool
  | .unk => false
  | .tup _ => false
  | .agg _ => false
  | _ => true
def singles : List AV → Bool
  | [] => true
  | v :: l => bif single v then singles l else false


/-! ### Memory -/

def cellsOf (H : AH) (b : Nat) : Option (List AV) :=
  match H[b]? with
  | some (.cells vs _) => some vs
  | _ => none
/-- n cells from a place on. -/
def range (vs : List AV) (o n : Nat) : Option (List AV) := if o + n ≤ vs.length then some ((vs.drop o).take n) else none

section
variable {ρ : Type}
def ldc (H : AH) (p : Pt) (κ : AV → Option ρ) : Option ρ :=
  match H[p.b]? with
  | some (.cells vs _) => (match vs[p.o]? with | some v => κ v | none => none)
  | _ => none
def ldn (H : AH) (p : Pt) (n : Nat) (κ : List AV → Option ρ) : Option ρ :=
  match H[p.b]? with
  | some (.cells vs _) => bif decide (p.o + n ≤ vs.length) then κ ((vs.drop p.o).take n) else none
  | _ => none
def ldT (H : AH) (t : T1) (p : Pt) (κ : AV → Option ρ) : Option ρ :=
  match t with
  | .lf l => ldc H p fun v => castLf l v κ
  | .agg ls => ldn H p ls.length fun vs => castLfs ls vs fun vs' => κ (.agg vs')
/-- The cells vs, with those of 'us' laid over from 'o' on. -/
def overlay {α : Type} (vs : List α) (o : Nat) (us : List α) : List α := vs.take o ++ us ++ vs.drop (o + us.length)
def stn (lo : Nat) (H : AH) (p : Pt) (us : List AV) (κ : AH → Option ρ) : Option ρ :=
  match H[p.b]? with
  | some (.cells vs sz) => bif decide (lo ≤ p.b) && decide (p.o + us.length ≤ vs.length) then κ (H.set p.b (.cells (overlay vs p.o us) sz)) else none
  | _ => none
def stc (lo : Nat) (H : AH) (p : Pt) (u : AV) (κ : AH → Option ρ) : Option ρ :=
  match H[p.b]? with
  | some (.cells vs sz) => bif decide (lo ≤ p.b) && decide (p.o < vs.length) then κ (H.set p.b (.cells (vs.set p.o u) sz)) else none
  | _ => none
def idx (s : Sl) (i : Int) (sz : Nat) (κ : Pt → Option ρ) : Option ρ :=
  match s.p with
  | some p => bif decide (0 ≤ i) && decide (i < (s.len : Int)) then κ ⟨p.b, p.o + i.toNat * sz⟩ else none
  | none => none
def slc (s : Sl) (l h : Int) (sz : Nat) (κ : Sl → Option ρ) : Option ρ :=
  bif decide (0 ≤ l) && decide (l ≤ h) && decide (h ≤ (s.len : Int)) && (decide (l = 0) || decide (sz = 1)) then
    (match s.p with
    | some p => κ ⟨some ⟨p.b, p.o + l.toNat * sz⟩, (h - l).toNat⟩
    | none => κ ⟨none, 0⟩)
  else none
/-- A byte of a string. -/
def stx (s : ByteArray) (i : Int) (κ : Int → Option ρ) : Option ρ :=
  match (if 0 ≤ i then s[i.toNat]? else none) with
  | some b => κ b.toNat
  | none => none
/-- A part of a string. -/
def sts (s : ByteArray) (l h : Int) (κ : ByteArray → Option ρ) : Option ρ :=
  bif decide (0 ≤ l) && decide (l ≤ h) && decide (h ≤ (s.size : Int)) then κ (s.extract l.toNat h.toNat) else none
/-- Two strings, one behind the other. -/
def stc2 (x y : ByteArray) (κ : ByteArray → Option ρ) : Option ρ := bif decide (((x.size + y.size : Nat) : Int) ≤ 9223372036854775807) then κ (x ++ y) else none
/-- Keys of maps: whole numbers and strings. -/
def sameK (st : Bool) : AV → AV → Option Bool
  | .int k a, .int k' b => bif st then none else if k = k' then some (a == b) else none
  | .str a, .str b => bif st then some (a == b) else none
  | _, _ => none
/-- The flag: the keys are strings. -/
def findM (st : Bool) (k : AV) : List (AV × AV) → Nat → Option (Option (Nat × AV))
  | [], _ => some none
  | e :: es, i =>
    match sameK st k e.1 with
    | some true => some (some (i, e.2))
    | some false => findM st k es (i + 1)
    | none => none
def entries (H : AH) (m : Option Nat) (κ : List (AV × AV) → Option ρ) : Option ρ :=
  match m with
  | none => κ []
  | some b => match H[b]? with
    | some (.map es) => κ es
    | _ => none
/-- A new map. -/
def mkm (H : AH) (κ : Nat → AH → Option ρ) : Option ρ := κ H.length (H ++ [.map []])
/-- What a map holds at a key. -/
def mlook (st : Bool) (H : AH) (m : Option Nat) (k : AV) (κ : Option AV → Option ρ) : Option ρ := entries H m fun es => match findM st k es 0 with | some r => κ (r.map (·.2)) | none => none
/-- How many keys there are. -/
def mlen (H : AH) (m : Option Nat) (κ : Int → Option ρ) : Option ρ := entries H m fun es => κ es.length
def mput (st : Bool) (lo : Nat) (H : AH) (m : Option Nat) (k v : AV) (κ : AH → Option ρ) : Option ρ :=
  match m with
  | none => none
  | some b => match H[b]? with
    | some (.map es) => bif decide (lo ≤ b) then (match findM st k es 0 with
      | some (some (i, _)) => κ (H.set b (.map (es.set i (k, v))))
      | some none => κ (H.set b (.map (es ++ [(k, v)])))
      | none => none) else none
    | _ => none
/-- How many bytes a slice that is made or grows may take here. -/
def room : Nat := 70368744177664
/-- A new block of these cells. -/
def alc (H : AH) (zs : List AV) (κ : Pt → AH → Option ρ) : Option ρ := κ ⟨H.length, 0⟩ (H ++ [.cells zs zs.length])
/-- A new slice of these cells, 'len' elements of sz cells. -/
def mkb (H : AH) (cs : List AV) (sz len : Nat) (κ : Sl → AH → Option ρ) : Option ρ := κ ⟨some ⟨H.length, 0⟩, len⟩ (H ++ [.cells cs sz])
def mks (H : AH) (zs : List AV) (bytes : Nat) (l c : Int) (κ : Sl → AH → Option ρ) : Option ρ :=
  bif decide (0 ≤ l) && decide (l ≤ c) && decide (c * bytes ≤ (room : Int)) then
    κ ⟨some ⟨H.length, 0⟩, l.toNat⟩ (H ++ [.cells (List.replicate l.toNat zs).flatten zs.length]) else none
/-- An append of the cells 'us' (n > 0 elements of sz cells). -/
def app (lo : Nat) (H : AH) (s : Sl) (sz bytes : Nat) (us : List AV) (n : Nat) (κ : Sl → AH → Option ρ) : Option ρ :=
  bif decide (n = 0) then κ s H else
  bif decide ((s.len + n) * bytes ≤ room) && decide (us.length = n * sz) && singles us then
    (match s.p with
    | none => bif decide (s.len = 0) then κ ⟨some ⟨H.length, 0⟩, n⟩ (H ++ [.cells us sz]) else none
    | some p =>
      match H[p.b]? with
      | some (.cells vs sz') =>
        bif decide (lo ≤ p.b) && decide (sz' = sz) && decide (p.o + s.len * sz ≤ vs.length) then
          κ ⟨some ⟨H.length, 0⟩, s.len + n⟩ (H.set p.b .dead ++ [.cells ((vs.drop p.o).take (s.len * sz) ++ us) sz])
        else none
      | _ => none)
  else none
def appS (lo : Nat) (H : AH) (s y : Sl) (sz bytes : Nat) (κ : Sl → AH → Option ρ) : Option ρ :=
  match y.p with
  | none => bif decide (y.len = 0) then κ s H else none
  | some q => ldn H q (y.len * sz) fun us => app lo H s sz bytes us y.len κ
/-- What is evaluated: the result's type comes first, so that one thing can be asked for any continuation. -/
abbrev CPS (A : Type) := (ρ : Type) → (A → AH → Option ρ) → Option ρ
def andB (g : Bool) (m : CPS Bool) (H : AH) (κ : Bool → AH → Option ρ) : Option ρ := (bif g then m (Bool × AH) (fun b H' => some (b, H')) else some (false, H)).bind fun p => κ p.1 p.2
def orB (g : Bool) (m : CPS Bool) (H : AH) (κ : Bool → AH → Option ρ) : Option ρ := (bif !g then m (Bool × AH) (fun b H' => some (b, H')) else some (true, H)).bind fun p => κ p.1 p.2
/-- An element of one cell that is read. -/
def rdI (H : AH) (s : Sl) (i : Int) (κ : Int → Option ρ) : Option ρ := idx s i 1 fun p => ldc H p fun v => asI .i64 v κ
def rdB (H : AH) (s : Sl) (i : Int) (κ : Bool → Option ρ) : Option ρ := idx s i 1 fun p => ldc H p fun v => asB v κ
def rdS (H : AH) (s : Sl) (i : Int) (κ : Sl → Option ρ) : Option ρ := idx s i 1 fun p => ldc H p fun v => asS v κ
def W (n : Int) : Int := IntKind.wrap .i64 n
end

/-! ### Operations -/

inductive Opd where
  | t (n : Nat)
  | c (v : AV)

/-- Functions of values alone. -/
inductive PF where
  | bits (op : BinOp) (k : IntKind)
  | shf (op : BinOp) (k k' : IntKind)
  | mx (k : IntKind)
  | mn (k : IntKind)
  | slc (sz : Nat)
  | stx
  | sts
  | sop (op : BinOp)
  | pnil (neg : Bool)

inductive IOp where
  | pf (f : PF) (xs : List Opd)
  | mov (x : Opd)
  | bin (op : BinOp) (k : IntKind) (x y : Opd)
  | beq (neg : Bool) (x y : Opd)
  | not (x : Opd)
  | conv (k k' : IntKind) (x : Opd)
  | ld (t : T1) (x : Opd)
  | st (n : Option Nat) (x v : Opd)
  | fadr (x : Opd) (off : Nat)
  | fld (x : Opd) (off : Nat) (n : Option Nat)
  | iadr (s i : Opd) (sz : Nat)
  | aadr (x i : Opd) (len sz : Nat)
  | alloc (zs : List AV)
  | box (n : Nat) (x : Opd)
  | bld (zs : List AV) (parts : List (Nat × Nat × Opd))
  | bsl (sz : Nat) (zs : List AV) (len : Nat) (parts : List (Nat × Nat × Opd))
  | mksl (zs : List AV) (bytes : Nat) (l c : Opd)
  | len (x : Opd)
  | lens (x : Opd)
  | app (sz bytes : Nat) (s x : Opd)
  | ext (x : Opd) (i : Nat)
  | call (g : Nat) (args : List Opd) (fresh : Bool) (rt : Ty)
  | callv (x : Opd) (args : List Opd) (fresh : Bool) (rt : Ty)
  | mkf (g : Nat) (caps : List Opd)
  | nilck (x : Opd)
  | mkm (r : Option Opd)
  | look (st : Bool) (l : Lf) (z : AV) (m k : Opd) (ok : Bool)
  | mupd (st : Bool) (m k v : Opd)
  | lenm (x : Opd)

def opd (σ : Env) : Opd → AV
  | .t n => σ n
  | .c v => v
def cellsV : AV → List AV
  | .agg l => l
  | v => [v]
section
variable {ρ : Type}
def binI (op : BinOp) (k : IntKind) (a b : Int) (κ : AV → Option ρ) : Option ρ :=
  match op with
  | .add => κ (.int k (k.wrap (a + b)))
  | .sub => κ (.int k (k.wrap (a - b)))
  | .mul => κ (.int k (k.wrap (a * b)))
  | .quo => bif decide (b = 0) then none else κ (.int k (k.wrap (a.tdiv b)))
  | .rem => bif decide (b = 0) then none else κ (.int k (a.tmod b))
  | .eql => κ (.bool (decide (a = b)))
  | .neq => κ (.bool (!decide (a = b)))
  | .lss => κ (.bool (decide (a < b)))
  | .leq => κ (.bool (decide (a ≤ b)))
  | .gtr => κ (.bool (decide (a > b)))
  | .geq => κ (.bool (decide (a ≥ b)))
  | _ => none

def bitsI (op : BinOp) (k : IntKind) (a b : Int) : Int :=
  match op with
  | .and => k.wrap (BitVec.ofInt k.bits a &&& BitVec.ofInt k.bits b).toNat
  | .or => k.wrap (BitVec.ofInt k.bits a ||| BitVec.ofInt k.bits b).toNat
  | .xor => k.wrap (BitVec.ofInt k.bits a ^^^ BitVec.ofInt k.bits b).toNat
  | _ => k.wrap (BitVec.ofInt k.bits a &&& ~~~BitVec.ofInt k.bits b).toNat
def shfI (op : BinOp) (k : IntKind) (a b : Int) : Int :=
  match op with
  | .shl => k.wrap (a * 2 ^ min b.toNat k.bits)
  | _ => a.fdiv (2 ^ min b.toNat k.bits)
def mxI (a b : Int) : Int := if b > a then b else a
def mnI (a b : Int) : Int := if b < a then b else a
def eqS (x y : ByteArray) : Bool := x.toList == y.toList
def ltS (x y : ByteArray) : Bool := Op.bytesLess x.toList y.toList
def sopS (op : BinOp) (x y : ByteArray) (κ : AV → Option ρ) : Option ρ :=
  match op with
  | .add => stc2 x y fun z => κ (.str z)
  | .eql => κ (.bool (eqS x y))
  | .neq => κ (.bool !(eqS x y))
  | .lss => κ (.bool (ltS x y))
  | .leq => κ (.bool (ltS x y || eqS x y))
  | .gtr => κ (.bool !(ltS x y || eqS x y))
  | .geq => κ (.bool !(ltS x y))
  | _ => none
/-- A function of values alone. -/
def evPF (f : PF) (xs : List AV) (κ : AV → Option ρ) : Option ρ :=
  match f with
  | .bits op k => (match xs with | [x, y] => asI k x fun a => asI k y fun b => κ (.int k (bitsI op k a b)) | _ => none)
  | .shf op k k' => (match xs with | [x, y] => asI k x fun a => asI k' y fun b => bif decide (b < 0) then none else κ (.int k (shfI op k a b)) | _ => none)
  | .mx k => (match xs with | [x, y] => asI k x fun a => asI k y fun b => κ (.int k (mxI a b)) | _ => none)
  | .mn k => (match xs with | [x, y] => asI k x fun a => asI k y fun b => κ (.int k (mnI a b)) | _ => none)
  | .slc sz => (match xs with
    | [x, l] => asS x fun s => asN l fun l => slc s l s.len sz fun s' => κ (.sl s')
    | [x, l, h] => asS x fun s => asN l fun l => asN h fun h => slc s l h sz fun s' => κ (.sl s')
    | _ => none)
  | .stx => (match xs with | [x, i] => asStr x fun s => asN i fun i => stx s i fun n => κ (.int .u8 n) | _ => none)
  | .sts => (match xs with
    | [x, l] => asStr x fun s => asN l fun l => sts s l s.size fun s' => κ (.str s')
    | [x, l, h] => asStr x fun s => asN l fun l => asN h fun h => sts s l h fun s' => κ (.str s')
    | _ => none)
  | .sop op => (match xs with | [x, y] => asStr x fun a => asStr y fun b => sopS op a b κ | _ => none)
  | .pnil neg => (match xs with | [x] => asPO x fun p => κ (.bool (bif neg then p.isSome else p.isNone)) | _ => none)

/-- Parts laid over zero cells. -/
def fillP (σ : Env) (zs : List AV) (ps : List (Nat × Nat × Opd)) (κ : List AV → Option ρ) : Option ρ :=
  match ps with
  | [] => κ zs
  | (o, n, x) :: r =>
    bif known (opd σ x) && decide ((cellsV (opd σ x)).length = n) && decide (o + n ≤ zs.length) then fillP σ (overlay zs o (cellsV (opd σ x))) r κ else none

abbrev CallT := (ρ : Type) → Nat → List AV → Nat → AH → (AV → AH → Option ρ) → Option ρ

def evOp (call : CallT) (lo : Nat) (o : IOp) (σ : Env) (H : AH) (κ : AV → AH → Option ρ) : Option ρ :=
  match o with
  | .pf f xs => evPF f (xs.map (opd σ)) fun v => κ v H
  | .mov x => κ (opd σ x) H
  | .bin op k x y => asI k (opd σ x) fun a => asI k (opd σ y) fun b => binI op k a b fun v => κ v H
  | .beq neg x y => asB (opd σ x) fun a => asB (opd σ y) fun b => κ (.bool (bif neg then a != b else a == b)) H
  | .not x => asB (opd σ x) fun a => κ (.bool !a) H
  | .conv k k' x => asI k (opd σ x) fun a => κ (.int k' (k'.wrap a)) H
  | .ld t x => asP (opd σ x) fun p => ldT H t p fun v => κ v H
  | .st n x v => asP (opd σ x) fun p =>
    match n with
    | none => bif single (opd σ v) then stc lo H p (opd σ v) fun H' => κ (.tup []) H' else none
    | some n => asAgg (opd σ v) fun us => bif decide (us.length = n) && singles us then stn lo H p us fun H' => κ (.tup []) H' else none
  | .fadr x off => asP (opd σ x) fun p => κ (.ptr (some ⟨p.b, p.o + off⟩)) H
  | .fld x off n => asAgg (opd σ x) fun vs =>
    match n with
    | none => (match vs[off]? with | some v => κ v H | none => none)
    | some n => bif decide (off + n ≤ vs.length) then κ (.agg ((vs.drop off).take n)) H else none
  | .iadr s i sz => asS (opd σ s) fun s => asN (opd σ i) fun i => idx s i sz fun p => κ (.ptr (some p)) H
  | .aadr x i len sz => asP (opd σ x) fun p => asN (opd σ i) fun i =>
    bif decide (0 ≤ i) && decide (i < (len : Int)) then κ (.ptr (some ⟨p.b, p.o + i.toNat * sz⟩)) H else none
  | .alloc zs => alc H zs fun p H' => κ (.ptr (some p)) H'
  | .box n x => bif known (opd σ x) && decide ((cellsV (opd σ x)).length = n) && singles (cellsV (opd σ x)) then alc H (cellsV (opd σ x)) fun p H' => κ (.ptr (some p)) H' else none
  | .bld zs parts => fillP σ zs parts fun cs => κ (.agg cs) H
  | .bsl sz zs len parts => fillP σ zs parts fun cs => bif singles cs then mkb H cs sz len fun s H' => κ (.sl s) H' else none
  | .mksl zs bytes l c => asI .i64 (opd σ l) fun l => asI .i64 (opd σ c) fun c => mks H zs bytes l c fun s H' => κ (.sl s) H'
  | .len x => asS (opd σ x) fun s => κ (.int .i64 s.len) H
  | .lens x => asStr (opd σ x) fun s => κ (.int .i64 s.size) H
  | .app sz bytes s x => asS (opd σ s) fun s => asS (opd σ x) fun y => appS lo H s y sz bytes fun s' H' => κ (.sl s') H'
  | .ext x i => asTup (opd σ x) fun l => match l[i]? with | some v => κ v H | none => none
  | .callv x args fresh rt =>
    match opd σ x with
    | .clo g caps => call ρ g (args.map (opd σ) ++ caps) (bif fresh then H.length else lo) H fun v H' => castTy rt v fun v' => κ v' H'
    | _ => none
  | .mkf g caps => κ (.clo g (caps.map (opd σ))) H
  | .mkm r => (match r with
    | none => κ (.map (some H.length)) (H ++ [.map []])
    | some n => asI .i64 (opd σ n) fun _ => κ (.map (some H.length)) (H ++ [.map []]))
  | .look st l z m k ok => asM (opd σ m) fun m => mlook st H m (opd σ k) fun r => castLf l (r.getD z) fun v => κ (bif ok then .tup [v, .bool r.isSome] else v) H
  | .mupd st m k v => asM (opd σ m) fun m => mput st lo H m (opd σ k) (opd σ v) fun H' => κ (.tup []) H'
  | .lenm x => asM (opd σ x) fun m => mlen H m fun n => κ (.int .i64 n) H
  | .nilck x => asP (opd σ x) fun p => κ (.ptr (some p)) H
  | .call g args fresh rt => call ρ g (args.map (opd σ)) (bif fresh then H.length else lo) H fun v H' => castTy rt v fun v' => κ v' H'
end

/-- What a region does: operations in a row; 'grp': operations under one guard, and the choice behind them. -/
inductive Steps where
  | nil
  | op (i : Nat) (d : Option Nat) (o : IOp) (rest : Steps)
  | chk (x : Opd) (rest : Steps)
  | grp (gt : Nat) (want : Bool) (inner : Steps) (i pd : Nat) (px : Opd) (rest : Steps)

def dl : Option Nat → List Nat
  | none => []
  | some d => [d]
def Steps.dsts : Steps → List Nat
  | .nil => []
  | .op _ d _ r => dl d ++ r.dsts
  | .chk _ r => r.dsts
  | .grp _ _ inner _ pd _ r => inner.dsts ++ pd :: r.dsts

def aliveB (H : AH) (v : AV) : Bool :=
  match v with
  | .ptr (some p) => (match H[p.b]? with | some (.cells _ _) => true | _ => false)
  | _ => false

def evS (call : CallT) (lo : Nat) : Steps → (ρ : Type) → Env → AH → (Env → AH → Option ρ) → Option ρ
  | .nil, _, σ, H, κ => κ σ H
  | .op _ d o rest, ρ, σ, H, κ => evOp call lo o σ H fun v H' => evS call lo rest ρ (putO σ d v) H' κ
  | .chk x rest, ρ, σ, H, κ => bif aliveB H (opd σ x) then evS call lo rest ρ σ H κ else none
  | .grp gt want inner _ pd px rest, ρ, σ, H, κ =>
    asB (σ gt) fun g =>
      (bif (bif want then g else !g) then evS call lo inner (Bool × AH) σ H (fun σ' H' => asB (opd σ' px) fun b => some (b, H')) else some (!want, H)).bind fun p =>
        evS call lo rest ρ (put (forget σ inner.dsts) pd (.bool p.1)) p.2 κ

/-- A piece's code. -/
inductive IRc where
  | reg (ss : Steps) (next : IRc)
  | ite (c : Opd) (a b : IRc)
  | jump (j : Nat)
  | ret

inductive RV where
  | tmp (t : Nat)
  | cell (t : Nat) (ty : T1)

inductive At where
  | code (n : Nat)
  | inBlock (n : Nat)
  | inLoop (n : Nat)
  deriving DecidableEq

structure Piece where
  sig : List Nat
  todo : List At
  code : IRc

structure Fn where
  np : Nat
  res : List RV
  pieces : List Piece

abbrev Pg := List Fn

section
variable {ρ : Type}
def evRV (r : RV) (σ : Env) (H : AH) (κ : AV → Option ρ) : Option ρ :=
  match r with
  | .tmp t => κ (σ t)
  | .cell t ty => asP (σ t) fun p => ldT H ty p κ
def evRVs : List RV → Env → AH → (List AV → Option ρ) → Option ρ
  | [], _, _, κ => κ []
  | r :: rs, σ, H, κ => evRV r σ H fun v => evRVs rs σ H fun vs => κ (v :: vs)
def evRes (rs : List RV) (σ : Env) (H : AH) (κ : AV → AH → Option ρ) : Option ρ :=
  match rs with
  | [r] => evRV r σ H fun v => κ v H
  | rs => evRVs rs σ H fun vs => κ (.tup vs) H

def evC (call : CallT) (jmp : Nat → List AV → AH → Option ρ) (sigs : Nat → List Nat) (res : List RV) (lo : Nat) (κ : AV → AH → Option ρ) : IRc → Env → AH → Option ρ
  | .reg ss next, σ, H => evS call lo ss ρ σ H fun σ' H' => evC call jmp sigs res lo κ next σ' H'
  | .ite c a b, σ, H => asB (opd σ c) fun t => bif t then evC call jmp sigs res lo κ a σ H else evC call jmp sigs res lo κ b σ H
  | .jump j, σ, H => jmp j ((sigs j).map σ) H
  | .ret, σ, H => evRes res σ H κ
end

def sigOf (f : Fn) (j : Nat) : List Nat :=
  match f.pieces[j]? with
  | some p => p.sig
  | none => []

/-- Function f from its label j on, with k rounds. -/
def run (G : Pg) : Nat → (ρ : Type) → Nat → Nat → List AV → Nat → AH → (AV → AH → Option ρ) → Option ρ
  | 0, _, _, _, _, _, _, _ => none
  | k + 1, ρ, f, j, args, lo, H, κ =>
    match G[f]? with
    | none => none
    | some fn =>
      match fn.pieces[j]? with
      | none => none
      | some pc => bif decide (args.length = pc.sig.length) then evC (fun ρ' g args lo H κ => run G k ρ' g 0 args lo H κ) (fun j args H => run G k ρ f j args lo H κ) (sigOf fn) fn.res lo κ pc.code (envOf pc.sig args) H else none

/-- A call of a value. -/
def callX {ρ : Type} (G : Pg) (k : Nat) (x : AV) (args : List AV) (lo : Nat) (H : AH) (κ : AV → AH → Option ρ) : Option ρ :=
  match x with
  | .clo g caps => run G k ρ g 0 (args ++ caps) lo H κ
  | _ => none

end Go.Ab

/- What an abstract value, an abstract heap stand for; laws of memory. -/
namespace Go.Ab
open Go Go.RowKit

/-- Where a block lies: the real block, the offset of its first cell there, how many cells from there on are the call's own, the size of an element. -/
structure Ent where
  B : Nat
  o : Nat
  cap : Nat
  sz : Nat

abbrev MU := List (Option Ent)

mutual
inductive VR (fids : List Nat) (μ : MU) : AV → Value → Prop where
  | unk (v : Value) : VR fids μ .unk v
  | int (k : IntKind) (n : Int) : VR fids μ (.int k n) (.int k n)
  | bool (b : Bool) : VR fids μ (.bool b) (.bool b)
  | str (s : ByteArray) : VR fids μ (.str s) (.string s)
  | nilsl (x : Option Addr) : VR fids μ (.sl ⟨none, 0⟩) (.slice x 0 0)
  | sl (b o len cap : Nat) (e : Ent) (he : μ[b]? = some (some e)) (hc : o + cap * e.sz ≤ e.cap) (hl : len ≤ cap) (hz : 0 < e.sz) :
      VR fids μ (.sl ⟨some ⟨b, o⟩, len⟩) (.slice (some ⟨e.B, e.o + o, none⟩) len cap)
  | sle (b o : Nat) (x : Option Addr) (e : Ent) (he : μ[b]? = some (some e)) : VR fids μ (.sl ⟨some ⟨b, o⟩, 0⟩) (.slice x 0 0)
  | nilptr : VR fids μ (.ptr none) (.pointer none)
  | ptr (b o : Nat) (e : Ent) (he : μ[b]? = some (some e)) : VR fids μ (.ptr (some ⟨b, o⟩)) (.pointer (some ⟨e.B, e.o + o, none⟩))
  | nilmap : VR fids μ (.map none) (.map none)
  | map (b : Nat) (e : Ent) (he : μ[b]? = some (some e)) : VR fids μ (.map (some b)) (.map (some e.B))
  | clo (g f : Nat) (caps : List AV) (cs : List Value) (hf : fids[g]? = some f) (hc : VRs fids μ caps cs) : VR fids μ (.clo g caps) (.func (.func f) #[] cs.toArray)
  | nilf : VR fids μ .nilf .nilFunc
  | nili : VR fids μ .nili .nilIface
  | ifc (t : Nat) (v : AV) (c : Value) (h : VR fids μ v c) : VR fids μ (.ifc t v) (.iface t c)
  | agg (l : List AV) (cs : List Value) (h : VRs fids μ l cs) : VR fids μ (.agg l) (.agg cs.toArray)
  | tup (l : List AV) (cs : List Value) (h : VRs fids μ l cs) : VR fids μ (.tup l) (.tuple cs.toArray)
inductive VRs (fids : List Nat) (μ : MU) : List AV → List Value → Prop where
  | nil : VRs fids μ [] []
  | cons (v : AV) (c : Value) (l : List AV) (cs : List Value) (h : VR fids μ v c) (hs : VRs fids μ l cs) : VRs fids μ (v :: l) (c :: cs)
end

/-- All that is backed stays where it is. -/
def Ref (μ μ' : MU) : Prop := ∀ (i : Nat) (e : Ent), μ[i]? = some (some e) → μ'[i]? = some (some e)
theorem Ref.refl (μ : MU) : Ref μ μ := fun _ _ h => h
theorem Ref.trans {a b c : MU} (h : Ref a b) (k : Ref b c) : Ref a c := fun i e x => k i e (h i e x)
theorem Ref.app (μ ν : MU) : Ref μ (μ ++ ν) := fun i e h => by
  have : i < μ.length := (List.getElem?_eq_some_iff.1 h).1
  rw [List.getElem?_append_left this]; exact h

section
variable {fids : List Nat} {μ μ' : MU}
mutual
theorem VR.mono (hr : Ref μ μ') : ∀ {v : AV} {c : Value}, VR fids μ v c → VR fids μ' v c
  | _, _, .unk v => .unk v
  | _, _, .int k n => .int k n
  | _, _, .bool b => .bool b
  | _, _, .str s => .str s
  | _, _, .nilsl x => .nilsl x
  | _, _, .sl b o len cap e he hc hl hz => .sl b o len cap e (hr _ _ he) hc hl hz
  | _, _, .sle b o x e he => .sle b o x e (hr _ _ he)
  | _, _, .nilptr => .nilptr
  | _, _, .ptr b o e he => .ptr b o e (hr _ _ he)
  | _, _, .nilmap => .nilmap
  | _, _, .map b e he => .map b e (hr _ _ he)
  | _, _, .clo g f caps cs hf hc => .clo g f caps cs hf (VRs.mono hr hc)
  | _, _, .nilf => .nilf
  | _, _, .nili => .nili
  | _, _, .ifc t v c h => .ifc t v c (VR.mono hr h)
  | _, _, .agg l cs h => .agg l cs (VRs.mono hr h)
  | _, _, .tup l cs h => .tup l cs (VRs.mono hr h)
theorem VRs.mono (hr : Ref μ μ') : ∀ {l : List AV} {cs : List Value}, VRs fids μ l cs → VRs fids μ' l cs
  | _, _, .nil => .nil
  | _, _, .cons v c l cs h hs => .cons v c l cs (VR.mono hr h) (VRs.mono hr hs)
end

theorem VRs.length {l : List AV} {cs : List Value} (h : VRs fids μ l cs) : l.length = cs.length := by
  induction l generalizing cs with
  | nil => cases h; rfl
  | cons v l ih => cases h with | cons _ _ _ _ h hs => simp [ih hs]
theorem VRs.get {l : List AV} {cs : List Value} (h : VRs fids μ l cs) {j : Nat} {v : AV} (hj : l[j]? = some v) : ∃ c, cs[j]? = some c ∧ VR fids μ v c := by
  induction l generalizing cs j with
  | nil => simp at hj
  | cons x l ih =>
    cases h with
    | cons _ c _ cs h hs =>
      cases j with
      | zero => simp at hj; subst hj; exact ⟨c, by simp, h⟩
      | succ j => simpa using ih hs (by simpa using hj)
theorem VRs.of_get : ∀ {l : List AV} {cs : List Value}, l.length = cs.length → (∀ (j : Nat) (v : AV) (c : Value), l[j]? = some v → cs[j]? = some c → VR fids μ v c) → VRs fids μ l cs
  | [], [], _, _ => .nil
  | v :: l, c :: cs, hl, h => .cons v c l cs (h 0 v c (by simp) (by simp)) (VRs.of_get (by simpa using hl) fun j x y hx hy => h (j + 1) x y (by simpa using hx) (by simpa using hy))
  | [], _ :: _, hl, _ => by simp at hl
  | _ :: _, [], hl, _ => by simp at hl
theorem VRs.append {l l' : List AV} {cs cs' : List Value} (h : VRs fids μ l cs) (h' : VRs fids μ l' cs') : VRs fids μ (l ++ l') (cs ++ cs') := by
  induction l generalizing cs with
  | nil => cases h; exact h'
  | cons v l ih => cases h with | cons _ _ _ _ h hs => exact .cons _ _ _ _ h (ih hs)
theorem VRs.drop {l : List AV} {cs : List Value} (h : VRs fids μ l cs) (n : Nat) : VRs fids μ (l.drop n) (cs.drop n) := by
  induction n generalizing l cs with
  | zero => simpa using h
  | succ n ih => cases h with
    | nil => simpa using VRs.nil
    | cons _ _ _ _ h hs => simpa using ih hs
theorem VRs.take {l : List AV} {cs : List Value} (h : VRs fids μ l cs) (n : Nat) : VRs fids μ (l.take n) (cs.take n) := by
  induction n generalizing l cs with
  | zero => simpa using VRs.nil
  | succ n ih => cases h with
    | nil => simpa using VRs.nil
    | cons _ _ _ _ h hs => simpa using VRs.cons _ _ _ _ h (ih hs)

/-- A value of one cell is one cell. -/
theorem VR.single {v : AV} {c : Value} (h : VR fids μ v c) (hs : single v = true) : c.oneCell' = true := by
  cases h <;> simp [Ab.single] at hs <;> rfl
theorem cells_of_oneCell {c : Value} (h : c.oneCell' = true) : c.cells = #[c] := by
  cases c <;> simp [Value.oneCell'] at h <;> rfl
theorem VR.cells {v : AV} {c : Value} (h : VR fids μ v c) (hs : known v = true) : VRs fids μ (cellsV v) c.cells.toList := by
  cases h <;> simp [known] at hs <;> first
    | (rename_i h; simpa [cellsV, Value.cells] using h)
    | (refine VRs.cons _ _ _ _ ?_ .nil; constructor <;> assumption)
end

/-! ### Blocks -/

structure Ctx where
  P : Program
  fids : List Nat
  lo0 : Nat
  base : Nat

/-- The entries of a map. -/
def MR (fids : List Nat) (μ : MU) : List (AV × AV) → List MapEntry → Prop
  | [], [] => True
  | p :: es, m :: ms => VR fids μ p.1 m.key ∧ VR fids μ p.2 m.val ∧ MR fids μ es ms
  | _, _ => False

def BR (fids : List Nat) (μ : MU) (own : Prop) (b : Blk) (e : Ent) (w : World) : Prop :=
  match b with
  | .cells vs sz => e.sz = sz ∧ (∀ (j : Nat) (v : AV), vs[j]? = some v → ∃ c, w.cell? ⟨e.B, e.o + j, none⟩ = some c ∧ VR fids μ v c) ∧
      (own → vs.length ≤ e.cap ∧ ∀ j, j < e.cap → (w.cell? ⟨e.B, e.o + j, none⟩).isSome = true ∧ w.frozen? ⟨e.B, e.o + j, none⟩ = false)
  | .map es => ∃ ms clock, w.heap[e.B]? = some (.map ms clock) ∧ MR fids μ es ms.toList ∧ own ∧ clock = ms.size ∧ (∀ (i : Nat) (m : MapEntry), ms.toList[i]? = some m → m.born = i)
  | .dead => True

structure HR (C : Ctx) (μ : MU) (H : AH) (w : World) : Prop where
  len : μ.length = H.length
  blk : ∀ (i : Nat) (b : Blk) (e : Ent), H[i]? = some b → μ[i]? = some (some e) → BR C.fids μ (C.lo0 ≤ i) b e w
  sep : ∀ (i j : Nat) (bi bj : Blk) (ei ej : Ent), i ≠ j → H[i]? = some bi → H[j]? = some bj → μ[i]? = some (some ei) → μ[j]? = some (some ej) →
    bi ≠ .dead → bj ≠ .dead → C.lo0 ≤ i → ei.B ≠ ej.B
  own : ∀ (i : Nat) (e : Ent), μ[i]? = some (some e) → e.B < w.heap.size ∧ (C.lo0 ≤ i → C.base ≤ e.B)
  base : C.base ≤ w.heap.size
  low : C.lo0 ≤ H.length

def Keep (μ : MU) (H H' : AH) : Prop := ∀ i : Nat, μ[i]? = some none → H'[i]? = H[i]?
def Ext (μ μ' : MU) : Prop := ∃ ν : MU, μ' = μ ++ ν
theorem Ext.refl (μ : MU) : Ext μ μ := ⟨[], by simp⟩
theorem Ext.trans {a b c : MU} (h : Ext a b) (k : Ext b c) : Ext a c := by obtain ⟨x, rfl⟩ := h; obtain ⟨y, rfl⟩ := k; exact ⟨x ++ y, by simp⟩
theorem Ext.ref {a b : MU} (h : Ext a b) : Ref a b := by obtain ⟨x, rfl⟩ := h; exact Ref.app _ _
theorem Ext.none {a b : MU} (h : Ext a b) {i : Nat} (hi : a[i]? = some none) : b[i]? = some none := by
  obtain ⟨x, rfl⟩ := h
  rw [List.getElem?_append_left (List.getElem?_eq_some_iff.1 hi).1]; exact hi
theorem Keep.refl (μ : MU) (H : AH) : Keep μ H H := fun _ _ => rfl
theorem Keep.trans {μ μ' : MU} {a b c : AH} (h : Keep μ a b) (k : Keep μ' b c) (he : Ext μ μ') : Keep μ a c := fun i hi => (k i (he.none hi)).trans (h i hi)

/-- What a step leaves. -/
structure Good (C : Ctx) (μ : MU) (H : AH) (w : World) (v : AV) (H' : AH) (c : Value) (w' : World) (μ' : MU) : Prop where
  ext : Ext μ μ'
  val : VR C.fids μ' v c
  hr : HR C μ' H' w'
  below : Below C.base w w'
  keep : Keep μ H H'

theorem Good.same {C : Ctx} {μ : MU} {H : AH} {w : World} {v : AV} {c : Value} (hH : HR C μ H w) (hv : VR C.fids μ v c) : Good C μ H w v H c w μ :=
  ⟨.refl _, hv, hH, Below.refl _ _, .refl _ _⟩

theorem MR.mono {fids : List Nat} {μ μ' : MU} (hr : Ref μ μ') : ∀ {es : List (AV × AV)} {ms : List MapEntry}, MR fids μ es ms → MR fids μ' es ms
  | [], [], _ => trivial
  | _ :: _, _ :: _, ⟨a, b, c⟩ => ⟨a.mono hr, b.mono hr, MR.mono hr c⟩
  | [], _ :: _, h => h.elim
  | _ :: _, [], h => h.elim

/-- A block's facts depend on its own real block alone. -/
theorem BR.of {fids : List Nat} {μ μ' : MU} {own : Prop} {b : Blk} {e : Ent} {w w' : World} (h : BR fids μ own b e w) (hr : Ref μ μ')
    (hb : w'.heap[e.B]? = w.heap[e.B]?) : BR fids μ' own b e w' := by
  have hc : ∀ o, w'.cell? ⟨e.B, o, none⟩ = w.cell? ⟨e.B, o, none⟩ := fun o => by unfold World.cell?; simp only [hb]
  have hf : ∀ o, w'.frozen? ⟨e.B, o, none⟩ = w.frozen? ⟨e.B, o, none⟩ := fun o => by unfold World.frozen?; simp only [hb]
  cases b with
  | cells vs sz =>
    obtain ⟨h1, h2, h3⟩ := h
    refine ⟨h1, fun j v hj => ?_, fun ho => ⟨(h3 ho).1, fun j hj => ?_⟩⟩
    · obtain ⟨c, hc', hv⟩ := h2 j v hj
      exact ⟨c, by rw [hc]; exact hc', hv.mono hr⟩
    · rw [hc, hf]; exact (h3 ho).2 j hj
  | map es =>
    obtain ⟨ms, ck, h1, h2, h3⟩ := h
    exact ⟨ms, ck, by rw [hb]; exact h1, h2.mono hr, h3⟩
  | dead => trivial

theorem BR.set_none {fids : List Nat} {μ : MU} {own : Prop} {b : Blk} {e : Ent} {w w' : World} (h : BR fids μ own b e w) (hb : w'.heap[e.B]? = w.heap[e.B]?) : BR fids μ own b e w' := h.of (Ref.refl _) hb

/-- A world with the same heap. -/
theorem HR.heap {C : Ctx} {μ : MU} {H : AH} {w w' : World} (h : HR C μ H w) (hw : w'.heap = w.heap) : HR C μ H w' :=
  ⟨h.len, fun i b e hb he => (h.blk i b e hb he).of (Ref.refl _) (by rw [hw]), h.sep, fun i e he => by rw [hw]; exact h.own i e he, by rw [hw]; exact h.base, h.low⟩

/-- A new real block that nothing knows of. -/
theorem HR.alloc {C : Ctx} {μ : MU} {H : AH} {w : World} (h : HR C μ H w) (o : Obj) : HR C μ H (w.alloc o) :=
  ⟨h.len, fun i b e hb he => (h.blk i b e hb he).of (Ref.refl _) (Below.heap_alloc _ _ _ (h.own i e he).1), h.sep,
    fun i e he => ⟨by have := (h.own i e he).1; simp; omega, (h.own i e he).2⟩, by have := h.base; simp; omega, h.low⟩

theorem getElem?_snoc {α : Type} (l : List α) (x : α) (i : Nat) : (l ++ [x])[i]? = if i = l.length then some x else l[i]? := by
  rcases Nat.lt_trichotomy i l.length with h | h | h
  · rw [List.getElem?_append_left h, if_neg (by omega)]
  · subst h; simp
  · rw [if_neg (by omega), List.getElem?_eq_none (by simp; omega), List.getElem?_eq_none (by omega)]

/-- A new block at the end, of whatever kind. -/
theorem HR.push {C : Ctx} {μ : MU} {H : AH} {w : World} (h : HR C μ H w) (b : Blk) (e : Ent) (o : Obj) (he : e.B = w.heap.size)
    (hb : BR C.fids (μ ++ [some e]) True b e (w.alloc o)) : HR C (μ ++ [some e]) (H ++ [b]) (w.alloc o) := by
  have hl := h.len
  have hlow := h.low
  refine ⟨by simp [hl], ?_, ?_, ?_, by have := h.base; simp; omega, by simp; omega⟩
  · intro i b' e' hb' he'
    rw [getElem?_snoc] at hb' he'
    by_cases hi : i = H.length
    · subst hi
      rw [if_pos rfl] at hb'; rw [if_pos hl.symm] at he'
      cases hb'; cases he'
      have : C.lo0 ≤ H.length := hlow
      cases b with
      | cells vs sz => obtain ⟨a, b, c⟩ := hb; exact ⟨a, b, fun _ => c trivial⟩
      | map es => obtain ⟨ms, ck, a, b, _, c⟩ := hb; exact ⟨ms, ck, a, b, this, c⟩
      | dead => trivial
    · rw [if_neg hi] at hb'; rw [if_neg (by omega)] at he'
      exact (h.blk i b' e' hb' he').of (Ref.app _ _) (Below.heap_alloc _ _ _ (h.own i e' he').1)
  · intro i j bi bj ei ej hij hbi hbj hei hej hdi hdj hlo
    rw [getElem?_snoc] at hbi hbj hei hej
    by_cases hi : i = H.length
    · subst hi
      rw [if_pos hl.symm] at hei; cases hei
      rw [if_neg (by omega)] at hej
      rw [he]; have := (h.own j ej hej).1; omega
    · rw [if_neg hi] at hbi; rw [if_neg (by omega)] at hei
      by_cases hj : j = H.length
      · subst hj
        rw [if_pos hl.symm] at hej; cases hej
        rw [he]; have := (h.own i ei hei).1; omega
      · rw [if_neg hj] at hbj; rw [if_neg (by omega)] at hej
        exact h.sep i j bi bj ei ej hij hbi hbj hei hej hdi hdj hlo
  · intro i e' he'
    rw [getElem?_snoc] at he'
    by_cases hi : i = μ.length
    · rw [if_pos hi] at he'; cases he'; have := h.base; simp; omega
    · rw [if_neg hi] at he'; have := h.own i e' he'; simp; omega

/-- A block that was not backed is backed by a new real block. -/
theorem HR.back {C : Ctx} {μ : MU} {H : AH} {w : World} (h : HR C μ H w) (i : Nat) (b : Blk) (e : Ent) (o : Obj) (hi : μ[i]? = some none) (hbi : H[i]? = some b) (hlo : C.lo0 ≤ i) (he : e.B = w.heap.size)
    (hb : BR C.fids (μ.set i (some e)) True b e (w.alloc o)) : HR C (μ.set i (some e)) H (w.alloc o) := by
  have hil : i < μ.length := (List.getElem?_eq_some_iff.1 hi).1
  have hr : Ref μ (μ.set i (some e)) := fun j x hj => by
    by_cases hij : i = j
    · subst hij; rw [hi] at hj; cases hj
    · rw [List.getElem?_set_ne hij]; exact hj
  have hget : ∀ j x, (μ.set i (some e))[j]? = some (some x) → (j = i ∧ x = e) ∨ (j ≠ i ∧ μ[j]? = some (some x)) := fun j x hj => by
    by_cases hij : i = j
    · subst hij; rw [List.getElem?_set_self hil] at hj; cases hj; exact .inl ⟨rfl, rfl⟩
    · rw [List.getElem?_set_ne hij] at hj; exact .inr ⟨Ne.symm hij, hj⟩
  refine ⟨by simpa using h.len, ?_, ?_, ?_, by have := h.base; simp; omega, h.low⟩
  · intro j b' e' hb' he'
    rcases hget j e' he' with ⟨rfl, rfl⟩ | ⟨hne, he'⟩
    · rw [hbi] at hb'; cases hb'
      cases b with
      | cells vs sz => obtain ⟨a, b, c⟩ := hb; exact ⟨a, b, fun _ => c trivial⟩
      | map es => obtain ⟨ms, ck, a, b, _, c⟩ := hb; exact ⟨ms, ck, a, b, hlo, c⟩
      | dead => trivial
    · exact (h.blk j b' e' hb' he').of hr (Below.heap_alloc _ _ _ (h.own j e' he').1)
  · intro j k bj bk ej ek hjk hbj hbk hej hek hdj hdk hlj
    rcases hget j ej hej with ⟨hj1, hj2⟩ | ⟨hnj, hej'⟩
    · rcases hget k ek hek with ⟨hk1, hk2⟩ | ⟨hnk, hek'⟩
      · exact absurd (hj1.trans hk1.symm) hjk
      · rw [hj2, he]; have := (h.own k ek hek').1; omega
    · rcases hget k ek hek with ⟨hk1, hk2⟩ | ⟨hnk, hek'⟩
      · rw [hk2, he]; have := (h.own j ej hej').1; omega
      · exact h.sep j k bj bk ej ek hjk hbj hbk hej' hek' hdj hdk hlj
  · intro j e' he'
    rcases hget j e' he' with ⟨rfl, rfl⟩ | ⟨hne, he'⟩
    · have := h.base; simp; omega
    · have := h.own j e' he'; simp; omega
end Go.Ab

/- Loads and stores of cells; what they do to the relation of the two memories. -/
namespace Go.Ab
open Go Go.RowKit

theorem addr_add (b o i : Nat) : Addr.add ⟨b, o, none⟩ i = ⟨b, o + i, none⟩ := by
  unfold Addr.add
  split
  · rename_i h; subst h; rfl
  · rfl

theorem loadCellsFrom_run (P : Program) (w : World) (b o : Nat) : ∀ (cs : List Value) (i : Nat) (acc : Array Value), (∀ (j : Nat) (c : Value), cs[j]? = some c → w.cell? ⟨b, o + i + j, none⟩ = some c) →
    (loadCellsFrom ⟨b, o, none⟩ i cs.length acc).run P w = .ok (acc ++ cs.toArray) w := by
  intro cs
  induction cs with
  | nil => intro i acc _; simp [loadCellsFrom]
  | cons c cs ih =>
    intro i acc h
    have h0 := h 0 c (by simp)
    simp only [List.length_cons, loadCellsFrom, Sem.run_bind, run_load, addr_add]
    rw [show o + i = o + i + 0 from rfl, h0]
    simp only [Result.andThen_ok]
    rw [ih (i + 1) (acc.push c) (fun j c' hj => by have := h (j + 1) c' (by simpa using hj); rw [show o + (i + 1) + j = o + i + (j + 1) by omega]; exact this)]
    congr 1
    apply Array.ext'
    simp
theorem loadCells_run (P : Program) (w : World) (b o : Nat) (cs : List Value) (h : ∀ (j : Nat) (c : Value), cs[j]? = some c → w.cell? ⟨b, o + j, none⟩ = some c) :
    (loadCells ⟨b, o, none⟩ cs.length).run P w = .ok cs.toArray w := by
  unfold loadCells
  rw [loadCellsFrom_run P w b o cs 0 #[] (by simpa using h)]
  simp

structure Wrote (b o : Nat) (vs : List Value) (w w' : World) : Prop where
  size : w'.heap.size = w.heap.size
  os : w'.os = w.os
  tape : w'.tape = w.tape
  output : w'.output = w.output
  other : ∀ k, k ≠ b → w'.heap[k]? = w.heap[k]?
  cell : ∀ j, w'.cell? ⟨b, j, none⟩ = if o ≤ j ∧ j < o + vs.length then vs[j - o]? else w.cell? ⟨b, j, none⟩
  frz : ∀ j, w'.frozen? ⟨b, j, none⟩ = w.frozen? ⟨b, j, none⟩

theorem Wrote.below {b o : Nat} {vs : List Value} {w w' : World} (h : Wrote b o vs w w') {B : Nat} (hb : B ≤ b) : Below B w w' :=
  ⟨h.os, h.tape, h.output, Nat.le_of_eq h.size.symm, fun k hk => h.other k (by omega)⟩

theorem storeCells_run (P : Program) (b o : Nat) : ∀ (vs : List Value) (i : Nat) (w : World), (∀ v ∈ vs, v.oneCell' = true) →
    (∀ j, j < vs.length → (w.cell? ⟨b, o + i + j, none⟩).isSome = true ∧ w.frozen? ⟨b, o + i + j, none⟩ = false) →
    ∃ w', (storeCells ⟨b, o, none⟩ vs i).run P w = .ok () w' ∧ Wrote b (o + i) vs w w' := by
  intro vs
  induction vs with
  | nil => exact fun i w _ _ => ⟨w, by simp [storeCells], ⟨rfl, rfl, rfl, rfl, fun _ _ => rfl, fun j => by rw [if_neg (by simp only [List.length_nil]; omega)], fun _ => rfl⟩⟩
  | cons v vs ih =>
    intro i w h1 h2
    obtain ⟨hc, hf⟩ := h2 0 (by simp)
    obtain ⟨u, hu⟩ := Option.isSome_iff_exists.1 hc
    simp only [Nat.add_zero] at hu hf
    have hv : v.oneCell' = true := h1 v (by simp)
    have hsame := World.cell?_setCell_same w ⟨b, o + i, none⟩ v hu
    have hoth : ∀ j, j ≠ o + i → (w.setCell ⟨b, o + i, none⟩ v).cell? ⟨b, j, none⟩ = w.cell? ⟨b, j, none⟩ := fun j hj =>
      World.cell?_setCell_other w _ _ v (by intro h; exact hj (by injection h with _ h2; omega))
    obtain ⟨w', hr, hw⟩ := ih (i + 1) (w.setCell ⟨b, o + i, none⟩ v) (fun x hx => h1 x (by simp [hx])) (fun j hj => by
      have := h2 (j + 1) (by simp; omega)
      rw [show o + i + (j + 1) = o + (i + 1) + j by omega] at this
      refine ⟨?_, by rw [World.frozen?_setCell]; exact this.2⟩
      rw [hoth _ (by omega)]; exact this.1)
    refine ⟨w', ?_, ?_⟩
    · simp only [storeCells, Sem.run_bind, addr_add, run_store P _ _ _ _ hv, hu, hf]
      simpa using hr
    · refine ⟨by rw [hw.size]; simp, by rw [hw.os]; rfl, by rw [hw.tape]; rfl, by rw [hw.output]; rfl, fun k hk => ?_, fun j => ?_, fun j => by rw [hw.frz, World.frozen?_setCell]⟩
      · rw [hw.other k hk]; exact Below.heap_setCell _ _ _ _ hk
      · rw [hw.cell]
        by_cases hj : j = o + i
        · subst hj
          rw [if_neg (by omega), if_pos (by simp)]
          simp [hsame]
        · by_cases hin : o + (i + 1) ≤ j ∧ j < o + (i + 1) + vs.length
          · rw [if_pos hin, if_pos (by simp; omega)]
            rw [show j - (o + i) = (j - (o + (i + 1))) + 1 by omega]
            simp
          · rw [if_neg hin, if_neg (by simp; omega), hoth j hj]

variable {C : Ctx} {μ : MU} {H : AH} {w w' : World}

theorem HR.cell (h : HR C μ H w) {b : Nat} {e : Ent} {vs : List AV} {sz j : Nat} {v : AV} (hb : H[b]? = some (.cells vs sz)) (he : μ[b]? = some (some e)) (hv : vs[j]? = some v) :
    ∃ c, w.cell? ⟨e.B, e.o + j, none⟩ = some c ∧ VR C.fids μ v c := (h.blk b _ e hb he).2.1 j v hv

/-- A row of cells. -/
theorem HR.cells (h : HR C μ H w) {b : Nat} {e : Ent} {vs : List AV} {sz o n : Nat} (hb : H[b]? = some (.cells vs sz)) (he : μ[b]? = some (some e)) (hn : o + n ≤ vs.length) :
    ∃ cs : List Value, cs.length = n ∧ VRs C.fids μ ((vs.drop o).take n) cs ∧ ∀ (j : Nat) (c : Value), cs[j]? = some c → w.cell? ⟨e.B, e.o + o + j, none⟩ = some c := by
  induction n generalizing o with
  | zero => exact ⟨[], rfl, by simpa using VRs.nil, fun j c hj => by simp at hj⟩
  | succ n ih =>
    obtain ⟨v, hv⟩ : ∃ v, vs[o]? = some v := ⟨vs[o], List.getElem?_eq_getElem (by omega)⟩
    obtain ⟨c, hc, hr⟩ := h.cell hb he hv
    obtain ⟨cs, h1, h2, h3⟩ := ih (o := o + 1) (by omega)
    refine ⟨c :: cs, by simp [h1], ?_, fun j c' hj => ?_⟩
    · have : vs.drop o = v :: vs.drop (o + 1) := by rw [List.drop_eq_getElem_cons (by omega)]; rw [List.getElem?_eq_getElem (by omega)] at hv; simp at hv; rw [hv]
      rw [this]; exact VRs.cons _ _ _ _ hr h2
    · cases j with
      | zero => simp at hj; subst hj; simpa using hc
      | succ j => have := h3 j c' (by simpa using hj); rw [show e.o + o + (j + 1) = e.o + (o + 1) + j by omega]; exact this

/-- A block of the call's own is changed. -/
theorem HR.change (h : HR C μ H w) {b : Nat} {blk blk' : Blk} {e : Ent} (hb : H[b]? = some blk) (hd : blk ≠ .dead) (he : μ[b]? = some (some e)) (hlo : C.lo0 ≤ b)
    (hs : w.heap.size ≤ w'.heap.size) (hk : ∀ k, k < w.heap.size → k ≠ e.B → w'.heap[k]? = w.heap[k]?) (hB : BR C.fids μ (C.lo0 ≤ b) blk' e w') : HR C μ (H.set b blk') w' := by
  have hbl : b < H.length := (List.getElem?_eq_some_iff.1 hb).1
  have hget : ∀ (j : Nat) x, (H.set b blk')[j]? = some x → (j = b ∧ x = blk') ∨ (j ≠ b ∧ H[j]? = some x) := fun j x hj => by
    by_cases hij : b = j
    · subst hij; rw [List.getElem?_set_self hbl] at hj; cases hj; exact .inl ⟨rfl, rfl⟩
    · rw [List.getElem?_set_ne hij] at hj; exact .inr ⟨Ne.symm hij, hj⟩
  refine ⟨by simpa using h.len, ?_, ?_, fun i e' he' => ?_, by have := h.base; omega, by simpa using h.low⟩
  · intro j b' e' hb' he'
    rcases hget j b' hb' with ⟨h1, h2⟩ | ⟨h1, h2⟩
    · subst h1; subst h2; rw [he] at he'; cases he'; exact hB
    · by_cases hdead : b' = .dead
      · subst hdead; trivial
      · exact (h.blk j b' e' h2 he').of (Ref.refl _) (hk _ (h.own j e' he').1 (Ne.symm (h.sep b j blk b' e e' (Ne.symm h1) hb h2 he he' hd hdead hlo)))
  · intro i j bi bj ei ej hij hbi hbj hei hej hdi hdj hlo'
    rcases hget i bi hbi with ⟨h1, h2⟩ | ⟨h1, h2⟩
    · rcases hget j bj hbj with ⟨h3, h4⟩ | ⟨h3, h4⟩
      · exact absurd (h1.trans h3.symm) hij
      · subst h1; rw [he] at hei; cases hei
        exact h.sep i j blk bj e ej hij hb h4 he hej hd hdj hlo
    · rcases hget j bj hbj with ⟨h3, h4⟩ | ⟨h3, h4⟩
      · subst h3; rw [he] at hej; cases hej
        exact h.sep i j bi blk ei e hij h2 hb hei he hdi hd hlo'
      · exact h.sep i j bi bj ei ej hij h2 h4 hei hej hdi hdj hlo'
  · have := h.own i e' he'; exact ⟨by omega, this.2⟩

/-- A new abstract block at a real block that no live block lies at. -/
theorem HR.pushOld (h : HR C μ H w) (b : Blk) (e : Ent) (h1 : C.base ≤ e.B) (h2 : e.B < w.heap.size) (h3 : ∀ (j : Nat) (bj : Blk) (ej : Ent), H[j]? = some bj → μ[j]? = some (some ej) → bj ≠ .dead → ej.B ≠ e.B)
    (hb : BR C.fids (μ ++ [some e]) True b e w) : HR C (μ ++ [some e]) (H ++ [b]) w := by
  have hl := h.len
  have hlow := h.low
  refine ⟨by simp [hl], ?_, ?_, ?_, h.base, by simp; omega⟩
  · intro i b' e' hb' he'
    rw [getElem?_snoc] at hb' he'
    by_cases hi : i = H.length
    · subst hi
      rw [if_pos rfl] at hb'; rw [if_pos hl.symm] at he'
      cases hb'; cases he'
      have : C.lo0 ≤ H.length := hlow
      cases b with
      | cells vs sz => obtain ⟨a, b, c⟩ := hb; exact ⟨a, b, fun _ => c trivial⟩
      | map es => obtain ⟨ms, ck, a, b, _, c⟩ := hb; exact ⟨ms, ck, a, b, this, c⟩
      | dead => trivial
    · rw [if_neg hi] at hb'; rw [if_neg (by omega)] at he'
      exact (h.blk i b' e' hb' he').of (Ref.app _ _) rfl
  · intro i j bi bj ei ej hij hbi hbj hei hej hdi hdj hlo
    rw [getElem?_snoc] at hbi hbj hei hej
    by_cases hi : i = H.length
    · subst hi
      rw [if_pos hl.symm] at hei; cases hei
      rw [if_neg (by omega)] at hej hbj
      exact Ne.symm (h3 j bj ej hbj hej hdj)
    · rw [if_neg hi] at hbi; rw [if_neg (by omega)] at hei
      by_cases hj : j = H.length
      · subst hj
        rw [if_pos hl.symm] at hej; cases hej
        exact h3 i bi ei hbi hei hdi
      · rw [if_neg hj] at hbj; rw [if_neg (by omega)] at hej
        exact h.sep i j bi bj ei ej hij hbi hbj hei hej hdi hdj hlo
  · intro i e' he'
    rw [getElem?_snoc] at he'
    by_cases hi : i = μ.length
    · rw [if_pos hi] at he'; cases he'; exact ⟨h2, fun _ => h1⟩
    · rw [if_neg hi] at he'; exact h.own i e' he'

/-- A store of cells into a block of the call's own. -/
theorem HR.store (h : HR C μ H w) {b : Nat} {vs us : List AV} {sz o : Nat} {e : Ent} {cs : List Value} (hb : H[b]? = some (.cells vs sz)) (he : μ[b]? = some (some e)) (hlo : C.lo0 ≤ b)
    (hn : o + us.length ≤ vs.length) (hu : VRs C.fids μ us cs) (hw : Wrote e.B (e.o + o) cs w w') : HR C μ (H.set b (.cells (overlay vs o us) sz)) w' := by
  obtain ⟨h1, h2, h3⟩ := h.blk b _ e hb he
  obtain ⟨h4, h5⟩ := h3 hlo
  have hul := hu.length
  have hol : (overlay vs o us).length = vs.length := by simp [overlay]; omega
  refine h.change hb (by simp) he hlo (Nat.le_of_eq hw.size.symm) (fun k _ hk => hw.other k hk) ⟨h1, fun j v hj => ?_, fun _ => ⟨by omega, fun j hj => ?_⟩⟩
  · rw [hw.cell]
    by_cases hin : o ≤ j ∧ j < o + us.length
    · rw [if_pos (by omega)]
      have hj' : us[j - o]? = some v := by
        rw [← hj]; unfold overlay
        rw [List.append_assoc, List.getElem?_append_right (by simp; omega), List.getElem?_append_left (by simp; omega)]
        congr 1; simp; omega
      obtain ⟨c, hc, hv⟩ := hu.get hj'
      exact ⟨c, by rw [show e.o + j - (e.o + o) = j - o by omega]; exact hc, hv⟩
    · rw [if_neg (by omega)]
      have hj' : vs[j]? = some v := by
        rw [← hj]; unfold overlay
        rcases Nat.lt_or_ge j o with hlt | hge
        · rw [List.append_assoc, List.getElem?_append_left (by simp; omega), List.getElem?_take_of_lt hlt]
        · rw [List.getElem?_append_right (by simp; omega), List.getElem?_drop]
          congr 1; simp; omega
      exact h2 j v hj'
  · rw [hw.frz, hw.cell]
    obtain ⟨ha, hf⟩ := h5 j hj
    refine ⟨?_, hf⟩
    split
    · rename_i hin; rw [List.getElem?_eq_getElem (by omega)]; rfl
    · exact ha
theorem overlay_one (vs : List AV) (o : Nat) (u : AV) (h : o < vs.length) : overlay vs o [u] = vs.set o u := by
  unfold overlay
  apply List.ext_getElem?
  intro j
  rcases Nat.lt_trichotomy j o with hj | hj | hj
  · rw [List.append_assoc, List.getElem?_append_left (by simp; omega), List.getElem?_take_of_lt hj, List.getElem?_set_ne (by omega)]
  · subst hj
    rw [List.append_assoc, List.getElem?_append_right (by simp; omega), List.getElem?_set_self (by omega)]
    simp [Nat.min_eq_left (Nat.le_of_lt h)]
  · rw [List.getElem?_append_right (by simp; omega), List.getElem?_drop, List.getElem?_set_ne (by omega)]
    congr 1; simp; omega
end Go.Ab

/- The check of an operation against the given program's, and why what the evaluator says of it is so. -/
set_option linter.unusedSimpArgs false
namespace Go.Ab
open Go Go.RowKit

def ER (fids : List Nat) (μ : MU) (σ : Env) (a : Act) : Prop := ∀ x, VR fids μ (σ x) (a.tmps.getD x undef)

def chkV : Value → AV → Bool
  | .int k n, .int k' m => decide (k = k') && decide (n = m)
  | .bool a, .bool b => a == b
  | .string s, .str s' => decide (s.data = s'.data)
  | .slice none l c, .sl s => s.p.isNone && decide (s.len = 0) && decide (l = 0) && decide (c = 0)
  | .pointer none, .ptr none => true
  | .map none, .map none => true
  | .nilFunc, .nilf => true
  | .nilIface, .nili => true
  | _, _ => false
def chkVs : List Value → List AV → Bool
  | [], [] => true
  | c :: cs, v :: vs => chkV c v && chkVs cs vs
  | _, _ => false
def chkOpd (fids : List Nat) : Operand → Opd → Bool
  | .tmp t, .t n => decide (t = n)
  | .const v, .c a => chkV v a
  | .func f, .c (.clo g []) => decide (fids[g]? = some f)
  | _, _ => false
def chkOpds (fids : List Nat) : List Operand → List Opd → Bool
  | [], [] => true
  | x :: xs, y :: ys => chkOpd fids x y && chkOpds fids xs ys
  | _, _ => false

section
variable {fids : List Nat} {μ : MU}
theorem chkV_sound {c : Value} {v : AV} (h : chkV c v = true) : VR fids μ v c := by
  cases c <;> cases v <;> (try (simp [chkV] at h; done)) <;> simp only [chkV, Bool.and_eq_true, decide_eq_true_eq, beq_iff_eq] at h
  case int.int k n k' m => obtain ⟨rfl, rfl⟩ := h; exact .int _ _
  case bool.bool a b => subst h; exact .bool _
  case string.str s s' => cases s; cases s'; simp at h; subst h; exact .str _
  case pointer.ptr a p =>
    cases a <;> cases p <;> simp [chkV] at h
    exact .nilptr
  case slice.sl a l k s =>
    cases a <;> simp [chkV] at h
    obtain ⟨⟨⟨h1, h2⟩, h3⟩, h4⟩ := h
    obtain ⟨p, n⟩ := s
    simp at h1 h2; subst h1; subst h2; subst h3; subst h4; exact .nilsl _
  case map.map a b =>
    cases a <;> cases b <;> simp [chkV] at h
    exact .nilmap
  case nilFunc.nilf => exact .nilf
  case nilIface.nili => exact .nili
theorem chkVs_sound : ∀ {cs : List Value} {vs : List AV}, chkVs cs vs = true → VRs fids μ vs cs
  | [], [], _ => .nil
  | _ :: _, _ :: _, h => by simp only [chkVs, Bool.and_eq_true] at h; exact .cons _ _ _ _ (chkV_sound h.1) (chkVs_sound h.2)
  | [], _ :: _, h => by simp [chkVs] at h
  | _ :: _, [], h => by simp [chkVs] at h
theorem chkOpd_sound {x : Operand} {y : Opd} (h : chkOpd fids x y = true) {σ : Env} {a : Act} (hσ : ER fids μ σ a) : VR fids μ (opd σ y) (a.eval x) := by
  cases x <;> cases y <;> (try (simp [chkOpd] at h; done))
  case tmp.t t n => simp [chkOpd] at h; subst h; exact hσ _
  case const.c v a' => exact chkV_sound h
  case func.c f v =>
    cases v <;> simp [chkOpd] at h
    rename_i g caps
    cases caps <;> simp [chkOpd] at h
    exact .clo _ _ _ _ h .nil
theorem chkOpds_sound : ∀ {xs : List Operand} {ys : List Opd}, chkOpds fids xs ys = true → ∀ {σ : Env} {a : Act}, ER fids μ σ a → VRs fids μ (ys.map (opd σ)) (xs.map a.eval)
  | [], [], _, _, _, _ => .nil
  | _ :: _, _ :: _, h, _, _, hσ => by simp only [chkOpds, Bool.and_eq_true] at h; exact .cons _ _ _ _ (chkOpd_sound h.1 hσ) (chkOpds_sound h.2 hσ)
  | [], _ :: _, h, _, _, _ => by simp [chkOpds] at h
  | _ :: _, [], h, _, _, _ => by simp [chkOpds] at h
end

theorem VR.int_inv {fids : List Nat} {μ : MU} {k : IntKind} {n : Int} {c : Value} (h : VR fids μ (.int k n) c) : c = .int k n := by cases h; rfl
theorem VR.bool_inv {fids : List Nat} {μ : MU} {b : Bool} {c : Value} (h : VR fids μ (.bool b) c) : c = .bool b := by cases h; rfl
theorem VR.str_inv {fids : List Nat} {μ : MU} {b : ByteArray} {c : Value} (h : VR fids μ (.str b) c) : c = .string b := by cases h; rfl
theorem VR.ptr_inv {fids : List Nat} {μ : MU} {p : Pt} {c : Value} (h : VR fids μ (.ptr (some p)) c) : ∃ e, c = .pointer (some ⟨e.B, e.o + p.o, none⟩) ∧ μ[p.b]? = some (some e) := by
  cases h with
  | ptr b o e he => exact ⟨e, rfl, he⟩
theorem VR.sl_inv {fids : List Nat} {μ : MU} {p : Pt} {n : Nat} {c : Value} (h : VR fids μ (.sl ⟨some p, n⟩) c) :
    (∃ e cap, c = .slice (some ⟨e.B, e.o + p.o, none⟩) n cap ∧ μ[p.b]? = some (some e) ∧ p.o + cap * e.sz ≤ e.cap ∧ n ≤ cap ∧ 0 < e.sz) ∨ ∃ x e, c = .slice x 0 0 ∧ n = 0 ∧ μ[p.b]? = some (some e) := by
  cases h with
  | sl b o len cap e he hc hl hz => exact .inl ⟨e, cap, rfl, he, hc, hl, hz⟩
  | sle b o x e he => exact .inr ⟨x, e, rfl, rfl, he⟩
theorem VR.nilsl_inv {fids : List Nat} {μ : MU} {n : Nat} {c : Value} (h : VR fids μ (.sl ⟨none, n⟩) c) : ∃ x, c = .slice x 0 0 ∧ n = 0 := by
  cases h; exact ⟨_, rfl, rfl⟩
theorem VR.sl_inv' {fids : List Nat} {μ : MU} {s : Sl} {p : Pt} {c : Value} (h : VR fids μ (.sl s) c) (hp : s.p = some p) :
    (∃ e cap, c = .slice (some ⟨e.B, e.o + p.o, none⟩) s.len cap ∧ μ[p.b]? = some (some e) ∧ p.o + cap * e.sz ≤ e.cap ∧ s.len ≤ cap ∧ 0 < e.sz) ∨ ∃ x e, c = .slice x 0 0 ∧ s.len = 0 ∧ μ[p.b]? = some (some e) := by
  obtain ⟨a, n⟩ := s
  simp only at hp; subst hp
  exact h.sl_inv
theorem VR.nilsl_inv' {fids : List Nat} {μ : MU} {s : Sl} {c : Value} (h : VR fids μ (.sl s) c) (hp : s.p = none) : ∃ x, c = .slice x 0 0 ∧ s.len = 0 := by
  obtain ⟨a, n⟩ := s
  simp only at hp; subst hp
  exact h.nilsl_inv
theorem VR.agg_inv {fids : List Nat} {μ : MU} {l : List AV} {c : Value} (h : VR fids μ (.agg l) c) : ∃ cs : List Value, c = .agg cs.toArray ∧ VRs fids μ l cs := by
  cases h with
  | agg l cs h => exact ⟨cs, rfl, h⟩
theorem VR.tup_inv {fids : List Nat} {μ : MU} {l : List AV} {c : Value} (h : VR fids μ (.tup l) c) : ∃ cs : List Value, c = .tuple cs.toArray ∧ VRs fids μ l cs := by
  cases h with
  | tup l cs h => exact ⟨cs, rfl, h⟩
theorem VR.sl_any {fids : List Nat} {μ : MU} {s : Sl} {c : Value} (h : VR fids μ (.sl s) c) : ∃ x cap, c = .slice x s.len cap := by
  cases h with
  | nilsl x => exact ⟨_, _, rfl⟩
  | sl b o len cap e he hc hl hz => exact ⟨_, cap, rfl⟩
  | sle b o x e he => exact ⟨_, _, rfl⟩

/-! ### What the casts say -/
section
variable {ρ : Type} {r : ρ}
theorem asI_some {k : IntKind} {v : AV} {κ : Int → Option ρ} (h : asI k v κ = some r) : ∃ n, v = .int k n ∧ κ n = some r := by
  unfold asI at h
  split at h
  · rename_i k' n
    by_cases hk : k' = k
    · subst hk; simp at h; exact ⟨n, rfl, h⟩
    · simp [hk] at h
  · simp at h
theorem asN_some {v : AV} {κ : Int → Option ρ} (h : asN v κ = some r) : ∃ k n, v = .int k n ∧ κ n = some r := by
  unfold asN at h; split at h; exact ⟨_, _, rfl, h⟩; simp at h
theorem asB_some {v : AV} {κ : Bool → Option ρ} (h : asB v κ = some r) : ∃ b, v = .bool b ∧ κ b = some r := by
  unfold asB at h; split at h; exact ⟨_, rfl, h⟩; simp at h
theorem asStr_some {v : AV} {κ : ByteArray → Option ρ} (h : asStr v κ = some r) : ∃ b, v = .str b ∧ κ b = some r := by
  unfold asStr at h; split at h; exact ⟨_, rfl, h⟩; simp at h
theorem asS_some {v : AV} {κ : Sl → Option ρ} (h : asS v κ = some r) : ∃ b, v = .sl b ∧ κ b = some r := by
  unfold asS at h; split at h; exact ⟨_, rfl, h⟩; simp at h
theorem asPO_some {v : AV} {κ : Option Pt → Option ρ} (h : asPO v κ = some r) : ∃ b, v = .ptr b ∧ κ b = some r := by
  unfold asPO at h; split at h; exact ⟨_, rfl, h⟩; simp at h
theorem asP_some {v : AV} {κ : Pt → Option ρ} (h : asP v κ = some r) : ∃ b, v = .ptr (some b) ∧ κ b = some r := by
  unfold asP at h; split at h; exact ⟨_, rfl, h⟩; simp at h
theorem asM_some {v : AV} {κ : Option Nat → Option ρ} (h : asM v κ = some r) : ∃ b, v = .map b ∧ κ b = some r := by
  unfold asM at h; split at h; exact ⟨_, rfl, h⟩; simp at h
theorem asAgg_some {v : AV} {κ : List AV → Option ρ} (h : asAgg v κ = some r) : ∃ b, v = .agg b ∧ κ b = some r := by
  unfold asAgg at h; split at h; exact ⟨_, rfl, h⟩; simp at h
theorem asTup_some {v : AV} {κ : List AV → Option ρ} (h : asTup v κ = some r) : ∃ b, v = .tup b ∧ κ b = some r := by
  unfold asTup at h; split at h; exact ⟨_, rfl, h⟩; simp at h
theorem castLf_some {l : Lf} {v : AV} {κ : AV → Option ρ} (h : castLf l v κ = some r) : κ v = some r := by
  cases l <;> simp only [castLf] at h
  · obtain ⟨n, hv, h⟩ := asI_some h; rw [hv]; exact h
  · obtain ⟨n, rfl, h⟩ := asB_some h; exact h
  · obtain ⟨n, rfl, h⟩ := asStr_some h; exact h
  · obtain ⟨n, rfl, h⟩ := asS_some h; exact h
  · obtain ⟨n, rfl, h⟩ := asPO_some h; exact h
  · obtain ⟨n, rfl, h⟩ := asM_some h; exact h
  · exact h
theorem castLfs_some : ∀ {ls : List Lf} {vs : List AV} {κ : List AV → Option ρ}, castLfs ls vs κ = some r → κ vs = some r ∧ ls.length = vs.length
  | [], [], κ, h => by unfold castLfs at h; exact ⟨h, rfl⟩
  | [], _ :: _, κ, h => by unfold castLfs at h; simp at h
  | _ :: _, [], κ, h => by unfold castLfs at h; simp at h
  | l :: ls, v :: vs, κ, h => by
    unfold castLfs at h
    simp only at h
    have h1 := castLf_some h
    have h2 := castLfs_some h1
    exact ⟨h2.1, by simp [h2.2]⟩
theorem castT1_some {t : T1} {v : AV} {κ : AV → Option ρ} (h : castT1 t v κ = some r) : κ v = some r := by
  cases t <;> simp only [castT1] at h
  · exact castLf_some h
  · obtain ⟨l, rfl, h⟩ := asAgg_some h; exact (castLfs_some h).1
theorem castT1s_some : ∀ {ls : List T1} {vs : List AV} {κ : List AV → Option ρ}, castT1s ls vs κ = some r → κ vs = some r
  | [], [], κ, h => by unfold castT1s at h; exact h
  | [], _ :: _, κ, h => by unfold castT1s at h; simp at h
  | _ :: _, [], κ, h => by unfold castT1s at h; simp at h
  | l :: ls, v :: vs, κ, h => by
    unfold castT1s at h
    simp only at h
    have h1 := castT1_some h
    exact castT1s_some (κ := fun vs' => κ (v :: vs')) h1
theorem castTy_some {t : Ty} {v : AV} {κ : AV → Option ρ} (h : castTy t v κ = some r) : κ v = some r := by
  cases t <;> simp only [castTy] at h
  · exact castT1_some h
  · obtain ⟨l, rfl, h⟩ := asTup_some h; exact castT1s_some h
theorem asI_eq {k : IntKind} {n : Int} {κ : Int → Option ρ} : asI k (.int k n) κ = κ n := by simp [asI]
theorem castLf_eq {l : Lf} {v : AV} {κ : AV → Option ρ} (h : castLf l v κ = some r) : ∀ {ρ' : Type} (κ' : AV → Option ρ'), castLf l v κ' = κ' v := by
  intro ρ' κ'
  cases l <;> simp only [castLf] at h ⊢ <;> first
    | (obtain ⟨n, hn, _⟩ := asI_some h; subst hn; exact asI_eq)
    | (obtain ⟨n, hn, _⟩ := asB_some h; subst hn; rfl)
    | (obtain ⟨n, hn, _⟩ := asStr_some h; subst hn; rfl)
    | (obtain ⟨n, hn, _⟩ := asS_some h; subst hn; rfl)
    | (obtain ⟨n, hn, _⟩ := asPO_some h; subst hn; rfl)
    | (obtain ⟨n, hn, _⟩ := asM_some h; subst hn; rfl)
theorem castLfs_eq : ∀ {ls : List Lf} {vs : List AV} {κ : List AV → Option ρ}, castLfs ls vs κ = some r → ∀ {ρ' : Type} (κ' : List AV → Option ρ'), castLfs ls vs κ' = κ' vs
  | [], [], κ, h, _, κ' => by unfold castLfs; rfl
  | [], _ :: _, κ, h, _, _ => by unfold castLfs at h; simp at h
  | _ :: _, [], κ, h, _, _ => by unfold castLfs at h; simp at h
  | l :: ls, v :: vs, κ, h, _, κ' => by
    unfold castLfs at h ⊢
    simp only at h ⊢
    have h1 := castLf_some h
    rw [castLf_eq h, castLfs_eq h1]
theorem castT1_eq {t : T1} {v : AV} {κ : AV → Option ρ} (h : castT1 t v κ = some r) {ρ' : Type} (κ' : AV → Option ρ') : castT1 t v κ' = κ' v := by
  cases t <;> simp only [castT1] at h ⊢
  · exact castLf_eq h κ'
  · obtain ⟨l, rfl, h⟩ := asAgg_some h
    show castLfs _ l _ = _
    rw [castLfs_eq h]
theorem castT1s_eq : ∀ {ls : List T1} {vs : List AV} {κ : List AV → Option ρ}, castT1s ls vs κ = some r → ∀ {ρ' : Type} (κ' : List AV → Option ρ'), castT1s ls vs κ' = κ' vs
  | [], [], κ, h, _, κ' => by unfold castT1s; rfl
  | [], _ :: _, κ, h, _, _ => by unfold castT1s at h; simp at h
  | _ :: _, [], κ, h, _, _ => by unfold castT1s at h; simp at h
  | l :: ls, v :: vs, κ, h, _, κ' => by
    unfold castT1s at h ⊢
    simp only at h ⊢
    have h1 := castT1_some h
    rw [castT1_eq h, castT1s_eq h1]
theorem castTy_eq {t : Ty} {v : AV} {κ : AV → Option ρ} (h : castTy t v κ = some r) {ρ' : Type} (κ' : AV → Option ρ') : castTy t v κ' = κ' v := by
  cases t <;> simp only [castTy] at h ⊢
  · exact castT1_eq h κ'
  · obtain ⟨l, rfl, h⟩ := asTup_some h
    show castT1s _ l _ = _
    rw [castT1s_eq h]
theorem cond_none {b : Bool} {x : Option ρ} (h : (bif b then x else none) = some r) : b = true ∧ x = some r := by
  cases b <;> simp at h; exact ⟨rfl, h⟩
theorem ldc_some {H : AH} {p : Pt} {κ : AV → Option ρ} (h : ldc H p κ = some r) : ∃ vs sz v, H[p.b]? = some (.cells vs sz) ∧ vs[p.o]? = some v ∧ κ v = some r := by
  unfold ldc at h
  split at h
  · rename_i vs sz hb
    split at h
    · rename_i v hv; exact ⟨vs, sz, v, hb, hv, h⟩
    · simp at h
  · simp at h
theorem ldn_some {H : AH} {p : Pt} {n : Nat} {κ : List AV → Option ρ} (h : ldn H p n κ = some r) : ∃ vs sz, H[p.b]? = some (.cells vs sz) ∧ p.o + n ≤ vs.length ∧ κ ((vs.drop p.o).take n) = some r := by
  unfold ldn at h
  split at h
  · rename_i vs sz hb
    obtain ⟨h1, h2⟩ := cond_none h
    exact ⟨vs, sz, hb, by simpa using h1, h2⟩
  · simp at h
theorem ldT_some {H : AH} {t : T1} {p : Pt} {κ : AV → Option ρ} (h : ldT H t p κ = some r) : ∃ v, (∀ {ρ' : Type} (κ' : AV → Option ρ'), ldT H t p κ' = κ' v) ∧ κ v = some r := by
  cases t with
  | lf l =>
    simp only [ldT] at h ⊢
    obtain ⟨vs, sz, v, hb, hv, h⟩ := ldc_some h
    refine ⟨v, fun κ' => ?_, castLf_some h⟩
    simp only [ldc, hb, hv, castLf_eq h]
  | agg ls =>
    simp only [ldT] at h ⊢
    obtain ⟨vs, sz, hb, hn, h⟩ := ldn_some h
    refine ⟨_, fun κ' => ?_, (castLfs_some h).1⟩
    simp only [ldn, hb, hn, decide_true, cond_true, castLfs_eq h]
theorem stn_some {lo : Nat} {H : AH} {p : Pt} {us : List AV} {κ : AH → Option ρ} (h : stn lo H p us κ = some r) :
    ∃ vs sz, H[p.b]? = some (.cells vs sz) ∧ lo ≤ p.b ∧ p.o + us.length ≤ vs.length ∧ κ (H.set p.b (.cells (overlay vs p.o us) sz)) = some r := by
  unfold stn at h
  split at h
  · rename_i vs sz hb
    obtain ⟨h1, h2⟩ := cond_none h
    simp at h1
    exact ⟨vs, sz, hb, h1.1, h1.2, h2⟩
  · simp at h
theorem stc_some {lo : Nat} {H : AH} {p : Pt} {u : AV} {κ : AH → Option ρ} (h : stc lo H p u κ = some r) :
    ∃ vs sz, H[p.b]? = some (.cells vs sz) ∧ lo ≤ p.b ∧ p.o < vs.length ∧ κ (H.set p.b (.cells (vs.set p.o u) sz)) = some r := by
  unfold stc at h
  split at h
  · rename_i vs sz hb
    obtain ⟨h1, h2⟩ := cond_none h
    simp at h1
    exact ⟨vs, sz, hb, h1.1, h1.2, h2⟩
  · simp at h
theorem idx_some {s : Sl} {i : Int} {sz : Nat} {κ : Pt → Option ρ} (h : idx s i sz κ = some r) : ∃ p, s.p = some p ∧ 0 ≤ i ∧ i < s.len ∧ κ ⟨p.b, p.o + i.toNat * sz⟩ = some r := by
  unfold idx at h
  split at h
  · rename_i p hp
    obtain ⟨h1, h2⟩ := cond_none h
    simp at h1
    exact ⟨p, hp, h1.1, h1.2, h2⟩
  · simp at h
end

/-- A function of values alone hands its value on. -/
theorem evPF_some {ρ : Type} {r : ρ} {f : PF} {xs : List AV} {κ : AV → Option ρ} (h : evPF f xs κ = some r) : ∃ v, (∀ (ρ' : Type) (κ' : AV → Option ρ'), evPF f xs κ' = κ' v) ∧ κ v = some r := by
  have hI : ∀ {k : IntKind} {n : Int} {ρ' : Type} {κ : Int → Option ρ'}, asI k (.int k n) κ = κ n := by intro k n ρ' κ; simp [asI]
  cases f <;> simp only [evPF] at h ⊢
  case bits op k =>
    split at h
    · obtain ⟨a, e1, g1⟩ := asI_some h; obtain ⟨b, e2, g2⟩ := asI_some g1; subst e1; subst e2; replace h := g2; exact ⟨_, fun _ _ => by simp only [hI], h⟩
    · simp at h
  case shf op k k' =>
    split at h
    · obtain ⟨a, e1, g1⟩ := asI_some h; obtain ⟨b, e2, g2⟩ := asI_some g1; subst e1; subst e2; replace h := g2
      by_cases hb : b < 0
      · simp [hb] at h
      · simp only [hb, decide_false, cond_false] at h; exact ⟨_, fun _ _ => by simp only [hI, hb, decide_false, cond_false], h⟩
    · simp at h
  case mx k =>
    split at h
    · obtain ⟨a, e1, g1⟩ := asI_some h; obtain ⟨b, e2, g2⟩ := asI_some g1; subst e1; subst e2; replace h := g2; exact ⟨_, fun _ _ => by simp only [hI], h⟩
    · simp at h
  case mn k =>
    split at h
    · obtain ⟨a, e1, g1⟩ := asI_some h; obtain ⟨b, e2, g2⟩ := asI_some g1; subst e1; subst e2; replace h := g2; exact ⟨_, fun _ _ => by simp only [hI], h⟩
    · simp at h
  case slc sz =>
    have key : ∀ {s : Sl} {l hh : Int} {κ : Sl → Option ρ}, slc s l hh sz κ = some r → ∃ s', (∀ (ρ' : Type) (κ' : Sl → Option ρ'), slc s l hh sz κ' = κ' s') ∧ κ s' = some r := by
      intro s l hh κ h
      unfold slc at h ⊢
      obtain ⟨hc, h⟩ := cond_none h
      simp only [hc, cond_true]
      cases hp : s.p with
      | none => rw [hp] at h; exact ⟨_, fun _ _ => rfl, h⟩
      | some p => rw [hp] at h; exact ⟨_, fun _ _ => rfl, h⟩
    split at h
    · obtain ⟨s, e1, g1⟩ := asS_some h; obtain ⟨_, l, e2, g2⟩ := asN_some g1; subst e1; subst e2; replace h := g2; obtain ⟨s', h1, h2⟩ := key h; exact ⟨_, fun _ _ => by simp only [asN, asS, h1], h2⟩
    · obtain ⟨s, e1, g1⟩ := asS_some h; obtain ⟨_, l, e2, g2⟩ := asN_some g1; obtain ⟨_, hh, e3, g3⟩ := asN_some g2; subst e1; subst e2; subst e3; replace h := g3; obtain ⟨s', h1, h2⟩ := key h; exact ⟨_, fun _ _ => by simp only [asN, asS, h1], h2⟩
    · simp at h
  case stx =>
    split at h
    · obtain ⟨s, e1, g1⟩ := asStr_some h; obtain ⟨_, i, e2, g2⟩ := asN_some g1; subst e1; subst e2; replace h := g2
      unfold stx at h
      split at h
      · rename_i b hb; exact ⟨_, fun _ _ => by simp only [asStr, asN, stx, hb], h⟩
      · simp at h
    · simp at h
  case sts =>
    split at h
    · obtain ⟨s, e1, g1⟩ := asStr_some h; obtain ⟨_, l, e2, g2⟩ := asN_some g1; subst e1; subst e2; replace h := g2
      unfold sts at h
      obtain ⟨hc, h⟩ := cond_none h
      exact ⟨_, fun _ _ => by simp only [asStr, asN, sts, hc, cond_true], h⟩
    · obtain ⟨s, e1, g1⟩ := asStr_some h; obtain ⟨_, l, e2, g2⟩ := asN_some g1; obtain ⟨_, hh, e3, g3⟩ := asN_some g2; subst e1; subst e2; subst e3; replace h := g3
      unfold sts at h
      obtain ⟨hc, h⟩ := cond_none h
      exact ⟨_, fun _ _ => by simp only [asStr, asN, sts, hc, cond_true], h⟩
    · simp at h
  case sop op =>
    split at h
    · obtain ⟨a, e1, g1⟩ := asStr_some h; obtain ⟨b, e2, g2⟩ := asStr_some g1; subst e1; subst e2; replace h := g2
      simp only [asStr]
      cases op <;> simp only [sopS] at h ⊢ <;> first
        | exact ⟨_, fun _ _ => rfl, h⟩
        | (unfold stc2 at h ⊢
           obtain ⟨hc, h⟩ := cond_none h
           exact ⟨_, fun _ _ => by simp only [hc, cond_true], h⟩)
        | (simp at h)
    · simp at h
  case pnil neg =>
    split at h
    · obtain ⟨p, e1, g1⟩ := asPO_some h; subst e1; replace h := g1; exact ⟨_, fun _ _ => rfl, h⟩
    · simp at h

/-! ### The check of one operation -/

def isAggB (P : Program) (t : TypeId) : Option Bool :=
  match P.underlying t with
  | some (.struct _) => some true
  | some (.array _ _) => some true
  | some _ => some false
  | none => none
def sizeB (P : Program) (t : TypeId) : Option Nat := (P.info? t).map (·.size)
def bytesB (P : Program) (t : TypeId) : Option Nat := (P.info? t).map (·.bytes)
def zeroB (P : Program) (t : TypeId) : Option Value := (P.info? t).bind (·.zero)
def sliceB (P : Program) (t : TypeId) : Option TypeId :=
  match P.underlying t with
  | some (.slice e) => some e
  | _ => none
def arrayB (P : Program) (t : TypeId) : Option (Nat × TypeId) :=
  match P.underlying t with
  | some (.array n e) => some (n, e)
  | _ => none
def fieldB (P : Program) (t : TypeId) (f : Nat) : Option Field :=
  match P.underlying t with
  | some (.struct fs) => fs[f]?
  | _ => none
def chkT1 (P : Program) (t : TypeId) : T1 → Bool
  | .lf _ => decide (isAggB P t = some false)
  | .agg ls => decide (isAggB P t = some true) && decide (sizeB P t = some ls.length)

def okBin : BinOp → Bool
  | .add | .sub | .mul | .quo | .rem | .eql | .neq | .lss | .leq | .gtr | .geq => true
  | _ => false

def okBits : BinOp → Bool
  | .and | .or | .xor | .andNot => true
  | _ => false
def strB (P : Program) (t : TypeId) : Bool := match P.underlying t with | some .string => true | _ => false
def ptrB (P : Program) (t : TypeId) : Bool := match P.underlying t with | some (.pointer _) => true | _ => false
def zeroO : Opd → Bool
  | .c (.int .i64 n) => decide (n = 0)
  | _ => false
/-- The operands of a slicing: what is sliced, the bounds. -/
def chkSl (fids : List Nat) (x : Operand) (lo hi : Option Operand) (ys : List Opd) : Bool :=
  match ys, lo, hi with
  | [x', l'], none, none => chkOpd fids x x' && zeroO l'
  | [x', l'], some l, none => chkOpd fids x x' && chkOpd fids l l'
  | [x', l', h'], none, some h => chkOpd fids x x' && zeroO l' && chkOpd fids h h'
  | [x', l', h'], some l, some h => chkOpd fids x x' && chkOpd fids l l' && chkOpd fids h h'
  | _, _, _ => false
def chkPF (P : Program) (fids : List Nat) (op : Op) (f : PF) (ys : List Opd) : Bool :=
  match f with
  | .bits b' _ => (match op with | .binOp b _ x y _ => decide (b = b') && okBits b && chkOpds fids [x, y] ys | _ => false)
  | .shf b' _ _ => (match op with | .binOp b _ x y _ => decide (b = b') && (decide (b = .shl) || decide (b = .shr)) && chkOpds fids [x, y] ys | _ => false)
  | .mx _ => (match op with | .call ⟨.builtin .max, xs, _⟩ => chkOpds fids xs.toList ys | _ => false)
  | .mn _ => (match op with | .call ⟨.builtin .min, xs, _⟩ => chkOpds fids xs.toList ys | _ => false)
  | .slc sz => (match op with | .slice t x lo hi none => (match sliceB P t with | some e => decide (sizeB P e = some sz) && chkSl fids x lo hi ys | none => false) | _ => false)
  | .stx => (match op with | .index t x i => strB P t && chkOpds fids [x, i] ys | _ => false)
  | .sts => (match op with | .slice t x lo hi none => strB P t && chkSl fids x lo hi ys | _ => false)
  | .sop b' => (match op with | .binOp b _ x y _ => decide (b = b') && chkOpds fids [x, y] ys | _ => false)
  | .pnil neg => (match op with | .binOp b t x (.const (.pointer none)) _ => decide (b = bif neg then .neq else .eql) && ptrB P t && chkOpds fids [x] ys | _ => false)

/-- A value handed on. -/
def Runs (C : Ctx) (o : Oper) (a : Act) (w : World) (K : Value → World → Prop) : Prop :=
  ∃ c w', ((execOp a.eval o).run C.P w = .ok (.value c) w' ∨ (execOp a.eval o).run C.P w = .ok .skip w' ∧ c = undef) ∧ K c w'
theorem Runs.wp {C : Ctx} {o : Oper} {a : Act} {w : World} {K : Value → World → Prop} (h : Runs C o a w K) {next : Act → World → Prop} {Q : Exit → Act → World → Prop}
    (hk : ∀ c w', K c w' → next (a.put o.dst c) w') : Oper.wp C.P o a w next Q := by
  obtain ⟨c, w', hr, hK⟩ := h
  unfold Oper.wp
  rcases hr with hr | ⟨hr, rfl⟩
  · rw [hr]; exact hk _ _ hK
  · rw [hr]; exact hk _ _ hK
theorem Runs.value {C : Ctx} {o : Oper} {a : Act} {w w' : World} {c : Value} {K : Value → World → Prop} (h : (execOp a.eval o).run C.P w = .ok (.value c) w') (hk : K c w') : Runs C o a w K := ⟨c, w', .inl h, hk⟩
theorem Runs.skip {C : Ctx} {o : Oper} {a : Act} {w w' : World} {K : Value → World → Prop} (h : (execOp a.eval o).run C.P w = .ok .skip w') (hk : K undef w') : Runs C o a w K := ⟨undef, w', .inr ⟨h, rfl⟩, hk⟩

abbrev PV := AV × AH
def pr : AV → AH → Option PV := fun v H => some (v, H)
theorem pr_inj {v v' : AV} {H H' : AH} (h : pr v H = some (v', H')) : v = v' ∧ H = H' := by
  simp only [pr, Option.some.injEq, Prod.mk.injEq] at h; exact h
end Go.Ab

/- Each operation's law: values, loads, stores, addresses. -/
set_option linter.unusedSimpArgs false
set_option linter.unusedVariables false
namespace Go.Ab
open Go Go.RowKit

section
variable {C : Ctx} {o : Oper} {a : Act} {w : World} {μ : MU} {H H' : AH} {σ : Env} {v : AV} {lo : Nat} {call : CallT}

abbrev Done (C : Ctx) (μ : MU) (H : AH) (w : World) (v : AV) (H' : AH) : Value → World → Prop := fun c w' => ∃ μ', Good C μ H w v H' c w' μ'

theorem done_same (hH : HR C μ H w) {c : Value} (hv : VR C.fids μ v c) : Done C μ H w v H c w := ⟨μ, Good.same hH hv⟩

theorem op_mov {x : Operand} {y : Opd} (hop : o.op = .move x ∨ o.op = .assign x) (hc : chkOpd C.fids x y = true) (h : evOp call lo (.mov y) σ H pr = some (v, H')) (hσ : ER C.fids μ σ a) (hH : HR C μ H w) :
    Runs C o a w (Done C μ H w v H') := by
  simp only [evOp, pr, Option.some.injEq, Prod.mk.injEq] at h
  obtain ⟨rfl, rfl⟩ := h
  have hv := chkOpd_sound hc hσ
  refine Runs.value (c := a.eval x) (w' := w) ?_ (done_same hH hv)
  rcases hop with hop | hop <;> simp [execOp, hop]

theorem eqGuard_int (P : Program) (w : World) (op : BinOp) (t : TypeId) (x y : Operand) (k k' : IntKind) (n m : Int) : (eqGuard op t x y (.int k n) (.int k' m)).run P w = .ok () w := by
  unfold eqGuard; split <;> rfl
theorem eqGuard_bool (P : Program) (w : World) (op : BinOp) (t : TypeId) (x y : Operand) (n m : Bool) : (eqGuard op t x y (.bool n) (.bool m)).run P w = .ok () w := by
  unfold eqGuard; split <;> rfl

theorem op_bin {b b' : BinOp} {k : IntKind} {t t' : TypeId} {x y : Operand} {x' y' : Opd} (hop : o.op = .binOp b t x y t') (hb : b = b') (hok : okBin b = true) (hx : chkOpd C.fids x x' = true) (hy : chkOpd C.fids y y' = true)
    (h : evOp call lo (.bin b' k x' y') σ H pr = some (v, H')) (hσ : ER C.fids μ σ a) (hH : HR C μ H w) : Runs C o a w (Done C μ H w v H') := by
  subst hb
  simp only [evOp] at h
  obtain ⟨n, hn, h⟩ := asI_some h
  obtain ⟨m, hm, h⟩ := asI_some h
  have vx := chkOpd_sound hx hσ
  have vy := chkOpd_sound hy hσ
  rw [hn] at vx; rw [hm] at vy
  cases hex : a.eval x <;> rw [hex] at vx <;> cases vx
  cases hey : a.eval y <;> rw [hey] at vy <;> cases vy
  have he : ∀ c, (binOp b t (.int k n) (.int k m)).run C.P w = .ok c w → (execOp a.eval o).run C.P w = .ok (.value c) w := fun c hc => by
    simp [execOp, hop, hex, hey, eqGuard_int, hc]
  cases b <;> simp [okBin] at hok <;> simp only [binI, pr] at h
  case quo | rem =>
    by_cases h0 : m = 0
    · simp [h0] at h
    · simp [h0] at h
      obtain ⟨rfl, rfl⟩ := h
      exact Runs.value (he _ (by simp [binOp, Op.intDiv, h0]; rfl)) (done_same hH (by constructor))
  all_goals
    simp only [Option.some.injEq, Prod.mk.injEq] at h
    obtain ⟨rfl, rfl⟩ := h
    refine Runs.value (he _ (by simp [binOp, Op.intArith, Op.intCmp]; rfl)) (done_same hH ?_)
    first
      | constructor
      | (simp only [beq_eq_decide, bne, BEq.beq]; constructor)

theorem equalIn_bool {P : Program} {w : World} {t : TypeId} (ht : P.underlying t = some .bool) {n m : Bool} (d : Nat) : (Op.equalIn (d + 1) t (.bool n) (.bool m)).run P w = .ok (n == m) w := by
  simp only [Op.equalIn]
  simp [underlying, ht]
theorem op_beq {b : BinOp} {neg : Bool} {t t' : TypeId} {x y : Operand} {x' y' : Opd} (hop : o.op = .binOp b t x y t') (hb : b = bif neg then .neq else .eql) (ht : C.P.underlying t = some .bool)
    (hx : chkOpd C.fids x x' = true) (hy : chkOpd C.fids y y' = true)
    (h : evOp call lo (.beq neg x' y') σ H pr = some (v, H')) (hσ : ER C.fids μ σ a) (hH : HR C μ H w) : Runs C o a w (Done C μ H w v H') := by
  simp only [evOp] at h
  obtain ⟨n, hn, h⟩ := asB_some h
  obtain ⟨m, hm, h⟩ := asB_some h
  have vx := chkOpd_sound hx hσ
  have vy := chkOpd_sound hy hσ
  rw [hn] at vx; rw [hm] at vy
  cases hex : a.eval x <;> rw [hex] at vx <;> cases vx
  cases hey : a.eval y <;> rw [hey] at vy <;> cases vy
  simp only [pr, Option.some.injEq, Prod.mk.injEq] at h
  obtain ⟨rfl, rfl⟩ := h
  have heq : (Op.equal t (.bool n) (.bool m)).run C.P w = .ok (n == m) w := by
    exact equalIn_bool ht 9999
  cases neg
  · subst hb
    exact Runs.value (c := .bool (n == m)) (by simp [execOp, hop, hex, hey, eqGuard_bool, binOp, heq]) (done_same hH (by constructor))
  · subst hb
    exact Runs.value (c := .bool (!(n == m))) (by simp [execOp, hop, hex, hey, eqGuard_bool, binOp, heq]) (done_same hH (by constructor))

theorem op_not {t : TypeId} {x : Operand} {x' : Opd} (hop : o.op = .unOp .not t x) (hx : chkOpd C.fids x x' = true)
    (h : evOp call lo (.not x') σ H pr = some (v, H')) (hσ : ER C.fids μ σ a) (hH : HR C μ H w) : Runs C o a w (Done C μ H w v H') := by
  simp only [evOp] at h
  obtain ⟨n, hn, h⟩ := asB_some h
  have vx := chkOpd_sound hx hσ
  rw [hn] at vx
  cases hex : a.eval x <;> rw [hex] at vx <;> cases vx
  simp only [pr, Option.some.injEq, Prod.mk.injEq] at h
  obtain ⟨rfl, rfl⟩ := h
  exact Runs.value (c := .bool !n) (by simp [execOp, hop, hex, Op.unary]) (done_same hH (by constructor))

theorem op_conv {s d : TypeId} {k k' : IntKind} {x : Operand} {x' : Opd} (hop : o.op = .convert s d x) (hs : (C.P.underlying s).isSome = true) (hd : C.P.underlying d = some (.int k')) (hx : chkOpd C.fids x x' = true)
    (h : evOp call lo (.conv k k' x') σ H pr = some (v, H')) (hσ : ER C.fids μ σ a) (hH : HR C μ H w) : Runs C o a w (Done C μ H w v H') := by
  simp only [evOp] at h
  obtain ⟨n, hn, h⟩ := asI_some h
  have vx := chkOpd_sound hx hσ
  rw [hn] at vx
  cases hex : a.eval x <;> rw [hex] at vx <;> cases vx
  simp only [pr, Option.some.injEq, Prod.mk.injEq] at h
  obtain ⟨rfl, rfl⟩ := h
  obtain ⟨ds, hds⟩ := Option.isSome_iff_exists.1 hs
  exact Runs.value (c := .int k' (k'.wrap n)) (by simp [execOp, hop, hex, convert, underlying, hds, hd, Conv.intToInt]) (done_same hH (by constructor))

theorem isAgg_run (P : Program) (w : World) {t : TypeId} {b : Bool} (h : isAggB P t = some b) : (isAgg t).run P w = .ok b w := by
  unfold isAggB at h
  cases hu : P.underlying t with
  | none => rw [hu] at h; simp at h
  | some d => rw [hu] at h; cases d <;> simp at h <;> subst h <;> simp [isAgg, underlying, hu]
theorem sizeOf_run (P : Program) (w : World) {t : TypeId} {n : Nat} (h : sizeB P t = some n) : (sizeOf t).run P w = .ok n w := by
  unfold sizeB at h
  cases hu : P.info? t with
  | none => rw [hu] at h; simp at h
  | some d => rw [hu] at h; simp at h; subst h; simp [sizeOf, typeInfo, hu]
theorem zero_run (P : Program) (w : World) {t : TypeId} {z : Value} (h : zeroB P t = some z) : (zeroValue t).run P w = .ok z w := by
  unfold zeroB at h
  cases hu : P.info? t with
  | none => rw [hu] at h; simp at h
  | some d => rw [hu] at h; simp at h; simp [zeroValue, typeInfo, hu, h]
theorem info_run (P : Program) (w : World) {t : TypeId} {n : Nat} (h : bytesB P t = some n) : ∃ i, (typeInfo t).run P w = .ok i w ∧ i.bytes = n := by
  unfold bytesB at h
  cases hu : P.info? t with
  | none => rw [hu] at h; simp at h
  | some d => rw [hu] at h; simp at h; exact ⟨d, by simp [typeInfo, hu], h⟩
theorem slice_und {P : Program} {t e : TypeId} (h : sliceB P t = some e) : P.underlying t = some (.slice e) := by
  unfold sliceB at h; split at h
  · rename_i e' he; rw [he]; cases h; rfl
  · simp at h
theorem array_und {P : Program} {t : TypeId} {n : Nat} {e : TypeId} (h : arrayB P t = some (n, e)) : P.underlying t = some (.array n e) := by
  unfold arrayB at h; split at h
  · rename_i e' he; rw [he]; cases h; rfl
  · simp at h
theorem field_und {P : Program} {t : TypeId} {f : Nat} {fd : Field} (h : fieldB P t f = some fd) : ∃ fs, P.underlying t = some (.struct fs) ∧ fs[f]? = some fd := by
  unfold fieldB at h; split at h
  · rename_i e' he; exact ⟨_, he, h⟩
  · simp at h

/-- A load. -/
theorem loadVar_run (hH : HR C μ H w) {t : TypeId} {t1 : T1} (ht : chkT1 C.P t t1 = true) {b ofs : Nat} {e : Ent} (he : μ[b]? = some (some e)) {v : AV} (h : ldT H t1 ⟨b, ofs⟩ some = some v) :
    ∃ c, (loadVar t ⟨e.B, e.o + ofs, none⟩).run C.P w = .ok c w ∧ VR C.fids μ v c := by
  cases t1 with
  | lf l =>
    simp only [ldT] at h
    obtain ⟨vs, sz, v', hb, hv, h⟩ := ldc_some h
    have := castLf_some h
    simp only [Option.some.injEq] at this
    subst this
    obtain ⟨c, hc, hr⟩ := hH.cell hb he hv
    simp only [chkT1, decide_eq_true_eq] at ht
    refine ⟨c, ?_, hr⟩
    simp [loadVar, isAgg_run C.P w ht, hc]
  | agg ls =>
    simp only [ldT] at h
    obtain ⟨vs, sz, hb, hn, h⟩ := ldn_some h
    have := (castLfs_some h).1
    simp only [Option.some.injEq] at this
    subst this
    simp only at hn
    obtain ⟨cs, h1, h2, h3⟩ := hH.cells hb he hn
    simp only [chkT1, Bool.and_eq_true, decide_eq_true_eq] at ht
    refine ⟨.agg cs.toArray, ?_, .agg _ _ h2⟩
    have := loadCells_run C.P w e.B (e.o + ofs) cs h3
    rw [h1] at this
    simp [loadVar, isAgg_run C.P w ht.1, sizeOf_run C.P w ht.2, this]

theorem op_ld {t : TypeId} {t1 : T1} {x : Operand} {x' : Opd} (hop : o.op = .load t x) (ht : chkT1 C.P t t1 = true) (hx : chkOpd C.fids x x' = true)
    (h : evOp call lo (.ld t1 x') σ H pr = some (v, H')) (hσ : ER C.fids μ σ a) (hH : HR C μ H w) : Runs C o a w (Done C μ H w v H') := by
  simp only [evOp] at h
  obtain ⟨p, hp, h⟩ := asP_some h
  obtain ⟨v', hv', h⟩ := ldT_some h
  simp only [pr, Option.some.injEq, Prod.mk.injEq] at h
  obtain ⟨rfl, rfl⟩ := h
  have vx := chkOpd_sound hx hσ
  rw [hp] at vx
  cases hex : a.eval x <;> rw [hex] at vx <;> cases vx
  rename_i b ofs e he
  obtain ⟨c, hr, hv⟩ := loadVar_run hH ht he (hv' some)
  exact Runs.value (c := c) (by simp [execOp, hop, hex, Instr.loadAt, Instr.sureAddr, hr]) (done_same hH hv)

theorem op_st {t : TypeId} {n : Option Nat} {x y : Operand} {x' y' : Opd} (hop : o.op = .store t x y) (ht : sizeB C.P t = some (n.getD 1)) (hx : chkOpd C.fids x x' = true) (hy : chkOpd C.fids y y' = true) (hlo : C.lo0 ≤ lo)
    (h : evOp call lo (.st n x' y') σ H pr = some (v, H')) (hσ : ER C.fids μ σ a) (hH : HR C μ H w) : Runs C o a w (Done C μ H w v H') := by
  simp only [evOp] at h
  obtain ⟨p, hp, h⟩ := asP_some h
  have vx := chkOpd_sound hx hσ
  have vy := chkOpd_sound hy hσ
  rw [hp] at vx
  cases hex : a.eval x <;> rw [hex] at vx <;> cases vx
  rename_i b ofs e he
  -- the cells that are stored
  obtain ⟨us, sz, vs, hb, hlb, hn, hus, hs1, hH'⟩ : ∃ us sz vs, H[b]? = some (.cells vs sz) ∧ lo ≤ b ∧ ofs + us.length ≤ vs.length ∧ us.length = n.getD 1 ∧ (VRs C.fids μ us (a.eval y).cells.toList ∧ ∀ c ∈ (a.eval y).cells.toList, c.oneCell' = true) ∧
      v = .tup [] ∧ H' = H.set b (.cells (overlay vs ofs us) sz) := by
    cases n with
    | none =>
      simp only at h
      obtain ⟨hs, h⟩ := cond_none h
      obtain ⟨vs, sz, hb, hlb, hn, h⟩ := stc_some h
      simp only [pr, Option.some.injEq, Prod.mk.injEq] at h
      simp only at hb hlb hn h
      have h1 := vy.single hs
      have h2 := cells_of_oneCell h1
      refine ⟨[opd σ y'], sz, vs, hb, hlb, by simp; omega, rfl, ⟨?_, ?_⟩, h.1.symm, ?_⟩
      · rw [h2]; exact .cons _ _ _ _ vy .nil
      · rw [h2]; simpa using h1
      · rw [← h.2, overlay_one _ _ _ hn]
    | some n =>
      simp only at h
      obtain ⟨us, hu, h⟩ := asAgg_some h
      obtain ⟨hs, h⟩ := cond_none h
      simp only [Bool.and_eq_true, decide_eq_true_eq] at hs
      obtain ⟨vs, sz, hb, hlb, hn, h⟩ := stn_some h
      simp only [pr, Option.some.injEq, Prod.mk.injEq] at h
      simp only at hb hlb hn h
      rw [hu] at vy
      refine ⟨us, sz, vs, hb, hlb, hn, hs.1, ?_, h.1.symm, h.2.symm⟩
      cases hey : a.eval y <;> rw [hey] at vy <;> cases vy
      rename_i cs hvs
      refine ⟨by simpa [Value.cells] using hvs, ?_⟩
      simp only [Value.cells]
      have : ∀ {us : List AV} {cs : List Value}, VRs C.fids μ us cs → singles us = true → ∀ c ∈ cs, c.oneCell' = true := by
        intro us
        induction us with
        | nil => intro cs h _ c hc; cases h; simp at hc
        | cons u us ih =>
          intro cs h hs c hc
          cases h with
          | cons _ c' _ cs' h1 h2 =>
            cases hsu : single u <;> simp [singles, hsu] at hs
            rcases List.mem_cons.1 hc with rfl | hc
            · exact h1.single hsu
            · exact ih h2 hs c hc
      exact this hvs hs.2
  obtain ⟨hv, rfl⟩ := hH'
  subst hv
  obtain ⟨hu1, hu2⟩ := hs1
  have hlb0 : C.lo0 ≤ b := Nat.le_trans hlo hlb
  obtain ⟨g1, g2, g3⟩ := hH.blk b _ e hb he
  obtain ⟨g4, g5⟩ := g3 hlb0
  have hlen := hu1.length
  obtain ⟨w', hr, hw⟩ := storeCells_run C.P e.B (e.o + ofs) (a.eval y).cells.toList 0 w hu2 (fun j hj => by
    have := g5 (ofs + j) (by omega)
    rw [show e.o + ofs + 0 + j = e.o + (ofs + j) by omega]; exact this)
  have hsz : (a.eval y).cells.size = n.getD 1 := by rw [← hus, hlen]; simp
  refine Runs.skip (w' := w') ?_ ⟨μ, Ext.refl _, ?_, hH.store hb he hlb0 hn hu1 hw, hw.below ((hH.own b e he).2 hlb0), ?_⟩
  · simp [execOp, hop, hex, Instr.storeAt, Instr.sureAddr, storeVar, sizeOf_run C.P w ht, hsz, hr]
  · exact .tup _ [] .nil
  · intro i hi
    have : i ≠ b := fun e' => by subst e'; rw [hi] at he; cases he
    rw [List.getElem?_set_ne (Ne.symm this)]
end
end Go.Ab

/- Each operation's law: addresses, new blocks, composites, lengths. -/
set_option linter.unusedSimpArgs false
set_option linter.unusedVariables false
namespace Go.Ab
open Go Go.RowKit

section
variable {C : Ctx} {o : Oper} {a : Act} {w : World} {μ : MU} {H H' : AH} {σ : Env} {v : AV} {lo : Nat} {call : CallT}

theorem op_fadr {s : TypeId} {f off : Nat} {x : Operand} {x' : Opd} {fd : Field} {n : Nat} (hop : o.op = .fieldAddr s x f) (hf : fieldB C.P s f = some fd) (hoff : fd.offset = off) (hsz : sizeB C.P fd.type = some n) (hn : n ≠ 0) (hx : chkOpd C.fids x x' = true)
    (h : evOp call lo (.fadr x' off) σ H pr = some (v, H')) (hσ : ER C.fids μ σ a) (hH : HR C μ H w) : Runs C o a w (Done C μ H w v H') := by
  simp only [evOp] at h
  obtain ⟨p, hp, h⟩ := asP_some h
  have vx := chkOpd_sound hx hσ
  rw [hp] at vx
  obtain ⟨e, hex, he⟩ := vx.ptr_inv
  simp only [pr, Option.some.injEq, Prod.mk.injEq] at h
  obtain ⟨rfl, rfl⟩ := h
  obtain ⟨fs, hu, hfs⟩ := field_und hf
  subst hoff
  have := VR.ptr (fids := C.fids) p.b (p.o + fd.offset) e he
  exact Runs.value (c := .pointer (some ⟨e.B, e.o + (p.o + fd.offset), none⟩)) (by simp [execOp, hop, hex, Instr.fieldAt, underlying, hu, hfs, Instr.sureAddr, fieldPlace, sizeOf_run C.P w hsz, hn, addr_add, Nat.add_assoc]) (done_same hH this)

theorem op_fld {s : TypeId} {f off : Nat} {x : Operand} {x' : Opd} {fd : Field} {n : Option Nat} (hop : o.op = .field s x f) (hf : fieldB C.P s f = some fd) (hoff : fd.offset = off)
    (hsz : match n with | none => isAggB C.P fd.type = some false | some n => isAggB C.P fd.type = some true ∧ sizeB C.P fd.type = some n) (hx : chkOpd C.fids x x' = true)
    (h : evOp call lo (.fld x' off n) σ H pr = some (v, H')) (hσ : ER C.fids μ σ a) (hH : HR C μ H w) : Runs C o a w (Done C μ H w v H') := by
  simp only [evOp] at h
  obtain ⟨vs, hp, h⟩ := asAgg_some h
  have vx := chkOpd_sound hx hσ
  rw [hp] at vx
  obtain ⟨cs, hex, hcs⟩ := vx.agg_inv
  obtain ⟨fs, hu, hfs⟩ := field_und hf
  subst hoff
  cases n with
  | none =>
    simp only at h hsz
    split at h
    · rename_i v' hv'
      simp only [pr, Option.some.injEq, Prod.mk.injEq] at h
      obtain ⟨rfl, rfl⟩ := h
      obtain ⟨c, hc, hr⟩ := hcs.get hv'
      exact Runs.value (c := c) (by simp [execOp, hop, hex, Instr.field, underlying, hu, hfs, Go.asAgg, part, isAgg_run C.P w hsz, hc]) (done_same hH hr)
    · simp at h
  | some n =>
    simp only at h hsz
    obtain ⟨hb, h⟩ := cond_none h
    simp only [pr, Option.some.injEq, Prod.mk.injEq] at h
    obtain ⟨rfl, rfl⟩ := h
    simp only [decide_eq_true_eq] at hb
    refine Runs.value (c := .agg ((cs.drop fd.offset).take n).toArray) ?_ (done_same hH (.agg _ _ ((hcs.drop _).take _)))
    simp [execOp, hop, hex, Instr.field, underlying, hu, hfs, Go.asAgg, part, isAgg_run C.P w hsz.1, sizeOf_run C.P w hsz.2, List.extract]

theorem op_iadr {t e : TypeId} {sz : Nat} {x y : Operand} {x' y' : Opd} (hop : o.op = .indexAddr t x y) (ht : sliceB C.P t = some e) (hsz : sizeB C.P e = some sz) (hx : chkOpd C.fids x x' = true) (hy : chkOpd C.fids y y' = true)
    (h : evOp call lo (.iadr x' y' sz) σ H pr = some (v, H')) (hσ : ER C.fids μ σ a) (hH : HR C μ H w) : Runs C o a w (Done C μ H w v H') := by
  simp only [evOp] at h
  obtain ⟨s, hs, h⟩ := asS_some h
  obtain ⟨ki, i, hi, h⟩ := asN_some h
  obtain ⟨p, hp, h0, hlt, hfin⟩ := idx_some h
  have vx := chkOpd_sound hx hσ
  have vy := chkOpd_sound hy hσ
  rw [hi] at vy
  obtain ⟨s1, s2⟩ := s
  simp only at hp hlt
  rw [hs, hp] at vx
  obtain ⟨e', cap, hex, he, hc, hl, _⟩ : ∃ e cap, a.eval x = .slice (some ⟨e.B, e.o + p.o, none⟩) s2 cap ∧ μ[p.b]? = some (some e) ∧ p.o + cap * e.sz ≤ e.cap ∧ s2 ≤ cap ∧ 0 < e.sz := by
    rcases vx.sl_inv with h | ⟨_, _, _, h, _⟩
    · exact h
    · omega
  have hey := vy.int_inv
  obtain ⟨h1, h2⟩ := pr_inj hfin
  subst h1; subst h2
  have := VR.ptr (fids := C.fids) p.b (p.o + i.toNat * sz) e' he
  exact Runs.value (c := .pointer (some ⟨e'.B, e'.o + (p.o + i.toNat * sz), none⟩)) (by
    simp [execOp, hop, hex, hey, Instr.indexAt, asIntOf, underlying, slice_und ht, h0, hlt, sizeOf_run C.P w hsz, addr_add, Nat.add_assoc]) (done_same hH this)

theorem op_aadr {t e : TypeId} {len sz : Nat} {x y : Operand} {x' y' : Opd} (hop : o.op = .indexAddr t x y) (ht : arrayB C.P t = some (len, e)) (hsz : sizeB C.P e = some sz) (hx : chkOpd C.fids x x' = true) (hy : chkOpd C.fids y y' = true)
    (h : evOp call lo (.aadr x' y' len sz) σ H pr = some (v, H')) (hσ : ER C.fids μ σ a) (hH : HR C μ H w) : Runs C o a w (Done C μ H w v H') := by
  simp only [evOp] at h
  obtain ⟨p, hp, h⟩ := asP_some h
  obtain ⟨ki, i, hi, h⟩ := asN_some h
  obtain ⟨hb, h⟩ := cond_none h
  simp only [Bool.and_eq_true, decide_eq_true_eq] at hb
  have vx := chkOpd_sound hx hσ
  have vy := chkOpd_sound hy hσ
  rw [hp] at vx; rw [hi] at vy
  obtain ⟨e', hex, he⟩ := vx.ptr_inv
  have hey := vy.int_inv
  obtain ⟨h1, h2⟩ := pr_inj h
  subst h1; subst h2
  have := VR.ptr (fids := C.fids) p.b (p.o + i.toNat * sz) e' he
  exact Runs.value (c := .pointer (some ⟨e'.B, e'.o + (p.o + i.toNat * sz), none⟩)) (by
    simp [execOp, hop, hex, hey, Instr.indexAt, asIntOf, underlying, array_und ht, hb.1, hb.2, sizeOf_run C.P w hsz, addr_add, Nat.add_assoc, Instr.sureAddr]) (done_same hH this)

/-- A new block of cells. -/
theorem push_cells (hH : HR C μ H w) {vs : List AV} {cs : List Value} {sz : Nat} {el : TypeId} (hv : VRs C.fids μ vs cs) :
    HR C (μ ++ [some ⟨w.heap.size, 0, cs.length, sz⟩]) (H ++ [.cells vs sz]) (w.alloc (.cells cs.toArray el)) := by
  refine hH.push _ _ _ rfl ⟨rfl, fun j v hj => ?_, fun _ => ⟨Nat.le_of_eq hv.length, fun j hj => ?_⟩⟩
  · obtain ⟨c, hc, hr⟩ := hv.get hj
    refine ⟨c, ?_, hr.mono (Ref.app _ _)⟩
    simp only [Nat.zero_add, World.cell?_alloc_new]
    simpa using hc
  · simp only at hj
    simp [hj]
theorem keep_snoc (hH : HR C μ H w) (b : Blk) : Keep μ H (H ++ [b]) := fun i hi => by
  have h1 : i < μ.length := (List.getElem?_eq_some_iff.1 hi).1
  rw [List.getElem?_append_left (by rw [← hH.len]; exact h1)]
theorem new_ptr (hH : HR C μ H w) {e : Ent} (he : e.o = 0) : VR C.fids (μ ++ [some e]) (.ptr (some ⟨H.length, 0⟩)) (.pointer (some ⟨e.B, 0, none⟩)) := by
  have := VR.ptr (fids := C.fids) (μ := μ ++ [some e]) H.length 0 e (by rw [← hH.len]; simp)
  rw [he] at this; exact this

theorem op_alloc {t : TypeId} {zs : List AV} {z : Value} (hop : o.op = .alloc t) (hz : zeroB C.P t = some z) (hc : chkVs z.cells.toList zs = true)
    (h : evOp call lo (.alloc zs) σ H pr = some (v, H')) (hσ : ER C.fids μ σ a) (hH : HR C μ H w) : Runs C o a w (Done C μ H w v H') := by
  simp only [evOp, alc, pr, Option.some.injEq, Prod.mk.injEq] at h
  obtain ⟨rfl, rfl⟩ := h
  have hv : VRs C.fids μ zs z.cells.toList := chkVs_sound hc
  refine Runs.value (c := .pointer (some ⟨w.heap.size, 0, none⟩)) (w' := w.alloc (.cells z.cells t)) (by simp [execOp, hop, Instr.alloc, zero_run C.P w hz, newVar, newRow]) ?_
  refine ⟨_, ⟨_, rfl⟩, new_ptr hH rfl, by simpa using push_cells (el := t) (sz := zs.length) hH hv, (Below.refl _ _).alloc hH.base _, keep_snoc hH _⟩

theorem singles_get : ∀ {us : List AV} {cs : List Value}, VRs C.fids μ us cs → singles us = true → ∀ c ∈ cs, c.oneCell' = true := by
  intro us
  induction us with
  | nil => intro cs h _ c hc; cases h; simp at hc
  | cons u us ih =>
    intro cs h hs c hc
    cases h with
    | cons _ c' _ cs' h1 h2 =>
      cases hsu : single u <;> simp [singles, hsu] at hs
      rcases List.mem_cons.1 hc with rfl | hc
      · exact h1.single hsu
      · exact ih h2 hs c hc

theorem op_box {t : TypeId} {n : Nat} {x : Operand} {x' : Opd} (hop : o.op = .box t x) (hx : chkOpd C.fids x x' = true)
    (h : evOp call lo (.box n x') σ H pr = some (v, H')) (hσ : ER C.fids μ σ a) (hH : HR C μ H w) : Runs C o a w (Done C μ H w v H') := by
  simp only [evOp] at h
  obtain ⟨hb, h⟩ := cond_none h
  simp only [Bool.and_eq_true, decide_eq_true_eq] at hb
  simp only [alc, pr, Option.some.injEq, Prod.mk.injEq] at h
  obtain ⟨rfl, rfl⟩ := h
  have vx := chkOpd_sound hx hσ
  have hv := vx.cells hb.1.1
  refine Runs.value (c := .pointer (some ⟨w.heap.size, 0, none⟩)) (w' := w.alloc (.cells (a.eval x).cells t)) (by simp [execOp, hop, Instr.box, newVar, newRow]) ?_
  exact ⟨_, ⟨_, rfl⟩, new_ptr hH rfl, by simpa using push_cells (el := t) (sz := (cellsV (opd σ x')).length) hH hv, (Below.refl _ _).alloc hH.base _, keep_snoc hH _⟩

/-! ### Composites -/
theorem overlay_get {α : Type} (vs us : List α) (o j : Nat) (h : o + us.length ≤ vs.length) : (overlay vs o us)[j]? = if o ≤ j ∧ j < o + us.length then us[j - o]? else vs[j]? := by
  unfold overlay
  have hl : (vs.take o).length = o := by simp; omega
  rcases Nat.lt_or_ge j o with h1 | h1
  · rw [if_neg (by omega), List.append_assoc, List.getElem?_append_left (by omega), List.getElem?_take_of_lt h1]
  · rcases Nat.lt_or_ge j (o + us.length) with h2 | h2
    · rw [if_pos ⟨h1, h2⟩, List.append_assoc, List.getElem?_append_right (by omega), hl, List.getElem?_append_left (by omega)]
    · rw [if_neg (by omega), List.getElem?_append_right (by simp only [List.length_append]; omega), List.getElem?_drop]
      congr 1; simp only [List.length_append]; omega
theorem foldl_set (off : Nat) : ∀ (vs : List Value) (k : Nat) (cells : Array Value), off + k + vs.length ≤ cells.size →
    ((vs.zipIdx k).foldl (fun cs p => cs.setIfInBounds (off + p.2) p.1) cells) = (overlay cells.toList (off + k) vs).toArray := by
  intro vs
  induction vs with
  | nil => intro k cells h; simp [overlay]
  | cons v vs ih =>
    intro k cells h
    simp only [List.zipIdx_cons, List.foldl_cons]
    simp only [List.length_cons] at h
    rw [ih (k + 1) _ (by simp; omega)]
    congr 1
    apply List.ext_getElem?
    intro j
    rw [Array.toList_setIfInBounds, overlay_get _ _ _ _ (by simp; omega), overlay_get _ _ _ _ (by simp; omega)]
    simp only [List.length_cons]
    by_cases h1 : off + (k + 1) ≤ j ∧ j < off + (k + 1) + vs.length
    · rw [if_pos h1, if_pos (by omega), show j - (off + k) = (j - (off + (k + 1))) + 1 by omega]; simp
    · rw [if_neg h1]
      by_cases h2 : j = off + k
      · subst h2; rw [if_pos (by omega), List.getElem?_set_self (by simp; omega)]; simp
      · rw [if_neg (by omega), List.getElem?_set_ne (by omega)]
theorem foldl_cells (off : Nat) (cs cells : Array Value) (h : off + cs.size ≤ cells.size) :
    (cs.zipIdx.foldl (fun cs p => cs.setIfInBounds (off + p.2) p.1) cells) = (overlay cells.toList off cs.toList).toArray := by
  rw [← Array.foldl_toList, Array.toList_zipIdx]
  exact foldl_set off cs.toList 0 cells (by simpa using h)
theorem overlay_length {α : Type} (vs : List α) (o : Nat) (us : List α) (h : o + us.length ≤ vs.length) : (overlay vs o us).length = vs.length := by
  simp [overlay]; omega
theorem VRs.overlay {fids : List Nat} {vs us : List AV} {cs ds : List Value} (h : VRs fids μ vs cs) (k : VRs fids μ us ds) (n : Nat) : VRs fids μ (overlay vs n us) (Ab.overlay cs n ds) := by
  unfold Ab.overlay
  rw [k.length]
  exact ((h.take _).append k).append (h.drop _)

def chkParts (fids : List Nat) (place : Nat → Option (Nat × Nat)) : List (Nat × Operand) → List (Nat × Nat × Opd) → Bool
  | [], [] => true
  | (i, x) :: ps, (o, n, y) :: qs => decide (place i = some (o, n)) && chkOpd fids x y && chkParts fids place ps qs
  | _, _ => false
theorem fill_run {place : Nat → Option (Nat × Nat)} (hσ : ER C.fids μ σ a) : ∀ {ps : List (Nat × Operand)} {qs : List (Nat × Nat × Opd)} {zs : List AV} {cells : Array Value} {us : List AV}, chkParts C.fids place ps qs = true →
    fillP σ zs qs some = some us → VRs C.fids μ zs cells.toList → ∃ out, Instr.fill place cells (ps.map fun p => (p.1, a.eval p.2)) = some out ∧ VRs C.fids μ us out.toList := by
  intro ps
  induction ps with
  | nil =>
    intro qs zs cells us hc h hz
    cases qs with
    | nil => simp only [fillP, Option.some.injEq] at h; subst h; exact ⟨cells, rfl, hz⟩
    | cons q qs => simp [chkParts] at hc
  | cons p ps ih =>
    intro qs zs cells us hc h hz
    cases qs with
    | nil => simp [chkParts] at hc
    | cons q qs =>
      obtain ⟨i, x⟩ := p
      obtain ⟨ofs, n, y⟩ := q
      simp only [chkParts, Bool.and_eq_true, decide_eq_true_eq] at hc
      obtain ⟨⟨hp, hx⟩, hc⟩ := hc
      unfold fillP at h
      try simp only at h
      obtain ⟨hb, h⟩ := cond_none h
      simp only [Bool.and_eq_true, decide_eq_true_eq] at hb
      obtain ⟨⟨hk, hn⟩, hle⟩ := hb
      have vx := (chkOpd_sound hx hσ).cells hk
      have hl := vx.length
      have hzl := hz.length
      simp only [Array.length_toList] at hl hzl
      have hfit : ofs + (a.eval x).cells.size ≤ cells.size := by omega
      obtain ⟨out, ho, hv⟩ := ih (cells := (overlay cells.toList ofs (a.eval x).cells.toList).toArray) hc h (by simpa using hz.overlay vx ofs)
      refine ⟨out, ?_, hv⟩
      simp only [List.map_cons, Instr.fill, hp]
      rw [if_neg (by simp; omega), foldl_cells _ _ _ hfit]
      exact ho
theorem fillP_split {ρ : Type} {r : ρ} {qs : List (Nat × Nat × Opd)} : ∀ {zs : List AV} {κ : List AV → Option ρ}, fillP σ zs qs κ = some r → ∃ us, fillP σ zs qs some = some us ∧ κ us = some r := by
  induction qs with
  | nil => intro zs κ h; unfold fillP at h; exact ⟨zs, by unfold fillP; rfl, h⟩
  | cons q qs ih =>
    intro zs κ h
    obtain ⟨ofs, n, y⟩ := q
    unfold fillP at h ⊢
    try simp only at h ⊢
    obtain ⟨hb, h⟩ := cond_none h
    rw [hb]
    exact ih h

def placesB (P : Program) (t : TypeId) : Option (Array (Nat × Nat)) :=
  match P.underlying t with
  | some (.struct fs) => some (fs.map fun f => (f.offset, (sizeB P f.type).getD 0))
  | _ => none
def allSized (P : Program) (t : TypeId) : Bool :=
  match P.underlying t with
  | some (.struct fs) => fs.toList.all fun f => (sizeB P f.type).isSome
  | _ => false
theorem places_runL (P : Program) (w : World) : ∀ (l : List Field), (l.all fun f => (sizeB P f.type).isSome) = true →
    (l.mapM fun f => (do pure (f.offset, ← sizeOf f.type) : Sem (Nat × Nat))).run P w = .ok (l.map fun f => (f.offset, (sizeB P f.type).getD 0)) w := by
  intro l
  induction l with
  | nil => intro _; rfl
  | cons f l ih =>
    intro h
    simp only [List.all_cons, Bool.and_eq_true] at h
    obtain ⟨n, hn⟩ := Option.isSome_iff_exists.1 h.1
    rw [List.mapM_cons]
    simp only [Sem.run_bind, sizeOf_run P w hn, Result.andThen_ok, Sem.run_pure, ih h.2, List.map_cons, hn, Option.getD_some]
theorem places_run (P : Program) (w : World) (fs : Array Field) (h : (fs.toList.all fun f => (sizeB P f.type).isSome) = true) :
    (fs.mapM fun f => (do pure (f.offset, ← sizeOf f.type) : Sem (Nat × Nat))).run P w = .ok (fs.map fun f => (f.offset, (sizeB P f.type).getD 0)) w := by
  have h1 := places_runL P w fs.toList h
  rw [Array.mapM_eq_mapM_toList]
  simp only [Sem.run_map, h1, Result.andThen_ok]
  congr 1
  apply Array.ext'; simp

theorem op_bldS {t : TypeId} {zs : List AV} {z : Value} {ps : Array (Nat × Operand)} {qs : List (Nat × Nat × Opd)} {pl : Array (Nat × Nat)} (hop : o.op = .build t ps) (hz : zeroB C.P t = some z) (hc : chkVs z.cells.toList zs = true)
    (hpl : placesB C.P t = some pl) (hal : allSized C.P t = true) (hps : chkParts C.fids (pl[·]?) ps.toList qs = true)
    (h : evOp call lo (.bld zs qs) σ H pr = some (v, H')) (hσ : ER C.fids μ σ a) (hH : HR C μ H w) : Runs C o a w (Done C μ H w v H') := by
  simp only [evOp] at h
  obtain ⟨us, hu, h⟩ := fillP_split h
  simp only [pr, Option.some.injEq, Prod.mk.injEq] at h
  obtain ⟨rfl, rfl⟩ := h
  obtain ⟨out, ho, hv⟩ := fill_run (cells := z.cells) hσ hps hu (chkVs_sound hc)
  unfold placesB at hpl
  unfold allSized at hal
  split at hpl
  · rename_i fs hfs
    simp only [Option.some.injEq] at hpl
    subst hpl
    rw [hfs] at hal
    simp only at hal
    refine Runs.value (c := .agg out) (w' := w) ?_ (done_same hH ?_)
    · have e1 : (ps.map fun p => (p.1, a.eval p.2)).toList = ps.toList.map fun p => (p.1, a.eval p.2) := by simp
      have e2 : (fun (x : Nat × Operand) => match x with | (i, x) => (i, a.eval x)) = fun p => (p.1, a.eval p.2) := by funext p; rfl
      simp only [execOp, hop, Instr.build, Sem.run_bind, zero_run C.P w hz, Result.andThen_ok, underlying, run_program, hfs, Sem.run_pure, places_run C.P w fs hal, e2, e1, ho]
    · have := VR.agg (fids := C.fids) us out.toList hv
      simpa using this
  · simp at hpl

theorem op_bldA {t e : TypeId} {len sz : Nat} {zs : List AV} {z : Value} {ps : Array (Nat × Operand)} {qs : List (Nat × Nat × Opd)} (hop : o.op = .build t ps) (hz : zeroB C.P t = some z) (hc : chkVs z.cells.toList zs = true)
    (ht : arrayB C.P t = some (len, e)) (hsz : sizeB C.P e = some sz) (hps : chkParts C.fids (fun i => some (i * sz, sz)) ps.toList qs = true)
    (h : evOp call lo (.bld zs qs) σ H pr = some (v, H')) (hσ : ER C.fids μ σ a) (hH : HR C μ H w) : Runs C o a w (Done C μ H w v H') := by
  simp only [evOp] at h
  obtain ⟨us, hu, h⟩ := fillP_split h
  simp only [pr, Option.some.injEq, Prod.mk.injEq] at h
  obtain ⟨rfl, rfl⟩ := h
  obtain ⟨out, ho, hv⟩ := fill_run (cells := z.cells) hσ hps hu (chkVs_sound hc)
  refine Runs.value (c := .agg out) (w' := w) ?_ (done_same hH ?_)
  · have e1 : (ps.map fun p => (p.1, a.eval p.2)).toList = ps.toList.map fun p => (p.1, a.eval p.2) := by simp
    have e2 : (fun (x : Nat × Operand) => match x with | (i, x) => (i, a.eval x)) = fun p => (p.1, a.eval p.2) := by funext p; rfl
    simp only [execOp, hop, Instr.build, Sem.run_bind, zero_run C.P w hz, Result.andThen_ok, underlying, run_program, array_und ht, Sem.run_pure, sizeOf_run C.P w hsz, e2, e1, ho]
  · have := VR.agg (fids := C.fids) us out.toList hv
    simpa using this

theorem new_sl (hH : HR C μ H w) {e : Ent} (he : e.o = 0) {len cap : Nat} (hl : len ≤ cap) (hc : cap * e.sz ≤ e.cap) (hz : 0 < e.sz) : VR C.fids (μ ++ [some e]) (.sl ⟨some ⟨H.length, 0⟩, len⟩) (.slice (some ⟨e.B, 0, none⟩) len cap) := by
  have := VR.sl (fids := C.fids) (μ := μ ++ [some e]) H.length 0 len cap e (by rw [← hH.len]; simp) (by omega) hl hz
  rw [he] at this; exact this

theorem op_bsl {t e : TypeId} {len sz : Nat} {zs : List AV} {z : Value} {ps : Array (Nat × Operand)} {qs : List (Nat × Nat × Opd)} (hop : o.op = .buildSlice t len ps) (ht : sliceB C.P t = some e) (hsz : sizeB C.P e = some sz)
    (hbig : len * sz ≤ 16777216 ∧ 0 < sz) (hz : zeroB C.P e = some z) (hc : chkVs ((Array.range (len * sz)).map (z.cells[· % z.cells.size]!)).toList zs = true)
    (hps : chkParts C.fids (fun i => some (i * sz, sz)) ps.toList qs = true)
    (h : evOp call lo (.bsl sz zs len qs) σ H pr = some (v, H')) (hσ : ER C.fids μ σ a) (hH : HR C μ H w) : Runs C o a w (Done C μ H w v H') := by
  simp only [evOp] at h
  obtain ⟨us, hu, h⟩ := fillP_split h
  obtain ⟨hsg, h⟩ := cond_none h
  simp only [mkb, pr, Option.some.injEq, Prod.mk.injEq] at h
  obtain ⟨rfl, rfl⟩ := h
  obtain ⟨out, ho, hv⟩ := fill_run (cells := (Array.range (len * sz)).map (z.cells[· % z.cells.size]!)) hσ hps hu (chkVs_sound hc)
  have houtl : out.size = len * sz := by
    have h1 := hv.length
    have h2 : us.length = zs.length := by
      have : ∀ {qs : List (Nat × Nat × Opd)} {zs us : List AV}, fillP σ zs qs some = some us → us.length = zs.length := by
        intro qs
        induction qs with
        | nil => intro zs us h; unfold fillP at h; cases h; rfl
        | cons q qs ih =>
          intro zs us h
          obtain ⟨o', n', y'⟩ := q
          unfold fillP at h
          try simp only at h
          obtain ⟨hb, h⟩ := cond_none h
          simp only [Bool.and_eq_true, decide_eq_true_eq] at hb
          rw [ih h, overlay_length _ _ _ (by omega)]
      exact this hu
    have h3 := (chkVs_sound (fids := C.fids) (μ := μ) hc).length
    simp at h1 h3
    omega
  refine Runs.value (c := .slice (some ⟨w.heap.size, 0, none⟩) len len) (w' := w.alloc (.cells out e)) ?_ ?_
  · have e1 : (ps.map fun p => (p.1, a.eval p.2)).toList = ps.toList.map fun p => (p.1, a.eval p.2) := by simp
    have e2 : (fun (x : Nat × Operand) => match x with | (i, x) => (i, a.eval x)) = fun p => (p.1, a.eval p.2) := by funext p; rfl
    simp only [execOp, hop, Instr.buildSlice, Sem.run_bind, Result.andThen_ok, underlying, run_program, slice_und ht, Sem.run_pure, sizeOf_run C.P w hsz, Sem.run_ite, run_unsupported]
    rw [if_neg (by simp; omega)]
    by_cases h0 : len * sz = 0
    · simp only [h0, if_true, Result.andThen_ok] at *
      simp only [e2, e1]
      have e4 : ∀ f : Nat → Value, Array.map f (Array.range 0) = #[] := fun f => by simp
      rw [e4] at ho ⊢
      rw [ho]
      simp [newRow]
    · simp only [h0, if_false, zero_run C.P w hz, Result.andThen_ok, e2, e1, ho]
      simp [newRow]
  · refine ⟨_, ⟨_, rfl⟩, new_sl (e := ⟨w.heap.size, 0, out.toList.length, sz⟩) hH rfl (Nat.le_refl _) (by simp; omega) hbig.2, by simpa using push_cells (el := e) (sz := sz) hH hv, (Below.refl _ _).alloc hH.base _, keep_snoc hH _⟩
end
end Go.Ab

/- Each operation's law: made slices, lengths, parts of tuples, appends. -/
set_option linter.unusedSimpArgs false
set_option linter.unusedVariables false
namespace Go.Ab
open Go Go.RowKit

section
variable {C : Ctx} {o : Oper} {a : Act} {w : World} {μ : MU} {H H' : AH} {σ : Env} {v : AV} {lo : Nat} {call : CallT}

theorem op_len {t : TypeId} {x : Operand} {x' : Opd} {ats : Array TypeId} (hop : o.op = .call ⟨.builtin .len, #[x], ats⟩) (ht : ats[0]? = some t) (he : (sliceB C.P t).isSome = true) (hx : chkOpd C.fids x x' = true)
    (h : evOp call lo (.len x') σ H pr = some (v, H')) (hσ : ER C.fids μ σ a) (hH : HR C μ H w) : Runs C o a w (Done C μ H w v H') := by
  simp only [evOp] at h
  obtain ⟨s, hs, h⟩ := asS_some h
  obtain ⟨h1, h2⟩ := pr_inj h
  subst h1; subst h2
  have vx := chkOpd_sound hx hσ
  rw [hs] at vx
  obtain ⟨q, cap, hex⟩ := vx.sl_any
  obtain ⟨e, he⟩ := Option.isSome_iff_exists.1 he
  exact Runs.value (c := .int .i64 s.len) (by simp [execOp, hop, resolve, invoke, builtin, Builtin.len_, ht, hex, underlying, slice_und he, goInt]) (done_same hH (by constructor))

theorem op_lens {t : TypeId} {x : Operand} {x' : Opd} {ats : Array TypeId} (hop : o.op = .call ⟨.builtin .len, #[x], ats⟩) (ht : ats[0]? = some t) (he : C.P.underlying t = some .string) (hx : chkOpd C.fids x x' = true)
    (h : evOp call lo (.lens x') σ H pr = some (v, H')) (hσ : ER C.fids μ σ a) (hH : HR C μ H w) : Runs C o a w (Done C μ H w v H') := by
  simp only [evOp] at h
  obtain ⟨s, hs, h⟩ := asStr_some h
  obtain ⟨h1, h2⟩ := pr_inj h
  subst h1; subst h2
  have vx := chkOpd_sound hx hσ
  rw [hs] at vx
  have hex := vx.str_inv
  exact Runs.value (c := .int .i64 s.size) (by simp [execOp, hop, resolve, invoke, builtin, Builtin.len_, ht, hex, underlying, he, goInt]) (done_same hH (by constructor))

theorem op_ext {i j : Nat} {x : Operand} {x' : Opd} (hop : o.op = .extract x i) (hij : i = j) (hx : chkOpd C.fids x x' = true)
    (h : evOp call lo (.ext x' j) σ H pr = some (v, H')) (hσ : ER C.fids μ σ a) (hH : HR C μ H w) : Runs C o a w (Done C μ H w v H') := by
  subst hij
  simp only [evOp] at h
  obtain ⟨l, hs, h⟩ := asTup_some h
  split at h
  · rename_i u hu
    obtain ⟨h1, h2⟩ := pr_inj h
    subst h1; subst h2
    have vx := chkOpd_sound hx hσ
    rw [hs] at vx
    obtain ⟨cs, hex, hcs⟩ := vx.tup_inv
    obtain ⟨c, hc, hr⟩ := hcs.get hu
    exact Runs.value (c := c) (by simp [execOp, hop, hex, Instr.extract, hc]) (done_same hH hr)
  · simp at h

theorem flat_get {α : Type} (zs : List α) (h0 : zs.length ≠ 0) : ∀ (l j : Nat), j < l * zs.length → (List.replicate l zs).flatten[j]? = zs[j % zs.length]? := by
  intro l
  induction l with
  | zero => intro j hj; simp at hj
  | succ l ih =>
    intro j hj
    rw [List.replicate_succ, List.flatten_cons]
    rcases Nat.lt_or_ge j zs.length with h | h
    · rw [List.getElem?_append_left h, Nat.mod_eq_of_lt h]
    · rw [List.getElem?_append_right h, ih _ (by rw [Nat.succ_mul] at hj; omega)]
      congr 1
      rw [Nat.mod_eq_sub_mod h]
theorem flat_length {α : Type} (zs : List α) (l : Nat) : (List.replicate l zs).flatten.length = l * zs.length := by
  induction l with
  | zero => simp
  | succ l ih => rw [List.replicate_succ, List.flatten_cons, List.length_append, ih, Nat.succ_mul, Nat.add_comm]

/-- A new block whose first cells are known. -/
theorem push_cells' (hH : HR C μ H w) {vs : List AV} {cs : List Value} {sz : Nat} {el : TypeId} (hv : ∀ (j : Nat) (v : AV), vs[j]? = some v → ∃ c, cs[j]? = some c ∧ VR C.fids μ v c) :
    HR C (μ ++ [some ⟨w.heap.size, 0, cs.length, sz⟩]) (H ++ [.cells vs sz]) (w.alloc (.cells cs.toArray el)) := by
  refine hH.push _ _ _ rfl ⟨rfl, fun j v hj => ?_, fun _ => ⟨?_, fun j hj => ?_⟩⟩
  · obtain ⟨c, hc, hr⟩ := hv j v hj
    refine ⟨c, ?_, hr.mono (Ref.app _ _)⟩
    simp only [Nat.zero_add, World.cell?_alloc_new]
    simpa using hc
  · simp only
    rcases Nat.lt_or_ge cs.length vs.length with h | h
    · obtain ⟨c, hc, _⟩ := hv cs.length _ (List.getElem?_eq_getElem h)
      simp at hc
    · exact h
  · simp only at hj
    simp [hj]

theorem op_mksl {t e : TypeId} {zs : List AV} {bytes : Nat} {z : Value} {x y : Operand} {x' y' : Opd} (hop : o.op = .makeSlice t x y) (ht : sliceB C.P t = some e) (hb : bytesB C.P e = some bytes) (hb0 : bytes ≠ 0) (hsz : sizeB C.P e = some zs.length) (h0 : zs.length ≠ 0)
    (hz : zeroB C.P e = some z) (hc : chkVs z.cells.toList zs = true) (hx : chkOpd C.fids x x' = true) (hy : chkOpd C.fids y y' = true)
    (h : evOp call lo (.mksl zs bytes x' y') σ H pr = some (v, H')) (hσ : ER C.fids μ σ a) (hH : HR C μ H w) : Runs C o a w (Done C μ H w v H') := by
  simp only [evOp] at h
  obtain ⟨l, hl, h⟩ := asI_some h
  obtain ⟨c, hcp, h⟩ := asI_some h
  simp only [mks] at h
  obtain ⟨hb', h⟩ := cond_none h
  simp only [Bool.and_eq_true, decide_eq_true_eq] at hb'
  obtain ⟨⟨hl0, hlc⟩, hroom⟩ := hb'
  have hrm : (room : Int) = 70368744177664 := rfl
  obtain ⟨h1, h2⟩ := pr_inj h
  subst h1; subst h2
  have vx := chkOpd_sound hx hσ
  have vy := chkOpd_sound hy hσ
  rw [hl] at vx; rw [hcp] at vy
  have hex := vx.int_inv
  have hey := vy.int_inv
  obtain ⟨i, hi, hib⟩ := info_run C.P w hb
  have hc63 : c ≤ 70368744177664 := by
    have : c * 1 ≤ c * (bytes : Int) := Int.mul_le_mul_of_nonneg_left (by omega) (by omega)
    omega
  have wl : IntKind.i64.wrap l = l := IntWalk.i64_in _ (by omega)
  have wc : IntKind.i64.wrap c = c := IntWalk.i64_in _ (by omega)
  have hvz := chkVs_sound (fids := C.fids) (μ := μ) hc
  have hzl : z.cells.size = zs.length := by have := hvz.length; simp at this; omega
  have hn0 : ∀ n, n = c.toNat * zs.length → (Array.range n).map (fun j => (if n = 0 then (#[] : Array Value) else z.cells)[j % (if n = 0 then (#[] : Array Value) else z.cells).size]!) = (Array.range n).map (z.cells[· % z.cells.size]!) := by
    intro n _
    by_cases hn : n = 0
    · subst hn; simp
    · simp [hn]
  let cs : List Value := ((Array.range (c.toNat * zs.length)).map (z.cells[· % z.cells.size]!)).toList
  have hcs : cs.length = c.toNat * zs.length := by simp [cs]
  have hcsA : cs.toArray = (Array.range (c.toNat * zs.length)).map (z.cells[· % z.cells.size]!) := Array.toArray_toList
  refine Runs.value (c := .slice (some ⟨w.heap.size, 0, none⟩) l.toNat c.toNat) (w' := w.alloc (.cells cs.toArray e)) ?_ ?_
  · have hbc : (bytes : Int) * c ≤ 70368744177664 := by rw [Int.mul_comm, ← hrm]; exact hroom
    simp only [execOp, hop, hex, hey, Instr.makeSlice, Sem.run_bind, Result.andThen_ok, underlying, run_program, slice_und ht, Sem.run_pure, Go.asInt, asIntOf, hi, hib, wl, wc, run_askRoom, sizeOf_run C.P w hsz]
    rw [if_neg (by simp; omega)]
    simp only [Sem.run_bind, run_askRoom, Result.andThen_ok, sizeOf_run C.P w hsz]
    rw [hcsA]
    by_cases hn : c.toNat * zs.length = 0
    · have e4 : ∀ f : Nat → Value, Array.map f (Array.range 0) = #[] := fun f => by simp
      simp only [hn, if_true, Sem.run_pure, Result.andThen_ok, newRow, Sem.run_bind, run_newObj, e4]
      rfl
    · simp only [hn, if_false, zero_run C.P w hz, Sem.run_bind, Sem.run_pure, Result.andThen_ok, newRow, run_newObj]
      rfl
  · refine ⟨_, ⟨_, rfl⟩, new_sl (e := ⟨w.heap.size, 0, cs.length, zs.length⟩) hH rfl (by omega) (by simp [hcs]) (by simp only; omega), push_cells' hH (fun j v hj => ?_), (Below.refl _ _).alloc hH.base _, keep_snoc hH _⟩
    have hjl : j < l.toNat * zs.length := by
      have := (List.getElem?_eq_some_iff.1 hj).1
      rw [flat_length] at this; exact this
    rw [flat_get zs h0 _ _ hjl] at hj
    obtain ⟨q, hq, hr⟩ := hvz.get hj
    have hle : l.toNat * zs.length ≤ c.toNat * zs.length := Nat.mul_le_mul_right _ (by omega)
    have hqs : z.cells[j % zs.length]? = some q := by simpa using hq
    refine ⟨q, ?_, hr⟩
    simp only [cs, Array.toList_map, Array.toList_range, List.getElem?_map]
    rw [List.getElem?_range (by omega)]
    simp only [Option.map_some, hzl]
    rw [Array.getElem!_eq_getD, Array.getD_eq_getD_getElem?, hqs]; rfl

/-! ### Appends -/
theorem growBy_le (newLen : Nat) : ∀ (rounds c : Nat), 256 ≤ c → c ≤ 2 * newLen → Builtin.growBy newLen rounds c ≤ 2 * newLen := by
  intro rounds
  induction rounds with
  | zero => intro c _ h; exact h
  | succ n ih =>
    intro c h1 h2
    unfold Builtin.growBy
    split
    · exact h2
    · exact ih _ (by omega) (by omega)
theorem next_le (need cap : Nat) (h : cap < need) : Builtin.nextslicecap need cap ≤ 2 * need := by
  unfold Builtin.nextslicecap
  split
  · omega
  · split
    · omega
    · exact growBy_le _ _ _ (by omega) (by omega)
theorem choose_cap (P : Program) (w : World) (need old : Nat) (el : TypeId) (h : need < 9223372036854775808) : ∃ n, need ≤ n ∧ (choose (.appendCap need old el)).run P w = .ok n w.drew := by
  refine ⟨_, ?_, by rw [run_choose]; simp only [Question.forced, Bool.false_eq_true, if_false]; rfl⟩
  simp only [Question.cut]
  omega

theorem notInt {P : Program} {t e : TypeId} (h : sliceB P t = some e) : ∀ k, P.underlying t ≠ some (.int k) := fun k hk => by rw [slice_und h] at hk; cases hk

theorem app_in {P : Program} {ats : Array TypeId} {ty t e t2 e2 : TypeId} {size sLen sCap n : Nat} {base : Option Addr} {xv : Value} {cs : List Value} {w w' : World} (h0 : ats[0]? = some t) (h1 : ats[1]? = some t2)
    (ht : sliceB P t = some e) (ht2 : sliceB P t2 = some e2) (hsz : sizeB P e = some size) (hl : (Builtin.lenOf xv).run P w = .ok n w) (hf : (Builtin.firstCells size n xv).run P w = .ok cs.toArray w) (hn : sLen + n ≤ sCap)
    (hs : match base with | none => w' = w | some a => (storeCells (a.add (sLen * size)) cs).run P w = .ok () w') :
    (Builtin.append_ ats ty #[.slice base sLen sCap, xv]).run P w = .ok (.slice base (sLen + n) sCap) w' := by
  unfold Builtin.append_
  have h2 := slice_und ht2
  simp only [h0, h1, List.getElem?_toArray, List.getElem?_cons_zero, List.getElem?_cons_succ, Sem.run_bind, underlying, run_program, Result.andThen_ok, slice_und ht, Sem.run_pure, sizeOf_run P w hsz, h2, hl, Bool.false_eq_true, if_false, Bool.not_false, if_true, hn, hf]
  cases base with
  | none => simp only at hs; subst hs; simp
  | some a => simp only at hs; simp [hs]

theorem app_grow {P : Program} {ats : Array TypeId} {ty t e t2 e2 : TypeId} {size bytes sLen sCap n : Nat} {base : Option Addr} {xv z : Value} {cs old : List Value} {w : World} (h0 : ats[0]? = some t) (h1 : ats[1]? = some t2)
    (ht : sliceB P t = some e) (ht2 : sliceB P t2 = some e2) (hsz : sizeB P e = some size) (hb : bytesB P e = some bytes) (hb0 : bytes ≠ 0) (hz : zeroB P e = some z) (hzs : z.cells.size = size)
    (hl : (Builtin.lenOf xv).run P w = .ok n w) (hf : (Builtin.firstCells size n xv).run P w.drew = .ok cs.toArray w.drew) (ho : (Builtin.firstCells size sLen (.slice base sLen sCap)).run P w.drew = .ok old.toArray w.drew) (hn : ¬ sLen + n ≤ sCap)
    (hroom : (sLen + n) * bytes ≤ room) :
    ∃ newCap rest, sLen + n ≤ newCap ∧ rest.length = (newCap - (sLen + n)) * size ∧
      (Builtin.append_ ats ty #[.slice base sLen sCap, xv]).run P w = .ok (.slice (some ⟨w.heap.size, 0, none⟩) (sLen + n) newCap) (w.drew.alloc (.cells (old ++ cs ++ rest).toArray e)) := by
  have hr2 : (sLen + n) * 1 ≤ (sLen + n) * bytes := Nat.mul_le_mul_left _ (by omega)
  have hrm : room = 70368744177664 := rfl
  obtain ⟨newCap, hc1, hc2⟩ := choose_cap P w (sLen + n) sCap e (by omega)
  obtain ⟨i, hi, hib⟩ := info_run P w hb
  obtain ⟨i', hi', hib'⟩ := info_run P w.drew hb
  have hnext := next_le (sLen + n) sCap (by omega)
  have hbig : ¬ Builtin.nextslicecap (sLen + n) sCap * bytes > 2 ^ 48 := by
    have : Builtin.nextslicecap (sLen + n) sCap * bytes ≤ 2 * (sLen + n) * bytes := Nat.mul_le_mul_right _ hnext
    rw [Nat.mul_assoc] at this
    omega
  refine ⟨newCap, (Builtin.zeroCells z.cells (newCap - (sLen + n))).toList, hc1, by simp [Builtin.zeroCells, hzs], ?_⟩
  unfold Builtin.append_
  have h2 := slice_und ht2
  simp only [h0, h1, List.getElem?_toArray, List.getElem?_cons_zero, List.getElem?_cons_succ, Sem.run_bind, underlying, run_program, Result.andThen_ok, slice_und ht, Sem.run_pure, sizeOf_run P w hsz, h2, hl, Bool.false_eq_true, if_false, Bool.not_false, if_true, hn,
    hi, hib, hb0, or_self, and_false, hbig, hc2, hi', hib', run_askRoom, ho, hf, zero_run P w.drew hz, newRow, run_newObj, Sem.run_ite]
  have hx : (old ++ cs ++ (Builtin.zeroCells z.cells (newCap - (sLen + n))).toList).toArray = old.toArray ++ cs.toArray ++ Builtin.zeroCells z.cells (newCap - (sLen + n)) := by
    apply Array.ext'; simp
  rw [hx]
  rfl

/-- Killing a block. -/
theorem HR.kill (h : HR C μ H w) {b : Nat} {blk : Blk} {e : Ent} (hb : H[b]? = some blk) (hd : blk ≠ .dead) (he : μ[b]? = some (some e)) (hlo : C.lo0 ≤ b) : HR C μ (H.set b .dead) w :=
  h.change hb hd he hlo (Nat.le_refl _) (fun _ _ _ => rfl) trivial

theorem op_app {t t2 e e2 : TypeId} {sz bytes : Nat} {z : Value} {x y : Operand} {x' y' : Opd} {ats : Array TypeId} (hop : o.op = .call ⟨.builtin .append, #[x, y], ats⟩) (h0 : ats[0]? = some t) (h1 : ats[1]? = some t2)
    (ht : sliceB C.P t = some e) (ht2 : sliceB C.P t2 = some e2) (hsz : sizeB C.P e = some sz) (hb : bytesB C.P e = some bytes) (hb0 : bytes ≠ 0) (hz : zeroB C.P e = some z) (hzs : z.cells.size = sz) (hsz0 : 0 < sz)
    (hx : chkOpd C.fids x x' = true) (hy : chkOpd C.fids y y' = true) (hlo : C.lo0 ≤ lo)
    (h : evOp call lo (.app sz bytes x' y') σ H pr = some (v, H')) (hσ : ER C.fids μ σ a) (hH : HR C μ H w) : Runs C o a w (Done C μ H w v H') := by
  simp only [evOp] at h
  obtain ⟨s, hs, h⟩ := asS_some h
  obtain ⟨u, hu, h⟩ := asS_some h
  have vx := chkOpd_sound hx hσ
  have vy := chkOpd_sound hy hσ
  rw [hs] at vx; rw [hu] at vy
  have hexec : ∀ {c w'}, (Builtin.append_ ats o.type #[a.eval x, a.eval y]).run C.P w = .ok c w' → (execOp a.eval o).run C.P w = .ok (.value c) w' := fun {c w'} hr => by
    simp [execOp, hop, resolve, invoke, builtin, hr]
  -- nothing is appended
  have same : ∀ {cs : List Value}, (Builtin.lenOf (a.eval y)).run C.P w = .ok 0 w → (Builtin.firstCells sz 0 (a.eval y)).run C.P w = .ok (#[] : Array Value) w → v = .sl s → H' = H → Runs C o a w (Done C μ H w v H') := by
    intro cs hl hf h1' h2'
    subst h1'; subst h2'
    obtain ⟨q, cap, hex⟩ := vx.sl_any
    have hcap : s.len ≤ cap := by
      rw [hex] at vx
      cases vx with
      | nilsl x => exact Nat.le_refl _
      | sl b ofs len cap' e' he hc hl hz => exact hl
      | sle b ofs x e he => exact Nat.le_refl _
    refine Runs.value (c := .slice q s.len cap) (w' := w) (hexec ?_) (done_same hH (by rw [← hex]; exact vx))
    rw [hex]
    have := app_in (P := C.P) (ty := o.type) (size := sz) (cs := []) (w := w) (w' := w) (base := q) (n := 0) h0 h1 ht ht2 hsz hl hf (by simpa using hcap) (by cases q <;> simp [storeCells])
    simpa using this
  simp only [appS] at h
  cases hup : u.p with
  | none =>
    rw [hup] at h
    simp only at h
    obtain ⟨hul, h⟩ := cond_none h
    obtain ⟨g1, g2⟩ := pr_inj h
    obtain ⟨xe, hey, hul⟩ := vy.nilsl_inv' hup
    exact same (cs := []) (by rw [hey]; rfl) (by rw [hey]; cases xe <;> simp [Builtin.firstCells, loadCells, loadCellsFrom]) g1.symm g2.symm
  | some q =>
    rw [hup] at h
    simp only at h
    obtain ⟨vs, szq, hq, hqn, h⟩ := ldn_some h
    rcases vy.sl_inv' hup with ⟨eq, capq, hey, heq, hcq, hlq, _⟩ | ⟨xe, _, hey, hul, _⟩
    case inr =>
      unfold app at h
      rw [hul] at h
      simp only [decide_true, cond_true] at h
      obtain ⟨g1, g2⟩ := pr_inj h
      exact same (cs := []) (by rw [hey]; rfl) (by rw [hey]; cases xe <;> simp [Builtin.firstCells, loadCells, loadCellsFrom]) g1.symm g2.symm
    obtain ⟨cs, hcl, hcv, hcc⟩ := hH.cells hq heq hqn
    have hlen : (Builtin.lenOf (a.eval y)).run C.P w = .ok u.len w := by rw [hey]; rfl
    have hfirst : ∀ w1 : World, w1.heap = w.heap → (Builtin.firstCells sz u.len (a.eval y)).run C.P w1 = .ok cs.toArray w1 := fun w1 hw1 => by
      rw [hey]
      have := loadCells_run C.P w1 eq.B (eq.o + q.o) cs (fun j c hj => by
        have := hcc j c hj
        unfold World.cell? at this ⊢; rw [hw1]; exact this)
      rw [hcl] at this
      exact this
    unfold app at h
    by_cases hn0 : u.len = 0
    · rw [hn0] at h hlen hfirst hcl
      simp only [decide_true, cond_true] at h
      obtain ⟨g1, g2⟩ := pr_inj h
      have hcs : cs = [] := by simpa using hcl
      subst hcs
      exact same (cs := []) hlen (hfirst w rfl) g1.symm g2.symm
    · simp only [hn0, decide_false, cond_false] at h
      obtain ⟨hc1, h⟩ := cond_none h
      simp only [Bool.and_eq_true, decide_eq_true_eq] at hc1
      obtain ⟨⟨hroom, hcl2⟩, hsing⟩ := hc1
      cases hsp : s.p with
      | none =>
        rw [hsp] at h
        simp only at h
        obtain ⟨hsl, h⟩ := cond_none h
        obtain ⟨xe, hex, hsl⟩ := vx.nilsl_inv' hsp
        obtain ⟨g1, g2⟩ := pr_inj h
        subst g1; subst g2
        obtain ⟨nc, rest, hnc, hrest, hr⟩ := app_grow (P := C.P) (ty := o.type) (w := w) (base := xe) (sLen := 0) (sCap := 0) (n := u.len) (cs := cs) (old := []) h0 h1 ht ht2 hsz hb hb0 hz hzs hlen (hfirst w.drew rfl) (by cases xe <;> simp [Builtin.firstCells, loadCells, loadCellsFrom]) (by omega) (by rw [hsl] at hroom; exact hroom)
        simp only [Nat.zero_add, List.nil_append] at hr hnc hrest
        rw [hex] at hexec
        refine Runs.value (hexec hr) ?_
        have hHd := hH.heap (w' := w.drew) rfl
        refine ⟨_, ⟨_, rfl⟩, new_sl (e := ⟨w.heap.size, 0, (cs ++ rest).length, sz⟩) hH rfl hnc ?_ hsz0, push_cells' (el := e) (sz := sz) hHd (fun j v hj => ?_), ?_, keep_snoc hH _⟩
        · simp only [List.length_append, hcl, hrest]
          rw [← Nat.add_mul]; exact Nat.le_of_eq (by congr 1; omega)
        · obtain ⟨c, hc, hv⟩ := hcv.get hj
          exact ⟨c, by rw [List.getElem?_append_left (List.getElem?_eq_some_iff.1 hc).1]; exact hc, hv⟩
        · exact ((Below.refl _ _).drew).alloc hH.base _
      | some p =>
        rw [hsp] at h
        simp only at h
        split at h
        · rename_i vs0 sz' hpb
          obtain ⟨hc2, h⟩ := cond_none h
          simp only [Bool.and_eq_true, decide_eq_true_eq] at hc2
          obtain ⟨⟨hlop, hszz⟩, hend⟩ := hc2
          subst hszz
          obtain ⟨g1, g2⟩ := pr_inj h
          rcases vx.sl_inv' hsp with ⟨ep, cap, hex, hep, hcp, hlp, hz0⟩ | ⟨xe, ep, hex, hsl, hep⟩
          case inr =>
            have hlo0 : C.lo0 ≤ p.b := Nat.le_trans hlo hlop
            have hkeep : ∀ b' : Blk, Keep μ H (H.set p.b .dead ++ [b']) := fun b' i hi => by
              have hil : i < μ.length := (List.getElem?_eq_some_iff.1 hi).1
              have hne : p.b ≠ i := fun e' => by subst e'; rw [hi] at hep; cases hep
              rw [List.getElem?_append_left (by rw [List.length_set, ← hH.len]; exact hil), List.getElem?_set_ne hne]
            subst g1; subst g2
            obtain ⟨nc, rest, hnc, hrest, hr⟩ := app_grow (P := C.P) (ty := o.type) (w := w) (base := xe) (sLen := 0) (sCap := 0) (n := u.len) (cs := cs) (old := []) h0 h1 ht ht2 hsz hb hb0 hz hzs hlen (hfirst w.drew rfl) (by cases xe <;> simp [Builtin.firstCells, loadCells, loadCellsFrom]) (by omega) (by rw [hsl] at hroom; exact hroom)
            simp only [Nat.zero_add, List.nil_append] at hr hnc hrest
            rw [hex] at hexec
            refine Runs.value (hexec hr) ?_
            have hkill := (hH.kill hpb (by simp) hep hlo0).heap (w' := w.drew) rfl
            rw [hsl]
            simp only [Nat.zero_mul, List.take_zero, List.nil_append, Nat.zero_add]
            have hmn : (H.set p.b .dead).length = H.length := List.length_set ..
            refine ⟨_, ⟨_, rfl⟩, ?_, push_cells' (el := e) (sz := sz') hkill (fun j v hj => ?_), ((Below.refl _ _).drew).alloc hH.base _, hkeep _⟩
            · exact new_sl (e := ⟨w.heap.size, 0, (cs ++ rest).length, sz'⟩) hH rfl hnc (by
                simp only [List.length_append, hcl, hrest]
                rw [← Nat.add_mul]; exact Nat.le_of_eq (by congr 1; omega)) hsz0
            · obtain ⟨c, hc, hv⟩ := hcv.get hj
              exact ⟨c, by rw [List.getElem?_append_left (List.getElem?_eq_some_iff.1 hc).1]; exact hc, hv⟩
          have hlo0 : C.lo0 ≤ p.b := Nat.le_trans hlo hlop
          obtain ⟨k1, k2, k3⟩ := hH.blk p.b _ ep hpb hep
          obtain ⟨k4, k5⟩ := k3 hlo0
          have howp := hH.own p.b ep hep
          have hkeep : ∀ b' : Blk, Keep μ H (H.set p.b .dead ++ [b']) := fun b' i hi => by
            have hil : i < μ.length := (List.getElem?_eq_some_iff.1 hi).1
            have hne : p.b ≠ i := fun e' => by subst e'; rw [hi] at hep; cases hep
            rw [List.getElem?_append_left (by rw [List.length_set, ← hH.len]; exact hil), List.getElem?_set_ne hne]
          have hpo : p.o ≤ vs0.length := by omega
          obtain ⟨os, ol, ov, oc⟩ := hH.cells (n := s.len * sz') hpb hep (o := p.o) (by omega)
          have hdl : ((vs0.drop p.o).take (s.len * sz')).length = s.len * sz' := by simp; omega
          have hmn : H.length = μ.length := hH.len.symm
          subst g1; subst g2
          rw [hex] at hexec
          by_cases hfit : s.len + u.len ≤ cap
          · -- it fits
            have hfits : (s.len + u.len) * ep.sz ≤ cap * ep.sz := Nat.mul_le_mul_right _ hfit
            rw [Nat.add_mul] at hfits
            rw [k1] at hcp hfits
            obtain ⟨w', hr, hw⟩ := storeCells_run C.P ep.B (ep.o + p.o + s.len * sz') cs 0 w (singles_get hcv hsing) (fun j hj => by
              have := k5 (p.o + s.len * sz' + j) (by omega)
              rw [show ep.o + p.o + s.len * sz' + 0 + j = ep.o + (p.o + s.len * sz' + j) by omega]; exact this)
            have hr' := app_in (P := C.P) (ty := o.type) (w := w) (w' := w') (base := some ⟨ep.B, ep.o + p.o, none⟩) (n := u.len) (cs := cs) h0 h1 ht ht2 hsz hlen (hfirst w rfl) hfit (by simp only [addr_add]; exact hr)
            refine Runs.value (hexec hr') ?_
            have hkill : HR C μ (H.set p.b .dead) w' := hH.change hpb (by simp) hep hlo0 (Nat.le_of_eq hw.size.symm) (fun k _ hk => hw.other k hk) trivial
            refine ⟨μ ++ [some ⟨ep.B, ep.o + p.o, ep.cap - p.o, ep.sz⟩], ⟨_, rfl⟩, ?_, ?_, hw.below (howp.2 hlo0), hkeep _⟩
            · have := VR.sl (fids := C.fids) (μ := μ ++ [some ⟨ep.B, ep.o + p.o, ep.cap - p.o, ep.sz⟩]) H.length 0 (s.len + u.len) cap ⟨ep.B, ep.o + p.o, ep.cap - p.o, ep.sz⟩ (by rw [hmn]; simp) (by simp only [k1]; omega) hfit hz0
              simpa using this
            · refine hkill.pushOld _ _ (howp.2 hlo0) (by rw [hw.size]; exact howp.1) ?_ ⟨k1, fun j v hj => ?_, fun _ => ⟨?_, fun j hj => ?_⟩⟩
              · intro j bj ej hbj hej hdj
                by_cases hjp : p.b = j
                · subst hjp; rw [List.getElem?_set_self (List.getElem?_eq_some_iff.1 hpb).1] at hbj; cases hbj; exact absurd rfl hdj
                · rw [List.getElem?_set_ne hjp] at hbj
                  exact Ne.symm (hH.sep p.b j _ bj ep ej hjp hpb hbj hep hej (by simp) hdj hlo0)
              · simp only
                rw [hw.cell]
                rcases Nat.lt_or_ge j (s.len * sz') with hjl | hjg
                · rw [if_neg (by omega)]
                  rw [List.getElem?_append_left (by omega)] at hj
                  obtain ⟨c, hc, hv⟩ := ov.get hj
                  exact ⟨c, oc j c hc, hv.mono (Ref.app _ _)⟩
                · rw [List.getElem?_append_right (by omega), hdl] at hj
                  obtain ⟨c, hc, hv⟩ := hcv.get hj
                  have hcl3 := (List.getElem?_eq_some_iff.1 hc).1
                  rw [if_pos (by omega)]
                  exact ⟨c, by rw [show ep.o + p.o + j - (ep.o + p.o + s.len * sz' + 0) = j - s.len * sz' by omega]; exact hc, hv.mono (Ref.app _ _)⟩
              · have := hcv.length
                simp only [List.length_append, hdl]
                omega
              · simp only at hj ⊢
                have := k5 (p.o + j) (by omega)
                rw [hw.frz, hw.cell]
                rw [show ep.o + (p.o + j) = ep.o + p.o + j by omega] at this
                refine ⟨?_, this.2⟩
                split
                · rename_i hin; rw [List.getElem?_eq_getElem (by omega)]; rfl
                · exact this.1
          · -- a new row
            obtain ⟨nc, rest, hnc, hrest, hr⟩ := app_grow (P := C.P) (ty := o.type) (w := w) (base := some ⟨ep.B, ep.o + p.o, none⟩) (sLen := s.len) (sCap := cap) (n := u.len) (cs := cs) (old := os) h0 h1 ht ht2 hsz hb hb0 hz hzs hlen (hfirst w.drew rfl)
              (by
                have := loadCells_run C.P w.drew ep.B (ep.o + p.o) os (fun j c hj => oc j c hj)
                rw [ol] at this; exact this) hfit hroom
            refine Runs.value (hexec hr) ?_
            have hkill := (hH.kill hpb (by simp) hep hlo0).heap (w' := w.drew) rfl
            have hov : VRs C.fids μ ((vs0.drop p.o).take (s.len * sz') ++ (vs.drop q.o).take (u.len * sz')) (os ++ cs) := ov.append hcv
            refine ⟨_, ⟨_, rfl⟩, ?_, push_cells' (el := e) (sz := sz') hkill (fun j v hj => ?_), ((Below.refl _ _).drew).alloc hH.base _, hkeep _⟩
            · have := new_sl (e := ⟨w.heap.size, 0, (os ++ cs ++ rest).length, sz'⟩) hH rfl hnc (by
                simp only [List.length_append, ol, hcl, hrest]
                rw [← Nat.add_mul, ← Nat.add_mul]; exact Nat.le_of_eq (by congr 1; omega)) hsz0
              exact this
            · obtain ⟨c, hc, hv⟩ := hov.get hj
              exact ⟨c, by rw [List.getElem?_append_left (List.getElem?_eq_some_iff.1 hc).1]; exact hc, hv⟩
        · simp at h

/-! Functions of values alone. -/
theorem eqGuard_str (P : Program) (w : World) (op : BinOp) (t : TypeId) (x y : Operand) (n m : ByteArray) : (eqGuard op t x y (.string n) (.string m)).run P w = .ok () w := by
  unfold eqGuard; split <;> rfl
theorem eqGuard_ptr (P : Program) (w : World) (op : BinOp) (t : TypeId) (x y : Operand) (n m : Option Addr) : (eqGuard op t x y (.pointer n) (.pointer m)).run P w = .ok () w := by
  unfold eqGuard; split <;> rfl
theorem equalIn_nil {P : Program} {w : World} {t e : TypeId} (ht : P.underlying t = some (.pointer e)) {q : Option Addr} (d : Nat) : (Op.equalIn (d + 1) t (.pointer q) (.pointer none)).run P w = .ok q.isNone w := by
  cases q <;> simp [Op.equalIn, underlying, ht]
theorem chkOpds_two {x y : Operand} {ys : List Opd} (h : chkOpds C.fids [x, y] ys = true) (hσ : ER C.fids μ σ a) : ∃ u v, ys.map (opd σ) = [u, v] ∧ VR C.fids μ u (a.eval x) ∧ VR C.fids μ v (a.eval y) := by
  cases ys with
  | nil => simp [chkOpds] at h
  | cons y1 ys => cases ys with
    | nil => simp [chkOpds] at h
    | cons y2 ys => cases ys with
      | cons _ _ => simp [chkOpds] at h
      | nil =>
        simp only [chkOpds, Bool.and_eq_true] at h
        exact ⟨_, _, rfl, chkOpd_sound h.1 hσ, chkOpd_sound h.2.1 hσ⟩
theorem zeroO_eq {y : Opd} (h : zeroO y = true) : opd σ y = .int .i64 0 := by
  cases y with
  | t n => simp [zeroO] at h
  | c v => cases v <;> simp [zeroO] at h; rename_i k n; cases k <;> simp [zeroO] at h; subst h; rfl
theorem bounds_run {P : Program} {isSl : Bool} {len cap : Nat} {l h : Int} {lo hi : Option Value} (h0 : 0 ≤ l) (h1 : l ≤ h) (h2 : h ≤ (len : Int)) (hlc : len ≤ cap)
    (hlo : (∃ k, lo = some (.int k l)) ∨ lo = none ∧ l = 0) (hhi : (∃ k, hi = some (.int k h)) ∨ hi = none ∧ h = (len : Int)) : (Instr.sliceBounds isSl len cap lo hi none).run P w = .ok (l.toNat, h.toNat, cap) w := by
  have hb : ∀ (k : IntKind) (n : Int) (m : Nat) (code : BoundsCode), 0 ≤ n → n ≤ (m : Int) → (Instr.sliceBound (.int k n) m code).run P w = .ok n.toNat w := fun k n m code a b => by
    simp [Instr.sliceBound, asIntOf, a, b]
  have k1 : ∀ k code, (Instr.sliceBound (.int k h) cap code).run P w = .ok h.toNat w := fun k code => hb k h cap code (by omega) (by omega)
  have k2 : ∀ k code, (Instr.sliceBound (.int k l) h.toNat code).run P w = .ok l.toNat w := fun k code => hb k l h.toNat code h0 (by omega)
  unfold Instr.sliceBounds
  rcases hhi with ⟨kh, rfl⟩ | ⟨rfl, rfl⟩ <;> rcases hlo with ⟨kl, rfl⟩ | ⟨rfl, rfl⟩ <;> simp_all
/-- The bounds of a slicing. -/
theorem sl_opds {x : Operand} {lo hi : Option Operand} {ys : List Opd} (h : chkSl C.fids x lo hi ys = true) (hσ : ER C.fids μ σ a) :
    ∃ u l, VR C.fids μ u (a.eval x) ∧ ((lo.map a.eval = none ∧ l = .int .i64 0) ∨ ∃ c, lo.map a.eval = some c ∧ VR C.fids μ l c) ∧
      ((hi = none ∧ ys.map (opd σ) = [u, l]) ∨ ∃ hv c, hi.map a.eval = some c ∧ VR C.fids μ hv c ∧ ys.map (opd σ) = [u, l, hv]) := by
  unfold chkSl at h
  split at h <;> (try simp only [Bool.and_eq_true] at h)
  · exact ⟨_, _, chkOpd_sound h.1 hσ, .inl ⟨rfl, zeroO_eq h.2⟩, .inl ⟨rfl, rfl⟩⟩
  · exact ⟨_, _, chkOpd_sound h.1 hσ, .inr ⟨_, rfl, chkOpd_sound h.2 hσ⟩, .inl ⟨rfl, rfl⟩⟩
  · exact ⟨_, _, chkOpd_sound h.1.1 hσ, .inl ⟨rfl, zeroO_eq h.1.2⟩, .inr ⟨_, _, rfl, chkOpd_sound h.2 hσ, rfl⟩⟩
  · exact ⟨_, _, chkOpd_sound h.1.1 hσ, .inr ⟨_, rfl, chkOpd_sound h.1.2 hσ⟩, .inr ⟨_, _, rfl, chkOpd_sound h.2 hσ, rfl⟩⟩
  · simp at h
theorem slc_run {t e : TypeId} {sz : Nat} {s s' : Sl} {l h : Int} {c : Value} {lo hi : Option Value} (ht : sliceB C.P t = some e) (hsz : sizeB C.P e = some sz) (hv : VR C.fids μ (.sl s) c)
    (hlo : (∃ k, lo = some (.int k l)) ∨ lo = none ∧ l = 0) (hhi : (∃ k, hi = some (.int k h)) ∨ hi = none ∧ h = (s.len : Int)) (hr : slc s l h sz some = some s') :
    ∃ c', (Instr.sliceAt t c lo hi none).run C.P w = .ok c' w ∧ VR C.fids μ (.sl s') c' := by
  unfold slc at hr
  obtain ⟨hc, hr⟩ := cond_none hr
  simp only [Bool.and_eq_true, Bool.or_eq_true, decide_eq_true_eq] at hc
  obtain ⟨⟨⟨h0, h1⟩, h2⟩, h3⟩ := hc
  obtain ⟨sp, sn⟩ := s
  simp only at h2 hr hhi
  have step : ∀ (x : Option Addr) (cap : Nat), sn ≤ cap → (Instr.sliceAt t (.slice x sn cap) lo hi none).run C.P w = .ok (.slice (if cap = l.toNat then x else x.map (·.add (l.toNat * sz))) (h.toNat - l.toNat) (cap - l.toNat)) w := fun x cap hcap => by
    simp [Instr.sliceAt, Instr.slice, underlying, slice_und ht, bounds_run (w := w) (P := C.P) (isSl := true) h0 h1 h2 hcap hlo hhi, sizeOf_run C.P w hsz]
  cases sp with
  | none =>
    cases hr
    obtain ⟨x, rfl, hn⟩ := hv.nilsl_inv
    subst hn
    have hl0 : l = 0 := by omega
    have hh0 : h = 0 := by omega
    subst hl0; subst hh0
    exact ⟨_, step x 0 (Nat.le_refl _), by simpa using VR.nilsl x⟩
  | some p =>
    cases hr
    rcases hv.sl_inv with ⟨e', cap, rfl, he, hcp, hle, hz⟩ | ⟨x, e', rfl, hn, he⟩
    · refine ⟨_, step _ cap hle, ?_⟩
      have hnat : h.toNat - l.toNat = (h - l).toNat := by omega
      rw [hnat]
      by_cases hcl : cap = l.toNat
      · rw [if_pos hcl]
        have e1 : (h - l).toNat = 0 := by omega
        have e2 : cap - l.toNat = 0 := by omega
        rw [e1, e2]
        exact .sle _ _ _ e' he
      · rw [if_neg hcl]
        have hm : l.toNat ≤ cap := by omega
        have hmul : (cap - l.toNat) * e'.sz + l.toNat * e'.sz = cap * e'.sz := by rw [← Nat.add_mul]; congr 1; omega
        have hlz : l.toNat * sz ≤ l.toNat * e'.sz := by
          rcases h3 with h3 | h3
          · subst h3; simp
          · subst h3; exact Nat.mul_le_mul_left _ hz
        have := VR.sl (fids := C.fids) (μ := μ) p.b (p.o + l.toNat * sz) (h - l).toNat (cap - l.toNat) e' he (by omega) (by omega) hz
        simpa [addr_add, Nat.add_assoc] using this
    · subst hn
      have hl0 : l = 0 := by omega
      have hh0 : h = 0 := by omega
      subst hl0; subst hh0
      exact ⟨_, step x 0 (Nat.le_refl _), by simpa using VR.sle (fids := C.fids) (μ := μ) p.b p.o x e' he⟩
theorem op_pf {f : PF} {ys : List Opd} (hc : chkPF C.P C.fids o.op f ys = true) (h : evOp call lo (.pf f ys) σ H pr = some (v, H')) (hσ : ER C.fids μ σ a) (hH : HR C μ H w) : Runs C o a w (Done C μ H w v H') := by
  simp only [evOp] at h
  obtain ⟨u, hu0, h1⟩ := evPF_some h
  obtain ⟨g1, g2⟩ := pr_inj h1
  subst g1; subst g2
  have hu := hu0 AV some
  clear hu0 h1 h
  suffices ∃ c, (execOp a.eval o).run C.P w = .ok (.value c) w ∧ VR C.fids μ u c by
    obtain ⟨c, h1, h2⟩ := this; exact Runs.value h1 (done_same hH h2)
  cases f <;> simp only [chkPF] at hc
  case bits b' k =>
    split at hc
    · rename_i b t x y t' hop
      simp only [Bool.and_eq_true, decide_eq_true_eq] at hc
      obtain ⟨⟨rfl, hok⟩, h3⟩ := hc
      obtain ⟨p, q, e, hp, hq⟩ := chkOpds_two h3 hσ
      rw [e] at hu
      simp only [evPF] at hu
      obtain ⟨n, e1, hu1⟩ := asI_some hu
      obtain ⟨m, e2, hu2⟩ := asI_some hu1
      subst e1; subst e2
      replace hu := hu2
      have ex := hp.int_inv
      have ey := hq.int_inv
      cases hu
      refine ⟨_, ?_, .int _ _⟩
      cases b <;> simp [okBits] at hok <;> simp [execOp, hop, ex, ey, eqGuard_int, binOp, Op.intBits, bitsI]
    · simp at hc
  case shf b' k k' =>
    split at hc
    · rename_i b t x y t' hop
      simp only [Bool.and_eq_true, Bool.or_eq_true, decide_eq_true_eq] at hc
      obtain ⟨⟨rfl, hok⟩, h3⟩ := hc
      obtain ⟨p, q, e, hp, hq⟩ := chkOpds_two h3 hσ
      rw [e] at hu
      simp only [evPF] at hu
      obtain ⟨n, e1, hu1⟩ := asI_some hu
      obtain ⟨m, e2, hu2⟩ := asI_some hu1
      subst e1; subst e2
      replace hu := hu2
      have ex := hp.int_inv
      have ey := hq.int_inv
      by_cases hm : m < 0
      · simp [hm] at hu
      simp only [hm, decide_false, cond_false] at hu
      cases hu
      refine ⟨_, ?_, .int _ _⟩
      rcases hok with rfl | rfl <;> simp [execOp, hop, ex, ey, eqGuard_int, binOp, Op.shift, shfI, hm]
    · simp at hc
  case mx k =>
    split at hc
    · rename_i xs ats hop
      cases hxs : xs.toList with
      | nil => rw [hxs] at hc; cases ys with | nil => simp [evPF] at hu | cons _ _ => simp [chkOpds] at hc
      | cons x xs1 => cases xs1 with
        | nil => rw [hxs] at hc; cases ys with
          | nil => simp [chkOpds] at hc
          | cons y ys => cases ys with | nil => simp [evPF] at hu | cons _ _ => simp [chkOpds] at hc
        | cons y xs2 => cases xs2 with
          | nil =>
            rw [hxs] at hc
            obtain ⟨p, q, e, hp, hq⟩ := chkOpds_two hc hσ
            rw [e] at hu
            simp only [evPF] at hu
            obtain ⟨n, e1, hu1⟩ := asI_some hu
            obtain ⟨m, e2, hu2⟩ := asI_some hu1
            subst e1; subst e2
            replace hu := hu2
            have ex := hp.int_inv
            have ey := hq.int_inv
            cases hu
            have hx : xs = #[x, y] := by cases xs; simp at hxs; subst hxs; rfl
            subst hx
            exact ⟨_, by simp [execOp, hop, resolve, invoke, builtin, Builtin.max_, Builtin.max2, ex, ey, mxI], .int _ _⟩
          | cons z xs3 =>
            rw [hxs] at hc
            exfalso
            cases ys with
            | nil => simp [chkOpds] at hc
            | cons y1 ys => cases ys with
              | nil => simp [chkOpds] at hc
              | cons y2 ys => cases ys with
                | nil => simp [chkOpds] at hc
                | cons y3 ys => simp [evPF] at hu
    · simp at hc
  case mn k =>
    split at hc
    · rename_i xs ats hop
      cases hxs : xs.toList with
      | nil => rw [hxs] at hc; cases ys with | nil => simp [evPF] at hu | cons _ _ => simp [chkOpds] at hc
      | cons x xs1 => cases xs1 with
        | nil => rw [hxs] at hc; cases ys with
          | nil => simp [chkOpds] at hc
          | cons y ys => cases ys with | nil => simp [evPF] at hu | cons _ _ => simp [chkOpds] at hc
        | cons y xs2 => cases xs2 with
          | nil =>
            rw [hxs] at hc
            obtain ⟨p, q, e, hp, hq⟩ := chkOpds_two hc hσ
            rw [e] at hu
            simp only [evPF] at hu
            obtain ⟨n, e1, hu1⟩ := asI_some hu
            obtain ⟨m, e2, hu2⟩ := asI_some hu1
            subst e1; subst e2
            replace hu := hu2
            have ex := hp.int_inv
            have ey := hq.int_inv
            cases hu
            have hx : xs = #[x, y] := by cases xs; simp at hxs; subst hxs; rfl
            subst hx
            exact ⟨_, by simp [execOp, hop, resolve, invoke, builtin, Builtin.min_, Builtin.min2, ex, ey, mnI], .int _ _⟩
          | cons z xs3 =>
            rw [hxs] at hc
            exfalso
            cases ys with
            | nil => simp [chkOpds] at hc
            | cons y1 ys => cases ys with
              | nil => simp [chkOpds] at hc
              | cons y2 ys => cases ys with
                | nil => simp [chkOpds] at hc
                | cons y3 ys => simp [evPF] at hu
    · simp at hc
  case slc sz =>
    split at hc
    · rename_i t x lo hi hop
      split at hc
      · rename_i e he
        simp only [Bool.and_eq_true, decide_eq_true_eq] at hc
        obtain ⟨hsz, hch⟩ := hc
        obtain ⟨s, l, hs, hl, hh⟩ := sl_opds hch hσ
        have fin : ∀ {s1 : Sl} {l1 h1 : Int} {s2 : Sl}, s = .sl s1 → (∃ k, l = .int k l1) → ((∃ k, hi.map a.eval = some (.int k h1)) ∨ hi.map a.eval = none ∧ h1 = (s1.len : Int)) → slc s1 l1 h1 sz some = some s2 → ∃ c, (execOp a.eval o).run C.P w = .ok (.value c) w ∧ VR C.fids μ (.sl s2) c := by
          intro s1 l1 h1 s2 e1 e2 e3 e4
          obtain ⟨kl, e2⟩ := e2
          subst e1; subst e2
          obtain ⟨c', r1, r2⟩ := slc_run (w := w) he hsz hs (lo := lo.map a.eval) (hi := hi.map a.eval) (l := l1) (by
            rcases hl with ⟨k1, k2⟩ | ⟨c, k1, k2⟩
            · exact .inr ⟨k1, by cases k2; rfl⟩
            · exact .inl ⟨_, by rw [k1, k2.int_inv]⟩) e3 e4
          exact ⟨c', by simp [execOp, hop, r1], r2⟩
        rcases hh with ⟨k1, k2⟩ | ⟨hv, c, k1, k2, k3⟩
        · rw [k2] at hu
          simp only [evPF] at hu
          obtain ⟨s1, e1, hu⟩ := asS_some hu
          obtain ⟨_, l1, e2, hu⟩ := asN_some hu
          have hs2 : ∃ s2, slc s1 l1 s1.len sz some = some s2 ∧ u = .sl s2 := by
            unfold slc at hu ⊢
            obtain ⟨g, hu⟩ := cond_none hu
            simp only [g, cond_true]
            split at hu <;> (cases hu; exact ⟨_, rfl, rfl⟩)
          obtain ⟨s2, g1, g2⟩ := hs2
          subst g2
          exact fin e1 ⟨_, e2⟩ (.inr ⟨by rw [k1]; rfl, rfl⟩) g1
        · rw [k3] at hu
          simp only [evPF] at hu
          obtain ⟨s1, e1, hu⟩ := asS_some hu
          obtain ⟨_, l1, e2, hu⟩ := asN_some hu
          obtain ⟨_, h1, e3, hu⟩ := asN_some hu
          have hs2 : ∃ s2, slc s1 l1 h1 sz some = some s2 ∧ u = .sl s2 := by
            unfold slc at hu ⊢
            obtain ⟨g, hu⟩ := cond_none hu
            simp only [g, cond_true]
            split at hu <;> (cases hu; exact ⟨_, rfl, rfl⟩)
          obtain ⟨s2, g1, g2⟩ := hs2
          subst g2
          rw [e3] at k2
          exact fin e1 ⟨_, e2⟩ (.inl ⟨_, by rw [k1, k2.int_inv]⟩) g1
      · simp at hc
    · simp at hc
  case stx =>
    split at hc
    · rename_i t x i hop
      simp only [Bool.and_eq_true] at hc
      obtain ⟨ht, h3⟩ := hc
      have ht : C.P.underlying t = some .string := by unfold strB at ht; split at ht; assumption; simp at ht
      obtain ⟨p, q, e, hp, hq⟩ := chkOpds_two h3 hσ
      rw [e] at hu
      simp only [evPF] at hu
      obtain ⟨s, e1, hu1⟩ := asStr_some hu
      obtain ⟨_, n, e2, hu2⟩ := asN_some hu1
      subst e1; subst e2
      replace hu := hu2
      have ex := hp.str_inv
      have ey := hq.int_inv
      unfold stx at hu
      split at hu
      · rename_i b hb
        cases hu
        refine ⟨_, ?_, .int _ _⟩
        simp only [execOp, hop, ex, ey, Instr.index, asIntOf, Sem.run_bind, Sem.run_pure, Result.andThen_ok, underlying, run_program, ht, hb]
      · simp at hu
    · simp at hc
  case sts =>
    split at hc
    · rename_i t x lo hi hop
      simp only [Bool.and_eq_true] at hc
      obtain ⟨ht, hch⟩ := hc
      have ht : C.P.underlying t = some .string := by unfold strB at ht; split at ht; assumption; simp at ht
      obtain ⟨s, l, hs, hl, hh⟩ := sl_opds hch hσ
      have fin : ∀ {s1 : ByteArray} {l1 h1 : Int} {s2 : ByteArray}, s = .str s1 → (∃ k, l = .int k l1) → ((∃ k, hi.map a.eval = some (.int k h1)) ∨ hi.map a.eval = none ∧ h1 = (s1.size : Int)) → sts s1 l1 h1 some = some s2 → ∃ c, (execOp a.eval o).run C.P w = .ok (.value c) w ∧ VR C.fids μ (.str s2) c := by
        intro s1 l1 h1 s2 e1 e2 e3 e4
        obtain ⟨kl, e2⟩ := e2
        subst e1; subst e2
        unfold sts at e4
        obtain ⟨g, e4⟩ := cond_none e4
        simp only [Bool.and_eq_true, decide_eq_true_eq] at g
        cases e4
        have ex := hs.str_inv
        have hb := bounds_run (w := w) (P := C.P) (isSl := false) (cap := s1.size) g.1.1 g.1.2 g.2 (Nat.le_refl _) (lo := lo.map a.eval) (by
          rcases hl with ⟨k1, k2⟩ | ⟨c, k1, k2⟩
          · exact .inr ⟨k1, by cases k2; rfl⟩
          · exact .inl ⟨_, by rw [k1, k2.int_inv]⟩) e3
        refine ⟨_, ?_, .str _⟩
        simp [execOp, hop, ex, Instr.sliceAt, Instr.slice, underlying, ht, hb]
      rcases hh with ⟨k1, k2⟩ | ⟨hv, c, k1, k2, k3⟩
      · rw [k2] at hu
        simp only [evPF] at hu
        obtain ⟨s1, e1, hu⟩ := asStr_some hu
        obtain ⟨_, l1, e2, hu⟩ := asN_some hu
        have hs2 : ∃ s2, sts s1 l1 s1.size some = some s2 ∧ u = .str s2 := by
          unfold sts at hu ⊢
          obtain ⟨g, hu⟩ := cond_none hu
          simp only [g, cond_true]
          cases hu; exact ⟨_, rfl, rfl⟩
        obtain ⟨s2, g1, g2⟩ := hs2
        subst g2
        exact fin e1 ⟨_, e2⟩ (.inr ⟨by rw [k1]; rfl, rfl⟩) g1
      · rw [k3] at hu
        simp only [evPF] at hu
        obtain ⟨s1, e1, hu⟩ := asStr_some hu
        obtain ⟨_, l1, e2, hu⟩ := asN_some hu
        obtain ⟨_, h1, e3, hu⟩ := asN_some hu
        have hs2 : ∃ s2, sts s1 l1 h1 some = some s2 ∧ u = .str s2 := by
          unfold sts at hu ⊢
          obtain ⟨g, hu⟩ := cond_none hu
          simp only [g, cond_true]
          cases hu; exact ⟨_, rfl, rfl⟩
        obtain ⟨s2, g1, g2⟩ := hs2
        subst g2
        rw [e3] at k2
        exact fin e1 ⟨_, e2⟩ (.inl ⟨_, by rw [k1, k2.int_inv]⟩) g1
    · simp at hc
  case sop b' =>
    split at hc
    · rename_i b t x y t' hop
      simp only [Bool.and_eq_true, decide_eq_true_eq] at hc
      obtain ⟨rfl, h3⟩ := hc
      obtain ⟨p, q, e, hp, hq⟩ := chkOpds_two h3 hσ
      rw [e] at hu
      simp only [evPF] at hu
      obtain ⟨n, e1, hu1⟩ := asStr_some hu
      obtain ⟨m, e2, hu2⟩ := asStr_some hu1
      subst e1; subst e2
      replace hu := hu2
      have ex := hp.str_inv
      have ey := hq.str_inv
      cases b <;> simp only [sopS] at hu <;> first
        | (cases hu; exact ⟨_, by simp only [execOp, hop, ex, ey, eqGuard_str, binOp, Op.stringOp, Sem.run_bind, Result.andThen_ok]; rfl, by constructor⟩)
        | (unfold stc2 at hu
           obtain ⟨g, hu⟩ := cond_none hu
           simp only [decide_eq_true_eq] at g
           cases hu
           refine ⟨_, ?_, .str _⟩
           have g2 : ¬ (((n.size + m.size : Nat) : Int) > IntKind.i64.max) := by simp [IntKind.max, IntKind.signed, IntKind.bits]; omega
           simp only [execOp, hop, ex, ey, eqGuard_str, binOp, Op.stringOp, Sem.run_bind, Result.andThen_ok, if_neg g2]
           rfl)
        | (simp at hu)
    · simp at hc
  case pnil neg =>
    split at hc
    · rename_i b t x t' hop
      simp only [Bool.and_eq_true, decide_eq_true_eq] at hc
      obtain ⟨⟨hb, ht⟩, h3⟩ := hc
      have ht : ∃ e, C.P.underlying t = some (.pointer e) := by unfold ptrB at ht; split at ht; exact ⟨_, by assumption⟩; simp at ht
      obtain ⟨e, ht⟩ := ht
      cases ys with
      | nil => simp [chkOpds] at h3
      | cons y ys => cases ys with
        | cons _ _ => simp [chkOpds] at h3
        | nil =>
          simp only [chkOpds, Bool.and_true] at h3
          have vx := chkOpd_sound h3 hσ
          simp only [List.map_cons, List.map_nil, evPF] at hu
          obtain ⟨p, e1, hu⟩ := asPO_some hu
          rw [e1] at vx
          cases hu
          have hex : ∃ q, a.eval x = .pointer q ∧ q.isSome = p.isSome := by
            cases p with
            | none => cases hx : a.eval x <;> rw [hx] at vx <;> cases vx; exact ⟨_, rfl, rfl⟩
            | some p => obtain ⟨e, hx, _⟩ := vx.ptr_inv; exact ⟨_, hx, rfl⟩
          obtain ⟨q, hex, hq⟩ := hex
          have heq : (Op.equal t (.pointer q) (.pointer none)).run C.P w = .ok q.isNone w := by
            exact equalIn_nil ht 9999
          have ec : a.eval (.const (.pointer none)) = .pointer none := rfl
          cases neg
          · subst hb
            exact ⟨.bool q.isNone, by simp [execOp, hop, hex, ec, eqGuard_ptr, binOp, heq], by
              have : q.isNone = p.isNone := by cases q <;> cases p <;> simp_all
              rw [this]; constructor⟩
          · subst hb
            exact ⟨.bool (!q.isNone), by simp [execOp, hop, hex, ec, eqGuard_ptr, binOp, heq], by
              have : (!q.isNone) = p.isSome := by cases q <;> cases p <;> simp_all
              rw [this]; constructor⟩
    · simp at hc
end
end Go.Ab

/- Each operation's law: maps. -/
set_option linter.unusedSimpArgs false
set_option linter.unusedVariables false
namespace Go.Ab
open Go Go.RowKit

/-- The keys that a map's type has: whole numbers, or strings. -/
def keyD (st : Bool) : TypeDesc → Bool
  | .int _ => !st
  | .string => st
  | _ => false
def keyB (P : Program) (st : Bool) (t : TypeId) : Bool := match P.underlying t with | some d => keyD st d | none => false
/-- The types of a map's keys and values. -/
def mapB (P : Program) (t : TypeId) : Option (TypeId × TypeId) :=
  match P.underlying t with
  | some (.map k e) => some (k, e)
  | _ => none
theorem map_und {P : Program} {t k e : TypeId} (h : mapB P t = some (k, e)) : P.underlying t = some (.map k e) := by
  unfold mapB at h; split at h
  · rename_i k' e' he; rw [he]; cases h; rfl
  · simp at h

section
variable {fids : List Nat} {μ : MU}
theorem MR.len : ∀ {es : List (AV × AV)} {ms : List MapEntry}, MR fids μ es ms → es.length = ms.length
  | [], [], _ => rfl
  | _ :: _, _ :: _, h => by simp [MR.len h.2.2]
theorem MR.snoc {k v : AV} {m : MapEntry} (hk : VR fids μ k m.key) (hv : VR fids μ v m.val) : ∀ {es : List (AV × AV)} {ms : List MapEntry}, MR fids μ es ms → MR fids μ (es ++ [(k, v)]) (ms ++ [m])
  | [], [], _ => ⟨hk, hv, trivial⟩
  | _ :: _, _ :: _, h => ⟨h.1, h.2.1, MR.snoc hk hv h.2.2⟩
theorem MR.set {k v : AV} {m : MapEntry} (hk : VR fids μ k m.key) (hv : VR fids μ v m.val) : ∀ {es : List (AV × AV)} {ms : List MapEntry} (i : Nat), MR fids μ es ms → MR fids μ (es.set i (k, v)) (ms.set i m)
  | [], [], _, _ => trivial
  | _ :: _, _ :: _, 0, h => ⟨hk, hv, h.2.2⟩
  | _ :: _, _ :: _, i + 1, h => ⟨h.1, h.2.1, MR.set hk hv i h.2.2⟩
theorem sameK_run {st : Bool} {d : TypeDesc} {k k' : AV} {c c' : Value} {b : Bool} (hd : keyD st d = true) (hk : VR fids μ k c) (hk' : VR fids μ k' c') (h : sameK st k k' = some b) : Instr.sameNow d c c' = some b ∧ (b = true → c = c' ∧ (∀ n, Instr.sameBits n c c' = true)) := by
  unfold sameK at h
  split at h
  · rename_i j a j' a'
    cases hk; cases hk'
    cases st <;> simp at h
    cases d <;> simp [keyD] at hd
    obtain ⟨h1, h2⟩ := h
    subst h1; subst h2
    refine ⟨by simp [Instr.sameNow], fun hb => ?_⟩
    have : a = a' := by simpa using hb
    subst this
    exact ⟨rfl, fun n => by cases n <;> simp [Instr.sameBits]⟩
  · rename_i a a'
    cases hk; cases hk'
    cases st <;> simp at h
    cases d <;> simp [keyD] at hd
    subst h
    refine ⟨rfl, fun hb => ?_⟩
    have : a = a' := by
      obtain ⟨x⟩ := a; obtain ⟨y⟩ := a'
      have : (x == y) = true := hb
      rw [eq_of_beq this]
    subst this
    exact ⟨rfl, fun n => by cases n <;> exact hb⟩
  · simp at h
/-- What is found. -/
theorem findM_run {st : Bool} {d : TypeDesc} {k : AV} {c : Value} (hd : keyD st d = true) (hk : VR fids μ k c) : ∀ (es : List (AV × AV)) (ms : List MapEntry) (i : Nat) (r : Option (Nat × AV)), MR fids μ es ms → findM st k es i = some r →
    (r = none ∧ Instr.findNow d c ms i = some none) ∨ ∃ j v m, r = some (i + j, v) ∧ ms[j]? = some m ∧ Instr.findNow d c ms i = some (some (i + j, m.val)) ∧ VR fids μ v m.val ∧ m.key = c ∧ (∀ n, Instr.sameBits n m.key c = true)
  | [], [], i, r, _, h => by simp [findM] at h; exact .inl ⟨h.symm, rfl⟩
  | e :: es, m :: ms, i, r, hm, h => by
    obtain ⟨h1, h2, h3⟩ := hm
    unfold findM at h
    split at h
    · rename_i hs
      cases h
      obtain ⟨g1, g2⟩ := sameK_run hd hk h1 hs
      obtain ⟨g3, g4⟩ := g2 rfl
      refine .inr ⟨0, _, m, rfl, rfl, by simp [Instr.findNow, g1], h2, g3.symm, fun n => ?_⟩
      rw [← g3] at g4 ⊢; exact g4 n
    · rename_i hs
      obtain ⟨g1, _⟩ := sameK_run hd hk h1 hs
      rcases findM_run hd hk es ms (i + 1) r h3 h with ⟨k1, k2⟩ | ⟨j, v, m', k1, k2, k3, k4⟩
      · exact .inl ⟨k1, by simp [Instr.findNow, g1, k2]⟩
      · exact .inr ⟨j + 1, v, m', by rw [k1, show i + 1 + j = i + (j + 1) by omega], by simpa using k2, by simp only [Instr.findNow, g1, k3, show i + 1 + j = i + (j + 1) by omega], k4⟩
    · simp at h
  | [], _ :: _, _, _, hm, _ => hm.elim
  | _ :: _, [], _, _, hm, _ => hm.elim
theorem checkKey_run {P : Program} {w : World} {st : Bool} {t : TypeId} {d : TypeDesc} {c : Value} {em : Bool} (hu : P.underlying t = some d) (hd : keyD st d = true) : (Instr.checkKey em 10000 t c).run P w = .ok () w := by
  show (Instr.checkKey em (9999 + 1) t c).run P w = _
  generalize 9999 = n
  unfold Instr.checkKey
  cases d <;> simp [keyD] at hd <;> simp [underlying, hu]
theorem findKey_run {P : Program} {w : World} {t : TypeId} {d : TypeDesc} {c : Value} {ms : List MapEntry} {r : Option (Nat × Value)} (hu : P.underlying t = some d) (h : Instr.findNow d c ms 0 = some r) : (Instr.findKey t c ms).run P w = .ok r w := by
  simp [Instr.findKey, underlying, hu, h]
theorem VR.map_inv {m : Option Nat} {c : Value} (h : VR fids μ (.map m) c) : (m = none ∧ c = .map none) ∨ ∃ b e, m = some b ∧ c = .map (some e.B) ∧ μ[b]? = some (some e) := by
  cases h with
  | nilmap => exact .inl ⟨rfl, rfl⟩
  | map b e he => exact .inr ⟨b, e, rfl, rfl, he⟩
end

section
variable {ρ : Type} {r : ρ}
theorem entries_some {H : AH} {m : Option Nat} {κ : List (AV × AV) → Option ρ} (h : entries H m κ = some r) : ∃ es, (m = none ∧ es = [] ∨ ∃ b, m = some b ∧ H[b]? = some (.map es)) ∧ κ es = some r := by
  unfold entries at h
  split at h
  · exact ⟨[], .inl ⟨rfl, rfl⟩, h⟩
  · split at h
    · rename_i es he; exact ⟨es, .inr ⟨_, rfl, he⟩, h⟩
    · simp at h
theorem entries_eq {H : AH} {m : Option Nat} {es : List (AV × AV)} (h : m = none ∧ es = [] ∨ ∃ b, m = some b ∧ H[b]? = some (.map es)) {ρ' : Type} {κ : List (AV × AV) → Option ρ'} : entries H m κ = κ es := by
  rcases h with ⟨rfl, rfl⟩ | ⟨b, rfl, hb⟩
  · rfl
  · simp only [entries, hb]
theorem mlook_some {st : Bool} {H : AH} {m : Option Nat} {k : AV} {κ : Option AV → Option ρ} (h : mlook st H m k κ = some r) : ∃ es q, (m = none ∧ es = [] ∨ ∃ b, m = some b ∧ H[b]? = some (.map es)) ∧ findM st k es 0 = some q ∧ κ (q.map (·.2)) = some r := by
  obtain ⟨es, h1, h⟩ := entries_some h
  split at h
  · rename_i q hq; exact ⟨es, q, h1, hq, h⟩
  · simp at h
theorem mlook_eq {st : Bool} {H : AH} {m : Option Nat} {k : AV} {es : List (AV × AV)} {q : Option (Nat × AV)} (h : m = none ∧ es = [] ∨ ∃ b, m = some b ∧ H[b]? = some (.map es)) (hq : findM st k es 0 = some q) {ρ' : Type} {κ : Option AV → Option ρ'} : mlook st H m k κ = κ (q.map (·.2)) := by
  unfold mlook; rw [entries_eq h]; simp only [hq]
theorem mput_some {st : Bool} {lo : Nat} {H : AH} {m : Option Nat} {k v : AV} {κ : AH → Option ρ} (h : mput st lo H m k v κ = some r) : ∃ b es q, m = some b ∧ H[b]? = some (.map es) ∧ lo ≤ b ∧ findM st k es 0 = some q ∧
    (∀ (ρ' : Type) (κ' : AH → Option ρ'), mput st lo H m k v κ' = κ' (H.set b (.map (match q with | some (i, _) => es.set i (k, v) | none => es ++ [(k, v)])))) ∧ κ (H.set b (.map (match q with | some (i, _) => es.set i (k, v) | none => es ++ [(k, v)]))) = some r := by
  unfold mput at h
  split at h
  · simp at h
  · rename_i b
    split at h
    · rename_i es he
      obtain ⟨hc, h⟩ := cond_none h
      have hc' := of_decide_eq_true hc
      split at h
      · rename_i i v' hq; exact ⟨b, es, _, rfl, he, hc', hq, fun _ _ => by simp only [mput, he, hc, cond_true, hq], h⟩
      · rename_i hq; exact ⟨b, es, _, rfl, he, hc', hq, fun _ _ => by simp only [mput, he, hc, cond_true, hq], h⟩
      · simp at h
    · simp at h
end

section
variable {C : Ctx} {o : Oper} {a : Act} {w : World} {μ : MU} {H H' : AH} {σ : Env} {v : AV} {lo : Nat} {call : CallT}

theorem push_map (hH : HR C μ H w) : HR C (μ ++ [some ⟨w.heap.size, 0, 0, 1⟩]) (H ++ [.map []]) (w.alloc (.map #[] 0)) := by
  have hlow := hH.low
  refine hH.push _ _ _ rfl ⟨#[], 0, ?_, trivial, trivial, rfl, by simp⟩
  show (w.heap.push _)[w.heap.size]? = _
  simp
theorem op_mkm {t k e : TypeId} {r : Option Operand} {r' : Option Opd} (hop : o.op = .makeMap t r) (ht : mapB C.P t = some (k, e)) (hr : match r, r' with | none, none => True | some x, some y => chkOpd C.fids x y = true | _, _ => False)
    (h : evOp call lo (.mkm r') σ H pr = some (v, H')) (hσ : ER C.fids μ σ a) (hH : HR C μ H w) : Runs C o a w (Done C μ H w v H') := by
  have fin : v = .map (some H.length) → H' = H ++ [.map []] → (execOp a.eval o).run C.P w = .ok (.value (.map (some w.heap.size))) (w.alloc (.map #[] 0)) → Runs C o a w (Done C μ H w v H') := by
    intro e1 e2 he
    subst e1; subst e2
    refine Runs.value he ⟨_, ⟨_, rfl⟩, ?_, push_map hH, (Below.refl _ _).alloc hH.base _, keep_snoc hH _⟩
    exact .map H.length ⟨w.heap.size, 0, 0, 1⟩ (by rw [← hH.len]; simp)
  simp only [evOp] at h
  cases r' with
  | none =>
    cases r with
    | some x => exact hr.elim
    | none =>
      obtain ⟨g1, g2⟩ := pr_inj h
      exact fin g1.symm g2.symm (by simp [execOp, hop, Instr.makeMap])
  | some y =>
    cases r with
    | none => exact hr.elim
    | some x =>
      obtain ⟨n, hn, h⟩ := asI_some h
      obtain ⟨g1, g2⟩ := pr_inj h
      have vx := chkOpd_sound hr hσ
      rw [hn] at vx
      have hex := vx.int_inv
      exact fin g1.symm g2.symm (by simp [execOp, hop, Instr.makeMap, underlying, map_und ht, hex, Go.asInt, asIntOf])
theorem op_look {t kt et : TypeId} {st ok : Bool} {l : Lf} {z : AV} {zc : Value} {x y : Operand} {x' y' : Opd} (hop : o.op = .lookup t x y ok) (ht : mapB C.P t = some (kt, et)) (hk : keyB C.P st kt = true) (hz : zeroB C.P et = some zc) (hzc : chkV zc z = true)
    (hx : chkOpd C.fids x x' = true) (hy : chkOpd C.fids y y' = true) (h : evOp call lo (.look st l z x' y' ok) σ H pr = some (v, H')) (hσ : ER C.fids μ σ a) (hH : HR C μ H w) : Runs C o a w (Done C μ H w v H') := by
  simp only [evOp] at h
  obtain ⟨m, hm, h⟩ := asM_some h
  obtain ⟨es, q, h1, h2, h⟩ := mlook_some h
  have h := castLf_some h
  obtain ⟨g1, g2⟩ := pr_inj h
  subst g1; subst g2
  have vx := chkOpd_sound hx hσ
  have vy := chkOpd_sound hy hσ
  rw [hm] at vx
  obtain ⟨d, hd, hkd⟩ : ∃ d, C.P.underlying kt = some d ∧ keyD st d = true := by
    unfold keyB at hk; split at hk
    · rename_i d hd; exact ⟨d, hd, hk⟩
    · simp at hk
  obtain ⟨ms, clock, hms, hmr⟩ : ∃ (ms : Array MapEntry) (clock : Nat), (a.eval x = .map none ∧ ms = #[] ∨ ∃ B, a.eval x = .map (some B) ∧ w.heap[B]? = some (.map ms clock)) ∧ MR C.fids μ es ms.toList := by
    rcases vx.map_inv with ⟨rfl, hc⟩ | ⟨b, e, rfl, hc, he⟩
    · rcases h1 with ⟨_, rfl⟩ | ⟨_, h, _⟩
      · exact ⟨#[], 0, .inl ⟨hc, rfl⟩, trivial⟩
      · cases h
    · rcases h1 with ⟨h, _⟩ | ⟨b', h, hb⟩
      · cases h
      · cases h
        obtain ⟨ms, clock, k1, k2, _⟩ := hH.blk b _ e hb he
        exact ⟨ms, clock, .inr ⟨_, hc, k1⟩, k2⟩
  have hex : ∀ (r : Value) (b : Bool), (∀ f : Option (Nat × Value), Instr.findNow d (a.eval y) ms.toList 0 = some f → (match f with | some (_, u) => (u, true) | none => (zc, false)) = (r, b)) → ∀ f, Instr.findNow d (a.eval y) ms.toList 0 = some f → (execOp a.eval o).run C.P w = .ok (.value (if ok then .tuple #[r, .bool b] else r)) w := by
    intro r b hrb f hf
    have hrb := hrb f hf
    have hck : ∀ em, (Instr.checkKey em 10000 kt (a.eval y)).run C.P w = .ok () w := fun em => checkKey_run hd hkd
    have hfk := findKey_run (w := w) hd hf
    rcases hms with ⟨hc, rfl⟩ | ⟨B, hc, hB⟩
    · simp only [execOp, hop, Instr.lookup, Sem.run_bind, underlying, run_program, map_und ht, Sem.run_pure, Result.andThen_ok, hc, hck, hfk]
      cases f with
      | none => simp at hrb; obtain ⟨rfl, rfl⟩ := hrb; simp [zero_run C.P w hz]
      | some p => obtain ⟨_, u⟩ := p; simp at hrb; obtain ⟨rfl, rfl⟩ := hrb; simp
    · simp only [execOp, hop, Instr.lookup, Sem.run_bind, underlying, run_program, map_und ht, Sem.run_pure, Result.andThen_ok, hc, MapKept.run_getObj_map hB, hck, hfk]
      cases f with
      | none => simp at hrb; obtain ⟨rfl, rfl⟩ := hrb; simp [zero_run C.P w hz]
      | some p => obtain ⟨_, u⟩ := p; simp at hrb; obtain ⟨rfl, rfl⟩ := hrb; simp
  rcases findM_run hkd vy es ms.toList 0 q hmr h2 with ⟨rfl, hf⟩ | ⟨j, u, m', rfl, hj, hf, hu, _⟩
  · refine Runs.value (hex zc false (fun f hf' => by rw [hf] at hf'; cases hf'; rfl) _ hf) (done_same hH ?_)
    have := chkV_sound (fids := C.fids) (μ := μ) hzc
    cases ok
    · simpa using this
    · exact .tup [_, _] [zc, .bool false] (.cons _ _ _ _ (by simpa using this) (.cons _ _ _ _ (.bool _) .nil))
  · refine Runs.value (hex m'.val true (fun f hf' => by rw [hf] at hf'; cases hf'; rfl) _ hf) (done_same hH ?_)
    cases ok
    · simpa using hu
    · exact .tup [_, _] [m'.val, .bool true] (.cons _ _ _ _ (by simpa using hu) (.cons _ _ _ _ (.bool _) .nil))
theorem op_lenm {t k e : TypeId} {x : Operand} {x' : Opd} {ats : Array TypeId} (hop : o.op = .call ⟨.builtin .len, #[x], ats⟩) (h0 : ats[0]? = some t) (ht : mapB C.P t = some (k, e)) (hx : chkOpd C.fids x x' = true)
    (h : evOp call lo (.lenm x') σ H pr = some (v, H')) (hσ : ER C.fids μ σ a) (hH : HR C μ H w) : Runs C o a w (Done C μ H w v H') := by
  simp only [evOp] at h
  obtain ⟨m, hm, h⟩ := asM_some h
  obtain ⟨es, h1, h⟩ := entries_some h
  obtain ⟨g1, g2⟩ := pr_inj h
  subst g1; subst g2
  have vx := chkOpd_sound hx hσ
  rw [hm] at vx
  rcases vx.map_inv with ⟨rfl, hc⟩ | ⟨b, e', rfl, hc, he⟩
  · rcases h1 with ⟨_, rfl⟩ | ⟨_, h, _⟩
    · exact Runs.value (c := .int .i64 0) (by simp [execOp, hop, resolve, invoke, builtin, Builtin.len_, h0, hc, underlying, map_und ht, goInt]) (done_same hH (.int _ _))
    · cases h
  · rcases h1 with ⟨h, _⟩ | ⟨b', h, hb⟩
    · cases h
    · cases h
      obtain ⟨ms, clock, k1, k2, _⟩ := hH.blk b _ e' hb he
      have hl := k2.len
      exact Runs.value (c := .int .i64 ms.size) (by simp [execOp, hop, resolve, invoke, builtin, Builtin.len_, h0, hc, underlying, map_und ht, goInt, MapKept.run_getObj_map k1]) (done_same hH (by rw [hl, Array.length_toList]; exact .int _ _))
theorem op_mupd {t kt et : TypeId} {st : Bool} {x y u : Operand} {x' y' u' : Opd} (hop : o.op = .mapUpdate t x y u ∨ o.op = .insert t x y u) (ht : mapB C.P t = some (kt, et)) (hk : keyB C.P st kt = true)
    (hx : chkOpd C.fids x x' = true) (hy : chkOpd C.fids y y' = true) (hu : chkOpd C.fids u u' = true) (hlo : C.lo0 ≤ lo)
    (h : evOp call lo (.mupd st x' y' u') σ H pr = some (v, H')) (hσ : ER C.fids μ σ a) (hH : HR C μ H w) : Runs C o a w (Done C μ H w v H') := by
  simp only [evOp] at h
  obtain ⟨m, hm, h⟩ := asM_some h
  obtain ⟨b, es, q, rfl, hb, hlb, hq, _, h⟩ := mput_some h
  obtain ⟨g1, g2⟩ := pr_inj h
  subst g1; subst g2
  have vx := chkOpd_sound hx hσ
  have vy := chkOpd_sound hy hσ
  have vu := chkOpd_sound hu hσ
  rw [hm] at vx
  obtain ⟨d, hd, hkd⟩ : ∃ d, C.P.underlying kt = some d ∧ keyD st d = true := by
    unfold keyB at hk; split at hk
    · rename_i d hd; exact ⟨d, hd, hk⟩
    · simp at hk
  rcases vx.map_inv with ⟨h, _⟩ | ⟨b', e, hbb, hc, he⟩
  · cases h
  cases hbb
  have hlo0 : C.lo0 ≤ b := Nat.le_trans hlo hlb
  obtain ⟨ms, clock, k1, k2, k3, k4, k5⟩ := hH.blk b _ e hb he
  have hBs : e.B < w.heap.size := (hH.own b e he).1
  have hml := k2.len
  rw [Array.length_toList] at hml
  have hexec : ∀ {w'}, (Instr.mapUpdate t (.map (some e.B)) (a.eval y) (a.eval u)).run C.P w = .ok () w' → (execOp a.eval o).run C.P w = .ok .skip w' := fun {w'} hr => by
    rcases hop with hop | hop <;> simp [execOp, hop, hc, hr]
  have hck : (Instr.checkKey false 10000 kt (a.eval y)).run C.P w = .ok () w := checkKey_run hd hkd
  have fin : ∀ (ms' : Array MapEntry) (es' : List (AV × AV)) (ck : Nat), (Instr.mapUpdate t (.map (some e.B)) (a.eval y) (a.eval u)).run C.P w = .ok () { w with heap := w.heap.setIfInBounds e.B (.map ms' ck) } →
      MR C.fids μ es' ms'.toList → ck = ms'.size → (∀ (i : Nat) (m : MapEntry), ms'.toList[i]? = some m → m.born = i) → Runs C o a w (Done C μ H w (.tup []) (H.set b (.map es'))) := by
    intro ms' es' ck hr hmr hck hborn
    have hget : ∀ k, k ≠ e.B → (w.heap.setIfInBounds e.B (.map ms' ck))[k]? = w.heap[k]? := fun k hk => by rw [Array.getElem?_setIfInBounds_ne (Ne.symm hk)]
    refine Runs.skip (hexec hr) ⟨μ, .refl _, ?_, ?_, ⟨rfl, rfl, rfl, by simp, fun k hk => hget k (by have := (hH.own b e he).2 hlo0; omega)⟩, fun i hi => ?_⟩
    · exact .tup [] [] .nil
    · exact hH.change hb (by simp) he hlo0 (by simp) (fun k _ hk => hget k hk) ⟨ms', ck, by simp [Array.getElem?_setIfInBounds_self_of_lt hBs], hmr, hlo0, hck, hborn⟩
    · have hne : b ≠ i := fun e' => by subst e'; rw [hi] at he; cases he
      rw [List.getElem?_set_ne hne]
  rcases findM_run hkd vy es ms.toList 0 q k2 hq with ⟨rfl, hf⟩ | ⟨j, v', m', rfl, hj, hf, _, hkey, hbits⟩
  · refine fin (ms.push { key := a.eval y, val := a.eval u, born := clock }) _ (clock + 1) ?_ ?_ (by simp [k4]) (fun i m hi => ?_)
    · simp [Instr.mapUpdate, underlying, map_und ht, MapKept.run_getObj_map k1, hck, findKey_run hd hf, MapKept.run_setObj_map _ k1]
    · simp only [Array.toList_push]
      exact k2.snoc vy vu
    · simp only [Array.toList_push] at hi
      rw [getElem?_snoc] at hi
      by_cases hil : i = ms.toList.length
      · rw [if_pos hil] at hi; cases hi; simp [k4, hil]
      · rw [if_neg hil] at hi; exact k5 i m hi
  · have hjl : j < ms.size := by have := (List.getElem?_eq_some_iff.1 hj).1; simpa using this
    have hja : ms[j]? = some m' := by simpa using hj
    simp only [Nat.zero_add] at hf ⊢
    have hstay : (Instr.keyThatStays m'.key (a.eval y)).run C.P w = .ok (a.eval y) w := by simp [Instr.keyThatStays, hbits]
    refine fin (ms.modify j fun e => { e with key := a.eval y, val := a.eval u }) _ clock ?_ ?_ (by simp [k4]) (fun i m hi => ?_)
    · simp [Instr.mapUpdate, underlying, map_und ht, MapKept.run_getObj_map k1, hck, findKey_run hd hf, hja, hstay, MapKept.run_setObj_map _ k1]
    · have : (ms.modify j fun e => { e with key := a.eval y, val := a.eval u }).toList = ms.toList.set j { m' with key := a.eval y, val := a.eval u } := by
        apply List.ext_getElem?
        intro i
        simp only [Array.getElem?_toList, Array.getElem?_modify, List.getElem?_set]
        by_cases hij : j = i
        · subst hij
          have : ms[j].born = m'.born := by rw [Array.getElem?_eq_getElem hjl] at hja; cases hja; rfl
          simp [hjl, this]
        · simp [hij]
      rw [this]
      exact k2.set vy vu j
    · simp only [Array.getElem?_toList, Array.getElem?_modify] at hi
      by_cases hij : j = i
      · subst hij
        rw [if_pos rfl, hja] at hi
        simp only [Option.map_some, Option.some.injEq] at hi
        subst hi
        exact k5 j m' hj
      · rw [if_neg hij] at hi; exact k5 i m (by simpa using hi)
end
end Go.Ab

/- Calls; the check of any operation, and its soundness. -/
set_option linter.unusedSimpArgs false
set_option linter.unusedVariables false
namespace Go.Ab
open Go Go.RowKit

/-- A call goes in steps: first the call, then what follows. -/
def CallSplit (call : CallT) : Prop := ∀ (ρ : Type) (g : Nat) (args : List AV) (lo : Nat) (H : AH) (κ : AV → AH → Option ρ) (r : ρ), call ρ g args lo H κ = some r →
  ∃ v H', (∀ (ρ' : Type) (κ' : AV → AH → Option ρ'), call ρ' g args lo H κ' = κ' v H') ∧ κ v H' = some r
def CallOK (C : Ctx) (call : CallT) : Prop := ∀ (g f : Nat) (args : List AV) (cargs : List Value) (lo : Nat) (H : AH) (v : AV) (H' : AH) (w : World) (μ : MU), C.fids[g]? = some f →
  call PV g args lo H pr = some (v, H') → C.lo0 ≤ lo → lo ≤ H.length → VRs C.fids μ args cargs → HR C μ H w → Calls C.P f cargs.toArray w fun e w' => ∃ c, e = .returned c ∧ Done C μ H w v H' c w'
/-- The functions have bodies. -/
def FnsOK (C : Ctx) : Prop := ∀ (g f : Nat), C.fids[g]? = some f → ∃ fn, C.P.funcs[f]? = some fn ∧ (fn.name == "runtime.NumGoroutine") = false ∧ fn.body.isNone = false

section
variable {C : Ctx} {o : Oper} {a : Act} {w : World} {μ : MU} {H H' : AH} {σ : Env} {v : AV} {lo : Nat} {call : CallT}

theorem callFunc_run (hF : FnsOK C) {g f : Nat} (hg : C.fids[g]? = some f) (args : Array Value) : (callFunc f args).run C.P w = .ok (.enter f args) w := by
  obtain ⟨fn, h1, h2, h3⟩ := hF g f hg
  simp only [callFunc, Sem.run_bind, run_program, Result.andThen_ok, h1, h2, h3, Bool.false_eq_true, if_false, Sem.run_pure]

theorem wp_call {K : Act → World → Prop} {Q : Exit → Act → World → Prop} (hF : FnsOK C) (hC : CallOK C call) {g f : Nat} {args : List AV} {cargs : List Value} {lo' : Nat} (hg : C.fids[g]? = some f)
    (he : (execOp a.eval o).run C.P w = .ok (.enter f cargs.toArray) w) (hcall : call PV g args lo' H pr = some (v, H')) (hlo : C.lo0 ≤ lo') (hle : lo' ≤ H.length) (hv : VRs C.fids μ args cargs) (hH : HR C μ H w)
    (hk : ∀ c w', Done C μ H w v H' c w' → K (a.put o.dst c) w') : Oper.wp C.P o a w K Q := by
  unfold Oper.wp
  rw [he, Oper.upon_enter]
  refine (hC g f args cargs lo' H v H' w μ hg hcall hlo hle hv hH).mono fun e w' ⟨c, hc, hd⟩ => ?_
  subst hc
  exact hk c w' hd

theorem op_call {K : Act → World → Prop} {Q : Exit → Act → World → Prop} (hF : FnsOK C) (hC : CallOK C call) (hS : CallSplit call) {f g : FuncId} {xs : Array Operand} {ys : List Opd} {ats : Array TypeId} {fresh : Bool} {rt : Ty}
    (hop : o.op = .call ⟨.value (.func f), xs, ats⟩) (hg : C.fids[g]? = some f) (hx : chkOpds C.fids xs.toList ys = true) (hlo : C.lo0 ≤ lo) (hle : lo ≤ H.length)
    (h : evOp call lo (.call g ys fresh rt) σ H pr = some (v, H')) (hσ : ER C.fids μ σ a) (hH : HR C μ H w) (hk : ∀ c w', Done C μ H w v H' c w' → K (a.put o.dst c) w') : Oper.wp C.P o a w K Q := by
  simp only [evOp] at h
  obtain ⟨v', H1, hc, h⟩ := hS _ _ _ _ _ _ _ h
  have h := castTy_some h
  obtain ⟨g1, g2⟩ := pr_inj h
  subst g1; subst g2
  refine wp_call hF hC hg (cargs := xs.toList.map a.eval) ?_ (hc PV pr) ?_ ?_ (chkOpds_sound hx hσ) hH hk
  · have : (xs.toList.map a.eval).toArray = xs.map a.eval := by apply Array.ext'; simp
    rw [this]
    have := callFunc_run (w := w) hF hg (xs.map a.eval)
    simp [execOp, hop, resolve, Act.eval, Deferred.ofValue, invoke, this]
  · cases fresh
    · exact hlo
    · exact hH.low
  · cases fresh
    · exact hle
    · exact Nat.le_refl _

theorem op_callv {K : Act → World → Prop} {Q : Exit → Act → World → Prop} (hF : FnsOK C) (hC : CallOK C call) (hS : CallSplit call) {x : Operand} {x' : Opd} {xs : Array Operand} {ys : List Opd} {ats : Array TypeId} {fresh : Bool} {rt : Ty}
    (hop : o.op = .call ⟨.value x, xs, ats⟩) (hx0 : chkOpd C.fids x x' = true) (hx : chkOpds C.fids xs.toList ys = true) (hlo : C.lo0 ≤ lo) (hle : lo ≤ H.length)
    (h : evOp call lo (.callv x' ys fresh rt) σ H pr = some (v, H')) (hσ : ER C.fids μ σ a) (hH : HR C μ H w) (hk : ∀ c w', Done C μ H w v H' c w' → K (a.put o.dst c) w') : Oper.wp C.P o a w K Q := by
  simp only [evOp] at h
  have vx := chkOpd_sound hx0 hσ
  split at h
  · rename_i g caps hgc
    rw [hgc] at vx
    obtain ⟨f, cs, hex, hg, hcs⟩ : ∃ f cs, a.eval x = .func (.func f) #[] cs ∧ C.fids[g]? = some f ∧ VRs C.fids μ caps cs.toList := by
      generalize a.eval x = z at vx
      cases vx with
      | clo g f caps cs hf hc => exact ⟨f, _, rfl, hf, by simpa using hc⟩
    obtain ⟨v', H1, hc, h⟩ := hS _ _ _ _ _ _ _ h
    have h := castTy_some h
    obtain ⟨g1, g2⟩ := pr_inj h
    subst g1; subst g2
    refine wp_call hF hC hg (cargs := xs.toList.map a.eval ++ cs.toList) ?_ (hc PV pr) ?_ ?_ ((chkOpds_sound hx hσ).append hcs) hH hk
    · have e1 : (xs.toList.map a.eval ++ cs.toList).toArray = xs.map a.eval ++ cs := by apply Array.ext'; simp
      rw [e1]
      have := callFunc_run (w := w) hF hg (xs.map a.eval ++ cs)
      simp [execOp, hop, resolve, hex, Deferred.ofValue, invoke, this]
    · cases fresh
      · exact hlo
      · exact hH.low
    · cases fresh
      · exact hle
      · exact Nat.le_refl _
  · simp at h

theorem op_mkf {f g : Nat} {xs : Array Operand} {ys : List Opd} (hop : o.op = .makeFunc (.func f) #[] xs) (hg : C.fids[g]? = some f) (hx : chkOpds C.fids xs.toList ys = true)
    (h : evOp call lo (.mkf g ys) σ H pr = some (v, H')) (hσ : ER C.fids μ σ a) (hH : HR C μ H w) : Runs C o a w (Done C μ H w v H') := by
  simp only [evOp] at h
  obtain ⟨g1, g2⟩ := pr_inj h
  subst g1; subst g2
  have hv := chkOpds_sound hx hσ
  refine Runs.value (c := .func (.func f) #[] (xs.map a.eval)) (w' := w) (by simp [execOp, hop, Instr.makeFunc]) (done_same hH ?_)
  have := VR.clo (fids := C.fids) (μ := μ) g f _ _ hg hv
  have e1 : (xs.toList.map a.eval).toArray = xs.map a.eval := by apply Array.ext'; simp
  rw [e1] at this; exact this

theorem op_nilck {x : Operand} {x' : Opd} (hop : o.op = .nilCheck x) (hx : chkOpd C.fids x x' = true)
    (h : evOp call lo (.nilck x') σ H pr = some (v, H')) (hσ : ER C.fids μ σ a) (hH : HR C μ H w) : Runs C o a w (Done C μ H w v H') := by
  simp only [evOp] at h
  obtain ⟨p, hp, h⟩ := asP_some h
  obtain ⟨g1, g2⟩ := pr_inj h
  subst g1; subst g2
  have vx := chkOpd_sound hx hσ
  rw [hp] at vx
  obtain ⟨e, hex, he⟩ := vx.ptr_inv
  rw [hex] at vx
  exact Runs.value (c := .pointer (some ⟨e.B, e.o + p.o, none⟩)) (by simp [execOp, hop, hex]) (done_same hH vx)
end

/-! ### The check -/
def chkOp (C : Ctx) (op : Op) : IOp → Bool
  | .mkm r' => (match op with
    | .makeMap t r => (mapB C.P t).isSome && (match r, r' with | none, none => true | some x, some y => chkOpd C.fids x y | _, _ => false)
    | _ => false)
  | .look st _ z x' y' ok' => (match op with
    | .lookup t x y ok => (match mapB C.P t with
      | some (kt, et) => decide (ok = ok') && keyB C.P st kt && (match zeroB C.P et with | some zc => chkV zc z | none => false) && chkOpd C.fids x x' && chkOpd C.fids y y'
      | none => false)
    | _ => false)
  | .mupd st x' y' u' => (match op with
    | .mapUpdate t x y u => (match mapB C.P t with | some (kt, _) => keyB C.P st kt && chkOpd C.fids x x' && chkOpd C.fids y y' && chkOpd C.fids u u' | none => false)
    | .insert t x y u => (match mapB C.P t with | some (kt, _) => keyB C.P st kt && chkOpd C.fids x x' && chkOpd C.fids y y' && chkOpd C.fids u u' | none => false)
    | _ => false)
  | .lenm x' => (match op with
    | .call ⟨.builtin .len, xs, ats⟩ => (match xs.toList, ats[0]? with | [x], some t => (mapB C.P t).isSome && chkOpd C.fids x x' | _, _ => false)
    | _ => false)
  | .pf f ys => chkPF C.P C.fids op f ys
  | .mov y => (match op with
    | .move x => chkOpd C.fids x y
    | .assign x => chkOpd C.fids x y
    | _ => false)
  | .bin b' _ x' y' => (match op with
    | .binOp b _ x y _ => decide (b = b') && okBin b && chkOpd C.fids x x' && chkOpd C.fids y y'
    | _ => false)
  | .beq neg x' y' => (match op with
    | .binOp b t x y _ => decide (b = bif neg then .neq else .eql) && (match C.P.underlying t with | some .bool => true | _ => false) && chkOpd C.fids x x' && chkOpd C.fids y y'
    | _ => false)
  | .not x' => (match op with
    | .unOp u _ x => decide (u = .not) && chkOpd C.fids x x'
    | _ => false)
  | .conv _ k' x' => (match op with
    | .convert s d x => (C.P.underlying s).isSome && (match C.P.underlying d with | some (.int k) => decide (k = k') | _ => false) && chkOpd C.fids x x'
    | _ => false)
  | .ld t1 x' => (match op with
    | .load t x => chkT1 C.P t t1 && chkOpd C.fids x x'
    | _ => false)
  | .st n x' y' => (match op with
    | .store t x y => decide (sizeB C.P t = some (n.getD 1)) && chkOpd C.fids x x' && chkOpd C.fids y y'
    | _ => false)
  | .fadr x' off => (match op with
    | .fieldAddr s x f => (match fieldB C.P s f with
      | some fd => decide (fd.offset = off) && (match sizeB C.P fd.type with | some n => decide (n ≠ 0) | none => false) && chkOpd C.fids x x'
      | none => false)
    | _ => false)
  | .fld x' off n => (match op with
    | .field s x f => (match fieldB C.P s f with
      | some fd => decide (fd.offset = off) && (match n with | none => decide (isAggB C.P fd.type = some false) | some n => decide (isAggB C.P fd.type = some true) && decide (sizeB C.P fd.type = some n)) && chkOpd C.fids x x'
      | none => false)
    | _ => false)
  | .iadr x' y' sz => (match op with
    | .indexAddr t x y => (match sliceB C.P t with
      | some e => decide (sizeB C.P e = some sz) && chkOpd C.fids x x' && chkOpd C.fids y y'
      | none => false)
    | _ => false)
  | .aadr x' y' len sz => (match op with
    | .indexAddr t x y => (match arrayB C.P t with
      | some (n, e) => decide (n = len) && decide (sizeB C.P e = some sz) && chkOpd C.fids x x' && chkOpd C.fids y y'
      | none => false)
    | _ => false)
  | .alloc zs => (match op with
    | .alloc t => (match zeroB C.P t with | some z => chkVs z.cells.toList zs | none => false)
    | _ => false)
  | .box _ x' => (match op with
    | .box _ x => chkOpd C.fids x x'
    | _ => false)
  | .bld zs qs => (match op with
    | .build t ps => (match zeroB C.P t with | some z => chkVs z.cells.toList zs | none => false) &&
      (match placesB C.P t with
      | some pl => allSized C.P t && chkParts C.fids (pl[·]?) ps.toList qs
      | none => (match arrayB C.P t with
        | some (_, e) => (match sizeB C.P e with | some sz => chkParts C.fids (fun i => some (i * sz, sz)) ps.toList qs | none => false)
        | none => false))
    | _ => false)
  | .bsl sz zs len qs => (match op with
    | .buildSlice t n ps => (match sliceB C.P t with
      | some e => decide (n = len) && decide (sizeB C.P e = some sz) && decide (len * sz ≤ 16777216 ∧ 0 < sz) &&
        (match zeroB C.P e with | some z => chkVs ((Array.range (len * sz)).map (z.cells[· % z.cells.size]!)).toList zs | none => false) && chkParts C.fids (fun i => some (i * sz, sz)) ps.toList qs
      | none => false)
    | _ => false)
  | .mksl zs bytes x' y' => (match op with
    | .makeSlice t x y => (match sliceB C.P t with
      | some e => decide (bytesB C.P e = some bytes) && decide (bytes ≠ 0) && decide (sizeB C.P e = some zs.length) && decide (zs.length ≠ 0) &&
        (match zeroB C.P e with | some z => chkVs z.cells.toList zs | none => false) && chkOpd C.fids x x' && chkOpd C.fids y y'
      | none => false)
    | _ => false)
  | .len x' => (match op with
    | .call ⟨.builtin .len, xs, ats⟩ => (match xs.toList, ats[0]? with | [x], some t => (sliceB C.P t).isSome && chkOpd C.fids x x' | _, _ => false)
    | _ => false)
  | .lens x' => (match op with
    | .call ⟨.builtin .len, xs, ats⟩ => (match xs.toList, ats[0]? with | [x], some t => (match C.P.underlying t with | some .string => true | _ => false) && chkOpd C.fids x x' | _, _ => false)
    | _ => false)
  | .app sz bytes x' y' => (match op with
    | .call ⟨.builtin .append, xs, ats⟩ => (match xs.toList, ats[0]?, ats[1]? with
      | [x, y], some t, some t2 => (match sliceB C.P t with
        | some e => (sliceB C.P t2).isSome && decide (sizeB C.P e = some sz) && decide (bytesB C.P e = some bytes) && decide (bytes ≠ 0) &&
          (match zeroB C.P e with | some z => decide (z.cells.size = sz ∧ 0 < sz) | none => false) && chkOpd C.fids x x' && chkOpd C.fids y y'
        | none => false)
      | _, _, _ => false)
    | _ => false)
  | .ext x' j => (match op with
    | .extract x i => decide (i = j) && chkOpd C.fids x x'
    | _ => false)
  | .call g ys _ _ => (match op with
    | .call ⟨.value (.func f), xs, _⟩ => decide (C.fids[g]? = some f) && chkOpds C.fids xs.toList ys
    | _ => false)
  | .callv x' ys _ _ => (match op with
    | .call ⟨.value x, xs, _⟩ => chkOpd C.fids x x' && chkOpds C.fids xs.toList ys
    | _ => false)
  | .mkf g ys => (match op with
    | .makeFunc (.func f) first xs => decide (C.fids[g]? = some f) && decide (first.toList.length = 0) && chkOpds C.fids xs.toList ys
    | _ => false)
  | .nilck x' => (match op with
    | .nilCheck x => chkOpd C.fids x x'
    | _ => false)

theorem toList_one {α : Type} {xs : Array α} {x : α} (h : xs.toList = [x]) : xs = #[x] := by cases xs; simp at h; subst h; rfl
theorem toList_two {α : Type} {xs : Array α} {x y : α} (h : xs.toList = [x, y]) : xs = #[x, y] := by cases xs; simp at h; subst h; rfl

theorem op_sound {C : Ctx} {o : Oper} {a : Act} {w : World} {μ : MU} {H H' : AH} {σ : Env} {v : AV} {lo : Nat} {call : CallT} {io : IOp} {K : Act → World → Prop} {Q : Exit → Act → World → Prop} (hF : FnsOK C) (hC : CallOK C call) (hS : CallSplit call)
    (hlo : C.lo0 ≤ lo) (hle : lo ≤ H.length) (hc : chkOp C o.op io = true) (h : evOp call lo io σ H pr = some (v, H')) (hσ : ER C.fids μ σ a) (hH : HR C μ H w) (hk : ∀ c w', Done C μ H w v H' c w' → K (a.put o.dst c) w') : Oper.wp C.P o a w K Q := by
  cases io <;> simp only [chkOp] at hc
  case mkm r' =>
    split at hc
    · rename_i t r hop
      simp only [Bool.and_eq_true] at hc
      obtain ⟨h1, h2⟩ := hc
      obtain ⟨⟨k, e⟩, h1⟩ := Option.isSome_iff_exists.1 h1
      refine (op_mkm hop h1 ?_ h hσ hH).wp hk
      cases r <;> cases r' <;> simp_all
    · simp at hc
  case look st l z x' y' ok' =>
    split at hc
    · rename_i t x y ok hop
      split at hc
      · rename_i kt et ht
        simp only [Bool.and_eq_true, decide_eq_true_eq] at hc
        obtain ⟨⟨⟨⟨rfl, h1⟩, h2⟩, h3⟩, h4⟩ := hc
        split at h2
        · rename_i zc hz; exact (op_look hop ht h1 hz h2 h3 h4 h hσ hH).wp hk
        · simp at h2
      · simp at hc
    · simp at hc
  case mupd st x' y' u' =>
    split at hc
    · rename_i t x y u hop
      split at hc
      · rename_i kt et ht
        simp only [Bool.and_eq_true] at hc
        exact (op_mupd (.inl hop) ht hc.1.1.1 hc.1.1.2 hc.1.2 hc.2 hlo h hσ hH).wp hk
      · simp at hc
    · rename_i t x y u hop
      split at hc
      · rename_i kt et ht
        simp only [Bool.and_eq_true] at hc
        exact (op_mupd (.inr hop) ht hc.1.1.1 hc.1.1.2 hc.1.2 hc.2 hlo h hσ hH).wp hk
      · simp at hc
    · simp at hc
  case lenm x' =>
    split at hc
    · rename_i xs ats hop
      split at hc
      · rename_i x t hx ht
        simp only [Bool.and_eq_true] at hc
        rw [toList_one hx] at hop
        obtain ⟨⟨k, e⟩, h1⟩ := Option.isSome_iff_exists.1 hc.1
        exact (op_lenm hop ht h1 hc.2 h hσ hH).wp hk
      · simp at hc
    · simp at hc
  case pf f ys => exact (op_pf hc h hσ hH).wp hk
  case mov y =>
    split at hc
    · rename_i x hop; exact (op_mov (.inl hop) hc h hσ hH).wp hk
    · rename_i x hop; exact (op_mov (.inr hop) hc h hσ hH).wp hk
    · simp at hc
  case bin b' k x' y' =>
    split at hc
    · rename_i b t x y t' hop
      simp only [Bool.and_eq_true, decide_eq_true_eq] at hc
      exact (op_bin hop hc.1.1.1 hc.1.1.2 hc.1.2 hc.2 h hσ hH).wp hk
    · simp at hc
  case beq neg x' y' =>
    split at hc
    · rename_i b t x y t' hop
      simp only [Bool.and_eq_true, decide_eq_true_eq] at hc
      obtain ⟨⟨⟨h1, h2⟩, h3⟩, h4⟩ := hc
      have ht : C.P.underlying t = some .bool := by split at h2; assumption; simp at h2
      exact (op_beq hop h1 ht h3 h4 h hσ hH).wp hk
    · simp at hc
  case not x' =>
    split at hc
    · rename_i u t x hop
      simp only [Bool.and_eq_true, decide_eq_true_eq] at hc
      obtain ⟨rfl, h2⟩ := hc
      exact (op_not hop h2 h hσ hH).wp hk
    · simp at hc
  case conv k k' x' =>
    split at hc
    · rename_i s d x hop
      simp only [Bool.and_eq_true] at hc
      obtain ⟨⟨h1, h2⟩, h3⟩ := hc
      have hd : C.P.underlying d = some (.int k') := by
        split at h2
        · rename_i kk hkk; simp at h2; subst h2; exact hkk
        · simp at h2
      exact (op_conv hop h1 hd h3 h hσ hH).wp hk
    · simp at hc
  case ld t1 x' =>
    split at hc
    · rename_i t x hop
      simp only [Bool.and_eq_true] at hc
      exact (op_ld hop hc.1 hc.2 h hσ hH).wp hk
    · simp at hc
  case st n x' y' =>
    split at hc
    · rename_i t x y hop
      simp only [Bool.and_eq_true, decide_eq_true_eq] at hc
      exact (op_st hop hc.1.1 hc.1.2 hc.2 hlo h hσ hH).wp hk
    · simp at hc
  case fadr x' off =>
    split at hc
    · rename_i s x f hop
      split at hc
      · rename_i fd hfd
        simp only [Bool.and_eq_true, decide_eq_true_eq] at hc
        obtain ⟨⟨h1, h2⟩, h3⟩ := hc
        split at h2
        · rename_i n hn
          exact (op_fadr hop hfd h1 hn (of_decide_eq_true h2) h3 h hσ hH).wp hk
        · simp at h2
      · simp at hc
    · simp at hc
  case fld x' off n =>
    split at hc
    · rename_i s x f hop
      split at hc
      · rename_i fd hfd
        simp only [Bool.and_eq_true, decide_eq_true_eq] at hc
        obtain ⟨⟨h1, h2⟩, h3⟩ := hc
        refine (op_fld hop hfd h1 ?_ h3 h hσ hH).wp hk
        cases n with
        | none => simpa using h2
        | some n => simpa using h2
      · simp at hc
    · simp at hc
  case iadr x' y' sz =>
    split at hc
    · rename_i t x y hop
      split at hc
      · rename_i e he
        simp only [Bool.and_eq_true, decide_eq_true_eq] at hc
        exact (op_iadr hop he hc.1.1 hc.1.2 hc.2 h hσ hH).wp hk
      · simp at hc
    · simp at hc
  case aadr x' y' len sz =>
    split at hc
    · rename_i t x y hop
      split at hc
      · rename_i n e he
        simp only [Bool.and_eq_true, decide_eq_true_eq] at hc
        obtain ⟨⟨⟨rfl, h1⟩, h2⟩, h3⟩ := hc
        exact (op_aadr hop he h1 h2 h3 h hσ hH).wp hk
      · simp at hc
    · simp at hc
  case alloc zs =>
    split at hc
    · rename_i t hop
      split at hc
      · rename_i z hz; exact (op_alloc hop hz hc h hσ hH).wp hk
      · simp at hc
    · simp at hc
  case box n x' =>
    split at hc
    · rename_i t x hop; exact (op_box hop hc h hσ hH).wp hk
    · simp at hc
  case bld zs qs =>
    split at hc
    · rename_i t ps hop
      simp only [Bool.and_eq_true] at hc
      obtain ⟨h1, h2⟩ := hc
      split at h1
      · rename_i z hz
        split at h2
        · rename_i pl hpl
          simp only [Bool.and_eq_true] at h2
          exact (op_bldS hop hz h1 hpl h2.1 h2.2 h hσ hH).wp hk
        · split at h2
          · rename_i n e he
            split at h2
            · rename_i sz hsz; exact (op_bldA hop hz h1 he hsz h2 h hσ hH).wp hk
            · simp at h2
          · simp at h2
      · simp at h1
    · simp at hc
  case bsl sz zs len qs =>
    split at hc
    · rename_i t n ps hop
      split at hc
      · rename_i e he
        simp only [Bool.and_eq_true, decide_eq_true_eq] at hc
        obtain ⟨⟨⟨⟨rfl, h1⟩, h2⟩, h3⟩, h4⟩ := hc
        split at h3
        · rename_i z hz; exact (op_bsl hop he h1 h2 hz h3 h4 h hσ hH).wp hk
        · simp at h3
      · simp at hc
    · simp at hc
  case mksl zs bytes x' y' =>
    split at hc
    · rename_i t x y hop
      split at hc
      · rename_i e he
        simp only [Bool.and_eq_true, decide_eq_true_eq] at hc
        obtain ⟨⟨⟨⟨⟨⟨h1, h2⟩, h3⟩, h4⟩, h5⟩, h6⟩, h7⟩ := hc
        split at h5
        · rename_i z hz; exact (op_mksl hop he h1 h2 h3 h4 hz h5 h6 h7 h hσ hH).wp hk
        · simp at h5
      · simp at hc
    · simp at hc
  case len x' =>
    split at hc
    · rename_i xs ats hop
      split at hc
      · rename_i x t hx ht
        simp only [Bool.and_eq_true] at hc
        rw [toList_one hx] at hop
        exact (op_len hop ht hc.1 hc.2 h hσ hH).wp hk
      · simp at hc
    · simp at hc
  case lens x' =>
    split at hc
    · rename_i xs ats hop
      split at hc
      · rename_i x t hx ht
        simp only [Bool.and_eq_true] at hc
        rw [toList_one hx] at hop
        obtain ⟨h1, h2⟩ := hc
        have hu : C.P.underlying t = some .string := by split at h1; assumption; simp at h1
        exact (op_lens hop ht hu h2 h hσ hH).wp hk
      · simp at hc
    · simp at hc
  case app sz bytes x' y' =>
    split at hc
    · rename_i xs ats hop
      split at hc
      · rename_i x y t t2 hx ht ht2
        split at hc
        · rename_i e he
          simp only [Bool.and_eq_true, decide_eq_true_eq] at hc
          obtain ⟨⟨⟨⟨⟨⟨h1, h2⟩, h3⟩, h4⟩, h5⟩, h6⟩, h7⟩ := hc
          rw [toList_two hx] at hop
          obtain ⟨e2, he2⟩ := Option.isSome_iff_exists.1 h1
          split at h5
          · rename_i z hz; exact (op_app hop ht ht2 he he2 h2 h3 h4 hz (of_decide_eq_true h5).1 (of_decide_eq_true h5).2 h6 h7 hlo h hσ hH).wp hk
          · simp at h5
        · simp at hc
      · simp at hc
    · simp at hc
  case ext x' j =>
    split at hc
    · rename_i x i hop
      simp only [Bool.and_eq_true, decide_eq_true_eq] at hc
      exact (op_ext hop hc.1 hc.2 h hσ hH).wp hk
    · simp at hc
  case call g ys fresh rt =>
    split at hc
    · rename_i f xs ats hop
      simp only [Bool.and_eq_true, decide_eq_true_eq] at hc
      exact op_call hF hC hS hop hc.1 hc.2 hlo hle h hσ hH hk
    · simp at hc
  case callv x' ys fresh rt =>
    split at hc
    · rename_i x xs ats hop
      simp only [Bool.and_eq_true] at hc
      exact op_callv hF hC hS hop hc.1 hc.2 hlo hle h hσ hH hk
    · simp at hc
  case mkf g ys =>
    split at hc
    · rename_i f first xs hop
      simp only [Bool.and_eq_true, decide_eq_true_eq] at hc
      obtain ⟨⟨h1, h2⟩, h3⟩ := hc
      have : first = #[] := by cases first; simp at h2; subst h2; rfl
      subst this
      exact (op_mkf hop h1 h3 h hσ hH).wp hk
    · simp at hc
  case nilck x' =>
    split at hc
    · rename_i x hop; exact (op_nilck hop hc h hσ hH).wp hk
    · simp at hc
end Go.Ab

/- Regions in the order of the text. -/
set_option linter.unusedSimpArgs false
set_option linter.unusedVariables false
namespace Go.Ab
open Go Go.RowKit

def Steps.idxs : Steps → List Nat
  | .nil => []
  | .op i _ _ r => i :: r.idxs
  | .chk _ r => r.idxs
  | .grp _ _ inner i _ _ r => inner.idxs ++ i :: r.idxs

abbrev GC := Option (Nat × Bool)
/-- The operation stands under this guard and no other. -/
def guardB (ops : Array Oper) (o : Oper) : GC → Bool
  | none => o.guard.isNone
  | some (gt, want) => (match o.guard with
    | some (j, w) => decide (w = want) && decide ((ops[j]?).bind (·.dst) = some gt)
    | none => false)
def freeB : GC → List Nat → Bool
  | none, _ => true
  | some (gt, _), ds => !memN gt ds
def dstB (nt : Nat) : Option Nat → Bool
  | none => true
  | some d => decide (d < nt)
def pickB (fids : List Nat) (op : Op) (gt : Nat) (want : Bool) (px : Opd) : Bool :=
  match op with
  | .pick (.tmp c) a b => decide (c = gt) && (match want with
    | true => chkOpd fids a px && (match b with | .const (.bool f) => !f | _ => false)
    | false => chkOpd fids b px && (match a with | .const (.bool f) => f | _ => false))
  | _ => false

def chkS (C : Ctx) (ops : Array Oper) (nt : Nat) : GC → List Nat → Steps → Bool
  | _, _, .nil => true
  | g, seen, .op i d io rest => (match ops[i]? with
    | some o => chkOp C o.op io && decide (o.dst = d) && dstB nt d && guardB ops o g && freeB g (dl d) && chkS C ops nt g (dl d ++ seen) rest
    | none => false)
  | g, seen, .chk _ rest => chkS C ops nt g seen rest
  | g, seen, .grp gt want inner i pd px rest => (match ops[i]? with
    | some o => pickB C.fids o.op gt want px && decide (o.dst = some pd) && decide (pd < nt) && guardB ops o g && freeB g (pd :: inner.dsts) && !memN gt inner.dsts &&
        (g.isNone || memN gt seen) && chkS C ops nt (some (gt, want)) [] inner && chkS C ops nt g (pd :: (inner.dsts ++ seen)) rest
    | none => false)

section
variable {C : Ctx} {ops : Array Oper} {nt : Nat}

theorem memN_iff {x : Nat} : ∀ {l : List Nat}, memN x l = true ↔ x ∈ l
  | [] => by simp [memN]
  | y :: l => by
    unfold memN
    cases h : Nat.beq x y
    · simp only [cond_false, List.mem_cons, memN_iff]
      have : x ≠ y := fun e => by subst e; simp at h
      simp [this]
    · have : x = y := Nat.eq_of_beq_eq_true h
      simp [this]
theorem memN_app {x : Nat} {l m : List Nat} : memN x (l ++ m) = (memN x l || memN x m) := by
  rw [Bool.eq_iff_iff]; simp [memN_iff]
theorem memN_cons {x y : Nat} {m : List Nat} : memN x (y :: m) = (decide (x = y) || memN x m) := by
  rw [Bool.eq_iff_iff]; simp [memN_iff]

theorem getD_put (a : Act) (d : Option Nat) (v : Value) (x : Nat) (hd : dstB a.tmps.size d = true) : (a.put d v).tmps.getD x undef = if d = some x then v else a.tmps.getD x undef := by
  cases d with
  | none => simp [Act.put]
  | some d =>
    simp only [dstB, decide_eq_true_eq] at hd
    simp only [Act.put, Array.getD_eq_getD_getElem?]
    by_cases h : d = x
    · subst h; simp [hd]
    · rw [Array.getElem?_setIfInBounds_ne h, if_neg (by simpa using h)]
theorem size_put (a : Act) (d : Option Nat) (v : Value) : (a.put d v).tmps.size = a.tmps.size := by
  cases d <;> simp [Act.put]
theorem defs_put (a : Act) (d : Option Nat) (v : Value) : (a.put d v).defers = a.defers := by
  cases d <;> simp [Act.put]

theorem ER.put {fids : List Nat} {μ μ' : MU} {σ : Env} {a : Act} (h : ER fids μ σ a) (hr : Ref μ μ') {d : Option Nat} {v : AV} {c : Value} (hv : VR fids μ' v c) (hd : dstB a.tmps.size d = true) : ER fids μ' (putO σ d v) (a.put d c) := by
  intro x
  rw [getD_put a d c x hd]
  cases d with
  | none => simpa [putO] using (h x).mono hr
  | some d =>
    simp only [putO, Ab.put]
    cases hx : Nat.beq x d
    · have : ¬ d = x := fun e => by subst e; simp at hx
      simp only [cond_false, Option.some.injEq, this, if_false]
      exact (h x).mono hr
    · have : x = d := Nat.eq_of_beq_eq_true hx
      subst this
      simpa using hv

/-- What the guard's temporary says. -/
theorem wanted_of {o : Oper} {gt : Nat} {want : Bool} (hg : guardB ops o (some (gt, want)) = true) (tm : Array Value) :
    Region.wanted o (yielded ops tm) = ((match tm[gt]? with | some (.bool b) => some b | _ => none) == some want) := by
  unfold guardB at hg
  simp only at hg
  unfold Region.wanted
  split at hg
  · rename_i j w hj
    simp only [Bool.and_eq_true, decide_eq_true_eq] at hg
    obtain ⟨rfl, h2⟩ := hg
    rw [hj]
    simp only [yielded, h2, Option.bind_some]
    rfl
  · simp at hg
theorem memN_dl {x : Nat} {d : Option Nat} : memN x (dl d) = decide (d = some x) := by
  cases d with
  | none => simp [dl, memN]
  | some d => rw [Bool.eq_iff_iff, memN_iff]; simp [dl]; exact eq_comm
theorem wanted_none {o : Oper} (hg : guardB ops o none = true) (y : Nat → Option Bool) : Region.wanted o y = true := by
  unfold guardB at hg
  simp only [Option.isNone_iff_eq_none] at hg
  simp [Region.wanted, hg]

/-- The guard is met. -/
def Met (g : GC) (a : Act) : Prop := match g with | none => True | some (gt, want) => a.tmps.getD gt undef = .bool want
theorem getD_some {tm : Array Value} {x : Nat} {v : Value} (h : tm.getD x undef = v) (hv : v ≠ undef) : tm[x]? = some v := by
  rw [Array.getD_eq_getD_getElem?] at h
  cases hx : tm[x]? with
  | none => rw [hx] at h; simp at h; exact absurd h.symm hv
  | some u => rw [hx] at h; simp at h; rw [h]
theorem undef_ne_bool (b : Bool) : Value.bool b ≠ undef := by intro h; cases h
theorem Met.wanted {g : GC} {a : Act} {o : Oper} (h : Met g a) (hg : guardB ops o g = true) : Region.wanted o (yielded ops a.tmps) = true := by
  cases g with
  | none => exact wanted_none hg _
  | some p =>
    obtain ⟨gt, want⟩ := p
    rw [wanted_of hg, getD_some h (undef_ne_bool _)]
    simp

structure Aft (C : Ctx) (nt : Nat) (μ : MU) (H : AH) (w : World) (a : Act) (ds : List Nat) (σ' : Env) (H' : AH) (a' : Act) (w' : World) (μ' : MU) : Prop where
  ext : Ext μ μ'
  er : ER C.fids μ' σ' a'
  sz : a'.tmps.size = nt
  hr : HR C μ' H' w'
  below : Below C.base w w'
  keep : Keep μ H H'
  defs : a'.defers = a.defers
  same : ∀ x, memN x ds = false → a'.tmps.getD x undef = a.tmps.getD x undef

theorem Good.grow {C : Ctx} {μ μ' : MU} {H H' : AH} {w w' : World} {v : AV} {c : Value} (hH : HR C μ H w) (h : Good C μ H w v H' c w' μ') : H.length ≤ H'.length := by
  obtain ⟨ν, e⟩ := h.ext
  rw [← hH.len, ← h.hr.len, e]; simp
theorem Aft.grow {μ μ' : MU} {H H' : AH} {w w' : World} {a a' : Act} {ds : List Nat} {σ' : Env} (hH : HR C μ H w) (h : Aft C nt μ H w a ds σ' H' a' w' μ') : H.length ≤ H'.length := by
  obtain ⟨ν, e⟩ := h.ext
  rw [← hH.len, ← h.hr.len, e]; simp
theorem Aft.trans {μ μ1 μ2 : MU} {H H1 H2 : AH} {w w1 w2 : World} {a a1 a2 : Act} {d1 d2 : List Nat} {σ1 σ2 : Env} (h : Aft C nt μ H w a d1 σ1 H1 a1 w1 μ1) (k : Aft C nt μ1 H1 w1 a1 d2 σ2 H2 a2 w2 μ2) :
    Aft C nt μ H w a (d1 ++ d2) σ2 H2 a2 w2 μ2 :=
  ⟨h.ext.trans k.ext, k.er, k.sz, k.hr, h.below.trans k.below, h.keep.trans k.keep h.ext, k.defs.trans h.defs, fun x hx => by
    rw [memN_app, Bool.or_eq_false_iff] at hx; rw [k.same x hx.2, h.same x hx.1]⟩

variable {Q : Exit → Act → World → Prop}

theorem wpOps_run {i : Nat} {o : Oper} {l : List Nat} {a : Act} {w : World} (hi : ops[i]? = some o) (hw : Region.wanted o (yielded ops a.tmps) = true) (h : Oper.wp C.P o a w (wpOps C.P ops Q l) Q) : wpOps C.P ops Q (i :: l) a w := by
  simp only [wpOps, hi, hw, if_true]; exact .inl h
theorem wpOps_skip {i : Nat} {o : Oper} {l : List Nat} {a : Act} {w : World} (hi : ops[i]? = some o) (hw : Region.wanted o (yielded ops a.tmps) = false) (h : wpOps C.P ops Q l (a.put o.dst undef) w) : wpOps C.P ops Q (i :: l) a w := by
  simp only [wpOps, hi, hw]; exact h

/-- Under a guard that is not met nothing is done. -/
theorem steps_skip {w : World} : ∀ (ss : Steps) (gt : Nat) (want : Bool) (seen : List Nat) (a : Act) (l : List Nat), chkS C ops nt (some (gt, want)) seen ss = true → a.tmps.size = nt → a.tmps.getD gt undef ≠ .bool want →
    (∀ d, memN d seen = true → a.tmps.getD d undef = undef) →
    (∀ a' : Act, a'.tmps.size = nt → a'.defers = a.defers → (∀ x, memN x ss.dsts = false → a'.tmps.getD x undef = a.tmps.getD x undef) → (∀ x, memN x ss.dsts = true → a'.tmps.getD x undef = undef) → wpOps C.P ops Q l a' w) →
    wpOps C.P ops Q (ss.idxs ++ l) a w
  | .nil, gt, want, seen, a, l, _, hn, _, _, hk => hk a hn rfl (fun _ _ => rfl) (fun x hx => by simp [Steps.dsts, memN] at hx)
  | .chk _ rest, gt, want, seen, a, l, hc, hn, hg, hs, hk => by
    simp only [chkS] at hc
    exact steps_skip rest gt want seen a l hc hn hg hs hk
  | .op i d io rest, gt, want, seen, a, l, hc, hn, hg, hs, hk => by
    simp only [chkS] at hc
    split at hc
    · rename_i o hi
      simp only [Bool.and_eq_true, decide_eq_true_eq] at hc
      obtain ⟨⟨⟨⟨⟨h1, h2⟩, h3⟩, h4⟩, h5⟩, h6⟩ := hc
      subst h2
      have hw : Region.wanted o (yielded ops a.tmps) = false := by
        rw [wanted_of h4]
        cases hx : a.tmps[gt]? with
        | none => rfl
        | some u =>
          have : a.tmps.getD gt undef = u := by rw [Array.getD_eq_getD_getElem?, hx]; rfl
          rw [this] at hg
          cases u <;> simp
          intro e; subst e; exact hg rfl
      have hdn : dstB a.tmps.size o.dst = true := by rw [hn]; exact h3
      have hgd : o.dst ≠ some gt := by
        intro e; simp [freeB, dl, e, memN] at h5
      refine wpOps_skip hi hw (steps_skip rest gt want (dl o.dst ++ seen) _ l h6 (by rw [size_put]; exact hn) (by rw [getD_put _ _ _ _ hdn, if_neg hgd]; exact hg) (fun x hx => ?_) (fun a' g1 g2 g3 g4 => hk a' g1 (by rw [g2, defs_put]) (fun x hx => ?_) (fun x hx => ?_)))
      · rw [getD_put _ _ _ _ hdn]
        split
        · rfl
        · rename_i hne
          rw [memN_app, Bool.or_eq_true] at hx
          rcases hx with hx | hx
          · cases hd : o.dst with
            | none => rw [hd] at hx; simp [dl, memN] at hx
            | some d => rw [hd] at hx; rw [memN_iff] at hx; simp [dl] at hx; subst hx; exact absurd hd hne
          · exact hs x hx
      · rw [Steps.dsts, memN_app, memN_dl] at hx
        simp only [Bool.or_eq_false_iff, decide_eq_false_iff_not] at hx
        rw [g3 x hx.2, getD_put _ _ _ _ hdn, if_neg hx.1]
      · by_cases hr : memN x rest.dsts = true
        · exact g4 x hr
        · have hr' : memN x rest.dsts = false := by simpa using hr
          rw [Steps.dsts, memN_app, memN_dl, hr'] at hx
          simp only [Bool.or_false, decide_eq_true_eq] at hx
          rw [g3 x hr', getD_put _ _ _ _ hdn, if_pos hx]
    · simp at hc
  | .grp gt2 want2 inner i pd px rest, gt, want, seen, a, l, hc, hn, hg, hs, hk => by
    simp only [chkS] at hc
    split at hc
    · rename_i o hi
      simp only [Bool.and_eq_true, decide_eq_true_eq, Bool.or_eq_true, Bool.not_eq_true', Option.isNone_some, Bool.false_eq_true, false_or] at hc
      obtain ⟨⟨⟨⟨⟨⟨⟨⟨h1, h2⟩, h3⟩, h4⟩, h5⟩, h6⟩, h7⟩, h8⟩, h9⟩ := hc
      have hfr : memN gt (pd :: inner.dsts) = false := by simpa [freeB] using h5
      rw [memN_cons, Bool.or_eq_false_iff] at hfr
      have hpd : pd ≠ gt := fun e => by subst e; simp at hfr
      rw [Steps.idxs, List.append_assoc, List.cons_append]
      refine steps_skip inner gt2 want2 [] a _ h8 hn (by rw [hs gt2 h7]; exact fun e => undef_ne_bool _ e.symm) (fun d hd => by simp [memN] at hd) (fun a1 g1 g2 g3 g4 => ?_)
      have hdn : dstB a1.tmps.size o.dst = true := by rw [g1, h2]; simpa [dstB] using h3
      have hw : Region.wanted o (yielded ops a1.tmps) = false := by
        rw [wanted_of h4]
        have hg1 : a1.tmps.getD gt undef ≠ .bool want := by rw [g3 gt hfr.2]; exact hg
        cases hx : a1.tmps[gt]? with
        | none => rfl
        | some u =>
          have : a1.tmps.getD gt undef = u := by rw [Array.getD_eq_getD_getElem?, hx]; rfl
          rw [this] at hg1
          cases u <;> simp
          intro e; subst e; exact hg1 rfl
      refine wpOps_skip hi hw (steps_skip rest gt want (pd :: (inner.dsts ++ seen)) _ l h9 (by rw [size_put]; exact g1) ?_ (fun x hx => ?_) (fun a' k1 k2 k3 k4 => hk a' k1 (by rw [k2, defs_put, g2]) (fun x hx => ?_) (fun x hx => ?_)))
      · rw [getD_put _ _ _ _ hdn, h2, if_neg (by simpa using hpd), g3 gt hfr.2]; exact hg
      · rw [getD_put _ _ _ _ hdn, h2]
        split
        · rfl
        · rename_i hne
          rw [memN_cons, memN_app] at hx
          simp only [Bool.or_eq_true, decide_eq_true_eq] at hx
          rcases hx with rfl | hx | hx
          · exact absurd rfl hne
          · exact g4 x hx
          · by_cases hin : memN x inner.dsts = true
            · exact g4 x hin
            · rw [g3 x (by simpa using hin)]; exact hs x hx
      · rw [Steps.dsts, memN_app, memN_cons] at hx
        simp only [Bool.or_eq_false_iff, decide_eq_false_iff_not] at hx
        rw [k3 x hx.2.2, getD_put _ _ _ _ hdn, h2, if_neg (by simpa using Ne.symm hx.2.1), g3 x hx.1]
      · by_cases hr : memN x rest.dsts = true
        · exact k4 x hr
        · have hr' : memN x rest.dsts = false := by simpa using hr
          rw [k3 x hr', getD_put _ _ _ _ hdn, h2]
          split
          · rfl
          · rename_i hne
            rw [Steps.dsts, memN_app, memN_cons, hr'] at hx
            simp only [Bool.or_false, Bool.or_eq_true, decide_eq_true_eq] at hx
            rcases hx with hx | rfl
            · exact g4 x hx
            · exact absurd rfl hne
    · simp at hc
end
end Go.Ab

/- Regions in the order of the text: what is done is what the evaluator says. -/
set_option linter.unusedSimpArgs false
set_option linter.unusedVariables false
namespace Go.Ab
open Go Go.RowKit

section
variable {C : Ctx} {ops : Array Oper} {nt : Nat} {call : CallT} {lo : Nat}

theorem idx_eq {ρ : Type} {s : Sl} {p : Pt} {i : Int} {sz : Nat} {κ : Pt → Option ρ} (hp : s.p = some p) (h0 : 0 ≤ i) (h1 : i < s.len) : idx s i sz κ = κ ⟨p.b, p.o + i.toNat * sz⟩ := by
  unfold idx; rw [hp]; simp [h0, h1]
theorem evOp_split (hS : CallSplit call) {ρ : Type} {io : IOp} {σ : Env} {H : AH} {κ : AV → AH → Option ρ} {r : ρ} (h : evOp call lo io σ H κ = some r) :
    ∃ v H', (∀ (ρ' : Type) (κ' : AV → AH → Option ρ'), evOp call lo io σ H κ' = κ' v H') ∧ κ v H' = some r := by
  cases io <;> simp only [evOp] at h ⊢
  case mkm r =>
    cases r with
    | none => exact ⟨_, _, fun _ _ => rfl, h⟩
    | some n => obtain ⟨c, hn, h⟩ := asI_some h; simp only [hn, asI_eq]; exact ⟨_, _, fun _ _ => rfl, h⟩
  case look st l z m k ok =>
    obtain ⟨mm, hm, h⟩ := asM_some h
    obtain ⟨es, q, h1, h2, h⟩ := mlook_some h
    obtain ⟨u, hu⟩ : ∃ u, ∀ (ρ' : Type) (κ' : AV → Option ρ'), castLf l ((q.map (·.2)).getD z) κ' = κ' u := ⟨_, fun _ κ' => castLf_eq h κ'⟩
    rw [hu] at h
    refine ⟨_, _, fun _ κ' => ?_, h⟩
    rw [hm]
    simp only [asM, mlook_eq h1 h2, hu]
  case mupd st m k v =>
    obtain ⟨mm, hm, h⟩ := asM_some h
    obtain ⟨b, es, q, _, _, _, _, hall, h⟩ := mput_some h
    refine ⟨_, _, fun _ κ' => ?_, h⟩
    rw [hm]
    simp only [asM, hall]
  case lenm x =>
    obtain ⟨mm, hm, h⟩ := asM_some h
    obtain ⟨es, h1, h⟩ := entries_some h
    refine ⟨_, _, fun _ κ' => ?_, h⟩
    rw [hm]
    simp only [asM, mlen, entries_eq h1]
  case pf f xs => obtain ⟨v, h1, h2⟩ := evPF_some h; exact ⟨v, H, fun _ κ' => h1 _ _, h2⟩
  case mov x => exact ⟨_, _, fun _ _ => rfl, h⟩
  case bin op k x y =>
    obtain ⟨n, hn, h⟩ := asI_some h
    obtain ⟨m, hm, h⟩ := asI_some h
    simp only [hn, hm, asI_eq]
    cases op <;> simp only [binI] at h ⊢ <;> first
      | exact ⟨_, _, fun _ _ => rfl, h⟩
      | (by_cases h0 : m = 0
         · simp [h0] at h
         · simp only [h0, decide_false, cond_false] at h ⊢; exact ⟨_, _, fun _ _ => rfl, h⟩)
      | (simp at h)
  case beq neg x y =>
    obtain ⟨n, hn, h⟩ := asB_some h
    obtain ⟨m, hm, h⟩ := asB_some h
    rw [hn, hm]; exact ⟨_, _, fun _ _ => rfl, h⟩
  case not x => obtain ⟨n, hn, h⟩ := asB_some h; rw [hn]; exact ⟨_, _, fun _ _ => rfl, h⟩
  case conv k k' x => obtain ⟨n, hn, h⟩ := asI_some h; simp only [hn, asI_eq]; exact ⟨_, _, fun _ _ => rfl, h⟩
  case ld t x =>
    obtain ⟨p, hp, h⟩ := asP_some h
    obtain ⟨v, hv, h⟩ := ldT_some h
    refine ⟨_, _, fun _ κ' => ?_, h⟩
    rw [hp]; exact hv _
  case st n x v =>
    obtain ⟨p, hp, h⟩ := asP_some h
    rw [hp]
    cases n with
    | none =>
      simp only at h ⊢
      obtain ⟨hs, h⟩ := cond_none h
      obtain ⟨vs, sz, hb, hl, hn, h⟩ := stc_some h
      refine ⟨_, _, fun _ _ => ?_, h⟩
      simp only [asP, hs, cond_true, stc, hb, hl, hn, decide_true, Bool.and_self]
    | some n =>
      simp only at h ⊢
      obtain ⟨us, hu, h⟩ := asAgg_some h
      obtain ⟨hs, h⟩ := cond_none h
      obtain ⟨vs, sz, hb, hl, hn, h⟩ := stn_some h
      refine ⟨_, _, fun _ _ => ?_, h⟩
      simp only [asP, hu, asAgg, hs, cond_true, stn, hb, hl, hn, decide_true, Bool.and_self]
  case fadr x off => obtain ⟨p, hp, h⟩ := asP_some h; rw [hp]; exact ⟨_, _, fun _ _ => rfl, h⟩
  case fld x off n =>
    obtain ⟨vs, hp, h⟩ := asAgg_some h
    rw [hp]
    cases n with
    | none =>
      simp only at h
      split at h
      · rename_i u hu; refine ⟨_, _, fun _ _ => ?_, h⟩; simp only [Ab.asAgg, hu]
      · simp at h
    | some n =>
      simp only at h
      obtain ⟨hb, h⟩ := cond_none h
      refine ⟨_, _, fun _ _ => ?_, h⟩; simp only [Ab.asAgg, hb, cond_true]
  case iadr s i sz =>
    obtain ⟨s', hs, h⟩ := asS_some h
    obtain ⟨_, n, hn, h⟩ := asN_some h
    obtain ⟨p, hp, h0, h1, h⟩ := idx_some h
    simp only [hs, hn, asS, asN, idx_eq hp h0 h1]
    exact ⟨_, _, fun _ _ => rfl, h⟩
  case aadr x i len sz =>
    obtain ⟨p, hs, h⟩ := asP_some h
    obtain ⟨_, n, hn, h⟩ := asN_some h
    obtain ⟨hb, h⟩ := cond_none h
    simp only [hs, hn, asP, asN, hb]
    exact ⟨_, _, fun _ _ => rfl, h⟩
  case alloc zs => exact ⟨_, _, fun _ _ => rfl, h⟩
  case box n x => obtain ⟨hb, h⟩ := cond_none h; rw [hb]; exact ⟨_, _, fun _ _ => rfl, h⟩
  case bld zs ps =>
    obtain ⟨us, hu, h⟩ := fillP_split h
    refine ⟨_, _, fun _ _ => ?_, h⟩
    have : ∀ {ps : List (Nat × Nat × Opd)} {zs us : List AV} {ρ' : Type} {κ : List AV → Option ρ'}, fillP σ zs ps some = some us → fillP σ zs ps κ = κ us := by
      intro ps
      induction ps with
      | nil => intro zs us _ κ h; unfold fillP at h ⊢; cases h; rfl
      | cons p ps ih => intro zs us _ κ h; obtain ⟨o', n', y'⟩ := p; unfold fillP at h ⊢; (try simp only at h ⊢); obtain ⟨hb, h⟩ := cond_none h; rw [hb]; exact ih h
    rw [this hu]
  case bsl sz zs len ps =>
    obtain ⟨us, hu, h⟩ := fillP_split h
    obtain ⟨hb, h⟩ := cond_none h
    refine ⟨_, _, fun _ _ => ?_, h⟩
    have : ∀ {ps : List (Nat × Nat × Opd)} {zs us : List AV} {ρ' : Type} {κ : List AV → Option ρ'}, fillP σ zs ps some = some us → fillP σ zs ps κ = κ us := by
      intro ps
      induction ps with
      | nil => intro zs us _ κ h; unfold fillP at h ⊢; cases h; rfl
      | cons p ps ih => intro zs us _ κ h; obtain ⟨o', n', y'⟩ := p; unfold fillP at h ⊢; (try simp only at h ⊢); obtain ⟨hb, h⟩ := cond_none h; rw [hb]; exact ih h
    rw [this hu, hb]; rfl
  case mksl zs bytes l c =>
    obtain ⟨n, hn, h⟩ := asI_some h
    obtain ⟨m, hm, h⟩ := asI_some h
    simp only [hn, hm, asI_eq]
    simp only [mks] at h ⊢
    obtain ⟨hb, h⟩ := cond_none h
    rw [hb]; exact ⟨_, _, fun _ _ => rfl, h⟩
  case len x => obtain ⟨n, hn, h⟩ := asS_some h; rw [hn]; exact ⟨_, _, fun _ _ => rfl, h⟩
  case lens x => obtain ⟨n, hn, h⟩ := asStr_some h; rw [hn]; exact ⟨_, _, fun _ _ => rfl, h⟩
  case app sz bytes s x =>
    obtain ⟨s', hs, h⟩ := asS_some h
    obtain ⟨y, hy, h⟩ := asS_some h
    rw [hs, hy]; simp only [asS]
    simp only [appS] at h ⊢
    cases hyp : y.p with
    | none =>
      rw [hyp] at h; simp only at h ⊢
      obtain ⟨hb, h⟩ := cond_none h
      rw [hb]; exact ⟨_, _, fun _ _ => rfl, h⟩
    | some q =>
      rw [hyp] at h; simp only at h ⊢
      obtain ⟨vs, sz0, hb, hn, h⟩ := ldn_some h
      simp only [ldn, hb, hn, decide_true, cond_true]
      unfold app at h ⊢
      by_cases h0 : y.len = 0
      · simp only [h0, decide_true, cond_true] at h ⊢; exact ⟨_, _, fun _ _ => rfl, h⟩
      · simp only [h0, decide_false, cond_false] at h ⊢
        obtain ⟨hb1, h⟩ := cond_none h
        rw [hb1]
        cases hsp : s'.p with
        | none =>
          rw [hsp] at h; simp only at h ⊢
          obtain ⟨hb2, h⟩ := cond_none h
          rw [hb2]; exact ⟨_, _, fun _ _ => rfl, h⟩
        | some p =>
          rw [hsp] at h; simp only at h ⊢
          split at h
          · rename_i vs0 sz1 hpb
            obtain ⟨hb2, h⟩ := cond_none h
            simp only [cond_true]; rw [hb2]; exact ⟨_, _, fun _ _ => rfl, h⟩
          · simp at h
  case ext x i =>
    obtain ⟨l, hl, h⟩ := asTup_some h
    rw [hl]
    split at h
    · rename_i u hu; refine ⟨_, _, fun _ _ => ?_, h⟩; simp only [asTup, hu]
    · simp at h
  case call g args fresh rt =>
    obtain ⟨v, H1, hc, h⟩ := hS _ _ _ _ _ _ _ h
    exact ⟨v, H1, fun _ κ' => by rw [hc, castTy_eq h], castTy_some h⟩
  case callv x args fresh rt =>
    split at h
    · rename_i g caps hg
      obtain ⟨v, H1, hc, h⟩ := hS _ _ _ _ _ _ _ h
      exact ⟨v, H1, fun _ κ' => by rw [hc, castTy_eq h], castTy_some h⟩
    · simp at h
  case mkf g caps => exact ⟨_, _, fun _ _ => rfl, h⟩
  case nilck x => obtain ⟨p, hp, h⟩ := asP_some h; rw [hp]; exact ⟨_, _, fun _ _ => rfl, h⟩

theorem VR.not_bool_ne {fids : List Nat} {μ : MU} {b : Bool} {c : Value} (h : VR fids μ (.bool b) c) {w : Bool} (hw : b ≠ w) : c ≠ .bool w := by
  rw [h.bool_inv]; intro e; cases e; exact hw rfl

/-- The choice behind a group. -/
theorem pick_run {P : Program} {w : World} {fids : List Nat} {o : Oper} {gt : Nat} {want : Bool} {px : Opd} (hp : pickB fids o.op gt want px = true) (a : Act) {g : Bool} (hg : a.tmps.getD gt undef = .bool g) :
    (g = want → ∃ x, chkOpd fids x px = true ∧ (execOp a.eval o).run P w = .ok (.value (a.eval x)) w) ∧ (g ≠ want → (execOp a.eval o).run P w = .ok (.value (.bool !want)) w) := by
  unfold pickB at hp
  split at hp
  · rename_i c x y hop
    simp only [Bool.and_eq_true, decide_eq_true_eq] at hp
    obtain ⟨rfl, hp⟩ := hp
    have hev : a.eval (.tmp c) = .bool g := hg
    have hexec : (execOp a.eval o).run P w = .ok (.value (if g = true then a.eval x else a.eval y)) w := by
      simp [execOp, hop, hev, asBool]
    cases want with
    | true =>
      simp only [Bool.and_eq_true] at hp
      obtain ⟨h1, h2⟩ := hp
      refine ⟨fun e => ⟨x, h1, by rw [hexec, e]; simp⟩, fun e => ?_⟩
      have : g = false := by simpa using e
      subst this
      rw [hexec]
      split at h2
      · simp at h2; subst h2; simp [Act.eval]
      · simp at h2
    | false =>
      simp only [Bool.and_eq_true] at hp
      obtain ⟨h1, h2⟩ := hp
      refine ⟨fun e => ⟨y, h1, by rw [hexec, e]; simp⟩, fun e => ?_⟩
      have : g = true := by simpa using e
      subst this
      rw [hexec]
      split at h2
      · subst h2; simp [Act.eval]
      · simp at h2
  · simp at hp

variable {Q : Exit → Act → World → Prop}

theorem steps_run (hF : FnsOK C) (hC : CallOK C call) (hS : CallSplit call) (hlo : C.lo0 ≤ lo) : ∀ (ss : Steps) (g : GC) (seen : List Nat) {ρ : Type} (σ : Env) (H : AH) (κ : Env → AH → Option ρ) (r : ρ) (a : Act) (w : World) (μ : MU) (l : List Nat),
    evS call lo ss ρ σ H κ = some r → chkS C ops nt g seen ss = true → Met g a → ER C.fids μ σ a → a.tmps.size = nt → HR C μ H w → lo ≤ H.length →
    (∀ σ' H' a' w' μ', Aft C nt μ H w a ss.dsts σ' H' a' w' μ' → κ σ' H' = some r → wpOps C.P ops Q l a' w') → wpOps C.P ops Q (ss.idxs ++ l) a w
  | .nil, g, seen, _, σ, H, κ, r, a, w, μ, l, h, _, _, hσ, hn, hH, hle, hk => hk σ H a w μ ⟨.refl _, hσ, hn, hH, Below.refl _ _, .refl _ _, rfl, fun _ _ => rfl⟩ h
  | .chk x rest, g, seen, _, σ, H, κ, r, a, w, μ, l, h, hc, hm, hσ, hn, hH, hle, hk => by
    unfold evS at h
    unfold chkS at hc
    obtain ⟨_, h⟩ := cond_none h
    exact steps_run hF hC hS hlo rest g seen σ H κ r a w μ l h hc hm hσ hn hH hle hk
  | .op i d io rest, g, seen, _, σ, H, κ, r, a, w, μ, l, h, hc, hm, hσ, hn, hH, hle, hk => by
    unfold evS at h
    unfold chkS at hc
    split at hc
    · rename_i o hi
      simp only [Bool.and_eq_true, decide_eq_true_eq] at hc
      obtain ⟨⟨⟨⟨⟨h1, h2⟩, h3⟩, h4⟩, h5⟩, h6⟩ := hc
      subst h2
      obtain ⟨v, H1, he, h⟩ := evOp_split hS h
      have hdn : dstB a.tmps.size o.dst = true := by rw [hn]; exact h3
      refine wpOps_run hi (hm.wanted h4) (op_sound hF hC hS hlo hle h1 (he PV pr) hσ hH fun c w1 ⟨μ1, hg⟩ => ?_)
      have hA : Aft C nt μ H w a (dl o.dst) (putO σ o.dst v) H1 (a.put o.dst c) w1 μ1 :=
        ⟨hg.ext, hσ.put hg.ext.ref hg.val hdn, by rw [size_put]; exact hn, hg.hr, hg.below, hg.keep, defs_put _ _ _, fun x hx => by
          rw [memN_dl] at hx; rw [getD_put _ _ _ _ hdn, if_neg (by simpa using hx)]⟩
      have hm1 : Met g (a.put o.dst c) := by
        cases g with
        | none => trivial
        | some p =>
          obtain ⟨gt, want⟩ := p
          have : memN gt (dl o.dst) = false := by simpa [freeB] using h5
          show (a.put o.dst c).tmps.getD gt undef = .bool want
          rw [hA.same gt this]; exact hm
      exact steps_run hF hC hS hlo rest g _ _ H1 κ r _ w1 μ1 l h h6 hm1 hA.er hA.sz hA.hr (Nat.le_trans hle (hA.grow hH)) fun σ' H' a' w' μ' hA' hκ => hk σ' H' a' w' μ' (hA.trans hA') hκ
    · simp at hc
  | .grp gt want inner i pd px rest, g, seen, _, σ, H, κ, r, a, w, μ, l, h, hc, hm, hσ, hn, hH, hle, hk => by
    unfold evS at h
    unfold chkS at hc
    split at hc
    · rename_i o hi
      simp only [Bool.and_eq_true, decide_eq_true_eq, Bool.or_eq_true, Bool.not_eq_true'] at hc
      obtain ⟨⟨⟨⟨⟨⟨⟨⟨h1, h2⟩, h3⟩, h4⟩, h5⟩, h6⟩, h7⟩, h8⟩, h9⟩ := hc
      obtain ⟨gb, hgb, h⟩ := asB_some h
      obtain ⟨q, hq, h⟩ := Option.bind_eq_some_iff.1 h
      have hgv : a.tmps.getD gt undef = .bool gb := by have := hσ gt; rw [hgb] at this; exact this.bool_inv
      rw [Steps.idxs, List.append_assoc, List.cons_append]
      -- behind the choice
      have behind : ∀ (H1 : AH) (a1 : Act) (w1 : World) (μ1 : MU) (b : Bool), q = (b, H1) → Ext μ μ1 → H.length ≤ H1.length → a1.tmps.size = nt → HR C μ1 H1 w1 → Below C.base w w1 → Keep μ H H1 → a1.defers = a.defers →
          (∀ x, memN x inner.dsts = false → a1.tmps.getD x undef = a.tmps.getD x undef) → (execOp a1.eval o).run C.P w1 = .ok (.value (.bool b)) w1 → wpOps C.P ops Q (i :: (rest.idxs ++ l)) a1 w1 := by
        intro H1 a1 w1 μ1 b hqb e1 e1' e2 e3 e4 e5 e6 e7 hex
        subst hqb
        have hdn : dstB a1.tmps.size o.dst = true := by rw [e2, h2]; simpa [dstB] using h3
        have hm1 : Met g a1 := by
          cases g with
          | none => trivial
          | some p =>
            obtain ⟨g0, w0⟩ := p
            have : memN g0 (pd :: inner.dsts) = false := by simpa [freeB] using h5
            rw [memN_cons, Bool.or_eq_false_iff] at this
            show a1.tmps.getD g0 undef = .bool w0
            rw [e7 g0 this.2]; exact hm
        have hA : Aft C nt μ H w a (inner.dsts ++ [pd]) (put (forget σ inner.dsts) pd (.bool b)) H1 (a1.put o.dst (.bool b)) w1 μ1 := by
          refine ⟨e1, fun x => ?_, by rw [size_put]; exact e2, e3, e4, e5, by rw [defs_put]; exact e6, fun x hx => ?_⟩
          · rw [getD_put _ _ _ _ hdn, h2]
            simp only [put]
            cases hx : Nat.beq x pd
            · have : ¬ pd = x := fun e => by subst e; simp at hx
              simp only [cond_false, Option.some.injEq, this, if_false, forget]
              cases hin : memN x inner.dsts
              · simp only [cond_false]; rw [e7 x hin]; exact (hσ x).mono e1.ref
              · exact .unk _
            · have : x = pd := Nat.eq_of_beq_eq_true hx
              subst this
              simpa using VR.bool (fids := C.fids) b
          · rw [memN_app, memN_cons] at hx
            simp only [Bool.or_eq_false_iff, decide_eq_false_iff_not] at hx
            rw [getD_put _ _ _ _ hdn, h2, if_neg (by simpa using Ne.symm hx.2.1)]
            exact e7 x hx.1
        refine wpOps_run hi (hm1.wanted h4) ?_
        unfold Oper.wp
        rw [hex, Oper.upon_value]
        have hm2 : Met g (a1.put o.dst (.bool b)) := by
          cases g with
          | none => trivial
          | some p =>
            obtain ⟨g0, w0⟩ := p
            have : memN g0 (pd :: inner.dsts) = false := by simpa [freeB] using h5
            rw [memN_cons, Bool.or_eq_false_iff] at this
            show (a1.put o.dst (.bool b)).tmps.getD g0 undef = .bool w0
            rw [getD_put _ _ _ _ hdn, h2, if_neg (by intro e; cases e; simp at this)]; exact hm1
        refine steps_run hF hC hS hlo rest g _ _ H1 κ r _ w1 μ1 l h h9 hm2 hA.er hA.sz hA.hr (Nat.le_trans hle e1') fun σ' H' a' w' μ' hA' hκ => hk σ' H' a' w' μ' ?_ hκ
        have := hA.trans hA'
        rw [Steps.dsts]
        rwa [List.append_assoc, List.singleton_append] at this
      by_cases hgw : gb = want
      · subst hgw
        have hif : (bif gb then gb else !gb) = true := by cases gb <;> rfl
        rw [hif, cond_true] at hq
        refine steps_run hF hC hS hlo inner (some (gt, gb)) [] σ H _ q a w μ _ hq h8 hgv hσ hn hH hle fun σ1 H1 a1 w1 μ1 hA hκ => ?_
        obtain ⟨b, hb, hκ⟩ := asB_some hκ
        simp only [Option.some.injEq] at hκ
        have hg1 : a1.tmps.getD gt undef = .bool gb := by rw [hA.same gt h6]; exact hgv
        obtain ⟨x, hx, hex⟩ := (pick_run (P := C.P) (w := w1) h1 a1 hg1).1 rfl
        have vx := chkOpd_sound hx hA.er
        rw [hb] at vx
        rw [vx.bool_inv] at hex
        exact behind H1 a1 w1 μ1 b hκ.symm hA.ext (hA.grow hH) hA.sz hA.hr hA.below hA.keep hA.defs hA.same hex
      · have hif : (bif want then gb else !gb) = false := by cases gb <;> cases want <;> simp at hgw ⊢
        rw [hif, cond_false] at hq
        simp only [Option.some.injEq] at hq
        refine steps_skip inner gt want [] a _ h8 hn (by rw [hgv]; intro e; cases e; exact hgw rfl) (fun d hd => by simp [memN] at hd) fun a1 g1 g2 g3 g4 => ?_
        have hg1 : a1.tmps.getD gt undef = .bool gb := by rw [g3 gt h6]; exact hgv
        exact behind H a1 w μ (!want) hq.symm (.refl _) (Nat.le_refl _) g1 hH (Below.refl _ _) (.refl _ _) g2 g3 ((pick_run (P := C.P) (w := w) h1 a1 hg1).2 hgw)
    · simp at hc
end
end Go.Ab

/- Control: lists of what is to be done, by numbers; from a list's beginning to a function's end. -/
set_option linter.unusedSimpArgs false
set_option linter.unusedVariables false
namespace Go.Ab
open Go Go.RowKit

def csize : Code → Nat
  | .seq a b => csize a + csize b + 1
  | .cond _ a b => csize a + csize b + 1
  | .block _ b => csize b + 1
  | .loop b => csize b + 1
  | _ => 1
/-- The part of the code with this number (numbers in the order of the text). -/
def codeAt : Code → Nat → Option Code
  | c, 0 => some c
  | .seq a b, n + 1 => bif decide (n < csize a) then codeAt a n else codeAt b (n - csize a)
  | .cond _ a b, n + 1 => bif decide (n < csize a) then codeAt a n else codeAt b (n - csize a)
  | .block _ b, n + 1 => codeAt b n
  | .loop b, n + 1 => codeAt b n
  | _, _ + 1 => none

theorem csize_pos (c : Code) : 0 < csize c := by cases c <;> simp [csize]
theorem codeAt_add : ∀ (c : Code) (n : Nat) (d : Code), codeAt c n = some d → ∀ m, m < csize d → codeAt c (n + m) = codeAt d m ∧ n + m < csize c := by
  intro c
  induction c with
  | seq a b iha ihb =>
    intro n d h m hm
    cases n with
    | zero => simp only [codeAt, Option.some.injEq] at h; subst h; simpa using hm
    | succ n =>
      simp only [codeAt] at h
      by_cases hn : n < csize a
      · simp only [hn, decide_true, cond_true] at h
        obtain ⟨h1, h2⟩ := iha n d h m hm
        rw [show n + 1 + m = (n + m) + 1 by omega]
        simp only [codeAt, h2, decide_true, cond_true, csize]
        exact ⟨h1, by omega⟩
      · simp only [hn, decide_false, cond_false] at h
        obtain ⟨h1, h2⟩ := ihb _ d h m hm
        rw [show n + 1 + m = (n + m) + 1 by omega]
        have : ¬ n + m < csize a := by omega
        simp only [codeAt, this, decide_false, cond_false, csize]
        rw [show n + m - csize a = n - csize a + m by omega]
        exact ⟨h1, by omega⟩
  | cond x a b iha ihb =>
    intro n d h m hm
    cases n with
    | zero => simp only [codeAt, Option.some.injEq] at h; subst h; simpa using hm
    | succ n =>
      simp only [codeAt] at h
      by_cases hn : n < csize a
      · simp only [hn, decide_true, cond_true] at h
        obtain ⟨h1, h2⟩ := iha n d h m hm
        rw [show n + 1 + m = (n + m) + 1 by omega]
        simp only [codeAt, h2, decide_true, cond_true, csize]
        exact ⟨h1, by omega⟩
      · simp only [hn, decide_false, cond_false] at h
        obtain ⟨h1, h2⟩ := ihb _ d h m hm
        rw [show n + 1 + m = (n + m) + 1 by omega]
        have : ¬ n + m < csize a := by omega
        simp only [codeAt, this, decide_false, cond_false, csize]
        rw [show n + m - csize a = n - csize a + m by omega]
        exact ⟨h1, by omega⟩
  | block x b ihb =>
    intro n d h m hm
    cases n with
    | zero => simp only [codeAt, Option.some.injEq] at h; subst h; simpa using hm
    | succ n =>
      simp only [codeAt] at h
      obtain ⟨h1, h2⟩ := ihb _ d h m hm
      rw [show n + 1 + m = (n + m) + 1 by omega]
      simp only [codeAt, csize]
      exact ⟨h1, by omega⟩
  | loop b ihb =>
    intro n d h m hm
    cases n with
    | zero => simp only [codeAt, Option.some.injEq] at h; subst h; simpa using hm
    | succ n =>
      simp only [codeAt] at h
      obtain ⟨h1, h2⟩ := ihb _ d h m hm
      rw [show n + 1 + m = (n + m) + 1 by omega]
      simp only [codeAt, csize]
      exact ⟨h1, by omega⟩
  | _ =>
    intro n d h m hm
    cases n with
    | zero => simp only [codeAt, Option.some.injEq] at h; subst h; simpa using hm
    | succ n => simp [codeAt] at h

def itemAt (body : Code) : At → Option Item
  | .code n => (codeAt body n).map .code
  | .inBlock n => (match codeAt body n with | some (.block id _) => some (.inBlock id) | _ => none)
  | .inLoop n => (match codeAt body n with | some (.loop b) => some (.inLoop b) | _ => none)
def Its (body : Code) : List At → List Item → Prop
  | [], [] => True
  | x :: xs, y :: ys => itemAt body x = some y ∧ Its body xs ys
  | _, _ => False

def exitAt (body : Code) (id : Nat) : List At → Option (List At)
  | [] => none
  | .inBlock n :: k => (match codeAt body n with | some (.block id' _) => bif Nat.beq id' id then some k else exitAt body id k | _ => none)
  | _ :: k => exitAt body id k
/-- One step that does nothing but go on. -/
def adv (body : Code) : List At → Option (List At)
  | [] => none
  | .inBlock _ :: k => some k
  | .inLoop n :: k => some (.code (n + 1) :: .inLoop n :: k)
  | .code n :: k =>
    match codeAt body n with
    | some (.seq a _) => some (.code (n + 1) :: .code (n + 1 + csize a) :: k)
    | some .skip => some k
    | some (.block _ _) => some (.code (n + 1) :: .inBlock n :: k)
    | some (.loop _) => some (.code (n + 1) :: .inLoop n :: k)
    | some (.exit id) => exitAt body id k
    | _ => none
def normT (body : Code) : Nat → List At → List At
  | 0, t => t
  | f + 1, t => (match adv body t with | some t' => normT body f t' | none => t)

/-- From this list on the function comes to its end. -/
def TW (P : Program) (f : FuncId) (todo : List Item) (a : Act) (w : World) (R : Value → World → Prop) : Prop :=
  ∀ (b : Frame) (cs : List Frame), b.fn = f → b.kind = .normal → ∃ v w' fr, R v w' ∧ Go.Steps P (lone (b.at a todo) cs w) (lone fr cs w') ∧ fr.fn = f ∧ fr.leaving P w' (.returned v)

theorem TW.step {P : Program} {f : FuncId} {t t' : List Item} {a : Act} {w : World} {R : Value → World → Prop} (h : TW P f t' a w R) (hs : ∀ (b : Frame) (cs : List Frame), step P (lone (b.at a t) cs w) = .next (lone (b.at a t') cs w)) : TW P f t a w R :=
  fun b cs hb hk => let ⟨v, w', fr, h1, h2, h3⟩ := h b cs hb hk; ⟨v, w', fr, h1, .head (hs b cs) h2, h3⟩
theorem TW.mono {P : Program} {f : FuncId} {t : List Item} {a : Act} {w : World} {R R' : Value → World → Prop} (h : TW P f t a w R) (hr : ∀ v w', R v w' → R' v w') : TW P f t a w R' :=
  fun b cs hb hk => let ⟨v, w', fr, h1, h2⟩ := h b cs hb hk; ⟨v, w', fr, hr _ _ h1, h2⟩

theorem TW.region {P : Program} {f : FuncId} {id : Nat} {ops : Array Oper} {draw : Bool} {k : List Item} {a : Act} {w : World} {R : Value → World → Prop}
    (h : (Code.region id ops draw).wp P (fun e a' w' => e = .normal ∧ TW P f k a' w' R) a w) : TW P f (.code (.region id ops draw) :: k) a w R := by
  intro b cs hb hk
  obtain ⟨e, a', w', ⟨rfl, ht⟩, harr⟩ := h b k cs
  obtain ⟨v, w2, fr, h1, h2, h3⟩ := ht b cs hb hk
  exact ⟨v, w2, fr, h1, Go.Steps.trans harr h2, h3⟩

theorem TW.done {P : Program} {f : FuncId} {fn : Func} {t : List Item} {a : Act} {w : World} {R : Value → World → Prop} {v : Value} (ht : t = [] ∨ ∃ k, t = .code .ret :: k) (hf : P.funcs[f]? = some fn) (hd : a.defers = [])
    (hr : (results fn a.tmps).run P w = .ok v w) (hR : R v w) : TW P f t a w R := by
  intro b cs hb hk
  rcases ht with rfl | ⟨k, rfl⟩
  · exact ⟨v, w, { b.at a [] with mode := .returning }, hR, .one step_end, hb, rfl, hd, hk, fn, by rw [← hb] at hf; exact hf, hr⟩
  · exact ⟨v, w, { b.at a (.code .ret :: k) with mode := .returning }, hR, .one step_ret, hb, rfl, hd, hk, fn, by rw [← hb] at hf; exact hf, hr⟩

theorem Its.exit {body : Code} {id : Nat} : ∀ {xs xs' : List At} {ys : List Item}, Its body xs ys → exitAt body id xs = some xs' → ∃ ys', exitTo id ys = some ys' ∧ Its body xs' ys'
  | [], _, _, _, h => by simp [exitAt] at h
  | .inBlock n :: k, xs', [], hi, _ => hi.elim
  | .inBlock n :: k, xs', y :: ys, hi, h => by
    obtain ⟨h1, h2⟩ := hi
    simp only [exitAt] at h
    simp only [itemAt] at h1
    split at h
    · rename_i id' b' hc
      rw [hc] at h1
      simp only [Option.some.injEq] at h1
      subst h1
      cases hb : Nat.beq id' id
      · rw [hb] at h; simp only [cond_false] at h
        obtain ⟨ys', g1, g2⟩ := Its.exit h2 h
        have hne : (id' == id) = false := by
          cases he : id' == id
          · rfl
          · have : id' = id := by simpa using he
            subst this; simp at hb
        exact ⟨ys', by simp [exitTo, hne, g1], g2⟩
      · rw [hb] at h; simp only [cond_true, Option.some.injEq] at h
        subst h
        have : id' = id := Nat.eq_of_beq_eq_true hb
        subst this
        exact ⟨ys, by simp [exitTo], h2⟩
    · simp at h
  | .code n :: k, xs', [], hi, _ => hi.elim
  | .code n :: k, xs', y :: ys, hi, h => by
    obtain ⟨h1, h2⟩ := hi
    simp only [exitAt] at h
    obtain ⟨ys', g1, g2⟩ := Its.exit h2 h
    simp only [itemAt, Option.map_eq_some_iff] at h1
    obtain ⟨c, _, rfl⟩ := h1
    exact ⟨ys', by simp [exitTo, g1], g2⟩
  | .inLoop n :: k, xs', [], hi, _ => hi.elim
  | .inLoop n :: k, xs', y :: ys, hi, h => by
    obtain ⟨h1, h2⟩ := hi
    simp only [exitAt] at h
    obtain ⟨ys', g1, g2⟩ := Its.exit h2 h
    simp only [itemAt] at h1
    split at h1
    · simp only [Option.some.injEq] at h1; subst h1; exact ⟨ys', by simp [exitTo, g1], g2⟩
    · simp at h1

theorem adv_sound {P : Program} {f : FuncId} {body : Code} {xs xs' : List At} {a : Act} {w : World} {R : Value → World → Prop} (h : adv body xs = some xs') {ys : List Item} (hi : Its body xs ys) :
    ∃ ys', Its body xs' ys' ∧ (TW P f ys' a w R → TW P f ys a w R) := by
  cases xs with
  | nil => simp [adv] at h
  | cons x k =>
    cases ys with
    | nil => exact hi.elim
    | cons y ys =>
      obtain ⟨h1, h2⟩ := hi
      cases x with
      | inBlock n =>
        simp only [adv, Option.some.injEq] at h; subst h
        simp only [itemAt] at h1
        split at h1
        · simp only [Option.some.injEq] at h1; subst h1
          exact ⟨ys, h2, fun t => t.step fun b cs => step_inBlock⟩
        · simp at h1
      | inLoop n =>
        simp only [adv, Option.some.injEq] at h; subst h
        have h1' := h1
        simp only [itemAt] at h1
        split at h1
        · rename_i b' hc
          simp only [Option.some.injEq] at h1; subst h1
          have := (codeAt_add body n _ hc 1 (by simp [csize]; exact csize_pos _)).1
          exact ⟨.code b' :: .inLoop b' :: ys, ⟨by simp only [itemAt, this, codeAt]; rfl, h1', h2⟩, fun t => t.step fun b cs => step_inLoop⟩
        · simp at h1
      | code n =>
        simp only [itemAt, Option.map_eq_some_iff] at h1
        obtain ⟨c, hc, rfl⟩ := h1
        simp only [adv, hc] at h
        cases c <;> simp only [reduceCtorEq, Option.some.injEq] at h
        case skip => subst h; exact ⟨ys, h2, fun t => t.step fun b cs => step_skip⟩
        case seq p q =>
          subst h
          have e1 := (codeAt_add body n _ hc 1 (by simp [csize]; have := csize_pos p; omega)).1
          have e2 := (codeAt_add body n _ hc (1 + csize p) (by simp [csize]; have := csize_pos q; omega)).1
          rw [show n + (1 + csize p) = n + 1 + csize p by omega] at e2
          refine ⟨.code p :: .code q :: ys, ⟨?_, ?_, h2⟩, fun t => t.step fun b cs => step_seq⟩
          · simp only [itemAt, e1, codeAt]; simp [csize_pos p]
          · simp only [itemAt, e2]; rw [Nat.add_comm 1]; simp [codeAt]
        case block id b' =>
          subst h
          have e1 := (codeAt_add body n _ hc 1 (by simp [csize]; exact csize_pos _)).1
          refine ⟨.code b' :: .inBlock id :: ys, ⟨?_, by simp only [itemAt, hc], h2⟩, fun t => t.step fun b cs => step_block⟩
          simp only [itemAt, e1, codeAt]; rfl
        case loop b' =>
          subst h
          have e1 := (codeAt_add body n _ hc 1 (by simp [csize]; exact csize_pos _)).1
          refine ⟨.code b' :: .inLoop b' :: ys, ⟨?_, by simp only [itemAt, hc], h2⟩, fun t => t.step fun b cs => step_loop⟩
          simp only [itemAt, e1, codeAt]; rfl
        case exit id =>
          obtain ⟨ys', g1, g2⟩ := Its.exit h2 h
          exact ⟨ys', g2, fun t => t.step fun b cs => step_exit g1⟩

theorem norm_sound {P : Program} {f : FuncId} {body : Code} {a : Act} {w : World} {R : Value → World → Prop} : ∀ (n : Nat) {xs : List At} {ys : List Item}, Its body xs ys →
    ∃ ys', Its body (normT body n xs) ys' ∧ (TW P f ys' a w R → TW P f ys a w R) := by
  intro n
  induction n with
  | zero => intro xs ys hi; exact ⟨ys, hi, id⟩
  | succ n ih =>
    intro xs ys hi
    unfold normT
    cases ha : adv body xs with
    | none => exact ⟨ys, hi, id⟩
    | some xs' =>
      obtain ⟨ys1, h1, h2⟩ := adv_sound (P := P) (f := f) (a := a) (w := w) (R := R) ha hi
      obtain ⟨ys2, h3, h4⟩ := ih h1
      exact ⟨ys2, h3, fun t => h2 (h4 t)⟩
theorem Its.uniq {body : Code} : ∀ {xs : List At} {ys zs : List Item}, Its body xs ys → Its body xs zs → ys = zs
  | [], [], [], _, _ => rfl
  | x :: xs, y :: ys, z :: zs, ⟨h1, h2⟩, ⟨h3, h4⟩ => by rw [h1] at h3; cases h3; rw [Its.uniq h2 h4]
  | [], _ :: _, _, h, _ => h.elim
  | [], [], _ :: _, _, h => h.elim
  | _ :: _, [], _, h, _ => h.elim
  | _ :: _, _ :: _, [], _, h => h.elim
end Go.Ab
