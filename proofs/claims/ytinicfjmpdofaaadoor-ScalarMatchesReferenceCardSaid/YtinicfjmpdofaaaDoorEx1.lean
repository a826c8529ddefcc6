/- An evaluator of Go functions in the model's form, and the proof that a call comes to what it answers, whatever the memory and the orders (part 1). No condition. -/
import Derived.Orders
import Derived.LoopN
import Derived.Scope
import Derived.Below
import Derived.Laws.StructEq
import Derived.Laws.Rows
import Derived.Lib.ConvBytes
set_option linter.unusedVariables false
set_option linter.unusedSimpArgs false
namespace Go.Ex
open Go Go.RowKit

/-- Where a block of the evaluator lies: a real block, its first cell, the capacity in elements. -/
structure Loc where
  r : Nat
  base : Nat
  c : Nat

abbrev Inj := Nat → Option Loc

/-- The evaluator's values. -/
inductive V where
  | bool (b : Bool)
  | int (k : IntKind) (n : Int)
  | str (s : ByteArray)
  | ptr (b off : Nat)
  | gptr (g off : Nat)
  | nilptr
  | slice (b off len sz : Nat)
  | nilslice
  | func (f : FuncId) (caps : List V)
  | nilfunc
  | iface (t : TypeId) (v : V)
  | niliface
  | agg (vs : List V)
  | tuple (vs : List V)
  | any
  deriving Inhabited

mutual
/-- A value of the evaluator stands for a value of the model. -/
def V.rel (ι : Inj) : V → Value → Prop
  | .bool b, x => x = .bool b
  | .int k n, x => x = .int k n
  | .str s, x => x = .string s
  | .ptr b off, x => ∃ l, ι b = some l ∧ x = .pointer (some ⟨l.r, l.base + off, none⟩)
  | .gptr g off, x => x = .pointer (some ⟨g, off, none⟩)
  | .nilptr, x => x = .pointer none
  | .slice b off len sz, x => ∃ l a cap, ι b = some l ∧ off + len ≤ l.c ∧ x = .slice (some a) len cap ∧
      ((a = ⟨l.r, l.base + off * sz, none⟩ ∧ cap = l.c - off) ∨ (len = 0 ∧ cap = 0 ∧ off = l.c))
  | .nilslice, x => x = .slice none 0 0
  | .func f caps, x => ∃ ys, x = .func (.func f) #[] ys.toArray ∧ V.relL ι caps ys
  | .nilfunc, x => x = .nilFunc
  | .iface t v, x => ∃ y, x = .iface t y ∧ V.rel ι v y
  | .niliface, x => x = .nilIface
  | .agg vs, x => ∃ ys, x = .agg ys.toArray ∧ V.relL ι vs ys
  | .tuple vs, x => ∃ ys, x = .tuple ys.toArray ∧ V.relL ι vs ys
  | .any, x => x.oneCell' = true
def V.relL (ι : Inj) : List V → List Value → Prop
  | [], ys => ys = []
  | v :: vs, ys => ∃ x xs, ys = x :: xs ∧ V.rel ι v x ∧ V.relL ι vs xs
end

mutual
/-- All block numbers in a value are below n. -/
def V.under (n : Nat) : V → Bool
  | .ptr b _ => Nat.blt b n
  | .slice b _ _ _ => Nat.blt b n
  | .func _ caps => V.underL n caps
  | .iface _ v => V.under n v
  | .agg vs => V.underL n vs
  | .tuple vs => V.underL n vs
  | _ => true
def V.underL (n : Nat) : List V → Bool
  | [] => true
  | v :: vs => V.under n v && V.underL n vs
end

/-- The value that a value without blocks stands for. -/
def V.val1 : V → Option Value
  | .bool b => some (.bool b)
  | .int k n => some (.int k n)
  | .str s => some (.string s)
  | .nilptr => some (.pointer none)
  | .nilslice => some (.slice none 0 0)
  | .nilfunc => some .nilFunc
  | .niliface => some .nilIface
  | _ => none
def V.val1L : List V → Option (List Value)
  | [] => some []
  | v :: vs => match v.val1, V.val1L vs with | some x, some xs => some (x :: xs) | _, _ => none
def V.val : V → Option Value
  | .agg vs => match V.val1L vs with | some xs => some (.agg xs.toArray) | none => none
  | .tuple vs => match V.val1L vs with | some xs => some (.tuple xs.toArray) | none => none
  | v => v.val1
def V.valT : V → Option Value
  | .tuple vs => match valsL vs with | some xs => some (.tuple xs.toArray) | none => none
  | v => v.val
where valsL : List V → Option (List Value)
  | [] => some []
  | v :: vs => match v.val, valsL vs with | some x, some xs => some (x :: xs) | _, _ => none
def V.vals : List V → Option (List Value)
  | [] => some []
  | v :: vs => match v.val, V.vals vs with | some x, some xs => some (x :: xs) | _, _ => none

def ofVal1 : Value → Option V
  | .bool b => some (.bool b)
  | .int k n => some (.int k n)
  | .string s => some (.str s)
  | .pointer none => some .nilptr
  | .slice none 0 0 => some .nilslice
  | .nilFunc => some .nilfunc
  | .nilIface => some .niliface
  | _ => none
def ofVal1L : List Value → Option (List V)
  | [] => some []
  | v :: vs => match ofVal1 v, ofVal1L vs with | some x, some xs => some (x :: xs) | _, _ => none
def ofVal : Value → Option V
  | .agg ⟨cs⟩ => match ofVal1L cs with | some xs => some (.agg xs) | none => none
  | .tuple ⟨cs⟩ => match ofVal1L cs with | some xs => some (.tuple xs) | none => none
  | v => ofVal1 v

def V.cells : V → List V
  | .agg vs => vs
  | v => [v]
def V.one : V → Bool
  | .agg _ => false
  | .tuple _ => false
  | _ => true

/-- A block: its cells as far as they are known, the type of an element, whether it is never written. -/
structure Blk where
  cells : List V
  elem : TypeId
  ro : Bool := false

abbrev Mem := List (Nat × Blk)
def look : Mem → Nat → Option Blk
  | [], _ => none
  | (i, k) :: m, b => bif Nat.beq i b then some k else look m b
def setM : Mem → Nat → Option Blk → Mem
  | [], _, none => []
  | [], b, some k => [(b, k)]
  | (i, k0) :: m, b, none => bif Nat.beq i b then setM m b none else (i, k0) :: setM m b none
  | (i, k0) :: m, b, some k => bif Nat.beq i b then (i, k) :: m else (i, k0) :: setM m b (some k)
abbrev Upd := List (Nat × Option Blk)
def appU (m : Mem) : Upd → Mem
  | [] => m
  | (b, u) :: us => setM (appU m us) b u
def lookU : Upd → Nat → Option (Option Blk)
  | [], _ => none
  | (i, u) :: us, b => bif Nat.beq i b then some u else lookU us b
/-- What an operation does: its value, the blocks that it makes, writes or lets go, the next number. -/
structure Eff where
  v : V
  upd : Upd
  nx : Nat

abbrev Tm := List (Option V)
def getT : Tm → Nat → Option V
  | [], _ => none
  | x :: _, 0 => x
  | _ :: xs, n + 1 => getT xs n
def setT : Tm → Nat → V → Tm
  | [], _, _ => []
  | _ :: xs, 0, v => some v :: xs
  | x :: xs, n + 1, v => x :: setT xs n v
def putT (t : Tm) : Option Tmp → V → Tm
  | none, _ => t
  | some d, v => setT t d v

structure St where
  tm : Tm
  m : Mem
  nx : Nat

/-- A computation that may branch on a truth value. -/
inductive Tree (α : Type) where
  | fail
  | ret (a : α)
  | ite (b : Bool) (t e : Tree α)
def Tree.bind {α β : Type} : Tree α → (α → Tree β) → Tree β
  | .fail, _ => .fail
  | .ret a, f => f a
  | .ite b t e, f => .ite b (t.bind f) (e.bind f)
def Tree.run {α : Type} : Tree α → Option α
  | .fail => none
  | .ret a => some a
  | .ite b t e => bif b then t.run else e.run
def Tree.ofO {α : Type} : Option α → Tree α
  | none => .fail
  | some a => .ret a

theorem Tree.run_bind {α β : Type} (t : Tree α) (f : α → Tree β) : (t.bind f).run = t.run.bind fun a => (f a).run := by
  induction t with
  | fail => rfl
  | ret a => rfl
  | ite b t e ht he => cases b <;> simp [Tree.bind, Tree.run, ht, he]
theorem Tree.run_ofO {α : Type} (o : Option α) : (Tree.ofO o).run = o := by cases o <;> rfl
theorem Tree.run_ite {α : Type} (b : Bool) (t e : Tree α) : (Tree.ite b t e).run = if b = true then t.run else e.run := by cases b <;> rfl

structure Cfg where
  P : Program
  G : Nat → Option (List V × TypeId)
  O : FuncId → List V → List (Nat × Blk) → Option (Bool × V)
  eqT : TypeId → Bool

def evO (tm : Tm) : Operand → Option V
  | .tmp t => getT tm t
  | .const v => ofVal v
  | .global g => some (.gptr g 0)
  | .func f => some (.func f [])
def evL (ev : Operand → Option V) : List Operand → Option (List V)
  | [] => some []
  | x :: xs => match ev x, evL ev xs with | some v, some vs => some (v :: vs) | _, _ => none

def aggB (P : Program) (t : TypeId) : Option Bool :=
  match P.underlying t with
  | some (.struct _) => some true
  | some (.array _ _) => some true
  | some _ => some false
  | none => none
def sizeB (P : Program) (t : TypeId) : Option Nat := match P.info? t with | some i => some i.size | none => none
def zeroB (P : Program) (t : TypeId) : Option V := match P.info? t with | some i => (match i.zero with | some z => ofVal z | none => none) | none => none
def nth : List V → Nat → Option V
  | [], _ => none
  | x :: _, 0 => some x
  | _ :: xs, n + 1 => nth xs n
def takeV : Nat → List V → List V
  | 0, _ => []
  | _ + 1, [] => []
  | n + 1, x :: xs => x :: takeV n xs
def dropV : Nat → List V → List V
  | 0, xs => xs
  | _ + 1, [] => []
  | n + 1, _ :: xs => dropV n xs
def partV (P : Program) (t : TypeId) (cs : List V) (off : Nat) : Option V :=
  match aggB P t, sizeB P t with
  | some true, some n => some (.agg (takeV n (dropV off cs)))
  | some false, some _ => nth cs off
  | _, _ => none
def allOne : List V → Bool
  | [] => true
  | v :: vs => v.one && allOne vs

/-- What a variable of a type in a row of cells holds. -/
def readV (P : Program) (t : TypeId) (cs : List V) (off : Nat) : Option V :=
  match aggB P t, sizeB P t with
  | some true, some n => bif Nat.ble (off + n) cs.length then some (.agg (takeV n (dropV off cs))) else none
  | some false, some _ => nth cs off
  | _, _ => none
/-- A row of cells after a variable has been written. -/
def writeV (P : Program) (t : TypeId) (cs : List V) (off : Nat) (v : V) : Option (List V) :=
  match sizeB P t with
  | some n => bif Nat.beq v.cells.length n && allOne v.cells && Nat.ble (off + n) cs.length then some (takeV off cs ++ (v.cells ++ dropV (off + n) cs)) else none
  | none => none

def pureE (nx : Nat) (v : V) : Eff := ⟨v, [], nx⟩
/-- A new block that holds a variable (or c elements) of a type. -/
def newE (P : Program) (nx : Nat) (t : TypeId) (c : Nat) (cs : List V) (v : V) : Tree Eff :=
  match sizeB P t with
  | some n => bif Nat.beq cs.length (c * n) && allOne cs then .ret ⟨v, [(nx, some ⟨cs, t, false⟩)], nx + 1⟩ else .fail
  | none => .fail

def evInt (op : BinOp) (k : IntKind) (a b : Int) : Tree V :=
  match op with
  | .add => .ret (.int k (k.wrap (a + b)))
  | .sub => .ret (.int k (k.wrap (a - b)))
  | .mul => .ret (.int k (k.wrap (a * b)))
  | .quo => .ite (b == 0) .fail (.ret (.int k (k.wrap (a.tdiv b))))
  | .rem => .ite (b == 0) .fail (.ret (.int k (a.tmod b)))
  | .and => .ret (.int k (k.wrap (BitVec.ofInt k.bits a &&& BitVec.ofInt k.bits b).toNat))
  | .or => .ret (.int k (k.wrap (BitVec.ofInt k.bits a ||| BitVec.ofInt k.bits b).toNat))
  | .xor => .ret (.int k (k.wrap (BitVec.ofInt k.bits a ^^^ BitVec.ofInt k.bits b).toNat))
  | .andNot => .ret (.int k (k.wrap (BitVec.ofInt k.bits a &&& ~~~ BitVec.ofInt k.bits b).toNat))
  | .eql => .ret (.bool (a == b))
  | .neq => .ret (.bool (a != b))
  | .lss => .ret (.bool (decide (a < b)))
  | .leq => .ret (.bool (decide (a ≤ b)))
  | .gtr => .ret (.bool (decide (a > b)))
  | .geq => .ret (.bool (decide (a ≥ b)))
  | _ => .fail
def evShift (op : BinOp) (k : IntKind) (a b : Int) : Tree V :=
  match op with
  | .shl => .ite (decide (b < 0)) .fail (.ret (.int k (k.wrap (a * 2 ^ (min b.toNat k.bits)))))
  | .shr => .ite (decide (b < 0)) .fail (.ret (.int k (a.fdiv (2 ^ (min b.toNat k.bits)))))
  | _ => .fail
/-- Two strings in one, a part of a string, as lists of bytes. -/
def catB (x y : ByteArray) : ByteArray := ⟨⟨x.data.toList ++ y.data.toList⟩⟩
def subB (s : ByteArray) (l h : Nat) : ByteArray := ⟨⟨(s.data.toList.drop l).take (h - l)⟩⟩
def evStr (op : BinOp) (x y : ByteArray) : Tree V :=
  match op with
  | .add => .ite (decide (((x.size + y.size : Nat) : Int) > IntKind.i64.max)) .fail (.ret (.str (catB x y)))
  | .eql => .ret (.bool (x.data.toList == y.data.toList))
  | .neq => .ret (.bool !(x.data.toList == y.data.toList))
  | .lss => .ret (.bool (Op.bytesLess x.data.toList y.data.toList))
  | .leq => .ret (.bool (Op.bytesLess x.data.toList y.data.toList || x.data.toList == y.data.toList))
  | .gtr => .ret (.bool !(Op.bytesLess x.data.toList y.data.toList || x.data.toList == y.data.toList))
  | .geq => .ret (.bool !(Op.bytesLess x.data.toList y.data.toList))
  | _ => .fail
def eqF (P : Program) (eq : TypeId → V → V → Option Bool) (xs ys : List V) : List Field → Option Bool
  | [] => some true
  | f :: fs =>
    if f.name = "_" then none else
    match partV P f.type xs f.offset, partV P f.type ys f.offset with
    | some a, some b => match eq f.type a b, eqF P eq xs ys fs with
      | some r, some s => some (r && s)
      | _, _ => none
    | _, _ => none
/-- '==' on what has no interface and no pointer but nil in it. -/
def evEq (C : Cfg) : Nat → TypeId → V → V → Option Bool
  | 0, _, _, _ => none
  | d + 1, t, x, y =>
    match C.P.underlying t, x, y with
    | some .bool, .bool a, .bool b => some (a == b)
    | some (.int _), .int k a, .int k' b => if k = k' then some (a == b) else none
    | some .string, .str a, .str b => some (a.data.toList == b.data.toList)
    | some (.struct fs), .agg xs, .agg ys => if C.eqT t then eqF C.P (evEq C d) xs ys fs.toList else none
    | some (.slice _), .nilslice, .nilslice => some true
    | some (.slice _), .nilslice, .slice .. => some false
    | some (.slice _), .slice .., .nilslice => some false
    | some (.pointer _), .nilptr, .nilptr => some true
    | some (.pointer _), .nilptr, .ptr .. => some false
    | some (.pointer _), .ptr .., .nilptr => some false
    | some (.interface _), .niliface, .niliface => some true
    | some (.interface _), .niliface, .iface .. => some false
    | some (.interface _), .iface .., .niliface => some false
    | some (.interface _), .iface tx vx, .iface ty vy => if tx = ty then (match C.P.info? tx with | some i => if i.comparable = true then evEq C d tx vx vy else none | none => none) else some false
    | _, _, _ => none
def isConst : Operand → Bool
  | .const _ => true
  | _ => false
def guardOk (cst : Bool) : V → V → Bool
  | .niliface, .niliface => cst
  | _, _ => true
def evBin (C : Cfg) (op : BinOp) (t : TypeId) (cst : Bool) (x y : V) : Tree V :=
  match x, y with
  | .int k a, .int k' b =>
    match op with
    | .shl => evShift .shl k a b
    | .shr => evShift .shr k a b
    | op => if k = k' then evInt op k a b else .fail
  | .str a, .str b => evStr op a b
  | x, y =>
    match op with
    | .eql => bif guardOk cst x y then (match evEq C 20 t x y with | some b => .ret (.bool b) | none => .fail) else .fail
    | .neq => bif guardOk cst x y then (match evEq C 20 t x y with | some b => .ret (.bool !b) | none => .fail) else .fail
    | _ => .fail
def evUn (op : UnOp) (x : V) : Tree V :=
  match op, x with
  | .neg, .int k n => .ret (.int k (k.wrap (0 - n)))
  | .xor, .int k n => .ret (.int k (k.wrap (BitVec.ofInt k.bits (if k.signed then -1 else k.max) ^^^ BitVec.ofInt k.bits n).toNat))
  | .not, .bool b => .ret (.bool !b)
  | _, _ => .fail
def evConv (P : Program) (src dst : TypeId) (x : V) : Tree V :=
  match P.underlying src, P.underlying dst, x with
  | some _, some (.int k), .int _ n => .ret (.int k (k.wrap n))
  | some _, some .string, .str s => .ret (.str s)
  | _, _, _ => .fail
def evFieldAddr (P : Program) (t : TypeId) (x : V) (f : Nat) : Option V :=
  match P.underlying t with
  | some (.struct fs) =>
    match fs[f]? with
    | some fd =>
      match sizeB P fd.type with
      | some (_ + 1) =>
        match x with
        | .ptr b off => some (.ptr b (off + fd.offset))
        | .gptr g off => some (.gptr g (off + fd.offset))
        | _ => none
      | _ => none
    | none => none
  | _ => none
def evField (P : Program) (t : TypeId) (x : V) (f : Nat) : Option V :=
  match P.underlying t, x with
  | some (.struct fs), .agg cs =>
    match fs[f]? with
    | some fd => partV P fd.type cs fd.offset
    | none => none
  | _, _ => none
def evIndexAddr (P : Program) (t : TypeId) (x i : V) : Tree V :=
  match i with
  | .int _ n =>
    match P.underlying t, x with
    | some (.array len elem), .ptr b off =>
      match sizeB P elem with
      | some sz => .ite (decide (0 ≤ n ∧ n < len)) (.ret (.ptr b (off + n.toNat * sz))) .fail
      | none => .fail
    | some (.array len elem), .gptr g off =>
      match sizeB P elem with
      | some sz => .ite (decide (0 ≤ n ∧ n < len)) (.ret (.gptr g (off + n.toNat * sz))) .fail
      | none => .fail
    | some (.slice elem), .slice b off len sz =>
      match sizeB P elem with
      | some sz' => bif Nat.beq sz sz' then .ite (decide (0 ≤ n ∧ n < len)) (.ret (.ptr b (off * sz + n.toNat * sz))) .fail else .fail
      | none => .fail
    | _, _ => .fail
  | _ => .fail
def evIndex (P : Program) (t : TypeId) (x i : V) : Tree V :=
  match i with
  | .int _ n =>
    match P.underlying t, x with
    | some (.array len elem), .agg cs =>
      match sizeB P elem with
      | some sz => .ite (decide (0 ≤ n ∧ n < len)) (match partV P elem cs (n.toNat * sz) with | some v => .ret v | none => .fail) .fail
      | none => .fail
    | some .string, .str s => .ite (decide (0 ≤ n ∧ n.toNat < s.size)) (.ret (.int .u8 ((s.data.toList.getD n.toNat 0).toNat : Int))) .fail
    | _, _ => .fail
  | _ => .fail
def evExtract (x : V) (i : Nat) : Option V :=
  match x with
  | .tuple vs => nth vs i
  | _ => none
/-- The cells of a literal: its parts laid into the zero value. -/
def fillV (place : Nat → Option (Nat × Nat)) (cells : List V) : List (Nat × V) → Option (List V)
  | [] => some cells
  | (i, v) :: rest =>
    match place i with
    | none => none
    | some (off, size) =>
      bif Nat.beq v.cells.length size && Nat.ble (off + size) cells.length then fillV place (takeV off cells ++ (v.cells ++ dropV (off + size) cells)) rest else none
def partsV (ev : Operand → Option V) : List (Nat × Operand) → Option (List (Nat × V))
  | [] => some []
  | (i, x) :: ps => match ev x, partsV ev ps with | some v, some vs => some ((i, v) :: vs) | _, _ => none
def placesV (P : Program) : List Field → Option (List (Nat × Nat))
  | [] => some []
  | f :: fs => match sizeB P f.type, placesV P fs with | some n, some ps => some ((f.offset, n) :: ps) | _, _ => none
def nthP : List (Nat × Nat) → Nat → Option (Nat × Nat)
  | [], _ => none
  | x :: _, 0 => some x
  | _ :: xs, n + 1 => nthP xs n
def evBuild (P : Program) (t : TypeId) (ps : List (Nat × V)) : Option V :=
  match zeroB P t, P.underlying t with
  | some z, some (.struct fs) =>
    match placesV P fs.toList with
    | some pl => (match fillV (nthP pl) z.cells ps with | some cs => some (.agg cs) | none => none)
    | none => none
  | some z, some (.array _ elem) =>
    match sizeB P elem with
    | some n => (match fillV (fun i => some (i * n, n)) z.cells ps with | some cs => some (.agg cs) | none => none)
    | none => none
  | _, _ => none
def repV : Nat → List V → List V
  | 0, _ => []
  | n + 1, z => z ++ repV n z
def evBuildSlice (P : Program) (nx : Nat) (t : TypeId) (len : Nat) (ps : List (Nat × V)) : Tree Eff :=
  match P.underlying t with
  | some (.slice elem) =>
    match sizeB P elem, zeroB P elem with
    | some (n + 1), some z =>
      bif Nat.ble (len * (n + 1)) (2 ^ 24) && Nat.beq z.cells.length (n + 1) then
        match fillV (fun i => some (i * (n + 1), n + 1)) (repV len z.cells) ps with
        | some cs => newE P nx elem len cs (.slice nx 0 len (n + 1))
        | none => .fail
      else .fail
    | _, _ => .fail
  | _ => .fail
def evMakeSlice (P : Program) (nx : Nat) (t : TypeId) (len cap : V) : Tree Eff :=
  match len, cap, P.underlying t with
  | .int .i64 l, .int .i64 c, some (.slice elem) =>
    match P.info? elem, zeroB P elem with
    | some i, some z =>
      match i.size with
      | n + 1 =>
        bif Nat.beq z.cells.length (n + 1) && allOne z.cells then
          .ite (decide (0 ≤ l ∧ l ≤ c ∧ i.bytes * c ≤ 2 ^ 48 ∧ c < 2 ^ 62)) (.ret ⟨.slice nx 0 l.toNat (n + 1), [(nx, some ⟨repV c.toNat z.cells, elem, false⟩)], nx + 1⟩) .fail
        else .fail
      | 0 => .fail
    | _, _ => .fail
  | _, _, _ => .fail
def evLoad (C : Cfg) (m : Mem) (t : TypeId) (p : V) : Option V :=
  match p with
  | .ptr b off => match look m b with | some k => readV C.P t k.cells off | none => none
  | .gptr g off => match C.G g with | some (cs, _) => readV C.P t cs off | none => none
  | _ => none
def evStore (C : Cfg) (m : Mem) (nx : Nat) (t : TypeId) (p v : V) : Tree Eff :=
  match p with
  | .ptr b off =>
    match look m b with
    | some k =>
      bif k.ro then .fail else
      match writeV C.P t k.cells off v with
      | some cs => .ret ⟨.tuple [], [(b, some ⟨cs, k.elem, false⟩)], nx⟩
      | none => .fail
    | none => .fail
  | _ => .fail
def evMax : List V → Option V
  | [] => none
  | x :: xs => go x xs
where go : V → List V → Option V
  | x, [] => some x
  | .int k a, .int _ b :: ys => go (.int k (if b > a then b else a)) ys
  | _, _ => none
def evMin : List V → Option V
  | [] => none
  | x :: xs => go x xs
where go : V → List V → Option V
  | x, [] => some x
  | .int k a, .int _ b :: ys => go (.int k (if b < a then b else a)) ys
  | _, _ => none
def evLen (P : Program) (t : TypeId) (x : V) : Option V :=
  match P.underlying t, x with
  | some .string, .str s => some (.int .i64 s.size)
  | some (.array n _), _ => some (.int .i64 n)
  | some (.slice _), .slice _ _ n _ => some (.int .i64 n)
  | some (.slice _), .nilslice => some (.int .i64 0)
  | _, _ => none
/-- The cells of a slice that is appended, as far as they are known. -/
def sliceCells (m : Mem) : V → Option (List V)
  | .nilslice => some []
  | .slice b off len sz =>
    match look m b with
    | some k => bif Nat.ble ((off + len) * sz) k.cells.length then some (takeV (len * sz) (dropV (off * sz) k.cells)) else none
    | none => none
  | .str s => some (s.data.toList.map fun c => .int .u8 (c.toNat : Int))
  | _ => none
def lenV : V → Option Nat
  | .nilslice => some 0
  | .slice _ _ n _ => some n
  | .str s => some s.size
  | _ => none

mutual
def idsV : V → List Nat
  | .ptr b _ => [b]
  | .slice b _ _ _ => [b]
  | .func _ caps => idsL caps
  | .iface _ v => idsV v
  | .agg vs => idsL vs
  | .tuple vs => idsL vs
  | _ => []
def idsL : List V → List Nat
  | [] => []
  | v :: vs => idsV v ++ idsL vs
end
def memN : Nat → List Nat → Bool
  | _, [] => false
  | b, x :: xs => Nat.beq b x || memN b xs
/-- The blocks that can be come to from some. -/
def reach (m : Mem) : Nat → List Nat → List Nat → List Nat
  | 0, _, acc => acc
  | _ + 1, [], acc => acc
  | n + 1, b :: bs, acc =>
    bif memN b acc then reach m n bs acc else
    match look m b with
    | some k => reach m n (idsL k.cells ++ bs) (acc ++ [b])
    | none => reach m n bs acc
def restrL : Mem → List Nat → Mem
  | [], _ => []
  | (i, k) :: m, R => bif memN i R then (i, k) :: restrL m R else restrL m R
def freshU (nx : Nat) : Mem → Upd
  | [] => []
  | (i, k) :: m => bif Nat.ble nx i then (i, some k) :: freshU nx m else freshU nx m
def oldU (out : Mem) : List Nat → Upd
  | [] => []
  | b :: bs => (b, look out b) :: oldU out bs

abbrev CallF := FuncId → List V → Mem → Nat → Tree (V × Mem × Nat)

def zeroOk (P : Program) (elem : TypeId) (n : Nat) : Bool := match zeroB P elem with | some z => Nat.beq z.cells.length n | none => false
def evAppend (P : Program) (m : Mem) (nx : Nat) (sT xT : TypeId) (s x : V) : Tree Eff :=
  match P.underlying sT, P.underlying xT with
  | some (.slice elem), some d =>
    match d with
    | .int _ => .fail
    | _ =>
      match P.info? elem, sliceCells m s, sliceCells m x, lenV s, lenV x with
      | some _, some _, some _, some _, some 0 => (match s with | .str _ => .fail | s => .ret (pureE nx s))
      | some i, some old, some new, some sl, some (n + 1) =>
        match s with
        | .nilslice =>
          bif Nat.ble 1 i.size && Nat.beq new.length ((n + 1) * i.size) && zeroOk P elem i.size then
            .ite (decide ((2 * (n + 1) + 512) * i.bytes ≤ 2 ^ 48 ∧ n + 1 < 2 ^ 62)) (.ret ⟨.slice nx 0 (n + 1) i.size, [(nx, some ⟨new, elem, false⟩)], nx + 1⟩) .fail
          else .fail
        | .slice b _ _ sz =>
          bif Nat.ble 1 i.size && Nat.beq sz i.size && Nat.beq new.length ((n + 1) * i.size) && Nat.beq old.length (sl * i.size) && zeroOk P elem i.size then
            match look m b with
            | some k =>
              bif k.ro || !(Nat.beq k.elem elem) then .fail else
              .ite (decide ((2 * (sl + (n + 1)) + 512) * i.bytes ≤ 2 ^ 48 ∧ sl + (n + 1) < 2 ^ 62))
                (.ret ⟨.slice nx 0 (sl + (n + 1)) i.size, [(b, none), (nx, some ⟨old ++ new, elem, false⟩)], nx + 1⟩) .fail
            | none => .fail
          else .fail
        | _ => .fail
      | _, _, _, _, _ => .fail
  | _, _ => .fail

def evBuiltin (P : Program) (b : Builtin) (ts : List TypeId) (args : List V) (m : Mem) (nx : Nat) : Tree Eff :=
  match b, ts, args with
  | .len, t :: _, x :: _ => match evLen P t x with | some v => .ret (pureE nx v) | none => .fail
  | .max, _, args => match evMax args with | some v => .ret (pureE nx v) | none => .fail
  | .min, _, args => match evMin args with | some v => .ret (pureE nx v) | none => .fail
  | .append, t :: u :: _, s :: x :: _ => evAppend P m nx t u s x
  | _, _, _ => .fail

def evSlice (P : Program) (t : TypeId) (x : V) (lo hi : Option V) : Tree V :=
  match P.underlying t, x with
  | some (.slice elem), .slice b off len sz =>
    match sizeB P elem with
    | some sz' =>
      bif Nat.beq sz sz' then
        match lo, hi with
        | none, none => .ret (.slice b off len sz)
        | none, some (.int _ h) => .ite (decide (0 ≤ h ∧ h ≤ len)) (.ret (.slice b off h.toNat sz)) .fail
        | some (.int _ l), none => .ite (decide (0 ≤ l ∧ l ≤ len)) (.ret (.slice b (off + l.toNat) (len - l.toNat) sz)) .fail
        | some (.int _ l), some (.int _ h) => .ite (decide (0 ≤ l ∧ l ≤ h ∧ h ≤ len)) (.ret (.slice b (off + l.toNat) (h.toNat - l.toNat) sz)) .fail
        | _, _ => .fail
      else .fail
    | none => .fail
  | some .string, .str s =>
    match lo, hi with
    | none, none => .ret (.str s)
    | none, some (.int _ h) => .ite (decide (0 ≤ h ∧ h ≤ s.size)) (.ret (.str (subB s 0 h.toNat))) .fail
    | some (.int _ l), none => .ite (decide (0 ≤ l ∧ l ≤ s.size)) (.ret (.str (subB s l.toNat s.size))) .fail
    | some (.int _ l), some (.int _ h) => .ite (decide (0 ≤ l ∧ l ≤ h ∧ h ≤ s.size)) (.ret (.str (subB s l.toNat h.toNat))) .fail
    | _, _ => .fail
  | _, _ => .fail

def hasBody (P : Program) (f : FuncId) : Bool := match P.funcs[f]? with | some fn => fn.body.isSome | none => false
def optV (ev : Operand → Option V) : Option Operand → Option (Option V)
  | none => some none
  | some x => match ev x with | some v => some (some v) | none => none

def retV (nx : Nat) (v : Tree V) : Tree Eff := v.bind fun v => .ret (pureE nx v)
def retO (nx : Nat) (v : Option V) : Tree Eff := match v with | some v => .ret (pureE nx v) | none => .fail

def evCall (C : Cfg) (call : CallF) (f : FuncId) (args : List V) (R : List Nat) (m : Mem) (nx : Nat) : Tree Eff :=
  (call f args (restrL m R) nx).bind fun (v, out, nx') => .ret ⟨v, oldU out R ++ freshU nx out, nx'⟩

/-- Conversions; that of a string to bytes makes a new row. -/
def evConvM (P : Program) (nx : Nat) (s d : TypeId) (a : V) : Tree Eff :=
  match P.underlying s, P.underlying d, a with
  | some _, some (.slice e), .str b =>
    match P.underlying e, sizeB P e with
    | some (.int .u8), some 1 => .ret ⟨.slice nx 0 b.size 1, [(nx, some ⟨b.data.toList.map fun c => .int .u8 (c.toNat : Int), e, false⟩)], nx + 1⟩
    | _, _ => .fail
  | _, _, a => retV nx (evConv P s d a)

/-- The blocks that an operation looks at or writes. -/
def foot (ev : Operand → Option V) (m : Mem) (n : Nat) : Op → List Nat
  | .load _ a => match ev a with | some v => idsV v | none => []
  | .store _ a _ => match ev a with | some v => idsV v | none => []
  | .call c =>
    match c.callee with
    | .value f => match ev f, evL ev c.args.toList with | some v, some vs => reach m n (idsV v ++ idsL vs) [] | _, _ => []
    | .builtin .append => match evL ev c.args.toList with | some vs => idsL vs | _ => []
    | _ => []
  | _ => []

def evEff (C : Cfg) (call : CallF) (ev : Operand → Option V) (m : Mem) (nx : Nat) : Op → Tree Eff
  | .move x => retO nx (ev x)
  | .assign x => retO nx (ev x)
  | .pick c a b =>
    match ev c, ev a, ev b with
    | some (.bool t), some va, some vb => .ite t (.ret (pureE nx va)) (.ret (pureE nx vb))
    | _, _, _ => .fail
  | .alloc t => match zeroB C.P t with | some z => newE C.P nx t 1 z.cells (.ptr nx 0) | none => .fail
  | .box t x => match ev x with | some v => newE C.P nx t 1 v.cells (.ptr nx 0) | none => .fail
  | .build t ps => match partsV ev ps.toList with | some vs => retO nx (evBuild C.P t vs) | none => .fail
  | .buildSlice t n ps => match partsV ev ps.toList with | some vs => evBuildSlice C.P nx t n vs | none => .fail
  | .load t a => match ev a with | some p => retO nx (evLoad C m t p) | none => .fail
  | .store t a x => match ev a, ev x with | some p, some v => evStore C m nx t p v | _, _ => .fail
  | .nilCheck x => match ev x with | some (.ptr b o) => .ret (pureE nx (.ptr b o)) | some (.gptr b o) => .ret (pureE nx (.gptr b o)) | some (.func f []) => .ret (pureE nx (.func f [])) | _ => .fail
  | .binOp op t x y _ => match ev x, ev y with | some a, some b => retV nx (evBin C op t (isConst x || isConst y) a b) | _, _ => .fail
  | .unOp op _ x => match ev x with | some a => retV nx (evUn op a) | none => .fail
  | .convert s d x => match ev x with | some a => evConvM C.P nx s d a | none => .fail
  | .makeInterface t x => match C.P.underlying t, ev x with | some d, some a => (match d with | .interface _ => .fail | _ => .ret (pureE nx (.iface t a))) | _, _ => .fail
  | .makeFunc fn first caps =>
    match fn, first.toList, evL ev caps.toList with
    | .func f, [], some vs => .ret (pureE nx (.func f vs))
    | _, _, _ => .fail
  | .makeSlice t l c => match ev l, ev c with | some l, some c => evMakeSlice C.P nx t l c | _, _ => .fail
  | .slice t x lo hi mx =>
    match ev x with
    | some v =>
      match optV ev lo, optV ev hi, mx with | some l, some h, none => retV nx (evSlice C.P t v l h) | _, _, _ => .fail
    | none => .fail
  | .fieldAddr t x f => match ev x with | some v => retO nx (evFieldAddr C.P t v f) | none => .fail
  | .field t x f => match ev x with | some v => retO nx (evField C.P t v f) | none => .fail
  | .indexAddr t x i => match ev x, ev i with | some v, some j => retV nx (evIndexAddr C.P t v j) | _, _ => .fail
  | .index t x i => match ev x, ev i with | some v, some j => retV nx (evIndex C.P t v j) | _, _ => .fail
  | .extract x i => match ev x with | some v => retO nx (evExtract v i) | none => .fail
  | .call c =>
    match c.callee with
    | .value f =>
      match ev f, evL ev c.args.toList with
      | some (.func g caps), some vs => bif hasBody C.P g then evCall C call g (vs ++ caps) (reach m 1000 (idsL caps ++ idsL vs) []) m nx else .fail
      | _, _ => .fail
    | .builtin b => match evL ev c.args.toList with | some vs => evBuiltin C.P b c.argTypes.toList vs m nx | none => .fail
    | _ => .fail
  | _ => .fail

/-! ### Regions -/

def nthO : List Oper → Nat → Option Oper
  | [], _ => none
  | x :: _, 0 => some x
  | _ :: xs, n + 1 => nthO xs n
/-- Whether an operation is carried out. -/
def wantT (ops : List Oper) (tm : Tm) (o : Oper) : Option Bool :=
  match o.guard with
  | none => some true
  | some (j, want) =>
    match nthO ops j with
    | some oj =>
      match oj.dst with
      | some d => match getT tm d with
        | some (.bool b) => some (b == want)
        | some (.tuple []) => some false
        | _ => none
      | none => none
    | none => none

/-- What is noted of an operation that has been carried out: the blocks that it looked at, the numbers of its own blocks, what it did. -/
structure Rec where
  R : List Nat
  a : Nat
  e : Eff

def evOp (C : Cfg) (call : CallF) (ops : List Oper) (s : St) (o : Oper) : Tree Rec :=
  match wantT ops s.tm o with
  | some w => .ite w ((evEff C call (evO s.tm) s.m s.nx o.op).bind fun e => .ret ⟨foot (evO s.tm) s.m 1000 o.op, s.nx, e⟩) (.ret ⟨[], s.nx, pureE s.nx (.tuple [])⟩)
  | none => .fail
/-- Once a truth value has been asked it is known. -/
def splitT {α : Type} (d : Tmp) (s : St) (f : St → Tree α) : Tree α :=
  match getT s.tm d with
  | some (.bool b) => .ite b (f ⟨setT s.tm d (.bool true), s.m, s.nx⟩) (f ⟨setT s.tm d (.bool false), s.m, s.nx⟩)
  | _ => f s
def splitL {α : Type} : List Tmp → St → (St → Tree α) → Tree α
  | [], s, f => f s
  | d :: ds, s, f => splitT d s fun s => splitL ds s f
def asks (ops : List Oper) (o : Oper) : List Tmp :=
  (match o.guard with
   | some (j, _) => (match nthO ops j with | some x => (match x.dst with | some d => [d] | none => []) | none => [])
   | none => []) ++
  (match o.op with | .pick (.tmp c) _ _ => [c] | _ => [])
theorem setT_same : ∀ {tm : Tm} {d : Nat} {v : V}, getT tm d = some v → setT tm d v = tm
  | [], _, _, _ => rfl
  | x :: xs, 0, v, h => by simp [getT] at h; simp [setT, h]
  | x :: xs, d + 1, v, h => by simp only [getT] at h; simp [setT, setT_same h]
theorem splitT_run {α : Type} (d : Tmp) (s : St) (f : St → Tree α) : (splitT d s f).run = (f s).run := by
  unfold splitT
  split
  · rename_i b hb
    cases b
    · simp only [Tree.run, cond_false]; rw [setT_same hb]
    · simp only [Tree.run, cond_true]; rw [setT_same hb]
  · rfl
theorem splitL_run {α : Type} : ∀ (ds : List Tmp) (s : St) (f : St → Tree α), (splitL ds s f).run = (f s).run
  | [], _, _ => rfl
  | d :: ds, s, f => by simp only [splitL]; rw [splitT_run, splitL_run ds s f]

def evOps (C : Cfg) (call : CallF) (ops : List Oper) : List Oper → St → List Rec → Tree (St × List Rec)
  | [], s, recs => .ret (s, recs)
  | o :: rest, s, recs => splitL (asks ops o) s fun s => (evOp C call ops s o).bind fun r => evOps C call ops rest ⟨putT s.tm o.dst r.e.v, appU s.m r.e.upd, r.e.nx⟩ (recs ++ [r])

/-! Orders: which operations come ahead of an operation, as bits of a number. -/
def maskAt : List Nat → Nat → Nat
  | [], _ => 0
  | x :: _, 0 => x
  | _ :: xs, n + 1 => maskAt xs n
def maskE (ms : List Nat) : List Edge → Nat
  | [] => 0
  | e :: es => bif Region.binds .any e then (2 ^ e.on ||| maskAt ms e.on) ||| maskE ms es else maskE ms es
def masks : List Oper → List Nat → List Nat
  | [], ms => ms
  | o :: rest, ms => masks rest (ms ++ [maskE ms o.after.toList])
/-- The numbers are what they are taken for, and each operation waits only for earlier ones. -/
def masksOk (ms : List Nat) : List Oper → Nat → Bool
  | [], _ => true
  | o :: rest, i => Nat.beq (maskAt ms i) (maskE ms o.after.toList) && o.after.toList.all (fun e => !(Region.binds .any e) || Nat.blt e.on i) && masksOk ms rest (i + 1)
def looks (ops : List Oper) (o : Oper) : List Tmp :=
  (o.op.operands.toList.filterMap fun | .tmp t => some t | _ => none) ++
  (match o.guard with
   | some (g, _) => (match nthO ops g with | some x => x.dst.toList | none => [])
   | none => [])
def disj : List Nat → List Nat → Bool
  | [], _ => true
  | x :: xs, ys => !(memN x ys) && disj xs ys
def dstIn (d : Option Tmp) (l : List Tmp) : Bool := match d with | some t => memN t l | none => false
def apartT (ops : List Oper) (x y : Oper) : Bool :=
  !(dstIn x.dst (looks ops y)) && !(dstIn y.dst (looks ops x)) && (match x.dst, y.dst with | some a, some b => !(Nat.beq a b) | _, _ => true)
def keysU (nx : Nat) : Upd → List Nat
  | [] => []
  | (i, _) :: us => bif Nat.blt i nx then i :: keysU nx us else keysU nx us
def below (n : Nat) : List Nat → Bool
  | [] => true
  | x :: xs => Nat.blt x n && below n xs
def notIn (a n : Nat) : List Nat → Bool
  | [] => true
  | b :: bs => !(Nat.ble a b && Nat.blt b n) && notIn a n bs
def apartM (x y : Rec) : Bool :=
  disj (keysU x.a x.e.upd) y.R && disj (keysU y.a y.e.upd) x.R && disj (keysU x.a x.e.upd) (keysU y.a y.e.upd) && notIn x.a x.e.nx y.R && notIn x.a x.e.nx (keysU y.a y.e.upd)
def keysBelow (n : Nat) : Upd → Bool
  | [] => true
  | (i, _) :: us => Nat.blt i n && keysBelow n us
def recOk (r : Rec) : Bool := below r.a r.R && keysBelow r.e.nx r.e.upd
/-- One operation against the ones behind it. -/
def indepOne (ops : List Oper) (ms : List Nat) (i : Nat) (o : Oper) (r : Rec) : List Oper → List Rec → Nat → Bool
  | [], [], _ => true
  | p :: ps, q :: qs, j => ((maskAt ms j).testBit i || (apartT ops o p && apartM r q)) && indepOne ops ms i o r ps qs (j + 1)
  | _, _, _ => false
def indepAll (ops : List Oper) (ms : List Nat) : List Oper → List Rec → Nat → Bool
  | [], [], _ => true
  | o :: os, r :: rs, i => recOk r && indepOne ops ms i o r os rs (i + 1) && indepAll ops ms os rs (i + 1)
  | _, _, _ => false
def noSel (o : Oper) : Bool := match o.op with | .select .. => false | _ => true

def evRegion (C : Cfg) (call : CallF) (ops : List Oper) (draw : Bool) (s : St) : Tree St :=
  (evOps C call ops ops s []).bind fun (s', recs) =>
    bif draw then
      let ms := masks ops []
      .ite (masksOk ms ops 0 && indepAll ops ms ops recs 0) (.ret s') .fail
    else .ret s'

/-! ### Which temporaries are looked at later, as bits -/
def bitsO : List Operand → Nat
  | [] => 0
  | .tmp t :: xs => 2 ^ t ||| bitsO xs
  | _ :: xs => bitsO xs
def offBit (L t : Nat) : Nat := L ^^^ (L &&& 2 ^ t)
def liveOp (ops : List Oper) (o : Oper) (L : Nat) : Nat :=
  let L := match o.dst with | some d => offBit L d | none => L
  let L := L ||| bitsO o.op.operands.toList
  match o.guard with
  | some (g, _) => (match nthO ops g with | some x => (match x.dst with | some d => L ||| 2 ^ d | none => L) | none => L)
  | none => L
def liveOps (ops : List Oper) : List Oper → Nat → Nat
  | [], L => L
  | o :: rest, L => liveOp ops o (liveOps ops rest L)
def atExit : List (Nat × Nat) → Nat → Nat
  | [], _ => 0
  | (i, L) :: xs, id => bif Nat.beq i id then L else atExit xs id
def live (rets : Nat) : Code → List (Nat × Nat) → Nat → Nat
  | .skip, _, L => L
  | .region _ ops _, _, L => liveOps ops.toList ops.toList L
  | .seq a b, X, L => live rets a X (live rets b X L)
  | .cond c a b, X, L => bitsO [c] ||| (live rets a X L ||| live rets b X L)
  | .block id b, X, L => live rets b ((id, L) :: X) L
  | .loop b, X, _ => live rets b X 0
  | .exit id, X, _ => atExit X id
  | .scope b, X, L => live rets b X L
  | .ret, _, _ => rets
  | _, _, L => L

/-! ### Tidying: temporaries that are not looked at again, blocks that cannot be come to -/
def maskTm : Tm → Nat → Tm
  | [], _ => []
  | x :: xs, L => (bif Nat.beq (L % 2) 1 then x else none) :: maskTm xs (L / 2)
def idsT : Tm → List Nat
  | [] => []
  | some v :: xs => idsV v ++ idsT xs
  | none :: xs => idsT xs
def idsM (own : Nat) : Mem → List Nat
  | [] => []
  | (i, k) :: m => bif Nat.blt i own then idsL k.cells ++ idsM own m else idsM own m
/-- The new number of a block: its own, if it was there when the call began; else its place in the list. -/
def newId (own : Nat) (l : List Nat) (b : Nat) : Option Nat :=
  bif Nat.blt b own then some b else go own l
where go (n : Nat) : List Nat → Option Nat
  | [] => none
  | x :: xs => bif Nat.beq x b then some n else go (n + 1) xs
mutual
def renV (own : Nat) (l : List Nat) : V → Option V
  | .ptr b off => match newId own l b with | some b' => some (.ptr b' off) | none => none
  | .slice b off len sz => match newId own l b with | some b' => some (.slice b' off len sz) | none => none
  | .func f caps => match renL own l caps with | some vs => some (.func f vs) | none => none
  | .iface t v => match renV own l v with | some v => some (.iface t v) | none => none
  | .agg vs => match renL own l vs with | some vs => some (.agg vs) | none => none
  | .tuple vs => match renL own l vs with | some vs => some (.tuple vs) | none => none
  | .bool b => some (.bool b)
  | .int k n => some (.int k n)
  | .str s => some (.str s)
  | .gptr g o => some (.gptr g o)
  | .nilptr => some .nilptr
  | .nilslice => some .nilslice
  | .nilfunc => some .nilfunc
  | .niliface => some .niliface
  | .any => some .any
def renL (own : Nat) (l : List Nat) : List V → Option (List V)
  | [] => some []
  | v :: vs => match renV own l v, renL own l vs with | some v, some vs => some (v :: vs) | _, _ => none
end
def renT (own : Nat) (l : List Nat) : Tm → Tm
  | [] => []
  | some v :: xs => renV own l v :: renT own l xs
  | none :: xs => none :: renT own l xs
def renOld (own : Nat) (l : List Nat) : Mem → Option Mem
  | [] => some []
  | (i, k) :: m =>
    bif Nat.blt i own then
      match renL own l k.cells, renOld own l m with | some cs, some m' => some ((i, ⟨cs, k.elem, k.ro⟩) :: m') | _, _ => none
    else renOld own l m
def renNew (own : Nat) (l : List Nat) (m : Mem) : List Nat → Nat → Option Mem
  | [], _ => some []
  | b :: bs, n =>
    match look m b, newId own l b with
    | some k, some n' => bif Nat.beq n' n then (match renL own l k.cells, renNew own l m bs (n + 1) with | some cs, some m' => some ((n, ⟨cs, k.elem, k.ro⟩) :: m') | _, _ => none) else none
    | _, _ => none
def atLeast (own : Nat) : List Nat → List Nat
  | [] => []
  | x :: xs => bif Nat.blt x own then atLeast own xs else x :: atLeast own xs
def tidy (own keep : Nat) (s : St) : Option St :=
  let tm := maskTm s.tm keep
  match s.m with
  | [] => some ⟨renT own [] tm, [], own⟩
  | _ =>
    let l := atLeast own (reach s.m 1000 (idsT tm ++ idsM own s.m) [])
    match renOld own l s.m, renNew own l s.m l own with
    | some m, some m' => some ⟨renT own l tm, m ++ m', own + l.length⟩
    | _, _ => none

inductive Ex where
  | normal | exit (id : Nat) | ret
def loopN (body : St → Tree (Ex × St)) : Nat → St → Tree (Ex × St)
  | 0, _ => .fail
  | k + 1, s => (body s).bind fun (e, s') => match e with
    | .normal => loopN body k s'
    | e => .ret (e, s')
/-- A loop's name: the number of its first region. -/
def keyOf : Code → Nat
  | .region id _ _ => id
  | .seq a _ => keyOf a
  | .block _ b => keyOf b
  | .cond _ a _ => keyOf a
  | .loop b => keyOf b
  | .scope b => keyOf b
  | _ => 0
/-- What is known of loops: at a tidied state, under a condition, how the loop ends. -/
abbrev Loops := Nat → St → Option (Bool × Ex × St)
def noLoops : Loops := fun _ _ => none
/-- A name for the first part of a sequence. -/
def lsd : Code → Nat
  | .seq a _ => lsd a + 1
  | _ => 0
def cutKey (c : Code) : Nat := (lsd c + 1) * 1000000 + keyOf c
def noSt : St := ⟨[], [], 0⟩
/-- A part of a sequence whose work is known: at a tidied state, under a condition. -/
def cutA (LO : Loops) (own keep : Nat) (a : Code) (s : St) : Tree (Ex × St) :=
  match tidy own keep s with
  | some s0 => match LO (cutKey a) s0 with
    | some (pre, e, s') => .ite pre (.ret (e, s')) .fail
    | none => .fail
  | none => .fail
def evC (C : Cfg) (call : CallF) (LO : Loops) (fuel own rets : Nat) : Code → List (Nat × Nat) → Nat → St → Tree (Ex × St)
  | .skip, _, _, s => .ret (.normal, s)
  | .region _ ops draw, _, _, s => (evRegion C call ops.toList draw s).bind fun s' => .ret (.normal, s')
  | .seq a b, X, L, s => (bif (LO (cutKey a) noSt).isSome then cutA LO own (live rets a X (live rets b X L)) a s else evC C call LO fuel own rets a X (live rets b X L) s).bind fun (e, s') => match e with
    | .normal => evC C call LO fuel own rets b X L s'
    | e => .ret (e, s')
  | .cond c a b, X, L, s => splitL (match c with | .tmp t => [t] | _ => []) s fun s => match evO s.tm c with
    | some (.bool t) => .ite t (evC C call LO fuel own rets a X L s) (evC C call LO fuel own rets b X L s)
    | _ => .fail
  | .block id b, X, L, s => (evC C call LO fuel own rets b ((id, L) :: X) L s).bind fun (e, s') => match e with
    | .exit id' => bif Nat.beq id' id then .ret (.normal, s') else .ret (.exit id', s')
    | e => .ret (e, s')
  | .loop b, X, _, s =>
    match tidy own (live rets b X 0) s with
    | some s0 =>
      match LO (keyOf b) s0 with
      | some (pre, e, s') => .ite pre (.ret (e, s')) .fail
      | none => loopN (fun s => match tidy own (live rets b X 0) s with
        | some s' => evC C call LO fuel own rets b X (live rets b X 0) s'
        | none => .fail) fuel s0
    | none => .fail
  | .exit id, _, _, s => .ret (.exit id, s)
  | .scope b, X, L, s => evC C call LO fuel own rets b X L s
  | .ret, _, _, s => .ret (.ret, s)
  | _, _, _, _ => .fail

/-- One round of a loop. -/
def stepL (C : Cfg) (call : CallF) (LO : Loops) (fuel own rets : Nat) (b : Code) (X : List (Nat × Nat)) (s : St) : Tree (Ex × St) :=
  match tidy own (live rets b X 0) s with
  | some s' => evC C call LO fuel own rets b X (live rets b X 0) s'
  | none => .fail
/-- The loops of a piece of code, each with what is looked at behind its exits. -/
def loopsOf (rets : Nat) : Code → List (Nat × Nat) → Nat → List (Code × List (Nat × Nat))
  | .seq a b, X, L => loopsOf rets a X (live rets b X L) ++ loopsOf rets b X L
  | .cond _ a b, X, L => loopsOf rets a X L ++ loopsOf rets b X L
  | .block id b, X, L => loopsOf rets b ((id, L) :: X) L
  | .loop b, X, _ => (b, X) :: loopsOf rets b X (live rets b X 0)
  | .scope b, X, L => loopsOf rets b X L
  | _, _, _ => []

/-- The first parts of sequences in a piece of code. -/
def cutsOf (rets : Nat) : Code → List (Nat × Nat) → Nat → List (Code × List (Nat × Nat) × Nat)
  | .seq a b, X, L => (a, X, live rets b X L) :: (cutsOf rets a X (live rets b X L) ++ cutsOf rets b X L)
  | .cond _ a b, X, L => cutsOf rets a X L ++ cutsOf rets b X L
  | .block id b, X, L => cutsOf rets b ((id, L) :: X) L
  | .loop b, X, _ => cutsOf rets b X (live rets b X 0)
  | .scope b, X, L => cutsOf rets b X L
  | _, _, _ => []

def retBits : List ResultVar → Nat
  | [] => 0
  | .tmp t :: xs => 2 ^ t ||| retBits xs
  | .cell t _ :: xs => 2 ^ t ||| retBits xs
def evRes (C : Cfg) (s : St) : List ResultVar → Option (List V)
  | [] => some []
  | .tmp t :: xs => match getT s.tm t, evRes C s xs with | some v, some vs => some (v :: vs) | _, _ => none
  | .cell t ty :: xs =>
    match getT s.tm t, evRes C s xs with
    | some p, some vs => match evLoad C s.m ty p with | some v => some (v :: vs) | none => none
    | _, _ => none
def someL : List V → Tm
  | [] => []
  | v :: vs => some v :: someL vs
def noneL : Nat → Tm
  | 0 => []
  | n + 1 => none :: noneL n
def keepOld (own : Nat) : Mem → Mem
  | [] => []
  | (i, k) :: m => bif Nat.blt i own then (i, k) :: keepOld own m else keepOld own m
def allUnder (own : Nat) : List Nat → Bool
  | [] => true
  | b :: bs => Nat.blt b own && allUnder own bs
/-- A call's memory behind its end: without its own blocks, if nothing leads to them. -/
def leave (own : Nat) (v : V) (m : Mem) (nx : Nat) : Mem × Nat :=
  bif V.under own v && allUnder own (idsM own m) then (keepOld own m, own) else (m, nx)
/-- A function's own text, with what is known of its loops. -/
def evFL (C : Cfg) (call : CallF) (LO : Loops) (fuel : Nat) : CallF := fun f args m nx =>
  match C.P.funcs[f]? with
  | some fn =>
    match fn.body with
    | some c =>
      (evC C call LO fuel nx (retBits fn.results.toList) c [] (retBits fn.results.toList) ⟨someL args ++ noneL (fn.ntmps - args.length), m, nx⟩).bind fun (e, s) =>
        match e with
        | .exit _ => .fail
        | _ => match evRes C s fn.results.toList with
          | some [v] => let r := leave nx v s.m s.nx; .ret (v, r.1, r.2)
          | some vs => let r := leave nx (.tuple vs) s.m s.nx; .ret (.tuple vs, r.1, r.2)
          | none => .fail
    | none => .fail
  | none => .fail
def evF (C : Cfg) : Nat → CallF
  | 0 => fun _ _ _ _ => .fail
  | n + 1 => fun f args m nx =>
    match C.O f args m with
    | some (pre, v) => .ite pre (.ret (v, m, nx)) .fail
    | none => evFL C (evF C n) noLoops n f args m nx

theorem beqF {a b : Nat} (h : a ≠ b) : Nat.beq a b = false := by cases e : Nat.beq a b with | false => rfl | true => exact absurd (Nat.eq_of_beq_eq_true e) h
mutual
theorem rel_mono {ι ι' : Inj} (h : ∀ b l, ι b = some l → ι' b = some l) : ∀ (v : V) (x : Value), v.rel ι x → v.rel ι' x
  | .bool _, _, r => r
  | .int _ _, _, r => r
  | .str _, _, r => r
  | .ptr _ _, _, ⟨l, h1, h2⟩ => ⟨l, h _ _ h1, h2⟩
  | .gptr _ _, _, r => r
  | .nilptr, _, r => r
  | .slice _ _ _ _, _, ⟨l, a, c, h1, h2⟩ => ⟨l, a, c, h _ _ h1, h2⟩
  | .nilslice, _, r => r
  | .func _ cs, _, ⟨ys, h1, h2⟩ => ⟨ys, h1, relL_mono h cs ys h2⟩
  | .nilfunc, _, r => r
  | .iface _ v, _, ⟨y, h1, h2⟩ => ⟨y, h1, rel_mono h v y h2⟩
  | .niliface, _, r => r
  | .agg vs, _, ⟨ys, h1, h2⟩ => ⟨ys, h1, relL_mono h vs ys h2⟩
  | .tuple vs, _, ⟨ys, h1, h2⟩ => ⟨ys, h1, relL_mono h vs ys h2⟩
  | .any, _, r => r
theorem relL_mono {ι ι' : Inj} (h : ∀ b l, ι b = some l → ι' b = some l) : ∀ (vs : List V) (xs : List Value), V.relL ι vs xs → V.relL ι' vs xs
  | [], _, r => r
  | v :: vs, _, ⟨x, xs, h1, h2, h3⟩ => ⟨x, xs, h1, rel_mono h v x h2, relL_mono h vs xs h3⟩
end

mutual
theorem rel_under {ι ι' : Inj} {n : Nat} (h : ∀ b, b < n → ι b = ι' b) : ∀ (v : V) (x : Value), v.under n = true → v.rel ι x → v.rel ι' x
  | .bool _, _, _, r => r
  | .int _ _, _, _, r => r
  | .str _, _, _, r => r
  | .ptr b _, _, u, ⟨l, h1, h2⟩ => ⟨l, by rw [← h b (Nat.blt_eq.mp u)]; exact h1, h2⟩
  | .gptr _ _, _, _, r => r
  | .nilptr, _, _, r => r
  | .slice b _ _ _, _, u, ⟨l, a, c, h1, h2⟩ => ⟨l, a, c, by rw [← h b (Nat.blt_eq.mp u)]; exact h1, h2⟩
  | .nilslice, _, _, r => r
  | .func _ cs, _, u, ⟨ys, h1, h2⟩ => ⟨ys, h1, relL_under h cs ys u h2⟩
  | .nilfunc, _, _, r => r
  | .iface _ v, _, u, ⟨y, h1, h2⟩ => ⟨y, h1, rel_under h v y u h2⟩
  | .niliface, _, _, r => r
  | .agg vs, _, u, ⟨ys, h1, h2⟩ => ⟨ys, h1, relL_under h vs ys u h2⟩
  | .tuple vs, _, u, ⟨ys, h1, h2⟩ => ⟨ys, h1, relL_under h vs ys u h2⟩
  | .any, _, _, r => r
theorem relL_under {ι ι' : Inj} {n : Nat} (h : ∀ b, b < n → ι b = ι' b) : ∀ (vs : List V) (xs : List Value), V.underL n vs = true → V.relL ι vs xs → V.relL ι' vs xs
  | [], _, _, r => r
  | v :: vs, _, u, ⟨x, xs, h1, h2, h3⟩ =>
    have u' : v.under n = true ∧ V.underL n vs = true := by simpa [V.underL] using u
    ⟨x, xs, h1, rel_under h v x u'.1 h2, relL_under h vs xs u'.2 h3⟩
end

mutual
theorem under_rel {ι : Inj} {n : Nat} (h : ∀ b l, ι b = some l → b < n) : ∀ (v : V) (x : Value), v.rel ι x → v.under n = true
  | .bool _, _, _ => rfl
  | .int _ _, _, _ => rfl
  | .str _, _, _ => rfl
  | .ptr b _, _, ⟨l, h1, _⟩ => Nat.blt_eq.mpr (h b l h1)
  | .gptr _ _, _, _ => rfl
  | .nilptr, _, _ => rfl
  | .slice b _ _ _, _, ⟨l, _, _, h1, _⟩ => Nat.blt_eq.mpr (h b l h1)
  | .nilslice, _, _ => rfl
  | .func _ cs, _, ⟨ys, _, h2⟩ => underL_rel h cs ys h2
  | .nilfunc, _, _ => rfl
  | .iface _ v, _, ⟨y, _, h2⟩ => under_rel h v y h2
  | .niliface, _, _ => rfl
  | .agg vs, _, ⟨ys, _, h2⟩ => underL_rel h vs ys h2
  | .tuple vs, _, ⟨ys, _, h2⟩ => underL_rel h vs ys h2
  | .any, _, _ => rfl
theorem underL_rel {ι : Inj} {n : Nat} (h : ∀ b l, ι b = some l → b < n) : ∀ (vs : List V) (xs : List Value), V.relL ι vs xs → V.underL n vs = true
  | [], _, _ => rfl
  | v :: vs, _, ⟨x, xs, _, h2, h3⟩ => by simp [V.underL, under_rel h v x h2, underL_rel h vs xs h3]
end

theorem relL_length {ι : Inj} : ∀ {vs : List V} {xs : List Value}, V.relL ι vs xs → xs.length = vs.length
  | [], _, h => by have h' : _ = [] := h; subst h'; rfl
  | _ :: _, _, ⟨_, _, h1, _, h3⟩ => by subst h1; simp [relL_length h3]
theorem relL_append {ι : Inj} : ∀ {vs us : List V} {xs ys : List Value}, V.relL ι vs xs → V.relL ι us ys → V.relL ι (vs ++ us) (xs ++ ys)
  | [], _, _, _, h, k => by have h' : _ = [] := h; subst h'; exact k
  | _ :: _, _, _, _, ⟨x, xs', h1, h2, h3⟩, k => by subst h1; exact ⟨x, _, rfl, h2, relL_append h3 k⟩
theorem relL_nth {ι : Inj} : ∀ {vs : List V} {xs : List Value} {j : Nat} {v : V}, V.relL ι vs xs → nth vs j = some v → ∃ x, xs[j]? = some x ∧ v.rel ι x
  | [], _, _, _, _, h => by simp [nth] at h
  | _ :: _, _, 0, _, ⟨x, _, h1, h2, _⟩, h => by subst h1; simp [nth] at h; subst h; exact ⟨x, rfl, h2⟩
  | _ :: _, _, j + 1, _, ⟨_, _, h1, _, h3⟩, h => by subst h1; simp [nth] at h; simpa using relL_nth h3 h
theorem relL_take {ι : Inj} : ∀ {n : Nat} {vs : List V} {xs : List Value}, V.relL ι vs xs → V.relL ι (takeV n vs) (xs.take n)
  | 0, _, _, _ => by simp [takeV, V.relL]
  | _ + 1, [], _, h => by have h' : _ = [] := h; subst h'; simp [takeV, V.relL]
  | _ + 1, _ :: _, _, ⟨x, xs', h1, h2, h3⟩ => by subst h1; exact ⟨x, _, rfl, h2, relL_take h3⟩
theorem relL_drop {ι : Inj} : ∀ {n : Nat} {vs : List V} {xs : List Value}, V.relL ι vs xs → V.relL ι (dropV n vs) (xs.drop n)
  | 0, _, _, h => by simpa [dropV] using h
  | _ + 1, [], _, h => by have h' : _ = [] := h; subst h'; simp [dropV, V.relL]
  | _ + 1, _ :: _, _, ⟨x, xs', h1, h2, h3⟩ => by subst h1; simpa [dropV] using relL_drop h3
theorem takeV_length : ∀ (n : Nat) (vs : List V), (takeV n vs).length = min n vs.length
  | 0, _ => by simp [takeV]
  | _ + 1, [] => by simp [takeV]
  | n + 1, _ :: vs => by simp [takeV, takeV_length n vs]
theorem dropV_length : ∀ (n : Nat) (vs : List V), (dropV n vs).length = vs.length - n
  | 0, _ => by simp [dropV]
  | _ + 1, [] => by simp [dropV]
  | n + 1, _ :: vs => by simp [dropV, dropV_length n vs]
theorem allOne_append : ∀ {a b : List V}, allOne (a ++ b) = (allOne a && allOne b)
  | [], _ => by simp [allOne]
  | v :: a, b => by simp [allOne, allOne_append (a := a), Bool.and_assoc]
theorem allOne_take : ∀ {n : Nat} {a : List V}, allOne a = true → allOne (takeV n a) = true
  | 0, _, _ => rfl
  | _ + 1, [], _ => rfl
  | n + 1, v :: a, h => by simp [allOne] at h; simp [takeV, allOne, h.1, allOne_take h.2]
theorem allOne_drop : ∀ {n : Nat} {a : List V}, allOne a = true → allOne (dropV n a) = true
  | 0, _, h => h
  | _ + 1, [], _ => rfl
  | n + 1, v :: a, h => by simp [allOne] at h; simpa [dropV] using allOne_drop h.2
theorem allOne_nth : ∀ {a : List V} {j : Nat} {v : V}, allOne a = true → nth a j = some v → v.one = true
  | [], _, _, _, h => by simp [nth] at h
  | _ :: _, 0, _, h, k => by simp [allOne] at h; simp [nth] at k; subst k; exact h.1
  | _ :: _, j + 1, _, h, k => by simp [allOne] at h; simp [nth] at k; exact allOne_nth h.2 k
theorem one_rel {ι : Inj} {v : V} {x : Value} (h : v.one = true) (r : v.rel ι x) : x.oneCell' = true := by
  cases v <;> first | (exact r) | skip
  all_goals first | (simp [V.one] at h; done) | skip
  all_goals (first | (have r' : x = _ := r; subst r'; rfl) | (obtain ⟨_, _, r'⟩ := r; subst r'; rfl) | (obtain ⟨_, r', _⟩ := r; subst r'; rfl) | (obtain ⟨_, _, _, _, _, r', _⟩ := r; subst r'; rfl))
theorem cells_any {x : Value} (r : x.oneCell' = true) : x.cells.toList = [x] := by
  cases x <;> first | rfl | (simp [Value.oneCell'] at r)
theorem cells_rel {ι : Inj} {v : V} {x : Value} (r : v.rel ι x) : V.relL ι v.cells x.cells.toList := by
  cases v <;> first
    | (have r' : x.oneCell' = true := r; rw [cells_any r']; exact ⟨x, [], rfl, r', rfl⟩)
    | (obtain ⟨ys, r1, r2⟩ := r; subst r1; simpa [V.cells, Value.cells] using r2; done)
    | (have r' : x = _ := r; subst r'; exact ⟨_, _, rfl, rfl, rfl⟩)
    | (refine ⟨x, [], ?_, r, rfl⟩; obtain ⟨_, _, r'⟩ := r; subst r'; rfl)
    | (refine ⟨x, [], ?_, r, rfl⟩; obtain ⟨_, r', _⟩ := r; subst r'; rfl)
    | (refine ⟨x, [], ?_, r, rfl⟩; obtain ⟨_, _, _, _, _, r', _⟩ := r; subst r'; rfl)

/-! ### Constants and plain values -/
theorem ofVal1_rel {ι : Inj} : ∀ {x : Value} {v : V}, ofVal1 x = some v → v.rel ι x := by
  intro x v h
  unfold ofVal1 at h
  split at h <;> first | (simp at h; done) | (obtain rfl := Option.some.inj h; rfl)
theorem ofVal1L_rel {ι : Inj} : ∀ {xs : List Value} {vs : List V}, ofVal1L xs = some vs → V.relL ι vs xs
  | [], _, h => by simp [ofVal1L] at h; subst h; rfl
  | x :: xs, _, h => by
    unfold ofVal1L at h
    split at h
    · rename_i h1 h2; obtain rfl := Option.some.inj h; exact ⟨x, xs, rfl, ofVal1_rel h1, ofVal1L_rel h2⟩
    · simp at h
theorem ofVal_rel {ι : Inj} {x : Value} {v : V} (h : ofVal x = some v) : v.rel ι x := by
  unfold ofVal at h
  split at h
  · split at h
    · rename_i h1; obtain rfl := Option.some.inj h; exact ⟨_, rfl, ofVal1L_rel h1⟩
    · simp at h
  · split at h
    · rename_i h1; obtain rfl := Option.some.inj h; exact ⟨_, rfl, ofVal1L_rel h1⟩
    · simp at h
  · exact ofVal1_rel h
theorem val1_rel {ι : Inj} {v : V} {x y : Value} (h : v.val1 = some y) (r : v.rel ι x) : x = y := by
  cases v <;> simp [V.val1] at h <;> (subst h; exact r)
theorem val1L_rel {ι : Inj} : ∀ {vs : List V} {xs ys : List Value}, V.val1L vs = some ys → V.relL ι vs xs → xs = ys
  | [], _, _, h, r => by simp [V.val1L] at h; subst h; exact r
  | v :: vs, _, _, h, ⟨x, xs, h1, h2, h3⟩ => by
    unfold V.val1L at h
    split at h
    · rename_i k1 k2; obtain rfl := Option.some.inj h; subst h1; rw [val1_rel k1 h2, val1L_rel k2 h3]
    · simp at h
theorem val_rel {ι : Inj} {v : V} {x y : Value} (h : v.val = some y) (r : v.rel ι x) : x = y := by
  unfold V.val at h
  split at h
  · split at h
    · rename_i k; obtain rfl := Option.some.inj h; obtain ⟨ys, h1, h2⟩ := r; rw [h1, val1L_rel k h2]
    · simp at h
  · split at h
    · rename_i k; obtain rfl := Option.some.inj h; obtain ⟨ys, h1, h2⟩ := r; rw [h1, val1L_rel k h2]
    · simp at h
  · exact val1_rel h r
theorem vals_rel {ι : Inj} : ∀ {vs : List V} {xs ys : List Value}, V.vals vs = some ys → V.relL ι vs xs → xs = ys
  | [], _, _, h, r => by simp [V.vals] at h; subst h; exact r
  | v :: vs, _, _, h, ⟨x, xs, h1, h2, h3⟩ => by
    unfold V.vals at h
    split at h
    · rename_i k1 k2; obtain rfl := Option.some.inj h; subst h1; rw [val_rel k1 h2, vals_rel k2 h3]
    · simp at h
theorem rel_val1 {ι : Inj} {v : V} {y : Value} (h : v.val1 = some y) : v.rel ι y := by
  cases v <;> simp [V.val1] at h <;> (subst h; rfl)
theorem relL_val1L {ι : Inj} : ∀ {vs : List V} {ys : List Value}, V.val1L vs = some ys → V.relL ι vs ys
  | [], _, h => by simp [V.val1L] at h; subst h; rfl
  | v :: vs, _, h => by
    unfold V.val1L at h
    split at h
    · rename_i k1 k2; obtain rfl := Option.some.inj h; exact ⟨_, _, rfl, rel_val1 k1, relL_val1L k2⟩
    · simp at h
theorem rel_val {ι : Inj} {v : V} {y : Value} (h : v.val = some y) : v.rel ι y := by
  unfold V.val at h
  split at h
  · split at h
    · rename_i k; obtain rfl := Option.some.inj h; exact ⟨_, rfl, relL_val1L k⟩
    · simp at h
  · split at h
    · rename_i k; obtain rfl := Option.some.inj h; exact ⟨_, rfl, relL_val1L k⟩
    · simp at h
  · exact rel_val1 h
theorem relL_valsL {ι : Inj} : ∀ {vs : List V} {ys : List Value}, V.valT.valsL vs = some ys → V.relL ι vs ys
  | [], _, h => by simp [V.valT.valsL] at h; subst h; rfl
  | v :: vs, _, h => by
    unfold V.valT.valsL at h
    split at h
    · rename_i k1 k2; obtain rfl := Option.some.inj h; exact ⟨_, _, rfl, rel_val k1, relL_valsL k2⟩
    · simp at h
theorem rel_valT {ι : Inj} {v : V} {y : Value} (h : v.valT = some y) : v.rel ι y := by
  unfold V.valT at h
  split at h
  · split at h
    · rename_i k; obtain rfl := Option.some.inj h; exact ⟨_, rfl, relL_valsL k⟩
    · simp at h
  · exact rel_val h

/-! ### Memory -/
theorem look_setM : ∀ (m : Mem) (b : Nat) (u : Option Blk) (c : Nat), look (setM m b u) c = if c = b then u else look m c
  | [], b, none, c => by simp [setM, look]
  | [], b, some k, c => by
    simp only [setM, look]
    by_cases h : c = b
    · subst h; simp
    · simp [h, beqF (Ne.symm h)]
  | (i, k0) :: m, b, none, c => by
    have ih := look_setM m b none c
    simp only [setM]
    by_cases hi : i = b
    · subst hi
      have : Nat.beq i i = true := Nat.beq_refl i
      simp only [this, cond_true, ih, look]
      by_cases h : c = i
      · simp [h]
      · have e : Nat.beq i c = false := beqF (Ne.symm h)
        simp [h, e]
    · have e : Nat.beq i b = false := beqF hi
      simp only [e, cond_false, look]
      by_cases h : c = i
      · subst h
        simp [hi]
      · have e' : Nat.beq i c = false := beqF (Ne.symm h)
        simp [e', ih]
  | (i, k0) :: m, b, some k, c => by
    have ih := look_setM m b (some k) c
    simp only [setM]
    by_cases hi : i = b
    · subst hi
      have : Nat.beq i i = true := Nat.beq_refl i
      simp only [this, cond_true, look]
      by_cases h : c = i
      · simp [h]
      · have e : Nat.beq i c = false := beqF (Ne.symm h)
        simp [h, e]
    · have e : Nat.beq i b = false := beqF hi
      simp only [e, cond_false, look]
      by_cases h : c = i
      · subst h
        simp [hi]
      · have e' : Nat.beq i c = false := beqF (Ne.symm h)
        simp [e', ih]
theorem look_appU (m : Mem) : ∀ (us : Upd) (c : Nat), look (appU m us) c = match lookU us c with | some u => u | none => look m c
  | [], _ => rfl
  | (b, u) :: us, c => by
    simp only [appU, look_setM, lookU]
    by_cases h : c = b
    · subst h; simp
    · have e : Nat.beq b c = false := beqF (Ne.symm h)
      simp [h, e, look_appU m us c]
theorem memN_iff {b : Nat} : ∀ {l : List Nat}, memN b l = true ↔ b ∈ l
  | [] => by simp [memN]
  | x :: xs => by simp [memN, memN_iff (l := xs)]
theorem look_restrL : ∀ (m : Mem) (R : List Nat) (b : Nat), look (restrL m R) b = if b ∈ R then look m b else none
  | [], _, _ => by simp [restrL, look]
  | (i, k) :: m, R, b => by
    have ih := look_restrL m R b
    simp only [restrL]
    by_cases hi : i ∈ R
    · simp only [memN_iff.mpr hi, cond_true, look]
      by_cases h : i = b
      · subst h; simp [hi]
      · have e : Nat.beq i b = false := beqF h
        simp [e, ih]
    · have hm : memN i R = false := by cases hh : memN i R with | false => rfl | true => exact absurd (memN_iff.mp hh) hi
      simp only [hm, cond_false, look, ih]
      by_cases h : i = b
      · subst h; simp [hi]
      · have e : Nat.beq i b = false := beqF h
        simp [e]

def BlkRel (P : Program) (ι : Inj) (k : Blk) (l : Loc) (w : World) : Prop :=
  ∃ pre xs ys zs fr, w.heap[l.r]? = some (.cells (pre ++ (xs ++ (ys ++ zs))).toArray k.elem fr) ∧ pre.length = l.base ∧ V.relL ι k.cells xs ∧
    xs.length + ys.length = l.c * P.cellsOf k.elem ∧ (∀ o, l.base ≤ o → o < l.base + l.c * P.cellsOf k.elem → ¬ (fr.1 ≤ o ∧ o < fr.2)) ∧ allOne k.cells = true

def GRel (G : Nat → Option (List V × TypeId)) (w : World) : Prop :=
  ∀ g cs t, G g = some (cs, t) → ∃ xs fr, w.heap[g]? = some (.cells xs.toArray t fr) ∧ V.relL (fun _ => none) cs xs

abbrev MemF := Nat → Option Blk

structure Sim (C : Cfg) (ι : Inj) (M : MemF) (w : World) : Prop where
  glob : GRel C.G w
  blk : ∀ b k, M b = some k → ∃ l, ι b = some l ∧ BlkRel C.P ι k l w
  inj : ∀ b b' k k' l l', M b = some k → k.ro = false → M b' = some k' → ι b = some l → ι b' = some l' → l.r = l'.r → b = b'
  gsep : ∀ b k l, M b = some k → k.ro = false → ι b = some l → C.G l.r = none

/-- The real blocks that may be written. -/
def Fp (M : MemF) (ι : Inj) (r : Nat) : Prop := ∃ b k l, M b = some k ∧ k.ro = false ∧ ι b = some l ∧ l.r = r

structure Frame' (F : Nat → Prop) (w w' : World) : Prop where
  os : w'.os = w.os
  tape : w'.tape = w.tape
  output : w'.output = w.output
  size : w.heap.size ≤ w'.heap.size
  block : ∀ k, k < w.heap.size → ¬ F k → w'.heap[k]? = w.heap[k]?

/-- From one state to a later one: the numbers below n mean what they meant; nothing else has been written; what is held now was held or is new. -/
structure Prog (n : Nat) (M : MemF) (ι : Inj) (w : World) (M' : MemF) (ι' : Inj) (w' : World) : Prop where
  ext : ∀ b, b < n → ι' b = ι b
  frame : Frame' (Fp M ι) w w'
  news : ∀ b k l, M' b = some k → k.ro = false → ι' b = some l → Fp M ι l.r ∨ w.heap.size ≤ l.r
  old : ∀ b k, b < n → M' b = some k → ∃ k0, M b = some k0 ∧ k0.ro = k.ro
  ros : ∀ b k, M' b = some k → k.ro = true → ∃ b0 k0, M b0 = some k0 ∧ k0.ro = true ∧ ι' b = ι b0

theorem Frame'.refl (F : Nat → Prop) (w : World) : Frame' F w w := ⟨rfl, rfl, rfl, Nat.le_refl _, fun _ _ _ => rfl⟩
theorem Prog.refl (n : Nat) (M : MemF) (ι : Inj) (w : World) : Prog n M ι w M ι w :=
  ⟨fun _ _ => rfl, Frame'.refl _ w, fun b k l h1 h2 h3 => .inl ⟨b, k, l, h1, h2, h3, rfl⟩, fun _ k _ h => ⟨k, h, rfl⟩, fun b k h hr => ⟨b, k, h, hr, rfl⟩⟩
theorem Prog.trans {n n' : Nat} {M M' M'' : MemF} {ι ι' ι'' : Inj} {w w' w'' : World} (hn : n ≤ n') (h : Prog n M ι w M' ι' w') (k : Prog n' M' ι' w' M'' ι'' w'') : Prog n M ι w M'' ι'' w'' := by
  refine ⟨fun b hb => (k.ext b (Nat.lt_of_lt_of_le hb hn)).trans (h.ext b hb), ⟨k.frame.os.trans h.frame.os, k.frame.tape.trans h.frame.tape, k.frame.output.trans h.frame.output, Nat.le_trans h.frame.size k.frame.size, ?_⟩, ?_, ?_, fun b kb h1 h2 => let ⟨b1, k1, g1, g2, g3⟩ := k.ros b kb h1 h2; let ⟨b0, k0, f1, f2, f3⟩ := h.ros b1 k1 g1 g2; ⟨b0, k0, f1, f2, g3.trans f3⟩⟩
  · intro i hi hF
    rw [k.frame.block i (Nat.lt_of_lt_of_le hi h.frame.size) ?_, h.frame.block i hi hF]
    rintro ⟨b, kb, l, h1, h2, h3, rfl⟩
    rcases h.news b kb l h1 h2 h3 with h4 | h4
    · exact hF h4
    · omega
  · intro b kb l h1 h2 h3
    rcases k.news b kb l h1 h2 h3 with ⟨b', k', l', g1, g2, g3, g4⟩ | h4
    · rw [← g4]; exact h.news b' k' l' g1 g2 g3
    · right; have := h.frame.size; omega
  · intro b kb hb h1
    obtain ⟨k1, g1, g2⟩ := k.old b kb (Nat.lt_of_lt_of_le hb hn) h1
    obtain ⟨k0, f1, f2⟩ := h.old b k1 hb g1
    exact ⟨k0, f1, f2.trans g2⟩

theorem Sim.sub {C : Cfg} {ι : Inj} {M M' : MemF} {w : World} (h : Sim C ι M w) (hs : ∀ b k, M' b = some k → M b = some k) : Sim C ι M' w :=
  ⟨h.glob, fun b k hk => h.blk b k (hs b k hk), fun b b' k k' l l' h1 h2 h3 => h.inj b b' k k' l l' (hs _ _ h1) h2 (hs _ _ h3), fun b k l h1 => h.gsep b k l (hs _ _ h1)⟩

theorem addr_add (r o n : Nat) : (⟨r, o, none⟩ : Addr).add n = ⟨r, o + n, none⟩ := by
  unfold Addr.add; split
  · subst_vars; simp
  · rfl

theorem BlkRel.cell {P : Program} {ι : Inj} {k : Blk} {l : Loc} {w : World} (h : BlkRel P ι k l w) {j : Nat} {v : V} (hv : nth k.cells j = some v) :
    ∃ x, w.cell? ⟨l.r, l.base + j, none⟩ = some x ∧ v.rel ι x := by
  obtain ⟨pre, xs, ys, zs, fr, h1, h2, h3, _⟩ := h
  obtain ⟨x, hx, hr⟩ := relL_nth h3 hv
  refine ⟨x, ?_, hr⟩
  have hj : j < xs.length := by
    rcases Nat.lt_or_ge j xs.length with h | h
    · exact h
    · rw [List.getElem?_eq_none h] at hx; cases hx
  simp only [World.cell?, h1]
  simp only [List.getElem?_toArray, Option.isSome_none, Bool.false_eq_true, if_false]
  rw [← h2, List.getElem?_append_right (by omega), show pre.length + j - pre.length = j by omega, List.getElem?_append_left hj, hx]

theorem run_isAgg {P : Program} {t : TypeId} {b : Bool} (h : aggB P t = some b) (w : World) : (isAgg t).run P w = .ok b w := by
  unfold aggB at h
  split at h
  · rename_i fs hu; obtain rfl := Option.some.inj h; simp [isAgg, underlying, hu]
  · rename_i n e hu; obtain rfl := Option.some.inj h; simp [isAgg, underlying, hu]
  · rename_i d hn1 hn2 hu
    obtain rfl := Option.some.inj h
    simp only [isAgg, underlying, Sem.run_bind, run_program, Result.andThen_ok, hu, Sem.run_pure]
  · cases h
theorem run_sizeOf {P : Program} {t : TypeId} {n : Nat} (h : sizeB P t = some n) (w : World) : (sizeOf t).run P w = .ok n w := by
  unfold sizeB at h
  split at h
  · rename_i i hi; obtain rfl := Option.some.inj h; simp [sizeOf, typeInfo, hi]
  · cases h
theorem cellsOf_sizeB {P : Program} {t : TypeId} {n : Nat} (h : sizeB P t = some n) : P.cellsOf t = n := by
  unfold sizeB at h
  split at h
  · rename_i i hi; obtain rfl := Option.some.inj h; simp [Program.cellsOf, hi]
  · cases h
theorem run_zero {P : Program} {t : TypeId} {v : V} (h : zeroB P t = some v) (w : World) : ∃ x, (zeroValue t).run P w = .ok x w ∧ ∀ ι, v.rel ι x := by
  unfold zeroB at h
  split at h
  · rename_i i hi
    split at h
    · rename_i z hz; exact ⟨z, by simp [zeroValue, typeInfo, hi, hz], fun ι => ofVal_rel h⟩
    · cases h
  · cases h

theorem nth_take_drop : ∀ (cs : List V) (off n j : Nat), nth (takeV n (dropV off cs)) j = if j < n then nth cs (off + j) else none := by
  intro cs off
  induction off generalizing cs with
  | zero =>
    intro n j
    simp only [dropV, Nat.zero_add]
    induction cs generalizing n j with
    | nil => cases n <;> cases j <;> simp [takeV, nth]
    | cons c cs ih =>
      cases n with
      | zero => simp [takeV, nth]
      | succ n => cases j with
        | zero => simp [takeV, nth]
        | succ j => simp [takeV, nth, ih]
  | succ off ih =>
    intro n j
    cases cs with
    | nil => simp only [dropV]; cases n <;> simp [takeV, nth]
    | cons c cs => simp only [dropV, ih, show off + 1 + j = (off + j) + 1 by omega, nth]
theorem nth_lt : ∀ {cs : List V} {j : Nat}, j < cs.length → ∃ v, nth cs j = some v
  | [], _, h => by simp at h
  | c :: _, 0, _ => ⟨c, rfl⟩
  | _ :: cs, j + 1, h => by simpa [nth] using nth_lt (cs := cs) (by simpa using h)

/-- Cells that read one by one read together. -/
theorem run_cells {P : Program} {ι : Inj} {w : World} {a : Addr} : ∀ {vs : List V}, (∀ j v, nth vs j = some v → ∃ x, w.cell? (a.add j) = some x ∧ v.rel ι x) →
    ∃ xs, (loadCells a vs.length).run P w = .ok xs.toArray w ∧ V.relL ι vs xs := by
  intro vs h
  have key : ∀ (vs : List V) (n : Nat), (∀ j v, nth vs j = some v → ∃ x, w.cell? (a.add (n + j)) = some x ∧ v.rel ι x) →
      ∃ xs : List Value, xs.length = vs.length ∧ (∀ j v, xs[j]? = some v → w.cell? (a.add (n + j)) = some v) ∧ V.relL ι vs xs := by
    intro vs
    induction vs with
    | nil => intro n _; exact ⟨[], rfl, by simp, rfl⟩
    | cons v vs ih =>
      intro n h
      obtain ⟨x, hx, hr⟩ := h 0 v rfl
      obtain ⟨xs, h1, h2, h3⟩ := ih (n + 1) (fun j u hj => by have := h (j + 1) u (by simpa [nth] using hj); rwa [show n + (j + 1) = n + 1 + j by omega] at this)
      refine ⟨x :: xs, by simp [h1], ?_, ⟨x, xs, rfl, hr, h3⟩⟩
      intro j u hj
      cases j with
      | zero => simp at hj; subst hj; simpa using hx
      | succ j => rw [show n + (j + 1) = n + 1 + j by omega]; exact h2 j u (by simpa using hj)
  obtain ⟨xs, h1, h2, h3⟩ := key vs 0 (fun j v hv => by simpa using h j v hv)
  refine ⟨xs, ?_, h3⟩
  rw [← h1]
  exact run_loadCells_list w a xs (fun j v hv => by simpa using h2 j v hv)

theorem run_readV {P : Program} {ι : Inj} {w : World} {cs : List V} {t : TypeId} {off : Nat} {v : V} {r base : Nat}
    (hc : ∀ j v, nth cs j = some v → ∃ x, w.cell? ⟨r, base + j, none⟩ = some x ∧ v.rel ι x) (h : readV P t cs off = some v) :
    ∃ x, (loadVar t ⟨r, base + off, none⟩).run P w = .ok x w ∧ v.rel ι x := by
  unfold readV at h
  split at h
  · rename_i n h1 h2
    cases hb : Nat.ble (off + n) cs.length with
    | false => simp [hb] at h
    | true =>
      simp only [hb, cond_true] at h
      obtain rfl := Option.some.inj h
      have hlen : (takeV n (dropV off cs)).length = n := by
        have := Nat.le_of_ble_eq_true hb
        rw [takeV_length, dropV_length]; omega
      obtain ⟨xs, k1, k2⟩ := run_cells (P := P) (ι := ι) (w := w) (a := ⟨r, base + off, none⟩) (vs := takeV n (dropV off cs)) (fun j u hj => by
        rw [nth_take_drop] at hj
        split at hj
        · rw [addr_add, Nat.add_assoc]; exact hc _ _ hj
        · cases hj)
      rw [hlen] at k1
      exact ⟨.agg xs.toArray, by simp [loadVar, run_isAgg h1, run_sizeOf h2, k1], ⟨xs, rfl, k2⟩⟩
  · rename_i n h1 h2
    obtain ⟨x, k1, k2⟩ := hc off v h
    exact ⟨x, by simp [loadVar, run_isAgg h1, k1], k2⟩
  · cases h

/-! ### A block is written -/
def setBlk (w : World) (r : Nat) (o : Obj) : World := { w with heap := w.heap.setIfInBounds r o }
theorem setBlk_heap (w : World) (r : Nat) (o : Obj) (i : Nat) : (setBlk w r o).heap[i]? = if i = r ∧ r < w.heap.size then some o else w.heap[i]? := by
  simp only [setBlk, Array.getElem?_setIfInBounds]
  by_cases h : r = i
  · subst h
    by_cases hs : r < w.heap.size
    · simp [hs]
    · simp [hs]
  · simp [h, Ne.symm h]
theorem setBlk_size (w : World) (r : Nat) (o : Obj) : (setBlk w r o).heap.size = w.heap.size := by simp [setBlk]
theorem lt_of_heap {w : World} {r : Nat} {o : Obj} (h : w.heap[r]? = some o) : r < w.heap.size := by
  rcases Nat.lt_or_ge r w.heap.size with h' | h'
  · exact h'
  · rw [Array.getElem?_eq_none h'] at h; cases h
theorem setCell_eq {w : World} {r off : Nat} {A : List Value} {e : TypeId} {fr : Nat × Nat} {x : Value} (h : w.heap[r]? = some (.cells A.toArray e fr)) :
    w.setCell ⟨r, off, none⟩ x = setBlk w r (.cells (A.set off x).toArray e fr) := by
  unfold World.setCell setBlk
  congr 1
  apply Array.ext_getElem?
  intro i
  simp only [Array.getElem?_modify, Array.getElem?_setIfInBounds]
  by_cases hi : r = i
  · subst hi
    have hl := lt_of_heap h
    rw [if_pos rfl, if_pos rfl, if_pos hl, h]
    simp
  · simp [hi]
theorem setBlk_setBlk (w : World) (r : Nat) (o o' : Obj) : setBlk (setBlk w r o) r o' = setBlk w r o' := by
  simp [setBlk]
theorem setBlk_same {w : World} {r : Nat} {o : Obj} (h : w.heap[r]? = some o) : setBlk w r o = w := by
  have : w.heap.setIfInBounds r o = w.heap := by
    apply Array.ext_getElem?
    intro i
    simp only [Array.getElem?_setIfInBounds]
    by_cases hi : r = i
    · subst hi; rw [if_pos rfl, if_pos (lt_of_heap h), h]
    · simp [hi]
  unfold setBlk
  rw [this]

theorem run_storeCells {P : Program} : ∀ (vs : List Value) (i : Nat) (w : World) (r off : Nat) (A : List Value) (e : TypeId) (fr : Nat × Nat),
    w.heap[r]? = some (.cells A.toArray e fr) → off + i + vs.length ≤ A.length → (∀ o, off + i ≤ o → o < off + i + vs.length → ¬ (fr.1 ≤ o ∧ o < fr.2)) → (∀ v ∈ vs, v.oneCell' = true) →
    (storeCells ⟨r, off, none⟩ vs i).run P w = .ok () (setBlk w r (.cells (A.take (off + i) ++ (vs ++ A.drop (off + i + vs.length))).toArray e fr))
  | [], i, w, r, off, A, e, fr, h, _, _, _ => by
    simp only [storeCells, Sem.run_pure, List.nil_append, List.length_nil, Nat.add_zero, List.take_append_drop]
    rw [setBlk_same h]
  | v :: vs, i, w, r, off, A, e, fr, h, hl, hf, ho => by
    have hl' : off + i + (vs.length + 1) ≤ A.length := by simpa using hl
    have hc : w.cell? ⟨r, off + i, none⟩ = some (A[off + i]'(by omega)) := by
      simp [World.cell?, h]
    have hz : w.frozen? ⟨r, off + i, none⟩ = false := by
      have := hf (off + i) (Nat.le_refl _) (by simp)
      simp only [World.frozen?, h]
      simpa using this
    simp only [storeCells, Sem.run_bind, addr_add]
    rw [run_store P w _ v .plain (ho v (by simp)), hc]
    simp only [hz, Bool.false_eq_true, if_false, Result.andThen_ok]
    rw [setCell_eq h]
    have hb : (setBlk w r (.cells (A.set (off + i) v).toArray e fr)).heap[r]? = some (.cells (A.set (off + i) v).toArray e fr) := by
      rw [setBlk_heap]; simp [lt_of_heap h]
    rw [run_storeCells vs (i + 1) _ r off (A.set (off + i) v) e fr hb (by simp; omega) (fun o h1 h2 => hf o (by omega) (by simp; omega)) (fun u hu => ho u (by simp [hu]))]
    rw [setBlk_setBlk]
    have e1 : (A.set (off + i) v).take (off + (i + 1)) = A.take (off + i) ++ [v] := by
      rw [List.set_eq_take_append_cons_drop, if_pos (by omega), List.take_append, List.length_take, List.take_take]
      rw [show min (off + (i + 1)) (off + i) = off + i by omega, show off + (i + 1) - min (off + i) A.length = 1 by omega]
      simp
    have e2 : (A.set (off + i) v).drop (off + (i + 1) + vs.length) = A.drop (off + i + (vs.length + 1)) := by
      rw [List.set_eq_take_append_cons_drop, if_pos (by omega), List.drop_append, List.length_take, List.drop_eq_nil_of_le (by simp; omega)]
      rw [show off + (i + 1) + vs.length - min (off + i) A.length = vs.length + 1 by omega]
      simp only [List.nil_append, List.drop_succ_cons, List.drop_drop]
      congr 1; omega
    rw [e1, e2]
    simp

structure Cfg.Ok (C : Cfg) : Prop where
  mixed : C.P.follows .mixedOrders = true
  noNG : ∀ (f : Nat) (fn : Func), C.P.funcs[f]? = some fn → fn.body.isSome = true → (fn.name == "runtime.NumGoroutine") = false
  eq : ∀ t, C.eqT t = true → C.P.stoodInHeld t = false ∧ C.P.eqGuardType C.P.depth t = false
  orc : ∀ f args m v, C.O f args m = some (true, v) → ∀ w ι xs, (∀ b l, ι b = some l → ∃ n, b < n) → Sim C ι (look m) w → V.relL ι args xs →
    Calls C.P f xs.toArray w fun e w' => ∃ y, e = .returned y ∧ v.rel (fun _ => none) y ∧ Below w.heap.size w w'

theorem catB_eq (x y : ByteArray) : catB x y = x ++ y := by
  apply ByteArray.ext
  apply Array.ext'
  simp [catB]
theorem subB_eq (s : ByteArray) (l h : Nat) : subB s l h = s.extract l h := by
  apply ByteArray.ext
  apply Array.ext'
  simp [subB]
theorem run_und {P : Program} {t : TypeId} {d : TypeDesc} (h : P.underlying t = some d) (w : World) : (underlying t).run P w = .ok d w := by simp [underlying, h]

theorem run_partV {P : Program} {ι : Inj} {t : TypeId} {cs : List V} {off : Nat} {v : V} {xs : List Value} (h : partV P t cs off = some v) (r : V.relL ι cs xs) (w : World) :
    ∃ x, (part t xs.toArray off).run P w = .ok x w ∧ v.rel ι x := by
  unfold partV at h
  split at h
  · rename_i n h1 h2
    obtain rfl := Option.some.inj h
    refine ⟨.agg (xs.toArray.extract off (off + n)), by simp [part, run_isAgg h1, run_sizeOf h2], (xs.drop off).take n, ?_, relL_take (relL_drop r)⟩
    simp
  · rename_i n h1 h2
    obtain ⟨x, k1, k2⟩ := relL_nth r h
    exact ⟨x, by simp [part, run_isAgg h1, k1], k2⟩
  · cases h

theorem run_evEq {C : Cfg} (hC : C.Ok) {ι : Inj} (w : World) : ∀ (d : Nat) (t : TypeId) (x y : V) (x' y' : Value) (b : Bool), evEq C d t x y = some b → x.rel ι x' → y.rel ι y' →
    ∀ D, d ≤ D → (Op.equalIn D t x' y').run C.P w = .ok b w := by
  intro d
  induction d with
  | zero => intro t x y x' y' b h; simp [evEq] at h
  | succ d ih =>
    intro t x y x' y' b h rx ry D hD
    obtain ⟨D, rfl⟩ : ∃ k, D = k + 1 := ⟨D - 1, by omega⟩
    have hD' : d ≤ D := by omega
    unfold evEq at h
    split at h
    · rename_i hu; obtain rfl := Option.some.inj h
      have rx' : x' = _ := rx; have ry' : y' = _ := ry; subst rx' ry'
      exact run_equalIn_bool w D t _ _ hu
    · rename_i hu
      split at h
      · rename_i hk; obtain rfl := Option.some.inj h
        have rx' : x' = _ := rx; have ry' : y' = _ := ry; subst rx' ry' hk
        exact run_equalIn_int w D t _ _ _ _ hu
      · cases h
    · rename_i hu; obtain rfl := Option.some.inj h
      have rx' : x' = _ := rx; have ry' : y' = _ := ry; subst rx' ry'
      rw [← ByteArray.toList_eq, ← ByteArray.toList_eq]
      exact run_equalIn_string w D t _ _ hu
    · rename_i fs xs ys hu
      split at h
      · rename_i he
        obtain ⟨hs, _⟩ := hC.eq t he
        obtain ⟨xs', rfl, rx⟩ := rx
        obtain ⟨ys', rfl, ry⟩ := ry
        have hf : C.P.fieldsOf t = fs := by simp [Program.fieldsOf, hu]
        rw [run_equalIn_struct w D t _ _ (by rw [hf]; exact hu) hs, hf]
        clear hf hu
        generalize fs.toList = l at h
        induction l generalizing b with
        | nil => simp [eqF] at h; subst h; simp [Op.eqFields]
        | cons f l ihl =>
          unfold eqF at h
          split at h
          · cases h
          · rename_i hn
            split at h
            · rename_i a c h1 h2
              split at h
              · rename_i r s h3 h4
                obtain rfl := Option.some.inj h
                obtain ⟨a', k1, k2⟩ := run_partV h1 rx w
                obtain ⟨c', k3, k4⟩ := run_partV h2 ry w
                have k5 := ih _ _ _ _ _ _ h3 k2 k4 D hD'
                have k6 := ihl s h4
                unfold Op.eqFields
                rw [if_pos hn]
                simp only [Sem.run_bind, k1, k3, k5, Result.andThen_ok]
                cases r
                · simp
                · simp [k6]
              · cases h
            · cases h
      · cases h
    · rename_i hu; obtain rfl := Option.some.inj h
      have rx' : x' = _ := rx; have ry' : y' = _ := ry; subst rx' ry'
      simp [Op.equalIn, run_und hu]
    · rename_i hu; obtain rfl := Option.some.inj h
      have rx' : x' = _ := rx; subst rx'
      obtain ⟨_, _, _, _, _, ry', _⟩ := ry; subst ry'
      simp [Op.equalIn, run_und hu]
    · rename_i hu; obtain rfl := Option.some.inj h
      have ry' : y' = _ := ry; subst ry'
      obtain ⟨_, _, _, _, _, rx', _⟩ := rx; subst rx'
      simp [Op.equalIn, run_und hu]
    · rename_i hu; obtain rfl := Option.some.inj h
      have rx' : x' = _ := rx; have ry' : y' = _ := ry; subst rx' ry'
      simp [Op.equalIn, run_und hu]
    · rename_i hu; obtain rfl := Option.some.inj h
      have rx' : x' = _ := rx; subst rx'
      obtain ⟨_, _, ry'⟩ := ry; subst ry'
      simp [Op.equalIn, run_und hu]
    · rename_i hu; obtain rfl := Option.some.inj h
      have ry' : y' = _ := ry; subst ry'
      obtain ⟨_, _, rx'⟩ := rx; subst rx'
      simp [Op.equalIn, run_und hu]
    · rename_i hu; obtain rfl := Option.some.inj h
      have rx' : x' = _ := rx; have ry' : y' = _ := ry; subst rx' ry'
      simp [Op.equalIn, run_und hu]
    · rename_i hu; obtain rfl := Option.some.inj h
      have rx' : x' = _ := rx; subst rx'
      obtain ⟨_, rfl, _⟩ := ry
      simp [Op.equalIn, run_und hu]
    · rename_i hu; obtain rfl := Option.some.inj h
      have ry' : y' = _ := ry; subst ry'
      obtain ⟨_, rfl, _⟩ := rx
      simp [Op.equalIn, run_und hu]
    · rename_i tx vx ty vy hu
      obtain ⟨zx, rfl, rx⟩ := rx
      obtain ⟨zy, rfl, ry⟩ := ry
      split at h
      · rename_i ht; subst ht
        split at h
        · rename_i i hi
          split at h
          · rename_i hc
            have k := ih _ _ _ _ _ _ h rx ry D hD'
            simp [Op.equalIn, run_und hu, typeInfo, hi, hc, k]
          · cases h
        · cases h
      · rename_i ht
        obtain rfl := Option.some.inj h
        simp [Op.equalIn, run_und hu, ht]
    · cases h

theorem guard_scal {P : Program} {op : BinOp} {t : TypeId} {ox oy : Operand} {x y : Value} (w : World) (h1 : ∀ a b, ¬ (x = .agg a ∧ y = .agg b)) (h2 : ¬ (x = .nilIface ∧ y = .nilIface)) :
    (eqGuard op t ox oy x y).run P w = .ok () w := by
  unfold eqGuard
  cases op
  case eql =>
    simp only [Bool.not_true, Bool.false_eq_true, if_false]
    show Sem.run P (match x, y with
      | Value.nilIface, Value.nilIface => _
      | Value.agg _, Value.agg _ => _
      | _, _ => pure ()) w = _
    split
    · exact absurd ⟨rfl, rfl⟩ h2
    · exact absurd ⟨rfl, rfl⟩ (h1 _ _)
    · rfl
  case neq =>
    simp only [Bool.not_true, Bool.false_eq_true, if_false]
    show Sem.run P (match x, y with
      | Value.nilIface, Value.nilIface => _
      | Value.agg _, Value.agg _ => _
      | _, _ => pure ()) w = _
    split
    · exact absurd ⟨rfl, rfl⟩ h2
    · exact absurd ⟨rfl, rfl⟩ (h1 _ _)
    · rfl
  all_goals rfl

theorem guard_const {P : Program} {op : BinOp} {t : TypeId} {ox oy : Operand} (w : World) (h : (isConst ox || isConst oy) = true) :
    (eqGuard op t ox oy .nilIface .nilIface).run P w = .ok () w := by
  have e : ∀ o : Operand, isConst o = true → ∃ v, o = .const v := by intro o; cases o <;> simp [isConst]
  have hc : (∃ v, ox = .const v) ∨ (∃ v, oy = .const v) := by
    rcases Bool.or_eq_true_iff.1 h with h | h
    · exact .inl (e _ h)
    · exact .inr (e _ h)
  unfold eqGuard
  rcases hc with ⟨v, rfl⟩ | ⟨v, rfl⟩
  · cases op <;> simp
  · cases op <;> cases ox <;> simp
theorem run_evInt {P : Program} {op : BinOp} {k : IntKind} {a b : Int} {v : V} {ι : Inj} (t : TypeId) (h : (evInt op k a b).run = some v) (w : World) :
    ∃ z, (binOp op t (.int k a) (.int k b)).run P w = .ok z w ∧ v.rel ι z := by
  cases op <;> simp only [evInt, Tree.run, Option.some.injEq, reduceCtorEq] at h
  case quo =>
    cases hb : b == 0 with
    | true => simp [hb] at h
    | false =>
      have hb' : b ≠ 0 := by simpa using hb
      simp [hb] at h; subst h
      exact ⟨_, by simp [binOp, Op.intDiv, hb'], rfl⟩
  case rem =>
    cases hb : b == 0 with
    | true => simp [hb] at h
    | false =>
      have hb' : b ≠ 0 := by simpa using hb
      simp [hb] at h; subst h
      exact ⟨_, by simp [binOp, Op.intDiv, hb'], rfl⟩
  all_goals (subst h; exact ⟨_, by simp [binOp, Op.intArith, Op.intBits, Op.intCmp], rfl⟩)

theorem run_evBin {C : Cfg} (hC : C.Ok) {ι : Inj} {op : BinOp} {t : TypeId} {x y v : V} {x' y' : Value} (ox oy : Operand) (h : (evBin C op t (isConst ox || isConst oy) x y).run = some v) (rx : x.rel ι x') (ry : y.rel ι y') (w : World) :
    ∃ z, (do eqGuard op t ox oy x' y'; binOp op t x' y').run C.P w = .ok z w ∧ v.rel ι z := by
  unfold evBin at h
  split at h
  · rename_i k a k' b
    have rx' : x' = _ := rx; have ry' : y' = _ := ry; subst rx' ry'
    have hg := guard_scal (P := C.P) (op := op) (t := t) (ox := ox) (oy := oy) (x := .int k a) (y := .int k' b) w (by simp) (by simp)
    simp only [Sem.run_bind, hg, Result.andThen_ok]
    split at h
    · simp only [evShift, Tree.run] at h
      cases hb : decide (b < 0) with
      | true => simp [hb] at h
      | false =>
        have hb' : ¬ b < 0 := of_decide_eq_false hb
        simp [hb'] at h; subst h
        exact ⟨_, by simp [binOp, Op.shift, hb'], rfl⟩
    · simp only [evShift, Tree.run] at h
      cases hb : decide (b < 0) with
      | true => simp [hb] at h
      | false =>
        have hb' : ¬ b < 0 := of_decide_eq_false hb
        simp [hb'] at h; subst h
        exact ⟨_, by simp [binOp, Op.shift, hb'], rfl⟩
    · rename_i hn1 hn2
      split at h
      · rename_i hk; subst hk; exact run_evInt t h w
      · simp [Tree.run] at h
  · rename_i a b
    have rx' : x' = _ := rx; have ry' : y' = _ := ry; subst rx' ry'
    have hg := guard_scal (P := C.P) (op := op) (t := t) (ox := ox) (oy := oy) (x := .string a) (y := .string b) w (by simp) (by simp)
    simp only [Sem.run_bind, hg, Result.andThen_ok]
    cases op <;> simp only [evStr, Tree.run, Option.some.injEq, reduceCtorEq] at h
    case add =>
      cases hb : decide (((a.size + b.size : Nat) : Int) > IntKind.i64.max) with
      | true => simp only [hb, cond_true, reduceCtorEq] at h
      | false =>
        have hb' : ¬ (((a.size + b.size : Nat) : Int) > IntKind.i64.max) := of_decide_eq_false hb
        simp only [hb, cond_false, Option.some.injEq] at h; subst h
        exact ⟨.string (a ++ b), by simp only [binOp, Op.stringOp, if_neg hb', Sem.run_pure], by rw [catB_eq]; rfl⟩
    all_goals (subst h; exact ⟨_, by simp only [binOp, Op.stringOp, ByteArray.toList_eq, Sem.run_pure], rfl⟩)
  · rename_i hn1 hn2
    have fin : ∀ b, guardOk (isConst ox || isConst oy) x y = true → evEq C 20 t x y = some b → (eqGuard op t ox oy x' y').run C.P w = .ok () w ∧ (op = .eql → (binOp op t x' y').run C.P w = .ok (.bool b) w) ∧ (op = .neq → (binOp op t x' y').run C.P w = .ok (.bool !b) w) := by
      intro b hgd hb
      have he : (Op.equal t x' y').run C.P w = .ok b w := run_evEq hC w 20 t x y x' y' b hb rx ry 10000 (by decide)
      unfold evEq at hb
      split at hb
      all_goals first | (cases hb; done) | skip
      · have rx' : x' = _ := rx; have ry' : y' = _ := ry; subst rx' ry'
        exact ⟨guard_scal w (by simp) (by simp), by rintro rfl; simp [binOp, he], by rintro rfl; simp [binOp, he]⟩
      · exact absurd rfl (hn1 _ _ _ _ rfl)
      · exact absurd rfl (hn2 _ _ rfl)
      · split at hb
        · rename_i ht
          obtain ⟨_, hg⟩ := hC.eq t ht
          obtain ⟨xs', rfl, _⟩ := rx
          obtain ⟨ys', rfl, _⟩ := ry
          exact ⟨run_eqGuard_agg w op t ox oy _ _ hg, by rintro rfl; simp [binOp, he], by rintro rfl; simp [binOp, he]⟩
        · cases hb
      · have rx' : x' = _ := rx; have ry' : y' = _ := ry; subst rx' ry'
        exact ⟨guard_scal w (by simp) (by simp), by rintro rfl; simp [binOp, he], by rintro rfl; simp [binOp, he]⟩
      · have rx' : x' = _ := rx; subst rx'
        obtain ⟨_, _, _, _, _, ry', _⟩ := ry; subst ry'
        exact ⟨guard_scal w (by simp) (by simp), by rintro rfl; simp [binOp, he], by rintro rfl; simp [binOp, he]⟩
      · have ry' : y' = _ := ry; subst ry'
        obtain ⟨_, _, _, _, _, rx', _⟩ := rx; subst rx'
        exact ⟨guard_scal w (by simp) (by simp), by rintro rfl; simp [binOp, he], by rintro rfl; simp [binOp, he]⟩
      · have rx' : x' = _ := rx; have ry' : y' = _ := ry; subst rx' ry'
        exact ⟨guard_scal w (by simp) (by simp), by rintro rfl; simp [binOp, he], by rintro rfl; simp [binOp, he]⟩
      · have rx' : x' = _ := rx; subst rx'
        obtain ⟨_, _, ry'⟩ := ry; subst ry'
        exact ⟨guard_scal w (by simp) (by simp), by rintro rfl; simp [binOp, he], by rintro rfl; simp [binOp, he]⟩
      · have ry' : y' = _ := ry; subst ry'
        obtain ⟨_, _, rx'⟩ := rx; subst rx'
        exact ⟨guard_scal w (by simp) (by simp), by rintro rfl; simp [binOp, he], by rintro rfl; simp [binOp, he]⟩
      · have rx' : x' = _ := rx; have ry' : y' = _ := ry; subst rx' ry'
        exact ⟨guard_const w hgd, by rintro rfl; simp [binOp, he], by rintro rfl; simp [binOp, he]⟩
      · have rx' : x' = _ := rx; subst rx'
        obtain ⟨_, rfl, _⟩ := ry
        exact ⟨guard_scal w (by simp) (by simp), by rintro rfl; simp [binOp, he], by rintro rfl; simp [binOp, he]⟩
      · have ry' : y' = _ := ry; subst ry'
        obtain ⟨_, rfl, _⟩ := rx
        exact ⟨guard_scal w (by simp) (by simp), by rintro rfl; simp [binOp, he], by rintro rfl; simp [binOp, he]⟩
      · obtain ⟨_, rfl, _⟩ := rx
        obtain ⟨_, rfl, _⟩ := ry
        exact ⟨guard_scal w (by simp) (by simp), by rintro rfl; simp [binOp, he], by rintro rfl; simp [binOp, he]⟩
    split at h
    · cases hgd : guardOk (isConst ox || isConst oy) x y with
      | false => rw [hgd] at h; simp [Tree.run] at h
      | true =>
        rw [hgd] at h
        simp only [cond_true] at h
        split at h
        · rename_i b hb
          simp [Tree.run] at h; subst h
          obtain ⟨h1, h2, _⟩ := fin b hgd hb
          simp only [Sem.run_bind, h1, Result.andThen_ok]
          exact ⟨_, h2 rfl, rfl⟩
        · simp [Tree.run] at h
    · cases hgd : guardOk (isConst ox || isConst oy) x y with
      | false => rw [hgd] at h; simp [Tree.run] at h
      | true =>
        rw [hgd] at h
        simp only [cond_true] at h
        split at h
        · rename_i b hb
          simp [Tree.run] at h; subst h
          obtain ⟨h1, _, h2⟩ := fin b hgd hb
          simp only [Sem.run_bind, h1, Result.andThen_ok]
          exact ⟨_, h2 rfl, rfl⟩
        · simp [Tree.run] at h
    · simp [Tree.run] at h

theorem run_evUn {P : Program} {ι : Inj} {op : UnOp} {x v : V} {x' : Value} (h : (evUn op x).run = some v) (rx : x.rel ι x') (w : World) : ∃ z, (Op.unary op x').run P w = .ok z w ∧ v.rel ι z := by
  unfold evUn at h
  split at h
  · have rx' : x' = _ := rx; subst rx'; simp [Tree.run] at h; subst h; exact ⟨_, by simp [Op.unary, Op.intArith], rfl⟩
  · have rx' : x' = _ := rx; subst rx'; simp [Tree.run] at h; subst h; exact ⟨_, by simp [Op.unary, Op.intBits], rfl⟩
  · have rx' : x' = _ := rx; subst rx'; simp [Tree.run] at h; subst h; exact ⟨_, by simp [Op.unary], rfl⟩
  · simp [Tree.run] at h
theorem run_evConv {P : Program} {ι : Inj} {s d : TypeId} {x v : V} {x' : Value} (h : (evConv P s d x).run = some v) (rx : x.rel ι x') (w : World) : ∃ z, (convert s d x').run P w = .ok z w ∧ v.rel ι z := by
  unfold evConv at h
  split at h
  · rename_i ds k k0 n h1 h2
    have rx' : x' = _ := rx; subst rx'; simp [Tree.run] at h; subst h
    refine ⟨.int k (k.wrap n), ?_, rfl⟩
    simp only [convert, Sem.run_bind, run_und h1, run_und h2, Result.andThen_ok]
    cases ds <;> rfl
  · rename_i ds b h1 h2
    have rx' : x' = _ := rx; subst rx'; simp [Tree.run] at h; subst h
    refine ⟨.string b, ?_, rfl⟩
    simp only [convert, Sem.run_bind, run_und h1, run_und h2, Result.andThen_ok]
    cases ds <;> rfl
  · simp [Tree.run] at h
theorem run_evFieldAddr {P : Program} {ι : Inj} {t : TypeId} {x v : V} {f : Nat} {x' : Value} (h : evFieldAddr P t x f = some v) (rx : x.rel ι x') (w : World) : ∃ z, (Instr.fieldAt t x' f).run P w = .ok z w ∧ v.rel ι z := by
  unfold evFieldAddr at h
  split at h
  · rename_i fs hu
    split at h
    · rename_i fd hf
      split at h
      · rename_i n hs
        split at h
        · rename_i b off
          obtain rfl := Option.some.inj h
          obtain ⟨l, h1, rfl⟩ := rx
          refine ⟨_, ?_, l, h1, rfl⟩
          simp only [Instr.fieldAt, Sem.run_bind, run_und hu, Result.andThen_ok, hf, Instr.sureAddr, Sem.run_pure, fieldPlace, run_sizeOf hs, Nat.succ_ne_zero, if_false, addr_add, Nat.add_assoc]
        · rename_i g off
          obtain rfl := Option.some.inj h
          have rx' : x' = _ := rx; subst rx'
          refine ⟨_, ?_, rfl⟩
          simp only [Instr.fieldAt, Sem.run_bind, run_und hu, Result.andThen_ok, hf, Instr.sureAddr, Sem.run_pure, fieldPlace, run_sizeOf hs, addr_add]
          simp
        · cases h
      · cases h
    · cases h
  · cases h
theorem run_evField {P : Program} {ι : Inj} {t : TypeId} {x v : V} {f : Nat} {x' : Value} (h : evField P t x f = some v) (rx : x.rel ι x') (w : World) : ∃ z, (Instr.field t x' f).run P w = .ok z w ∧ v.rel ι z := by
  unfold evField at h
  split at h
  · rename_i fs cs hu
    split at h
    · rename_i fd hf
      obtain ⟨xs, rfl, rx⟩ := rx
      obtain ⟨z, k1, k2⟩ := run_partV h rx w
      exact ⟨z, by simp [Instr.field, run_und hu, hf, asAgg, k1], k2⟩
    · cases h
  · cases h
theorem run_evIndexAddr {P : Program} {ι : Inj} {t : TypeId} {x i v : V} {x' i' : Value} (h : (evIndexAddr P t x i).run = some v) (rx : x.rel ι x') (ri : i.rel ι i') (w : World) :
    ∃ z, (Instr.indexAt t x' i').run P w = .ok z w ∧ v.rel ι z := by
  unfold evIndexAddr at h
  split at h
  · rename_i k n
    have ri' : i' = _ := ri; subst ri'
    split at h
    · rename_i len elem b off hu
      split at h
      · rename_i sz hs
        rw [Tree.run_ite] at h
        split at h
        · rename_i hb
          have hb := of_decide_eq_true hb
          simp [Tree.run] at h; subst h
          obtain ⟨l, h1, rfl⟩ := rx
          refine ⟨_, ?_, l, h1, rfl⟩
          simp [Instr.indexAt, asIntOf, run_und hu, Instr.sureAddr, hb, run_sizeOf hs, addr_add, Nat.add_assoc]
        · simp [Tree.run] at h
      · simp [Tree.run] at h
    · rename_i len elem b off hu
      split at h
      · rename_i sz hs
        rw [Tree.run_ite] at h
        split at h
        · rename_i hb
          have hb := of_decide_eq_true hb
          simp [Tree.run] at h; subst h
          have rx' : x' = _ := rx; subst rx'
          refine ⟨_, ?_, rfl⟩
          simp [Instr.indexAt, asIntOf, run_und hu, Instr.sureAddr, hb, run_sizeOf hs, addr_add]
        · simp [Tree.run] at h
      · simp [Tree.run] at h
    · rename_i elem b off len sz hu
      split at h
      · rename_i sz' hs
        cases hz : Nat.beq sz sz' with
        | false => simp [hz, Tree.run] at h
        | true =>
          obtain rfl := Nat.eq_of_beq_eq_true hz
          simp only [hz, cond_true] at h
          rw [Tree.run_ite] at h
          split at h
          · rename_i hb
            have hb := of_decide_eq_true hb
            simp [Tree.run] at h; subst h
            obtain ⟨l, a, cap, h1, h2, rfl, h3⟩ := rx
            rcases h3 with ⟨rfl, _⟩ | ⟨h3, _, _⟩
            · refine ⟨_, ?_, l, h1, rfl⟩
              simp [Instr.indexAt, asIntOf, run_und hu, hb, run_sizeOf hs, addr_add, Nat.add_assoc]
            · omega
          · simp [Tree.run] at h
      · simp [Tree.run] at h
    · simp [Tree.run] at h
  · simp [Tree.run] at h
theorem run_evIndex {P : Program} {ι : Inj} {t : TypeId} {x i v : V} {x' i' : Value} (h : (evIndex P t x i).run = some v) (rx : x.rel ι x') (ri : i.rel ι i') (w : World) :
    ∃ z, (Instr.index t x' i').run P w = .ok z w ∧ v.rel ι z := by
  unfold evIndex at h
  split at h
  · rename_i k n
    have ri' : i' = _ := ri; subst ri'
    split at h
    · rename_i len elem cs hu
      split at h
      · rename_i sz hs
        rw [Tree.run_ite] at h
        split at h
        · rename_i hb
          have hb := of_decide_eq_true hb
          split at h
          · rename_i u hp
            simp [Tree.run] at h; subst h
            obtain ⟨xs, rfl, rx⟩ := rx
            obtain ⟨z, k1, k2⟩ := run_partV hp rx w
            exact ⟨z, by simp [Instr.index, asIntOf, run_und hu, hb, run_sizeOf hs, k1], k2⟩
          · simp [Tree.run] at h
        · simp [Tree.run] at h
      · simp [Tree.run] at h
    · rename_i s hu
      rw [Tree.run_ite] at h
      split at h
      · rename_i hb
        have hb := of_decide_eq_true hb
        simp only [Tree.run, Option.some.injEq] at h; subst h
        have rx' : x' = _ := rx; subst rx'
        refine ⟨_, ?_, rfl⟩
        have hl : n.toNat < s.size := hb.2
        have e1 : s[n.toNat]? = some (s[n.toNat]'hl) := by simp [hl]
        have e2 : s.data.toList.getD n.toNat 0 = s[n.toNat]'hl := by
          have : n.toNat < s.data.toList.length := by simpa using hl
          simp [List.getD, List.getElem?_eq_getElem this]
          rfl
        simp only [Instr.index, asIntOf, Sem.run_bind, Sem.run_pure, Result.andThen_ok, run_und hu, if_pos hb.1, e1, e2]
      · simp [Tree.run] at h
    · simp [Tree.run] at h
  · simp [Tree.run] at h
theorem run_evExtract {P : Program} {ι : Inj} {x v : V} {i : Nat} {x' : Value} (h : evExtract x i = some v) (rx : x.rel ι x') (w : World) : ∃ z, (Instr.extract x' i).run P w = .ok z w ∧ v.rel ι z := by
  unfold evExtract at h
  split at h
  · obtain ⟨xs, rfl, rx⟩ := rx
    obtain ⟨z, k1, k2⟩ := relL_nth rx h
    exact ⟨z, by simp [Instr.extract, k1], k2⟩
  · cases h

def restrF (m : Mem) (R : List Nat) : MemF := fun b => if b ∈ R then look m b else none
def updF (M : MemF) (us : Upd) : MemF := fun b => match lookU us b with | some u => u | none => M b

/-- What is shown of a step: its value, its memory, the next number. -/
def Good (C : Cfg) (n : Nat) (M : MemF) (ι : Inj) (w : World) (v : V) (M' : MemF) (n' : Nat) (x : Value) (w' : World) : Prop :=
  ∃ ι', Prog n M ι w M' ι' w' ∧ n ≤ n' ∧ (∀ b l, ι' b = some l → b < n') ∧ v.rel ι' x ∧ Sim C ι' M' w'

def CallSound (C : Cfg) (call : CallF) : Prop :=
  ∀ f args m nx v m' nx', (call f args m nx).run = some (v, m', nx') → ∀ w ι xs, (∀ b l, ι b = some l → b < nx) → V.relL ι args xs → Sim C ι (look m) w →
    Calls C.P f xs.toArray w fun e w' => ∃ x, e = .returned x ∧ Good C nx (look m) ι w v (look m') nx' x w'

theorem BlkRel.mono {P : Program} {ι ι' : Inj} {k : Blk} {l : Loc} {w w' : World} (hi : ∀ b l, ι b = some l → ι' b = some l) (hw : w'.heap[l.r]? = w.heap[l.r]?) (h : BlkRel P ι k l w) : BlkRel P ι' k l w' := by
  obtain ⟨pre, xs, ys, zs, fr, h1, h2, h3, h4⟩ := h
  exact ⟨pre, xs, ys, zs, fr, by rw [hw]; exact h1, h2, relL_mono hi _ _ h3, h4⟩
theorem BlkRel.lt {P : Program} {ι : Inj} {k : Blk} {l : Loc} {w : World} (h : BlkRel P ι k l w) : l.r < w.heap.size := by
  obtain ⟨pre, xs, ys, zs, fr, h1, _⟩ := h
  exact lt_of_heap h1
theorem GRel.keep {G : Nat → Option (List V × TypeId)} {w w' : World} (h : GRel G w) (hw : ∀ g c, G g = some c → w'.heap[g]? = w.heap[g]?) : GRel G w' := by
  intro g cs t hg
  obtain ⟨xs, fr, h1, h2⟩ := h g cs t hg
  exact ⟨xs, fr, by rw [hw g _ hg]; exact h1, h2⟩
theorem GRel.lt {G : Nat → Option (List V × TypeId)} {w : World} (h : GRel G w) {g : Nat} {c : List V × TypeId} (hg : G g = some c) : g < w.heap.size := by
  obtain ⟨cs, t⟩ := c
  obtain ⟨xs, fr, h1, _⟩ := h g cs t hg
  exact lt_of_heap h1
theorem alloc_heap (w : World) (o : Obj) (i : Nat) : (w.alloc o).heap[i]? = if i = w.heap.size then some o else w.heap[i]? := by
  show (w.heap.push o)[i]? = _
  rw [Array.getElem?_push]

def addI (ι : Inj) (n : Nat) (l : Loc) : Inj := fun b => if b = n then some l else ι b
theorem addI_mono {ι : Inj} {n : Nat} {l : Loc} (hd : ∀ b l, ι b = some l → b < n) : ∀ b l', ι b = some l' → addI ι n l b = some l' := by
  intro b l' h
  have := hd b l' h
  unfold addI; rw [if_neg (by omega)]; exact h

/-- A new block. -/
theorem good_new {C : Cfg} {ι : Inj} {M : MemF} {w : World} {n : Nat} (hd : ∀ b l, ι b = some l → b < n) (hs : Sim C ι M w) {k : Blk} {c : Nat} {xs ys : List Value}
    (hr : V.relL ι k.cells xs) (hl : xs.length + ys.length = c * C.P.cellsOf k.elem) (ho : allOne k.cells = true) (hro : k.ro = false) (v : V) (x : Value) (hv : v.rel (addI ι n ⟨w.heap.size, 0, c⟩) x) {w' : World} {fr : Nat × Nat} (hO : w'.os = w.os) (hT : w'.tape = w.tape) (hP : w'.output = w.output) (hZ : w.heap.size ≤ w'.heap.size)
    (hH : ∀ i, w'.heap[i]? = if i = w.heap.size then some (.cells (xs ++ ys).toArray k.elem fr) else w.heap[i]?) (hfr : ∀ o, o < c * C.P.cellsOf k.elem → ¬ (fr.1 ≤ o ∧ o < fr.2)) :
    Good C n M ι w v (updF M [(n, some k)]) (n + 1) x w' := by
  have hm := addI_mono (l := ⟨w.heap.size, 0, c⟩) hd
  have hold : ∀ i, i < w.heap.size → w'.heap[i]? = w.heap[i]? := fun i hi => by rw [hH, if_neg (by omega)]
  have hM : ∀ b kb, updF M [(n, some k)] b = some kb → (b = n ∧ kb = k) ∨ (b ≠ n ∧ M b = some kb) := by
    intro b kb h
    unfold updF lookU at h
    by_cases hb : b = n
    · subst hb; simp at h; exact .inl ⟨rfl, h.symm⟩
    · rw [beqF (Ne.symm hb)] at h; simp only [cond_false, lookU] at h; exact .inr ⟨hb, h⟩
  have hnew : addI ι n ⟨w.heap.size, 0, c⟩ n = some ⟨w.heap.size, 0, c⟩ := by simp [addI]
  have hne : ∀ b, b ≠ n → addI ι n ⟨w.heap.size, 0, c⟩ b = ι b := fun b hb => by simp [addI, hb]
  refine ⟨addI ι n ⟨w.heap.size, 0, c⟩, ⟨fun b hb => hne b (by omega), ⟨hO, hT, hP, hZ, fun i hi _ => hold i hi⟩, ?_, ?_, ?_⟩, by omega, ?_, hv, ⟨hs.glob.keep fun g cc hg => hold g (hs.glob.lt hg), ?_, ?_, ?_⟩⟩
  · intro b kb l h1 h2 h3
    rcases hM b kb h1 with ⟨rfl, rfl⟩ | ⟨hb, h1⟩
    · rw [hnew] at h3; obtain rfl := Option.some.inj h3; exact .inr (Nat.le_refl _)
    · rw [hne b hb] at h3; exact .inl ⟨b, kb, l, h1, h2, h3, rfl⟩
  · intro b kb hb h1
    rcases hM b kb h1 with ⟨rfl, _⟩ | ⟨_, h1⟩
    · omega
    · exact ⟨kb, h1, rfl⟩
  · intro b kb h1 h2
    rcases hM b kb h1 with ⟨rfl, rfl⟩ | ⟨hb, h1⟩
    · rw [hro] at h2; cases h2
    · exact ⟨b, kb, h1, h2, hne b hb⟩
  · intro b l h
    by_cases hb : b = n
    · omega
    · rw [hne b hb] at h; have := hd b l h; omega
  · intro b kb h1
    rcases hM b kb h1 with ⟨rfl, rfl⟩ | ⟨hb, h1⟩
    · refine ⟨_, hnew, [], xs, ys, [], fr, ?_, rfl, relL_mono hm _ _ hr, hl, by intro o _ h2; exact hfr o (by simpa using h2), ho⟩
      rw [hH]; simp
    · obtain ⟨l, h2, h3⟩ := hs.blk b kb h1
      exact ⟨l, by rw [hne b hb]; exact h2, h3.mono hm (hold _ h3.lt)⟩
  · intro b b' kb kb' l l' h1 h2 h3 h4 h5 h6
    rcases hM b kb h1 with ⟨rfl, rfl⟩ | ⟨hb, h1'⟩ <;> rcases hM b' kb' h3 with ⟨rfl, rfl⟩ | ⟨hb', h3'⟩
    · rfl
    · rw [hnew] at h4; obtain rfl := Option.some.inj h4
      rw [hne b' hb'] at h5
      obtain ⟨l2, g1, g2⟩ := hs.blk b' kb' h3'
      rw [h5] at g1; obtain rfl := Option.some.inj g1
      have := g2.lt; simp at h6; omega
    · rw [hnew] at h5; obtain rfl := Option.some.inj h5
      rw [hne b hb] at h4
      obtain ⟨l2, g1, g2⟩ := hs.blk b kb h1'
      rw [h4] at g1; obtain rfl := Option.some.inj g1
      have := g2.lt; simp at h6; omega
    · rw [hne b hb] at h4; rw [hne b' hb'] at h5
      exact hs.inj b b' kb kb' l l' h1' h2 h3' h4 h5 h6
  · intro b kb l h1 h2 h3
    rcases hM b kb h1 with ⟨rfl, rfl⟩ | ⟨hb, h1⟩
    · rw [hnew] at h3; obtain rfl := Option.some.inj h3
      cases hg : C.G w.heap.size with
      | none => rfl
      | some cc => have := hs.glob.lt hg; omega
    · rw [hne b hb] at h3; exact hs.gsep b kb l h1 h2 h3

theorem good_alloc {C : Cfg} {ι : Inj} {M : MemF} {w : World} {n : Nat} (hd : ∀ b l, ι b = some l → b < n) (hs : Sim C ι M w) {k : Blk} {c : Nat} {xs ys : List Value}
    (hr : V.relL ι k.cells xs) (hl : xs.length + ys.length = c * C.P.cellsOf k.elem) (ho : allOne k.cells = true) (hro : k.ro = false) (v : V) (x : Value) (hv : v.rel (addI ι n ⟨w.heap.size, 0, c⟩) x) :
    Good C n M ι w v (updF M [(n, some k)]) (n + 1) x (w.alloc (.cells (xs ++ ys).toArray k.elem)) :=
  good_new hd hs hr hl ho hro v x hv (fr := (0, 0)) rfl rfl rfl (by simp) (fun i => alloc_heap w _ i) (by intro o _; simp)

/-- A block of the call's own is written, and keeps its number or takes another one. -/
theorem good_write {C : Cfg} {ι ι' : Inj} {M M' : MemF} {w : World} {n n' : Nat} (hd' : ∀ b l, ι' b = some l → b < n') (hn : n ≤ n') (hs : Sim C ι M w) {b b' : Nat} {k k' : Blk} {l l' : Loc} {o : Obj}
    (hb : M b = some k) (hro : k.ro = false) (hl : ι b = some l) (hro' : k'.ro = false)
    (hM : ∀ c kc, M' c = some kc → (c = b' ∧ kc = k') ∨ (c ≠ b ∧ c ≠ b' ∧ M c = some kc)) (hb' : b' = b ∨ n ≤ b') (hi : ∀ c, c ≠ b' → ι' c = ι c) (hm : ∀ c l, ι c = some l → ι' c = some l) (hl' : ι' b' = some l') (hrr : l'.r = l.r)
    (hk : BlkRel C.P ι' k' l' (setBlk w l.r o)) (v : V) (x : Value) (hv : v.rel ι' x) : Good C n M ι w v M' n' x (setBlk w l.r o) := by
  have hF : Fp M ι l.r := ⟨b, k, l, hb, hro, hl, rfl⟩
  have hold : ∀ i, i ≠ l.r → (setBlk w l.r o).heap[i]? = w.heap[i]? := fun i h => by rw [setBlk_heap, if_neg (by simp [h])]
  refine ⟨ι', ⟨?_, ⟨rfl, rfl, rfl, by simp [setBlk_size], fun i _ h => hold i (fun e => h (e ▸ hF))⟩, ?_, ?_, ?_⟩, hn, hd', hv, ⟨hs.glob.keep fun g cc hg => hold g ?_, ?_, ?_, ?_⟩⟩
  · intro c hc
    by_cases h : c = b'
    · rcases hb' with rfl | h'
      · subst h; rw [hl]; exact (hm _ _ hl)
      · omega
    · exact hi c h
  · intro c kc lc h1 h2 h3
    rcases hM c kc h1 with ⟨rfl, rfl⟩ | ⟨_, hc, h1⟩
    · rw [hl'] at h3; obtain rfl := Option.some.inj h3; rw [hrr]; exact .inl hF
    · rw [hi c hc] at h3; exact .inl ⟨c, kc, lc, h1, h2, h3, rfl⟩
  · intro c kc hc h1
    rcases hM c kc h1 with ⟨rfl, rfl⟩ | ⟨_, _, h1⟩
    · rcases hb' with rfl | h'
      · exact ⟨k, hb, by rw [hro, hro']⟩
      · omega
    · exact ⟨kc, h1, rfl⟩
  · intro c kc h1 h2
    rcases hM c kc h1 with ⟨rfl, rfl⟩ | ⟨_, hc, h1⟩
    · rw [hro'] at h2; cases h2
    · exact ⟨c, kc, h1, h2, hi c hc⟩
  · intro e
    have := hs.gsep b k l hb hro hl
    rw [← e, hg] at this; cases this
  · intro c kc h1
    rcases hM c kc h1 with ⟨rfl, rfl⟩ | ⟨hcb, hc, h1⟩
    · exact ⟨l', hl', hk⟩
    · obtain ⟨lc, h2, h3⟩ := hs.blk c kc h1
      refine ⟨lc, by rw [hi c hc]; exact h2, h3.mono hm (hold _ ?_)⟩
      intro e
      exact hcb (hs.inj b c k kc l lc hb hro h1 hl h2 e.symm).symm
  · intro c c' kc kc' lc lc' h1 h2 h3 h4 h5 h6
    rcases hM c kc h1 with ⟨rfl, rfl⟩ | ⟨hcb, hc, h1⟩ <;> rcases hM c' kc' h3 with ⟨rfl, rfl⟩ | ⟨hcb', hc', h3⟩
    · rfl
    · rw [hl'] at h4; obtain rfl := Option.some.inj h4
      rw [hi c' hc'] at h5
      exact absurd (hs.inj b c' k kc' l lc' hb hro h3 hl h5 (by rw [← hrr]; exact h6)).symm hcb'
    · rw [hl'] at h5; obtain rfl := Option.some.inj h5
      rw [hi c hc] at h4
      exact absurd (hs.inj c b kc k lc l h1 h2 hb h4 hl (by rw [← hrr]; exact h6)) hcb
    · rw [hi c hc] at h4; rw [hi c' hc'] at h5
      exact hs.inj c c' kc kc' lc lc' h1 h2 h3 h4 h5 h6
  · intro c kc lc h1 h2 h3
    rcases hM c kc h1 with ⟨rfl, rfl⟩ | ⟨_, hc, h1⟩
    · rw [hl'] at h3; obtain rfl := Option.some.inj h3; rw [hrr]; exact hs.gsep b k l hb hro hl
    · rw [hi c hc] at h3; exact hs.gsep c kc lc h1 h2 h3

theorem good_pure {C : Cfg} {ι : Inj} {M : MemF} {w : World} {n : Nat} (hd : ∀ b l, ι b = some l → b < n) (hs : Sim C ι M w) {v : V} {x : Value} (hv : v.rel ι x) : Good C n M ι w v (updF M []) n x w :=
  ⟨ι, Prog.refl n M ι w, Nat.le_refl _, hd, hv, hs⟩

/-- A draw changes nothing that is looked at. -/
theorem good_drew {C : Cfg} {ι : Inj} {M M' : MemF} {w w' w2 : World} {n n' : Nat} {v : V} {x : Value} (ho : w2.os = w.os) (ht : w2.tape = w.tape) (hout : w2.output = w.output) (hh : w2.heap = w.heap) (h : Good C n M ι w2 v M' n' x w') : Good C n M ι w v M' n' x w' := by
  obtain ⟨ι', ⟨p1, ⟨q1, q2, q3, q4, q5⟩, p3, p4, p5⟩, h2⟩ := h
  exact ⟨ι', ⟨p1, ⟨q1.trans ho, q2.trans ht, q3.trans hout, by rw [← hh]; exact q4, fun k hk hF => by rw [q5 k (by rw [hh]; exact hk) hF, hh]⟩, by rw [← hh]; exact p3, p4, p5⟩, h2⟩

theorem sim_heap {C : Cfg} {ι : Inj} {M : MemF} {w w2 : World} (hh : w2.heap = w.heap) (h : Sim C ι M w) : Sim C ι M w2 :=
  ⟨h.glob.keep fun _ _ _ => by rw [hh], fun b k hk => let ⟨l, h1, h2⟩ := h.blk b k hk; ⟨l, h1, h2.mono (fun _ _ h => h) (by rw [hh])⟩, h.inj, h.gsep⟩

theorem evL_rel {ι : Inj} {ev : Operand → Option V} {ρ : Operand → Value} (hev : ∀ x v, ev x = some v → v.rel ι (ρ x)) : ∀ {xs : List Operand} {vs : List V}, evL ev xs = some vs → V.relL ι vs (xs.map ρ)
  | [], _, h => by simp [evL] at h; subst h; rfl
  | x :: xs, _, h => by
    unfold evL at h
    split at h
    · rename_i h1 h2; obtain rfl := Option.some.inj h; exact ⟨_, _, rfl, hev _ _ h1, evL_rel hev h2⟩
    · cases h

def PartsRel (ι : Inj) : List (Nat × V) → List (Nat × Value) → Prop
  | [], ys => ys = []
  | (i, v) :: vs, ys => ∃ x xs, ys = (i, x) :: xs ∧ v.rel ι x ∧ PartsRel ι vs xs
theorem partsV_rel {ι : Inj} {ev : Operand → Option V} {ρ : Operand → Value} (hev : ∀ x v, ev x = some v → v.rel ι (ρ x)) : ∀ {xs : List (Nat × Operand)} {vs : List (Nat × V)}, partsV ev xs = some vs → PartsRel ι vs (xs.map fun (i, x) => (i, ρ x))
  | [], _, h => by simp [partsV] at h; subst h; rfl
  | (i, x) :: xs, _, h => by
    unfold partsV at h
    split at h
    · rename_i h1 h2; obtain rfl := Option.some.inj h; exact ⟨_, _, rfl, hev _ _ h1, partsV_rel hev h2⟩
    · cases h

theorem foldl_set : ∀ (l : List Value) (k off : Nat) (A : List Value), off + k + l.length ≤ A.length →
    (l.zipIdx k).foldl (fun (cs : Array Value) (p : Value × Nat) => cs.setIfInBounds (off + p.2) p.1) A.toArray = (A.take (off + k) ++ (l ++ A.drop (off + k + l.length))).toArray
  | [], k, off, A, _ => by simp
  | c :: l, k, off, A, h => by
    have h' : off + k + (l.length + 1) ≤ A.length := by simpa using h
    simp only [List.zipIdx_cons, List.foldl_cons, List.setIfInBounds_toArray]
    rw [foldl_set l (k + 1) off (A.set (off + k) c) (by simp; omega)]
    congr 1
    have e1 : (A.set (off + k) c).take (off + (k + 1)) = A.take (off + k) ++ [c] := by
      rw [List.set_eq_take_append_cons_drop, if_pos (by omega), List.take_append, List.length_take, List.take_take]
      rw [show min (off + (k + 1)) (off + k) = off + k by omega, show off + (k + 1) - min (off + k) A.length = 1 by omega]
      simp
    have e2 : (A.set (off + k) c).drop (off + (k + 1) + l.length) = A.drop (off + k + (l.length + 1)) := by
      rw [List.set_eq_take_append_cons_drop, if_pos (by omega), List.drop_append, List.length_take, List.drop_eq_nil_of_le (by simp; omega)]
      rw [show off + (k + 1) + l.length - min (off + k) A.length = l.length + 1 by omega]
      simp only [List.nil_append, List.drop_succ_cons, List.drop_drop]
      congr 1; omega
    rw [e1, e2]
    simp

theorem fillV_rel {ι : Inj} {place place' : Nat → Option (Nat × Nat)} (hp : ∀ i p, place i = some p → place' i = some p) : ∀ {ps : List (Nat × V)} {cells cs : List V} {ps' : List (Nat × Value)} {xs : List Value},
    fillV place cells ps = some cs → V.relL ι cells xs → PartsRel ι ps ps' → ∃ ys, Instr.fill place' xs.toArray ps' = some ys.toArray ∧ V.relL ι cs ys
  | [], cells, cs, ps', xs, h, r, rp => by
    have rp' : ps' = [] := rp
    subst rp'
    simp [fillV] at h; subst h
    exact ⟨xs, rfl, r⟩
  | (i, v) :: rest, cells, cs, ps', xs, h, r, rp => by
    obtain ⟨x, xs', rfl, rv, rp⟩ := rp
    unfold fillV at h
    split at h
    · cases h
    · rename_i off size hpl
      cases hb : (Nat.beq v.cells.length size && Nat.ble (off + size) cells.length) with
      | false => rw [hb] at h; cases h
      | true =>
        rw [hb] at h
        simp only [Bool.and_eq_true] at hb
        have h1 := Nat.eq_of_beq_eq_true hb.1
        have h2 := Nat.le_of_ble_eq_true hb.2
        have rc := cells_rel rv
        have l1 := relL_length r
        have l2 := relL_length rc
        have l3 : x.cells.size = size := by rw [← Array.length_toList, l2, h1]
        have hf := foldl_set x.cells.toList 0 off xs (by simp only [Nat.add_zero, Array.length_toList]; omega)
        simp only [Nat.add_zero] at hf
        obtain ⟨ys, k1, k2⟩ := fillV_rel hp (xs := xs.take off ++ (x.cells.toList ++ xs.drop (off + size))) h (relL_append (relL_take r) (relL_append rc (relL_drop r))) rp
        refine ⟨ys, ?_, k2⟩
        unfold Instr.fill
        simp only [hp _ _ hpl]
        rw [if_neg (by simp; omega)]
        rw [← k1]
        congr 1
        rw [← Array.foldl_toList, Array.toList_zipIdx]
        rw [hf]
        simp [l3]

theorem nthP_get : ∀ (l : List (Nat × Nat)) (i : Nat), nthP l i = l[i]?
  | [], i => by simp [nthP]
  | x :: xs, 0 => rfl
  | x :: xs, i + 1 => by simp [nthP, nthP_get xs i]

theorem run_places {P : Program} (w : World) : ∀ {fs : List Field} {pl : List (Nat × Nat)}, placesV P fs = some pl → (fs.mapM fun f => do pure (f.offset, ← sizeOf f.type) : Sem (List (Nat × Nat))).run P w = .ok pl w
  | [], _, h => by simp [placesV] at h; subst h; simp
  | f :: fs, _, h => by
    unfold placesV at h
    split at h
    · rename_i n ps h1 h2
      obtain rfl := Option.some.inj h
      have ih := run_places w h2
      simp only [List.mapM_cons, Sem.run_bind, run_sizeOf h1, Result.andThen_ok, Sem.run_pure, ih]
    · cases h

theorem run_evBuild {P : Program} {ι : Inj} {t : TypeId} {ps : List (Nat × V)} {v : V} {ps' : Array (Nat × Value)} (h : evBuild P t ps = some v) (rp : PartsRel ι ps ps'.toList) (w : World) :
    ∃ z, (Instr.build t ps').run P w = .ok z w ∧ v.rel ι z := by
  unfold evBuild at h
  split at h
  · rename_i z fs hz hu
    split at h
    · rename_i pl hp
      split at h
      · rename_i cs hf
        obtain rfl := Option.some.inj h
        obtain ⟨zx, k1, k2⟩ := run_zero hz w
        have rz := cells_rel (k2 ι)
        obtain ⟨ys, k3, k4⟩ := fillV_rel (place' := (pl.toArray[·]?)) (fun i p hi => by rw [nthP_get] at hi; simpa using hi) hf rz rp
        refine ⟨.agg ys.toArray, ?_, ys, rfl, k4⟩
        have hm : (fs.mapM fun f => do pure (f.offset, ← sizeOf f.type) : Sem (Array (Nat × Nat))).run P w = .ok pl.toArray w := by
          rw [Array.mapM_eq_mapM_toList, Sem.run_map, run_places w hp]; rfl
        have hz' : zx.cells = zx.cells.toList.toArray := by simp
        simp only [Instr.build, Sem.run_bind, k1, Result.andThen_ok, run_und hu, hm]
        rw [hz', k3]; rfl
      · cases h
    · cases h
  · rename_i z n elem hz hu
    split at h
    · rename_i sz hp
      split at h
      · rename_i cs hf
        obtain rfl := Option.some.inj h
        obtain ⟨zx, k1, k2⟩ := run_zero hz w
        have rz := cells_rel (k2 ι)
        obtain ⟨ys, k3, k4⟩ := fillV_rel (place' := fun i => some (i * sz, sz)) (fun i p hi => hi) hf rz rp
        refine ⟨.agg ys.toArray, ?_, ys, rfl, k4⟩
        have hz' : zx.cells = zx.cells.toList.toArray := by simp
        simp only [Instr.build, Sem.run_bind, k1, Result.andThen_ok, run_und hu, run_sizeOf hp]
        rw [hz', k3]; rfl
      · cases h
    · cases h
  · cases h

theorem rep_rel {ι : Inj} {z : List V} {zx : List Value} (r : V.relL ι z zx) : ∀ n, V.relL ι (repV n z) ((List.range (n * zx.length)).map fun i => zx.toArray[i % zx.length]!)
  | 0 => by simp [repV, V.relL]
  | n + 1 => by
    have ih := rep_rel r n
    have e : (List.range ((n + 1) * zx.length)).map (fun i => zx.toArray[i % zx.length]!) = zx ++ (List.range (n * zx.length)).map (fun i => zx.toArray[i % zx.length]!) := by
      rw [show (n + 1) * zx.length = zx.length + n * zx.length by rw [Nat.add_mul]; omega, List.range_add, List.map_append, List.map_map]
      congr 1
      · apply List.ext_getElem?
        intro i
        by_cases hi : i < zx.length
        · simp [hi, Nat.mod_eq_of_lt hi]
        · simp [hi, List.getElem?_eq_none (Nat.le_of_not_lt hi)]
      · apply List.map_congr_left
        intro i _
        simp [Nat.add_mod_left]
    rw [e]
    exact relL_append r ih
theorem repV_length (z : List V) : ∀ n, (repV n z).length = n * z.length
  | 0 => by simp [repV]
  | n + 1 => by simp [repV, repV_length z n, Nat.add_mul, Nat.add_comm]
theorem allOne_rep {z : List V} (h : allOne z = true) : ∀ n, allOne (repV n z) = true
  | 0 => rfl
  | n + 1 => by simp [repV, allOne_append, h, allOne_rep h n]
theorem range_map {α : Type} (n : Nat) (f : Nat → α) : (Array.range n).map f = ((List.range n).map f).toArray := by
  apply Array.ext'
  simp

/-- A new row of cells. -/
theorem run_newE {C : Cfg} {ι : Inj} {M : MemF} {w : World} {n c : Nat} {t : TypeId} {cs : List V} {v : V} {e : Eff} {xs : List Value} (h : (newE C.P n t c cs v).run = some e) (hd : ∀ b l, ι b = some l → b < n) (hs : Sim C ι M w) (r : V.relL ι cs xs)
    (x : Value) (hv : v.rel (addI ι n ⟨w.heap.size, 0, c⟩) x) : Good C n M ι w e.v (updF M e.upd) e.nx x (w.alloc (.cells xs.toArray t)) := by
  unfold newE at h
  split at h
  · rename_i sz hsz
    cases hb : (Nat.beq cs.length (c * sz) && allOne cs) with
    | false => simp [hb, Tree.run] at h
    | true =>
      simp [hb, Tree.run] at h
      subst h
      simp only [Bool.and_eq_true] at hb
      have h1 := Nat.eq_of_beq_eq_true hb.1
      have := good_alloc (ys := []) hd hs (k := ⟨cs, t, false⟩) (c := c) r (by rw [cellsOf_sizeB hsz, relL_length r]; simpa using h1) hb.2 rfl v x hv
      simpa using this
  · simp [Tree.run] at h

theorem run_bound {P : Program} (k : IntKind) (i : Int) (y : Nat) (code : BoundsCode) (w : World) (h0 : 0 ≤ i) (h1 : i ≤ y) : (Instr.sliceBound (.int k i) y code).run P w = .ok i.toNat w := by
  simp [Instr.sliceBound, asIntOf, h0, h1]

theorem optV_rel {ι : Inj} {ev : Operand → Option V} {ρ : Operand → Value} (hev : ∀ x v, ev x = some v → v.rel ι (ρ x)) {o : Option Operand} {r : Option V} (h : optV ev o = some r) :
    (r = none ∧ o.map ρ = none) ∨ ∃ v x, r = some v ∧ o.map ρ = some x ∧ v.rel ι x := by
  unfold optV at h
  split at h
  · obtain rfl := Option.some.inj h; exact .inl ⟨rfl, rfl⟩
  · split at h
    · rename_i h1; obtain rfl := Option.some.inj h; exact .inr ⟨_, _, rfl, rfl, hev _ _ h1⟩
    · cases h

theorem run_bounds {P : Program} {ι : Inj} (b : Bool) (len cap : Nat) (w : World) {lo hi : Option V} {lo' hi' : Option Value} (hlo : (lo = none ∧ lo' = none) ∨ ∃ v x, lo = some v ∧ lo' = some x ∧ v.rel ι x) (hhi : (hi = none ∧ hi' = none) ∨ ∃ v x, hi = some v ∧ hi' = some x ∧ v.rel ι x)
    {l h : Nat} (hl : (lo = none ∧ l = 0) ∨ ∃ k n, lo = some (.int k n) ∧ 0 ≤ n ∧ n.toNat = l) (hh : (hi = none ∧ h = len) ∨ ∃ k n, hi = some (.int k n) ∧ 0 ≤ n ∧ n.toNat = h) (h1 : l ≤ h) (h2 : h ≤ cap) :
    (Instr.sliceBounds b len cap lo' hi' none).run P w = .ok (l, h, cap) w := by
  rcases hlo with ⟨rfl, rfl⟩ | ⟨v, x, rfl, rfl, r⟩ <;> rcases hhi with ⟨rfl, rfl⟩ | ⟨v', x', rfl, rfl, r'⟩
  · rcases hl with ⟨_, rfl⟩ | ⟨k, n, hc, _⟩
    · rcases hh with ⟨_, rfl⟩ | ⟨k, n, hc, _⟩
      · simp [Instr.sliceBounds]
      · cases hc
    · cases hc
  · rcases hl with ⟨_, rfl⟩ | ⟨k, n, hc, _⟩
    · rcases hh with ⟨hc, _⟩ | ⟨k, n, hc, hn, rfl⟩
      · cases hc
      · obtain rfl := Option.some.inj hc
        have r2 : x' = _ := r'; subst r2
        simp only [Instr.sliceBounds, Sem.run_bind, Sem.run_pure, Result.andThen_ok, run_bound k n cap _ w hn (by omega)]
    · cases hc
  · rcases hh with ⟨_, rfl⟩ | ⟨k, n, hc, _⟩
    · rcases hl with ⟨hc, _⟩ | ⟨k, n, hc, hn, rfl⟩
      · cases hc
      · obtain rfl := Option.some.inj hc
        have r2 : x = _ := r; subst r2
        simp only [Instr.sliceBounds, Sem.run_bind, Sem.run_pure, Result.andThen_ok, run_bound k n h _ w hn (by omega)]
    · cases hc
  · rcases hl with ⟨hc, _⟩ | ⟨k, n, hc, hn, rfl⟩
    · cases hc
    · rcases hh with ⟨hc', _⟩ | ⟨k', n', hc', hn', rfl⟩
      · cases hc'
      · obtain rfl := Option.some.inj hc
        obtain rfl := Option.some.inj hc'
        have r2 : x = _ := r; subst r2
        have r3 : x' = _ := r'; subst r3
        simp only [Instr.sliceBounds, Sem.run_bind, Sem.run_pure, Result.andThen_ok, run_bound k' n' cap _ w hn' (by omega), run_bound k n n'.toNat _ w hn (by omega)]

theorem run_sliceAt {P : Program} {t : TypeId} {x : Value} {lo hi : Option Value} (w : World) (h : ∀ n e, P.underlying t ≠ some (.array n e)) {d : TypeDesc} (hu : P.underlying t = some d) : (Instr.sliceAt t x lo hi none).run P w = (Instr.slice t x lo hi none).run P w := by
  unfold Instr.sliceAt
  simp only [Sem.run_bind, run_und hu, Result.andThen_ok]
  cases d <;> first | rfl | exact absurd hu (h _ _)

theorem run_slice_V {P : Program} {ι : Inj} {t elem : TypeId} {b off len sz : Nat} {x' : Value} {lo' hi' : Option Value} {w : World} (hu : P.underlying t = some (.slice elem)) (hs : sizeB P elem = some sz) (rx : V.rel ι (.slice b off len sz) x') {l h : Nat}
    (hbd : ∀ cap, len ≤ cap → (Instr.sliceBounds true len cap lo' hi' none).run P w = .ok (l, h, cap) w) (h1 : l ≤ h) (h2 : h ≤ len) :
    ∃ z, (Instr.sliceAt t x' lo' hi' none).run P w = .ok z w ∧ V.rel ι (.slice b (off + l) (h - l) sz) z := by
  obtain ⟨lc, a, cap, k1, k2, rfl, k3⟩ := rx
  have hcap : len ≤ cap := by rcases k3 with ⟨_, rfl⟩ | ⟨rfl, _, _⟩ <;> omega
  have hb := hbd cap hcap
  rw [run_sliceAt w (by rw [hu]; intro n e h; cases h) hu]
  refine ⟨.slice (if cap = l then some a else (some a).map (·.add (l * sz))) (h - l) (cap - l), ?_, ?_⟩
  · unfold Instr.slice
    simp only [Sem.run_bind, run_und hu, Result.andThen_ok, hb, run_sizeOf hs, Sem.run_pure]
  · rcases k3 with ⟨rfl, rfl⟩ | ⟨rfl, rfl, rfl⟩
    · by_cases hc : lc.c - off = l
      · rw [if_pos hc]
        exact ⟨lc, _, _, k1, by omega, rfl, .inr ⟨by omega, by omega, by omega⟩⟩
      · rw [if_neg hc]
        refine ⟨lc, _, _, k1, by omega, rfl, .inl ⟨?_, by omega⟩⟩
        show (⟨lc.r, lc.base + off * sz, none⟩ : Addr).add (l * sz) = _
        rw [addr_add, Nat.add_assoc, Nat.add_mul]
    · obtain rfl : h = 0 := by omega
      obtain rfl : l = 0 := by omega
      rw [if_pos rfl]
      exact ⟨lc, a, 0, k1, by omega, rfl, .inr ⟨rfl, rfl, by omega⟩⟩

theorem run_evSlice {P : Program} {ι : Inj} {ev : Operand → Option V} {ρ : Operand → Value} (hev : ∀ x v, ev x = some v → v.rel ι (ρ x)) {t : TypeId} {x v : V} {x' : Value} {lo hi : Option Operand} {lo' hi' : Option V} (h : (evSlice P t x lo' hi').run = some v) (rx : x.rel ι x')
    (hlo : optV ev lo = some lo') (hhi : optV ev hi = some hi') (w : World) : ∃ z, (Instr.sliceAt t x' (lo.map ρ) (hi.map ρ) none).run P w = .ok z w ∧ v.rel ι z := by
  have rlo := optV_rel hev hlo
  have rhi := optV_rel hev hhi
  unfold evSlice at h
  split at h
  · rename_i elem b off len sz hu
    split at h
    · rename_i sz' hs
      cases hz : Nat.beq sz sz' with
      | false => simp [hz, Tree.run] at h
      | true =>
        obtain rfl := Nat.eq_of_beq_eq_true hz
        simp only [hz, cond_true] at h
        split at h
        · simp [Tree.run] at h; subst h
          obtain ⟨z, k1, k2⟩ := run_slice_V (lo' := lo.map ρ) (hi' := hi.map ρ) (w := w) hu hs rx (l := 0) (h := len) (fun cap hc => run_bounds (ι := ι) true len cap w rlo rhi (.inl ⟨rfl, rfl⟩) (.inl ⟨rfl, rfl⟩) (Nat.zero_le _) hc) (Nat.zero_le _) (Nat.le_refl _)
          exact ⟨z, k1, by simpa using k2⟩
        · rename_i k n
          rw [Tree.run_ite] at h; split at h
          · rename_i hb; have hb := of_decide_eq_true hb
            simp [Tree.run] at h; subst h
            obtain ⟨z, k1, k2⟩ := run_slice_V (lo' := lo.map ρ) (hi' := hi.map ρ) (w := w) hu hs rx (l := 0) (h := n.toNat) (fun cap hc => run_bounds (ι := ι) true len cap w rlo rhi (.inl ⟨rfl, rfl⟩) (.inr ⟨k, n, rfl, hb.1, rfl⟩) (Nat.zero_le _) (by omega)) (Nat.zero_le _) (by omega)
            exact ⟨z, k1, by simpa using k2⟩
          · simp [Tree.run] at h
        · rename_i k n
          rw [Tree.run_ite] at h; split at h
          · rename_i hb; have hb := of_decide_eq_true hb
            simp [Tree.run] at h; subst h
            exact run_slice_V (lo' := lo.map ρ) (hi' := hi.map ρ) (w := w) hu hs rx (l := n.toNat) (h := len) (fun cap hc => run_bounds (ι := ι) true len cap w rlo rhi (.inr ⟨k, n, rfl, hb.1, rfl⟩) (.inl ⟨rfl, rfl⟩) (by omega) hc) (by omega) (Nat.le_refl _)
          · simp [Tree.run] at h
        · rename_i k n k' n'
          rw [Tree.run_ite] at h; split at h
          · rename_i hb; have hb := of_decide_eq_true hb
            simp [Tree.run] at h; subst h
            exact run_slice_V (lo' := lo.map ρ) (hi' := hi.map ρ) (w := w) hu hs rx (l := n.toNat) (h := n'.toNat) (fun cap hc => run_bounds (ι := ι) true len cap w rlo rhi (.inr ⟨k, n, rfl, hb.1, rfl⟩) (.inr ⟨k', n', rfl, by omega, rfl⟩) (by omega) (by omega)) (by omega) (by omega)
          · simp [Tree.run] at h
        · simp [Tree.run] at h
    · simp [Tree.run] at h
  · rename_i s hu
    have rx' : x' = _ := rx; subst rx'
    have fin : ∀ l h : Nat, l ≤ h → h ≤ s.size → ((lo' = none ∧ l = 0) ∨ ∃ k n, lo' = some (.int k n) ∧ 0 ≤ n ∧ n.toNat = l) → ((hi' = none ∧ h = s.size) ∨ ∃ k n, hi' = some (.int k n) ∧ 0 ≤ n ∧ n.toNat = h) →
        (Instr.sliceAt t (.string s) (lo.map ρ) (hi.map ρ) none).run P w = .ok (.string (subB s l h)) w := by
      intro l h h1 h2 h3 h4
      rw [subB_eq]
      rw [run_sliceAt w (by rw [hu]; intro n e h; cases h) hu]
      have := run_bounds (P := P) (ι := ι) false s.size s.size w rlo rhi h3 h4 h1 h2
      unfold Instr.slice
      simp [run_und hu, this]
    split at h
    · simp [Tree.run] at h; subst h
      exact ⟨_, fin 0 s.size (by omega) (by omega) (.inl ⟨rfl, rfl⟩) (.inl ⟨rfl, rfl⟩), by rw [subB_eq]; simp [V.rel]⟩
    · rename_i k n
      rw [Tree.run_ite] at h; split at h
      · rename_i hb; have hb := of_decide_eq_true hb
        simp [Tree.run] at h; subst h
        exact ⟨_, fin 0 n.toNat (by omega) (by omega) (.inl ⟨rfl, rfl⟩) (.inr ⟨k, n, rfl, hb.1, rfl⟩), rfl⟩
      · simp [Tree.run] at h
    · rename_i k n
      rw [Tree.run_ite] at h; split at h
      · rename_i hb; have hb := of_decide_eq_true hb
        simp [Tree.run] at h; subst h
        exact ⟨_, fin n.toNat s.size (by omega) (by omega) (.inr ⟨k, n, rfl, hb.1, rfl⟩) (.inl ⟨rfl, rfl⟩), rfl⟩
      · simp [Tree.run] at h
    · rename_i k n k' n'
      rw [Tree.run_ite] at h; split at h
      · rename_i hb; have hb := of_decide_eq_true hb
        simp [Tree.run] at h; subst h
        exact ⟨_, fin n.toNat n'.toNat (by omega) (by omega) (.inr ⟨k, n, rfl, hb.1, rfl⟩) (.inr ⟨k', n', rfl, by omega, rfl⟩), rfl⟩
      · simp [Tree.run] at h
    · simp [Tree.run] at h
  · simp [Tree.run] at h

/-- The cells of a slice of the evaluator. -/
theorem run_sliceCells {C : Cfg} {ι : Inj} {m : Mem} {M : MemF} {w : World} (hs : Sim C ι M w) {s : V} {cs : List V} (hM : ∀ b ∈ idsV s, M b = look m b) (h : sliceCells m s = some cs) {sz n : Nat} (hz : ∀ b off len sz', s = .slice b off len sz' → sz' = sz) (hn : lenV s = some n) (hn1 : 1 ≤ n) {s' : Value} (rs : s.rel ι s') :
    ∃ xs : List Value, (Builtin.firstCells sz n s').run C.P w = .ok xs.toArray w ∧ V.relL ι cs xs ∧ (s ≠ .nilslice → ∀ b off len sz', s = .slice b off len sz' → allOne cs = true) := by
  unfold sliceCells at h
  split at h
  · simp [lenV] at hn; omega
  · rename_i b off len sz'
    obtain rfl := hz b off len sz' rfl
    obtain rfl : len = n := by simpa [lenV] using hn
    split at h
    · rename_i k hk
      cases hb : Nat.ble ((off + len) * sz') k.cells.length with
      | false => simp [hb] at h
      | true =>
        simp only [hb, cond_true] at h
        obtain rfl := Option.some.inj h
        have hle := Nat.le_of_ble_eq_true hb
        rw [Nat.add_mul] at hle
        obtain ⟨l, a, cap, k1, k2, rfl, k3⟩ := rs
        have hMb : M b = some k := by rw [hM b (by simp [idsV]), hk]
        obtain ⟨l2, g1, g2⟩ := hs.blk b k hMb
        rw [k1] at g1; obtain rfl := Option.some.inj g1
        rcases k3 with ⟨rfl, rfl⟩ | ⟨h0, _, _⟩
        · have hlen : (takeV (len * sz') (dropV (off * sz') k.cells)).length = len * sz' := by rw [takeV_length, dropV_length]; omega
          obtain ⟨xs, e1, e2⟩ := run_cells (P := C.P) (ι := ι) (w := w) (a := ⟨l.r, l.base + off * sz', none⟩) (vs := takeV (len * sz') (dropV (off * sz') k.cells)) (fun j u hj => by
            rw [nth_take_drop] at hj
            split at hj
            · rw [addr_add, Nat.add_assoc]; exact g2.cell hj
            · cases hj)
          rw [hlen] at e1
          refine ⟨xs, by simpa [Builtin.firstCells] using e1, e2, ?_⟩
          intro _ _ _ _ _ _
          obtain ⟨_, _, _, _, _, _, _, _, _, _, ho⟩ := g2
          exact allOne_take (allOne_drop ho)
        · omega
    · cases h
  · rename_i s0
    obtain rfl := Option.some.inj h
    have rs' : s' = _ := rs; subst rs'
    obtain rfl : s0.size = n := by simpa [lenV] using hn
    refine ⟨s0.data.toList.map fun b => .int .u8 b.toNat, ?_, ?_, ?_⟩
    · simp only [Builtin.firstCells, Sem.run_pure]
      congr 1
      have : (s0.extract 0 s0.size) = s0 := by simp
      rw [this]
      apply Array.ext'
      simp
    · generalize s0.data.toList = l
      induction l with
      | nil => rfl
      | cons c l ih => exact ⟨_, _, rfl, rfl, ih⟩
    · intro _ _ _ _ _ hh; cases hh
  · cases h

theorem growBy_le (N : Nat) : ∀ (r c : Nat), c ≤ 2 * N + 512 → Builtin.growBy N r c ≤ 2 * N + 512
  | 0, c, h => h
  | r + 1, c, h => by
    unfold Builtin.growBy
    split
    · exact h
    · exact growBy_le N r _ (by omega)
theorem nextcap_le {N c : Nat} (h : c < N) : Builtin.nextslicecap N c ≤ 2 * N + 512 := by
  unfold Builtin.nextslicecap
  split
  · omega
  · split
    · omega
    · exact growBy_le N 4 c (by omega)
theorem zeroCells_size (z : Array Value) (n : Nat) : (Builtin.zeroCells z n).size = n * z.size := by simp [Builtin.zeroCells]

theorem good_sub {C : Cfg} {n : Nat} {M : MemF} {ι : Inj} {w : World} {v : V} {M' M'' : MemF} {n' : Nat} {x : Value} {w' : World} (h : Good C n M ι w v M' n' x w') (hs : ∀ b k, M'' b = some k → M' b = some k) : Good C n M ι w v M'' n' x w' := by
  obtain ⟨ι', ⟨p1, p2, p3, p4, p5⟩, h2, h3, h4, h5⟩ := h
  exact ⟨ι', ⟨p1, p2, fun b k l h1 => p3 b k l (hs _ _ h1), fun b k hb h1 => p4 b k hb (hs _ _ h1), fun b k h1 => p5 b k (hs _ _ h1)⟩, h2, h3, h4, h5.sub hs⟩

theorem run_info {P : Program} {t : TypeId} {i : TypeInfo} (h : P.info? t = some i) (w : World) : (typeInfo t).run P w = .ok i w := by simp [typeInfo, h]

/-- Appending where a new row is made. -/
theorem append_grow {C : Cfg} {ι : Inj} {M : MemF} {w : World} {nx : Nat} {elem : TypeId} {i : TypeInfo} {old new : List V} {s' x' : Value} {base : Option Addr} {sl n cap : Nat} {ts : Array TypeId} {sT xT ty : TypeId} {d : TypeDesc}
    (hd : ∀ b l, ι b = some l → b < nx) (hs : Sim C ι M w) (hu : C.P.underlying sT = some (.slice elem)) (hux : C.P.underlying xT = some d) (hdi : ∀ k, d ≠ .int k) (hi : C.P.info? elem = some i) (hz : zeroOk C.P elem i.size = true)
    (e1 : s' = .slice base sl cap) (hxl : (Builtin.lenOf x').run C.P w.drew = .ok n w.drew) (hcap : cap < sl + n) (h48 : (2 * (sl + n) + 512) * i.bytes ≤ 2 ^ 48) (h62 : sl + n < 2 ^ 62)
    {xo xn : List Value} (ho : (Builtin.firstCells i.size sl s').run C.P w.drew = .ok xo.toArray w.drew) (hn : (Builtin.firstCells i.size n x').run C.P w.drew = .ok xn.toArray w.drew) (ro : V.relL ι old xo) (rn : V.relL ι new xn)
    (hxl' : ∀ w, (Builtin.lenOf x').run C.P w = .ok n w) (lo : old.length = sl * i.size) (ln : new.length = n * i.size) (ao : allOne old = true) (an : allOne new = true) (ht0 : ts[0]? = some sT) (ht1 : ts[1]? = some xT) {args : Array Value} (ha0 : args[0]? = some s') (ha1 : args[1]? = some x') :
    ∃ y w', (Builtin.append_ ts ty args).run C.P w = .ok y w' ∧ Good C nx M ι w (.slice nx 0 (sl + n) i.size) (updF M [(nx, some ⟨old ++ new, elem, false⟩)]) (nx + 1) y w' := by
  unfold zeroOk at hz
  split at hz
  case h_2 => cases hz
  rename_i z hzb
  have hz := Nat.eq_of_beq_eq_true hz
  have hsz : sizeB C.P elem = some i.size := by simp [sizeB, hi]
  obtain ⟨zx, kz, rz⟩ := run_zero hzb w.drew
  have lz : zx.cells.size = i.size := by rw [← Array.length_toList, relL_length (cells_rel (rz ι)), hz]
  let newCap : Nat := (Question.appendCap (sl + n) cap elem).cut (w.tape w.drawn (.appendCap (sl + n) cap elem))
  have hnc : sl + n ≤ newCap := by simp only [newCap, Question.cut]; omega
  refine ⟨.slice (some ⟨w.heap.size, 0, none⟩) (sl + n) newCap, w.drew.alloc (.cells ((xo ++ xn) ++ (Builtin.zeroCells zx.cells (newCap - (sl + n))).toList).toArray elem), ?_, ?_⟩
  · unfold Builtin.append_
    have hdf : (match d with | .int _ => true | _ => false) = false := by cases d <;> first | rfl | exact absurd rfl (hdi _)
    simp only [ht0, ha0, ha1, Sem.run_bind, run_und hu, Result.andThen_ok, e1, run_sizeOf hsz, ht1, run_und hux, Sem.run_pure, hdf, Bool.false_eq_true, if_false, hxl' w]
    have hgr : ¬ sl + n ≤ cap := by omega
    rw [if_neg hgr]
    simp only [Sem.run_bind, run_info hi, Result.andThen_ok, Sem.run_ite, false_or]
    have hi64 : ¬ (((sl + n : Nat) : Int) > IntKind.i64.max ∧ i.bytes = 0) := by
      rintro ⟨h, _⟩
      have : IntKind.i64.max = 9223372036854775807 := by decide
      rw [this] at h; omega
    have hbig : ¬ (Builtin.nextslicecap (sl + n) cap * i.bytes > 2 ^ 48) := by
      have := nextcap_le hcap
      have := Nat.mul_le_mul_right i.bytes this
      omega
    rw [if_neg hi64, if_neg hbig]
    simp only [Sem.run_bind, Sem.run_pure, Result.andThen_ok, run_choose, Question.forced, Bool.false_eq_true, if_false]
    show (Result.andThen (Sem.run C.P (askRoom _) w.drew) _) = _
    rw [run_askRoom]
    simp only [Result.andThen_ok]
    rw [e1] at ho
    rw [ho]
    simp only [Result.andThen_ok]
    rw [hn]
    simp only [Bool.not_false, if_true, Result.andThen_ok]
    show Result.andThen (Sem.run C.P (zeroValue elem) w.drew) _ = _
    rw [kz]
    simp only [Result.andThen_ok, newRow, Sem.run_bind, run_newObj, Sem.run_pure]
    have ea : xo.toArray ++ xn.toArray ++ Builtin.zeroCells zx.cells (newCap - (sl + n)) = ((xo ++ xn) ++ (Builtin.zeroCells zx.cells (newCap - (sl + n))).toList).toArray := by
      apply Array.ext'
      simp
    rw [← ea]
    rfl
  · have hg := good_alloc (C := C) (ι := ι) (M := M) (w := w.drew) (n := nx) hd (sim_heap (w := w) (w2 := w.drew) rfl hs) (k := ⟨old ++ new, elem, false⟩) (c := newCap) (xs := xo ++ xn) (ys := (Builtin.zeroCells zx.cells (newCap - (sl + n))).toList) (relL_append ro rn) (by
        have h1 := relL_length ro
        have h2 := relL_length rn
        simp only [List.length_append, Array.length_toList, zeroCells_size, lz, cellsOf_sizeB hsz, h1, h2, lo, ln]
        rw [← Nat.add_mul, ← Nat.add_mul]
        congr 1; omega) (by rw [allOne_append, ao, an]; rfl) rfl (.slice nx 0 (sl + n) i.size) (.slice (some ⟨w.heap.size, 0, none⟩) (sl + n) newCap)
        ⟨⟨w.heap.size, 0, newCap⟩, _, _, by simp [addI], by simpa using hnc, rfl, .inl ⟨by simp, by simp⟩⟩
    exact good_drew (w2 := w.drew) rfl rfl rfl rfl hg

/-- Appending where there is room. -/
theorem append_room {C : Cfg} {ι : Inj} {M : MemF} {w : World} {nx : Nat} {elem : TypeId} {i : TypeInfo} {old new : List V} {s' x' : Value} {b off sl n : Nat} {ts : Array TypeId} {sT xT ty : TypeId} {d : TypeDesc} {k : Blk}
    (hd : ∀ b l, ι b = some l → b < nx) (hs : Sim C ι M w) (hu : C.P.underlying sT = some (.slice elem)) (hux : C.P.underlying xT = some d) (hdi : ∀ k, d ≠ .int k) (hi : C.P.info? elem = some i)
    {l : Loc} (hl : ι b = some l) (hsz1 : 1 ≤ i.size) (hn1 : 1 ≤ n) (e1 : s' = .slice (some ⟨l.r, l.base + off * i.size, none⟩) sl (l.c - off)) (hcap : sl + n ≤ l.c - off)
    (hxl' : ∀ w, (Builtin.lenOf x').run C.P w = .ok n w) {xn : List Value} (hn : (Builtin.firstCells i.size n x').run C.P w = .ok xn.toArray w) (rn : V.relL ι new xn) (ln : new.length = n * i.size) (an : allOne new = true)
    (hk : M b = some k) (hro : k.ro = false) (hke : k.elem = elem) (hold : old = takeV (sl * i.size) (dropV (off * i.size) k.cells)) (hle : (off + sl) * i.size ≤ k.cells.length)
    (ht0 : ts[0]? = some sT) (ht1 : ts[1]? = some xT) {args : Array Value} (ha0 : args[0]? = some s') (ha1 : args[1]? = some x') :
    ∃ y w', (Builtin.append_ ts ty args).run C.P w = .ok y w' ∧ Good C nx M ι w (.slice nx 0 (sl + n) i.size) (updF M [(b, none), (nx, some ⟨old ++ new, elem, false⟩)]) (nx + 1) y w' := by
  have hsz : sizeB C.P elem = some i.size := by simp [sizeB, hi]
  obtain ⟨l2, g1, g2⟩ := hs.blk b k hk
  rw [hl] at g1; obtain rfl := Option.some.inj g1
  obtain ⟨pre, xs, ys, zs, fr, h1, h2, h3, h4, h5, h6⟩ := g2
  rw [hke, cellsOf_sizeB hsz] at h4 h5
  rw [hke] at h1
  have lx := relL_length h3
  have lxn := relL_length rn
  rw [ln] at lxn
  have hle' : off * i.size + sl * i.size ≤ xs.length := by rw [lx, ← Nat.add_mul]; exact hle
  -- all in cells
  have hc : off ≤ l.c := by omega
  have hm : (sl + n) * i.size ≤ (l.c - off) * i.size := Nat.mul_le_mul_right _ hcap
  have hm2 : off * i.size ≤ l.c * i.size := Nat.mul_le_mul_right _ hc
  rw [Nat.add_mul, Nat.sub_mul] at hm
  generalize ho : off * i.size = O at *
  generalize hsl : sl * i.size = S at *
  generalize hnn : n * i.size = N at *
  generalize hcc : l.c * i.size = CC at *
  let A := pre ++ (xs ++ (ys ++ zs))
  have hA : A.length = pre.length + xs.length + ys.length + zs.length := by simp [A]; omega
  have hbe : l.base = pre.length := h2.symm
  let A' := A.take (l.base + O + S) ++ (xn ++ A.drop (l.base + O + S + N))
  have hst : (storeCells ⟨l.r, l.base + O + S, none⟩ xn).run C.P w = .ok () (setBlk w l.r (.cells A'.toArray elem fr)) := by
    have := run_storeCells (P := C.P) xn 0 w l.r (l.base + O + S) A elem fr h1 (by omega) (fun o q1 q2 => h5 o (by omega) (by omega)) (fun v hv => by
      obtain ⟨j, hj, rfl⟩ := List.getElem_of_mem hv
      have hj' : j < new.length := by rw [← relL_length rn]; exact hj
      obtain ⟨u, hu'⟩ := nth_lt hj'
      obtain ⟨y, q1, q2⟩ := relL_nth rn hu'
      rw [List.getElem?_eq_getElem hj] at q1
      obtain rfl := Option.some.inj q1
      exact one_rel (allOne_nth an hu') q2)
    simpa [A', lxn] using this
  refine ⟨.slice (some ⟨l.r, l.base + O, none⟩) (sl + n) (l.c - off), setBlk w l.r (.cells A'.toArray elem fr), ?_, ?_⟩
  · unfold Builtin.append_
    simp only [ht0, ha0, ha1, Sem.run_bind, run_und hu, Result.andThen_ok, e1, run_sizeOf hsz, ht1, run_und hux, Sem.run_pure, Bool.false_eq_true, if_false, hxl' w]
    rw [if_pos hcap]
    simp only [Bool.not_false, if_true, Sem.run_bind]
    rw [hn]
    simp only [Result.andThen_ok, addr_add]
    rw [hsl, hst]
    simp
  · let ι' := addI ι nx ⟨l.r, l.base + O, l.c - off⟩
    have hm' := addI_mono (l := ⟨l.r, l.base + O, l.c - off⟩) hd
    have hbn : b ≠ nx := by have := hd b l hl; omega
    have rold : V.relL ι old ((xs.drop O).take S) := by rw [hold]; exact relL_take (relL_drop h3)
    refine good_write (b' := nx) (l' := ⟨l.r, l.base + O, l.c - off⟩) (k' := ⟨old ++ new, elem, false⟩) (ι' := ι') ?_ (by omega) hs hk hro hl rfl ?_ (.inr (Nat.le_refl _)) (fun c hc => by simp [ι', addI, hc]) hm' (by simp [ι', addI]) rfl ?_ _ _ ?_
    · intro c lc h
      simp only [ι', addI] at h
      split at h
      · omega
      · have := hd c lc h; omega
    · intro c kc h
      simp only [updF, lookU] at h
      by_cases hcb : c = b
      · subst hcb; simp at h
      · rw [beqF (Ne.symm hcb)] at h
        simp only [cond_false] at h
        by_cases hcn : c = nx
        · subst hcn; simp at h; exact .inl ⟨rfl, h.symm⟩
        · rw [beqF (Ne.symm hcn)] at h
          simp only [cond_false] at h
          exact .inr ⟨hcb, hcn, h⟩
    · refine ⟨A.take (l.base + O), ((xs.drop O).take S) ++ xn, (A.drop (l.base + O + S + N)).take (CC - O - S - N), (A.drop (l.base + O + S + N)).drop (CC - O - S - N), fr, ?_, ?_, ?_, ?_, ?_, ?_⟩
      · rw [setBlk_heap]
        simp only [lt_of_heap h1, and_self, if_true, Option.some.injEq]
        have e : A' = A.take (l.base + O) ++ (((xs.drop O).take S) ++ xn ++ ((A.drop (l.base + O + S + N)).take (CC - O - S - N) ++ (A.drop (l.base + O + S + N)).drop (CC - O - S - N))) := by
          simp only [A', List.take_append_drop]
          have e1 : A.take (l.base + O + S) = A.take (l.base + O) ++ (xs.drop O).take S := by
            rw [List.take_add]
            congr 1
            simp only [A]
            rw [hbe, List.drop_append, List.drop_eq_nil_of_le (by omega), List.nil_append, show pre.length + O - pre.length = O by omega, List.drop_append, List.take_append_of_le_length (by simp; omega)]
          rw [e1]
          simp
        rw [e]
      · rw [List.length_take]; show min (l.base + O) A.length = l.base + O; omega
      · exact relL_append (relL_mono hm' _ _ rold) (relL_mono hm' _ _ rn)
      · simp only [List.length_append, List.length_take, List.length_drop, cellsOf_sizeB hsz]
        rw [Nat.sub_mul, hcc, ho]
        omega
      · intro o q1 q2
        simp only [cellsOf_sizeB hsz] at q1 q2
        rw [Nat.sub_mul, hcc, ho] at q2
        exact h5 o (by omega) (by omega)
      · rw [allOne_append, an, hold, allOne_take (allOne_drop h6)]; rfl
    · exact ⟨⟨l.r, l.base + O, l.c - off⟩, _, _, by simp [ι', addI], by simpa using hcap, rfl, .inl ⟨by simp, by simp⟩⟩

theorem len_rel {C : Cfg} {ι : Inj} {v : V} {x : Value} {n : Nat} (h : lenV v = some n) (r : v.rel ι x) (w : World) : (Builtin.lenOf x).run C.P w = .ok n w := by
  unfold lenV at h
  split at h
  · obtain rfl := Option.some.inj h; have r' : x = _ := r; subst r'; rfl
  · obtain rfl := Option.some.inj h; obtain ⟨_, _, _, _, _, rfl, _⟩ := r; rfl
  · obtain rfl := Option.some.inj h; have r' : x = _ := r; subst r'; rfl
  · cases h

theorem first_zero {C : Cfg} {ι : Inj} {v : V} {x : Value} (n : Nat) (h : lenV v = some n) (sz : Nat) (r : v.rel ι x) (w : World) : (Builtin.firstCells sz 0 x).run C.P w = .ok #[] w := by
  unfold lenV at h
  split at h
  · have r' : x = _ := r; subst r'; simp [Builtin.firstCells]
  · obtain ⟨_, _, _, _, _, rfl, _⟩ := r; simp [Builtin.firstCells, loadCells, loadCellsFrom]
  · have r' : x = _ := r; subst r'
    rename_i s
    simp only [Builtin.firstCells, Sem.run_pure]
    congr 1
    apply Array.ext'
    simp
  · cases h

theorem run_append {C : Cfg} {ι : Inj} {m : Mem} {M : MemF} {w : World} {nx : Nat} {sT xT ty : TypeId} {s x : V} {s' x' : Value} {e : Eff} {ts : Array TypeId} {args : Array Value}
    (h : (evAppend C.P m nx sT xT s x).run = some e) (hd : ∀ b l, ι b = some l → b < nx) (hs : Sim C ι M w) (hM : ∀ b ∈ idsV s ++ idsV x, M b = look m b) (rs : s.rel ι s') (rx : x.rel ι x')
    (ht0 : ts[0]? = some sT) (ht1 : ts[1]? = some xT) (ha0 : args[0]? = some s') (ha1 : args[1]? = some x') :
    ∃ y w', (Builtin.append_ ts ty args).run C.P w = .ok y w' ∧ Good C nx M ι w e.v (updF M e.upd) e.nx y w' := by
  unfold evAppend at h
  split at h
  case h_2 => simp [Tree.run] at h
  rename_i elem d hu hux
  split at h
  · simp [Tree.run] at h
  rename_i hdi
  split at h
  · -- nothing to append
    rename_i i old new sl hi hco hcn hls hlx
    have hns : ∀ a, s ≠ .str a := by rintro a rfl; simp [Tree.run] at h
    have he : e = pureE nx s := by
      cases s <;> first | exact absurd rfl (hns _) | (simp [Tree.run] at h; exact h.symm)
    subst he
    have hsz : sizeB C.P elem = some i.size := by simp [sizeB, hi]
    have hx := len_rel (C := C) hlx rx w
    have hf := first_zero (C := C) 0 hlx i.size rx w
    refine ⟨s', w, ?_, good_pure hd hs rs⟩
    unfold sliceCells at hco
    split at hco
    · have r' : s' = _ := rs; subst r'
      unfold Builtin.append_
      simp only [ht0, ha0, ha1, Sem.run_bind, run_und hu, Result.andThen_ok, run_sizeOf hsz, ht1, run_und hux, Sem.run_pure, Bool.false_eq_true, if_false, hx]
      rw [if_pos (by omega)]
      simp only [Bool.not_false, if_true, Sem.run_bind, hf, Result.andThen_ok, Nat.add_zero]
      rfl
    · obtain ⟨l, a, cap, q1, q2, rfl, q3⟩ := rs
      have : sl ≤ cap := by
        have hls' := hls
        simp only [lenV, Option.some.injEq] at hls'
        rcases q3 with ⟨_, rfl⟩ | ⟨h0, rfl, _⟩ <;> omega
      rename_i b off len sz
      obtain rfl : len = sl := by simpa [lenV] using hls
      unfold Builtin.append_
      simp only [ht0, ha0, ha1, Sem.run_bind, run_und hu, Result.andThen_ok, run_sizeOf hsz, ht1, run_und hux, Sem.run_pure, Bool.false_eq_true, if_false, hx]
      rw [if_pos (by omega)]
      simp only [Bool.not_false, if_true, Sem.run_bind, hf, Result.andThen_ok, Nat.add_zero]
      simp [storeCells]
    · exact absurd rfl (hns _)
    · cases hco
  · rename_i i old new sl n hi hco hcn hls hlx
    have hcnl : ∀ w2, Sim C ι M w2 → ∀ sz, new.length = (n + 1) * sz → ∃ xn : List Value, (Builtin.firstCells sz (n + 1) x').run C.P w2 = .ok xn.toArray w2 ∧ V.relL ι new xn ∧ allOne new = true := by
      intro w2 hs2 sz hl
      have hz : ∀ b off len sz', x = .slice b off len sz' → sz' = sz := by
        rintro b off len sz' rfl
        obtain rfl : len = n + 1 := by simpa [lenV] using hlx
        unfold sliceCells at hcn
        simp only at hcn
        split at hcn
        · rename_i k hk
          cases hb : Nat.ble ((off + (n + 1)) * sz') k.cells.length with
          | false => simp [hb] at hcn
          | true =>
            simp only [hb, cond_true] at hcn
            obtain rfl := Option.some.inj hcn
            have hle := Nat.le_of_ble_eq_true hb
            rw [Nat.add_mul] at hle
            rw [takeV_length, dropV_length] at hl
            exact Nat.eq_of_mul_eq_mul_left (Nat.succ_pos n) (by show (n + 1) * sz' = (n + 1) * sz; omega)
        · cases hcn
      obtain ⟨xn, k1, k2, k3⟩ := run_sliceCells hs2 (fun b hb => hM b (by simp [hb])) hcn hz hlx (by omega) rx
      refine ⟨xn, k1, k2, ?_⟩
      cases x <;> first | (simp [lenV] at hlx; done) | skip
      · simp [sliceCells] at hcn
        subst hcn
        rename_i a
        generalize a.data.toList = q
        induction q with
        | nil => rfl
        | cons c q ih => simp [allOne, V.one, ih]
      · exact k3 (by simp) _ _ _ _ rfl
    have hsd : Sim C ι M w.drew := sim_heap (w := w) (w2 := w.drew) rfl hs
    split at h
    · -- nil
      have r' : s' = _ := rs; subst r'
      cases hb : (Nat.ble 1 i.size && Nat.beq new.length ((n + 1) * i.size) && zeroOk C.P elem i.size) with
      | false => simp [hb, Tree.run] at h
      | true =>
        simp only [hb, cond_true] at h
        simp only [Bool.and_eq_true] at hb
        obtain ⟨⟨hb1, hb2⟩, hb3⟩ := hb
        rw [Tree.run_ite] at h; split at h
        · rename_i hbd
          have hbd := of_decide_eq_true hbd
          simp [Tree.run] at h; subst h
          have hln := Nat.eq_of_beq_eq_true hb2
          obtain ⟨xn, k1, k2, k3⟩ := hcnl w.drew hsd i.size hln
          have hg := append_grow (C := C) (ty := ty) (ts := ts) (args := args) (old := []) (new := new) (sl := 0) (cap := 0) (n := n + 1) (base := none) hd hs hu hux (fun k hk => hdi k hk) hi hb3 rfl (len_rel hlx rx _) (by omega) (by simpa using hbd.1) (by simpa using hbd.2) (xo := []) (xn := xn) (by simp [Builtin.firstCells]) k1 rfl k2 (len_rel hlx rx) (by simp) hln rfl k3 ht0 ht1 ha0 ha1
          simpa using hg
        · simp [Tree.run] at h
    · rename_i b off len sz
      obtain rfl : len = sl := by simpa [lenV] using hls
      cases hb : (Nat.ble 1 i.size && Nat.beq sz i.size && Nat.beq new.length ((n + 1) * i.size) && Nat.beq old.length (len * i.size) && zeroOk C.P elem i.size) with
      | false => simp [hb, Tree.run] at h
      | true =>
        simp only [hb, cond_true] at h
        simp only [Bool.and_eq_true] at hb
        obtain ⟨⟨⟨⟨hb1, hb0⟩, hb2⟩, hb4⟩, hb3⟩ := hb
        obtain rfl := Nat.eq_of_beq_eq_true hb0
        have hln := Nat.eq_of_beq_eq_true hb2
        have hlo := Nat.eq_of_beq_eq_true hb4
        have hs1 := Nat.le_of_ble_eq_true hb1
        split at h
        · rename_i k hk
          cases hro : (k.ro || !(Nat.beq k.elem elem)) with
          | true => simp [hro, Tree.run] at h
          | false =>
            simp only [hro, cond_false] at h
            simp only [Bool.or_eq_false_iff, Bool.not_eq_false'] at hro
            have hke := Nat.eq_of_beq_eq_true hro.2
            rw [Tree.run_ite] at h; split at h
            · rename_i hbd
              have hbd := of_decide_eq_true hbd
              simp [Tree.run] at h; subst h
              have hMb : M b = some k := by rw [hM b (by simp [idsV]), hk]
              have hco' := hco
              unfold sliceCells at hco'
              simp only [hk] at hco'
              cases hbl : Nat.ble ((off + len) * i.size) k.cells.length with
              | false => simp [hbl] at hco'
              | true =>
                simp only [hbl, cond_true] at hco'
                obtain rfl := Option.some.inj hco'
                have hle := Nat.le_of_ble_eq_true hbl
                have rs0 := rs
                obtain ⟨l, a, cap, q1, q2, rfl, q3⟩ := rs
                by_cases hroom : len + (n + 1) ≤ cap
                · rcases q3 with ⟨rfl, rfl⟩ | ⟨_, rfl, _⟩
                  · obtain ⟨xn, k1, k2, k3⟩ := hcnl w hs i.size hln
                    exact append_room (C := C) (ty := ty) (ts := ts) (args := args) hd hs hu hux (fun k hk => hdi k hk) hi q1 hs1 (by omega) rfl hroom (len_rel hlx rx) k1 k2 hln k3 hMb hro.1 hke rfl hle ht0 ht1 ha0 ha1
                  · omega
                · obtain ⟨xn, k1, k2, k3⟩ := hcnl w.drew hsd i.size hln
                  have hold : ∃ xo : List Value, (Builtin.firstCells i.size len (.slice (some a) len cap)).run C.P w.drew = .ok xo.toArray w.drew ∧ V.relL ι (takeV (len * i.size) (dropV (off * i.size) k.cells)) xo ∧ allOne (takeV (len * i.size) (dropV (off * i.size) k.cells)) = true := by
                    by_cases h0 : len = 0
                    · subst h0
                      exact ⟨[], first_zero (C := C) 0 (v := .slice b off 0 i.size) rfl i.size rs0 w.drew, by simp [takeV, V.relL], by simp [takeV, allOne]⟩
                    · obtain ⟨xo, g1, g2, g3⟩ := run_sliceCells hsd (fun b hb => hM b (by simp [hb])) hco (sz := i.size) (n := len) (by intro _ _ _ _ hh; injection hh with _ _ _ hh; exact hh.symm) rfl (by omega) rs0
                      exact ⟨xo, g1, g2, g3 (by simp) _ _ _ _ rfl⟩
                  obtain ⟨xo, g1, g2, g3⟩ := hold
                  obtain ⟨y, w', f1, f2⟩ := append_grow (C := C) (ty := ty) (ts := ts) (args := args) (new := new) (sl := len) (cap := cap) (n := n + 1) (base := some a) hd hs hu hux (fun k hk => hdi k hk) hi hb3 rfl (len_rel hlx rx _) (by omega) hbd.1 hbd.2 g1 k1 g2 k2 (len_rel hlx rx) hlo hln g3 k3 ht0 ht1 ha0 ha1
                  refine ⟨y, w', f1, good_sub f2 ?_⟩
                  intro c kc hc
                  simp only [updF, lookU] at hc ⊢
                  by_cases hcb : c = b
                  · subst hcb; simp at hc
                  · rw [beqF (Ne.symm hcb)] at hc
                    simpa using hc
            · simp [Tree.run] at h
        · simp [Tree.run] at h
    · simp [Tree.run] at h
  · simp [Tree.run] at h
end Go.Ex
