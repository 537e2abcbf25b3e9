/-
  THE ABSTRACT MACHINE: a deterministic interpreter over a store of numbered blocks: no capacities, no drawn orders, no real addresses. Definitions alone.
-/
import Derived.Orders
import Derived.Below
import Derived.KernelRfl
set_option linter.unusedVariables false
set_option linter.unusedSimpArgs false
set_option linter.unusedSectionVars false
namespace Go.AM

/-- A block of the store: memory that the call made itself ('own': its cells, its element type), memory that came in ('ro'), or a map with integer keys. -/
inductive Blk where
  | own (vs : List Value) (e : TypeId)
  | ro (vs : List Value)
  | mp (kv : List (Int × Value))

structure St where
  get : Nat → Option Blk
  next : Nat

def St.set (σ : St) (r : Nat) (b : Blk) : St := { σ with get := fun k => if k = r then some b else σ.get k }
def St.del (σ : St) (r : Nat) : St := { σ with get := fun k => if k = r then none else σ.get k }
def St.new (σ : St) (b : Blk) : St := { get := fun k => if k = σ.next then some b else σ.get k, next := σ.next + 1 }
/-- Is it the call's own? -/
def Blk.wr : Blk → Bool
  | .ro _ => false
  | _ => true
def Blk.cells : Blk → List Value
  | .own vs _ => vs
  | .ro vs => vs
  | .mp _ => []
def St.cells (σ : St) (r : Nat) : Option (List Value) := (σ.get r).map Blk.cells
def St.cell (σ : St) (r o : Nat) : Option Value := (σ.cells r).bind (·[o]?)

abbrev Fr := List (Nat × Value)
def Fr.get : Fr → Nat → Option Value
  | [], _ => none
  | (k, v) :: r, t => bif Nat.beq k t then some v else Fr.get r t
def Fr.put (fr : Fr) (d : Option Nat) (v : Value) : Fr := match d with | some d => (d, v) :: fr | none => fr
def Fr.cut (fr : Fr) : Option (List Nat) → Fr
  | none => fr
  | some l => l.filterMap fun t => (fr.get t).map fun v => (t, v)

abbrev Res := Option (Value × St)

/-! ### The words in which what is left to be known is told -/
section
variable {α : Type}
def opnd (fr : Fr) (x : Operand) (K : Value → Option α) : Option α :=
  match x with
  | .tmp t => match fr.get t with | some v => K v | none => none
  | .const v => K v
  | .func f => K (.func (.func f) #[] #[])
  | .global _ => none
def opnds (fr : Fr) : List Operand → (List Value → Option α) → Option α
  | [], K => K []
  | x :: l, K => opnd fr x fun v => opnds fr l fun vs => K (v :: vs)
def need (b : Bool) (K : Option α) : Option α := cond b K none
def br (b : Bool) (x y : Option α) : Option α := cond b x y
def asB (v : Value) (K : Bool → Option α) : Option α := match v with | .bool b => K b | _ => none
def asI (k : IntKind) (v : Value) (K : Int → Option α) : Option α := match v with | .int k' n => if k' = k then K n else none | _ => none
def asS (v : Value) (K : ByteArray → Option α) : Option α := match v with | .string s => K s | _ => none
def asSl (v : Value) (K : Option Addr → Nat → Nat → Option α) : Option α := match v with | .slice a n z => K a n z | _ => none
def asP (v : Value) (K : Option Addr → Option α) : Option α := match v with | .pointer a => K a | _ => none
def asM (v : Value) (K : Option Nat → Option α) : Option α := match v with | .map r => K r | _ => none
def asA (n : Nat) (v : Value) (K : List Value → Option α) : Option α := match v with | .agg A => need (Nat.beq A.toList.length n) (K A.toList) | _ => none
def adr (a : Option Addr) (K : Nat → Nat → Option α) : Option α := match a with | some ⟨r, o, none⟩ => K r o | _ => none
noncomputable def chk (v u : Value) (K : Option α) : Option α := open Classical in if v = u then K else none
def bnd (x : Res) (K : Value → St → Option α) : Option α := match x with | some (v, σ) => K v σ | none => none
def St.ld (σ : St) (r o : Nat) (K : Value → Option α) : Option α := match σ.cell r o with | some v => K v | none => none
def St.lds (σ : St) (r o n : Nat) (K : List Value → Option α) : Option α :=
  match σ.cells r with | some vs => bif decide (o + n ≤ vs.length) then K ((vs.drop o).take n) else none | none => none
/-- The cells of one of the call's own blocks. -/
def St.mine (σ : St) (r : Nat) (K : List Value → TypeId → Option α) : Option α := match σ.get r with | some (.own vs e) => K vs e | _ => none
def nth (cs : List Value) (i : Nat) (K : Value → Option α) : Option α := match cs[i]? with | some v => K v | none => none
end

/-- What kind of values a type has. -/
inductive Kd where
  | b | i (k : IntKind) | s | sl | p | e | f | m | ag (n : Nat) (ks : List Nat) | tup (ts : List TypeId) | no

def plain1 : Value → Bool
  | .bool _ => true
  | .int _ _ => true
  | .string _ => true
  | .pointer none => true
  | .slice none 0 0 => true
  | .nilIface => true
  | .nilFunc => true
  | .map none => true
  | _ => false
/-- A value without an address in it. -/
def plainV (v : Value) : Bool := match v with | .agg A => A.toList.all plain1 | v => plain1 v

def szOf (P : Program) (t : TypeId) : Nat := match P.info? t with | some i => i.size | none => 0
def bytesOf (P : Program) (t : TypeId) : Nat := match P.info? t with | some i => i.bytes | none => 0
def zeroOf (P : Program) (t : TypeId) : Option Value := match P.info? t with | some i => (match i.zero with | some z => bif plainV z then some z else none | none => none) | none => none
/-- What kind the cells of a type have, in numbers. -/
def kiNo (k : IntKind) : Nat := match k with | .i8 => 10 | .i16 => 11 | .i32 => 12 | .i64 => 13 | .u8 => 14 | .u16 => 15 | .u32 => 16 | .u64 => 17
def cellKds (P : Program) : Nat → TypeId → List Nat
  | 0, _ => [99]
  | n + 1, t =>
    match P.underlying t with
    | some .bool => [0]
    | some (.int k) => [kiNo k]
    | some .string => [1]
    | some (.slice _) => [2]
    | some (.pointer _) => [3]
    | some (.interface _) => [4]
    | some (.func ..) => [5]
    | some (.map ..) => [6]
    | some (.struct fs) => fs.toList.flatMap fun f => cellKds P n f.type
    | some (.array m e) => (List.replicate m (cellKds P n e)).flatten
    | _ => [99]
def kcOf (c : Nat) : Kd :=
  match c with
  | 0 => .b | 1 => .s | 2 => .sl | 3 => .p | 4 => .e | 5 => .f | 6 => .m
  | 10 => .i .i8 | 11 => .i .i16 | 12 => .i .i32 | 13 => .i .i64 | 14 => .i .u8 | 15 => .i .u16 | 16 => .i .u32 | 17 => .i .u64
  | _ => .no
def kd (P : Program) (t : TypeId) : Kd :=
  match P.underlying t with
  | some .bool => .b
  | some (.int k) => .i k
  | some .string => .s
  | some (.slice _) => .sl
  | some (.pointer _) => .p
  | some (.interface _) => .e
  | some (.func ..) => .f
  | some (.map ..) => .m
  | some (.struct _) => .ag (szOf P t) (cellKds P 8 t)
  | some (.array ..) => .ag (szOf P t) (cellKds P 8 t)
  | some (.tuple ts) => .tup ts.toList
  | _ => .no

section
variable {α : Type}
/-- A value of a kind, laid open. -/
def dstr0 (k : Kd) (v : Value) (K : Value → Option α) : Option α :=
  match k with
  | .b => asB v fun b => K (.bool b)
  | .i k => asI k v fun n => K (.int k n)
  | .s => asS v fun s => K (.string s)
  | .sl => asSl v fun a n z => K (.slice a n z)
  | .p => asP v fun a => K (.pointer a)
  | .e => K v
  | .f => K v
  | .m => asM v fun r => K (.map r)
  | _ => none
def uncons (l : List Value) (K : Value → List Value → Option α) : Option α := match l with | x :: r => K x r | [] => none
def endl (l : List Value) (K : Option α) : Option α := match l with | [] => K | _ :: _ => none
def dstrC : List Nat → List Value → (List Value → Option α) → Option α
  | [], vs, K => endl vs (K [])
  | c :: cs, vs, K => uncons vs fun v r => dstr0 (kcOf c) v fun u => dstrC cs r fun us => K (u :: us)
/-- Cells laid open, if there are few. -/
def dstrL (ks : List Nat) (vs : List Value) (K : List Value → Option α) : Option α := bif Nat.ble ks.length 12 then dstrC ks vs K else K vs
def asAgL (v : Value) (K : List Value → Option α) : Option α := match v with | .agg A => K A.toList | _ => none
def dstr1 (k : Kd) (v : Value) (K : Value → Option α) : Option α :=
  match k with
  | .ag _ ks => asAgL v fun cs => dstrL ks cs fun us => K (.agg us.toArray)
  | k => dstr0 k v K
def dstrs : List Kd → List Value → (List Value → Option α) → Option α
  | [], vs, K => endl vs (K [])
  | k :: ks, vs, K => uncons vs fun v r => dstr1 k v fun u => dstrs ks r fun us => K (u :: us)
def asT (v : Value) (K : List Value → Option α) : Option α := match v with | .tuple A => K A.toList | _ => none
def dstr (P : Program) (t : TypeId) (v : Value) (K : Value → Option α) : Option α :=
  match kd P t with
  | .tup ts => asT v fun vs => dstrs (ts.map (kd P)) vs fun us => K (.tuple us.toArray)
  | k => dstr1 k v K
end

/-! ### Arithmetic and comparison -/
def ibit (op : BinOp) (k : IntKind) (x y : Int) : Int :=
  let a := BitVec.ofInt k.bits x
  let b := BitVec.ofInt k.bits y
  match op with
  | .and => k.wrap (a &&& b).toNat
  | .or => k.wrap (a ||| b).toNat
  | .xor => k.wrap (a ^^^ b).toNat
  | _ => k.wrap (a &&& ~~~b).toNat
def sizeTop : Nat := 4611686018427387904

/-- What kinds the cells of a type have that may be compared: none: it isn't told. -/
def eqKds (P : Program) : Nat → TypeId → Option (List Kd)
  | 0, _ => none
  | n + 1, t =>
    match P.underlying t with
    | some .bool => some [.b]
    | some (.int k) => some [.i k]
    | some .string => some [.s]
    | some (.struct fs) => fs.toList.foldr (fun f acc => match f.name == "_", eqKds P n f.type, acc with | false, some a, some b => some (a ++ b) | _, _, _ => none) (some [])
    | some (.array len e) => match eqKds P n e with | some a => some (List.replicate len a).flatten | none => none
    | _ => none
def eqCells {α : Type} : List Kd → List Value → List Value → (Bool → Option α) → Option α
  | [], [], [], K => K true
  | .b :: ks, x :: xs, y :: ys, K => asB x fun a => asB y fun b => eqCells ks xs ys fun r => K (a == b && r)
  | .i k :: ks, x :: xs, y :: ys, K => asI k x fun a => asI k y fun b => eqCells ks xs ys fun r => K (a == b && r)
  | .s :: ks, x :: xs, y :: ys, K => asS x fun a => asS y fun b => eqCells ks xs ys fun r => K (a == b && r)
  | _, _, _, _ => none
/-- '==' of a value of an interface type and nil. -/
def eqNil {α : Type} (v : Value) (K : Bool → Option α) : Option α :=
  match v with | .nilIface => K true | .iface _ _ => K false | _ => none
/-- '==' of a value of an interface type and an integer in one. -/
def eqErr {α : Type} (v : Value) (t : TypeId) (k : IntKind) (c : Int) (K : Bool → Option α) : Option α :=
  match v with
  | .nilIface => K false
  | .iface t' u => bif Nat.beq t' t then asI k u fun n => K (n == c) else K false
  | _ => none
/-- '==' of a value of an interface type and a pointer in one: the same place, or another type. -/
def eqPtr {α : Type} (v : Value) (t : TypeId) (b : Addr) (K : Bool → Option α) : Option α :=
  match v with
  | .nilIface => K false
  | .iface t' u => bif Nat.beq t' t then (match u, b with | .pointer (some ⟨q, o, none⟩), ⟨q', o', none⟩ => bif Nat.beq q q' && Nat.beq o o' then K true else none | _, _ => none) else K false
  | _ => none

section
variable {α : Type} (P : Program)
def isAg (P : Program) (t : TypeId) : Bool := match P.underlying t with | some (.struct _) => true | some (.array ..) => true | _ => false
def notIf (op : BinOp) (b : Bool) : Bool := match op with | .neq => !b | _ => b
def isEq (op : BinOp) : Bool := match op with | .eql => true | .neq => true | _ => false

/-- x op y, both whole numbers. -/
def aInt (op : BinOp) (k : IntKind) (a b : Int) (K : Value → Option α) : Option α :=
  match op with
  | .add => K (.int k (k.wrap (a + b)))
  | .sub => K (.int k (k.wrap (a - b)))
  | .mul => K (.int k (k.wrap (a * b)))
  | .quo => need (b != 0) (K (.int k (k.wrap (a.tdiv b))))
  | .rem => need (b != 0) (K (.int k (a.tmod b)))
  | .and => K (.int k (ibit .and k a b))
  | .or => K (.int k (ibit .or k a b))
  | .xor => K (.int k (ibit .xor k a b))
  | .andNot => K (.int k (ibit .andNot k a b))
  | .shl => need (decide (0 ≤ b)) (K (.int k (k.wrap (a * 2 ^ (min b.toNat k.bits)))))
  | .shr => need (decide (0 ≤ b)) (K (.int k (a.fdiv (2 ^ (min b.toNat k.bits)))))
  | .eql => K (.bool (a == b))
  | .neq => K (.bool (a != b))
  | .lss => K (.bool (decide (a < b)))
  | .leq => K (.bool (decide (a ≤ b)))
  | .gtr => K (.bool (decide (a > b)))
  | .geq => K (.bool (decide (a ≥ b)))
def isShift (op : BinOp) : Bool := match op with | .shl => true | .shr => true | _ => false

/-- x op y. -/
def aBin (op : BinOp) (t : TypeId) (cy : Bool) (x y : Value) (K : Value → Option α) : Option α :=
  match y with
  | .int k' b => match x with
    | .int k a => bif isShift op || decide (k = k') then aInt op k a b K else none
    | _ => none
  | .string b => asS x fun a =>
    match op with
    | .add => need (decide (a.size + b.size ≤ sizeTop)) (K (.string (a ++ b)))
    | .eql => K (.bool (a.toList == b.toList))
    | .neq => K (.bool (!(a.toList == b.toList)))
    | _ => none
  | .bool b => asB x fun a => need (isEq op) (need (match P.underlying t with | some .bool => true | _ => false) (K (.bool (notIf op (a == b)))))
  | .pointer none => asP x fun a => need (isEq op) (need (match P.underlying t with | some (.pointer _) => true | _ => false) (K (.bool (notIf op a.isNone))))
  | .slice none _ _ => asSl x fun a _ _ => need (isEq op) (need (match P.underlying t with | some (.slice _) => true | _ => false) (K (.bool (notIf op a.isNone))))
  | .nilIface => need (isEq op && cy) (need (match P.underlying t with | some (.interface _) => true | _ => false) (eqNil x fun b => K (.bool (notIf op b))))
  | .iface t' u => match u with
    | .int k c => need (isEq op) (need (match P.underlying t, P.underlying t', P.info? t' with | some (.interface _), some (.int k'), some i => i.comparable && decide (k = k') | _, _, _ => false) (eqErr x t' k c fun b => K (.bool (notIf op b))))
    | .pointer (some b) => need (isEq op) (need (match P.underlying t, P.underlying t', P.info? t' with | some (.interface _), some (.pointer te), some i => i.comparable && (P.info? te).isSome | _, _, _ => false) (eqPtr x t' b fun r => K (.bool (notIf op r))))
    | _ => none
  | .agg B => asAgL x fun A => need (isEq op && isAg P t) (match eqKds P 20 t with | some ks => eqCells ks A B.toList fun b => K (.bool (notIf op b)) | none => none)
  | _ => none

def aUn (op : UnOp) (x : Value) (K : Value → Option α) : Option α :=
  match op, x with
  | .neg, .int k n => K (.int k (k.wrap (0 - n)))
  | .xor, .int k n => K (.int k (ibit .xor k (if k.signed then -1 else k.max) n))
  | .not, .bool b => K (.bool !b)
  | _, _ => none

def bytesIn : List Value → Option (List UInt8)
  | [] => some []
  | .int .u8 n :: l => (bytesIn l).map (UInt8.ofNat n.toNat :: ·)
  | _ :: _ => none
def asBy (cs : List Value) (K : List UInt8 → Option α) : Option α := match bytesIn cs with | some l => K l | none => none
def byteCells (s : ByteArray) : List Value := s.data.toList.map fun b => .int .u8 b.toNat

/-- A type's field: where it begins, its type. -/
def fieldOf (P : Program) (t : TypeId) (f : Nat) (K : Nat → TypeId → Option α) : Option α :=
  match P.underlying t with
  | some (.struct fs) => match fs[f]? with | some x => K x.offset x.type | none => none
  | _ => none
/-- The element type of a slice type. -/
def elOf (P : Program) (t : TypeId) (K : TypeId → Option α) : Option α := match P.underlying t with | some (.slice e) => K e | _ => none

/-- A part of a struct or an array. -/
def aPart (t : TypeId) (cs : List Value) (off : Nat) (K : Value → Option α) : Option α :=
  bif isAg P t then need (decide (off + szOf P t ≤ cs.length)) (K (.agg ((cs.drop off).take (szOf P t)).toArray))
  else nth cs off fun v => dstr P t v K

def zerosN (z : List Value) : Nat → List Value
  | 0 => []
  | n + 1 => z ++ zerosN z n
end

def isPtrD (d : TypeDesc) : Bool := match d with | .pointer _ => true | _ => false
/-- The function that is a type's own method (no field on the way). -/
def directM (P : Program) (t : TypeId) (m : String) : Option FuncId :=
  match P.info? t with
  | some i => match i.methods.find? (·.name == m) with
    | some r => match r.func, P.underlying t with
      | some (f, b), some d => bif r.path.isEmpty && (isPtrD d == b) then some f else none
      | _, _ => none
    | none => none
  | none => none
/-- A method of what an interface holds. -/
def aMeth (P : Program) (v : Value) (m : String) (K : FuncId → Value → Res) : Res :=
  match v with
  | .iface t u => (match directM P t m with | some f => K f u | none => none)
  | _ => none

/-! ### One operation -/
section
variable (P : Program) (call : FuncId → List Value → St → Res)
abbrev Kont := Value → St → Res

def aLoad (t : TypeId) (σ : St) (r o : Nat) (K : Value → Res) : Res :=
  match kd P t with
  | .ag n ks => σ.lds r o n fun cs => dstrL ks cs fun us => K (.agg us.toArray)
  | .tup _ => none
  | k => σ.ld r o fun v => dstr1 k v K

def Value.cellsL (v : Value) : List Value := match v with | .agg A => A.toList | v => [v]
def oneCell : Value → Bool
  | .agg _ => false
  | .tuple _ => false
  | _ => true

/-- Cells laid over those of a block from a place on. -/
def over (vs : List Value) (o : Nat) (new : List Value) : List Value := vs.take o ++ new ++ vs.drop (o + new.length)

/-- Cells stored into one of the call's own blocks. -/
def St.put (σ : St) (r o : Nat) (new : List Value) (K : St → Res) : Res :=
  match σ.get r with
  | some (.own vs e) => if o + new.length ≤ vs.length ∧ new.all oneCell = true then K (σ.set r (.own (over vs o new) e)) else none
  | _ => none

def aStore (t : TypeId) (σ : St) (r o : Nat) (v : Value) (K : St → Res) : Res :=
  need (Nat.beq (Value.cellsL v).length (szOf P t)) (σ.put r o (Value.cellsL v) K)

def roomTop : Nat := 140737488355328

/-- What an append leaves: of a slice (address, length, cells an element) and 'm' elements whose cells are 'news' (element type 'e', 'sz' cells and 'by' bytes each). -/
def grow (e : TypeId) (sz by_ : Nat) (a : Option Addr) (n z m : Nat) (news : List Value) (σ : St) (K : Option Addr → Nat → Nat → St → Res) : Res :=
  if m = 0 then K a n z σ
  else if (n + m) * by_ ≤ roomTop ∧ n + m ≤ sizeTop ∧ 0 < sz ∧ news.all oneCell = true then
    match a with
    | none => if n = 0 then K (some ⟨σ.next, 0, none⟩) m sz (σ.new (.own news e)) else none
    | some ⟨r, o, none⟩ =>
      match σ.get r with
      | some (.own vs e') => if e' = e ∧ z = sz ∧ o + n * sz ≤ vs.length then
          K (some ⟨σ.next, 0, none⟩) (n + m) sz ((σ.del r).new (.own ((vs.drop o).take (n * sz) ++ news) e)) else none
      | _ => none
    | some _ => none
  else none

/-- The cells of 'n' cells of a slice. -/
def St.row (σ : St) (a : Option Addr) (n : Nat) (K : List Value → Res) : Res := if n = 0 then K [] else adr a fun r o => σ.lds r o n K

def aAppend (ts : List TypeId) (args : List Value) (σ : St) (K : Kont) : Res :=
  match ts, args with
  | [t, u], [s, x] => asSl s fun a n z => elOf P t fun e =>
    match zeroOf P e with
    | some zv => need (Nat.beq (Value.cellsL zv).length (szOf P e)) <|
      match P.underlying u with
      | some (.slice _) => asSl x fun a2 m _ => σ.row a2 (m * szOf P e) fun news => grow e (szOf P e) (bytesOf P e) a n z m news σ fun a' n' z' σ' => K (.slice a' n' z') σ'
      | some .string => asS x fun b => need (Nat.beq (szOf P e) 1) (grow e (szOf P e) (bytesOf P e) a n z b.size (byteCells b) σ fun a' n' z' σ' => K (.slice a' n' z') σ')
      | some (.int _) => asI .i64 x fun m => need (a.isNone && decide (1 ≤ m) && decide (m.toNat * bytesOf P e ≤ roomTop) && decide (m ≤ (sizeTop : Int)) && decide (0 < szOf P e))
          (K (.slice (some ⟨σ.next, 0, none⟩) m.toNat (szOf P e)) (σ.new (.own (zerosN (Value.cellsL zv) m.toNat) e)))
      | _ => none
    | none => none
  | _, _ => none

/-- What a copy leaves: 'k' elements, 'sz' cells each. -/
def cpy (sz : Nat) (a a2 : Option Addr) (k : Nat) (σ : St) (K : St → Res) : Res :=
  if k * sz = 0 then K σ else
  adr a2 fun r2 o2 => σ.lds r2 o2 (k * sz) fun cs => adr a fun r o => σ.put r o cs K

def aCopy (ts : List TypeId) (args : List Value) (σ : St) (K : Kont) : Res :=
  match ts, args with
  | [t, u], [d, x] => asSl d fun a n _ => elOf P t fun e => need (decide (0 < szOf P e)) <|
      match P.underlying u with
      | some (.slice _) => asSl x fun a2 m _ => cpy (szOf P e) a a2 (min m n) σ fun σ' => K (.int .i64 (min m n : Nat)) σ'
      | _ => none
  | _, _ => none

def aLen (ts : List TypeId) (args : List Value) (K : Value → Res) : Res :=
  match ts, args with
  | [t], [x] =>
    match P.underlying t, x with
    | some .string, .string s => K (.int .i64 s.size)
    | some (.slice _), .slice _ n _ => K (.int .i64 n)
    | some (.array n _), _ => K (.int .i64 n)
    | _, _ => none
  | _, _ => none

/-- A nil slice's capacity. -/
def aCap (ts : List TypeId) (args : List Value) (K : Value → Res) : Res :=
  match ts, args with
  | [t], [x] =>
    match P.underlying t with
    | some (.slice _) => asSl x fun a _ _ => need a.isNone (K (.int .i64 0))
    | _ => none
  | _, _ => none

def mx (a b : Int) : Int := if b > a then b else a
def mn (a b : Int) : Int := if b < a then b else a
def aMax (f : Int → Int → Int) : List Value → (Value → Res) → Res
  | [.int k a, .int _ b], K => K (.int k (f a b))
  | [.int k a, .int _ b, .int _ c], K => K (.int k (f (f a b) c))
  | _, _ => none

def aBuiltin (b : Builtin) (ts : List TypeId) (args : List Value) (σ : St) (K : Kont) : Res :=
  match b with
  | .append => aAppend P ts args σ K
  | .copy => aCopy P ts args σ K
  | .len => aLen P ts args fun v => K v σ
  | .cap => aCap P ts args fun v => K v σ
  | .max => aMax mx args fun v => K v σ
  | .min => aMax mn args fun v => K v σ
  | _ => none

def inRange (i n : Int) : Bool := decide (0 ≤ i) && decide (i < n)

def aIndexAddr (t : TypeId) (x i : Value) (K : Value → Res) : Res :=
  match i with
  | .int _ j =>
    match P.underlying t, x with
    | some (.slice e), .slice a n _ => need (decide (0 < szOf P e)) <| need (inRange j n) (adr a fun r o => K (.pointer (some ⟨r, o + j.toNat * szOf P e, none⟩)))
    | some (.array n e), .pointer a => need (decide (0 < szOf P e)) <| need (inRange j n) (adr a fun r o => K (.pointer (some ⟨r, o + j.toNat * szOf P e, none⟩)))
    | _, _ => none
  | _ => none

def aIndex (t : TypeId) (x i : Value) (K : Value → Res) : Res :=
  match i with
  | .int _ j =>
    match P.underlying t, x with
    | some (.array n e), .agg A => need (decide (0 < szOf P e)) <| need (inRange j n) (aPart P e A.toList (j.toNat * szOf P e) K)
    | some .string, .string s => need (inRange j s.size) (K (.int .u8 (s.data.toList.getD j.toNat 0).toNat))
    | _, _ => none
  | _ => none

def bound (v : Option Value) (top : Nat) (dflt : Nat) (K : Nat → Res) : Res :=
  match v with
  | none => K dflt
  | some (.int _ i) => need (inRange i (top + 1)) (K i.toNat)
  | some _ => none

def optOpnd (fr : Fr) (x : Option Operand) (K : Option Value → Res) : Res :=
  match x with
  | none => K none
  | some x => opnd fr x fun v => K (some v)

/-- The same slice, from a later place on. -/
def subA (a : Option Addr) (n : Nat) : Option Addr := match a with | some ad => some ⟨ad.block, ad.off + n, none⟩ | none => none

def aSlice (t : TypeId) (x : Value) (lo hi mx : Option Value) (K : Value → Res) : Res :=
  match P.underlying t, x with
  | some .string, .string s => match mx with
    | none => bound hi s.size s.size fun h => bound lo h 0 fun l => K (.string (s.extract l h))
    | some _ => none
  | some (.slice e), .slice a n z =>
    need (match mx, hi with | some _, none => false | _, _ => true) <| need (decide (0 < szOf P e)) <| need (Nat.beq z 0 || Nat.beq z (szOf P e)) <| bound mx n n fun m => bound hi m n fun h => bound lo h 0 fun l =>
      K (.slice (subA a (l * szOf P e)) (h - l) z)
  | some (.array n e), .pointer a => match mx with
    | none => need (decide (0 < szOf P e)) <| need (decide (n ≤ sizeTop)) <| adr a fun r o => bound hi n n fun h => bound lo h 0 fun l => K (.slice (some ⟨r, o + l * szOf P e, none⟩) (h - l) 0)
    | some _ => none
  | _, _ => none

def aConv (src dst : TypeId) (x : Value) (σ : St) (K : Kont) : Res :=
  match P.underlying src, P.underlying dst, x with
  | some (.int _), some (.int k), .int _ n => K (.int k (k.wrap n)) σ
  | some .string, some .string, .string s => K (.string s) σ
  | some .string, some (.slice e), .string s => match P.underlying e with
    | some (.int .u8) => need (decide (s.size ≤ sizeTop)) (K (.slice (some ⟨σ.next, 0, none⟩) s.size 0) (σ.new (.ro (byteCells s))))
    | _ => none
  | some (.slice e), some .string, .slice a n _ => match P.underlying e with
    | some (.int .u8) => σ.row a n fun cs => asBy cs fun l => K (.string ⟨l.toArray⟩) σ
    | _ => none
  | _, _, _ => none

def aMkSlice (t : TypeId) (l c : Value) (σ : St) (K : Kont) : Res :=
  match l, c with
  | .int .i64 l, .int .i64 c => elOf P t fun e =>
    match zeroOf P e with
    | some z => need (decide (0 ≤ l) && decide (l ≤ c) && decide (c.toNat * bytesOf P e ≤ roomTop) && decide (c ≤ (sizeTop : Int)) && Nat.beq (Value.cellsL z).length (szOf P e) && decide (0 < szOf P e))
        (K (.slice (some ⟨σ.next, 0, none⟩) l.toNat (szOf P e)) (σ.new (.own (zerosN (Value.cellsL z) l.toNat) e)))
    | none => none
  | _, _ => none

/-- The parts of a struct or an array laid at their places. -/
def fillL (place : Nat → Option (Nat × Nat)) (cells : List Value) : List (Nat × Value) → Option (List Value)
  | [] => some cells
  | (i, v) :: rest =>
    match place i with
    | none => none
    | some (off, size) => bif Nat.beq (Value.cellsL v).length size && decide (off + (Value.cellsL v).length ≤ cells.length) then fillL place (over cells off (Value.cellsL v)) rest else none
/-- The same, told word by word. -/
def fillK (place : Nat → Option (Nat × Nat × Bool)) (cells : List Value) : List (Nat × Value) → (List Value → Res) → Res
  | [], K => K cells
  | (i, v) :: rest, K =>
    match place i with
    | none => none
    | some (off, size, ag) =>
      bif ag then asAgL v fun cs => need (Nat.beq cs.length size) (need (Nat.ble (off + cs.length) cells.length) (fillK place (over cells off cs) rest K))
      else need (oneCell v) (need (Nat.beq 1 size) (need (Nat.ble (off + 1) cells.length) (fillK place (over cells off [v]) rest K)))
def opndPs (fr : Fr) : List (Nat × Operand) → (List (Nat × Value) → Res) → Res
  | [], K => K []
  | (i, x) :: l, K => opnd fr x fun v => opndPs fr l fun vs => K ((i, v) :: vs)

def aBuild (t : TypeId) (parts : List (Nat × Value)) (K : Value → Res) : Res :=
  match zeroOf P t with
  | none => none
  | some z =>
    match P.underlying t with
    | some (.struct fs) => fillK (fun i => (fs[i]?).map fun f => (f.offset, szOf P f.type, isAg P f.type)) (Value.cellsL z) parts fun cs => K (.agg cs.toArray)
    | some (.array _ e) => fillK (fun i => some (i * szOf P e, szOf P e, isAg P e)) (Value.cellsL z) parts fun cs => K (.agg cs.toArray)
    | _ => none
def aBuildSlice (t : TypeId) (len : Nat) (parts : List (Nat × Value)) (σ : St) (K : Kont) : Res :=
  elOf P t fun e => need (decide (len * szOf P e ≤ 16777216)) <|
    match zeroOf P e with
    | none => none
    | some z => need (Nat.beq (Value.cellsL z).length (szOf P e) && decide (0 < szOf P e)) <|
      fillK (fun i => some (i * szOf P e, szOf P e, isAg P e)) (zerosN (Value.cellsL z) len) parts fun cs => K (.slice (some ⟨σ.next, 0, none⟩) len (szOf P e)) (σ.new (.own cs e))

def kvGet (n : Int) : List (Int × Value) → Option Value
  | [] => none
  | (k, v) :: l => if n = k then some v else kvGet n l
def kvPut (n : Int) (u : Value) : List (Int × Value) → List (Int × Value)
  | [] => [(n, u)]
  | (k, v) :: l => if n = k then (k, u) :: l else (k, v) :: kvPut n u l

/-- What a map holds. -/
def St.look (σ : St) (m : Option Nat) (n : Int) (z : Value) (K : Value → Res) : Res :=
  match m with
  | none => K z
  | some r => match σ.get r with
    | some (.mp kv) => K ((kvGet n kv).getD z)
    | _ => none
def St.upd (σ : St) (m : Option Nat) (n : Int) (u : Value) (K : St → Res) : Res :=
  match m with
  | none => none
  | some r => match σ.get r with
    | some (.mp kv) => K (σ.set r (.mp (kvPut n u kv)))
    | _ => none
def asF (v : Value) (K : FuncId → List Value → List Value → Res) : Res := match v with | .func (.func f) a b => K f a.toList b.toList | _ => none
def asAg (v : Value) (K : List Value → Res) : Res := match v with | .agg A => K A.toList | _ => none
def asTu (v : Value) (K : List Value → Res) : Res := match v with | .tuple A => K A.toList | _ => none

def isConst : Operand → Bool
  | .const _ => true
  | _ => false

/-- One operation: its value, the store behind it. -/
def aOp (o : Oper) (fr : Fr) (σ : St) (K : Kont) : Res :=
  match o.op with
  | .move x => opnd fr x fun v => K v σ
  | .assign x => opnd fr x fun v => K v σ
  | .pick c a b => opnd fr c fun cv => asB cv fun t => br t (opnd fr a fun v => K v σ) (opnd fr b fun v => K v σ)
  | .alloc t => match zeroOf P t with | some z => K (.pointer (some ⟨σ.next, 0, none⟩)) (σ.new (.own (Value.cellsL z) t)) | none => none
  | .box t x => opnd fr x fun v => K (.pointer (some ⟨σ.next, 0, none⟩)) (σ.new (.own (Value.cellsL v) t))
  | .build t ps => opndPs fr ps.toList fun l => aBuild P t l fun v => K v σ
  | .buildSlice t n ps => opndPs fr ps.toList fun l => aBuildSlice P t n l σ K
  | .load t x => opnd fr x fun v => asP v fun a => adr a fun r o => aLoad P t σ r o fun v => K v σ
  | .store t x y => opnd fr x fun v => asP v fun a => adr a fun r o => opnd fr y fun u => aStore P t σ r o u fun σ' => K undef σ'
  | .nilCheck x => opnd fr x fun v => match v with
    | .pointer a => adr a fun r o => K (.pointer (some ⟨r, o, none⟩)) σ
    | .func (.func f) fs cs => K (.func (.func f) fs cs) σ
    | .iface t v => K (.iface t v) σ
    | _ => none
  | .binOp op t x y _ => opnd fr x fun a => opnd fr y fun b => aBin P op t (isConst y) a b fun v => K v σ
  | .unOp op _ x => opnd fr x fun a => aUn op a fun v => K v σ
  | .convert s d x => opnd fr x fun v => aConv P s d v σ K
  | .makeInterface t x => opnd fr x fun v => need (match P.underlying t with | some (.interface _) => false | some _ => true | none => false) (K (.iface t v) σ)
  | .makeFunc fn fs cs => opnds fr fs.toList fun us => opnds fr cs.toList fun vs => K (.func fn us.toArray vs.toArray) σ
  | .makeMap t none => need (match P.underlying t with | some (.map _ _) => true | _ => false) (K (.map (some σ.next)) (σ.new (.mp [])))
  | .makeSlice t l c => opnd fr l fun a => opnd fr c fun b => aMkSlice P t a b σ K
  | .slice t x lo hi m => opnd fr x fun v => optOpnd fr lo fun a => optOpnd fr hi fun b => optOpnd fr m fun c => aSlice P t v a b c fun v => K v σ
  | .fieldAddr t x f => opnd fr x fun v => asP v fun a => adr a fun r o => fieldOf P t f fun off ft => need (decide (0 < szOf P ft)) (K (.pointer (some ⟨r, o + off, none⟩)) σ)
  | .field t x f => opnd fr x fun v => asAg v fun cs => fieldOf P t f fun off ft => aPart P ft cs off fun v => K v σ
  | .indexAddr t x i => opnd fr x fun v => opnd fr i fun j => aIndexAddr P t v j fun v => K v σ
  | .index t x i => opnd fr x fun v => opnd fr i fun j => aIndex P t v j fun v => K v σ
  | .lookup t x i false => opnd fr x fun v => opnd fr i fun j =>
      match P.underlying t with
      | some (.map k e) => match P.underlying k, zeroOf P e with
        | some (.int ik), some z => asM v fun m => asI ik j fun n => σ.look m n z fun u => dstr P e u fun u => K u σ
        | _, _ => none
      | _ => none
  | .mapUpdate t m k x => opnd fr m fun v => opnd fr k fun j => opnd fr x fun u =>
      match P.underlying t with
      | some (.map kt _) => match P.underlying kt with
        | some (.int ik) => asM v fun m => asI ik j fun n => need (oneCell u) (σ.upd m n u fun σ' => K undef σ')
        | _ => none
      | _ => none
  | .extract x i => opnd fr x fun v => asTu v fun vs => nth vs i fun u => dstr P o.type u fun u => K u σ
  | .call c => match c.callee with
    | .value f => opnd fr f fun fv => asF fv fun g first caps => opnds fr c.args.toList fun vs => bnd (call g (first ++ vs ++ caps) σ) fun v σ' => dstr P o.type v fun u => K u σ'
    | .builtin b => opnds fr c.args.toList fun vs => aBuiltin P b c.argTypes.toList vs σ K
    | .invoke x m => opnd fr x fun xv => aMeth P xv m fun g u => opnds fr c.args.toList fun vs => bnd (call g (u :: vs) σ) fun v σ' => dstr P o.type v fun u => K u σ'
  | _ => none
end

/-! ### Regions -/
/-- Does an operation read the store? -/
def looks (P : Program) (o : Oper) : Bool :=
  match o.op with
  | .load .. => true
  | .lookup .. => true
  | .convert s _ _ => match P.underlying s with | some (.slice _) => true | _ => false
  | _ => false
/-- May it change the store? -/
def acts (P : Program) (o : Oper) : Bool :=
  match o.op with
  | .alloc _ => true
  | .box .. => true
  | .buildSlice .. => true
  | .store .. => true
  | .makeMap .. => true
  | .makeSlice .. => true
  | .mapUpdate .. => true
  | .convert _ d _ => match P.underlying d with | some (.slice _) => true | _ => false
  | .call c => match c.callee with | .builtin b => (match b with | .append => true | .copy => true | _ => false) | _ => true
  | _ => false

section
variable (P : Program) (call : FuncId → List Value → St → Res)

/-- What an operation reads now is what it read elsewhere. -/
noncomputable def again (o : Oper) (fr : Fr) (v : Value) (K : Res) : List St → Res
  | [] => K
  | σ :: l => aOp P call o fr σ fun u _ => chk u v (again o fr v K l)
/-- Each of some operations reads still what it read. -/
noncomputable def still (fr : Fr) (σ : St) (K : Res) : List (Oper × Value) → Res
  | [] => K
  | (o, v) :: l => aOp P call o fr σ fun u _ => chk u v (still fr σ K l)

/-- What has been done in a region that draws its order: readings (index, operation, value), changes (index, the store ahead of it). -/
structure Past where
  reads : List (Nat × Oper × Value)
  acts : List (Nat × St)
def oneOf {β : Type} (i : Nat) : List (Nat × β) → List β
  | [] => []
  | (j, x) :: l => bif Nat.beq i j then [x] else oneOf i l
def those {β : Type} (l : List (Nat × β)) : List Nat → List β
  | [] => []
  | i :: is => oneOf i l ++ those l is

def guardIs (all : List Oper) (fr : Fr) (g : Option (Nat × Bool)) (yes : Fr → Res) (no : Fr → Res) : Res :=
  match g with
  | none => yes fr
  | some (j, w) =>
    match (all[j]?).bind (·.dst) with
    | none => none
    | some d => match fr.get d with
      | some (.bool b) => br b (bif w then yes ((d, .bool true) :: fr) else no ((d, .bool true) :: fr)) (bif w then no ((d, .bool false) :: fr) else yes ((d, .bool false) :: fr))
      | some (.tuple A) => bif A.toList.isEmpty then no fr else none
      | _ => none

noncomputable def aOps (all : List Oper) (un : Option (Nat → List Nat)) : List Oper → Nat → Past → Fr → St → (Fr → St → Res) → Res
  | [], _, _, fr, σ, K => K fr σ
  | o :: rest, i, past, fr, σ, K =>
    guardIs all fr o.guard
      (fun fr => aOp P call o fr σ fun v σ' =>
        match un with
        | none => aOps all un rest (i + 1) past (fr.put o.dst v) σ' K
        | some u =>
          bif acts P o then
            still P call fr σ' (aOps all un rest (i + 1) { past with acts := (i, σ) :: past.acts } (fr.put o.dst v) σ' K) (those past.reads (u i))
          else bif looks P o then
            again P call o fr v (aOps all un rest (i + 1) { past with reads := (i, o, v) :: past.reads } (fr.put o.dst v) σ' K) (those past.acts (u i))
          else aOps all un rest (i + 1) past (fr.put o.dst v) σ' K)
      (fun fr => aOps all un rest (i + 1) past (fr.put o.dst undef) σ K)
end

/-! ### Code -/
inductive Ex where
  | normal
  | exit (id : Nat)
  | ret

/-- The first region's number in a piece of code. -/
def fr1 : Code → Option Nat
  | .region id _ _ => some id
  | .seq a b => match fr1 a with | some x => some x | none => fr1 b
  | .block _ c => fr1 c
  | .loop c => fr1 c
  | _ => none

/-- What is told of a function's code beside it: at a region's number the slots that are kept ahead of it; in a region that draws its order, at an operation's index, the readings (or changes) ahead of it that it might change places with. -/
structure Ann where
  keep : Nat → Option (List Nat)
  un : Nat → Nat → List Nat
def Ann.at (ann : Ann) (c : Code) : Option (List Nat) := match fr1 c with | some i => ann.keep i | none => none

/-- A place in a function's code that has a name of its own. -/
def pt (_id : Option Nat) (_keep : Option (List Nat)) (_fr : Fr) (x : Res) : Res := x

def iter (id : Option Nat) (f : Fr → St → (Ex → Fr → St → Res) → Res) (keep : Option (List Nat)) (K : Ex → Fr → St → Res) : Nat → Fr → St → Res
  | 0, _, _ => none
  | n + 1, fr, σ => f (fr.cut keep) σ fun ex fr' σ' => match ex with | .normal => iter id f keep K n (fr'.cut keep) σ' | .exit i => K (.exit i) fr' σ' | .ret => K .ret fr' σ'

section
variable (P : Program) (call : FuncId → List Value → St → Res) (L : Nat) (ann : Ann)
noncomputable def evCode : Code → Fr → St → (Ex → Fr → St → Res) → Res
  | .skip, fr, σ, K => K .normal fr σ
  | .region id ops draw, fr, σ, K => aOps P call ops.toList (bif draw then some (ann.un id) else none) ops.toList 0 ⟨[], []⟩ fr σ fun fr' σ' => K .normal fr' σ'
  | .seq a b, fr, σ, K => evCode a fr σ fun ex fr' σ' => match ex with | .normal => pt (fr1 b) (ann.at b) fr' (evCode b (fr'.cut (ann.at b)) σ' K) | .exit i => K (.exit i) fr' σ' | .ret => K .ret fr' σ'
  | .cond c t e, fr, σ, K => opnd fr c fun v => asB v fun b => br b (evCode t fr σ K) (evCode e fr σ K)
  | .block id c, fr, σ, K => evCode c fr σ fun ex fr' σ' => match ex with | .normal => K .normal fr' σ' | .exit i => bif Nat.beq i id then K .normal fr' σ' else K (.exit i) fr' σ' | .ret => K .ret fr' σ'
  | .loop c, fr, σ, K => iter (fr1 c) (evCode c) (ann.at c) K L (fr.cut (ann.at c)) σ
  | .exit id, fr, σ, K => K (.exit id) fr σ
  | .ret, fr, σ, K => K .ret fr σ
  | _, _, _, _ => none

/-- What follows a place in a piece of code (a path: false: the left one), with the rounds that the loops around it have left. -/
noncomputable def kAt : Code → List Bool → List Nat → (Ex → Fr → St → Res) → (Ex → Fr → St → Res)
  | .seq a b, false :: p, ns, K => kAt a p ns fun ex fr' σ' => match ex with | .normal => pt (fr1 b) (ann.at b) fr' (evCode P call L ann b (fr'.cut (ann.at b)) σ' K) | .exit i => K (.exit i) fr' σ' | .ret => K .ret fr' σ'
  | .seq _ b, true :: p, ns, K => kAt b p ns K
  | .cond _ t _, false :: p, ns, K => kAt t p ns K
  | .cond _ _ e, true :: p, ns, K => kAt e p ns K
  | .block id c, p, ns, K => kAt c p ns fun ex fr' σ' => match ex with | .normal => K .normal fr' σ' | .exit i => bif Nat.beq i id then K .normal fr' σ' else K (.exit i) fr' σ' | .ret => K .ret fr' σ'
  | .loop c, _ :: p, n :: ns, K => kAt c p ns fun ex fr' σ' => match ex with | .normal => iter (fr1 c) (evCode P call L ann c) (ann.at c) K n (fr'.cut (ann.at c)) σ' | .exit i => K (.exit i) fr' σ' | .ret => K .ret fr' σ'
  | _, _, _, K => K
def cAt : Code → List Bool → Code
  | .seq a _, false :: p => cAt a p
  | .seq _ b, true :: p => cAt b p
  | .cond _ t _, false :: p => cAt t p
  | .cond _ _ e, true :: p => cAt e p
  | .block _ c, p => cAt c p
  | .loop c, _ :: p => cAt c p
  | c, _ => c
/-- A loop's rounds that are left, from its head on, to the function's end. -/
noncomputable def loopFrom (c : Code) (K : Ex → Fr → St → Res) (n : Nat) (fr : Fr) (σ : St) : Res :=
  match c with
  | .loop c => iter (fr1 c) (evCode P call L ann c) (ann.at c) K n fr σ
  | _ => none
end

/-- A function of the program, or a contract that is proved apart. -/
inductive Def where
  | code (fn : Func) (body : Code) (ann : Ann)
  | prim (g : List Value → St → Res)
  | no

def frame0 : List Value → Nat → Fr
  | [], _ => []
  | v :: l, i => (i, v) :: frame0 l (i + 1)

def outs (P : Program) (fr : Fr) (σ : St) : List ResultVar → (List Value → Res) → Res
  | [], K => K []
  | .tmp t :: l, K => match fr.get t with | some v => outs P fr σ l fun vs => K (v :: vs) | none => none
  | .cell a t :: l, K => match fr.get a with
    | some v => asP v fun ad => adr ad fun r o => aLoad P t σ r o fun u => outs P fr σ l fun vs => K (u :: vs)
    | none => none
def pack : List Value → Value
  | [v] => v
  | vs => .tuple vs.toArray

/-- A function's end. -/
def kEnd (P : Program) (fn : Func) : Ex → Fr → St → Res := fun ex fr σ => match ex with
  | .exit _ => none
  | .normal => outs P fr σ fn.results.toList fun vs => some (pack vs, σ)
  | .ret => outs P fr σ fn.results.toList fun vs => some (pack vs, σ)

noncomputable def evCall (P : Program) (env : FuncId → Def) (L : Nat) : Nat → FuncId → List Value → St → Res
  | 0, _, _, _ => none
  | n + 1, f, args, σ =>
    match env f with
    | .no => none
    | .prim g => g args σ
    | .code fn body ann => need (Nat.beq args.length (fn.params.size + fn.nfree)) (evCode P (evCall P env L n) L ann body (frame0 args 0) σ (kEnd P fn))

/-- From a place in a function's code on, to its end. -/
noncomputable def ptAt (P : Program) (env : FuncId → Def) (L k : Nat) (f : FuncId) (path : List Bool) (ns : List Nat) (fr : Fr) (σ : St) : Res :=
  match env f with
  | .code fn body ann => evCode P (evCall P env L k) L ann (cAt body path) fr σ (kAt P (evCall P env L k) L ann body path ns (kEnd P fn))
  | _ => none
/-- From a loop's head on. -/
noncomputable def lpAt (P : Program) (env : FuncId → Def) (L k : Nat) (f : FuncId) (path : List Bool) (ns : List Nat) (n : Nat) (fr : Fr) (σ : St) : Res :=
  match env f with
  | .code fn body ann => loopFrom P (evCall P env L k) L ann (cAt body path) (kAt P (evCall P env L k) L ann body path ns (kEnd P fn)) n fr σ
  | _ => none

end Go.AM
