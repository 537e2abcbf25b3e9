/-
  Texts laid together: Am0, Am1, Am2, Am3, Am4, Am5, Am6.
-/
import Derived.Orders
import Derived.Below
import Derived.KernelRfl
import Derived.Laws.AppendOwn
import Derived.Laws.MakeOwn
import Derived.Deep.Draws
import Derived.Laws.Tables
import Derived.Laws.Slices
import Derived.Laws.Strings
import Derived.Laws.Build
import Derived.WideLaws
import Derived.LaidEql
import Derived.Lib.ConvBytes
import Derived.Laws.BytesString
set_option linter.unusedVariables false
set_option linter.unusedSimpArgs false
set_option linter.unusedSectionVars false
namespace Go.AM
inductive Blk where
  | own (vs : List Value) (e : TypeId)
  | ro (vs : List Value)
  | mp (kv : List (Int × Value))
structure St where
  get : Nat → Option Blk
  next : Nat
def St.set (σ : St) (r : Nat) (b : Blk) : St := { σ with get := fun k => if k = r then some b else σ.get k }
def St.del (σ : St) (r : Nat) : St := { σ with get := fun k => if k = r then none else σ.get k }
def St.new (σ : St) (b : Blk) : St := { get := fun k => if k = σ.next then some b else σ.get k, next := σ.next + 1 }
def Blk.wr : Blk → Bool
  | .ro _ => false
  | _ => true
def Blk.cells : Blk → List Value
  | .own vs _ => vs
  | .ro vs => vs
  | .mp _ => []
def St.cells (σ : St) (r : Nat) : Option (List Value) := (σ.get r).map Blk.cells
def St.cell (σ : St) (r o : Nat) : Option Value := (σ.cells r).bind (·[o]?)
abbrev Fr := List (Nat × Value)
def Fr.get : Fr → Nat → Option Value
  | [], _ => none
  | (k, v) :: r, t => bif Nat.beq k t then some v else Fr.get r t
def Fr.put (fr : Fr) (d : Option Nat) (v : Value) : Fr := match d with | some d => (d, v) :: fr | none => fr
def Fr.cut (fr : Fr) : Option (List Nat) → Fr
  | none => fr
  | some l => l.filterMap fun t => (fr.get t).map fun v => (t, v)
abbrev Res := Option (Value × St)
section
variable {α : Type}
def opnd (fr : Fr) (x : Operand) (K : Value → Option α) : Option α :=
  match x with
  | .tmp t => match fr.get t with | some v => K v | none => none
  | .const v => K v
  | .func f => K (.func (.func f) #[] #[])
  | .global _ => none
def opnds (fr : Fr) : List Operand → (List Value → Option α) → Option α
  | [], K => K []
  | x :: l, K => opnd fr x fun v => opnds fr l fun vs => K (v :: vs)
def need (b : Bool) (K : Option α) : Option α := cond b K none
def br (b : Bool) (x y : Option α) : Option α := cond b x y
def asB (v : Value) (K : Bool → Option α) : Option α := match v with | .bool b => K b | _ => none
def asI (k : IntKind) (v : Value) (K : Int → Option α) : Option α := match v with | .int k' n => if k' = k then K n else none | _ => none
def asS (v : Value) (K : ByteArray → Option α) : Option α := match v with | .string s => K s | _ => none
def asSl (v : Value) (K : Option Addr → Nat → Nat → Option α) : Option α := match v with | .slice a n z => K a n z | _ => none
def asP (v : Value) (K : Option Addr → Option α) : Option α := match v with | .pointer a => K a | _ => none
def asM (v : Value) (K : Option Nat → Option α) : Option α := match v with | .map r => K r | _ => none
def asA (n : Nat) (v : Value) (K : List Value → Option α) : Option α := match v with | .agg A => need (Nat.beq A.toList.length n) (K A.toList) | _ => none
def adr (a : Option Addr) (K : Nat → Nat → Option α) : Option α := match a with | some ⟨r, o, none⟩ => K r o | _ => none
noncomputable def chk (v u : Value) (K : Option α) : Option α := open Classical in if v = u then K else none
def bnd (x : Res) (K : Value → St → Option α) : Option α := match x with | some (v, σ) => K v σ | none => none
def St.ld (σ : St) (r o : Nat) (K : Value → Option α) : Option α := match σ.cell r o with | some v => K v | none => none
def St.lds (σ : St) (r o n : Nat) (K : List Value → Option α) : Option α :=
  match σ.cells r with | some vs => bif decide (o + n ≤ vs.length) then K ((vs.drop o).take n) else none | none => none
def nth (cs : List Value) (i : Nat) (K : Value → Option α) : Option α := match cs[i]? with | some v => K v | none => none
end
inductive Kd where
  | b | i (k : IntKind) | s | sl | p | e | f | m | ag (n : Nat) (ks : List Nat) | tup (ts : List TypeId) | no
def plain1 : Value → Bool
  | .bool _ => true
  | .int _ _ => true
  | .string _ => true
  | .pointer none => true
  | .slice none 0 0 => true
  | .nilIface => true
  | .nilFunc => true
  | .map none => true
  | _ => false
def plainV (v : Value) : Bool := match v with | .agg A => A.toList.all plain1 | v => plain1 v
def szOf (P : Program) (t : TypeId) : Nat := match P.info? t with | some i => i.size | none => 0
def bytesOf (P : Program) (t : TypeId) : Nat := match P.info? t with | some i => i.bytes | none => 0
def zeroOf (P : Program) (t : TypeId) : Option Value := match P.info? t with | some i => (match i.zero with | some z => bif plainV z then some z else none | none => none) | none => none
def kiNo (k : IntKind) : Nat := match k with | .i8 => 10 | .i16 => 11 | .i32 => 12 | .i64 => 13 | .u8 => 14 | .u16 => 15 | .u32 => 16 | .u64 => 17
def cellKds (P : Program) : Nat → TypeId → List Nat
  | 0, _ => [99]
  | n + 1, t =>
    match P.underlying t with
    | some .bool => [0]
    | some (.int k) => [kiNo k]
    | some .string => [1]
    | some (.slice _) => [2]
    | some (.pointer _) => [3]
    | some (.interface _) => [4]
    | some (.func ..) => [5]
    | some (.map ..) => [6]
    | some (.struct fs) => fs.toList.flatMap fun f => cellKds P n f.type
    | some (.array m e) => (List.replicate m (cellKds P n e)).flatten
    | _ => [99]
def kcOf (c : Nat) : Kd :=
  match c with
  | 0 => .b | 1 => .s | 2 => .sl | 3 => .p | 4 => .e | 5 => .f | 6 => .m
  | 10 => .i .i8 | 11 => .i .i16 | 12 => .i .i32 | 13 => .i .i64 | 14 => .i .u8 | 15 => .i .u16 | 16 => .i .u32 | 17 => .i .u64
  | _ => .no
def kd (P : Program) (t : TypeId) : Kd :=
  match P.underlying t with
  | some .bool => .b
  | some (.int k) => .i k
  | some .string => .s
  | some (.slice _) => .sl
  | some (.pointer _) => .p
  | some (.interface _) => .e
  | some (.func ..) => .f
  | some (.map ..) => .m
  | some (.struct _) => .ag (szOf P t) (cellKds P 8 t)
  | some (.array ..) => .ag (szOf P t) (cellKds P 8 t)
  | some (.tuple ts) => .tup ts.toList
  | _ => .no
section
variable {α : Type}
def dstr0 (k : Kd) (v : Value) (K : Value → Option α) : Option α :=
  match k with
  | .b => asB v fun b => K (.bool b)
  | .i k => asI k v fun n => K (.int k n)
  | .s => asS v fun s => K (.string s)
  | .sl => asSl v fun a n z => K (.slice a n z)
  | .p => asP v fun a => K (.pointer a)
  | .e => K v
  | .f => K v
  | .m => asM v fun r => K (.map r)
  | _ => none
def uncons (l : List Value) (K : Value → List Value → Option α) : Option α := match l with | x :: r => K x r | [] => none
def endl (l : List Value) (K : Option α) : Option α := match l with | [] => K | _ :: _ => none
def dstrC : List Nat → List Value → (List Value → Option α) → Option α
  | [], vs, K => endl vs (K [])
  | c :: cs, vs, K => uncons vs fun v r => dstr0 (kcOf c) v fun u => dstrC cs r fun us => K (u :: us)
def dstrL (ks : List Nat) (vs : List Value) (K : List Value → Option α) : Option α := bif Nat.ble ks.length 12 then dstrC ks vs K else K vs
def asAgL (v : Value) (K : List Value → Option α) : Option α := match v with | .agg A => K A.toList | _ => none
def dstr1 (k : Kd) (v : Value) (K : Value → Option α) : Option α :=
  match k with
  | .ag _ ks => asAgL v fun cs => dstrL ks cs fun us => K (.agg us.toArray)
  | k => dstr0 k v K
def dstrs : List Kd → List Value → (List Value → Option α) → Option α
  | [], vs, K => endl vs (K [])
  | k :: ks, vs, K => uncons vs fun v r => dstr1 k v fun u => dstrs ks r fun us => K (u :: us)
def asT (v : Value) (K : List Value → Option α) : Option α := match v with | .tuple A => K A.toList | _ => none
def dstr (P : Program) (t : TypeId) (v : Value) (K : Value → Option α) : Option α :=
  match kd P t with
  | .tup ts => asT v fun vs => dstrs (ts.map (kd P)) vs fun us => K (.tuple us.toArray)
  | k => dstr1 k v K
end
def ibit (op : BinOp) (k : IntKind) (x y : Int) : Int :=
  let a := BitVec.ofInt k.bits x
  let b := BitVec.ofInt k.bits y
  match op with
  | .and => k.wrap (a &&& b).toNat
  | .or => k.wrap (a ||| b).toNat
  | .xor => k.wrap (a ^^^ b).toNat
  | _ => k.wrap (a &&& ~~~b).toNat
def sizeTop : Nat := 4611686018427387904
def eqKds (P : Program) : Nat → TypeId → Option (List Kd)
  | 0, _ => none
  | n + 1, t =>
    match P.underlying t with
    | some .bool => some [.b]
    | some (.int k) => some [.i k]
    | some .string => some [.s]
    | some (.struct fs) => fs.toList.foldr (fun f acc => match f.name == "_", eqKds P n f.type, acc with | false, some a, some b => some (a ++ b) | _, _, _ => none) (some [])
    | some (.array len e) => match eqKds P n e with | some a => some (List.replicate len a).flatten | none => none
    | _ => none
def eqCells {α : Type} : List Kd → List Value → List Value → (Bool → Option α) → Option α
  | [], [], [], K => K true
  | .b :: ks, x :: xs, y :: ys, K => asB x fun a => asB y fun b => eqCells ks xs ys fun r => K (a == b && r)
  | .i k :: ks, x :: xs, y :: ys, K => asI k x fun a => asI k y fun b => eqCells ks xs ys fun r => K (a == b && r)
  | .s :: ks, x :: xs, y :: ys, K => asS x fun a => asS y fun b => eqCells ks xs ys fun r => K (a == b && r)
  | _, _, _, _ => none
def eqNil {α : Type} (v : Value) (K : Bool → Option α) : Option α :=
  match v with | .nilIface => K true | .iface _ _ => K false | _ => none
def eqErr {α : Type} (v : Value) (t : TypeId) (k : IntKind) (c : Int) (K : Bool → Option α) : Option α :=
  match v with
  | .nilIface => K false
  | .iface t' u => bif Nat.beq t' t then asI k u fun n => K (n == c) else K false
  | _ => none
def eqPtr {α : Type} (v : Value) (t : TypeId) (b : Addr) (K : Bool → Option α) : Option α :=
  match v with
  | .nilIface => K false
  | .iface t' u => bif Nat.beq t' t then (match u, b with | .pointer (some ⟨q, o, none⟩), ⟨q', o', none⟩ => bif Nat.beq q q' && Nat.beq o o' then K true else none | _, _ => none) else K false
  | _ => none
section
variable {α : Type} (P : Program)
def isAg (P : Program) (t : TypeId) : Bool := match P.underlying t with | some (.struct _) => true | some (.array ..) => true | _ => false
def notIf (op : BinOp) (b : Bool) : Bool := match op with | .neq => !b | _ => b
def isEq (op : BinOp) : Bool := match op with | .eql => true | .neq => true | _ => false
def aInt (op : BinOp) (k : IntKind) (a b : Int) (K : Value → Option α) : Option α :=
  match op with
  | .add => K (.int k (k.wrap (a + b)))
  | .sub => K (.int k (k.wrap (a - b)))
  | .mul => K (.int k (k.wrap (a * b)))
  | .quo => need (b != 0) (K (.int k (k.wrap (a.tdiv b))))
  | .rem => need (b != 0) (K (.int k (a.tmod b)))
  | .and => K (.int k (ibit .and k a b))
  | .or => K (.int k (ibit .or k a b))
  | .xor => K (.int k (ibit .xor k a b))
  | .andNot => K (.int k (ibit .andNot k a b))
  | .shl => need (decide (0 ≤ b)) (K (.int k (k.wrap (a * 2 ^ (min b.toNat k.bits)))))
  | .shr => need (decide (0 ≤ b)) (K (.int k (a.fdiv (2 ^ (min b.toNat k.bits)))))
  | .eql => K (.bool (a == b))
  | .neq => K (.bool (a != b))
  | .lss => K (.bool (decide (a < b)))
  | .leq => K (.bool (decide (a ≤ b)))
  | .gtr => K (.bool (decide (a > b)))
  | .geq => K (.bool (decide (a ≥ b)))
def isShift (op : BinOp) : Bool := match op with | .shl => true | .shr => true | _ => false
def aBin (op : BinOp) (t : TypeId) (cy : Bool) (x y : Value) (K : Value → Option α) : Option α :=
  match y with
  | .int k' b => match x with
    | .int k a => bif isShift op || decide (k = k') then aInt op k a b K else none
    | _ => none
  | .string b => asS x fun a =>
    match op with
    | .add => need (decide (a.size + b.size ≤ sizeTop)) (K (.string (a ++ b)))
    | .eql => K (.bool (a.toList == b.toList))
    | .neq => K (.bool (!(a.toList == b.toList)))
    | _ => none
  | .bool b => asB x fun a => need (isEq op) (need (match P.underlying t with | some .bool => true | _ => false) (K (.bool (notIf op (a == b)))))
  | .pointer none => asP x fun a => need (isEq op) (need (match P.underlying t with | some (.pointer _) => true | _ => false) (K (.bool (notIf op a.isNone))))
  | .slice none _ _ => asSl x fun a _ _ => need (isEq op) (need (match P.underlying t with | some (.slice _) => true | _ => false) (K (.bool (notIf op a.isNone))))
  | .nilIface => need (isEq op && cy) (need (match P.underlying t with | some (.interface _) => true | _ => false) (eqNil x fun b => K (.bool (notIf op b))))
  | .iface t' u => match u with
    | .int k c => need (isEq op) (need (match P.underlying t, P.underlying t', P.info? t' with | some (.interface _), some (.int k'), some i => i.comparable && decide (k = k') | _, _, _ => false) (eqErr x t' k c fun b => K (.bool (notIf op b))))
    | .pointer (some b) => need (isEq op) (need (match P.underlying t, P.underlying t', P.info? t' with | some (.interface _), some (.pointer te), some i => i.comparable && (P.info? te).isSome | _, _, _ => false) (eqPtr x t' b fun r => K (.bool (notIf op r))))
    | _ => none
  | .agg B => asAgL x fun A => need (isEq op && isAg P t) (match eqKds P 20 t with | some ks => eqCells ks A B.toList fun b => K (.bool (notIf op b)) | none => none)
  | _ => none
def aUn (op : UnOp) (x : Value) (K : Value → Option α) : Option α :=
  match op, x with
  | .neg, .int k n => K (.int k (k.wrap (0 - n)))
  | .xor, .int k n => K (.int k (ibit .xor k (if k.signed then -1 else k.max) n))
  | .not, .bool b => K (.bool !b)
  | _, _ => none
def bytesIn : List Value → Option (List UInt8)
  | [] => some []
  | .int .u8 n :: l => (bytesIn l).map (UInt8.ofNat n.toNat :: ·)
  | _ :: _ => none
def asBy (cs : List Value) (K : List UInt8 → Option α) : Option α := match bytesIn cs with | some l => K l | none => none
def byteCells (s : ByteArray) : List Value := s.data.toList.map fun b => .int .u8 b.toNat
def fieldOf (P : Program) (t : TypeId) (f : Nat) (K : Nat → TypeId → Option α) : Option α :=
  match P.underlying t with
  | some (.struct fs) => match fs[f]? with | some x => K x.offset x.type | none => none
  | _ => none
def elOf (P : Program) (t : TypeId) (K : TypeId → Option α) : Option α := match P.underlying t with | some (.slice e) => K e | _ => none
def aPart (t : TypeId) (cs : List Value) (off : Nat) (K : Value → Option α) : Option α :=
  bif isAg P t then need (decide (off + szOf P t ≤ cs.length)) (K (.agg ((cs.drop off).take (szOf P t)).toArray))
  else nth cs off fun v => dstr P t v K
def zerosN (z : List Value) : Nat → List Value
  | 0 => []
  | n + 1 => z ++ zerosN z n
end
def isPtrD (d : TypeDesc) : Bool := match d with | .pointer _ => true | _ => false
def directM (P : Program) (t : TypeId) (m : String) : Option FuncId :=
  match P.info? t with
  | some i => match i.methods.find? (·.name == m) with
    | some r => match r.func, P.underlying t with
      | some (f, b), some d => bif r.path.isEmpty && (isPtrD d == b) then some f else none
      | _, _ => none
    | none => none
  | none => none
def aMeth (P : Program) (v : Value) (m : String) (K : FuncId → Value → Res) : Res :=
  match v with
  | .iface t u => (match directM P t m with | some f => K f u | none => none)
  | _ => none
section
variable (P : Program) (call : FuncId → List Value → St → Res)
abbrev Kont := Value → St → Res
def aLoad (t : TypeId) (σ : St) (r o : Nat) (K : Value → Res) : Res :=
  match kd P t with
  | .ag n ks => σ.lds r o n fun cs => dstrL ks cs fun us => K (.agg us.toArray)
  | .tup _ => none
  | k => σ.ld r o fun v => dstr1 k v K
def Value.cellsL (v : Value) : List Value := match v with | .agg A => A.toList | v => [v]
def oneCell : Value → Bool
  | .agg _ => false
  | .tuple _ => false
  | _ => true
def over (vs : List Value) (o : Nat) (new : List Value) : List Value := vs.take o ++ new ++ vs.drop (o + new.length)
def St.put (σ : St) (r o : Nat) (new : List Value) (K : St → Res) : Res :=
  match σ.get r with
  | some (.own vs e) => if o + new.length ≤ vs.length ∧ new.all oneCell = true then K (σ.set r (.own (over vs o new) e)) else none
  | _ => none
def aStore (t : TypeId) (σ : St) (r o : Nat) (v : Value) (K : St → Res) : Res :=
  need (Nat.beq (Value.cellsL v).length (szOf P t)) (σ.put r o (Value.cellsL v) K)
def roomTop : Nat := 140737488355328
def grow (e : TypeId) (sz by_ : Nat) (a : Option Addr) (n z m : Nat) (news : List Value) (σ : St) (K : Option Addr → Nat → Nat → St → Res) : Res :=
  if m = 0 then K a n z σ
  else if (n + m) * by_ ≤ roomTop ∧ n + m ≤ sizeTop ∧ 0 < sz ∧ news.all oneCell = true then
    match a with
    | none => if n = 0 then K (some ⟨σ.next, 0, none⟩) m sz (σ.new (.own news e)) else none
    | some ⟨r, o, none⟩ =>
      match σ.get r with
      | some (.own vs e') => if e' = e ∧ z = sz ∧ o + n * sz ≤ vs.length then
          K (some ⟨σ.next, 0, none⟩) (n + m) sz ((σ.del r).new (.own ((vs.drop o).take (n * sz) ++ news) e)) else none
      | _ => none
    | some _ => none
  else none
def St.row (σ : St) (a : Option Addr) (n : Nat) (K : List Value → Res) : Res := if n = 0 then K [] else adr a fun r o => σ.lds r o n K
def aAppend (ts : List TypeId) (args : List Value) (σ : St) (K : Kont) : Res :=
  match ts, args with
  | [t, u], [s, x] => asSl s fun a n z => elOf P t fun e =>
    match zeroOf P e with
    | some zv => need (Nat.beq (Value.cellsL zv).length (szOf P e)) <|
      match P.underlying u with
      | some (.slice _) => asSl x fun a2 m _ => σ.row a2 (m * szOf P e) fun news => grow e (szOf P e) (bytesOf P e) a n z m news σ fun a' n' z' σ' => K (.slice a' n' z') σ'
      | some .string => asS x fun b => need (Nat.beq (szOf P e) 1) (grow e (szOf P e) (bytesOf P e) a n z b.size (byteCells b) σ fun a' n' z' σ' => K (.slice a' n' z') σ')
      | some (.int _) => asI .i64 x fun m => need (a.isNone && decide (1 ≤ m) && decide (m.toNat * bytesOf P e ≤ roomTop) && decide (m ≤ (sizeTop : Int)) && decide (0 < szOf P e))
          (K (.slice (some ⟨σ.next, 0, none⟩) m.toNat (szOf P e)) (σ.new (.own (zerosN (Value.cellsL zv) m.toNat) e)))
      | _ => none
    | none => none
  | _, _ => none
def cpy (sz : Nat) (a a2 : Option Addr) (k : Nat) (σ : St) (K : St → Res) : Res :=
  if k * sz = 0 then K σ else
  adr a2 fun r2 o2 => σ.lds r2 o2 (k * sz) fun cs => adr a fun r o => σ.put r o cs K
def aCopy (ts : List TypeId) (args : List Value) (σ : St) (K : Kont) : Res :=
  match ts, args with
  | [t, u], [d, x] => asSl d fun a n _ => elOf P t fun e => need (decide (0 < szOf P e)) <|
      match P.underlying u with
      | some (.slice _) => asSl x fun a2 m _ => cpy (szOf P e) a a2 (min m n) σ fun σ' => K (.int .i64 (min m n : Nat)) σ'
      | _ => none
  | _, _ => none
def aLen (ts : List TypeId) (args : List Value) (K : Value → Res) : Res :=
  match ts, args with
  | [t], [x] =>
    match P.underlying t, x with
    | some .string, .string s => K (.int .i64 s.size)
    | some (.slice _), .slice _ n _ => K (.int .i64 n)
    | some (.array n _), _ => K (.int .i64 n)
    | _, _ => none
  | _, _ => none
def aCap (ts : List TypeId) (args : List Value) (K : Value → Res) : Res :=
  match ts, args with
  | [t], [x] =>
    match P.underlying t with
    | some (.slice _) => asSl x fun a _ _ => need a.isNone (K (.int .i64 0))
    | _ => none
  | _, _ => none
def mx (a b : Int) : Int := if b > a then b else a
def mn (a b : Int) : Int := if b < a then b else a
def aMax (f : Int → Int → Int) : List Value → (Value → Res) → Res
  | [.int k a, .int _ b], K => K (.int k (f a b))
  | [.int k a, .int _ b, .int _ c], K => K (.int k (f (f a b) c))
  | _, _ => none
def aBuiltin (b : Builtin) (ts : List TypeId) (args : List Value) (σ : St) (K : Kont) : Res :=
  match b with
  | .append => aAppend P ts args σ K
  | .copy => aCopy P ts args σ K
  | .len => aLen P ts args fun v => K v σ
  | .cap => aCap P ts args fun v => K v σ
  | .max => aMax mx args fun v => K v σ
  | .min => aMax mn args fun v => K v σ
  | _ => none
def inRange (i n : Int) : Bool := decide (0 ≤ i) && decide (i < n)
def aIndexAddr (t : TypeId) (x i : Value) (K : Value → Res) : Res :=
  match i with
  | .int _ j =>
    match P.underlying t, x with
    | some (.slice e), .slice a n _ => need (decide (0 < szOf P e)) <| need (inRange j n) (adr a fun r o => K (.pointer (some ⟨r, o + j.toNat * szOf P e, none⟩)))
    | some (.array n e), .pointer a => need (decide (0 < szOf P e)) <| need (inRange j n) (adr a fun r o => K (.pointer (some ⟨r, o + j.toNat * szOf P e, none⟩)))
    | _, _ => none
  | _ => none
def aIndex (t : TypeId) (x i : Value) (K : Value → Res) : Res :=
  match i with
  | .int _ j =>
    match P.underlying t, x with
    | some (.array n e), .agg A => need (decide (0 < szOf P e)) <| need (inRange j n) (aPart P e A.toList (j.toNat * szOf P e) K)
    | some .string, .string s => need (inRange j s.size) (K (.int .u8 (s.data.toList.getD j.toNat 0).toNat))
    | _, _ => none
  | _ => none
def bound (v : Option Value) (top : Nat) (dflt : Nat) (K : Nat → Res) : Res :=
  match v with
  | none => K dflt
  | some (.int _ i) => need (inRange i (top + 1)) (K i.toNat)
  | some _ => none
def optOpnd (fr : Fr) (x : Option Operand) (K : Option Value → Res) : Res :=
  match x with
  | none => K none
  | some x => opnd fr x fun v => K (some v)
def subA (a : Option Addr) (n : Nat) : Option Addr := match a with | some ad => some ⟨ad.block, ad.off + n, none⟩ | none => none
def aSlice (t : TypeId) (x : Value) (lo hi mx : Option Value) (K : Value → Res) : Res :=
  match P.underlying t, x with
  | some .string, .string s => match mx with
    | none => bound hi s.size s.size fun h => bound lo h 0 fun l => K (.string (s.extract l h))
    | some _ => none
  | some (.slice e), .slice a n z =>
    need (match mx, hi with | some _, none => false | _, _ => true) <| need (decide (0 < szOf P e)) <| need (Nat.beq z 0 || Nat.beq z (szOf P e)) <| bound mx n n fun m => bound hi m n fun h => bound lo h 0 fun l =>
      K (.slice (subA a (l * szOf P e)) (h - l) z)
  | some (.array n e), .pointer a => match mx with
    | none => need (decide (0 < szOf P e)) <| need (decide (n ≤ sizeTop)) <| adr a fun r o => bound hi n n fun h => bound lo h 0 fun l => K (.slice (some ⟨r, o + l * szOf P e, none⟩) (h - l) 0)
    | some _ => none
  | _, _ => none
def aConv (src dst : TypeId) (x : Value) (σ : St) (K : Kont) : Res :=
  match P.underlying src, P.underlying dst, x with
  | some (.int _), some (.int k), .int _ n => K (.int k (k.wrap n)) σ
  | some .string, some .string, .string s => K (.string s) σ
  | some .string, some (.slice e), .string s => match P.underlying e with
    | some (.int .u8) => need (decide (s.size ≤ sizeTop)) (K (.slice (some ⟨σ.next, 0, none⟩) s.size 0) (σ.new (.ro (byteCells s))))
    | _ => none
  | some (.slice e), some .string, .slice a n _ => match P.underlying e with
    | some (.int .u8) => σ.row a n fun cs => asBy cs fun l => K (.string ⟨l.toArray⟩) σ
    | _ => none
  | _, _, _ => none
def aMkSlice (t : TypeId) (l c : Value) (σ : St) (K : Kont) : Res :=
  match l, c with
  | .int .i64 l, .int .i64 c => elOf P t fun e =>
    match zeroOf P e with
    | some z => need (decide (0 ≤ l) && decide (l ≤ c) && decide (c.toNat * bytesOf P e ≤ roomTop) && decide (c ≤ (sizeTop : Int)) && Nat.beq (Value.cellsL z).length (szOf P e) && decide (0 < szOf P e))
        (K (.slice (some ⟨σ.next, 0, none⟩) l.toNat (szOf P e)) (σ.new (.own (zerosN (Value.cellsL z) l.toNat) e)))
    | none => none
  | _, _ => none
def fillL (place : Nat → Option (Nat × Nat)) (cells : List Value) : List (Nat × Value) → Option (List Value)
  | [] => some cells
  | (i, v) :: rest =>
    match place i with
    | none => none
    | some (off, size) => bif Nat.beq (Value.cellsL v).length size && decide (off + (Value.cellsL v).length ≤ cells.length) then fillL place (over cells off (Value.cellsL v)) rest else none
def fillK (place : Nat → Option (Nat × Nat × Bool)) (cells : List Value) : List (Nat × Value) → (List Value → Res) → Res
  | [], K => K cells
  | (i, v) :: rest, K =>
    match place i with
    | none => none
    | some (off, size, ag) =>
      bif ag then asAgL v fun cs => need (Nat.beq cs.length size) (need (Nat.ble (off + cs.length) cells.length) (fillK place (over cells off cs) rest K))
      else need (oneCell v) (need (Nat.beq 1 size) (need (Nat.ble (off + 1) cells.length) (fillK place (over cells off [v]) rest K)))
def opndPs (fr : Fr) : List (Nat × Operand) → (List (Nat × Value) → Res) → Res
  | [], K => K []
  | (i, x) :: l, K => opnd fr x fun v => opndPs fr l fun vs => K ((i, v) :: vs)
def aBuild (t : TypeId) (parts : List (Nat × Value)) (K : Value → Res) : Res :=
  match zeroOf P t with
  | none => none
  | some z =>
    match P.underlying t with
    | some (.struct fs) => fillK (fun i => (fs[i]?).map fun f => (f.offset, szOf P f.type, isAg P f.type)) (Value.cellsL z) parts fun cs => K (.agg cs.toArray)
    | some (.array _ e) => fillK (fun i => some (i * szOf P e, szOf P e, isAg P e)) (Value.cellsL z) parts fun cs => K (.agg cs.toArray)
    | _ => none
def aBuildSlice (t : TypeId) (len : Nat) (parts : List (Nat × Value)) (σ : St) (K : Kont) : Res :=
  elOf P t fun e => need (decide (len * szOf P e ≤ 16777216)) <|
    match zeroOf P e with
    | none => none
    | some z => need (Nat.beq (Value.cellsL z).length (szOf P e) && decide (0 < szOf P e)) <|
      fillK (fun i => some (i * szOf P e, szOf P e, isAg P e)) (zerosN (Value.cellsL z) len) parts fun cs => K (.slice (some ⟨σ.next, 0, none⟩) len (szOf P e)) (σ.new (.own cs e))
def kvGet (n : Int) : List (Int × Value) → Option Value
  | [] => none
  | (k, v) :: l => if n = k then some v else kvGet n l
def kvPut (n : Int) (u : Value) : List (Int × Value) → List (Int × Value)
  | [] => [(n, u)]
  | (k, v) :: l => if n = k then (k, u) :: l else (k, v) :: kvPut n u l
def St.look (σ : St) (m : Option Nat) (n : Int) (z : Value) (K : Value → Res) : Res :=
  match m with
  | none => K z
  | some r => match σ.get r with
    | some (.mp kv) => K ((kvGet n kv).getD z)
    | _ => none
def St.upd (σ : St) (m : Option Nat) (n : Int) (u : Value) (K : St → Res) : Res :=
  match m with
  | none => none
  | some r => match σ.get r with
    | some (.mp kv) => K (σ.set r (.mp (kvPut n u kv)))
    | _ => none
def asF (v : Value) (K : FuncId → List Value → List Value → Res) : Res := match v with | .func (.func f) a b => K f a.toList b.toList | _ => none
def asAg (v : Value) (K : List Value → Res) : Res := match v with | .agg A => K A.toList | _ => none
def asTu (v : Value) (K : List Value → Res) : Res := match v with | .tuple A => K A.toList | _ => none
def isConst : Operand → Bool
  | .const _ => true
  | _ => false
def aOp (o : Oper) (fr : Fr) (σ : St) (K : Kont) : Res :=
  match o.op with
  | .move x => opnd fr x fun v => K v σ
  | .assign x => opnd fr x fun v => K v σ
  | .pick c a b => opnd fr c fun cv => asB cv fun t => br t (opnd fr a fun v => K v σ) (opnd fr b fun v => K v σ)
  | .alloc t => match zeroOf P t with | some z => K (.pointer (some ⟨σ.next, 0, none⟩)) (σ.new (.own (Value.cellsL z) t)) | none => none
  | .box t x => opnd fr x fun v => K (.pointer (some ⟨σ.next, 0, none⟩)) (σ.new (.own (Value.cellsL v) t))
  | .build t ps => opndPs fr ps.toList fun l => aBuild P t l fun v => K v σ
  | .buildSlice t n ps => opndPs fr ps.toList fun l => aBuildSlice P t n l σ K
  | .load t x => opnd fr x fun v => asP v fun a => adr a fun r o => aLoad P t σ r o fun v => K v σ
  | .store t x y => opnd fr x fun v => asP v fun a => adr a fun r o => opnd fr y fun u => aStore P t σ r o u fun σ' => K undef σ'
  | .nilCheck x => opnd fr x fun v => match v with
    | .pointer a => adr a fun r o => K (.pointer (some ⟨r, o, none⟩)) σ
    | .func (.func f) fs cs => K (.func (.func f) fs cs) σ
    | .iface t v => K (.iface t v) σ
    | _ => none
  | .binOp op t x y _ => opnd fr x fun a => opnd fr y fun b => aBin P op t (isConst y) a b fun v => K v σ
  | .unOp op _ x => opnd fr x fun a => aUn op a fun v => K v σ
  | .convert s d x => opnd fr x fun v => aConv P s d v σ K
  | .makeInterface t x => opnd fr x fun v => need (match P.underlying t with | some (.interface _) => false | some _ => true | none => false) (K (.iface t v) σ)
  | .makeFunc fn fs cs => opnds fr fs.toList fun us => opnds fr cs.toList fun vs => K (.func fn us.toArray vs.toArray) σ
  | .makeMap t none => need (match P.underlying t with | some (.map _ _) => true | _ => false) (K (.map (some σ.next)) (σ.new (.mp [])))
  | .makeSlice t l c => opnd fr l fun a => opnd fr c fun b => aMkSlice P t a b σ K
  | .slice t x lo hi m => opnd fr x fun v => optOpnd fr lo fun a => optOpnd fr hi fun b => optOpnd fr m fun c => aSlice P t v a b c fun v => K v σ
  | .fieldAddr t x f => opnd fr x fun v => asP v fun a => adr a fun r o => fieldOf P t f fun off ft => need (decide (0 < szOf P ft)) (K (.pointer (some ⟨r, o + off, none⟩)) σ)
  | .field t x f => opnd fr x fun v => asAg v fun cs => fieldOf P t f fun off ft => aPart P ft cs off fun v => K v σ
  | .indexAddr t x i => opnd fr x fun v => opnd fr i fun j => aIndexAddr P t v j fun v => K v σ
  | .index t x i => opnd fr x fun v => opnd fr i fun j => aIndex P t v j fun v => K v σ
  | .lookup t x i false => opnd fr x fun v => opnd fr i fun j =>
      match P.underlying t with
      | some (.map k e) => match P.underlying k, zeroOf P e with
        | some (.int ik), some z => asM v fun m => asI ik j fun n => σ.look m n z fun u => dstr P e u fun u => K u σ
        | _, _ => none
      | _ => none
  | .mapUpdate t m k x => opnd fr m fun v => opnd fr k fun j => opnd fr x fun u =>
      match P.underlying t with
      | some (.map kt _) => match P.underlying kt with
        | some (.int ik) => asM v fun m => asI ik j fun n => need (oneCell u) (σ.upd m n u fun σ' => K undef σ')
        | _ => none
      | _ => none
  | .extract x i => opnd fr x fun v => asTu v fun vs => nth vs i fun u => dstr P o.type u fun u => K u σ
  | .call c => match c.callee with
    | .value f => opnd fr f fun fv => asF fv fun g first caps => opnds fr c.args.toList fun vs => bnd (call g (first ++ vs ++ caps) σ) fun v σ' => dstr P o.type v fun u => K u σ'
    | .builtin b => opnds fr c.args.toList fun vs => aBuiltin P b c.argTypes.toList vs σ K
    | .invoke x m => opnd fr x fun xv => aMeth P xv m fun g u => opnds fr c.args.toList fun vs => bnd (call g (u :: vs) σ) fun v σ' => dstr P o.type v fun u => K u σ'
  | _ => none
end
def looks (P : Program) (o : Oper) : Bool :=
  match o.op with
  | .load .. => true
  | .lookup .. => true
  | .convert s _ _ => match P.underlying s with | some (.slice _) => true | _ => false
  | _ => false
def acts (P : Program) (o : Oper) : Bool :=
  match o.op with
  | .alloc _ => true
  | .box .. => true
  | .buildSlice .. => true
  | .store .. => true
  | .makeMap .. => true
  | .makeSlice .. => true
  | .mapUpdate .. => true
  | .convert _ d _ => match P.underlying d with | some (.slice _) => true | _ => false
  | .call c => match c.callee with | .builtin b => (match b with | .append => true | .copy => true | _ => false) | _ => true
  | _ => false
section
variable (P : Program) (call : FuncId → List Value → St → Res)
noncomputable def again (o : Oper) (fr : Fr) (v : Value) (K : Res) : List St → Res
  | [] => K
  | σ :: l => aOp P call o fr σ fun u _ => chk u v (again o fr v K l)
noncomputable def still (fr : Fr) (σ : St) (K : Res) : List (Oper × Value) → Res
  | [] => K
  | (o, v) :: l => aOp P call o fr σ fun u _ => chk u v (still fr σ K l)
structure Past where
  reads : List (Nat × Oper × Value)
  acts : List (Nat × St)
def oneOf {β : Type} (i : Nat) : List (Nat × β) → List β
  | [] => []
  | (j, x) :: l => bif Nat.beq i j then [x] else oneOf i l
def those {β : Type} (l : List (Nat × β)) : List Nat → List β
  | [] => []
  | i :: is => oneOf i l ++ those l is
def guardIs (all : List Oper) (fr : Fr) (g : Option (Nat × Bool)) (yes : Fr → Res) (no : Fr → Res) : Res :=
  match g with
  | none => yes fr
  | some (j, w) =>
    match (all[j]?).bind (·.dst) with
    | none => none
    | some d => match fr.get d with
      | some (.bool b) => br b (bif w then yes ((d, .bool true) :: fr) else no ((d, .bool true) :: fr)) (bif w then no ((d, .bool false) :: fr) else yes ((d, .bool false) :: fr))
      | some (.tuple A) => bif A.toList.isEmpty then no fr else none
      | _ => none
noncomputable def aOps (all : List Oper) (un : Option (Nat → List Nat)) : List Oper → Nat → Past → Fr → St → (Fr → St → Res) → Res
  | [], _, _, fr, σ, K => K fr σ
  | o :: rest, i, past, fr, σ, K =>
    guardIs all fr o.guard
      (fun fr => aOp P call o fr σ fun v σ' =>
        match un with
        | none => aOps all un rest (i + 1) past (fr.put o.dst v) σ' K
        | some u =>
          bif acts P o then
            still P call fr σ' (aOps all un rest (i + 1) { past with acts := (i, σ) :: past.acts } (fr.put o.dst v) σ' K) (those past.reads (u i))
          else bif looks P o then
            again P call o fr v (aOps all un rest (i + 1) { past with reads := (i, o, v) :: past.reads } (fr.put o.dst v) σ' K) (those past.acts (u i))
          else aOps all un rest (i + 1) past (fr.put o.dst v) σ' K)
      (fun fr => aOps all un rest (i + 1) past (fr.put o.dst undef) σ K)
end
inductive Ex where
  | normal
  | exit (id : Nat)
  | ret
def fr1 : Code → Option Nat
  | .region id _ _ => some id
  | .seq a b => match fr1 a with | some x => some x | none => fr1 b
  | .block _ c => fr1 c
  | .loop c => fr1 c
  | _ => none
structure Ann where
  keep : Nat → Option (List Nat)
  un : Nat → Nat → List Nat
def Ann.at (ann : Ann) (c : Code) : Option (List Nat) := match fr1 c with | some i => ann.keep i | none => none
def pt (_id : Option Nat) (_keep : Option (List Nat)) (_fr : Fr) (x : Res) : Res := x
def iter (id : Option Nat) (f : Fr → St → (Ex → Fr → St → Res) → Res) (keep : Option (List Nat)) (K : Ex → Fr → St → Res) : Nat → Fr → St → Res
  | 0, _, _ => none
  | n + 1, fr, σ => f (fr.cut keep) σ fun ex fr' σ' => match ex with | .normal => iter id f keep K n (fr'.cut keep) σ' | .exit i => K (.exit i) fr' σ' | .ret => K .ret fr' σ'
section
variable (P : Program) (call : FuncId → List Value → St → Res) (L : Nat) (ann : Ann)
noncomputable def evCode : Code → Fr → St → (Ex → Fr → St → Res) → Res
  | .skip, fr, σ, K => K .normal fr σ
  | .region id ops draw, fr, σ, K => aOps P call ops.toList (bif draw then some (ann.un id) else none) ops.toList 0 ⟨[], []⟩ fr σ fun fr' σ' => K .normal fr' σ'
  | .seq a b, fr, σ, K => evCode a fr σ fun ex fr' σ' => match ex with | .normal => pt (fr1 b) (ann.at b) fr' (evCode b (fr'.cut (ann.at b)) σ' K) | .exit i => K (.exit i) fr' σ' | .ret => K .ret fr' σ'
  | .cond c t e, fr, σ, K => opnd fr c fun v => asB v fun b => br b (evCode t fr σ K) (evCode e fr σ K)
  | .block id c, fr, σ, K => evCode c fr σ fun ex fr' σ' => match ex with | .normal => K .normal fr' σ' | .exit i => bif Nat.beq i id then K .normal fr' σ' else K (.exit i) fr' σ' | .ret => K .ret fr' σ'
  | .loop c, fr, σ, K => iter (fr1 c) (evCode c) (ann.at c) K L (fr.cut (ann.at c)) σ
  | .exit id, fr, σ, K => K (.exit id) fr σ
  | .ret, fr, σ, K => K .ret fr σ
  | _, _, _, _ => none
noncomputable def kAt : Code → List Bool → List Nat → (Ex → Fr → St → Res) → (Ex → Fr → St → Res)
  | .seq a b, false :: p, ns, K => kAt a p ns fun ex fr' σ' => match ex with | .normal => pt (fr1 b) (ann.at b) fr' (evCode P call L ann b (fr'.cut (ann.at b)) σ' K) | .exit i => K (.exit i) fr' σ' | .ret => K .ret fr' σ'
  | .seq _ b, true :: p, ns, K => kAt b p ns K
  | .cond _ t _, false :: p, ns, K => kAt t p ns K
  | .cond _ _ e, true :: p, ns, K => kAt e p ns K
  | .block id c, p, ns, K => kAt c p ns fun ex fr' σ' => match ex with | .normal => K .normal fr' σ' | .exit i => bif Nat.beq i id then K .normal fr' σ' else K (.exit i) fr' σ' | .ret => K .ret fr' σ'
  | .loop c, _ :: p, n :: ns, K => kAt c p ns fun ex fr' σ' => match ex with | .normal => iter (fr1 c) (evCode P call L ann c) (ann.at c) K n (fr'.cut (ann.at c)) σ' | .exit i => K (.exit i) fr' σ' | .ret => K .ret fr' σ'
  | _, _, _, K => K
def cAt : Code → List Bool → Code
  | .seq a _, false :: p => cAt a p
  | .seq _ b, true :: p => cAt b p
  | .cond _ t _, false :: p => cAt t p
  | .cond _ _ e, true :: p => cAt e p
  | .block _ c, p => cAt c p
  | .loop c, _ :: p => cAt c p
  | c, _ => c
noncomputable def loopFrom (c : Code) (K : Ex → Fr → St → Res) (n : Nat) (fr : Fr) (σ : St) : Res :=
  match c with
  | .loop c => iter (fr1 c) (evCode P call L ann c) (ann.at c) K n fr σ
  | _ => none
end
inductive Def where
  | code (fn : Func) (body : Code) (ann : Ann)
  | prim (g : List Value → St → Res)
  | no
def frame0 : List Value → Nat → Fr
  | [], _ => []
  | v :: l, i => (i, v) :: frame0 l (i + 1)
def outs (P : Program) (fr : Fr) (σ : St) : List ResultVar → (List Value → Res) → Res
  | [], K => K []
  | .tmp t :: l, K => match fr.get t with | some v => outs P fr σ l fun vs => K (v :: vs) | none => none
  | .cell a t :: l, K => match fr.get a with
    | some v => asP v fun ad => adr ad fun r o => aLoad P t σ r o fun u => outs P fr σ l fun vs => K (u :: vs)
    | none => none
def pack : List Value → Value
  | [v] => v
  | vs => .tuple vs.toArray
def kEnd (P : Program) (fn : Func) : Ex → Fr → St → Res := fun ex fr σ => match ex with
  | .exit _ => none
  | .normal => outs P fr σ fn.results.toList fun vs => some (pack vs, σ)
  | .ret => outs P fr σ fn.results.toList fun vs => some (pack vs, σ)
noncomputable def evCall (P : Program) (env : FuncId → Def) (L : Nat) : Nat → FuncId → List Value → St → Res
  | 0, _, _, _ => none
  | n + 1, f, args, σ =>
    match env f with
    | .no => none
    | .prim g => g args σ
    | .code fn body ann => need (Nat.beq args.length (fn.params.size + fn.nfree)) (evCode P (evCall P env L n) L ann body (frame0 args 0) σ (kEnd P fn))
noncomputable def lpAt (P : Program) (env : FuncId → Def) (L k : Nat) (f : FuncId) (path : List Bool) (ns : List Nat) (n : Nat) (fr : Fr) (σ : St) : Res :=
  match env f with
  | .code fn body ann => loopFrom P (evCall P env L k) L ann (cAt body path) (kAt P (evCall P env L k) L ann body path ns (kEnd P fn)) n fr σ
  | _ => none
end Go.AM

namespace Go.AM
open Go.RowKit
structure Pl where
  b : Nat
  s : Nat
  n : Nat
abbrev Mp := Nat → Option Pl
def Mp.le (μ μ' : Mp) : Prop := ∀ r p, μ r = some p → μ' r = some p
theorem Mp.le.refl (μ : Mp) : μ.le μ := fun _ _ h => h
theorem Mp.le.trans {a b c : Mp} (h : a.le b) (k : b.le c) : a.le c := fun r p e => k r p (h r p e)
def Mp.put (μ : Mp) (r : Nat) (p : Pl) : Mp := fun k => if k = r then some p else μ k
inductive VRel (μ : Mp) : Value → Value → Prop
  | bool (b : Bool) : VRel μ (.bool b) (.bool b)
  | int (k : IntKind) (n : Int) : VRel μ (.int k n) (.int k n)
  | string (s : ByteArray) : VRel μ (.string s) (.string s)
  | ptr0 : VRel μ (.pointer none) (.pointer none)
  | ptr {r o : Nat} {p : Pl} (h : μ r = some p) : VRel μ (.pointer (some ⟨r, o, none⟩)) (.pointer (some ⟨p.b, p.s + o, none⟩))
  | sl0 : VRel μ (.slice none 0 0) (.slice none 0 0)
  | slw {r o o' n z c : Nat} {sp : Option Nat} {p : Pl} (h : μ r = some p) (hn : n ≤ c) (hc : c = 0 ∨ o' = p.s + o) (hz : z = 0 ∨ o' + c * z ≤ p.n) (hm : c ≤ maxLen) (hs : sp = none ∨ c = 0) :
      VRel μ (.slice (some ⟨r, o, none⟩) n z) (.slice (some ⟨p.b, o', sp⟩) n c)
  | nilIface : VRel μ .nilIface .nilIface
  | iface (t : TypeId) {v v' : Value} (h : VRel μ v v') : VRel μ (.iface t v) (.iface t v')
  | agg {A B : Array Value} (hs : A.toList.length = B.toList.length) (h : ∀ (i : Nat) (x y : Value), A.toList[i]? = some x → B.toList[i]? = some y → VRel μ x y) : VRel μ (.agg A) (.agg B)
  | tuple {A B : Array Value} (hs : A.toList.length = B.toList.length) (h : ∀ (i : Nat) (x y : Value), A.toList[i]? = some x → B.toList[i]? = some y → VRel μ x y) : VRel μ (.tuple A) (.tuple B)
  | nilFunc : VRel μ .nilFunc .nilFunc
  | func (f : Fn) {A B C D : Array Value} (hs : A.toList.length = B.toList.length) (h : ∀ (i : Nat) (x y : Value), A.toList[i]? = some x → B.toList[i]? = some y → VRel μ x y)
      (hs2 : C.toList.length = D.toList.length) (h2 : ∀ (i : Nat) (x y : Value), C.toList[i]? = some x → D.toList[i]? = some y → VRel μ x y) : VRel μ (.func f A C) (.func f B D)
  | map0 : VRel μ (.map none) (.map none)
  | map {r : Nat} {p : Pl} (h : μ r = some p) : VRel μ (.map (some r)) (.map (some p.b))
theorem VRel.mono {μ μ' : Mp} (hl : μ.le μ') {v v' : Value} (h : VRel μ v v') : VRel μ' v v' := by
  induction h with
  | bool b => exact .bool b
  | int k n => exact .int k n
  | string s => exact .string s
  | ptr0 => exact .ptr0
  | ptr h => exact .ptr (hl _ _ h)
  | sl0 => exact .sl0
  | slw h hn hc hz hm hs => exact .slw (hl _ _ h) hn hc hz hm hs
  | nilIface => exact .nilIface
  | iface t _ ih => exact .iface t ih
  | agg hs _ ih => exact .agg hs ih
  | tuple hs _ ih => exact .tuple hs ih
  | nilFunc => exact .nilFunc
  | func f hs _ hs2 _ ih ih2 => exact .func f hs ih hs2 ih2
  | map0 => exact .map0
  | map h => exact .map (hl _ _ h)
def LRel (μ : Mp) (l l' : List Value) : Prop := l.length = l'.length ∧ ∀ (i : Nat) (x y : Value), l[i]? = some x → l'[i]? = some y → VRel μ x y
theorem LRel.nil (μ : Mp) : LRel μ [] [] := ⟨rfl, fun i x y h => by simp at h⟩
theorem LRel.cons {μ : Mp} {x y : Value} {l l' : List Value} (h : VRel μ x y) (hl : LRel μ l l') : LRel μ (x :: l) (y :: l') := by
  refine ⟨by simp [hl.1], fun i u v hu hv => ?_⟩
  cases i with
  | zero => simp at hu hv; subst hu; subst hv; exact h
  | succ i => simp at hu hv; exact hl.2 i u v hu hv
theorem LRel.inv {μ : Mp} {x : Value} {l l' : List Value} (h : LRel μ (x :: l) l') : ∃ y m, l' = y :: m ∧ VRel μ x y ∧ LRel μ l m := by
  cases l' with
  | nil => have := h.1; simp at this
  | cons y m => exact ⟨y, m, rfl, h.2 0 x y rfl rfl, by have := h.1; simp at this; exact this, fun i u v hu hv => h.2 (i + 1) u v (by simpa using hu) (by simpa using hv)⟩
theorem LRel.inv_nil {μ : Mp} {l' : List Value} (h : LRel μ [] l') : l' = [] := by have := h.1; simp at this; exact List.eq_nil_of_length_eq_zero this.symm
theorem LRel.append {μ : Mp} {a a' b b' : List Value} (h : LRel μ a a') (k : LRel μ b b') : LRel μ (a ++ b) (a' ++ b') := by
  refine ⟨by simp [h.1, k.1], fun i x y hx hy => ?_⟩
  by_cases hi : i < a.length
  · rw [List.getElem?_append_left hi] at hx
    rw [List.getElem?_append_left (by rw [← h.1]; exact hi)] at hy
    exact h.2 i x y hx hy
  · rw [List.getElem?_append_right (by omega)] at hx
    rw [List.getElem?_append_right (by rw [← h.1]; omega)] at hy
    rw [← h.1] at hy
    exact k.2 _ x y hx hy
theorem LRel.take {μ : Mp} {a a' : List Value} (h : LRel μ a a') (n : Nat) : LRel μ (a.take n) (a'.take n) := by
  refine ⟨by simp [h.1], fun i x y hx hy => ?_⟩
  rw [List.getElem?_take] at hx hy
  split at hx
  · rename_i hi; rw [if_pos hi] at hy; exact h.2 i x y hx hy
  · cases hx
theorem LRel.drop {μ : Mp} {a a' : List Value} (h : LRel μ a a') (n : Nat) : LRel μ (a.drop n) (a'.drop n) := by
  refine ⟨by simp [h.1], fun i x y hx hy => ?_⟩
  rw [List.getElem?_drop] at hx hy
  exact h.2 _ x y hx hy
theorem LRel.get {μ : Mp} {a a' : List Value} (h : LRel μ a a') {i : Nat} {x : Value} (hx : a[i]? = some x) : ∃ y, a'[i]? = some y ∧ VRel μ x y := by
  have hi : i < a.length := (List.getElem?_eq_some_iff.1 hx).1
  have hi' : i < a'.length := by rw [← h.1]; exact hi
  have hy : a'[i]? = some a'[i] := List.getElem?_eq_getElem hi'
  exact ⟨_, hy, h.2 i x _ hx hy⟩
theorem LRel.of {μ : Mp} {a a' : List Value} (hl : a.length = a'.length) (h : ∀ (i : Nat) (x : Value), a[i]? = some x → ∃ y, a'[i]? = some y ∧ VRel μ x y) : LRel μ a a' :=
  ⟨hl, fun i x y hx hy => by obtain ⟨y', hy', hr⟩ := h i x hx; rw [hy] at hy'; cases hy'; exact hr⟩
theorem LRel.agg {μ : Mp} {A B : Array Value} (h : LRel μ A.toList B.toList) : VRel μ (.agg A) (.agg B) := .agg h.1 h.2
theorem LRel.tuple {μ : Mp} {A B : Array Value} (h : LRel μ A.toList B.toList) : VRel μ (.tuple A) (.tuple B) := .tuple h.1 h.2
theorem VRel.agg_inv {μ : Mp} {A : Array Value} {v : Value} (h : VRel μ (.agg A) v) : ∃ B, v = .agg B ∧ LRel μ A.toList B.toList := by
  cases h with | agg hs h => exact ⟨_, rfl, hs, h⟩
theorem VRel.tuple_inv {μ : Mp} {A : Array Value} {v : Value} (h : VRel μ (.tuple A) v) : ∃ B, v = .tuple B ∧ LRel μ A.toList B.toList := by
  cases h with | tuple hs h => exact ⟨_, rfl, hs, h⟩
theorem VRel.func_inv {μ : Mp} {f : Fn} {A C : Array Value} {v : Value} (h : VRel μ (.func f A C) v) : ∃ B D, v = .func f B D ∧ LRel μ A.toList B.toList ∧ LRel μ C.toList D.toList := by
  cases h with | func _ hs h hs2 h2 => exact ⟨_, _, rfl, ⟨hs, h⟩, hs2, h2⟩
theorem VRel.undef (μ : Mp) : VRel μ undef undef := .tuple rfl fun i x y h => by simp at h
theorem VRel.int_inv {μ : Mp} {k : IntKind} {n : Int} {v : Value} (h : VRel μ (.int k n) v) : v = .int k n := by cases h; rfl
theorem VRel.bool_inv {μ : Mp} {b : Bool} {v : Value} (h : VRel μ (.bool b) v) : v = .bool b := by cases h; rfl
theorem VRel.string_inv {μ : Mp} {s : ByteArray} {v : Value} (h : VRel μ (.string s) v) : v = .string s := by cases h; rfl
theorem VRel.ptr_inv {μ : Mp} {r o : Nat} {v : Value} (h : VRel μ (.pointer (some ⟨r, o, none⟩)) v) : ∃ p, μ r = some p ∧ v = .pointer (some ⟨p.b, p.s + o, none⟩) := by
  cases h with | ptr h => exact ⟨_, h, rfl⟩
theorem VRel.ptr0_inv {μ : Mp} {v : Value} (h : VRel μ (.pointer none) v) : v = .pointer none := by cases h; rfl
theorem VRel.sl {μ : Mp} {r o o' n z c : Nat} {p : Pl} (h : μ r = some p) (hn : n ≤ c) (hc : c = 0 ∨ o' = p.s + o) (hz : z = 0 ∨ o' + c * z ≤ p.n) (hm : c ≤ maxLen) :
    VRel μ (.slice (some ⟨r, o, none⟩) n z) (.slice (some ⟨p.b, o', none⟩) n c) := .slw h hn hc hz hm (.inl rfl)
theorem VRel.slw_inv {μ : Mp} {r o n z : Nat} {v : Value} (h : VRel μ (.slice (some ⟨r, o, none⟩) n z) v) :
    ∃ p o' c sp, μ r = some p ∧ v = .slice (some ⟨p.b, o', sp⟩) n c ∧ n ≤ c ∧ (c = 0 ∨ o' = p.s + o) ∧ (z = 0 ∨ o' + c * z ≤ p.n) ∧ c ≤ maxLen ∧ (sp = none ∨ c = 0) := by
  cases h with | slw h hn hc hz hm hs => exact ⟨_, _, _, _, h, rfl, hn, hc, hz, hm, hs⟩
theorem VRel.sl_inv {μ : Mp} {r o n z : Nat} {v : Value} (h : VRel μ (.slice (some ⟨r, o, none⟩) n z) v) (h0 : 0 < n) :
    ∃ p o' c, μ r = some p ∧ v = .slice (some ⟨p.b, o', none⟩) n c ∧ n ≤ c ∧ (c = 0 ∨ o' = p.s + o) ∧ (z = 0 ∨ o' + c * z ≤ p.n) ∧ c ≤ maxLen := by
  obtain ⟨p, o', c, sp, h1, h2, h3, h4, h5, h6, h7⟩ := h.slw_inv
  have : sp = none := by rcases h7 with h | h; exact h; omega
  subst this
  exact ⟨p, o', c, h1, h2, h3, h4, h5, h6⟩
theorem VRel.slice_inv {μ : Mp} {a : Option Addr} {n z : Nat} {v : Value} (h : VRel μ (.slice a n z) v) :
    (a = none ∧ n = 0 ∧ z = 0 ∧ v = .slice none 0 0) ∨ ∃ r o p o' c sp, a = some ⟨r, o, none⟩ ∧ μ r = some p ∧ v = .slice (some ⟨p.b, o', sp⟩) n c ∧ n ≤ c ∧ (c = 0 ∨ o' = p.s + o) ∧ (z = 0 ∨ o' + c * z ≤ p.n) ∧ c ≤ maxLen ∧ (sp = none ∨ c = 0) := by
  cases h with
  | sl0 => exact .inl ⟨rfl, rfl, rfl, rfl⟩
  | slw h hn hc hz hm hs => exact .inr ⟨_, _, _, _, _, _, rfl, h, rfl, hn, hc, hz, hm, hs⟩
theorem VRel.iface_inv {μ : Mp} {t : TypeId} {u v : Value} (h : VRel μ (.iface t u) v) : ∃ u', v = .iface t u' ∧ VRel μ u u' := by cases h with | iface _ h => exact ⟨_, rfl, h⟩
theorem VRel.nilIface_inv {μ : Mp} {v : Value} (h : VRel μ .nilIface v) : v = .nilIface := by cases h; rfl
theorem VRel.map_inv {μ : Mp} {a : Option Nat} {v : Value} (h : VRel μ (.map a) v) : (a = none ∧ v = .map none) ∨ ∃ r p, a = some r ∧ μ r = some p ∧ v = .map (some p.b) := by
  cases h with
  | map0 => exact .inl ⟨rfl, rfl⟩
  | map h => exact .inr ⟨_, _, rfl, h, rfl⟩
theorem VRel.cells {μ : Mp} {v v' : Value} (h : VRel μ v v') : LRel μ (Value.cellsL v) v'.cells.toList := by
  cases h with
  | agg hs h => exact ⟨hs, h⟩
  | _ => exact .cons (by constructor <;> assumption) (.nil μ)
theorem VRel.oneCell {μ : Mp} {v v' : Value} (h : VRel μ v v') : oneCell v = v'.oneCell' := by cases h <;> rfl
theorem LRel.oneCells {μ : Mp} {l l' : List Value} (h : LRel μ l l') (hb : l.all oneCell = true) : ∀ u ∈ l', u.oneCell' = true := by
  intro u hu
  obtain ⟨i, hi, rfl⟩ := List.getElem_of_mem hu
  have hi' : i < l.length := by rw [h.1]; exact hi
  have := h.2 i l[i] l'[i] (List.getElem?_eq_getElem hi') (List.getElem?_eq_getElem hi)
  rw [← this.oneCell]
  exact List.all_eq_true.1 hb _ (List.getElem_mem hi')
theorem nbeq_ne {a b : Nat} (h : a ≠ b) : Nat.beq a b = false := by
  cases h' : Nat.beq a b with
  | false => rfl
  | true => exact absurd (Nat.eq_of_beq_eq_true h') h
def FrOn (μ : Mp) (fr : Fr) (a : Act) (S : List Nat) : Prop := ∀ t ∈ S, ∀ v, fr.get t = some v → ∃ v', a.tmps[t]? = some v' ∧ VRel μ v v'
def FrRel (μ : Mp) (fr : Fr) (a : Act) : Prop := ∀ t v, fr.get t = some v → ∃ v', a.tmps[t]? = some v' ∧ VRel μ v v'
theorem FrRel.mono {μ μ' : Mp} (hl : μ.le μ') {fr : Fr} {a : Act} (h : FrRel μ fr a) : FrRel μ' fr a := fun t v e => let ⟨v', h1, h2⟩ := h t v e; ⟨v', h1, h2.mono hl⟩
theorem FrRel.on {μ : Mp} {fr : Fr} {a : Act} (h : FrRel μ fr a) (S : List Nat) : FrOn μ fr a S := fun t _ v e => h t v e
theorem FrRel.put {μ : Mp} {fr : Fr} {a : Act} {d : Option Nat} {v v' : Value} (h : FrRel μ fr a) (hv : VRel μ v v') (hd : ∀ t, d = some t → t < a.tmps.size) : FrRel μ (fr.put d v) (a.put d v') := by
  intro t u e
  cases d with
  | none => exact h t u e
  | some d =>
    simp only [Fr.put, Fr.get] at e
    by_cases hdt : d = t
    · subst hdt
      have : Nat.beq d d = true := by simp
      rw [this] at e
      simp at e
      subst e
      exact ⟨v', by simp [Act.put, hd d rfl], hv⟩
    · have : Nat.beq d t = false := nbeq_ne hdt
      rw [this] at e
      obtain ⟨u', h1, h2⟩ := h t u (by simpa using e)
      exact ⟨u', by simp only [Act.put]; rw [Array.getElem?_setIfInBounds_ne hdt]; exact h1, h2⟩
theorem Fr.cut_get {fr : Fr} {keep : Option (List Nat)} {t : Nat} {v : Value} (h : (fr.cut keep).get t = some v) : fr.get t = some v := by
  cases keep with
  | none => exact h
  | some l =>
    simp only [Fr.cut] at h
    induction l with
    | nil => simp [Fr.get] at h
    | cons x l ih =>
      simp only [List.filterMap_cons] at h
      cases hx : fr.get x with
      | none => rw [hx] at h; exact ih h
      | some u =>
        rw [hx] at h
        simp only [Option.map_some, Fr.get] at h
        by_cases hxt : x = t
        · subst hxt
          have : Nat.beq x x = true := by simp
          rw [this] at h
          simp at h
          rw [hx, h]
        · have : Nat.beq x t = false := nbeq_ne hxt
          rw [this] at h
          exact ih (by simpa using h)
theorem FrRel.cut {μ : Mp} {fr : Fr} {a : Act} (h : FrRel μ fr a) (keep : Option (List Nat)) : FrRel μ (fr.cut keep) a := fun t v e => h t v (Fr.cut_get e)
class Laid where
  I : World → Prop
instance (priority := low) noLaid : Laid := ⟨fun _ => True⟩
variable [Laid]
structure Base where
  w : World
  ex : Nat → Option Obj
abbrev Base.heap (B : Base) := B.w.heap
def Base.of (W : World) : Base := ⟨W, fun _ => none⟩
def Base.free (B : Base) (b : Nat) : Prop := B.w.heap.size ≤ b ∧ B.ex b = none
structure Rel (W : Base) (μ : Mp) (σ : St) (w : World) : Prop where
  below : Below W.w.heap.size W.w w
  fresh : ∀ r, σ.next ≤ r → μ r = none ∧ σ.get r = none
  lt : ∀ r p B, μ r = some p → σ.get r = some B → p.b < w.heap.size
  own : ∀ r vs e, σ.get r = some (.own vs e) → ∃ p cur, μ r = some p ∧ W.free p.b ∧ w.heap[p.b]? = some (.cells cur e (0, 0)) ∧ cur.size = p.n ∧ p.s + vs.length ≤ p.n ∧
    ∀ (i : Nat) (v : Value), vs[i]? = some v → ∃ v', cur[p.s + i]? = some v' ∧ VRel μ v v'
  ro : ∀ r vs, σ.get r = some (.ro vs) → ∃ p, μ r = some p ∧ ∀ (i : Nat) (v : Value), vs[i]? = some v → ∃ v', w.cell? ⟨p.b, p.s + i, none⟩ = some v' ∧ VRel μ v v'
  mp : ∀ r kv, σ.get r = some (.mp kv) → ∃ p es clock, μ r = some p ∧ W.free p.b ∧ w.heap[p.b]? = some (.map es clock) ∧ kv.length = es.toList.length ∧
    ∀ (i : Nat) k v e, kv[i]? = some (k, v) → es.toList[i]? = some e → e.key = .int .i64 k ∧ VRel μ v e.val ∧ oneCell v = true
  inj : ∀ r r' B B' p p', σ.get r = some B → B.wr = true → σ.get r' = some B' → μ r = some p → μ r' = some p' → p.b = p'.b → r = r'
  laid : Laid.I W.w
  extra : ∀ b o, W.ex b = some o → w.heap[b]? = some o
  apart : ∀ r p B, μ r = some p → σ.get r = some B → W.ex p.b = none
variable {W : Base} {μ : Mp} {σ : St} {w : World}
theorem Rel.freeNew (h : Rel W μ σ w) : W.free w.heap.size := by
  refine ⟨h.below.size, ?_⟩
  cases he : W.ex w.heap.size with
  | none => rfl
  | some o => have := h.extra _ o he; rw [Array.getElem?_eq_none (Nat.le_refl _)] at this; cases this
theorem Rel.exLt (h : Rel W μ σ w) {b : Nat} {o : Obj} (he : W.ex b = some o) : b < w.heap.size := (Array.getElem?_eq_some_iff.1 (h.extra b o he)).1
theorem Rel.ltNext (h : Rel W μ σ w) {r : Nat} {B : Blk} (hr : σ.get r = some B) : r < σ.next := by
  by_cases hlt : r < σ.next
  · exact hlt
  · have := (h.fresh r (by omega)).2; rw [this] at hr; cases hr
theorem Rel.cells (h : Rel W μ σ w) {r : Nat} {vs : List Value} (hr : σ.cells r = some vs) : ∃ p, μ r = some p ∧ ∀ (i : Nat) (v : Value), vs[i]? = some v → ∃ v', w.cell? ⟨p.b, p.s + i, none⟩ = some v' ∧ VRel μ v v' := by
  unfold St.cells at hr
  cases hB : σ.get r with
  | none => rw [hB] at hr; cases hr
  | some B =>
    rw [hB] at hr
    simp only [Option.map_some, Option.some.injEq] at hr
    subst hr
    cases B with
    | own vs e =>
      obtain ⟨p, cur, hp, _, hc, _, _, hv⟩ := h.own r vs e hB
      exact ⟨p, hp, fun i v hi => by obtain ⟨v', h1, h2⟩ := hv i v hi; exact ⟨v', by simp only [World.cell?, hc]; exact h1, h2⟩⟩
    | ro vs => exact h.ro r vs hB
    | mp kv => obtain ⟨p, _, _, hp, _⟩ := h.mp r kv hB; exact ⟨p, hp, fun i v hi => by simp [Blk.cells] at hi⟩
theorem Rel.heap {w' : World} (h : Rel W μ σ w) (hh : w'.heap = w.heap) (ho : w'.os = w.os) (ht : w'.tape = w.tape) (hu : w'.output = w.output) : Rel W μ σ w' := by
  have hc : ∀ a, w'.cell? a = w.cell? a := fun a => by simp [World.cell?, hh]
  exact ⟨⟨ho.trans h.below.os, ht.trans h.below.tape, hu.trans h.below.output, by rw [hh]; exact h.below.size, fun k hk => by rw [hh]; exact h.below.block k hk⟩, h.fresh,
    fun r p B hp hB => by rw [hh]; exact h.lt r p B hp hB, fun r vs e hr => by rw [hh]; exact h.own r vs e hr, fun r vs hr => by simp only [hc]; exact h.ro r vs hr, fun r kv hr => by rw [hh]; exact h.mp r kv hr, h.inj, h.laid, fun b o he => by rw [hh]; exact h.extra b o he, h.apart⟩
theorem Rel.drew (h : Rel W μ σ w) : Rel W μ σ w.drew := h.heap rfl rfl rfl rfl
theorem Mp.put_le {μ : Mp} {r : Nat} {p : Pl} (h : μ r = none) : μ.le (μ.put r p) := fun k q hk => by
  unfold Mp.put
  split
  · rename_i e; subst e; rw [h] at hk; cases hk
  · exact hk
theorem Rel.new (h : Rel W μ σ w) (cur : Array Value) (e : TypeId) (vs : List Value) (hl : vs.length ≤ cur.size) (hv : ∀ (i : Nat) (v : Value), vs[i]? = some v → ∃ v', cur[i]? = some v' ∧ VRel μ v v') :
    μ.le (μ.put σ.next ⟨w.heap.size, 0, cur.size⟩) ∧ Rel W (μ.put σ.next ⟨w.heap.size, 0, cur.size⟩) (σ.new (.own vs e)) (w.alloc (.cells cur e)) := by
  have hle : μ.le (μ.put σ.next ⟨w.heap.size, 0, cur.size⟩) := Mp.put_le (h.fresh _ (Nat.le_refl _)).1
  have hput : (μ.put σ.next ⟨w.heap.size, 0, cur.size⟩) σ.next = some ⟨w.heap.size, 0, cur.size⟩ := by simp [Mp.put]
  have hold : ∀ b, b < w.heap.size → (w.alloc (.cells cur e)).heap[b]? = w.heap[b]? := fun b hb => heap_alloc_old w _ b hb
  have hcell : ∀ a : Addr, a.block < w.heap.size → (w.alloc (.cells cur e)).cell? a = w.cell? a := fun a ha => World.cell?_alloc_lt w _ a ha
  refine ⟨hle, ?_, ?_, ?_, ?_, ?_, ?_, ?_, h.laid, fun b o he => by rw [hold b (h.exLt he)]; exact h.extra b o he, fun r q B hq hB => by
    simp only [Mp.put] at hq
    simp only [St.new] at hB
    split at hq
    · cases hq; exact h.freeNew.2
    · rename_i hne
      rw [if_neg hne] at hB
      exact h.apart r q B hq hB⟩
  · exact h.below.alloc h.below.size _
  · intro r hr
    have hr' : σ.next + 1 ≤ r := hr
    have hne : r ≠ σ.next := by omega
    have := h.fresh r (by omega)
    exact ⟨by simp [Mp.put, hne, this.1], by simp [St.new, hne, this.2]⟩
  · intro r p B hp hB
    simp only [Mp.put] at hp
    simp only [St.new] at hB
    split at hp
    · cases hp; simp
    · rename_i hne
      rw [if_neg hne] at hB
      have := h.lt r p B hp hB; simp; omega
  · intro r us e' hr
    simp only [St.new] at hr
    split at hr
    · rename_i hrn
      subst hrn
      cases hr
      exact ⟨_, cur, hput, h.freeNew, heap_alloc_new w _, rfl, by simpa using hl, fun i v hi => by obtain ⟨v', h1, h2⟩ := hv i v hi; exact ⟨v', by simpa using h1, h2.mono hle⟩⟩
    · obtain ⟨p, c, hp, hb, hc, hs, hn, hvs⟩ := h.own r us e' hr
      exact ⟨p, c, hle _ _ hp, hb, by rw [hold _ (h.lt _ _ _ hp hr)]; exact hc, hs, hn, fun i v hi => by obtain ⟨v', h1, h2⟩ := hvs i v hi; exact ⟨v', h1, h2.mono hle⟩⟩
  · intro r us hr
    simp only [St.new] at hr
    split at hr
    · cases hr
    · obtain ⟨p, hp, hvs⟩ := h.ro r us hr
      exact ⟨p, hle _ _ hp, fun i v hi => by obtain ⟨v', h1, h2⟩ := hvs i v hi; exact ⟨v', by rw [hcell _ (h.lt _ _ _ hp hr)]; exact h1, h2.mono hle⟩⟩
  · intro r kv hr
    simp only [St.new] at hr
    split at hr
    · cases hr
    · obtain ⟨p, es, ck, hp, hb, hm, hlen, hk⟩ := h.mp r kv hr
      exact ⟨p, es, ck, hle _ _ hp, hb, by rw [hold _ (h.lt _ _ _ hp hr)]; exact hm, hlen, fun i k v e hi he => by obtain ⟨h1, h2, h3⟩ := hk i k v e hi he; exact ⟨h1, h2.mono hle, h3⟩⟩
  · intro r r' B B' p p' hr hw hr' hp hp' hb
    simp only [St.new] at hr hr'
    simp only [Mp.put] at hp hp'
    split at hp <;> split at hp'
    · rename_i h1 h2; rw [h1, h2]
    · rename_i h1 h2; cases hp; have := h.lt r' p' _ hp' (by rw [if_neg h2] at hr'; exact hr'); simp only at hb; omega
    · rename_i h1 h2; cases hp'; have := h.lt r p _ hp (by rw [if_neg h1] at hr; exact hr); simp only at hb; omega
    · rename_i h1 h2
      rw [if_neg h1] at hr
      rw [if_neg h2] at hr'
      exact h.inj r r' B B' p p' hr hw hr' hp hp' hb
theorem Rel.newRo (h : Rel W μ σ w) (cur : Array Value) (e : TypeId) (fz : Nat × Nat) (vs : List Value) (w' : World) (hw : w' = { w with heap := w.heap.push (.cells cur e fz) })
    (hv : ∀ (i : Nat) (v : Value), vs[i]? = some v → ∃ v', cur[i]? = some v' ∧ VRel μ v v') :
    μ.le (μ.put σ.next ⟨w.heap.size, 0, cur.size⟩) ∧ Rel W (μ.put σ.next ⟨w.heap.size, 0, cur.size⟩) (σ.new (.ro vs)) w' := by
  subst hw
  have hle : μ.le (μ.put σ.next ⟨w.heap.size, 0, cur.size⟩) := Mp.put_le (h.fresh _ (Nat.le_refl _)).1
  have hput : (μ.put σ.next ⟨w.heap.size, 0, cur.size⟩) σ.next = some ⟨w.heap.size, 0, cur.size⟩ := by simp [Mp.put]
  have hold : ∀ b, b < w.heap.size → (w.alloc (.cells cur e fz)).heap[b]? = w.heap[b]? := fun b hb => heap_alloc_old w _ b hb
  have hcell : ∀ a : Addr, a.block < w.heap.size → (w.alloc (.cells cur e fz)).cell? a = w.cell? a := fun a ha => World.cell?_alloc_lt w _ a ha
  refine ⟨hle, ?_, ?_, ?_, ?_, ?_, ?_, ?_, h.laid, fun b o he => (hold b (h.exLt he)).trans (h.extra b o he), fun r q B hq hB => by
    simp only [Mp.put] at hq
    simp only [St.new] at hB
    split at hq
    · cases hq; exact h.freeNew.2
    · rename_i hne
      rw [if_neg hne] at hB
      exact h.apart r q B hq hB⟩
  · exact h.below.alloc h.below.size _
  · intro r hr
    have hr' : σ.next + 1 ≤ r := hr
    have hne : r ≠ σ.next := by omega
    have := h.fresh r (by omega)
    exact ⟨by simp [Mp.put, hne, this.1], by simp [St.new, hne, this.2]⟩
  · intro r p B hp hB
    simp only [Mp.put] at hp
    simp only [St.new] at hB
    split at hp
    · cases hp; simp
    · rename_i hne
      rw [if_neg hne] at hB
      have := h.lt r p B hp hB; simp; omega
  · intro r us e' hr
    simp only [St.new] at hr
    split at hr
    · cases hr
    · obtain ⟨p, c, hp, hb, hc, hs, hn, hvs⟩ := h.own r us e' hr
      exact ⟨p, c, hle _ _ hp, hb, by have := hold _ (h.lt _ _ _ hp hr); simp only [World.alloc] at this; rw [this]; exact hc, hs, hn, fun i v hi => by obtain ⟨v', h1, h2⟩ := hvs i v hi; exact ⟨v', h1, h2.mono hle⟩⟩
  · intro r us hr
    simp only [St.new] at hr
    split at hr
    · rename_i hrn
      subst hrn
      cases hr
      refine ⟨_, hput, fun i v hi => ?_⟩
      obtain ⟨v', h1, h2⟩ := hv i v hi
      exact ⟨v', by simp [World.cell?, h1], h2.mono hle⟩
    · obtain ⟨p, hp, hvs⟩ := h.ro r us hr
      exact ⟨p, hle _ _ hp, fun i v hi => by obtain ⟨v', h1, h2⟩ := hvs i v hi; exact ⟨v', by have := hcell ⟨p.b, p.s + i, none⟩ (h.lt _ _ _ hp hr); simp only [World.alloc] at this; rw [this]; exact h1, h2.mono hle⟩⟩
  · intro r kv hr
    simp only [St.new] at hr
    split at hr
    · cases hr
    · obtain ⟨p, es, ck, hp, hb, hm, hlen, hk⟩ := h.mp r kv hr
      exact ⟨p, es, ck, hle _ _ hp, hb, by have := hold _ (h.lt _ _ _ hp hr); simp only [World.alloc] at this; rw [this]; exact hm, hlen, fun i k v e hi he => by obtain ⟨h1, h2, h3⟩ := hk i k v e hi he; exact ⟨h1, h2.mono hle, h3⟩⟩
  · intro r r' B B' p p' hr hw hr' hp hp' hb
    simp only [St.new] at hr hr'
    simp only [Mp.put] at hp hp'
    split at hp <;> split at hp'
    · rename_i h1 h2; rw [h1, h2]
    · rename_i h1 h2; cases hp; have := h.lt r' p' _ hp' (by rw [if_neg h2] at hr'; exact hr'); simp only at hb; omega
    · rename_i h1 h2; cases hp'; have := h.lt r p _ hp (by rw [if_neg h1] at hr; exact hr); simp only at hb; omega
    · rename_i h1 h2
      rw [if_neg h1] at hr
      rw [if_neg h2] at hr'
      exact h.inj r r' B B' p p' hr hw hr' hp hp' hb
theorem Rel.del (h : Rel W μ σ w) (r : Nat) : Rel W μ (σ.del r) w := by
  have hg : ∀ k B, (σ.del r).get k = some B → σ.get k = some B := fun k B hk => by
    simp only [St.del] at hk
    split at hk
    · cases hk
    · exact hk
  exact ⟨h.below, fun k hk => ⟨(h.fresh k hk).1, by simp only [St.del]; split; rfl; exact (h.fresh k hk).2⟩, fun k p B hp hk => h.lt k p B hp (hg _ _ hk), fun k vs e hk => h.own k vs e (hg _ _ hk), fun k vs hk => h.ro k vs (hg _ _ hk),
    fun k kv hk => h.mp k kv (hg _ _ hk), fun k k' B B' p p' hk hw hk' => h.inj k k' B B' p p' (hg _ _ hk) hw (hg _ _ hk'), h.laid, h.extra, fun k p B hp hk => h.apart k p B hp (hg _ _ hk)⟩
theorem setRow_below {w w' : World} {b : Nat} {B : Nat} (h : Below B w w') (hb : B ≤ b) (cs : Array Value) : Below B w (w'.setRow b cs) :=
  ⟨h.os, h.tape, h.output, by have := h.size; simp [World.setRow]; omega, fun k hk => by rw [setRow_other w' b k cs (by omega)]; exact h.block k hk⟩
theorem heap_size_setRow (w : World) (b : Nat) (cs : Array Value) : (w.setRow b cs).heap.size = w.heap.size := by simp [World.setRow]
theorem Rel.setRow (h : Rel W μ σ w) {r : Nat} {B : Blk} {e : TypeId} {p : Pl} {cur : Array Value} (hr : σ.get r = some B) (hB : B.wr = true) (hp : μ r = some p) (hWb : W.free p.b) (hc : w.heap[p.b]? = some (.cells cur e (0, 0)))
    (vs : List Value) (cur' : Array Value) (hs : cur'.size = p.n) (hl : p.s + vs.length ≤ p.n) (hv : ∀ (i : Nat) (v : Value), vs[i]? = some v → ∃ v', cur'[p.s + i]? = some v' ∧ VRel μ v v') :
    Rel W μ (σ.set r (.own vs e)) (w.setRow p.b cur') := by
  have hother : ∀ k B' q, k ≠ r → σ.get k = some B' → μ k = some q → q.b ≠ p.b := fun k B' q hk hB' hq hb => hk (h.inj r k _ _ p q hr hB hB' hp hq hb.symm).symm
  refine ⟨setRow_below h.below hWb.1 _, ?_, ?_, ?_, ?_, ?_, ?_, h.laid, fun b o he => by rw [setRow_other w p.b b _ (fun e => by subst e; rw [hWb.2] at he; cases he)]; exact h.extra b o he, fun k q C hq hC => by
    simp only [St.set] at hC
    split at hC
    · rename_i e1; subst e1; exact h.apart k q _ hq hr
    · exact h.apart k q C hq hC⟩
  · intro k hk
    have hk' : σ.next ≤ k := hk
    have hlt := h.ltNext hr
    have hne : k ≠ r := by omega
    have := h.fresh k hk'
    exact ⟨this.1, by simp [St.set, hne, this.2]⟩
  · intro k q C hq hC
    rw [heap_size_setRow]
    simp only [St.set] at hC
    split at hC
    · rename_i e1; subst e1; exact h.lt k q B hq hr
    · exact h.lt k q C hq hC
  · intro k us e' hk
    simp only [St.set] at hk
    split at hk
    · rename_i hkr
      subst hkr
      cases hk
      exact ⟨p, cur', hp, hWb, setRow_heap w p.b cur cur' e (0, 0) hc, hs, hl, hv⟩
    · rename_i hkr
      obtain ⟨q, c, hq, hb, hcc, hss, hn, hvs⟩ := h.own k us e' hk
      exact ⟨q, c, hq, hb, by rw [setRow_other w p.b q.b _ (hother k _ q hkr hk hq)]; exact hcc, hss, hn, hvs⟩
  · intro k us hk
    simp only [St.set] at hk
    split at hk
    · cases hk
    · rename_i hkr
      obtain ⟨q, hq, hvs⟩ := h.ro k us hk
      refine ⟨q, hq, fun i v hi => ?_⟩
      obtain ⟨v', h1, h2⟩ := hvs i v hi
      refine ⟨v', ?_, h2⟩
      rw [World.cell?_of_block (setRow_other w p.b q.b _ (hother k _ q hkr hk hq))]
      exact h1
  · intro k kv hk
    simp only [St.set] at hk
    split at hk
    · cases hk
    · rename_i hkr
      obtain ⟨q, es, ck, hq, hb, hm, hlen, hkk⟩ := h.mp k kv hk
      exact ⟨q, es, ck, hq, hb, by rw [setRow_other w p.b q.b _ (hother k _ q hkr hk hq)]; exact hm, hlen, hkk⟩
  · intro k k' C C' q q' hk hw hk' hq hq' hb
    simp only [St.set] at hk hk'
    have hk1 : ∃ C0, σ.get k = some C0 ∧ (C.wr = true → C0.wr = true) := by
      split at hk
      · rename_i e1; subst e1; exact ⟨B, hr, fun _ => hB⟩
      · exact ⟨C, hk, id⟩
    have hk2 : ∃ C0, σ.get k' = some C0 := by
      split at hk'
      · rename_i e1; subst e1; exact ⟨B, hr⟩
      · exact ⟨C', hk'⟩
    obtain ⟨C0, g1, g2⟩ := hk1
    obtain ⟨C1, g3⟩ := hk2
    exact h.inj k k' C0 C1 q q' g1 (g2 hw) g3 hq hq' hb
theorem Rel.move (h : Rel W μ σ w) {q : Nat} {B : Blk} {e : TypeId} {p : Pl} {cur : Array Value} (hq : σ.get q = some B) (hB : B.wr = true) (hp : μ q = some p) (hWb : W.free p.b) (hc : w.heap[p.b]? = some (.cells cur e (0, 0)))
    (vs : List Value) (cur' : Array Value) (s' : Nat) (hs : cur'.size = p.n) (hl : s' + vs.length ≤ p.n) (hv : ∀ (i : Nat) (v : Value), vs[i]? = some v → ∃ v', cur'[s' + i]? = some v' ∧ VRel μ v v') :
    μ.le (μ.put σ.next ⟨p.b, s', p.n⟩) ∧ Rel W (μ.put σ.next ⟨p.b, s', p.n⟩) ((σ.del q).new (.own vs e)) (w.setRow p.b cur') := by
  have hle : μ.le (μ.put σ.next ⟨p.b, s', p.n⟩) := Mp.put_le (h.fresh _ (Nat.le_refl _)).1
  have hput : (μ.put σ.next ⟨p.b, s', p.n⟩) σ.next = some ⟨p.b, s', p.n⟩ := by simp [Mp.put]
  have hother : ∀ k B' x, k ≠ q → σ.get k = some B' → μ k = some x → x.b ≠ p.b := fun k B' x hk hB' hx hb => hk (h.inj q k _ _ p x hq hB hB' hp hx hb.symm).symm
  have hget : ∀ k C, ((σ.del q).new (.own vs e)).get k = some C → (k = σ.next ∧ C = .own vs e) ∨ (k ≠ σ.next ∧ k ≠ q ∧ σ.get k = some C) := by
    intro k C hk
    replace hk : (if k = σ.next then some (Blk.own vs e) else if k = q then none else σ.get k) = some C := hk
    by_cases e1 : k = σ.next
    · rw [if_pos e1] at hk; cases hk; exact .inl ⟨e1, rfl⟩
    · rw [if_neg e1] at hk
      by_cases e2 : k = q
      · rw [if_pos e2] at hk; cases hk
      · rw [if_neg e2] at hk; exact .inr ⟨e1, e2, hk⟩
  refine ⟨hle, setRow_below h.below hWb.1 _, ?_, ?_, ?_, ?_, ?_, ?_, h.laid, fun b o he => by rw [setRow_other w p.b b _ (fun e => by subst e; rw [hWb.2] at he; cases he)]; exact h.extra b o he, fun k x C hx hC => by
    simp only [Mp.put] at hx
    rcases hget k C hC with ⟨e1, _⟩ | ⟨e1, _, e3⟩
    · rw [if_pos e1] at hx; cases hx; exact hWb.2
    · rw [if_neg e1] at hx; exact h.apart k x C hx e3⟩
  · intro k hk
    have hk' : σ.next + 1 ≤ k := hk
    have hne : k ≠ σ.next := by omega
    have := h.fresh k (by omega)
    exact ⟨by simp [Mp.put, hne, this.1], by simp [St.new, St.del, hne, this.2]⟩
  · intro k x C hx hC
    rw [heap_size_setRow]
    simp only [Mp.put] at hx
    rcases hget k C hC with ⟨e1, _⟩ | ⟨e1, _, e3⟩
    · rw [if_pos e1] at hx; cases hx; exact h.lt q p B hp hq
    · rw [if_neg e1] at hx; exact h.lt k x C hx e3
  · intro k us e' hk
    rcases hget k _ hk with ⟨e1, e2⟩ | ⟨e1, e2, e3⟩
    · subst e1
      cases e2
      exact ⟨_, cur', hput, hWb, setRow_heap w p.b cur cur' e (0, 0) hc, hs, hl, fun i v hi => by obtain ⟨v', h1, h2⟩ := hv i v hi; exact ⟨v', h1, h2.mono hle⟩⟩
    · obtain ⟨x, c, hx, hb, hcc, hss, hn, hvs⟩ := h.own k us e' e3
      exact ⟨x, c, hle _ _ hx, hb, by rw [setRow_other w p.b x.b _ (hother k _ x e2 e3 hx)]; exact hcc, hss, hn, fun i v hi => by obtain ⟨v', h1, h2⟩ := hvs i v hi; exact ⟨v', h1, h2.mono hle⟩⟩
  · intro k us hk
    rcases hget k _ hk with ⟨e1, e2⟩ | ⟨e1, e2, e3⟩
    · cases e2
    · obtain ⟨x, hx, hvs⟩ := h.ro k us e3
      refine ⟨x, hle _ _ hx, fun i v hi => ?_⟩
      obtain ⟨v', h1, h2⟩ := hvs i v hi
      refine ⟨v', ?_, h2.mono hle⟩
      rw [World.cell?_of_block (setRow_other w p.b x.b _ (hother k _ x e2 e3 hx))]
      exact h1
  · intro k kv hk
    rcases hget k _ hk with ⟨e1, e2⟩ | ⟨e1, e2, e3⟩
    · cases e2
    · obtain ⟨x, es, ck, hx, hb, hm, hlen, hkk⟩ := h.mp k kv e3
      exact ⟨x, es, ck, hle _ _ hx, hb, by rw [setRow_other w p.b x.b _ (hother k _ x e2 e3 hx)]; exact hm, hlen, fun i k v e hi he => by obtain ⟨h1, h2, h3⟩ := hkk i k v e hi he; exact ⟨h1, h2.mono hle, h3⟩⟩
  · intro k k' C C' x x' hk hw hk' hx hx' hb
    have hmu : ∀ k x, (μ.put σ.next ⟨p.b, s', p.n⟩) k = some x → (k = σ.next ∧ x.b = p.b) ∨ (k ≠ σ.next ∧ μ k = some x) := by
      intro k x hx
      simp only [Mp.put] at hx
      split at hx
      · rename_i e1; cases hx; exact .inl ⟨e1, rfl⟩
      · exact .inr ⟨‹_›, hx⟩
    rcases hget k _ hk with ⟨e1, e2⟩ | ⟨e1, e2, e3⟩ <;> rcases hget k' _ hk' with ⟨f1, f2⟩ | ⟨f1, f2, f3⟩
    · rw [e1, f1]
    · rcases hmu k x hx with ⟨_, g1⟩ | ⟨g0, _⟩
      · rcases hmu k' x' hx' with ⟨g2, _⟩ | ⟨_, g3⟩
        · exact absurd g2 f1
        · exact absurd (hb.symm.trans g1) (hother k' _ x' f2 f3 g3)
      · exact absurd e1 g0
    · rcases hmu k' x' hx' with ⟨_, g1⟩ | ⟨g0, _⟩
      · rcases hmu k x hx with ⟨g2, _⟩ | ⟨_, g3⟩
        · exact absurd g2 e1
        · exact absurd (hb.trans g1) (hother k _ x e2 e3 g3)
      · exact absurd f1 g0
    · rcases hmu k x hx with ⟨g2, _⟩ | ⟨_, g3⟩
      · exact absurd g2 e1
      · rcases hmu k' x' hx' with ⟨g2, _⟩ | ⟨_, g4⟩
        · exact absurd g2 f1
        · exact h.inj k k' C C' x x' e3 hw f3 g3 g4 hb
end Go.AM

namespace Go.AM
open Go.RowKit
variable [Laid]
section
variable {α : Type} {r : α}
theorem asB_inv {v : Value} {K : Bool → Option α} (h : asB v K = some r) : ∃ b, v = .bool b ∧ K b = some r := by
  unfold asB at h; split at h
  · exact ⟨_, rfl, h⟩
  · cases h
theorem asI_inv {k : IntKind} {v : Value} {K : Int → Option α} (h : asI k v K = some r) : ∃ n, v = .int k n ∧ K n = some r := by
  unfold asI at h; split at h
  · split at h
    · rename_i e; subst e; exact ⟨_, rfl, h⟩
    · cases h
  · cases h
theorem asS_inv {v : Value} {K : ByteArray → Option α} (h : asS v K = some r) : ∃ s, v = .string s ∧ K s = some r := by
  unfold asS at h; split at h
  · exact ⟨_, rfl, h⟩
  · cases h
theorem asSl_inv {v : Value} {K : Option Addr → Nat → Nat → Option α} (h : asSl v K = some r) : ∃ a n z, v = .slice a n z ∧ K a n z = some r := by
  unfold asSl at h; split at h
  · exact ⟨_, _, _, rfl, h⟩
  · cases h
theorem asP_inv {v : Value} {K : Option Addr → Option α} (h : asP v K = some r) : ∃ a, v = .pointer a ∧ K a = some r := by
  unfold asP at h; split at h
  · exact ⟨_, rfl, h⟩
  · cases h
theorem asM_inv {v : Value} {K : Option Nat → Option α} (h : asM v K = some r) : ∃ a, v = .map a ∧ K a = some r := by
  unfold asM at h; split at h
  · exact ⟨_, rfl, h⟩
  · cases h
theorem need_inv {b : Bool} {K : Option α} (h : need b K = some r) : b = true ∧ K = some r := by
  cases b
  · cases h
  · exact ⟨rfl, h⟩
theorem asT_inv {v : Value} {K : List Value → Option α} (h : asT v K = some r) : ∃ A, v = .tuple A ∧ K A.toList = some r := by
  unfold asT at h; split at h
  · exact ⟨_, rfl, h⟩
  · cases h
theorem asAgL_inv {v : Value} {K : List Value → Option α} (h : asAgL v K = some r) : ∃ A, v = .agg A ∧ K A.toList = some r := by
  unfold asAgL at h; split at h
  · exact ⟨_, rfl, h⟩
  · cases h
theorem uncons_inv {l : List Value} {K : Value → List Value → Option α} (h : uncons l K = some r) : ∃ x m, l = x :: m ∧ K x m = some r := by
  unfold uncons at h; split at h
  · exact ⟨_, _, rfl, h⟩
  · cases h
theorem endl_inv {l : List Value} {K : Option α} (h : endl l K = some r) : l = [] ∧ K = some r := by
  unfold endl at h; split at h
  · exact ⟨rfl, h⟩
  · cases h
theorem adr_inv {a : Option Addr} {K : Nat → Nat → Option α} (h : adr a K = some r) : ∃ q o, a = some ⟨q, o, none⟩ ∧ K q o = some r := by
  unfold adr at h; split at h
  · exact ⟨_, _, rfl, h⟩
  · cases h
theorem chk_inv {v u : Value} {K : Option α} (h : chk v u K = some r) : v = u ∧ K = some r := by
  unfold chk at h; split at h
  · exact ⟨‹_›, h⟩
  · cases h
theorem br_inv {b : Bool} {x y : Option α} (h : br b x y = some r) : (b = true ∧ x = some r) ∨ (b = false ∧ y = some r) := by
  cases b
  · exact .inr ⟨rfl, h⟩
  · exact .inl ⟨rfl, h⟩
theorem bnd_inv {x : Res} {K : Value → St → Option α} (h : bnd x K = some r) : ∃ v σ, x = some (v, σ) ∧ K v σ = some r := by
  unfold bnd at h; split at h
  · exact ⟨_, _, rfl, h⟩
  · cases h
theorem ld_inv {σ : St} {q o : Nat} {K : Value → Option α} (h : σ.ld q o K = some r) : ∃ v, σ.cell q o = some v ∧ K v = some r := by
  unfold St.ld at h; split at h
  · exact ⟨_, ‹_›, h⟩
  · cases h
theorem lds_inv {σ : St} {q o n : Nat} {K : List Value → Option α} (h : σ.lds q o n K = some r) : ∃ vs, σ.cells q = some vs ∧ o + n ≤ vs.length ∧ K ((vs.drop o).take n) = some r := by
  unfold St.lds at h; split at h
  · rename_i vs hv
    by_cases hn : o + n ≤ vs.length
    · rw [show decide (o + n ≤ vs.length) = true by simpa using hn] at h
      exact ⟨vs, hv, hn, h⟩
    · rw [show decide (o + n ≤ vs.length) = false by simpa using hn] at h
      cases h
  · cases h
theorem nth_inv {cs : List Value} {i : Nat} {K : Value → Option α} (h : nth cs i K = some r) : ∃ v, cs[i]? = some v ∧ K v = some r := by
  unfold nth at h; split at h
  · exact ⟨_, ‹_›, h⟩
  · cases h
theorem eqNil_inv {v : Value} {K : Bool → Option α} (h : eqNil v K = some r) : (v = .nilIface ∧ K true = some r) ∨ (∃ t u, v = .iface t u ∧ K false = some r) := by
  unfold eqNil at h; split at h
  · exact .inl ⟨rfl, h⟩
  · exact .inr ⟨_, _, rfl, h⟩
  · cases h
theorem eqErr_inv {v : Value} {t : TypeId} {k : IntKind} {c : Int} {K : Bool → Option α} (h : eqErr v t k c K = some r) :
    (v = .nilIface ∧ K false = some r) ∨ (∃ n, v = .iface t (.int k n) ∧ K (n == c) = some r) ∨ (∃ t' u, v = .iface t' u ∧ t' ≠ t ∧ K false = some r) := by
  unfold eqErr at h; split at h
  · exact .inl ⟨rfl, h⟩
  · rename_i t' u
    by_cases e : t' = t
    · subst e
      rw [show Nat.beq t' t' = true by simp] at h
      have h0 : asI k u (fun n => K (n == c)) = some r := by simpa using h
      obtain ⟨n, e, h1⟩ := asI_inv h0
      subst e
      exact .inr (.inl ⟨n, rfl, h1⟩)
    · rw [nbeq_ne e] at h
      exact .inr (.inr ⟨t', u, rfl, e, by simpa using h⟩)
  · cases h
theorem eqPtr_inv {v : Value} {t : TypeId} {b : Addr} {K : Bool → Option α} (h : eqPtr v t b K = some r) :
    (v = .nilIface ∧ K false = some r) ∨ (∃ q o, v = .iface t (.pointer (some ⟨q, o, none⟩)) ∧ b = ⟨q, o, none⟩ ∧ K true = some r) ∨ (∃ t' u, v = .iface t' u ∧ t' ≠ t ∧ K false = some r) := by
  unfold eqPtr at h; split at h
  · exact .inl ⟨rfl, h⟩
  · rename_i t' u
    by_cases e : t' = t
    · subst e
      rw [show Nat.beq t' t' = true by simp] at h
      simp only [cond_true] at h
      split at h
      · rename_i q o q' o'
        by_cases e2 : (Nat.beq q q' && Nat.beq o o') = true
        · rw [e2] at h
          simp at e2
          obtain ⟨rfl, rfl⟩ := e2
          exact .inr (.inl ⟨q, o, rfl, rfl, by simpa using h⟩)
        · simp only [Bool.not_eq_true] at e2
          rw [e2] at h
          cases h
      · cases h
    · rw [nbeq_ne e] at h
      exact .inr (.inr ⟨t', u, rfl, e, by simpa using h⟩)
  · cases h
theorem asBy_inv {cs : List Value} {K : List UInt8 → Option α} (h : asBy cs K = some r) : ∃ l, bytesIn cs = some l ∧ K l = some r := by
  unfold asBy at h; split at h
  · exact ⟨_, ‹_›, h⟩
  · cases h
end
theorem asF_inv {r : Value × St} {v : Value} {K : FuncId → List Value → List Value → Res} (h : asF v K = some r) : ∃ f A B, v = .func (.func f) A B ∧ K f A.toList B.toList = some r := by
  unfold asF at h; split at h
  · exact ⟨_, _, _, rfl, h⟩
  · cases h
theorem asAg_inv {r : Value × St} {v : Value} {K : List Value → Res} (h : asAg v K = some r) : ∃ A, v = .agg A ∧ K A.toList = some r := by
  unfold asAg at h; split at h
  · exact ⟨_, rfl, h⟩
  · cases h
theorem asTu_inv {r : Value × St} {v : Value} {K : List Value → Res} (h : asTu v K = some r) : ∃ A, v = .tuple A ∧ K A.toList = some r := by
  unfold asTu at h; split at h
  · exact ⟨_, rfl, h⟩
  · cases h
theorem elOf_inv {α : Type} {r : α} {P : Program} {t : TypeId} {K : TypeId → Option α} (h : elOf P t K = some r) : ∃ e, P.underlying t = some (.slice e) ∧ K e = some r := by
  unfold elOf at h; split at h
  · exact ⟨_, ‹_›, h⟩
  · cases h
theorem fieldOf_inv {α : Type} {r : α} {P : Program} {t : TypeId} {f : Nat} {K : Nat → TypeId → Option α} (h : fieldOf P t f K = some r) : ∃ fs x, P.underlying t = some (.struct fs) ∧ fs[f]? = some x ∧ K x.offset x.type = some r := by
  unfold fieldOf at h; split at h
  · split at h
    · exact ⟨_, _, ‹_›, ‹_›, h⟩
    · cases h
  · cases h
theorem dstr0_inv {α : Type} {r : α} {k : Kd} {v : Value} {K : Value → Option α} (h : dstr0 k v K = some r) : K v = some r := by
  cases k <;> simp only [dstr0] at h
  case b => obtain ⟨_, rfl, h⟩ := asB_inv h; exact h
  case i => obtain ⟨_, e, h1⟩ := asI_inv h; subst e; exact h1
  case s => obtain ⟨_, rfl, h⟩ := asS_inv h; exact h
  case sl => obtain ⟨_, _, _, rfl, h⟩ := asSl_inv h; exact h
  case p => obtain ⟨_, rfl, h⟩ := asP_inv h; exact h
  case e => exact h
  case f => exact h
  case m => obtain ⟨_, rfl, h⟩ := asM_inv h; exact h
  all_goals cases h
theorem dstrC_inv {α : Type} {r : α} : ∀ {cs : List Nat} {vs : List Value} {K : List Value → Option α}, dstrC cs vs K = some r → K vs = some r
  | [], vs, K, h => by obtain ⟨rfl, h1⟩ := endl_inv h; exact h1
  | c :: cs, vs, K, h => by
    simp only [dstrC] at h
    obtain ⟨x, m, rfl, h1⟩ := uncons_inv h
    exact dstrC_inv (K := fun us => K (x :: us)) (dstr0_inv h1)
theorem dstrL_inv {α : Type} {r : α} {cs : List Nat} {vs : List Value} {K : List Value → Option α} (h : dstrL cs vs K = some r) : K vs = some r := by
  unfold dstrL at h
  cases hb : Nat.ble cs.length 12 with
  | true => rw [hb] at h; exact dstrC_inv h
  | false => rw [hb] at h; exact h
theorem dstr1_inv {α : Type} {r : α} {k : Kd} {v : Value} {K : Value → Option α} (h : dstr1 k v K = some r) : K v = some r := by
  unfold dstr1 at h
  split at h
  · obtain ⟨A, rfl, h1⟩ := asAgL_inv h
    have := dstrL_inv h1
    exact this
  · exact dstr0_inv h
theorem dstrs_inv {α : Type} {r : α} : ∀ {ts : List Kd} {vs : List Value} {K : List Value → Option α}, dstrs ts vs K = some r → K vs = some r
  | [], vs, K, h => by obtain ⟨rfl, h1⟩ := endl_inv h; exact h1
  | t :: ts, vs, K, h => by
    simp only [dstrs] at h
    obtain ⟨x, m, rfl, h1⟩ := uncons_inv h
    exact dstrs_inv (K := fun us => K (x :: us)) (dstr1_inv h1)
theorem dstr_inv {α : Type} {r : α} {P : Program} {t : TypeId} {v : Value} {K : Value → Option α} (h : dstr P t v K = some r) : K v = some r := by
  unfold dstr at h
  split at h
  · obtain ⟨A, rfl, h⟩ := asT_inv h
    have := dstrs_inv h
    exact this
  · exact dstr1_inv h
theorem plain1_rel (μ : Mp) : ∀ v, plain1 v = true → VRel μ v v := by
  intro v h
  cases v <;> simp only [plain1] at h <;> try (cases h; done)
  case bool b => exact .bool b
  case int k n => exact .int k n
  case string s => exact .string s
  case pointer a => cases a <;> simp at h; exact .ptr0
  case slice a n z =>
    cases a with
    | some a => simp at h
    | none =>
      cases n with
      | succ n => simp at h
      | zero => cases z with
        | zero => exact .sl0
        | succ z => simp at h
  case map r => cases r <;> simp at h; exact .map0
  case nilFunc => exact .nilFunc
  case nilIface => exact .nilIface
theorem plain_rel (μ : Mp) (v : Value) (h : plainV v = true) : VRel μ v v := by
  cases v
  case agg A =>
    refine .agg rfl fun i x y hx hy => ?_
    rw [hx] at hy
    cases hy
    exact plain1_rel μ x (List.all_eq_true.1 h x (List.mem_of_getElem? hx))
  all_goals exact plain1_rel μ _ h
def opT (x : Operand) : List Nat := match x with | .tmp t => [t] | _ => []
def slots (o : Oper) : List Nat := o.op.operands.toList.flatMap opT
def okOpnd (x : Operand) : Bool := match x with | .const v => plainV v | .global _ => false | _ => true
def okOper (o : Oper) : Bool := o.op.operands.toList.all okOpnd
theorem eval_of {a : Act} {t : Nat} {v : Value} (h : a.tmps[t]? = some v) : a.eval (.tmp t) = v := by simp [Act.eval, h]
theorem opnd_inv {α : Type} {r : α} {fr : Fr} {x : Operand} {K : Value → Option α} (hx : okOpnd x = true) (h : opnd fr x K = some r) :
    ∃ v, K v = some r ∧ ∀ (μ : Mp) (a : Act) (S : List Nat), (∀ t ∈ opT x, t ∈ S) → FrOn μ fr a S → VRel μ v (a.eval x) := by
  cases x with
  | tmp t =>
    simp only [opnd] at h
    split at h
    · rename_i v hv
      refine ⟨v, h, fun μ a S hs hf => ?_⟩
      obtain ⟨v', h1, h2⟩ := hf t (hs t (by simp [opT])) v hv
      rw [eval_of h1]
      exact h2
    · cases h
  | const v => exact ⟨v, h, fun μ a S _ _ => plain_rel μ v hx⟩
  | global g => cases hx
  | func f => exact ⟨_, h, fun μ a S _ _ => .func _ rfl (fun i x y h => by simp at h) rfl (fun i x y h => by simp at h)⟩
theorem opnds_inv {α : Type} {r : α} {fr : Fr} : ∀ {l : List Operand} {K : List Value → Option α}, l.all okOpnd = true → opnds fr l K = some r →
    ∃ vs, K vs = some r ∧ ∀ (μ : Mp) (a : Act) (S : List Nat), (∀ t ∈ l.flatMap opT, t ∈ S) → FrOn μ fr a S → LRel μ vs (l.map a.eval)
  | [], K, _, h => ⟨[], h, fun μ a S _ _ => .nil μ⟩
  | x :: l, K, hx, h => by
    simp only [List.all_cons, Bool.and_eq_true] at hx
    simp only [opnds] at h
    obtain ⟨v, h, hv⟩ := opnd_inv hx.1 h
    obtain ⟨vs, h, hvs⟩ := opnds_inv hx.2 h
    exact ⟨v :: vs, h, fun μ a S hs hf => .cons (hv μ a S (fun t ht => hs t (by simp [ht])) hf) (hvs μ a S (fun t ht => hs t (by simp only [List.flatMap_cons, List.mem_append]; exact .inr ht)) hf)⟩
def Ran (P : Program) (o : Oper) (fr : Fr) (σ : St) (v : Value) (σ' : St) : Prop :=
  ∀ (W : Base) (μ : Mp) (a : Act) (w : World), FrOn μ fr a (slots o) → Rel W μ σ w →
    ∃ n v' w' μ', (execOp a.eval o).run P w = .ok n w' ∧ (n = .value v' ∨ (n = .skip ∧ v' = undef)) ∧ μ.le μ' ∧ VRel μ' v v' ∧ Rel W μ' σ' w'
def Reckons (P : Program) (o : Oper) (fr : Fr) (v : Value) : Prop :=
  ∀ (μ : Mp) (a : Act) (w : World), FrOn μ fr a (slots o) → ∃ v', (execOp a.eval o).run P w = .ok (.value v') w ∧ VRel μ v v'
theorem Reckons.ran {P : Program} {o : Oper} {fr : Fr} {v : Value} (h : Reckons P o fr v) (σ : St) : Ran P o fr σ v σ := by
  intro W μ a w hf hr
  obtain ⟨v', h1, h2⟩ := h μ a w hf
  exact ⟨_, v', w, μ, h1, .inl rfl, Mp.le.refl μ, h2, hr⟩
def Sound (P : Program) (o : Oper) (fr : Fr) (σ : St) (v : Value) (σ' : St) : Prop :=
  ∀ (W : Base) (μ : Mp) (a : Act) (w : World), FrOn μ fr a (slots o) → Rel W μ σ w → ∀ (next : Act → World → Prop) (Q : Exit → Act → World → Prop),
    (∀ v' w' μ', μ.le μ' → VRel μ' v v' → Rel W μ' σ' w' → next (a.put o.dst v') w') → o.wp P a w next Q
theorem Ran.sound {P : Program} {o : Oper} {fr : Fr} {σ σ' : St} {v : Value} (h : Ran P o fr σ v σ') : Sound P o fr σ v σ' := by
  intro W μ a w hf hr next Q hn
  obtain ⟨n, v', w', μ', h1, h2, h3, h4, h5⟩ := h W μ a w hf hr
  unfold Oper.wp
  rw [h1]
  rcases h2 with rfl | ⟨rfl, rfl⟩
  · exact hn v' w' μ' h3 h4 h5
  · exact hn undef w' μ' h3 h4 h5
theorem info_of {P : Program} {t : TypeId} {d : TypeDesc} (h : P.underlying t = some d) : ∃ i, P.info? t = some i := by
  unfold Program.underlying at h
  cases hi : P.info? t with
  | none => rw [hi] at h; cases h
  | some i => exact ⟨i, rfl⟩
theorem szOf_eq {P : Program} {t : TypeId} {i : TypeInfo} (h : P.info? t = some i) : szOf P t = i.size := by simp [szOf, h]
theorem bytesOf_eq {P : Program} {t : TypeId} {i : TypeInfo} (h : P.info? t = some i) : bytesOf P t = i.bytes := by simp [bytesOf, h]
theorem zeroOf_inv {P : Program} {t : TypeId} {z : Value} (h : zeroOf P t = some z) : ∃ i, P.info? t = some i ∧ i.zero = some z ∧ plainV z = true := by
  unfold zeroOf at h
  split at h
  · rename_i i hi
    split at h
    · rename_i z' hz
      cases hp : plainV z' with
      | true => rw [hp] at h; simp at h; subst h; exact ⟨i, hi, hz, hp⟩
      | false => rw [hp] at h; simp at h
    · cases h
  · cases h
theorem szOf_pos {P : Program} {t : TypeId} (h : 0 < szOf P t) : ∃ i, P.info? t = some i ∧ i.size = szOf P t := by
  unfold szOf at *
  split at h
  · rename_i i hi; exact ⟨i, hi, rfl⟩
  · omega
theorem execOp_eq {ρ : Operand → Value} {o : Oper} {op : Op} (h : o.op = op) : execOp ρ o = execOp ρ { o with op := op } := by subst h; rfl
end Go.AM

namespace Go.AM
open Go.RowKit
variable [Laid]
section
variable {P : Program} {o : Oper} {fr : Fr} {r : Value × St}
theorem addr_add (b o n : Nat) : (⟨b, o, none⟩ : Addr).add n = ⟨b, o + n, none⟩ := by unfold Addr.add; split <;> simp_all
theorem op_move {x : Operand} {K : Value → Res} (ho : o.op = .move x ∨ o.op = .assign x) (hx : okOpnd x = true) (h : opnd fr x K = some r) :
    ∃ v, K v = some r ∧ Reckons P o fr v := by
  obtain ⟨v, h, hv⟩ := opnd_inv hx h
  refine ⟨v, h, fun μ a w hf => ⟨a.eval x, ?_, hv μ a (slots o) ?_ hf⟩⟩
  · rcases ho with ho | ho <;> simp [execOp, ho]
  · rcases ho with ho | ho <;> (intro t ht; simp only [slots, ho, Op.operands]; simpa using ht)
theorem op_pick {c x y : Operand} {K : Value → Res} (ho : o.op = .pick c x y) (hc : okOpnd c = true) (hx : okOpnd x = true) (hy : okOpnd y = true)
    (h : opnd fr c (fun cv => asB cv fun t => br t (opnd fr x K) (opnd fr y K)) = some r) : ∃ v, K v = some r ∧ Reckons P o fr v := by
  obtain ⟨cv, h, hcv⟩ := opnd_inv hc h
  obtain ⟨b, rfl, h⟩ := asB_inv h
  have hs : ∀ z, z = c ∨ z = x ∨ z = y → ∀ t ∈ opT z, t ∈ slots o := by
    intro z hz t ht
    simp only [slots, ho, Op.operands, List.flatMap_cons, List.flatMap_nil, List.append_nil, List.mem_append]
    rcases hz with rfl | rfl | rfl
    · exact .inl ht
    · exact .inr (.inl ht)
    · exact .inr (.inr ht)
  have hcb : ∀ μ a, FrOn μ fr a (slots o) → a.eval c = .bool b := fun μ a hf => by
    exact (hcv μ a (slots o) (hs c (.inl rfl)) hf).bool_inv
  rcases br_inv h with ⟨rfl, h⟩ | ⟨rfl, h⟩
  · obtain ⟨v, h, hv⟩ := opnd_inv hx h
    exact ⟨v, h, fun μ a w hf => ⟨a.eval x, by simp [execOp, ho, hcb μ a hf, asBool], hv μ a (slots o) (hs x (.inr (.inl rfl))) hf⟩⟩
  · obtain ⟨v, h, hv⟩ := opnd_inv hy h
    exact ⟨v, h, fun μ a w hf => ⟨a.eval y, by simp [execOp, ho, hcb μ a hf, asBool], hv μ a (slots o) (hs y (.inr (.inr rfl))) hf⟩⟩
theorem op_nilCheck {x : Operand} {σ : St} {K : Value → St → Res} (ho : o.op = .nilCheck x) (hx : okOpnd x = true)
    (h : opnd fr x (fun v => match v with
      | .pointer a => adr a fun r o => K (.pointer (some ⟨r, o, none⟩)) σ
      | .func (.func f) fs cs => K (.func (.func f) fs cs) σ
      | .iface t v => K (.iface t v) σ
      | _ => none) = some r) : ∃ v, K v σ = some r ∧ Reckons P o fr v := by
  obtain ⟨v, h, hv⟩ := opnd_inv hx h
  have hs : ∀ t ∈ opT x, t ∈ slots o := by intro t ht; simp only [slots, ho, Op.operands]; simpa using ht
  cases v <;> try (cases h; done)
  case pointer ad =>
    obtain ⟨q, off, rfl, h⟩ := adr_inv h
    refine ⟨_, h, fun μ a w hf => ?_⟩
    have := hv μ a (slots o) hs hf
    generalize hg : a.eval x = u at this
    cases this with | ptr hp => exact ⟨_, by simp [execOp, ho, hg], .ptr hp⟩
  case func f A B =>
    cases f <;> try (cases h; done)
    refine ⟨_, h, fun μ a w hf => ?_⟩
    have := hv μ a (slots o) hs hf
    obtain ⟨A', B', hg, h1, h2⟩ := this.func_inv
    exact ⟨_, by simp [execOp, ho, hg], .func _ h1.1 h1.2 h2.1 h2.2⟩
  case iface t v =>
    refine ⟨_, h, fun μ a w hf => ?_⟩
    have := hv μ a (slots o) hs hf
    generalize hg : a.eval x = u at this
    cases this with | iface _ hu => exact ⟨_, by simp [execOp, ho, hg], .iface t hu⟩
theorem op_makeInterface {x : Operand} {t : TypeId} {K : Value → Res} (ho : o.op = .makeInterface t x) (hx : okOpnd x = true)
    (h : opnd fr x (fun v => need (match P.underlying t with | some (.interface _) => false | some _ => true | none => false) (K (.iface t v))) = some r) : ∃ v, K v = some r ∧ Reckons P o fr v := by
  obtain ⟨v, h, hv⟩ := opnd_inv hx h
  obtain ⟨hb, h⟩ := need_inv h
  have hs : ∀ t ∈ opT x, t ∈ slots o := by intro t ht; simp only [slots, ho, Op.operands]; simpa using ht
  refine ⟨_, h, fun μ a w hf => ⟨.iface t (a.eval x), ?_, .iface t (hv μ a (slots o) hs hf)⟩⟩
  cases hu : P.underlying t with
  | none => rw [hu] at hb; cases hb
  | some d =>
    rw [hu] at hb
    cases d <;> first | (simp at hb; done) | simp [execOp, ho, Instr.makeInterface, run_underlying hu]
theorem op_makeFunc {fn : Fn} {xs ys : Array Operand} {K : Value → Res} (ho : o.op = .makeFunc fn xs ys) (hx : xs.toList.all okOpnd = true) (hy : ys.toList.all okOpnd = true)
    (h : opnds fr xs.toList (fun us => opnds fr ys.toList fun vs => K (.func fn us.toArray vs.toArray)) = some r) : ∃ v, K v = some r ∧ Reckons P o fr v := by
  obtain ⟨us, h, hu⟩ := opnds_inv hx h
  obtain ⟨vs, h, hv⟩ := opnds_inv hy h
  refine ⟨_, h, fun μ a w hf => ⟨.func fn (xs.map a.eval) (ys.map a.eval), by simp [execOp, ho, Instr.makeFunc], ?_⟩⟩
  have h1 := hu μ a (slots o) (by intro t ht; simp only [slots, ho, Op.operands, Array.toList_append, List.flatMap_append, List.mem_append]; exact .inl ht) hf
  have h2 := hv μ a (slots o) (by intro t ht; simp only [slots, ho, Op.operands, Array.toList_append, List.flatMap_append, List.mem_append]; exact .inr ht) hf
  exact .func fn (by simpa using h1.1) (by simpa using h1.2) (by simpa using h2.1) (by simpa using h2.2)
theorem op_extract {x : Operand} {i : Nat} {K : Value → Res} (ho : o.op = .extract x i) (hx : okOpnd x = true)
    (h : opnd fr x (fun v => asTu v fun vs => nth vs i fun u => dstr P o.type u K) = some r) : ∃ v, K v = some r ∧ Reckons P o fr v := by
  obtain ⟨v, h, hv⟩ := opnd_inv hx h
  obtain ⟨A, rfl, h⟩ := asTu_inv h
  obtain ⟨u, hu, h0⟩ := nth_inv h
  have h := dstr_inv h0
  have hs : ∀ t ∈ opT x, t ∈ slots o := by intro t ht; simp only [slots, ho, Op.operands]; simpa using ht
  refine ⟨u, h, fun μ a w hf => ?_⟩
  obtain ⟨B, hB, hl⟩ := (hv μ a (slots o) hs hf).tuple_inv
  obtain ⟨u', hu', hr⟩ := hl.get hu
  exact ⟨u', by rw [Array.getElem?_toList] at hu'; simp [execOp, ho, hB, Instr.extract, hu'], hr⟩
theorem op_unOp {x : Operand} {op : UnOp} {t : TypeId} {K : Value → Res} (ho : o.op = .unOp op t x) (hx : okOpnd x = true)
    (h : opnd fr x (fun v => aUn op v K) = some r) : ∃ v, K v = some r ∧ Reckons P o fr v := by
  obtain ⟨v, h1, hv⟩ := opnd_inv hx h
  have hs : ∀ t ∈ opT x, t ∈ slots o := by intro t ht; simp only [slots, ho, Op.operands]; simpa using ht
  cases op <;> cases v <;> simp only [aUn] at h1 <;> try (cases h1; done)
  · exact ⟨_, h1, fun μ a w hf => ⟨_, by rw [execOp_eq ho]; simp only [execOp, (hv μ a (slots o) hs hf).int_inv]; rfl, .int _ _⟩⟩
  · exact ⟨_, h1, fun μ a w hf => ⟨_, by rw [execOp_eq ho]; simp only [execOp, (hv μ a (slots o) hs hf).int_inv]; rfl, .int _ _⟩⟩
  · exact ⟨_, h1, fun μ a w hf => ⟨_, by rw [execOp_eq ho]; simp only [execOp, (hv μ a (slots o) hs hf).bool_inv]; rfl, .bool _⟩⟩
theorem op_fieldAddr {x : Operand} {t : TypeId} {f : Nat} {K : Value → Res} (ho : o.op = .fieldAddr t x f) (hx : okOpnd x = true)
    (h : opnd fr x (fun v => asP v fun a => adr a fun r o => fieldOf P t f fun off ft => need (decide (0 < szOf P ft)) (K (.pointer (some ⟨r, o + off, none⟩)))) = some r) :
    ∃ v, K v = some r ∧ Reckons P o fr v := by
  obtain ⟨v, h1, hv⟩ := opnd_inv hx h
  obtain ⟨ad, e1, h2⟩ := asP_inv h1
  subst e1
  obtain ⟨q, off, e2, h3⟩ := adr_inv h2
  subst e2
  obtain ⟨fs, fd, hu, hfd, h4⟩ := fieldOf_inv h3
  obtain ⟨hb, h5⟩ := need_inv h4
  obtain ⟨i, hi, hsz⟩ := szOf_pos (P := P) (t := fd.type) (by simpa using hb)
  have hs : ∀ t ∈ opT x, t ∈ slots o := by intro t ht; simp only [slots, ho, Op.operands]; simpa using ht
  refine ⟨_, h5, fun μ a w hf => ?_⟩
  obtain ⟨p, hp, hg⟩ := (hv μ a (slots o) hs hf).ptr_inv
  have hne : i.size ≠ 0 := by rw [hsz]; simp at hb; omega
  refine ⟨.pointer (some ⟨p.b, p.s + (off + fd.offset), none⟩), ?_, .ptr hp⟩
  simp [execOp, ho, hg, Instr.fieldAt, run_underlying hu, hfd, Instr.sureAddr, fieldPlace, sizeOf, typeInfo, hi, hne, addr_add, Nat.add_assoc]
theorem part_inv {t : TypeId} {cs : List Value} {off : Nat} {K : Value → Res} (h : aPart P t cs off K = some r) :
    ∃ v, K v = some r ∧ ∀ (μ : Mp) (w : World) (cs' : List Value), LRel μ cs cs' → ∃ v', (part t cs'.toArray off).run P w = .ok v' w ∧ VRel μ v v' := by
  unfold aPart at h
  cases hag : isAg P t with
  | true =>
    rw [hag] at h
    obtain ⟨hb, h⟩ := need_inv (by simpa using h)
    have hbd : off + szOf P t ≤ cs.length := by simpa using hb
    refine ⟨_, h, fun μ w cs' hl => ?_⟩
    have hu : ∃ d, P.underlying t = some d ∧ (match d with | .struct _ | .array _ _ => true | _ => false) = true := by
      unfold isAg at hag
      split at hag
      · exact ⟨_, ‹_›, rfl⟩
      · exact ⟨_, ‹_›, rfl⟩
      · cases hag
    obtain ⟨d, hu, hd⟩ := hu
    obtain ⟨i, hi⟩ := info_of hu
    have hsz := szOf_eq hi
    have hagg : (isAgg t).run P w = .ok true w := by
      unfold isAgg
      rw [Sem.run_bind, run_underlying hu w]
      cases d <;> simp_all
    refine ⟨.agg ((cs'.drop off).take (szOf P t)).toArray, ?_, LRel.agg (by simpa using (hl.drop off).take (szOf P t))⟩
    simp only [part, Sem.run_bind, hagg, Result.andThen_ok, if_true]
    simp [sizeOf, typeInfo, hi, hsz]
    try simp [List.extract_eq_take_drop]
  | false =>
    rw [hag] at h
    obtain ⟨v, hv, h⟩ := nth_inv (by simpa using h)
    have hnag : ∃ d, P.underlying t = some d ∧ (match d with | .struct _ | .array _ _ => true | _ => false) = false := by
      cases hu : P.underlying t with
      | none => simp [dstr, kd, hu, dstr1, dstr0] at h
      | some d => refine ⟨d, rfl, ?_⟩; simp only [isAg, hu] at hag; cases d <;> simp_all
    have h := dstr_inv h
    refine ⟨v, h, fun μ w cs' hl => ?_⟩
    obtain ⟨v', hv', hr⟩ := hl.get hv
    refine ⟨v', ?_, hr⟩
    have hkd : ∃ d, P.underlying t = some d ∧ (match d with | .struct _ | .array _ _ => true | _ => false) = false := hnag
    obtain ⟨d, hu, hd⟩ := hkd
    have hagg : (isAgg t).run P w = .ok false w := by
      unfold isAgg
      rw [Sem.run_bind, run_underlying hu w]
      cases d <;> simp_all
    simp only [part, Sem.run_bind, hagg, Result.andThen_ok, Bool.false_eq_true, if_false]
    simp [hv']
end
end Go.AM

namespace Go.AM
open Go.RowKit
variable [Laid]
section
variable {P : Program} {o : Oper} {fr : Fr} {r : Value × St}
theorem op_field {x : Operand} {t : TypeId} {f : Nat} {K : Value → Res} (ho : o.op = .field t x f) (hx : okOpnd x = true)
    (h : opnd fr x (fun v => asAg v fun cs => fieldOf P t f fun off ft => aPart P ft cs off K) = some r) : ∃ v, K v = some r ∧ Reckons P o fr v := by
  obtain ⟨v, h1, hv⟩ := opnd_inv hx h
  obtain ⟨A, e1, h2⟩ := asAg_inv h1
  subst e1
  obtain ⟨fs, fd, hu, hfd, h3⟩ := fieldOf_inv h2
  have hs : ∀ t ∈ opT x, t ∈ slots o := by intro t ht; simp only [slots, ho, Op.operands]; simpa using ht
  obtain ⟨u, h4, hu4⟩ := part_inv h3
  refine ⟨u, h4, fun μ a w hf => ?_⟩
  obtain ⟨B, hB, hl⟩ := (hv μ a (slots o) hs hf).agg_inv
  obtain ⟨v', h5, h6⟩ := hu4 μ w B.toList hl
  exact ⟨v', by simpa [execOp, ho, hB, Instr.field, run_underlying hu, hfd, asAgg] using congrArg (fun x => x.andThen fun a w => Result.ok (Next.value a) w) h5, h6⟩
theorem op_indexAddr {x i : Operand} {t : TypeId} {K : Value → Res} (ho : o.op = .indexAddr t x i) (hx : okOpnd x = true) (hi : okOpnd i = true)
    (h : opnd fr x (fun v => opnd fr i fun j => aIndexAddr P t v j K) = some r) : ∃ v, K v = some r ∧ Reckons P o fr v := by
  obtain ⟨v, h1, hv⟩ := opnd_inv hx h
  obtain ⟨j, h2, hj⟩ := opnd_inv hi h1
  have hs : ∀ t ∈ opT x, t ∈ slots o := by intro t ht; simp only [slots, ho, Op.operands, List.flatMap_cons, List.flatMap_nil, List.append_nil, List.mem_append]; exact .inl ht
  have hs2 : ∀ t ∈ opT i, t ∈ slots o := by intro t ht; simp only [slots, ho, Op.operands, List.flatMap_cons, List.flatMap_nil, List.append_nil, List.mem_append]; exact .inr ht
  unfold aIndexAddr at h2
  split at h2
  · rename_i k n
    split at h2
    · rename_i e ad m z hu
      obtain ⟨hsz, h2'⟩ := need_inv h2
      obtain ⟨hb, h3⟩ := need_inv h2'
      obtain ⟨q, off, e1, h4⟩ := adr_inv h3
      subst e1
      have hr : 0 ≤ n ∧ n < (m : Int) := by simpa [inRange] using hb
      obtain ⟨ie, hie, hse⟩ := szOf_pos (P := P) (t := e) (by simpa using hsz)
      refine ⟨_, h4, fun μ a w hf => ?_⟩
      obtain ⟨p, o', c, hp, hg, hn, hc, hz, hm⟩ := (hv μ a (slots o) hs hf).sl_inv (by omega)
      have hgi := (hj μ a (slots o) hs2 hf).int_inv
      have hoff : o' = p.s + off := by rcases hc with hc | hc; omega; exact hc
      subst hoff
      refine ⟨.pointer (some ⟨p.b, p.s + (off + n.toNat * szOf P e), none⟩), ?_, .ptr hp⟩
      simp [execOp, ho, hg, hgi, Instr.indexAt, asIntOf, run_underlying hu, hr.1, hr.2, sizeOf, typeInfo, hie, hse, addr_add, Nat.add_assoc]
    · rename_i m e ad hu
      obtain ⟨hsz, h2'⟩ := need_inv h2
      obtain ⟨hb, h3⟩ := need_inv h2'
      obtain ⟨q, off, e1, h4⟩ := adr_inv h3
      subst e1
      have hr : 0 ≤ n ∧ n < (m : Int) := by simpa [inRange] using hb
      obtain ⟨ie, hie, hse⟩ := szOf_pos (P := P) (t := e) (by simpa using hsz)
      refine ⟨_, h4, fun μ a w hf => ?_⟩
      obtain ⟨p, hp, hg⟩ := (hv μ a (slots o) hs hf).ptr_inv
      have hgi := (hj μ a (slots o) hs2 hf).int_inv
      refine ⟨.pointer (some ⟨p.b, p.s + (off + n.toNat * szOf P e), none⟩), ?_, .ptr hp⟩
      simp [execOp, ho, hg, hgi, Instr.indexAt, Instr.sureAddr, asIntOf, run_underlying hu, hr.1, hr.2, sizeOf, typeInfo, hie, hse, addr_add, Nat.add_assoc]
    · cases h2
  · cases h2
theorem op_index {x i : Operand} {t : TypeId} {K : Value → Res} (ho : o.op = .index t x i) (hx : okOpnd x = true) (hi : okOpnd i = true)
    (h : opnd fr x (fun v => opnd fr i fun j => aIndex P t v j K) = some r) : ∃ v, K v = some r ∧ Reckons P o fr v := by
  obtain ⟨v, h1, hv⟩ := opnd_inv hx h
  obtain ⟨j, h2, hj⟩ := opnd_inv hi h1
  have hs : ∀ t ∈ opT x, t ∈ slots o := by intro t ht; simp only [slots, ho, Op.operands, List.flatMap_cons, List.flatMap_nil, List.append_nil, List.mem_append]; exact .inl ht
  have hs2 : ∀ t ∈ opT i, t ∈ slots o := by intro t ht; simp only [slots, ho, Op.operands, List.flatMap_cons, List.flatMap_nil, List.append_nil, List.mem_append]; exact .inr ht
  unfold aIndex at h2
  split at h2
  · rename_i k n
    split at h2
    · rename_i m e A hu
      obtain ⟨hsz, h2'⟩ := need_inv h2
      obtain ⟨hb, h3⟩ := need_inv h2'
      have hr : 0 ≤ n ∧ n < (m : Int) := by simpa [inRange] using hb
      obtain ⟨ie, hie, hse⟩ := szOf_pos (P := P) (t := e) (by simpa using hsz)
      obtain ⟨u, h4, hu4⟩ := part_inv h3
      refine ⟨u, h4, fun μ a w hf => ?_⟩
      obtain ⟨B, hB, hl⟩ := (hv μ a (slots o) hs hf).agg_inv
      have hgi := (hj μ a (slots o) hs2 hf).int_inv
      obtain ⟨v', h5, h6⟩ := hu4 μ w B.toList hl
      refine ⟨v', ?_, h6⟩
      simpa [execOp, ho, hB, hgi, Instr.index, asIntOf, run_underlying hu, hr.1, hr.2, sizeOf, typeInfo, hie, hse] using congrArg (fun x => x.andThen fun a w => Result.ok (Next.value a) w) h5
    · rename_i s hu
      obtain ⟨hb, h3⟩ := need_inv h2
      have hr : 0 ≤ n ∧ n < (s.size : Int) := by simpa [inRange] using hb
      refine ⟨_, h3, fun μ a w hf => ?_⟩
      have hg := (hv μ a (slots o) hs hf).string_inv
      have hgi := (hj μ a (slots o) hs2 hf).int_inv
      refine ⟨.int .u8 (s.data.toList.getD n.toNat 0).toNat, ?_, .int _ _⟩
      have hlt : n.toNat < s.size := by omega
      have hlt' : n.toNat < s.data.size := hlt
      have hget : s[n.toNat]? = some s[n.toNat] := ByteArray.getElem?_lt' s n.toNat hlt
      have hval : s.data.toList.getD n.toNat 0 = s[n.toNat] := by
        rw [List.getD_eq_getElem?_getD, Array.getElem?_toList, Array.getElem?_eq_getElem hlt']
        rfl
      rw [hval]
      simp [execOp, ho, hg, hgi, Instr.index, asIntOf, run_underlying hu, hr.1, hget]
    · cases h2
  · cases h2
theorem bound_inv {v : Option Value} {top d : Nat} {K : Nat → Res} (h : bound v top d K = some r) :
    ∃ n, K n = some r ∧ ((v = none ∧ n = d) ∨ ∃ k i, v = some (.int k i) ∧ 0 ≤ i ∧ i ≤ top ∧ n = i.toNat) := by
  unfold bound at h
  split at h
  · exact ⟨d, h, .inl ⟨rfl, rfl⟩⟩
  · rename_i k i
    obtain ⟨hb, h1⟩ := need_inv h
    have : 0 ≤ i ∧ i < (top : Int) + 1 := by simpa [inRange] using hb
    exact ⟨_, h1, .inr ⟨k, i, rfl, this.1, by omega, rfl⟩⟩
  · cases h
theorem optOpnd_inv {x : Option Operand} {K : Option Value → Res} (hx : x.toList.all okOpnd = true) (h : optOpnd fr x K = some r) :
    ∃ v, K v = some r ∧ ∀ (μ : Mp) (a : Act) (S : List Nat), (∀ t ∈ x.toList.flatMap opT, t ∈ S) → FrOn μ fr a S →
      (v = none ∧ x.map a.eval = none) ∨ (∃ u u', v = some u ∧ x.map a.eval = some u' ∧ VRel μ u u') := by
  cases x with
  | none => exact ⟨none, h, fun _ _ _ _ _ => .inl ⟨rfl, rfl⟩⟩
  | some x =>
    simp only [optOpnd] at h
    obtain ⟨v, h1, hv⟩ := opnd_inv (by simpa using hx) h
    exact ⟨some v, h1, fun μ a S hs hf => .inr ⟨v, a.eval x, rfl, rfl, hv μ a S (by simpa using hs) hf⟩⟩
theorem run_bound {v u : Option Value} {μ : Mp} {top top' d n : Nat} (w : World) (code : BoundsCode)
    (hv : (v = none ∧ u = none) ∨ (∃ x x', v = some x ∧ u = some x' ∧ VRel μ x x'))
    (h : (v = none ∧ n = d) ∨ ∃ k i, v = some (.int k i) ∧ 0 ≤ i ∧ i ≤ (top : Int) ∧ n = i.toNat) (ht : top ≤ top') :
    (u = none ∧ n = d) ∨ ∃ x, u = some x ∧ (Instr.sliceBound x top' code).run P w = .ok n w ∧ n ≤ top := by
  rcases h with ⟨h1, h2⟩ | ⟨k, i, h1, h2, h3, h4⟩
  · rcases hv with ⟨_, hu⟩ | ⟨x, x', hx, _⟩
    · exact .inl ⟨hu, h2⟩
    · rw [h1] at hx; cases hx
  · rcases hv with ⟨hn, _⟩ | ⟨x, x', hx, hu, hr⟩
    · rw [h1] at hn; cases hn
    · rw [h1] at hx
      cases hx
      have := hr.int_inv
      subst this
      refine .inr ⟨_, hu, ?_, by omega⟩
      rw [run_sliceBound w k i top' code h2 (by omega), h4]
theorem op_slice {x : Operand} {lo hi mx : Option Operand} {t : TypeId} {K : Value → Res} (ho : o.op = .slice t x lo hi mx) (hx : okOpnd x = true)
    (hlo : lo.toList.all okOpnd = true) (hhi : hi.toList.all okOpnd = true) (hmx : mx.toList.all okOpnd = true)
    (h : opnd fr x (fun v => optOpnd fr lo fun a => optOpnd fr hi fun b => optOpnd fr mx fun c => aSlice P t v a b c K) = some r) : ∃ v, K v = some r ∧ Reckons P o fr v := by
  obtain ⟨v, h1, hv⟩ := opnd_inv hx h
  obtain ⟨vl, h2, hvl⟩ := optOpnd_inv hlo h1
  obtain ⟨vh, h3, hvh⟩ := optOpnd_inv hhi h2
  obtain ⟨vm, h4, hvm⟩ := optOpnd_inv hmx h3
  have hsl : ∀ t, t ∈ opT x ∨ t ∈ lo.toList.flatMap opT ∨ t ∈ hi.toList.flatMap opT ∨ t ∈ mx.toList.flatMap opT → t ∈ slots o := by
    intro t ht
    simp only [slots, ho, Op.operands, Array.toList_append, List.flatMap_append, List.mem_append, List.flatMap_cons, List.flatMap_nil, List.append_nil]
    have e : ∀ z : Option Operand, z.toArray.toList = z.toList := fun z => by cases z <;> rfl
    simp only [e]
    rcases ht with h | h | h | h
    · exact .inl (.inl (.inl h))
    · exact .inl (.inl (.inr h))
    · exact .inl (.inr h)
    · exact .inr h
  unfold aSlice at h4
  split at h4
  · rename_i s hu
    split at h4
    · obtain ⟨nh, h5, hnh⟩ := bound_inv h4
      obtain ⟨nl, h6, hnl⟩ := bound_inv h5
      refine ⟨_, h6, fun μ a w hf => ?_⟩
      have hg := (hv μ a (slots o) (fun t ht => hsl t (.inl ht)) hf).string_inv
      have bl := hvl μ a (slots o) (fun t ht => hsl t (.inr (.inl ht))) hf
      have bh := hvh μ a (slots o) (fun t ht => hsl t (.inr (.inr (.inl ht)))) hf
      have bm := hvm μ a (slots o) (fun t ht => hsl t (.inr (.inr (.inr ht)))) hf
      have hm0 : mx.map a.eval = none := by rcases bm with ⟨_, h⟩ | ⟨_, _, h, _⟩; exact h; cases h
      have rh := run_bound (P := P) (top' := s.size) w .sliceAlen bh hnh (Nat.le_refl _)
      have rl := run_bound (P := P) (top' := nh) w .sliceB bl hnl (Nat.le_refl _)
      refine ⟨.string (s.extract nl nh), ?_, .string _⟩
      have hxe : (Instr.sliceAt t (.string s) (lo.map a.eval) (hi.map a.eval) none).run P w = .ok (.string (s.extract nl nh)) w := by
        rcases rh with ⟨e1, e2⟩ | ⟨y, e1, e2, e3⟩ <;> rcases rl with ⟨f1, f2⟩ | ⟨z, f1, f2, f3⟩
        · subst e2; subst f2; simp [Instr.sliceAt, Instr.slice, run_underlying hu, Instr.sliceBounds, e1, f1]
        · subst e2; simp [Instr.sliceAt, Instr.slice, run_underlying hu, Instr.sliceBounds, e1, f1, f2]
        · subst f2; simp [Instr.sliceAt, Instr.slice, run_underlying hu, Instr.sliceBounds, e1, f1, e2]
        · simp [Instr.sliceAt, Instr.slice, run_underlying hu, Instr.sliceBounds, e1, f1, e2, f2]
      simp [execOp, ho, hg, hm0, hxe]
    · cases h4
  · rename_i e ad n z hu
    obtain ⟨hmh, h4z⟩ := need_inv h4
    obtain ⟨hsz, h4a⟩ := need_inv h4z
    obtain ⟨hzb, h4b⟩ := need_inv h4a
    obtain ⟨nm, h5, hnm⟩ := bound_inv h4b
    obtain ⟨nh, h6, hnh⟩ := bound_inv h5
    obtain ⟨nl, h7, hnl⟩ := bound_inv h6
    obtain ⟨ie, hie, hse⟩ := szOf_pos (P := P) (t := e) (by simpa using hsz)
    have hz : z = 0 ∨ z = szOf P e := by
      have : Nat.beq z 0 = true ∨ Nat.beq z (szOf P e) = true := by simpa using hzb
      rcases this with h | h
      · exact .inl (Nat.eq_of_beq_eq_true h)
      · exact .inr (Nat.eq_of_beq_eq_true h)
    refine ⟨_, h7, fun μ a w hf => ?_⟩
    have bl := hvl μ a (slots o) (fun t ht => hsl t (.inr (.inl ht))) hf
    have bh := hvh μ a (slots o) (fun t ht => hsl t (.inr (.inr (.inl ht)))) hf
    have bm := hvm μ a (slots o) (fun t ht => hsl t (.inr (.inr (.inr ht)))) hf
    have hv' := hv μ a (slots o) (fun t ht => hsl t (.inl ht)) hf
    have main : ∀ (b : Option Addr) (c : Nat), n ≤ c → ∃ M, nm ≤ M ∧ M ≤ c ∧ nh ≤ nm ∧ nl ≤ nh ∧
        (Instr.sliceAt t (.slice b n c) (lo.map a.eval) (hi.map a.eval) (mx.map a.eval)).run P w = .ok (.slice (if M = nl then b else b.map (·.add (nl * szOf P e))) (nh - nl) (M - nl)) w := by
      intro b c hnc
      have rl := run_bound (P := P) (top' := nh) w .sliceB bl hnl (Nat.le_refl _)
      have rl3 := run_bound (P := P) (top' := nh) w .slice3C bl hnl (Nat.le_refl _)
      have hnl' : nl ≤ nh := by rcases rl with ⟨_, e2⟩ | ⟨_, _, _, e3⟩ <;> omega
      have rm := run_bound (P := P) (top' := c) w .slice3Acap bm hnm hnc
      rcases rm with ⟨m1, m2⟩ | ⟨ym, m1, m2, m3⟩
      · have rh := run_bound (P := P) (top' := c) w .sliceAcap bh hnh (by omega)
        refine ⟨c, by omega, Nat.le_refl _, by rcases rh with ⟨_, e2⟩ | ⟨_, _, _, e3⟩ <;> omega, hnl', ?_⟩
        rcases rh with ⟨e1, e2⟩ | ⟨y, e1, e2, e3⟩ <;> rcases rl with ⟨f1, f2⟩ | ⟨z', f1, f2, f3⟩
        · subst e2; subst f2; simp [Instr.sliceAt, Instr.slice, run_underlying hu, Instr.sliceBounds, m1, e1, f1, sizeOf, typeInfo, hie, hse]
        · subst e2; simp [Instr.sliceAt, Instr.slice, run_underlying hu, Instr.sliceBounds, m1, e1, f1, f2, sizeOf, typeInfo, hie, hse]
        · subst f2; simp [Instr.sliceAt, Instr.slice, run_underlying hu, Instr.sliceBounds, m1, e1, f1, e2, sizeOf, typeInfo, hie, hse]
        · simp [Instr.sliceAt, Instr.slice, run_underlying hu, Instr.sliceBounds, m1, e1, f1, e2, f2, sizeOf, typeInfo, hie, hse]
      · have rh := run_bound (P := P) (top' := nm) w .slice3B bh hnh (Nat.le_refl _)
        have hvm' : ∃ x, vm = some x := by
          rcases bm with ⟨_, e⟩ | ⟨x, _, e, _, _⟩
          · rw [e] at m1; cases m1
          · exact ⟨x, e⟩
        obtain ⟨xm, hxm⟩ := hvm'
        rcases rh with ⟨e1, e2⟩ | ⟨y, e1, e2, e3⟩
        · exfalso
          rcases bh with ⟨e, _⟩ | ⟨x, x', e, e', _⟩
          · rw [hxm, e] at hmh; simp at hmh
          · rw [e1] at e'; cases e'
        · refine ⟨nm, Nat.le_refl _, by omega, e3, hnl', ?_⟩
          rcases rl3 with ⟨f1, f2⟩ | ⟨z', f1, f2, f3⟩
          · subst f2; simp [Instr.sliceAt, Instr.slice, run_underlying hu, Instr.sliceBounds, m1, m2, e1, f1, e2, sizeOf, typeInfo, hie, hse]
          · simp [Instr.sliceAt, Instr.slice, run_underlying hu, Instr.sliceBounds, m1, m2, e1, f1, e2, f2, sizeOf, typeInfo, hie, hse]
    rcases hv'.slice_inv with ⟨e1, e2, e3, e4⟩ | ⟨q, off, p, o', c, sp, e1, hp, e4, hn, hc, hzz, hm, hsp⟩
    · subst e1; subst e2; subst e3
      obtain ⟨M, h8, h9, h10, h11, h12⟩ := main none 0 (Nat.le_refl _)
      have z1 : M = 0 := by omega
      have z2 : nh = 0 := by omega
      have z3 : nl = 0 := by omega
      subst z1; subst z2; subst z3
      refine ⟨.slice none 0 0, ?_, .sl0⟩
      simp at h12
      simp [execOp, ho, e4, h12]
    · subst e1
      obtain ⟨M, h8, h9, h10, h11, h12⟩ := main (some ⟨p.b, o', sp⟩) c hn
      refine ⟨_, by simp only [execOp, ho, e4, Sem.run_bind, h12, Result.andThen_ok, Sem.run_pure]; rfl, ?_⟩
      simp only [subA]
      by_cases hMn : M = nl
      · rw [if_pos hMn]
        refine .slw hp (by omega) (.inl (by omega)) ?_ (by omega) (hsp.imp id (fun h => by omega))
        rcases hzz with h | h
        · exact .inl h
        · refine .inr ?_
          have : (M - nl) * z = 0 := by rw [show M - nl = 0 by omega, Nat.zero_mul]
          rw [this]
          have := Nat.zero_le (c * z)
          omega
      · rw [if_neg hMn]
        have hsp0 : sp = none := by rcases hsp with h | h; exact h; omega
        subst hsp0
        simp only [Option.map_some, addr_add]
        have hc0 : o' = p.s + off := by rcases hc with h | h; omega; exact h
        refine .sl hp (by omega) (.inr (by rw [hc0]; omega)) ?_ (by omega)
        rcases hz with h | h
        · exact .inl h
        · rcases hzz with h' | h'
          · exact .inl h'
          · refine .inr ?_
            subst h
            have e5 : nl * szOf P e + (M - nl) * szOf P e = M * szOf P e := by rw [← Nat.add_mul]; congr 1; omega
            have e6 : M * szOf P e ≤ c * szOf P e := Nat.mul_le_mul_right _ h9
            omega
  · rename_i n e ad hu
    split at h4
    · obtain ⟨hsz, h4z⟩ := need_inv h4
      obtain ⟨htop, h4a⟩ := need_inv h4z
      have htop1 : n ≤ sizeTop := of_decide_eq_true htop
      have htop' : n ≤ maxLen := by unfold sizeTop at htop1; unfold maxLen; omega
      obtain ⟨q, off, e1, h4b⟩ := adr_inv h4a
      subst e1
      obtain ⟨nh, h6, hnh⟩ := bound_inv h4b
      obtain ⟨nl, h7, hnl⟩ := bound_inv h6
      obtain ⟨ie, hie, hse⟩ := szOf_pos (P := P) (t := e) (by simpa using hsz)
      refine ⟨_, h7, fun μ a w hf => ?_⟩
      have bl := hvl μ a (slots o) (fun t ht => hsl t (.inr (.inl ht))) hf
      have bh := hvh μ a (slots o) (fun t ht => hsl t (.inr (.inr (.inl ht)))) hf
      have bm := hvm μ a (slots o) (fun t ht => hsl t (.inr (.inr (.inr ht)))) hf
      obtain ⟨p, hp, hg⟩ := (hv μ a (slots o) (fun t ht => hsl t (.inl ht)) hf).ptr_inv
      have hm0 : mx.map a.eval = none := by rcases bm with ⟨_, h⟩ | ⟨_, _, h, _⟩; exact h; cases h
      have rh := run_bound (P := P) (top' := n) w .sliceAlen bh hnh (Nat.le_refl _)
      have rl := run_bound (P := P) (top' := nh) w .sliceB bl hnl (Nat.le_refl _)
      have hnl' : nl ≤ nh := by rcases rl with ⟨_, e2⟩ | ⟨_, _, _, e3⟩ <;> omega
      have hnh' : nh ≤ n := by rcases rh with ⟨_, e2⟩ | ⟨_, _, _, e3⟩ <;> omega
      have hxe : (Instr.sliceAt t (.pointer (some ⟨p.b, p.s + off, none⟩)) (lo.map a.eval) (hi.map a.eval) none).run P w =
          .ok (.slice (some (if n = nl then ⟨p.b, p.s + off, none⟩ else ⟨p.b, p.s + off + nl * szOf P e, none⟩)) (nh - nl) (n - nl)) w := by
        rcases rh with ⟨e1, e2⟩ | ⟨y, e1, e2, e3⟩ <;> rcases rl with ⟨f1, f2⟩ | ⟨z, f1, f2, f3⟩
        · subst e2; subst f2; simp [Instr.sliceAt, Instr.sureAddr, run_underlying hu, Instr.sliceBounds, e1, f1, sizeOf, typeInfo, hie, hse, addr_add]
        · subst e2; simp [Instr.sliceAt, Instr.sureAddr, run_underlying hu, Instr.sliceBounds, e1, f1, f2, sizeOf, typeInfo, hie, hse, addr_add]
        · subst f2; simp [Instr.sliceAt, Instr.sureAddr, run_underlying hu, Instr.sliceBounds, e1, f1, e2, sizeOf, typeInfo, hie, hse, addr_add]
        · simp [Instr.sliceAt, Instr.sureAddr, run_underlying hu, Instr.sliceBounds, e1, f1, e2, f2, sizeOf, typeInfo, hie, hse, addr_add]
      refine ⟨_, by simp only [execOp, ho, hg, hm0, Sem.run_bind, hxe, Result.andThen_ok, Sem.run_pure]; rfl, ?_⟩
      by_cases hMn : n = nl
      · rw [if_pos hMn]
        exact .sl hp (by omega) (.inl (by omega)) (.inl rfl) (by omega)
      · rw [if_neg hMn]
        exact .sl hp (by omega) (.inr (by omega)) (.inl rfl) (by omega)
    · cases h4
  · cases h4
end
end Go.AM

namespace Go.AM
open Go.RowKit
variable [Laid]
section
variable {P : Program} {o : Oper} {fr : Fr} {r : Value × St}
theorem aInt_inv {op : BinOp} {k : IntKind} {x y : Int} {K : Value → Res} (t : TypeId) (h : aInt op k x y K = some r) :
    ∃ v, K v = some r ∧ (∀ μ, VRel μ v v) ∧ ∀ (k' : IntKind) (w : World), (isShift op = true ∨ k = k') → (binOp op t (.int k x) (.int k' y)).run P w = .ok v w := by
  cases op <;> simp only [aInt] at h <;>
    first
    | exact ⟨_, h, fun μ => by constructor, fun k' w hk => by rcases hk with hk | hk <;> first | (cases hk; done) | (subst hk; simp [binOp, Op.intArith, Op.intBits, Op.intCmp, ibit]; done)⟩
    | (obtain ⟨hb, h1⟩ := need_inv h
       refine ⟨_, h1, fun μ => by constructor, fun k' w hk => ?_⟩
       first
       | (rcases hk with hk | hk
          · cases hk
          · subst hk
            have hne : y ≠ 0 := by simpa using hb
            simp [binOp, Op.intDiv, hne])
       | (have hge : ¬ y < 0 := by have : 0 ≤ y := of_decide_eq_true hb; omega
          simp [binOp, Op.shift, hge]))
theorem eqGuard_int {op : BinOp} {t : TypeId} {x y : Operand} {a b : Value} (w : World) (h : (∃ k n, b = .int k n) ∨ (∃ s, b = .string s) ∨ (∃ c, b = .bool c) ∨ (∃ p, b = .pointer p) ∨ (∃ p n c, b = .slice p n c) ∨ (∃ u v, b = .iface u v)) :
    (eqGuard op t x y a b).run P w = .ok () w := by
  unfold eqGuard
  rcases h with ⟨_, _, rfl⟩ | ⟨_, rfl⟩ | ⟨_, rfl⟩ | ⟨_, rfl⟩ | ⟨_, _, _, rfl⟩ | ⟨_, _, rfl⟩ <;> cases op <;> cases a <;> rfl
theorem isEq_cases {op : BinOp} (h : isEq op = true) : op = .eql ∨ op = .neq := by cases op <;> simp_all [isEq]
theorem run_equal {t : TypeId} {x y : Value} {b : Bool} {w : World} (h : ∀ d, (Op.equalIn (d + 2) t x y).run P w = .ok b w) : (Op.equal t x y).run P w = .ok b w := h 9998
theorem eqIn_bool {t : TypeId} (a b : Bool) (w : World) (hu : P.underlying t = some .bool) : (Op.equal t (.bool a) (.bool b)).run P w = .ok (a == b) w := run_equal fun d => by simp [Op.equalIn, run_underlying hu]
theorem eqIn_ptr {t el : TypeId} (a : Option Addr) (w : World) (hu : P.underlying t = some (.pointer el)) : (Op.equal t (.pointer a) (.pointer none)).run P w = .ok a.isNone w := run_equal fun d => by cases a <;> simp [Op.equalIn, run_underlying hu]
theorem eqIn_sl {t el : TypeId} (a : Option Addr) (n c : Nat) (w : World) (hu : P.underlying t = some (.slice el)) : (Op.equal t (.slice a n c) (.slice none 0 0)).run P w = .ok a.isNone w := run_equal fun d => by cases a <;> simp [Op.equalIn, run_underlying hu]
theorem eqIn_nil {t : TypeId} {ms : Array (String × TypeId)} (w : World) (hu : P.underlying t = some (.interface ms)) : (Op.equal t .nilIface .nilIface).run P w = .ok true w := run_equal fun d => by simp [Op.equalIn, run_underlying hu]
theorem eqIn_held {t u : TypeId} {v : Value} {ms : Array (String × TypeId)} (w : World) (hu : P.underlying t = some (.interface ms)) : (Op.equal t (.iface u v) .nilIface).run P w = .ok false w := run_equal fun d => by simp [Op.equalIn, run_underlying hu]
theorem eqIn_held2 {t u : TypeId} {v : Value} {ms : Array (String × TypeId)} (w : World) (hu : P.underlying t = some (.interface ms)) : (Op.equal t .nilIface (.iface u v)).run P w = .ok false w := run_equal fun d => by simp [Op.equalIn, run_underlying hu]
theorem eqIn_other {t u u' : TypeId} {v v' : Value} {ms : Array (String × TypeId)} (w : World) (hu : P.underlying t = some (.interface ms)) (hne : u ≠ u') : (Op.equal t (.iface u v) (.iface u' v')).run P w = .ok false w := run_equal fun d => by simp [Op.equalIn, run_underlying hu, hne]
theorem eqIn_ints {t u : TypeId} {k : IntKind} {a b : Int} {i : TypeInfo} {ms : Array (String × TypeId)} (w : World) (hu : P.underlying t = some (.interface ms)) (hk : P.underlying u = some (.int k)) (hi : P.info? u = some i) (hc : i.comparable = true) :
    (Op.equal t (.iface u (.int k a)) (.iface u (.int k b))).run P w = .ok (a == b) w := run_equal fun d => by simp [Op.equalIn, run_underlying hu, run_underlying hk, typeInfo, hi, hc]
theorem eqIn_ptrs {t u te : TypeId} {a : Addr} {i j : TypeInfo} {ms : Array (String × TypeId)} (w : World) (hu : P.underlying t = some (.interface ms)) (hk : P.underlying u = some (.pointer te)) (hi : P.info? u = some i) (hc : i.comparable = true) (hj : P.info? te = some j) :
    (Op.equal t (.iface u (.pointer (some a))) (.iface u (.pointer (some a)))).run P w = .ok true w := run_equal fun d => run_equalIn_iface_ptr_same w d a hu hk hi hc hj
def eqForm : Value → Value → Bool
  | .bool _, .bool _ => true
  | .pointer _, .pointer none => true
  | .slice .., .slice .. => true
  | .nilIface, .nilIface => true
  | .nilIface, .iface .. => true
  | .iface .., .nilIface => true
  | .iface .., .iface .. => true
  | .agg _, .agg _ => true
  | _, _ => false
theorem run_binEq {op : BinOp} {t : TypeId} {x y : Value} {b : Bool} {w : World} (hop : isEq op = true) (hf : eqForm x y = true) (h : (Op.equal t x y).run P w = .ok b w) :
    (binOp op t x y).run P w = .ok (.bool (notIf op b)) w := by
  rcases isEq_cases hop with rfl | rfl <;> cases x <;> cases y <;> simp [eqForm] at hf <;> simp [binOp, h, notIf]
theorem run_bin {op : BinOp} {t : TypeId} {x y : Operand} {yt : TypeId} {a : Act} {u u' v : Value} {w : World} (ho : o.op = .binOp op t x y yt) (hx : a.eval x = u) (hy : a.eval y = u')
    (hg : (eqGuard op t x y u u').run P w = .ok () w) (hb : (binOp op t u u').run P w = .ok v w) : (execOp a.eval o).run P w = .ok (.value v) w := by
  simp [execOp, ho, hx, hy, hg, hb]
set_option maxHeartbeats 4000000 in
theorem op_binOp {op : BinOp} {x y : Operand} {t yt : TypeId} {K : Value → Res} (ho : o.op = .binOp op t x y yt) (hx : okOpnd x = true) (hy : okOpnd y = true)
    (hagg : ∀ A B, aBin P op t (isConst y) (.agg A) (.agg B) K = some r → ∃ v, K v = some r ∧ (∀ μ, VRel μ v v) ∧ ∀ (μ : Mp) (A' B' : Array Value) (w : World), LRel μ A.toList A'.toList → LRel μ B.toList B'.toList →
      (eqGuard op t x y (.agg A') (.agg B')).run P w = .ok () w ∧ (binOp op t (.agg A') (.agg B')).run P w = .ok v w)
    (h : opnd fr x (fun a => opnd fr y fun b => aBin P op t (isConst y) a b K) = some r) : ∃ v, K v = some r ∧ Reckons P o fr v := by
  obtain ⟨vx, h1, hvx⟩ := opnd_inv hx h
  obtain ⟨vy, h2, hvy⟩ := opnd_inv hy h1
  have hs : ∀ t ∈ opT x, t ∈ slots o := by intro t ht; simp only [slots, ho, Op.operands, List.flatMap_cons, List.flatMap_nil, List.append_nil, List.mem_append]; exact .inl ht
  have hs2 : ∀ t ∈ opT y, t ∈ slots o := by intro t ht; simp only [slots, ho, Op.operands, List.flatMap_cons, List.flatMap_nil, List.append_nil, List.mem_append]; exact .inr ht
  have rx := fun μ a hf => hvx μ a (slots o) hs hf
  have ry := fun μ a hf => hvy μ a (slots o) hs2 hf
  cases vy <;> try (simp only [aBin] at h2; cases h2; done)
  case int k' b =>
    simp only [aBin] at h2
    split at h2
    · rename_i k a
      cases hsh : (isShift op || decide (k = k')) with
      | false => rw [hsh] at h2; simp at h2
      | true =>
        rw [hsh] at h2
        obtain ⟨v, h3, hv, hrun⟩ := aInt_inv t (by simpa using h2)
        refine ⟨v, h3, fun μ a w hf => ⟨v, run_bin ho (rx μ a hf).int_inv (ry μ a hf).int_inv (eqGuard_int w (.inl ⟨_, _, rfl⟩)) (hrun k' w (by simpa using hsh)), hv μ⟩⟩
    · cases h2
  case string b =>
    simp only [aBin] at h2
    obtain ⟨a, e, h3⟩ := asS_inv h2
    subst e
    cases op <;> simp only at h3 <;> try (cases h3; done)
    · obtain ⟨hb, h4⟩ := need_inv h3
      have hsz : ¬ ((a.size + b.size : Nat) : Int) > IntKind.i64.max := by
        have : a.size + b.size ≤ sizeTop := of_decide_eq_true hb
        unfold sizeTop at this
        have hm : IntKind.i64.max = 9223372036854775807 := by decide
        rw [hm]; omega
      refine ⟨_, h4, fun μ ac w hf => ⟨_, run_bin ho (rx μ ac hf).string_inv (ry μ ac hf).string_inv (eqGuard_int w (.inr (.inl ⟨_, rfl⟩))) ?_, .string _⟩⟩
      rw [binOp_string_add]
      simp only [Op.stringOp, if_neg hsz, Sem.run_pure]
    · exact ⟨_, h3, fun μ ac w hf => ⟨_, run_bin ho (rx μ ac hf).string_inv (ry μ ac hf).string_inv (eqGuard_int w (.inr (.inl ⟨_, rfl⟩))) (by rw [binOp_string_eql]; rfl), .bool _⟩⟩
    · exact ⟨_, h3, fun μ ac w hf => ⟨_, run_bin ho (rx μ ac hf).string_inv (ry μ ac hf).string_inv (eqGuard_int w (.inr (.inl ⟨_, rfl⟩))) (by rw [binOp_string_neq]; rfl), .bool _⟩⟩
  case bool b =>
    simp only [aBin] at h2
    obtain ⟨a, e, h3⟩ := asB_inv h2
    subst e
    obtain ⟨hop, h4⟩ := need_inv h3
    obtain ⟨hty, h5⟩ := need_inv h4
    have hu : P.underlying t = some .bool := by split at hty; assumption; cases hty
    refine ⟨_, h5, fun μ ac w hf => ⟨_, run_bin ho (rx μ ac hf).bool_inv (ry μ ac hf).bool_inv (eqGuard_int w (.inr (.inr (.inl ⟨_, rfl⟩)))) ?_, .bool _⟩⟩
    exact run_binEq hop rfl (eqIn_bool _ _ w hu)
  case pointer p =>
    cases p with
    | some p => simp only [aBin] at h2; cases h2
    | none =>
      simp only [aBin] at h2
      obtain ⟨a, e, h3⟩ := asP_inv h2
      subst e
      obtain ⟨hop, h4⟩ := need_inv h3
      obtain ⟨hty, h5⟩ := need_inv h4
      have hu : ∃ el, P.underlying t = some (.pointer el) := by split at hty; exact ⟨_, ‹_›⟩; cases hty
      obtain ⟨el, hu⟩ := hu
      refine ⟨_, h5, fun μ ac w hf => ?_⟩
      have hrx := rx μ ac hf
      generalize hgx : ac.eval x = u at hrx
      cases hrx with
      | ptr0 =>
        refine ⟨_, run_bin ho hgx (ry μ ac hf).ptr0_inv (eqGuard_int w (.inr (.inr (.inr (.inl ⟨_, rfl⟩))))) ?_, .bool _⟩
        exact run_binEq hop rfl (eqIn_ptr _ w hu)
      | ptr hp =>
        refine ⟨_, run_bin ho hgx (ry μ ac hf).ptr0_inv (eqGuard_int w (.inr (.inr (.inr (.inl ⟨_, rfl⟩))))) ?_, .bool _⟩
        exact run_binEq hop rfl (eqIn_ptr _ w hu)
  case slice p n z =>
    cases p with
    | some p => simp only [aBin] at h2; cases h2
    | none =>
      simp only [aBin] at h2
      obtain ⟨a, m, z', e, h3⟩ := asSl_inv h2
      subst e
      obtain ⟨hop, h4⟩ := need_inv h3
      obtain ⟨hty, h5⟩ := need_inv h4
      have hu : ∃ el, P.underlying t = some (.slice el) := by split at hty; exact ⟨_, ‹_›⟩; cases hty
      obtain ⟨el, hu⟩ := hu
      refine ⟨_, h5, fun μ ac w hf => ?_⟩
      have hry : ac.eval y = .slice none 0 0 := by
        rcases (ry μ ac hf).slice_inv with ⟨_, _, _, h⟩ | ⟨_, _, _, _, _, _, h, _⟩
        · exact h
        · cases h
      rcases (rx μ ac hf).slice_inv with ⟨e1, _, _, hgx⟩ | ⟨_, _, _, _, _, _, e1, _, hgx, _⟩
      · subst e1
        refine ⟨_, run_bin ho hgx hry (eqGuard_int w (.inr (.inr (.inr (.inr (.inl ⟨_, _, _, rfl⟩)))))) ?_, .bool _⟩
        exact run_binEq hop rfl (eqIn_sl _ _ _ w hu)
      · subst e1
        refine ⟨_, run_bin ho hgx hry (eqGuard_int w (.inr (.inr (.inr (.inr (.inl ⟨_, _, _, rfl⟩)))))) ?_, .bool _⟩
        exact run_binEq hop rfl (eqIn_sl _ _ _ w hu)
  case nilIface =>
    simp only [aBin] at h2
    obtain ⟨hop, h4⟩ := need_inv h2
    obtain ⟨hty, h5⟩ := need_inv h4
    have hop' : isEq op = true ∧ isConst y = true := by simpa using hop
    have hu : ∃ ms, P.underlying t = some (.interface ms) := by split at hty; exact ⟨_, ‹_›⟩; cases hty
    obtain ⟨ms, hu⟩ := hu
    have hguard : ∀ (u : Value) (w : World), (eqGuard op t x y u .nilIface).run P w = .ok () w := by
      intro u w
      unfold eqGuard
      cases y <;> simp [isConst] at hop'
      cases op <;> cases u <;> first | rfl | (cases x <;> rfl)
    rcases eqNil_inv h5 with ⟨e, h6⟩ | ⟨tt, u, e, h6⟩
    · subst e
      refine ⟨_, h6, fun μ ac w hf => ⟨_, run_bin ho (rx μ ac hf).nilIface_inv (ry μ ac hf).nilIface_inv (hguard _ w) ?_, .bool _⟩⟩
      exact run_binEq hop'.1 rfl (eqIn_nil w hu)
    · subst e
      refine ⟨_, h6, fun μ ac w hf => ?_⟩
      obtain ⟨u', hgx, _⟩ := (rx μ ac hf).iface_inv
      refine ⟨_, run_bin ho hgx (ry μ ac hf).nilIface_inv (hguard _ w) ?_, .bool _⟩
      exact run_binEq hop'.1 rfl (eqIn_held w hu)
  case iface t' u =>
    simp only [aBin] at h2
    cases u <;> try (cases h2; done)
    case int k c =>
      obtain ⟨hop, h4⟩ := need_inv h2
      obtain ⟨hty, h5⟩ := need_inv h4
      have hu : ∃ ms i, P.underlying t = some (.interface ms) ∧ P.underlying t' = some (.int k) ∧ P.info? t' = some i ∧ i.comparable = true := by
        split at hty
        · rename_i ms k' i h1 h2 h3
          have : i.comparable = true ∧ k = k' := by simpa using hty
          obtain ⟨h4, h5⟩ := this
          subst h5
          exact ⟨ms, i, h1, h2, h3, h4⟩
        · cases hty
      obtain ⟨ms, i, hu, hu', hi, hcmp⟩ := hu
      rcases eqErr_inv h5 with ⟨e, h6⟩ | ⟨n, e, h6⟩ | ⟨t2, u2, e, hne, h6⟩
      · subst e
        refine ⟨_, h6, fun μ ac w hf => ?_⟩
        obtain ⟨u', hgy, hu'⟩ := (ry μ ac hf).iface_inv
        refine ⟨_, run_bin ho (rx μ ac hf).nilIface_inv hgy (eqGuard_int w (.inr (.inr (.inr (.inr (.inr ⟨_, _, rfl⟩)))))) ?_, .bool _⟩
        exact run_binEq hop rfl (eqIn_held2 w hu)
      · subst e
        refine ⟨_, h6, fun μ ac w hf => ?_⟩
        obtain ⟨u', hgy, hr⟩ := (ry μ ac hf).iface_inv
        obtain ⟨u2, hgx, hr2⟩ := (rx μ ac hf).iface_inv
        rw [hr.int_inv] at hgy
        rw [hr2.int_inv] at hgx
        refine ⟨_, run_bin ho hgx hgy (eqGuard_int w (.inr (.inr (.inr (.inr (.inr ⟨_, _, rfl⟩)))))) ?_, .bool _⟩
        exact run_binEq hop rfl (eqIn_ints w hu hu' hi hcmp)
      · subst e
        refine ⟨_, h6, fun μ ac w hf => ?_⟩
        obtain ⟨u', hgy, hr⟩ := (ry μ ac hf).iface_inv
        obtain ⟨u2, hgx, hr2⟩ := (rx μ ac hf).iface_inv
        refine ⟨_, run_bin ho hgx hgy (eqGuard_int w (.inr (.inr (.inr (.inr (.inr ⟨_, _, rfl⟩)))))) ?_, .bool _⟩
        exact run_binEq hop rfl (eqIn_other w hu hne)
    case pointer pb =>
      cases pb with
      | none => cases h2
      | some b =>
      obtain ⟨hop, h4⟩ := need_inv h2
      obtain ⟨hty, h5⟩ := need_inv h4
      have hu : ∃ ms te i j, P.underlying t = some (.interface ms) ∧ P.underlying t' = some (.pointer te) ∧ P.info? t' = some i ∧ i.comparable = true ∧ P.info? te = some j := by
        split at hty
        · rename_i ms te i h1 h2 h3
          have : i.comparable = true ∧ (P.info? te).isSome = true := by simpa using hty
          obtain ⟨h4, h5⟩ := this
          obtain ⟨j, hj⟩ := Option.isSome_iff_exists.1 h5
          exact ⟨ms, te, i, j, h1, h2, h3, h4, hj⟩
        · cases hty
      obtain ⟨ms, te, i, j, hu, hu', hi, hcmp, hj⟩ := hu
      rcases eqPtr_inv h5 with ⟨e, h6⟩ | ⟨q, o', e, e2, h6⟩ | ⟨t2, u2, e, hne, h6⟩
      · subst e
        refine ⟨_, h6, fun μ ac w hf => ?_⟩
        obtain ⟨u', hgy, hu'⟩ := (ry μ ac hf).iface_inv
        refine ⟨_, run_bin ho (rx μ ac hf).nilIface_inv hgy (eqGuard_int w (.inr (.inr (.inr (.inr (.inr ⟨_, _, rfl⟩)))))) ?_, .bool _⟩
        exact run_binEq hop rfl (eqIn_held2 w hu)
      · subst e; subst e2
        refine ⟨_, h6, fun μ ac w hf => ?_⟩
        obtain ⟨u', hgy, hr⟩ := (ry μ ac hf).iface_inv
        obtain ⟨u2, hgx, hr2⟩ := (rx μ ac hf).iface_inv
        obtain ⟨p1, hp1, e1⟩ := hr.ptr_inv
        obtain ⟨p2, hp2, e2⟩ := hr2.ptr_inv
        rw [hp1] at hp2
        cases hp2
        rw [e1] at hgy
        rw [e2] at hgx
        refine ⟨_, run_bin ho hgx hgy (eqGuard_int w (.inr (.inr (.inr (.inr (.inr ⟨_, _, rfl⟩)))))) ?_, .bool _⟩
        exact run_binEq hop rfl (eqIn_ptrs w hu hu' hi hcmp hj)
      · subst e
        refine ⟨_, h6, fun μ ac w hf => ?_⟩
        obtain ⟨u', hgy, hr⟩ := (ry μ ac hf).iface_inv
        obtain ⟨u2, hgx, hr2⟩ := (rx μ ac hf).iface_inv
        refine ⟨_, run_bin ho hgx hgy (eqGuard_int w (.inr (.inr (.inr (.inr (.inr ⟨_, _, rfl⟩)))))) ?_, .bool _⟩
        exact run_binEq hop rfl (eqIn_other w hu hne)
  case agg B =>
    have h2' := h2
    simp only [aBin] at h2
    cases vx <;> try (simp only [asAgL] at h2; cases h2; done)
    case agg A =>
      obtain ⟨v, h3, hv, hrun⟩ := hagg A B h2'
      refine ⟨v, h3, fun μ ac w hf => ?_⟩
      obtain ⟨A', hgx, hA⟩ := (rx μ ac hf).agg_inv
      obtain ⟨B', hgy, hB⟩ := (ry μ ac hf).agg_inv
      obtain ⟨g1, g2⟩ := hrun μ A' B' w hA hB
      exact ⟨v, run_bin ho hgx hgy g1 g2, hv μ⟩
end
end Go.AM

namespace Go.AM
open Go.RowKit
variable [Laid]
section
variable {P : Program} {o : Oper} {fr : Fr} {r : Value × St}
theorem slots1 {x : Operand} (h : o.op.operands = #[x]) : ∀ t ∈ opT x, t ∈ slots o := by intro t ht; simp only [slots, h]; simpa using ht
theorem slots2a {x y : Operand} (h : o.op.operands = #[x, y]) : ∀ t ∈ opT x, t ∈ slots o := by intro t ht; simp only [slots, h, List.flatMap_cons, List.flatMap_nil, List.append_nil, List.mem_append]; exact .inl ht
theorem slots2b {x y : Operand} (h : o.op.operands = #[x, y]) : ∀ t ∈ opT y, t ∈ slots o := by intro t ht; simp only [slots, h, List.flatMap_cons, List.flatMap_nil, List.append_nil, List.mem_append]; exact .inr ht
theorem op_alloc {t : TypeId} {σ : St} {K : Value → St → Res} (ho : o.op = .alloc t)
    (h : (match zeroOf P t with | some z => K (.pointer (some ⟨σ.next, 0, none⟩)) (σ.new (.own (Value.cellsL z) t)) | none => none) = some r) :
    ∃ v σ', K v σ' = some r ∧ Ran P o fr σ v σ' := by
  split at h
  · rename_i z hz
    obtain ⟨i, hi, hiz, hp⟩ := zeroOf_inv hz
    refine ⟨_, _, h, fun W μ a w hf hr => ?_⟩
    have hcl := (plain_rel μ z hp).cells
    obtain ⟨h1, h2⟩ := hr.new z.cells t (Value.cellsL z) (by rw [hcl.1]; simp) (fun j v hj => by obtain ⟨v', h3, h4⟩ := hcl.get hj; exact ⟨v', by simpa using h3, h4⟩)
    refine ⟨.value (.pointer (some ⟨w.heap.size, 0, none⟩)), _, _, _, ?_, .inl rfl, h1, ?_, h2⟩
    · simp [execOp, ho, Instr.alloc, zeroValue, typeInfo, hi, hiz, newVar, newRow]
    · have : (μ.put σ.next ⟨w.heap.size, 0, z.cells.size⟩) σ.next = some ⟨w.heap.size, 0, z.cells.size⟩ := by simp [Mp.put]
      exact .ptr this
  · cases h
theorem op_box {x : Operand} {t : TypeId} {σ : St} {K : Value → St → Res} (ho : o.op = .box t x) (hx : okOpnd x = true)
    (h : opnd fr x (fun v => K (.pointer (some ⟨σ.next, 0, none⟩)) (σ.new (.own (Value.cellsL v) t))) = some r) : ∃ v σ', K v σ' = some r ∧ Ran P o fr σ v σ' := by
  obtain ⟨v, h1, hv⟩ := opnd_inv hx h
  refine ⟨_, _, h1, fun W μ a w hf hr => ?_⟩
  have hcl := (hv μ a (slots o) (slots1 (by rw [ho]; rfl)) hf).cells
  obtain ⟨h2, h3⟩ := hr.new (a.eval x).cells t (Value.cellsL v) (by rw [hcl.1]; simp) (fun j u hj => by obtain ⟨v', h3, h4⟩ := hcl.get hj; exact ⟨v', by simpa using h3, h4⟩)
  refine ⟨.value (.pointer (some ⟨w.heap.size, 0, none⟩)), _, _, _, ?_, .inl rfl, h2, ?_, h3⟩
  · simp [execOp, ho, Instr.box, newVar, newRow]
  · have : (μ.put σ.next ⟨w.heap.size, 0, (a.eval x).cells.size⟩) σ.next = some ⟨w.heap.size, 0, (a.eval x).cells.size⟩ := by simp [Mp.put]
    exact .ptr this
theorem foldl_over (off : Nat) : ∀ (l : List Value) (k : Nat) (A : Array Value), off + k + l.length ≤ A.size →
    ((l.zipIdx k).foldl (fun cs (x : Value × Nat) => cs.setIfInBounds (off + x.2) x.1) A).toList = A.toList.take (off + k) ++ l ++ A.toList.drop (off + k + l.length)
  | [], k, A, _ => by simp
  | v :: l, k, A, h => by
    simp only [List.zipIdx_cons, List.foldl_cons]
    rw [foldl_over off l (k + 1) _ (by simp at h ⊢; omega)]
    have e := list_seg_step A.toList (off + k) v l (by simp at h ⊢; omega)
    simpa [Array.toList_setIfInBounds, Nat.add_assoc] using e
theorem over_rel {μ : Mp} {a a' b b' : List Value} (ha : LRel μ a a') (hb : LRel μ b b') (o : Nat) : LRel μ (over a o b) (over a' o b') := by
  unfold over
  rw [← hb.1]
  exact ((ha.take o).append hb).append (ha.drop _)
def PRel (μ : Mp) (l l' : List (Nat × Value)) : Prop := l.map (·.1) = l'.map (·.1) ∧ LRel μ (l.map (·.2)) (l'.map (·.2))
theorem fill_rel {μ : Mp} {place : Nat → Option (Nat × Nat)} : ∀ {ps ps' : List (Nat × Value)} {cs : List Value} {A : Array Value} {out : List Value}, PRel μ ps ps' → LRel μ cs A.toList → fillL place cs ps = some out →
    ∃ B, Instr.fill place A ps' = some B ∧ LRel μ out B.toList
  | [], ps', cs, A, out, hp, hc, h => by
    have : ps' = [] := by have := hp.1; simpa using this
    subst this
    simp only [fillL, Option.some.injEq] at h
    subst h
    exact ⟨A, rfl, hc⟩
  | (i, v) :: ps, ps', cs, A, out, hp, hc, h => by
    cases ps' with
    | nil => have := hp.1; simp at this
    | cons q ps' =>
      obtain ⟨j, v'⟩ := q
      have hj : i = j := by have := hp.1; simp at this; exact this.1
      subst hj
      obtain ⟨_, _, he, hv, hl⟩ := hp.2.inv
      simp only [List.map_cons, List.cons.injEq] at he
      obtain ⟨e1, e2⟩ := he
      subst e1; subst e2
      have hp' : PRel μ ps ps' := ⟨by have := hp.1; simp at this; exact this, hl⟩
      simp only [fillL] at h
      split at h
      · cases h
      · rename_i off size hpl
        cases hb : (Nat.beq (Value.cellsL v).length size && decide (off + (Value.cellsL v).length ≤ cs.length)) with
        | false => rw [hb] at h; simp at h
        | true =>
          rw [hb] at h
          simp only [cond_true] at h
          have hb' : (Value.cellsL v).length = size ∧ off + (Value.cellsL v).length ≤ cs.length := by
            simp only [Bool.and_eq_true, decide_eq_true_eq] at hb
            exact ⟨Nat.eq_of_beq_eq_true hb.1, hb.2⟩
          have hcl := hv.cells
          have hlen : v'.cells.size = size := by rw [← hb'.1, hcl.1]; simp
          have hA : A.size = cs.length := by rw [hc.1]; simp
          have e : (v'.cells.zipIdx.foldl (fun cs (x : Value × Nat) => cs.setIfInBounds (off + x.2) x.1) A).toList = over A.toList off v'.cells.toList := by
            rw [← Array.foldl_toList, Array.toList_zipIdx]
            rw [foldl_over off v'.cells.toList 0 A (by simp [hlen]; omega)]
            simp [over]
          obtain ⟨B, h5, h6⟩ := fill_rel (A := v'.cells.zipIdx.foldl (fun cs (x : Value × Nat) => cs.setIfInBounds (off + x.2) x.1) A) hp' (by rw [e]; exact over_rel hc hcl off) h
          refine ⟨B, ?_, h6⟩
          simp only [Instr.fill, hpl]
          rw [if_neg (by simp [hlen]; omega)]
          exact h5
theorem fillK_inv {pl : Nat → Option (Nat × Nat × Bool)} {K : List Value → Res} : ∀ {l : List (Nat × Value)} {cells : List Value}, fillK pl cells l K = some r → ∃ cs, fillL (fun i => (pl i).map fun x => (x.1, x.2.1)) cells l = some cs ∧ K cs = some r
  | [], cells, h => ⟨cells, rfl, h⟩
  | (i, v) :: rest, cells, h => by
    simp only [fillK] at h
    split at h
    · cases h
    · rename_i off size ag hp
      cases ag with
      | true =>
        rw [cond_true] at h
        obtain ⟨A, e, h1⟩ := asAgL_inv h
        subst e
        obtain ⟨h2, h3⟩ := need_inv h1
        obtain ⟨h4, h5⟩ := need_inv h3
        obtain ⟨cs, h6, h7⟩ := fillK_inv h5
        refine ⟨cs, ?_, h7⟩
        have h8 : off + A.toList.length ≤ cells.length := by simpa using h4
        simp only [fillL, hp, Option.map_some]
        have h9 : (Nat.beq (Value.cellsL (.agg A)).length size && decide (off + (Value.cellsL (.agg A)).length ≤ cells.length)) = true := by
          rw [Bool.and_eq_true]; exact ⟨h2, decide_eq_true h8⟩
        rw [h9]; exact h6
      | false =>
        rw [cond_false] at h
        obtain ⟨h1, h2⟩ := need_inv h
        obtain ⟨h3, h4⟩ := need_inv h2
        obtain ⟨h5, h6⟩ := need_inv h4
        obtain ⟨cs, h7, h8⟩ := fillK_inv h6
        refine ⟨cs, ?_, h8⟩
        have hcl : Value.cellsL v = [v] := by cases v <;> first | rfl | (simp [oneCell] at h1)
        have h10 : off + 1 ≤ cells.length := by simpa using h5
        simp only [fillL, hp, Option.map_some, hcl]
        have h9 : (Nat.beq [v].length size && decide (off + [v].length ≤ cells.length)) = true := by
          rw [Bool.and_eq_true]; exact ⟨h3, decide_eq_true h10⟩
        rw [h9]; exact h7
theorem opndPs_inv : ∀ {l : List (Nat × Operand)} {K : List (Nat × Value) → Res}, (l.map (·.2)).all okOpnd = true → opndPs fr l K = some r →
    ∃ vs, K vs = some r ∧ ∀ (μ : Mp) (a : Act) (S : List Nat), (∀ t ∈ (l.map (·.2)).flatMap opT, t ∈ S) → FrOn μ fr a S → PRel μ vs (l.map fun x => (x.1, a.eval x.2))
  | [], K, _, h => ⟨[], h, fun μ a S _ _ => ⟨rfl, .nil μ⟩⟩
  | (i, x) :: l, K, hx, h => by
    simp only [List.map_cons, List.all_cons, Bool.and_eq_true] at hx
    simp only [opndPs] at h
    obtain ⟨v, h1, hv⟩ := opnd_inv hx.1 h
    obtain ⟨vs, h2, hvs⟩ := opndPs_inv hx.2 h1
    refine ⟨(i, v) :: vs, h2, fun μ a S hs hf => ?_⟩
    have g1 := hv μ a S (fun t ht => hs t (by simp [ht])) hf
    have g2 := hvs μ a S (fun t ht => hs t (by simp only [List.map_cons, List.flatMap_cons, List.mem_append]; exact .inr ht)) hf
    exact ⟨by simp [g2.1], .cons g1 g2.2⟩
theorem op_build {t : TypeId} {ps : Array (Nat × Operand)} {K : Value → Res} (ho : o.op = .build t ps) (hx : (ps.toList.map (·.2)).all okOpnd = true)
    (hfs : ∀ fs, P.underlying t = some (.struct fs) → ∀ (i : Nat) (f : Field), fs[i]? = some f → (P.info? f.type).isSome = true) (hae : ∀ n e, P.underlying t = some (.array n e) → (P.info? e).isSome = true)
    (h : opndPs fr ps.toList (fun l => aBuild P t l K) = some r) : ∃ v, K v = some r ∧ Reckons P o fr v := by
  obtain ⟨vs, h1, hvs⟩ := opndPs_inv hx h
  unfold aBuild at h1
  split at h1
  · cases h1
  · rename_i z hz
    obtain ⟨iz, hi, hiz, hp⟩ := zeroOf_inv hz
    have hs : ∀ t ∈ (ps.toList.map (·.2)).flatMap opT, t ∈ slots o := by intro t ht; simp only [slots, ho, Op.operands]; simpa using ht
    split at h1
    · rename_i fs hu
      obtain ⟨cs, hcs0, h1⟩ := fillK_inv h1
      have hcs : fillL (fun i => (fs[i]?).map fun f => (f.offset, szOf P f.type)) (Value.cellsL z) vs = some cs := by
        rw [← hcs0]; congr 1; funext i; cases fs[i]? <;> rfl
      · refine ⟨_, h1, fun μ a w hf => ?_⟩
        have hpr := hvs μ a (slots o) hs hf
        obtain ⟨B, hB, hl⟩ := fill_rel hpr (plain_rel μ z hp).cells hcs
        refine ⟨.agg B, ?_, LRel.agg (by simpa using hl)⟩
        have hplaces : ∃ places, fs.toList.mapM (fun f => (P.info? f.type).map fun i => (f.offset, i.size)) = some places ∧ ∀ i : Nat, places[i]? = (fs[i]?).map fun f => (f.offset, szOf P f.type) := by
          have : ∀ l : List Field, (∀ f ∈ l, (P.info? f.type).isSome = true) → ∃ places, l.mapM (fun f => (P.info? f.type).map fun i => (f.offset, i.size)) = some places ∧ ∀ i : Nat, places[i]? = (l[i]?).map fun f => (f.offset, szOf P f.type) := by
            intro l
            induction l with
            | nil => intro _; exact ⟨[], by simp, by simp⟩
            | cons f l ih =>
              intro hl
              obtain ⟨pl, h1, h2⟩ := ih (fun g hg => hl g (by simp [hg]))
              obtain ⟨fi, hfi⟩ := Option.isSome_iff_exists.1 (hl f (by simp))
              refine ⟨(f.offset, fi.size) :: pl, by simp [List.mapM_cons, hfi, h1], fun i => ?_⟩
              cases i with
              | zero => simp [szOf_eq hfi]
              | succ i => simpa using h2 i
          obtain ⟨pl, h1, h2⟩ := this fs.toList (fun f hf => by
            obtain ⟨i, hi, rfl⟩ := List.getElem_of_mem hf
            exact hfs fs hu i _ (by simp at hi; simp [hi]))
          exact ⟨pl, h1, fun i => by rw [h2 i]; simp⟩
        obtain ⟨places, hpl, hpl2⟩ := hplaces
        have hfun : (fun (i : Nat) => (fs[i]?).map fun f => (f.offset, szOf P f.type)) = (fun i => places.toArray[i]?) := by funext i; simp [hpl2 i]
        have hrun := run_build (P := P) w t (ps.map fun x => (x.1, a.eval x.2)) B (by
          unfold Program.built
          simp only [hi, hu, hiz, hpl]
          rw [hfun] at hB
          simpa using hB)
        simp [execOp, ho, hrun]
    · rename_i n e hu
      obtain ⟨cs, hcs0, h1⟩ := fillK_inv h1
      have hcs : fillL (fun i => some (i * szOf P e, szOf P e)) (Value.cellsL z) vs = some cs := hcs0
      · refine ⟨_, h1, fun μ a w hf => ?_⟩
        have hpr := hvs μ a (slots o) hs hf
        obtain ⟨B, hB, hl⟩ := fill_rel hpr (plain_rel μ z hp).cells hcs
        refine ⟨.agg B, ?_, LRel.agg (by simpa using hl)⟩
        obtain ⟨ie, hie⟩ := Option.isSome_iff_exists.1 (hae n e hu)
        have hrun := run_build (P := P) w t (ps.map fun x => (x.1, a.eval x.2)) B (by
          unfold Program.built
          simp only [hi, hu, hiz, hie]
          rw [szOf_eq hie] at hB
          simpa using hB)
        simp [execOp, ho, hrun]
    · cases h1
def aggD (d : TypeDesc) : Bool := match d with | .struct _ => true | .array _ _ => true | _ => false
theorem isAgg_run {t : TypeId} (w : World) {d : TypeDesc} (hu : P.underlying t = some d) : (isAgg t).run P w = .ok (aggD d) w := by
  unfold isAgg
  rw [Sem.run_bind, run_underlying hu w]
  cases d <;> rfl
theorem loadVar_one {t : TypeId} {w : World} {ad : Addr} {v : Value} {d : TypeDesc} (hu : P.underlying t = some d) (hd : aggD d = false) (hv : w.cell? ad = some v) :
    (loadVar t ad).run P w = .ok v w := by
  simp only [loadVar, Sem.run_bind, isAgg_run w hu, hd, Result.andThen_ok, Bool.false_eq_true, if_false]
  simp [hv]
theorem loadVar_many {t : TypeId} {w : World} {b s : Nat} {cs : List Value} {d : TypeDesc} {i : TypeInfo} (hu : P.underlying t = some d) (hd : aggD d = true) (hi : P.info? t = some i)
    (hlen : cs.length = i.size) (hc : ∀ j v, cs[j]? = some v → w.cell? ⟨b, s + j, none⟩ = some v) : (loadVar t ⟨b, s, none⟩).run P w = .ok (.agg cs.toArray) w := by
  have hl := run_loadCells_list (P := P) w ⟨b, s, none⟩ cs (fun j v hv => by rw [addr_add]; exact hc j v hv)
  rw [hlen] at hl
  simp only [loadVar, Sem.run_bind, isAgg_run w hu, hd, Result.andThen_ok, if_true]
  simp [sizeOf, typeInfo, hi, hl]
theorem Rel.many {W : Base} {μ : Mp} {σ : St} {w : World} (h : Rel W μ σ w) {q o n : Nat} {vs : List Value} (hq : σ.cells q = some vs) (hn : o + n ≤ vs.length) :
    ∃ p cs', μ q = some p ∧ LRel μ ((vs.drop o).take n) cs' ∧ cs'.length = n ∧ ∀ j v, cs'[j]? = some v → w.cell? ⟨p.b, p.s + o + j, none⟩ = some v := by
  obtain ⟨p, hp, hc⟩ := h.cells hq
  refine ⟨p, (List.range n).map fun j => (w.cell? ⟨p.b, p.s + o + j, none⟩).getD undef, hp, .of (by simp; omega) ?_, by simp, ?_⟩
  · intro i x hx
    have hin : i < n := by
      have := (List.getElem?_eq_some_iff.1 hx).1
      simp at this; omega
    rw [List.getElem?_take, if_pos hin, List.getElem?_drop] at hx
    obtain ⟨v', h1, h2⟩ := hc (o + i) x hx
    refine ⟨v', ?_, h2⟩
    rw [List.getElem?_map, List.getElem?_range hin, ← Nat.add_assoc] at *
    simp [h1]
  · intro j v hv
    have hjn : j < n := by
      have := (List.getElem?_eq_some_iff.1 hv).1
      simpa using this
    rw [List.getElem?_map, List.getElem?_range hjn] at hv
    simp only [Option.map_some, Option.some.injEq] at hv
    obtain ⟨v', h1, h2⟩ := hc (o + j) (vs[o + j]'(by omega)) (List.getElem?_eq_getElem (by omega))
    rw [← Nat.add_assoc] at h1
    rw [h1] at hv ⊢
    simp at hv
    rw [hv]
theorem aLoad_inv {t : TypeId} {σ : St} {q off : Nat} {K : Value → Res} (h : aLoad P t σ q off K = some r) :
    ∃ v, K v = some r ∧ ∀ (W : Base) (μ : Mp) (w : World) (p : Pl), Rel W μ σ w → μ q = some p → ∃ v', (loadVar t ⟨p.b, p.s + off, none⟩).run P w = .ok v' w ∧ VRel μ v v' := by
  unfold aLoad at h
  split at h
  · rename_i n ks hk
    obtain ⟨vs, hvs, hn, h10⟩ := lds_inv h
    have h1 := dstrL_inv h10
    have hd : ∃ d, P.underlying t = some d ∧ aggD d = true ∧ n = szOf P t := by
      unfold kd at hk
      split at hk <;> try (cases hk; done)
      · cases hk; exact ⟨_, ‹_›, rfl, rfl⟩
      · cases hk; exact ⟨_, ‹_›, rfl, rfl⟩
    obtain ⟨d, hu, hdd, hnn⟩ := hd
    obtain ⟨i, hi⟩ := info_of hu
    refine ⟨_, h1, fun W μ w p hr hp => ?_⟩
    obtain ⟨p', cs', hp', hl, hlen, hc⟩ := hr.many hvs hn
    rw [hp] at hp'
    cases hp'
    exact ⟨.agg cs'.toArray, loadVar_many hu hdd hi (by rw [hlen, hnn, szOf_eq hi]) hc, LRel.agg (by simpa using hl)⟩
  · cases h
  · rename_i k hk1 hk2
    obtain ⟨v, hv, h1⟩ := ld_inv h
    have hd : ∃ d, P.underlying t = some d ∧ aggD d = false := by
      cases hu : P.underlying t with
      | none => simp [kd, hu, dstr1, dstr0] at h1
      | some d =>
        refine ⟨d, rfl, ?_⟩
        cases d <;> first | rfl | (exfalso; simp [kd, hu] at hk1)
    obtain ⟨d, hu, hdd⟩ := hd
    refine ⟨v, dstr1_inv h1, fun W μ w p hr hp => ?_⟩
    unfold St.cell at hv
    cases hcs : σ.cells q with
    | none => rw [hcs] at hv; cases hv
    | some vs =>
      rw [hcs] at hv
      obtain ⟨p', hp', hc⟩ := hr.cells hcs
      rw [hp] at hp'
      cases hp'
      obtain ⟨v', h2, h3⟩ := hc off v (by simpa using hv)
      exact ⟨v', loadVar_one hu hdd h2, h3⟩
theorem op_load {x : Operand} {t : TypeId} {σ : St} {K : Value → Res} (ho : o.op = .load t x) (hx : okOpnd x = true)
    (h : opnd fr x (fun v => asP v fun a => adr a fun q off => aLoad P t σ q off K) = some r) : ∃ v, K v = some r ∧ Ran P o fr σ v σ := by
  obtain ⟨v, h1, hv⟩ := opnd_inv hx h
  obtain ⟨ad, e1, h2⟩ := asP_inv h1
  subst e1
  obtain ⟨q, off, e2, h3⟩ := adr_inv h2
  subst e2
  obtain ⟨u, h4, hu⟩ := aLoad_inv h3
  refine ⟨u, h4, fun W μ a w hf hr => ?_⟩
  obtain ⟨p, hp, hg⟩ := (hv μ a (slots o) (slots1 (by rw [ho]; rfl)) hf).ptr_inv
  obtain ⟨v', h5, h6⟩ := hu W μ w p hr hp
  exact ⟨.value v', v', w, μ, by simp [execOp, ho, hg, Instr.loadAt, Instr.sureAddr, h5], .inl rfl, Mp.le.refl μ, h6, hr⟩
theorem put_inv {σ : St} {q off : Nat} {new : List Value} {K : St → Res} (h : σ.put q off new K = some r) :
    ∃ vs e, σ.get q = some (.own vs e) ∧ off + new.length ≤ vs.length ∧ new.all oneCell = true ∧ K (σ.set q (.own (over vs off new) e)) = some r := by
  unfold St.put at h
  split at h
  · split at h
    · rename_i vs e hg hc
      exact ⟨vs, e, hg, hc.1, hc.2, h⟩
    · cases h
  · cases h
theorem over_length {vs : List Value} {o : Nat} {new : List Value} (h : o + new.length ≤ vs.length) : (over vs o new).length = vs.length := by simp [over]; omega
theorem Rel.put {W : Base} {μ : Mp} {σ : St} {w : World} (hr : Rel W μ σ w) {q off : Nat} {vs new new' : List Value} {e : TypeId} (hg : σ.get q = some (.own vs e)) (hl : off + new.length ≤ vs.length) (hn : LRel μ new new') :
    ∃ p cur, μ q = some p ∧ w.heap[p.b]? = some (.cells cur e (0, 0)) ∧ p.s + off + new'.length ≤ cur.size ∧
      Rel W μ (σ.set q (.own (over vs off new) e)) (w.setRow p.b (cur.toList.take (p.s + off) ++ new' ++ cur.toList.drop (p.s + off + new'.length)).toArray) := by
  obtain ⟨p, cur, hp, hWb, hc, hs, hle, hv⟩ := hr.own q vs e hg
  have hnl := hn.1
  refine ⟨p, cur, hp, hc, by omega, ?_⟩
  refine hr.setRow hg rfl hp hWb hc _ _ (by simp; omega) (by rw [over_length hl]; exact hle) ?_
  intro i v hi
  simp only [over] at hi
  simp only [List.getElem?_toArray]
  by_cases h1 : i < off
  · have h3 : i < (vs.take off).length := by simp; omega
    rw [List.append_assoc, List.getElem?_append_left h3, List.getElem?_take, if_pos h1] at hi
    obtain ⟨v', h4, h5⟩ := hv i v hi
    refine ⟨v', ?_, h5⟩
    rw [List.append_assoc, List.getElem?_append_left (by simp; omega), List.getElem?_take, if_pos (by omega)]
    simpa using h4
  · by_cases h2 : i < off + new.length
    · have e1 : (vs.take off).length = off := by simp; omega
      rw [List.append_assoc, List.getElem?_append_right (by omega), e1, List.getElem?_append_left (by omega)] at hi
      obtain ⟨v', h4, h5⟩ := hn.get hi
      refine ⟨v', ?_, h5⟩
      have e2 : (cur.toList.take (p.s + off)).length = p.s + off := by simp; omega
      rw [List.append_assoc, List.getElem?_append_right (by omega), e2, List.getElem?_append_left (by omega), show p.s + i - (p.s + off) = i - off by omega]
      exact h4
    · have e1 : (vs.take off ++ new).length = off + new.length := by simp; omega
      rw [List.getElem?_append_right (by omega), e1, List.getElem?_drop, show off + new.length + (i - (off + new.length)) = i by omega] at hi
      obtain ⟨v', h4, h5⟩ := hv i v hi
      refine ⟨v', ?_, h5⟩
      have e2 : (cur.toList.take (p.s + off) ++ new').length = p.s + off + new'.length := by simp; omega
      rw [List.getElem?_append_right (by omega), e2, List.getElem?_drop, show p.s + off + new'.length + (p.s + i - (p.s + off + new'.length)) = p.s + i by omega]
      simpa using h4
theorem op_store {x y : Operand} {t : TypeId} {σ : St} {K : Value → St → Res} (ho : o.op = .store t x y) (hx : okOpnd x = true) (hy : okOpnd y = true) (hi : (P.info? t).isSome = true)
    (h : opnd fr x (fun v => asP v fun a => adr a fun q off => opnd fr y fun u => aStore P t σ q off u fun σ' => K undef σ') = some r) : ∃ v σ', K v σ' = some r ∧ Ran P o fr σ v σ' := by
  obtain ⟨v, h1, hv⟩ := opnd_inv hx h
  obtain ⟨ad, e1, h2⟩ := asP_inv h1
  subst e1
  obtain ⟨q, off, e2, h3⟩ := adr_inv h2
  subst e2
  obtain ⟨u, h4, hu⟩ := opnd_inv hy h3
  unfold aStore at h4
  obtain ⟨hb, h5⟩ := need_inv h4
  obtain ⟨vs, e, hg, hl, hone, h6⟩ := put_inv h5
  obtain ⟨ti, hti⟩ := Option.isSome_iff_exists.1 hi
  refine ⟨undef, _, h6, fun W μ a w hf hr => ?_⟩
  obtain ⟨p, hp, hgx⟩ := (hv μ a (slots o) (slots2a (by rw [ho]; rfl)) hf).ptr_inv
  have hry := hu μ a (slots o) (slots2b (by rw [ho]; rfl)) hf
  have hcl := hry.cells
  obtain ⟨p', cur, hp', hc, hfit, hrel⟩ := hr.put hg hl hcl
  rw [hp] at hp'
  cases hp'
  refine ⟨.skip, undef, _, μ, ?_, .inr ⟨rfl, rfl⟩, Mp.le.refl μ, .undef μ, hrel⟩
  have hst := run_storeCells_at P p.b (p.s + off) e (a.eval y).cells.toList 0 cur w hc (by simpa using hfit) (hcl.oneCells hone)
  have hsz : (a.eval y).cells.size = ti.size := by
    have := Nat.eq_of_beq_eq_true hb
    rw [szOf_eq hti, hcl.1] at this
    simpa using this
  simp only [Nat.add_zero] at hst
  simp [execOp, ho, hgx, Instr.storeAt, Instr.sureAddr, storeVar, sizeOf, typeInfo, hti, hsz, hst]
end
end Go.AM
